/- A scan keeps step with the bytes of its last character; what is read so far is valid or not: plain words. -/
import Derived.Test.YtalaedpiimdcbaaSrcStep
import Derived.Test.YtalaedpiimdcbaaSrcOneF
import Derived.Test.YtalaedpiimdcbaaSrcRunesF
import Derived.Test.YtalaedpiimdcbaaSrcDecF
namespace Go.Proofs.Ytalaedpiimdcbaa.Srcw
open Go.RowKit Go.Lib
set_option linter.unusedVariables false
set_option linter.unusedSimpArgs false
/-- May b1 stand behind b0? -/
def lohi (b0 b1 : Nat) : Prop := 128 ≤ b1 ∧ b1 < 192 ∧ (b0 = 224 → 160 ≤ b1) ∧ (b0 = 237 → b1 < 160) ∧ (b0 = 240 → 144 ≤ b1) ∧ (b0 = 244 → b1 < 144)
instance (b0 b1 : Nat) : Decidable (lohi b0 b1) := by unfold lohi; infer_instance
/-- Can n bytes be the beginning of one character, or the whole of it? -/
def okN (n b0 b1 b2 b3 : Nat) : Prop :=
  (n = 1 ∧ (b0 < 128 ∨ (194 ≤ b0 ∧ b0 ≤ 244))) ∨ (n = 2 ∧ 194 ≤ b0 ∧ b0 ≤ 244 ∧ lohi b0 b1) ∨ (n = 3 ∧ 224 ≤ b0 ∧ b0 ≤ 244 ∧ lohi b0 b1 ∧ 128 ≤ b2 ∧ b2 < 192) ∨
  (n = 4 ∧ 240 ≤ b0 ∧ b0 ≤ 244 ∧ lohi b0 b1 ∧ 128 ≤ b2 ∧ b2 < 192 ∧ 128 ≤ b3 ∧ b3 < 192)
instance (n b0 b1 b2 b3 : Nat) : Decidable (okN n b0 b1 b2 b3) := by unfold okN; infer_instance
def okL (l : List UInt8) : Bool := decide (okN l.length (l.getD 0 0).toNat (l.getD 1 0).toNat (l.getD 2 0).toNat (l.getD 3 0).toNat)

theorem oneN_two (n b0 b1 b2 b3 : Nat) : (oneN n b0 b1 b2 b3).2 = if b0 < 128 then 1 else if 194 ≤ b0 ∧ b0 < 224 ∧ 1 < n ∧ 128 ≤ b1 ∧ b1 < 192 then 2
  else if 224 ≤ b0 ∧ b0 < 240 ∧ 2 < n ∧ 128 ≤ b1 ∧ b1 < 192 ∧ 128 ≤ b2 ∧ b2 < 192 ∧ (b0 = 224 → 160 ≤ b1) ∧ (b0 = 237 → b1 < 160) then 3
  else if 240 ≤ b0 ∧ b0 ≤ 244 ∧ 3 < n ∧ 128 ≤ b1 ∧ b1 < 192 ∧ 128 ≤ b2 ∧ b2 < 192 ∧ 128 ≤ b3 ∧ b3 < 192 ∧ (b0 = 240 → 144 ≤ b1) ∧ (b0 = 244 → b1 < 144) then 4 else 0 := by
  unfold oneN; repeat' split
  all_goals rfl

/-- The scan behind n bytes of a character that begins with b0. -/
def stN (n b0 : Nat) : Int × Int × Int := if n = 0 then (0, 128, 191) else if n = 1 then leadF b0 else ((leadF b0).1 - (n - 1), 128, 191)
/-- The bytes of the last character, as far as it came, and the scan. -/
def Rel (l : List UInt8) (st : Int × Int × Int) : Prop := (l = [] ∧ st = (0, 128, 191)) ∨ (l ≠ [] ∧ l.length ≤ 3 ∧ okL l = true ∧ (oneL l).2 = 0 ∧ st = stN l.length (l.getD 0 0).toNat)

/-- What a step does to both. -/
def Goes (l l' : List UInt8) (st : Int × Int × Int) (r : Bool × Int × Int × Int) : Prop :=
  r.1 = okL l' ∧ ((oneL l').2 = 0 ∨ (oneL l').2 = l'.length) ∧ (okL l' = true → (oneL l').2 ≠ 0 → r.2 = (0, 128, 191)) ∧
  (okL l' = true → (oneL l').2 = 0 → Rel l' r.2 ∧ 0 < r.2.1) ∧ (okL l' = false → r.2 = st)

theorem prod3 {a b c a' b' c' : Int} (h1 : a = a') (h2 : b = b') (h3 : c = c') : (a, b, c) = (a', b', c') := by rw [h1, h2, h3]

theorem lead_of (b : Nat) (h : 194 ≤ b) (h2 : b ≤ 244) : (leadF b).1 = (if b < 224 then 1 else if b < 240 then 2 else 3) ∧
    (∀ c : Nat, ((c : Int) < (leadF b).2.1 ∨ (leadF b).2.2 < c) ↔ ¬ lohi b c) ∧ 128 ≤ (leadF b).2.1 ∧ (leadF b).2.2 ≤ 191 := by
  unfold leadF lohi
  refine ⟨?_, fun c => ?_, ?_, ?_⟩
  · simp only; (repeat' split) <;> omega
  · simp only; (repeat' split) <;> omega
  · simp only; (repeat' split) <;> omega
  · simp only; (repeat' split) <;> omega

theorem go0 (b : UInt8) : Goes [] [b] (0, 128, 191) (stepF 0 128 191 b.toNat) := by
  have hb := b.toNat_lt
  have h1 : okL [b] = decide (okN 1 b.toNat 0 0 0) := by simp [okL]
  have h2 : (oneL [b]).2 = if b.toNat < 128 then 1 else 0 := by
    simp only [oneL, List.cons_ne_nil, if_false, List.length_cons, List.length_nil]
    rw [oneN_two]
    simp
  have hr : stepF 0 128 191 b.toNat = if b.toNat < 128 then (true, 0, 128, 191) else if (b.toNat < 194 ∨ 244 < b.toNat) then (false, 0, 128, 191) else (true, leadF b.toNat) := by
    unfold stepF
    rw [if_neg (by omega)]
    by_cases c1 : b.toNat < 128
    · rw [if_pos (by omega), if_pos c1]
    · rw [if_neg (by omega), if_neg c1]
      by_cases c2 : b.toNat < 194 ∨ 244 < b.toNat
      · rw [if_pos (by omega), if_pos c2]
      · rw [if_neg (by omega), if_neg c2]
  unfold Goes
  rw [hr, h1]
  by_cases c1 : b.toNat < 128
  · rw [if_pos c1] at h2
    rw [if_pos c1]
    have hn : okN 1 b.toNat 0 0 0 := by unfold okN; omega
    exact ⟨(decide_eq_true hn).symm, .inr h2, fun _ _ => rfl, fun _ h => by omega, fun h => absurd h (by rw [decide_eq_true hn]; simp)⟩
  · rw [if_neg c1] at h2
    rw [if_neg c1]
    by_cases c2 : b.toNat < 194 ∨ 244 < b.toNat
    · rw [if_pos c2]
      have hn : ¬ okN 1 b.toNat 0 0 0 := by unfold okN; omega
      exact ⟨(decide_eq_false hn).symm, .inl h2, fun h => absurd (of_decide_eq_true h) hn, fun h => absurd (of_decide_eq_true h) hn, fun _ => rfl⟩
    · rw [if_neg c2]
      have hn : okN 1 b.toNat 0 0 0 := by unfold okN; omega
      refine ⟨(decide_eq_true hn).symm, .inl h2, fun _ h => absurd h2 h, fun _ _ => ⟨.inr ⟨by simp, by simp, by rw [h1]; exact decide_eq_true hn, h2, rfl⟩, ?_⟩, fun h => by rw [decide_eq_true hn] at h; cases h⟩
      have := (lead_of b.toNat (by omega) (by omega)).1
      show 0 < (leadF b.toNat).1
      rw [this]; (repeat' split) <;> omega

theorem go1 (a b : UInt8) (h : okL [a] = true) (h0 : (oneL [a]).2 = 0) : Goes [a] [a, b] (leadF a.toNat) (stepF (leadF a.toNat).1 (leadF a.toNat).2.1 (leadF a.toNat).2.2 b.toNat) := by
  have ha := a.toNat_lt
  have hb := b.toNat_lt
  have g1 : okN 1 a.toNat 0 0 0 := by have : okL [a] = decide (okN 1 a.toNat 0 0 0) := by simp [okL]
                                      rw [this] at h; exact of_decide_eq_true h
  have g2 : ¬ a.toNat < 128 := by
    intro hc
    simp only [oneL, List.cons_ne_nil, if_false, List.length_cons, List.length_nil] at h0
    rw [oneN_two] at h0
    simp [hc] at h0
  have g3 : 194 ≤ a.toNat ∧ a.toNat ≤ 244 := by unfold okN at g1; omega
  have h1 : okL [a, b] = decide (okN 2 a.toNat b.toNat 0 0) := by simp [okL]
  have h2 : (oneL [a, b]).2 = if a.toNat < 224 ∧ 128 ≤ b.toNat ∧ b.toNat < 192 then 2 else 0 := by
    simp only [oneL, List.cons_ne_nil, if_false, List.length_cons, List.length_nil]
    rw [oneN_two]
    simp
    (repeat' split) <;> omega
  obtain ⟨l1, l2, l3, l4⟩ := lead_of a.toNat g3.1 g3.2
  have hl2 := l2 b.toNat
  have hpos : 0 < (leadF a.toNat).1 := by rw [l1]; (repeat' split) <;> omega
  have hr : stepF (leadF a.toNat).1 (leadF a.toNat).2.1 (leadF a.toNat).2.2 b.toNat = if lohi a.toNat b.toNat then (true, (leadF a.toNat).1 - 1, 128, 191) else (false, leadF a.toNat) := by
    unfold stepF
    rw [if_pos hpos]
    by_cases c : lohi a.toNat b.toNat
    · rw [if_neg (fun h => hl2.1 h c), if_pos c]
    · rw [if_pos (hl2.2 c), if_neg c]
  have hk : okN 2 a.toNat b.toNat 0 0 ↔ lohi a.toNat b.toNat := by
    unfold okN
    constructor
    · rintro (h | h | h | h)
      · omega
      · exact h.2.2.2
      · omega
      · omega
    · intro h; exact .inr (.inl ⟨rfl, g3.1, g3.2, h⟩)
  unfold Goes
  rw [hr, h1]
  by_cases c : lohi a.toNat b.toNat
  · have c' := c
    unfold lohi at c'
    rw [if_pos c, decide_eq_true (hk.2 c)]
    by_cases d : a.toNat < 224
    · rw [if_pos (by omega)] at h2
      refine ⟨rfl, .inr h2, fun _ _ => ?_, fun _ h => by omega, fun h => by cases h⟩
      rw [l1, if_pos d]; rfl
    · rw [if_neg (by omega)] at h2
      refine ⟨rfl, .inl h2, fun _ h => absurd h2 h, fun _ _ => ⟨.inr ⟨by simp, by simp, by rw [h1]; exact decide_eq_true (hk.2 c), h2, ?_⟩, ?_⟩, fun h => by cases h⟩
      · exact prod3 (by simp) rfl rfl
      · simp only; rw [l1, if_neg d]; split <;> omega
  · have hn : ¬ okN 2 a.toNat b.toNat 0 0 := fun h => c (hk.1 h)
    rw [if_neg c, decide_eq_false hn]
    refine ⟨rfl, ?_, (fun h => by cases h), (fun h => by cases h), fun _ => rfl⟩
    by_cases d : a.toNat < 224 ∧ 128 ≤ b.toNat ∧ b.toNat < 192
    · exact .inr (by rw [h2, if_pos d]; rfl)
    · exact .inl (by rw [h2, if_neg d])

theorem go2 (a c b : UInt8) (h : okL [a, c] = true) (h0 : (oneL [a, c]).2 = 0) : Goes [a, c] [a, c, b] (stN 2 a.toNat) (stepF (stN 2 a.toNat).1 (stN 2 a.toNat).2.1 (stN 2 a.toNat).2.2 b.toNat) := by
  have ha := a.toNat_lt
  have hb := b.toNat_lt
  have g1 : okN 2 a.toNat c.toNat 0 0 := by have : okL [a, c] = decide (okN 2 a.toNat c.toNat 0 0) := by simp [okL]
                                            rw [this] at h; exact of_decide_eq_true h
  have g1' : 194 ≤ a.toNat ∧ a.toNat ≤ 244 ∧ lohi a.toNat c.toNat := by unfold okN at g1; unfold lohi at *; omega
  have g2 : 224 ≤ a.toNat := by
    simp only [oneL, List.cons_ne_nil, if_false, List.length_cons, List.length_nil] at h0
    rw [oneN_two] at h0
    simp at h0
    have := g1'.2.2
    unfold lohi at this
    (repeat' split at h0) <;> omega
  have h1 : okL [a, c, b] = decide (okN 3 a.toNat c.toNat b.toNat 0) := by simp [okL]
  have h2 : (oneL [a, c, b]).2 = if a.toNat < 240 ∧ 128 ≤ b.toNat ∧ b.toNat < 192 then 3 else 0 := by
    simp only [oneL, List.cons_ne_nil, if_false, List.length_cons, List.length_nil]
    rw [oneN_two]
    simp
    have := g1'.2.2
    unfold lohi at this
    (repeat' split) <;> omega
  obtain ⟨l1, l2, l3, l4⟩ := lead_of a.toNat g1'.1 g1'.2.1
  have hs : stN 2 a.toNat = ((if a.toNat < 240 then 1 else 2), 128, 191) := by
    unfold stN
    rw [if_neg (by omega), if_neg (by omega), l1, if_neg (by omega)]
    exact prod3 (by split <;> rfl) rfl rfl
  rw [hs]
  have hr : stepF (if a.toNat < 240 then 1 else 2) 128 191 b.toNat = if 128 ≤ b.toNat ∧ b.toNat < 192 then (true, (if a.toNat < 240 then 1 else 2) - 1, 128, 191) else (false, (if a.toNat < 240 then 1 else 2), 128, 191) := by
    unfold stepF
    rw [if_pos (by split <;> omega)]
    by_cases d : 128 ≤ b.toNat ∧ b.toNat < 192
    · rw [if_neg (by omega), if_pos d]
    · rw [if_pos (by omega), if_neg d]
  have hk : okN 3 a.toNat c.toNat b.toNat 0 ↔ (128 ≤ b.toNat ∧ b.toNat < 192) := by
    have h9 := g1'.2.2
    unfold okN
    unfold lohi at *
    omega
  unfold Goes
  simp only
  rw [hr, h1]
  by_cases d : 128 ≤ b.toNat ∧ b.toNat < 192
  · rw [if_pos d, decide_eq_true (hk.2 d)]
    by_cases e : a.toNat < 240
    · rw [if_pos (by omega)] at h2
      rw [if_pos e]
      exact ⟨rfl, .inr h2, fun _ _ => rfl, fun _ h => by omega, fun h => by cases h⟩
    · rw [if_neg (by omega)] at h2
      rw [if_neg e]
      refine ⟨rfl, .inl h2, fun _ h => absurd h2 h, fun _ _ => ⟨.inr ⟨by simp, by simp, by rw [h1]; exact decide_eq_true (hk.2 d), h2, ?_⟩, by decide⟩, fun h => by cases h⟩
      show _ = stN 3 a.toNat
      unfold stN
      rw [if_neg (by omega), if_neg (by omega), l1, if_neg (by omega), if_neg (by omega)]
      rfl
  · have hn : ¬ okN 3 a.toNat c.toNat b.toNat 0 := fun h => d (hk.1 h)
    rw [if_neg (by omega)] at h2
    rw [if_neg d, decide_eq_false hn]
    exact ⟨rfl, .inl h2, (fun h => by cases h), (fun h => by cases h), fun _ => rfl⟩

theorem go3 (a c e b : UInt8) (h : okL [a, c, e] = true) (h0 : (oneL [a, c, e]).2 = 0) : Goes [a, c, e] [a, c, e, b] (stN 3 a.toNat) (stepF (stN 3 a.toNat).1 (stN 3 a.toNat).2.1 (stN 3 a.toNat).2.2 b.toNat) := by
  have ha := a.toNat_lt
  have hb := b.toNat_lt
  have g1 : okN 3 a.toNat c.toNat e.toNat 0 := by have : okL [a, c, e] = decide (okN 3 a.toNat c.toNat e.toNat 0) := by simp [okL]
                                                  rw [this] at h; exact of_decide_eq_true h
  have g1' : 224 ≤ a.toNat ∧ a.toNat ≤ 244 ∧ lohi a.toNat c.toNat ∧ 128 ≤ e.toNat ∧ e.toNat < 192 := by unfold okN at g1; unfold lohi at *; omega
  have g2 : 240 ≤ a.toNat := by
    simp only [oneL, List.cons_ne_nil, if_false, List.length_cons, List.length_nil] at h0
    rw [oneN_two] at h0
    simp at h0
    have := g1'.2.2
    unfold lohi at this
    (repeat' split at h0) <;> omega
  have h1 : okL [a, c, e, b] = decide (okN 4 a.toNat c.toNat e.toNat b.toNat) := by simp [okL]
  have h2 : (oneL [a, c, e, b]).2 = if 128 ≤ b.toNat ∧ b.toNat < 192 then 4 else 0 := by
    simp only [oneL, List.cons_ne_nil, if_false, List.length_cons, List.length_nil]
    rw [oneN_two]
    simp
    have := g1'.2.2
    unfold lohi at this
    (repeat' split) <;> omega
  obtain ⟨l1, l2, l3, l4⟩ := lead_of a.toNat (by omega) g1'.2.1
  have hs : stN 3 a.toNat = (1, 128, 191) := by
    unfold stN
    rw [if_neg (by omega), if_neg (by omega), l1, if_neg (by omega), if_neg (by omega)]
    rfl
  rw [hs]
  have hr : stepF 1 128 191 b.toNat = if 128 ≤ b.toNat ∧ b.toNat < 192 then (true, 0, 128, 191) else (false, 1, 128, 191) := by
    unfold stepF
    rw [if_pos (by omega)]
    by_cases d : 128 ≤ b.toNat ∧ b.toNat < 192
    · rw [if_neg (by omega), if_pos d]; rfl
    · rw [if_pos (by omega), if_neg d]
  have hk : okN 4 a.toNat c.toNat e.toNat b.toNat ↔ (128 ≤ b.toNat ∧ b.toNat < 192) := by
    have h9 := g1'.2.2
    unfold okN
    unfold lohi at *
    omega
  unfold Goes
  simp only
  rw [hr, h1]
  by_cases d : 128 ≤ b.toNat ∧ b.toNat < 192
  · rw [if_pos d] at h2
    rw [if_pos d, decide_eq_true (hk.2 d)]
    exact ⟨rfl, .inr h2, fun _ _ => rfl, fun _ h => by omega, fun h => by cases h⟩
  · have hn : ¬ okN 4 a.toNat c.toNat e.toNat b.toNat := fun h => d (hk.1 h)
    rw [if_neg d] at h2
    rw [if_neg d, decide_eq_false hn]
    exact ⟨rfl, .inl h2, (fun h => by cases h), (fun h => by cases h), fun _ => rfl⟩

theorem rel_goes (l : List UInt8) (st : Int × Int × Int) (b : UInt8) (h : Rel l st) : Goes l (l ++ [b]) st (stepF st.1 st.2.1 st.2.2 b.toNat) := by
  rcases h with ⟨rfl, rfl⟩ | ⟨hne, hl, hok, h0, rfl⟩
  · exact go0 b
  · match l, hne, hl, hok, h0 with
    | [a], _, _, hok, h0 => exact go1 a b hok h0
    | [a, c], _, _, hok, h0 => exact go2 a c b hok h0
    | [a, c, e], _, _, hok, h0 => exact go3 a c e b hok h0
    | a :: c :: e :: f :: t, _, hl, _, _ => exact absurd hl (by simp)

/-- What a scan that keeps step is like. -/
theorem rel_left (l : List UInt8) (st : Int × Int × Int) (h : Rel l st) : l.length ≤ 3 ∧ (oneL l).2 = 0 ∧ st.1 ≤ 3 := by
  rcases h with ⟨rfl, rfl⟩ | ⟨hne, hl, hok, h0, rfl⟩
  · simp [oneL]
  · refine ⟨hl, h0, ?_⟩
    unfold stN leadF
    (repeat' split) <;> (first | (simp only; done) | omega)
theorem oneL_cons (a : UInt8) (t : List UInt8) : (oneL (a :: t)).2 = if a.toNat < 128 then 1 else if 194 ≤ a.toNat ∧ a.toNat < 224 ∧ 1 < t.length + 1 ∧ 128 ≤ (t.getD 0 0).toNat ∧ (t.getD 0 0).toNat < 192 then 2
  else if 224 ≤ a.toNat ∧ a.toNat < 240 ∧ 2 < t.length + 1 ∧ 128 ≤ (t.getD 0 0).toNat ∧ (t.getD 0 0).toNat < 192 ∧ 128 ≤ (t.getD 1 0).toNat ∧ (t.getD 1 0).toNat < 192 ∧ (a.toNat = 224 → 160 ≤ (t.getD 0 0).toNat) ∧ (a.toNat = 237 → (t.getD 0 0).toNat < 160) then 3
  else if 240 ≤ a.toNat ∧ a.toNat ≤ 244 ∧ 3 < t.length + 1 ∧ 128 ≤ (t.getD 0 0).toNat ∧ (t.getD 0 0).toNat < 192 ∧ 128 ≤ (t.getD 1 0).toNat ∧ (t.getD 1 0).toNat < 192 ∧ 128 ≤ (t.getD 2 0).toNat ∧ (t.getD 2 0).toNat < 192 ∧ (a.toNat = 240 → 144 ≤ (t.getD 0 0).toNat) ∧ (a.toNat = 244 → (t.getD 0 0).toNat < 144) then 4 else 0 := by
  simp only [oneL, List.cons_ne_nil, if_false, List.length_cons]
  rw [oneN_two]
  simp only [List.getD_cons_zero, List.getD_cons_succ]

/-- A whole character stays one, whatever follows. -/
theorem full_prefix (l r : List UInt8) (h1 : l ≠ []) (h : (oneL l).2 = l.length) : (oneL (l ++ r)).2 = l.length := by
  have h4 := (oneL_len l).2
  match l, h1, h, h4 with
  | [a], _, h, _ =>
    simp only [List.cons_append, List.nil_append, List.length_cons, List.length_nil] at *
    rw [oneL_cons] at *
    simp only [List.length_nil] at h
    (repeat' split at h) <;> (first | omega | (rw [if_pos (by omega)]; done))
  | [a, b], _, h, _ =>
    simp only [List.cons_append, List.nil_append, List.length_cons, List.length_nil] at *
    rw [oneL_cons] at *
    simp only [List.length_nil, List.length_cons, List.getD_cons_zero] at *
    (repeat' split at h) <;> (first | omega | (rw [if_neg (by omega), if_pos (by omega)]; done))
  | [a, b, c], _, h, _ =>
    simp only [List.cons_append, List.nil_append, List.length_cons, List.length_nil] at *
    rw [oneL_cons] at *
    simp only [List.length_nil, List.length_cons, List.getD_cons_zero, List.getD_cons_succ] at *
    (repeat' split at h) <;> (first | omega | (rw [if_neg (by omega), if_neg (by omega), if_pos (by omega)]; done))
  | [a, b, c, d], _, h, _ =>
    simp only [List.cons_append, List.nil_append, List.length_cons, List.length_nil] at *
    rw [oneL_cons] at *
    simp only [List.length_nil, List.length_cons, List.getD_cons_zero, List.getD_cons_succ] at *
    (repeat' split at h) <;> (first | omega | (rw [if_neg (by omega), if_neg (by omega), if_neg (by omega), if_pos (by omega)]; done))
  | a :: b :: c :: d :: e :: t, _, h, h4 => simp only [List.length_cons] at h; omega

/-- Bytes that begin no character stay none, whatever follows. -/
theorem none_prefix (l r : List UInt8) (b : UInt8) (hl : l.length ≤ 3) (h0 : (oneL l).2 = 0) (hk : okL (l ++ [b]) = false) : (oneL (l ++ b :: r)).2 = 0 := by
  unfold okL at hk
  rw [decide_eq_false_iff_not] at hk
  unfold okN lohi at hk
  rcases l with _ | ⟨a, _ | ⟨c, _ | ⟨d, _ | ⟨e, t⟩⟩⟩⟩
  · have hb := b.toNat_lt
    simp only [List.nil_append, List.length_cons, List.length_nil, List.getD_cons_zero, true_and, false_and, or_false, false_or] at hk
    simp only [List.nil_append]
    rw [oneL_cons]
    (repeat' split) <;> omega
  · simp only [List.cons_append, List.nil_append, List.length_cons, List.length_nil, List.getD_cons_zero, List.getD_cons_succ] at hk
    have hk2 : ¬ (194 ≤ a.toNat ∧ a.toNat ≤ 244 ∧ lohi a.toNat b.toNat) := fun h => hk (.inr (.inl ⟨by trivial, h⟩))
    unfold lohi at hk2
    rw [oneL_cons] at h0
    have q1 : ¬ a.toNat < 128 := by intro e; rw [if_pos e] at h0; omega
    clear hk h0
    simp only [List.cons_append, List.nil_append]
    rw [oneL_cons]
    simp only [List.getD_cons_zero, List.getD_cons_succ]
    (repeat' split) <;> omega
  · simp only [List.cons_append, List.nil_append, List.length_cons, List.length_nil, List.getD_cons_zero, List.getD_cons_succ] at hk
    have hk2 : ¬ (224 ≤ a.toNat ∧ a.toNat ≤ 244 ∧ lohi a.toNat c.toNat ∧ 128 ≤ b.toNat ∧ b.toNat < 192) := fun h => hk (.inr (.inr (.inl ⟨by trivial, h⟩)))
    unfold lohi at hk2
    rw [oneL_cons] at h0
    simp only [List.length_nil, List.length_cons, List.getD_cons_zero, List.getD_cons_succ] at h0
    have q1 : ¬ a.toNat < 128 := by intro e; rw [if_pos e] at h0; omega
    have q2 : ¬ (194 ≤ a.toNat ∧ a.toNat < 224 ∧ 128 ≤ c.toNat ∧ c.toNat < 192) := by intro e; rw [if_neg q1, if_pos (by omega)] at h0; omega
    clear hk h0
    simp only [List.cons_append, List.nil_append]
    rw [oneL_cons]
    simp only [List.getD_cons_zero, List.getD_cons_succ]
    (repeat' split) <;> omega
  · simp only [List.cons_append, List.nil_append, List.length_cons, List.length_nil, List.getD_cons_zero, List.getD_cons_succ] at hk
    have hk2 : ¬ (240 ≤ a.toNat ∧ a.toNat ≤ 244 ∧ lohi a.toNat c.toNat ∧ 128 ≤ d.toNat ∧ d.toNat < 192 ∧ 128 ≤ b.toNat ∧ b.toNat < 192) := fun h => hk (.inr (.inr (.inr ⟨by trivial, h⟩)))
    unfold lohi at hk2
    rw [oneL_cons] at h0
    simp only [List.length_nil, List.length_cons, List.getD_cons_zero, List.getD_cons_succ] at h0
    have q1 : ¬ a.toNat < 128 := by intro e; rw [if_pos e] at h0; omega
    have q2 : ¬ (194 ≤ a.toNat ∧ a.toNat < 224 ∧ 128 ≤ c.toNat ∧ c.toNat < 192) := by intro e; rw [if_neg q1, if_pos (by omega)] at h0; omega
    have q3 : ¬ (224 ≤ a.toNat ∧ a.toNat < 240 ∧ 128 ≤ c.toNat ∧ c.toNat < 192 ∧ 128 ≤ d.toNat ∧ d.toNat < 192 ∧ (a.toNat = 224 → 160 ≤ c.toNat) ∧ (a.toNat = 237 → c.toNat < 160)) := by
      intro e; rw [if_neg q1, if_neg (by omega), if_pos (by omega)] at h0; omega
    clear hk h0
    simp only [List.cons_append, List.nil_append]
    rw [oneL_cons]
    simp only [List.getD_cons_zero, List.getD_cons_succ]
    (repeat' split) <;> omega
  · simp only [List.length_cons] at hl; omega

/-- What a text is worth, from its last character's bytes on. -/
theorem valid_full (l r : List UInt8) (h1 : l ≠ []) (h : (oneL l).2 = l.length) : validD (l ++ r) = validD r := by
  have hf := full_prefix l r h1 h
  have hl : 0 < l.length := List.length_pos_iff.2 h1
  rw [validD_one (l ++ r) (by simp [h1]), hf, if_neg (by omega)]
  simp
theorem valid_none (l r : List UInt8) (b : UInt8) (hl : l.length ≤ 3) (h0 : (oneL l).2 = 0) (hk : okL (l ++ [b]) = false) : validD (l ++ b :: r) = false := by
  rw [validD_one (l ++ b :: r) (by simp), none_prefix l r b hl h0 hk, if_pos rfl]
theorem valid_rel (l : List UInt8) (st : Int × Int × Int) (h : Rel l st) : validD l = l.isEmpty := by
  rcases h with ⟨rfl, _⟩ | ⟨hne, _, _, h0, _⟩
  · rfl
  · rw [validD_one l hne, if_pos h0]
    cases l
    · exact absurd rfl hne
    · rfl
/-- Some bytes that a scan went through: valid but for the character that has begun. -/
def Val (c : List UInt8) (st : Int × Int × Int) : Prop := ∃ p, Rel p st ∧ ∀ t, validD (c ++ t) = validD (p ++ t)
theorem Val.nil : Val [] (0, 128, 191) := ⟨[], .inl ⟨rfl, rfl⟩, fun t => rfl⟩
theorem Val.step {c : List UInt8} {st : Int × Int × Int} {b : UInt8} (h : Val c st) (hs : (stepF st.1 st.2.1 st.2.2 b.toNat).1 = true) : Val (c ++ [b]) (stepF st.1 st.2.1 st.2.2 b.toNat).2 := by
  obtain ⟨p, hr, hv⟩ := h
  obtain ⟨g1, g2, g3, g4, g5⟩ := rel_goes p st b hr
  rw [hs] at g1
  have hv2 : ∀ t, validD (c ++ [b] ++ t) = validD (p ++ [b] ++ t) := fun t => by rw [List.append_assoc, hv, ← List.append_assoc]
  by_cases h0 : (oneL (p ++ [b])).2 = 0
  · exact ⟨p ++ [b], (g4 g1.symm h0).1, hv2⟩
  · refine ⟨[], .inl ⟨rfl, g3 g1.symm h0⟩, fun t => ?_⟩
    rw [hv2, valid_full (p ++ [b]) t (by simp) (by rcases g2 with g | g; exact absurd g h0; exact g)]
    rfl
theorem rel_pos {p : List UInt8} {st : Int × Int × Int} (h : Rel p st) (hp : p ≠ []) : 0 < st.1 ∧ 128 ≤ st.2.1 := by
  rcases h with ⟨h1, _⟩ | ⟨_, hl, hok, h0, rfl⟩
  · exact absurd h1 hp
  · have hx : ∀ (a : Nat), 1 ≤ (leadF a).1 ∧ 128 ≤ (leadF a).2.1 := fun a => by
      unfold leadF
      simp only
      refine ⟨?_, ?_⟩ <;> (repeat' split) <;> omega
    match p, hp, hl, hok, h0 with
    | [a], _, _, _, _ =>
      have := hx a.toNat
      unfold stN
      rw [if_neg (by simp), if_pos (by simp)]
      simp only [List.getD_cons_zero]
      omega
    | [a, c], _, _, hok, h0 =>
      unfold stN
      rw [if_neg (by simp), if_neg (by simp)]
      refine ⟨?_, Int.le_refl _⟩
      simp only [List.getD_cons_zero, List.length_cons, List.length_nil]
      unfold okL okN at hok
      simp only [decide_eq_true_eq, List.length_cons, List.length_nil, List.getD_cons_zero, List.getD_cons_succ] at hok
      rw [oneL_cons] at h0
      simp only [List.length_cons, List.length_nil, List.getD_cons_zero, List.getD_cons_succ] at h0
      unfold lohi at hok
      unfold leadF
      simp only
      (repeat' split) <;> (repeat' split at h0) <;> omega
    | [a, c, e], _, _, hok, h0 =>
      unfold stN
      rw [if_neg (by simp), if_neg (by simp)]
      refine ⟨?_, Int.le_refl _⟩
      simp only [List.getD_cons_zero, List.length_cons, List.length_nil]
      unfold okL okN at hok
      simp only [decide_eq_true_eq, List.length_cons, List.length_nil, List.getD_cons_zero, List.getD_cons_succ] at hok
      rw [oneL_cons] at h0
      simp only [List.length_cons, List.length_nil, List.getD_cons_zero, List.getD_cons_succ] at h0
      unfold lohi at hok
      unfold leadF
      simp only
      (repeat' split) <;> (repeat' split at h0) <;> omega
    | a :: c :: e :: f :: t, _, hl, _, _ => exact absurd hl (by simp)
/-- Ahead of a byte below 128 all is whole. -/
theorem Val.low {c : List UInt8} {st : Int × Int × Int} {b : UInt8} (h : Val c st) (hb : b < 128) (hs : (stepF st.1 st.2.1 st.2.2 b.toNat).1 = true) : validD c = true ∧ (stepF st.1 st.2.1 st.2.2 b.toNat).2 = (0, 128, 191) ∧ Val c (0, 128, 191) := by
  obtain ⟨p, hr, hv⟩ := h
  have hb' := UInt8.lt_iff_toNat_lt.1 hb
  have h128 : (128 : UInt8).toNat = 128 := rfl
  by_cases hp : p = []
  · subst hp
    rcases hr with ⟨_, rfl⟩ | ⟨h1, _⟩
    · refine ⟨by have := hv []; rw [List.append_nil, List.append_nil] at this; rw [this]; rfl, ?_, ⟨[], .inl ⟨rfl, rfl⟩, hv⟩⟩
      unfold stepF
      rw [if_neg (by decide), if_pos (by omega)]
    · exact absurd rfl h1
  · have hq := rel_pos hr hp
    exfalso
    unfold stepF at hs
    rw [if_pos hq.1, if_pos (.inl (by omega))] at hs
    cases hs
theorem Val.zero {c : List UInt8} {st : Int × Int × Int} (h : Val c st) (h0 : st.1 = 0) : validD c = true := by
  obtain ⟨p, hr, hv⟩ := h
  by_cases hp : p = []
  · subst hp
    have := hv []
    rw [List.append_nil, List.append_nil] at this
    rw [this]; rfl
  · have hq := rel_pos hr hp
    omega
end Go.Proofs.Ytalaedpiimdcbaa.Srcw
