/- Whole characters: what a text's first bytes settle; plain words. -/
import Derived.Test.YtapdipjcgjmdgaaDoorSrcStepsP
import Derived.Test.YtapdipjcgjmdgaaDoorSrcRunesF
namespace Go.Proofs.YtapdipjcgjmdgaaDoor.Srcw
open Go.RowKit Go.Proofs.YtapdipjcgjmdgaaDoor.PSrcSteps Go.Lib
set_option linter.unusedVariables false
set_option linter.unusedSimpArgs false

theorem decodeL_one (l : List UInt8) (h : l ≠ []) : ((oneL l).2 = 0 ↔ decodeL l = (65533, 1)) ∧ ((oneL l).2 ≠ 0 → oneL l = decodeL l) := by
  rw [oneL_decode l h]
  have hw := decodeL_width l
  by_cases c : decodeL l = (65533, 1)
  · rw [if_pos c]; exact ⟨⟨fun _ => c, fun _ => rfl⟩, fun h => absurd rfl h⟩
  · rw [if_neg c]; exact ⟨⟨fun h => by omega, fun h => absurd h c⟩, fun _ => rfl⟩

theorem validD_one (l : List UInt8) (h : l ≠ []) : validD l = if (oneL l).2 = 0 then false else validD (l.drop (oneL l).2) := by
  rw [validD_step l h]
  have hd := decodeL_one l h
  by_cases c : (oneL l).2 = 0
  · have e := hd.1.1 c
    rw [if_pos c, if_pos (by rw [e]; exact ⟨rfl, rfl⟩)]
  · have e := hd.2 c
    rw [if_neg c, if_neg (by
      rintro ⟨h1, h2⟩
      exact c (hd.1.2 (Prod.ext h1 h2))), e]
theorem validD_nil : validD [] = true := rfl

theorem oneL_cons (a : UInt8) (t : List UInt8) : (oneL (a :: t)).2 = if a.toNat < 128 then 1 else if 194 ≤ a.toNat ∧ a.toNat < 224 ∧ 1 < t.length + 1 ∧ 128 ≤ (t.getD 0 0).toNat ∧ (t.getD 0 0).toNat < 192 then 2
  else if 224 ≤ a.toNat ∧ a.toNat < 240 ∧ 2 < t.length + 1 ∧ 128 ≤ (t.getD 0 0).toNat ∧ (t.getD 0 0).toNat < 192 ∧ 128 ≤ (t.getD 1 0).toNat ∧ (t.getD 1 0).toNat < 192 ∧ (a.toNat = 224 → 160 ≤ (t.getD 0 0).toNat) ∧ (a.toNat = 237 → (t.getD 0 0).toNat < 160) then 3
  else if 240 ≤ a.toNat ∧ a.toNat ≤ 244 ∧ 3 < t.length + 1 ∧ 128 ≤ (t.getD 0 0).toNat ∧ (t.getD 0 0).toNat < 192 ∧ 128 ≤ (t.getD 1 0).toNat ∧ (t.getD 1 0).toNat < 192 ∧ 128 ≤ (t.getD 2 0).toNat ∧ (t.getD 2 0).toNat < 192 ∧ (a.toNat = 240 → 144 ≤ (t.getD 0 0).toNat) ∧ (a.toNat = 244 → (t.getD 0 0).toNat < 144) then 4 else 0 := by
  simp only [oneL, List.cons_ne_nil, if_false, List.length_cons]
  rw [oneN_two]
  simp only [List.getD_cons_zero, List.getD_cons_succ]

/-- A whole character stays one, whatever follows. -/
theorem full_prefix (l r : List UInt8) (h1 : l ≠ []) (h : (oneL l).2 = l.length) : (oneL (l ++ r)).2 = l.length := by
  have h4 := (oneL_len l).2
  match l, h1, h, h4 with
  | [a], _, h, _ =>
    simp only [List.cons_append, List.nil_append, List.length_cons, List.length_nil] at *
    rw [oneL_cons] at *
    simp only [List.length_nil] at h
    (repeat' split at h) <;> (first | omega | (rw [if_pos (by omega)]; done))
  | [a, b], _, h, _ =>
    simp only [List.cons_append, List.nil_append, List.length_cons, List.length_nil] at *
    rw [oneL_cons] at *
    simp only [List.length_nil, List.length_cons, List.getD_cons_zero] at *
    (repeat' split at h) <;> (first | omega | (rw [if_neg (by omega), if_pos (by omega)]; done))
  | [a, b, c], _, h, _ =>
    simp only [List.cons_append, List.nil_append, List.length_cons, List.length_nil] at *
    rw [oneL_cons] at *
    simp only [List.length_nil, List.length_cons, List.getD_cons_zero, List.getD_cons_succ] at *
    (repeat' split at h) <;> (first | omega | (rw [if_neg (by omega), if_neg (by omega), if_pos (by omega)]; done))
  | [a, b, c, d], _, h, _ =>
    simp only [List.cons_append, List.nil_append, List.length_cons, List.length_nil] at *
    rw [oneL_cons] at *
    simp only [List.length_nil, List.length_cons, List.getD_cons_zero, List.getD_cons_succ] at *
    (repeat' split at h) <;> (first | omega | (rw [if_neg (by omega), if_neg (by omega), if_neg (by omega), if_pos (by omega)]; done))
  | a :: b :: c :: d :: e :: t, _, h, h4 => simp only [List.length_cons] at h; omega

/-- Bytes that begin no character stay none, whatever follows. -/
theorem none_prefix (l r : List UInt8) (b : UInt8) (hl : l.length ≤ 3) (h0 : (oneL l).2 = 0) (hk : okL (l ++ [b]) = false) : (oneL (l ++ b :: r)).2 = 0 := by
  unfold okL at hk
  rw [decide_eq_false_iff_not] at hk
  unfold okN lohi at hk
  rcases l with _ | ⟨a, _ | ⟨c, _ | ⟨d, _ | ⟨e, t⟩⟩⟩⟩
  · have hb := b.toNat_lt
    simp only [List.nil_append, List.length_cons, List.length_nil, List.getD_cons_zero, true_and, false_and, or_false, false_or] at hk
    simp only [List.nil_append]
    rw [oneL_cons]
    (repeat' split) <;> omega
  · simp only [List.cons_append, List.nil_append, List.length_cons, List.length_nil, List.getD_cons_zero, List.getD_cons_succ] at hk
    have hk2 : ¬ (194 ≤ a.toNat ∧ a.toNat ≤ 244 ∧ lohi a.toNat b.toNat) := fun h => hk (.inr (.inl ⟨by trivial, h⟩))
    unfold lohi at hk2
    rw [oneL_cons] at h0
    have q1 : ¬ a.toNat < 128 := by intro e; rw [if_pos e] at h0; omega
    clear hk h0
    simp only [List.cons_append, List.nil_append]
    rw [oneL_cons]
    simp only [List.getD_cons_zero, List.getD_cons_succ]
    (repeat' split) <;> omega
  · simp only [List.cons_append, List.nil_append, List.length_cons, List.length_nil, List.getD_cons_zero, List.getD_cons_succ] at hk
    have hk2 : ¬ (224 ≤ a.toNat ∧ a.toNat ≤ 244 ∧ lohi a.toNat c.toNat ∧ 128 ≤ b.toNat ∧ b.toNat < 192) := fun h => hk (.inr (.inr (.inl ⟨by trivial, h⟩)))
    unfold lohi at hk2
    rw [oneL_cons] at h0
    simp only [List.length_nil, List.length_cons, List.getD_cons_zero, List.getD_cons_succ] at h0
    have q1 : ¬ a.toNat < 128 := by intro e; rw [if_pos e] at h0; omega
    have q2 : ¬ (194 ≤ a.toNat ∧ a.toNat < 224 ∧ 128 ≤ c.toNat ∧ c.toNat < 192) := by intro e; rw [if_neg q1, if_pos (by omega)] at h0; omega
    clear hk h0
    simp only [List.cons_append, List.nil_append]
    rw [oneL_cons]
    simp only [List.getD_cons_zero, List.getD_cons_succ]
    (repeat' split) <;> omega
  · simp only [List.cons_append, List.nil_append, List.length_cons, List.length_nil, List.getD_cons_zero, List.getD_cons_succ] at hk
    have hk2 : ¬ (240 ≤ a.toNat ∧ a.toNat ≤ 244 ∧ lohi a.toNat c.toNat ∧ 128 ≤ d.toNat ∧ d.toNat < 192 ∧ 128 ≤ b.toNat ∧ b.toNat < 192) := fun h => hk (.inr (.inr (.inr ⟨by trivial, h⟩)))
    unfold lohi at hk2
    rw [oneL_cons] at h0
    simp only [List.length_nil, List.length_cons, List.getD_cons_zero, List.getD_cons_succ] at h0
    have q1 : ¬ a.toNat < 128 := by intro e; rw [if_pos e] at h0; omega
    have q2 : ¬ (194 ≤ a.toNat ∧ a.toNat < 224 ∧ 128 ≤ c.toNat ∧ c.toNat < 192) := by intro e; rw [if_neg q1, if_pos (by omega)] at h0; omega
    have q3 : ¬ (224 ≤ a.toNat ∧ a.toNat < 240 ∧ 128 ≤ c.toNat ∧ c.toNat < 192 ∧ 128 ≤ d.toNat ∧ d.toNat < 192 ∧ (a.toNat = 224 → 160 ≤ c.toNat) ∧ (a.toNat = 237 → c.toNat < 160)) := by
      intro e; rw [if_neg q1, if_neg (by omega), if_pos (by omega)] at h0; omega
    clear hk h0
    simp only [List.cons_append, List.nil_append]
    rw [oneL_cons]
    simp only [List.getD_cons_zero, List.getD_cons_succ]
    (repeat' split) <;> omega
  · simp only [List.length_cons] at hl; omega

/-- What a text is worth, from its last character's bytes on. -/
theorem valid_full (l r : List UInt8) (h1 : l ≠ []) (h : (oneL l).2 = l.length) : validD (l ++ r) = validD r := by
  have hf := full_prefix l r h1 h
  have hl : 0 < l.length := List.length_pos_iff.2 h1
  rw [validD_one (l ++ r) (by simp [h1]), hf, if_neg (by omega)]
  simp
theorem valid_none (l r : List UInt8) (b : UInt8) (hl : l.length ≤ 3) (h0 : (oneL l).2 = 0) (hk : okL (l ++ [b]) = false) : validD (l ++ b :: r) = false := by
  rw [validD_one (l ++ b :: r) (by simp), none_prefix l r b hl h0 hk, if_pos rfl]
theorem valid_rel (l : List UInt8) (st : Int × Int × Int) (h : Rel l st) : validD l = l.isEmpty := by
  rcases h with ⟨rfl, _⟩ | ⟨hne, _, _, h0, _⟩
  · rfl
  · rw [validD_one l hne, if_pos h0]
    cases l
    · exact absurd rfl hne
    · rfl
end Go.Proofs.YtapdipjcgjmdgaaDoor.Srcw
