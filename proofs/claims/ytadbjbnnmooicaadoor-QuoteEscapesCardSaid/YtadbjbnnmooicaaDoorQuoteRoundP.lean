/- What is printed says what it was made of: plain. -/
import Derived.Test.YtadbjbnnmooicaaDoorQuotePrint
namespace Go.Proofs.YtadbjbnnmooicaaDoor.Qw
open Go.RowKit Go.Proofs.YtadbjbnnmooicaaDoorW.PrintWords Go.Proofs.YtadbjbnnmooicaaDoorW.PrintLast Go.Proofs.YtadbjbnnmooicaaDoor.Own Go.Proofs.YtadbjbnnmooicaaDoor.Srcw Go.Proofs.YtadbjbnnmooicaaDoor.Tab
set_option linter.unusedVariables false
set_option linter.unusedSimpArgs false

/-- All steps, over numbers. -/
def allI : List Int → QS → Nat → QS × Nat × Bool × Int
  | [], s, i => (s, i, false, 0)
  | b :: r, s, i => if (stepQ s b).1 = true ∨ (stepQ s b).2.1 ≠ 0 then ((stepQ s b).2.2, i, (stepQ s b).1, (stepQ s b).2.1) else allI r (stepQ s b).2.2 (i + 1)
theorem allL_eq : ∀ (l : List UInt8) (s : QS) (i : Nat), allL l s i = allI (bnums l) s i := by
  intro l
  induction l with
  | nil => intro s i; rfl
  | cons b r ih =>
    intro s i
    have e1 : bnums (b :: r) = (b.toNat : Int) :: bnums r := rfl
    rw [e1]
    unfold allL allI
    rw [ih]
theorem allI_step {b : Int} {r : List Int} {s s' : QS} {i : Nat} (h : stepQ s b = (false, 0, s')) : allI (b :: r) s i = allI r s' (i + 1) := by
  show (if _ then _ else _) = _
  rw [h]
  rw [if_neg (by simp)]
theorem allI_stop {b : Int} {r : List Int} {s s' : QS} {i : Nat} {d : Bool} {e : Int} (h : stepQ s b = (d, e, s')) (hd : d = true ∨ e ≠ 0) : allI (b :: r) s i = (s', i, d, e) := by
  show (if _ then _ else _) = _
  rw [h]
  rw [if_pos hd]

theorem add_one {l : List Int} {e : Bool} {f n : Int} {o : Bool} {c : Int} (hl : l.length < 48) : addQ ⟨l, e, f, n, o⟩ [c] = (0, ⟨l ++ [c], e, f, n, o⟩) := by
  unfold addQ
  rw [if_neg (by simp; omega)]
theorem step_quot {l : List Int} {m c : Int} (hl : l.length < 48) (h1 : c ≠ 34) (h2 : ¬ c < 32) (h3 : c ≠ 92) : stepQ ⟨l, false, 0, m, false⟩ c = (false, 0, ⟨l ++ [c], false, 0, m, false⟩) := by
  unfold stepQ
  simp only [Bool.false_eq_true, if_false, Int.lt_irrefl, if_neg h1, if_neg h2, if_neg h3]
  rw [add_one hl]
theorem step_back {l : List Int} {m : Int} : stepQ ⟨l, false, 0, m, false⟩ 92 = (false, 0, ⟨l, true, 0, m, false⟩) := rfl
theorem step_letter {l : List Int} {m b c : Int} (hl : l.length < 48) (hb : b ≠ 117) (hc : escN b = some c) : stepQ ⟨l, true, 0, m, false⟩ b = (false, 0, ⟨l ++ [c], false, 0, m, false⟩) := by
  unfold stepQ
  simp only [Bool.false_eq_true, if_false, Int.lt_irrefl, if_neg hb, hc, Option.isSome_some, if_true, Option.getD_some]
  rw [add_one hl]
theorem step_four {l : List Int} {m : Int} : stepQ ⟨l, true, 0, m, false⟩ 117 = (false, 0, ⟨l, false, 4, 0, false⟩) := rfl
theorem step_dig {l : List Int} {f n b : Int} (hf : 1 < f) (hb : 0 ≤ hexN b) : stepQ ⟨l, false, f, n, false⟩ b = (false, 0, ⟨l, false, f - 1, 16 * n + hexN b, false⟩) := by
  unfold stepQ digQ
  simp only [Bool.false_eq_true, if_false, if_pos (by omega : 0 < f), if_neg (by omega : ¬ hexN b < 0), if_pos hf]
theorem hex_let (d : Int) (h0 : 0 ≤ d) (h1 : d < 16) : hexN (letN d) = d := by
  unfold hexN letN
  (repeat' split) <;> omega
theorem putS_one (c : Int) (h0 : 0 ≤ c) (h1 : c < 128) : mayN c = true ∧ putS c = ⟨#[UInt8.ofNat c.toNat]⟩ := by
  have hm : mayN c = true := by unfold mayN; simp; omega
  exact ⟨hm, by rw [putS_yes hm, enc_one c h0 h1]⟩
theorem step_last {l : List Int} {n b c : Int} (hl : l.length < 48) (hb : 0 ≤ hexN b) (hc : c = 16 * n + hexN b) (h0 : 0 ≤ c) (h1 : c < 128) : stepQ ⟨l, false, 1, n, false⟩ b = (false, 0, ⟨l ++ [c], false, 0, c, false⟩) := by
  obtain ⟨hm, hp⟩ := putS_one c h0 h1
  unfold stepQ digQ
  rw [← hc]
  simp only [Bool.false_eq_true, if_false, if_pos (by omega : (0 : Int) < 1), if_neg (by omega : ¬ hexN b < 0), if_neg (by omega : ¬ (1 : Int) < 1), if_pos hm, hp]
  have e1 : bnums (⟨#[UInt8.ofNat c.toNat]⟩ : ByteArray).data.toList = [c] := by simp [bnums]; omega
  rw [e1, add_one hl]

theorem run_prt (c : Int) (h0 : 0 ≤ c) (h1 : c < 256) (l : List Int) (hl : l.length < 48) (m : Int) (r : List Int) (i : Nat) :
    ∃ m', allI (prtN c ++ r) ⟨l, false, 0, m, false⟩ i = allI r ⟨l ++ [c], false, 0, m', false⟩ (i + (prtN c).length) := by
  unfold prtN
  split
  · rename_i h
    refine ⟨m, ?_⟩
    rw [show [92, c] ++ r = 92 :: c :: r from rfl, allI_step step_back, allI_step (step_letter hl (by omega) (show escN c = some c by rcases h with rfl | rfl <;> rfl))]
    rfl
  split
  · rename_i h; subst h
    exact ⟨m, by rw [show [92, 110] ++ r = 92 :: 110 :: r from rfl, allI_step step_back, allI_step (step_letter hl (by omega) rfl)]; rfl⟩
  split
  · rename_i h; subst h
    exact ⟨m, by rw [show [92, 116] ++ r = 92 :: 116 :: r from rfl, allI_step step_back, allI_step (step_letter hl (by omega) rfl)]; rfl⟩
  split
  · rename_i h; subst h
    exact ⟨m, by rw [show [92, 114] ++ r = 92 :: 114 :: r from rfl, allI_step step_back, allI_step (step_letter hl (by omega) rfl)]; rfl⟩
  split
  · have a1 := hex_let (c / 16) (by omega) (by omega)
    have a2 := hex_let (c % 16) (by omega) (by omega)
    refine ⟨c, ?_⟩
    rw [show [92, 117, 48, 48, letN (c / 16), letN (c % 16)] ++ r = 92 :: 117 :: 48 :: 48 :: letN (c / 16) :: letN (c % 16) :: r from rfl, allI_step step_back, allI_step step_four,
      allI_step (step_dig (by omega) (by decide)), allI_step (step_dig (by omega) (by decide)), allI_step (step_dig (by omega) (by omega)), show (4 : Int) - 1 - 1 - 1 = 1 from rfl, allI_step (step_last (b := letN (c % 16)) (c := c) hl (by omega) (by rw [a1, a2, show hexN 48 = 0 from rfl]; omega) h0 (by omega))]
    rfl
  · exact ⟨m, by rw [show [c] ++ r = c :: r from rfl, allI_step (step_quot hl (by omega) (by omega) (by omega))]; rfl⟩

theorem run_prts : ∀ (cs : List Int), (∀ c ∈ cs, 0 ≤ c ∧ c < 256) → ∀ (l : List Int) (m : Int) (i : Nat), l.length + cs.length ≤ 48 →
    ∃ m', allI (prtL cs ++ [34]) ⟨l, false, 0, m, false⟩ i = (⟨l ++ cs, false, 0, m', true⟩, i + (prtL cs).length, true, 0) := by
  intro cs
  induction cs with
  | nil =>
    intro _ l m i _
    refine ⟨m, ?_⟩
    rw [show prtL [] ++ [34] = 34 :: [] from rfl, allI_stop (show stepQ ⟨l, false, 0, m, false⟩ 34 = (true, 0, ⟨l, false, 0, m, true⟩) from rfl) (.inl rfl)]
    simp [prtL]
  | cons c r ih =>
    intro hc l m i hl
    have e1 : prtL (c :: r) = prtN c ++ prtL r := by simp [prtL]
    simp only [List.length_cons] at hl
    obtain ⟨m1, h1⟩ := run_prt c (hc c (by simp)).1 (hc c (by simp)).2 l (by omega) m (prtL r ++ [34]) i
    obtain ⟨m2, h2⟩ := ih (fun x hx => hc x (by simp [hx])) (l ++ [c]) m1 (i + (prtN c).length) (by simp; omega)
    refine ⟨m2, ?_⟩
    rw [e1, List.append_assoc, h1, h2]
    simp [Nat.add_assoc]

/-- The law QuoteRound, plain. -/
theorem round_plain (s p : ByteArray) (h : prtS s = (p, 0)) : 2 ≤ p.size ∧ p.data.toList.getD 0 0 = 34 ∧ strOfNums (allS (p.extract 1 p.size)).1.l = s ∧ (allS (p.extract 1 p.size)).2 = (p.size - 2, true, 0) := by
  unfold prtS at h
  split at h
  · simp at h
  split at h
  · simp at h
  rename_i hv hs
  simp only [Prod.mk.injEq, and_true] at h
  have hp : p.data.toList = 34 :: (byt (prtL (bnums s.data.toList)) ++ [34]) := by rw [← h, strOfNums_data]; simp [byt]
  have hsz : p.size = (prtL (bnums s.data.toList)).length + 2 := by
    rw [← size_data, hp]; simp [byt]
  refine ⟨by omega, by rw [hp]; rfl, ?_⟩
  have hx : (p.extract 1 p.size).data.toList = byt (prtL (bnums s.data.toList)) ++ [34] := by
    rw [ByteArray.data_extract, Array.toList_extract, hp]
    simp [List.extract]
    rw [hsz]
    simp [byt]
    exact List.take_of_length_le (by simp)
  have hb : bnums (byt (prtL (bnums s.data.toList)) ++ [34]) = prtL (bnums s.data.toList) ++ [34] := by
    have h2 := prt_byt s
    have e3 : byt ([34] ++ prtL (bnums s.data.toList) ++ [34]) = 34 :: (byt (prtL (bnums s.data.toList)) ++ [34]) := by simp [byt]
    rw [e3] at h2
    have e4 : bnums (34 :: (byt (prtL (bnums s.data.toList)) ++ [34])) = 34 :: bnums (byt (prtL (bnums s.data.toList)) ++ [34]) := rfl
    rw [e4] at h2
    simpa using h2
  obtain ⟨m, hr⟩ := run_prts (bnums s.data.toList) (by
    intro c hc
    simp only [bnums, List.mem_map] at hc
    obtain ⟨b, _, rfl⟩ := hc
    exact ⟨by omega, by have := b.toNat_lt; omega⟩) [] 0 0 (by rw [bnums_len, size_data]; simp; omega)
  have ha : allS (p.extract 1 p.size) = (⟨bnums s.data.toList, false, 0, m, true⟩, (prtL (bnums s.data.toList)).length, true, 0) := by
    unfold allS
    rw [allL_eq, hx, hb]
    simpa [QS.new] using hr
  rw [ha]
  refine ⟨?_, by rw [hsz]; rfl⟩
  have := bnums_str s.data.toList
  cases hq : strOfNums (bnums s.data.toList)
  cases s
  simp_all
end Go.Proofs.YtadbjbnnmooicaaDoor.Qw
