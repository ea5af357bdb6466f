/- The reference's May and Long in plain words. hexaplaref01.One, as printed, is the first character of plain words. The reference's Runes and Valid, as printed, in plain words. -/
import Derived.Test.YticlppojbbocbaaDoorRefOne
import Derived.Test.YticlppojbbocbaaDoorCharsF
import Derived.Test.YticlppojbbocbaaDoorOwn
namespace Go.Proofs.YticlppojbbocbaaDoor.PNamesKinds
open Go.RowKit Go.Proofs.YticlppojbbocbaaDoorW.PrintWords Go.Proofs.YticlppojbbocbaaDoorW.PrintLast
set_option linter.unusedVariables false
set_option linter.unusedSimpArgs false
theorem may_is (v : Int) : hexaplaref01_May.f v = some (decide (0 ≤ v ∧ v ≤ 1114111 ∧ (v < 55296 ∨ 57343 < v))) := by
  unfold hexaplaref01_May.f
  by_cases h0 : v ≥ 0
  · rw [if_pos h0]
    by_cases h1 : v ≤ 1114111
    · rw [if_pos h1]
      by_cases h2 : v < 55296
      · rw [if_pos h2]; simp; omega
      · rw [if_neg h2]; congr 1; apply decide_eq_decide.2; omega
    · rw [if_neg h1]; simp; omega
  · rw [if_neg h0]; simp; omega
def longN (v : Int) : Int := if v < 128 then 1 else if v < 2048 then 2 else if v < 65536 then 3 else 4
theorem long_is (v : Int) : hexaplaref01_Long.f v = some (longN v) := by
  unfold hexaplaref01_Long.f longN
  repeat' split
  all_goals first | rfl | omega
end Go.Proofs.YticlppojbbocbaaDoor.PNamesKinds

namespace Go.Proofs.YticlppojbbocbaaDoor.PNamesKinds
open Go.RowKit Go.Proofs.YticlppojbbocbaaDoorW.PrintWords Go.Proofs.YticlppojbbocbaaDoorW.PrintLast Go.Proofs.YticlppojbbocbaaDoor.Own Go.Proofs.YticlppojbbocbaaDoor.Srcw
set_option linter.unusedVariables false
set_option linter.unusedSimpArgs false

/-- The loop's end: the number is a character's of so many bytes, or none. -/
theorem one_end (k : Nat) (s : ByteArray) (n v i : Int) (hi : ¬ i < n) :
    hexaplaref01_One.l0 (k + 1) s n v i = some (if (0 ≤ v ∧ v ≤ 1114111 ∧ (v < 55296 ∨ 57343 < v)) ∧ longN v = n then (v, n) else (0, 0)) := by
  simp only [hexaplaref01_One.l0]
  rw [if_neg hi, may_is, long_is]
  simp only [Option.bind_some, decide_eq_true_eq]
  by_cases h1 : 0 ≤ v ∧ v ≤ 1114111 ∧ (v < 55296 ∨ 57343 < v)
  · rw [if_pos h1]
    by_cases h2 : longN v = n
    · rw [if_pos h2, if_pos ⟨h1, h2⟩]
    · rw [if_neg h2, if_neg (fun h => h2 h.2)]
  · rw [if_neg h1, if_neg (fun h => h1 h.1)]

/-- A round of the loop. -/
theorem one_round (k : Nat) (s : ByteArray) (n v i b : Int) (hi : i < n) (h0 : 0 ≤ i) (hn : i < (s.size : Int)) (hb : bt s i = b) (hb0 : 0 ≤ b) (hb1 : b < 256) (hv0 : 0 ≤ v) (hv1 : v < 1000000000) (hi1 : i < 10) :
    hexaplaref01_One.l0 (k + 1) s n v i = if 128 ≤ b ∧ b < 192 then hexaplaref01_One.l0 k s n (64 * v + (b - 128)) (i + 1) else some (0, 0) := by
  conv => lhs; unfold hexaplaref01_One.l0
  rw [if_pos hi, if_pos h0, if_pos hn, hb, w64 (by omega) (by omega)]
  by_cases h1 : b < 128
  · rw [if_pos h1, if_neg (by omega)]
  · rw [if_neg h1]
    by_cases h2 : b ≥ 192
    · rw [if_pos h2, if_neg (by omega)]
    · rw [if_neg h2, if_pos (by omega)]
      rw [w64 (x := 64 * v) (by omega) (by omega), w64 (x := 64 * v + b) (by omega) (by omega), w64 (x := 64 * v + b - 128) (by omega) (by omega), w64 (x := i + 1) (by omega) (by omega)]
      congr 1; omega

theorem one_bad (k : Nat) (s : ByteArray) (b : Int) (hs : 0 < s.size) (hb : bt s 0 = b) (hb0 : 128 ≤ b) (hb1 : b < 256) (h : b < 192 ∨ 248 ≤ b) : hexaplaref01_One.f (k + 8) s = some (0, 0) := by
  have d0 : b < 192 → decide (b < 224) = true := fun h => decide_eq_true (by omega)
  unfold hexaplaref01_One.f
  rw [if_neg (by omega), if_pos (by omega), hb, w64 (by omega) (by omega), if_neg (by omega)]
  by_cases c1 : b ≥ 192
  · have d1 : decide (b < 224) = false := decide_eq_false (by omega)
    have d2 : decide (b < 240) = false := decide_eq_false (by omega)
    have d3 : decide (b < 248) = false := decide_eq_false (by omega)
    have c2 : b ≥ 224 := by omega
    have c3 : b ≥ 240 := by omega
    rw [if_pos c1]
    simp only [hexaplaref01_One.j0, hexaplaref01_One.j1, hexaplaref01_One.j2, hexaplaref01_One.j3, hexaplaref01_One.j4, hexaplaref01_One.j5, hexaplaref01_One.j6, d1, d2, d3, c2, c3, Bool.false_eq_true, if_false, if_true]
  · have c2 : ¬ b ≥ 224 := by omega
    have c3 : ¬ b ≥ 240 := by omega
    rw [if_neg c1]
    simp only [hexaplaref01_One.j0, hexaplaref01_One.j1, hexaplaref01_One.j2, hexaplaref01_One.j3, hexaplaref01_One.j4, hexaplaref01_One.j5, hexaplaref01_One.j6, c2, c3, Bool.false_eq_true, if_false, if_true]

theorem one_head2 (k : Nat) (s : ByteArray) (b : Int) (hs : 0 < s.size) (hb : bt s 0 = b) (hb0 : 192 ≤ b) (hb1 : b < 224) :
    hexaplaref01_One.f (k + 8) s = if (s.size : Int) < 2 then some (0, 0) else hexaplaref01_One.l0 (k + 1) s 2 (b - 192) 1 := by
  unfold hexaplaref01_One.f
  rw [if_neg (by omega), if_pos (by omega), hb, w64 (by omega) (by omega), if_neg (by omega), if_pos (by omega)]
  have d1 : decide (b < 224) = true := decide_eq_true hb1
  have c2 : ¬ b ≥ 224 := by omega
  have c3 : ¬ b ≥ 240 := by omega
  have hw : wrap64 (b - 192) = b - 192 := w64 (by omega) (by omega)
  simp only [hexaplaref01_One.j0, hexaplaref01_One.j1, hexaplaref01_One.j2, hexaplaref01_One.j3, hexaplaref01_One.j4, hexaplaref01_One.j5, d1, c2, c3, hw, Bool.false_eq_true, if_false, if_true]
  rw [if_neg (by omega)]
  simp only [hexaplaref01_One.j6, decide_eq_true_eq]
theorem one_head3 (k : Nat) (s : ByteArray) (b : Int) (hs : 0 < s.size) (hb : bt s 0 = b) (hb0 : 224 ≤ b) (hb1 : b < 240) :
    hexaplaref01_One.f (k + 8) s = if (s.size : Int) < 3 then some (0, 0) else hexaplaref01_One.l0 (k + 1) s 3 (b - 224) 1 := by
  unfold hexaplaref01_One.f
  rw [if_neg (by omega), if_pos (by omega), hb, w64 (by omega) (by omega), if_neg (by omega), if_pos (by omega)]
  have d1 : decide (b < 224) = false := decide_eq_false (by omega)
  have d2 : decide (b < 240) = true := decide_eq_true hb1
  have c2 : b ≥ 224 := by omega
  have c3 : ¬ b ≥ 240 := by omega
  have hw : wrap64 (b - 224) = b - 224 := w64 (by omega) (by omega)
  simp only [hexaplaref01_One.j0, hexaplaref01_One.j1, hexaplaref01_One.j2, hexaplaref01_One.j3, hexaplaref01_One.j4, hexaplaref01_One.j5, d1, d2, c2, c3, hw, Bool.false_eq_true, if_false, if_true]
  rw [if_neg (by omega)]
  simp only [hexaplaref01_One.j6, decide_eq_true_eq]
theorem one_head4 (k : Nat) (s : ByteArray) (b : Int) (hs : 0 < s.size) (hb : bt s 0 = b) (hb0 : 240 ≤ b) (hb1 : b < 248) :
    hexaplaref01_One.f (k + 8) s = if (s.size : Int) < 4 then some (0, 0) else hexaplaref01_One.l0 (k + 1) s 4 (b - 240) 1 := by
  unfold hexaplaref01_One.f
  rw [if_neg (by omega), if_pos (by omega), hb, w64 (by omega) (by omega), if_neg (by omega), if_pos (by omega)]
  have d1 : decide (b < 224) = false := decide_eq_false (by omega)
  have d2 : decide (b < 240) = false := decide_eq_false (by omega)
  have d3 : decide (b < 248) = true := decide_eq_true hb1
  have c2 : b ≥ 224 := by omega
  have c3 : b ≥ 240 := by omega
  have hw : wrap64 (b - 240) = b - 240 := w64 (by omega) (by omega)
  simp only [hexaplaref01_One.j0, hexaplaref01_One.j1, hexaplaref01_One.j2, hexaplaref01_One.j3, hexaplaref01_One.j4, hexaplaref01_One.j5, d1, d2, d3, c2, c3, hw, Bool.false_eq_true, if_false, if_true]
  rw [if_neg (by omega)]
  simp only [hexaplaref01_One.j6, decide_eq_true_eq]

/-- One: the first character. -/
theorem one_is (k : Nat) (s : ByteArray) : hexaplaref01_One.f (k + 12) s = some (((oneL s.data.toList).1 : Int), ((oneL s.data.toList).2 : Int)) := by
  have hlen : s.data.toList.length = s.size := size_data s
  by_cases h0 : s.size = 0
  · have hl : s.data.toList = [] := List.eq_nil_of_length_eq_zero (by omega)
    unfold hexaplaref01_One.f oneL; rw [if_pos (by omega), if_pos hl]; rfl
  have hne : s.data.toList ≠ [] := by intro h; rw [h] at hlen; simp at hlen; omega
  have g0 := bt_get s 0 (by omega)
  have g1 : 1 < s.size → bt s 1 = ((s.data.toList.getD 1 0).toNat : Int) := fun h => bt_get s 1 h
  have g2 : 2 < s.size → bt s 2 = ((s.data.toList.getD 2 0).toNat : Int) := fun h => bt_get s 2 h
  have g3 : 3 < s.size → bt s 3 = ((s.data.toList.getD 3 0).toNat : Int) := fun h => bt_get s 3 h
  have l0 := (s.data.toList.getD 0 0).toNat_lt
  have l1 := (s.data.toList.getD 1 0).toNat_lt
  have l2 := (s.data.toList.getD 2 0).toNat_lt
  have l3 := (s.data.toList.getD 3 0).toNat_lt
  unfold oneL
  rw [if_neg hne, hlen]
  generalize (s.data.toList.getD 0 0).toNat = b0 at *
  generalize (s.data.toList.getD 1 0).toNat = b1 at *
  generalize (s.data.toList.getD 2 0).toNat = b2 at *
  generalize (s.data.toList.getD 3 0).toNat = b3 at *
  have g0' : bt s 0 = (b0 : Int) := g0
  unfold oneN
  by_cases c1 : b0 < 128
  · rw [if_pos c1]
    unfold hexaplaref01_One.f
    rw [if_neg (by omega), if_pos (by omega), g0', w64 (by omega) (by omega), if_pos (by omega)]; rfl
  rw [if_neg c1]
  by_cases c2 : b0 < 192 ∨ 248 ≤ b0
  · rw [one_bad (k + 4) s b0 (by omega) g0' (by omega) (by omega) (by omega), if_neg (by omega), if_neg (by omega), if_neg (by omega)]; rfl
  by_cases c3 : b0 < 224
  · rw [one_head2 (k + 4) s b0 (by omega) g0' (by omega) (by omega)]
    by_cases e : s.size < 2
    · rw [if_pos (by omega), if_neg (by omega), if_neg (by omega), if_neg (by omega)]; rfl
    rw [if_neg (by omega), one_round (k + 4) s 2 _ 1 b1 (by omega) (by omega) (by omega) (g1 (by omega)) (by omega) (by omega) (by omega) (by omega) (by omega)]
    by_cases e1 : 128 ≤ b1 ∧ b1 < 192
    · rw [if_pos (by omega), one_end (k + 3) s 2 _ _ (by omega)]
      unfold longN
      by_cases e2 : 194 ≤ b0
      · rw [if_pos (by refine ⟨by omega, ?_⟩; rw [if_neg (by omega), if_pos (by omega)]), if_pos (by omega)]
        simp only [Option.some.injEq, Prod.mk.injEq]; omega
      · rw [if_neg (by rintro ⟨_, h⟩; rw [if_pos (by omega)] at h; omega), if_neg (by omega), if_neg (by omega), if_neg (by omega)]; rfl
    · rw [if_neg (by omega), if_neg (by omega), if_neg (by omega), if_neg (by omega)]; rfl
  by_cases c4 : b0 < 240
  · rw [one_head3 (k + 4) s b0 (by omega) g0' (by omega) (by omega), if_neg (show ¬ (194 ≤ b0 ∧ b0 < 224 ∧ 1 < s.size ∧ 128 ≤ b1 ∧ b1 < 192) by omega)]
    by_cases e : s.size < 3
    · rw [if_pos (by omega), if_neg (by omega), if_neg (by omega)]; rfl
    rw [if_neg (by omega), one_round (k + 4) s 3 _ 1 b1 (by omega) (by omega) (by omega) (g1 (by omega)) (by omega) (by omega) (by omega) (by omega) (by omega)]
    by_cases e1 : 128 ≤ b1 ∧ b1 < 192
    · rw [if_pos (by omega), show (1 : Int) + 1 = 2 from rfl, one_round (k + 3) s 3 _ 2 b2 (by omega) (by omega) (by omega) (g2 (by omega)) (by omega) (by omega) (by omega) (by omega) (by omega)]
      by_cases e2 : 128 ≤ b2 ∧ b2 < 192
      · rw [if_pos (by omega), one_end (k + 2) s 3 _ _ (by omega)]
        unfold longN
        by_cases e3 : (b0 = 224 → 160 ≤ b1) ∧ (b0 = 237 → b1 < 160)
        · rw [if_pos (by refine ⟨by omega, ?_⟩; rw [if_neg (by omega), if_neg (by omega), if_pos (by omega)]), if_pos (by omega)]
          simp only [Option.some.injEq, Prod.mk.injEq]; omega
        · rw [if_neg (by
            rintro ⟨h1, h⟩
            by_cases e4 : b0 = 224
            · by_cases e5 : (64 * (64 * ((b0 : Int) - 224) + ((b1 : Int) - 128)) + ((b2 : Int) - 128)) < 128
              · rw [if_pos e5] at h; omega
              · rw [if_neg e5, if_pos (by omega)] at h; omega
            · omega), if_neg (by omega), if_neg (by omega)]; rfl
      · rw [if_neg (by omega), if_neg (by omega), if_neg (by omega)]; rfl
    · rw [if_neg (by omega), if_neg (by omega), if_neg (by omega)]; rfl
  · rw [one_head4 (k + 4) s b0 (by omega) g0' (by omega) (by omega), if_neg (show ¬ (194 ≤ b0 ∧ b0 < 224 ∧ 1 < s.size ∧ 128 ≤ b1 ∧ b1 < 192) by omega),
      if_neg (show ¬ (224 ≤ b0 ∧ b0 < 240 ∧ 2 < s.size ∧ 128 ≤ b1 ∧ b1 < 192 ∧ 128 ≤ b2 ∧ b2 < 192 ∧ (b0 = 224 → 160 ≤ b1) ∧ (b0 = 237 → b1 < 160)) by omega)]
    by_cases e : s.size < 4
    · rw [if_pos (by omega), if_neg (by omega)]; rfl
    rw [if_neg (by omega), one_round (k + 4) s 4 _ 1 b1 (by omega) (by omega) (by omega) (g1 (by omega)) (by omega) (by omega) (by omega) (by omega) (by omega)]
    by_cases e1 : 128 ≤ b1 ∧ b1 < 192
    · rw [if_pos (by omega), show (1 : Int) + 1 = 2 from rfl, one_round (k + 3) s 4 _ 2 b2 (by omega) (by omega) (by omega) (g2 (by omega)) (by omega) (by omega) (by omega) (by omega) (by omega)]
      by_cases e2 : 128 ≤ b2 ∧ b2 < 192
      · rw [if_pos (by omega), show (2 : Int) + 1 = 3 from rfl, one_round (k + 2) s 4 _ 3 b3 (by omega) (by omega) (by omega) (g3 (by omega)) (by omega) (by omega) (by omega) (by omega) (by omega)]
        by_cases e3 : 128 ≤ b3 ∧ b3 < 192
        · rw [if_pos (by omega), one_end (k + 1) s 4 _ _ (by omega)]
          unfold longN
          by_cases e4 : b0 ≤ 244 ∧ (b0 = 240 → 144 ≤ b1) ∧ (b0 = 244 → b1 < 144)
          · rw [if_pos (by refine ⟨by omega, ?_⟩; rw [if_neg (by omega), if_neg (by omega), if_neg (by omega)]), if_pos (by omega)]
            simp only [Option.some.injEq, Prod.mk.injEq]; omega
          · rw [if_neg (by
              rintro ⟨h1, h⟩
              by_cases e6 : b0 = 240
              · by_cases e5 : (64 * (64 * (64 * ((b0 : Int) - 240) + ((b1 : Int) - 128)) + ((b2 : Int) - 128)) + ((b3 : Int) - 128)) < 128
                · rw [if_pos e5] at h; omega
                · rw [if_neg e5] at h
                  by_cases e7 : (64 * (64 * (64 * ((b0 : Int) - 240) + ((b1 : Int) - 128)) + ((b2 : Int) - 128)) + ((b3 : Int) - 128)) < 2048
                  · rw [if_pos e7] at h; omega
                  · rw [if_neg e7, if_pos (by omega)] at h; omega
              · omega), if_neg (by omega)]; rfl
        · rw [if_neg (by omega), if_neg (by omega)]; rfl
      · rw [if_neg (by omega), if_neg (by omega)]; rfl
    · rw [if_neg (by omega), if_neg (by omega)]; rfl
end Go.Proofs.YticlppojbbocbaaDoor.PNamesKinds

namespace Go.Proofs.YticlppojbbocbaaDoor.PNamesKinds
open Go.RowKit Go.Proofs.YticlppojbbocbaaDoorW.PrintWords Go.Proofs.YticlppojbbocbaaDoorW.PrintLast Go.Proofs.YticlppojbbocbaaDoor.Own Go.Proofs.YticlppojbbocbaaDoor.Srcw
set_option linter.unusedVariables false
set_option linter.unusedSimpArgs false

theorem extract_drop (s : ByteArray) (n : Nat) : (s.extract n s.size).data.toList = s.data.toList.drop n := by
  rw [ByteArray.data_extract, Array.toList_extract, List.extract_eq_take_drop, List.take_of_length_le]
  rw [List.length_drop, size_data]; exact Nat.le_refl _

/-- The reference's Runes, as printed. -/
theorem refrunes_loop : ∀ (d : Nat) (s : ByteArray) (acc : List Int), s.size ≤ d → acc.length + s.size < 17592186044416 →
    hexaplaref01_Runes.l0 (d + 13) s acc = some (if Lib.validD s.data.toList then (acc ++ runesR s.data.toList, true) else ([], false)) := by
  intro d
  induction d with
  | zero =>
    intro s acc hd hb
    have hl : s.data.toList = [] := List.eq_nil_of_length_eq_zero (by rw [size_data]; omega)
    conv => lhs; unfold hexaplaref01_Runes.l0
    rw [if_neg (by omega), hl, validD_nil, if_pos rfl, runesR_nil, List.append_nil]
  | succ d ih =>
    intro s acc hd hb
    by_cases h0 : s.size = 0
    · have hl : s.data.toList = [] := List.eq_nil_of_length_eq_zero (by rw [size_data]; omega)
      conv => lhs; unfold hexaplaref01_Runes.l0
      rw [if_neg (by omega), hl, validD_nil, if_pos rfl, runesR_nil, List.append_nil]
    · have hne : s.data.toList ≠ [] := by intro e; have := size_data s; rw [e] at this; simp at this; omega
      have hlen := oneL_len s.data.toList
      rw [size_data] at hlen
      obtain ⟨m, hm⟩ : ∃ m, d + 1 + 13 = m + 1 := ⟨d + 13, by omega⟩
      obtain ⟨j, rfl⟩ : ∃ j, m = j + 12 := ⟨m - 12, by omega⟩
      rw [hm]
      conv => lhs; unfold hexaplaref01_Runes.l0
      rw [if_pos (by omega), one_is]
      simp only [Option.bind_some]
      by_cases c : (oneL s.data.toList).2 = 0
      · rw [if_pos (by omega), validD_one _ hne, if_pos c]; rfl
      · have hdec := (decodeL_one _ hne).2 c
        rw [if_neg (by omega), if_pos (by omega), if_pos (by omega), if_pos (by omega), Int.toNat_natCast, show j + 12 = d + 13 from by omega]
        have hz : (s.extract (oneL s.data.toList).2 s.size).size = s.size - (oneL s.data.toList).2 := by simp
        rw [ih _ _ (by rw [hz]; omega) (by rw [hz, List.length_append]; simp; omega), extract_drop, validD_one s.data.toList hne, if_neg c, runesR_step _ hne, ← hdec]
        simp
theorem refrunes_is (s : ByteArray) (hb : s.size < 17592186044416) : hexaplaref01_Runes.f (s.size + 13) s = some (charsL s.data.toList, Lib.validD s.data.toList) := by
  unfold hexaplaref01_Runes.f charsL
  rw [refrunes_loop s.size s [] (Nat.le_refl _) (by simpa using hb), List.nil_append]
  cases Lib.validD s.data.toList <;> rfl

theorem refvalid_calls (s : ByteArray) (hb : s.size < 17592186044416) (w : World) :
    Calls Tryd.prog 31 #[.string s] w fun e w' => e = .returned (.bool (Lib.validD s.data.toList)) ∧ Below w.heap.size w w' :=
  hexaplaref01_Valid.calls (s.size + 13) s _ w (by unfold hexaplaref01_Valid.f; rw [refrunes_is s hb]; rfl)
end Go.Proofs.YticlppojbbocbaaDoor.PNamesKinds
