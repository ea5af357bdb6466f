/- The reference's Runes and Valid, as printed, in plain words. -/
import Derived.Test.YtadbjbnnmooicaaDoorRefValid
import Derived.Test.YtadbjbnnmooicaaDoorSrcOneQuotePrints
import Derived.Test.YtadbjbnnmooicaaDoorSrcDecF
namespace Go.Proofs.YtadbjbnnmooicaaDoor.PQuotePrints
open Go.RowKit Go.Proofs.YtadbjbnnmooicaaDoorW.PrintWords Go.Proofs.YtadbjbnnmooicaaDoorW.PrintLast Go.Proofs.YtadbjbnnmooicaaDoor.Own Go.Proofs.YtadbjbnnmooicaaDoor.Srcw
set_option linter.unusedVariables false
set_option linter.unusedSimpArgs false

theorem extract_drop (s : ByteArray) (n : Nat) : (s.extract n s.size).data.toList = s.data.toList.drop n := by
  rw [ByteArray.data_extract, Array.toList_extract, List.extract_eq_take_drop, List.take_of_length_le]
  rw [List.length_drop, size_data]; exact Nat.le_refl _

/-- The reference's Runes, as printed. -/
theorem refrunes_loop : ∀ (d : Nat) (s : ByteArray) (acc : List Int), s.size ≤ d → acc.length + s.size < 17592186044416 →
    hexaplaref01_Runes.l0 (d + 13) s acc = some (if Lib.validD s.data.toList then (acc ++ runesR s.data.toList, true) else ([], false)) := by
  intro d
  induction d with
  | zero =>
    intro s acc hd hb
    have hl : s.data.toList = [] := List.eq_nil_of_length_eq_zero (by rw [size_data]; omega)
    conv => lhs; unfold hexaplaref01_Runes.l0
    rw [if_neg (by omega), hl, validD_nil, if_pos rfl, runesR_nil, List.append_nil]
  | succ d ih =>
    intro s acc hd hb
    by_cases h0 : s.size = 0
    · have hl : s.data.toList = [] := List.eq_nil_of_length_eq_zero (by rw [size_data]; omega)
      conv => lhs; unfold hexaplaref01_Runes.l0
      rw [if_neg (by omega), hl, validD_nil, if_pos rfl, runesR_nil, List.append_nil]
    · have hne : s.data.toList ≠ [] := by intro e; have := size_data s; rw [e] at this; simp at this; omega
      have hlen := oneL_len s.data.toList
      rw [size_data] at hlen
      obtain ⟨m, hm⟩ : ∃ m, d + 1 + 13 = m + 1 := ⟨d + 13, by omega⟩
      obtain ⟨j, rfl⟩ : ∃ j, m = j + 12 := ⟨m - 12, by omega⟩
      rw [hm]
      conv => lhs; unfold hexaplaref01_Runes.l0
      rw [if_pos (by omega), one_is]
      simp only [Option.bind_some]
      by_cases c : (oneL s.data.toList).2 = 0
      · rw [if_pos (by omega), validD_one _ hne, if_pos c]; rfl
      · have hdec := (decodeL_one _ hne).2 c
        rw [if_neg (by omega), if_pos (by omega), if_pos (by omega), if_pos (by omega), Int.toNat_natCast, show j + 12 = d + 13 from by omega]
        have hz : (s.extract (oneL s.data.toList).2 s.size).size = s.size - (oneL s.data.toList).2 := by simp
        rw [ih _ _ (by rw [hz]; omega) (by rw [hz, List.length_append]; simp; omega), extract_drop, validD_one s.data.toList hne, if_neg c, runesR_step _ hne, ← hdec]
        simp
theorem refrunes_is (s : ByteArray) (hb : s.size < 17592186044416) : hexaplaref01_Runes.f (s.size + 13) s = some (charsL s.data.toList, Lib.validD s.data.toList) := by
  unfold hexaplaref01_Runes.f charsL
  rw [refrunes_loop s.size s [] (Nat.le_refl _) (by simpa using hb), List.nil_append]
  cases Lib.validD s.data.toList <;> rfl

theorem refvalid_calls (s : ByteArray) (hb : s.size < 17592186044416) (w : World) :
    Calls Tryd.prog 27 #[.string s] w fun e w' => e = .returned (.bool (Lib.validD s.data.toList)) ∧ Below w.heap.size w w' :=
  hexaplaref01_Valid.calls (s.size + 13) s _ w (by unfold hexaplaref01_Valid.f; rw [refrunes_is s hb]; rfl)
end Go.Proofs.YtadbjbnnmooicaaDoor.PQuotePrints
