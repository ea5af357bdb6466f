/- The law SrcRunes, walked: it returns true at every text, in every world that holds utf8's two tables. -/
import Derived.Test.YtapdipjcgjmdgaaDoorSrcValidP
import Derived.Test.YtapdipjcgjmdgaaDoorSrcLives
import Derived.Test.YtapdipjcgjmdgaaDoorSrcOneSrcRunes
import Derived.Test.YtapdipjcgjmdgaaDoorPSrcRunesx3
import Derived.Outline
namespace Go.Proofs.YtapdipjcgjmdgaaDoor.Srcw
open Go.RowKit Go.Proofs.YtapdipjcgjmdgaaDoorW.PrintWords Go.Proofs.YtapdipjcgjmdgaaDoorW.PrintLast Go.Proofs.YtapdipjcgjmdgaaDoor.Own Go.Proofs.YtapdipjcgjmdgaaDoor.Tab Go.Proofs.YtapdipjcgjmdgaaDoor.PSrcRunes
set_option linter.unusedVariables false
set_option linter.unusedSimpArgs false

theorem extract_drop (s : ByteArray) (n : Nat) : (s.extract n s.size).data.toList = s.data.toList.drop n := by
  rw [ByteArray.data_extract, Array.toList_extract, List.extract_eq_take_drop, List.take_of_length_le]
  rw [List.length_drop, size_data]; exact Nat.le_refl _

/-- The reference's Runes, as printed. -/
theorem refrunes_loop : ∀ (d : Nat) (s : ByteArray) (acc : List Int), s.size ≤ d → acc.length + s.size < 17592186044416 →
    hexaplaref01_Runes.l0 (d + 13) s acc = some (if Lib.validD s.data.toList then (acc ++ runesR s.data.toList, true) else ([], false)) := by
  intro d
  induction d with
  | zero =>
    intro s acc hd hb
    have hl : s.data.toList = [] := List.eq_nil_of_length_eq_zero (by rw [size_data]; omega)
    conv => lhs; unfold hexaplaref01_Runes.l0
    rw [if_neg (by omega), hl, validD_nil, if_pos rfl, runesR_nil, List.append_nil]
  | succ d ih =>
    intro s acc hd hb
    by_cases h0 : s.size = 0
    · have hl : s.data.toList = [] := List.eq_nil_of_length_eq_zero (by rw [size_data]; omega)
      conv => lhs; unfold hexaplaref01_Runes.l0
      rw [if_neg (by omega), hl, validD_nil, if_pos rfl, runesR_nil, List.append_nil]
    · have hne : s.data.toList ≠ [] := by intro e; have := size_data s; rw [e] at this; simp at this; omega
      have hlen := oneL_len s.data.toList
      rw [size_data] at hlen
      obtain ⟨m, hm⟩ : ∃ m, d + 1 + 13 = m + 1 := ⟨d + 13, by omega⟩
      obtain ⟨j, rfl⟩ : ∃ j, m = j + 12 := ⟨m - 12, by omega⟩
      rw [hm]
      conv => lhs; unfold hexaplaref01_Runes.l0
      rw [if_pos (by omega), one_is]
      simp only [Option.bind_some]
      by_cases c : (oneL s.data.toList).2 = 0
      · rw [if_pos (by omega), validD_one _ hne, if_pos c]; rfl
      · have hdec := (decodeL_one _ hne).2 c
        rw [if_neg (by omega), if_pos (by omega), if_pos (by omega), if_pos (by omega), Int.toNat_natCast, show j + 12 = d + 13 from by omega]
        have hz : (s.extract (oneL s.data.toList).2 s.size).size = s.size - (oneL s.data.toList).2 := by simp
        rw [ih _ _ (by rw [hz]; omega) (by rw [hz, List.length_append]; simp; omega), extract_drop, validD_one s.data.toList hne, if_neg c, runesR_step _ hne, ← hdec]
        simp
theorem refrunes_is (s : ByteArray) (hb : s.size < 17592186044416) : hexaplaref01_Runes.f (s.size + 13) s = some (charsL s.data.toList, Lib.validD s.data.toList) := by
  unfold hexaplaref01_Runes.f charsL
  rw [refrunes_loop s.size s [] (Nat.le_refl _) (by simpa using hb), List.nil_append]
  cases Lib.validD s.data.toList <;> rfl

/-- A list is the same as itself. -/
theorem same_loop (l : List Int) (hl : l.length ≤ 9000000000000000000) : ∀ (d i : Nat), i + d = l.length → hexaplalaw01_same.l0 (d + 1) l l i = some true := by
  intro d
  induction d with
  | zero =>
    intro i hi
    conv => lhs; unfold hexaplalaw01_same.l0
    rw [if_neg (by omega)]
  | succ d ih =>
    intro i hi
    conv => lhs; unfold hexaplalaw01_same.l0
    rw [if_pos (by omega), if_pos (by omega), if_pos (by omega), if_pos rfl, w64 (by omega) (by omega)]
    have := ih (i + 1) (by omega)
    simpa using this
theorem same_self (l : List Int) (hl : l.length ≤ 9000000000000000000) : hexaplalaw01_same.f (l.length + 1) l l = some true := by
  unfold hexaplalaw01_same.f
  rw [if_pos rfl]
  exact same_loop l hl l.length 0 (by omega)

theorem charsL_len (l : List UInt8) : (charsL l).length ≤ l.length := by
  unfold charsL
  split
  · exact runesR_len l.length l (Nat.le_refl _)
  · simp

set_option maxHeartbeats 4000000 in
set_option maxRecDepth 100000 in
theorem law_SrcRunes (s : ByteArray) (hs : s.size ≤ 1048576) (w : World) (hT : Tabs w) :
    Calls Tryd.prog 4 #[.string s] w fun e w' => e = .returned (.bool true) ∧ Below w.heap.size w w' := by
  have HT := Aside0.mk hT
  clear hT
  have hlen := charsL_len s.data.toList
  rw [size_data] at hlen
  have HL := Aside0.mk hlen
  clear hlen
  go_enter Tryd.func4, Tryd.ntmps4
  go_wp2_with fail
  refine (runes_calls s w (by omega) (valid_calls s w (by omega) HT.out)).mono ?_
  rintro e w1 ⟨v1, rfl, ho1, hb1⟩
  obtain ⟨A1, c1, hv1, hc1, hC1⟩ := Kd.R_reads ho1
  subst hv1
  have B1 := Aside0.mk hb1
  have R1 := Aside0.mk ho1
  have C1 := Aside0.mk hc1
  clear ho1 hb1 hC1 hc1
  go_wp2_with fail
  refine (hexaplaref01_Runes.calls (s.size + 13) s _ _ w1 (refrunes_is s (by omega))).mono ?_
  rintro e w2 ⟨v2, rfl, ho2, hb2⟩
  obtain ⟨A2, c2, hv2, hc2, hC2⟩ := Kd.R_reads ho2
  subst hv2
  have B2 : Aside0 (Below w.heap.size w w2) := Aside0.mk (below_step B1.out hb2)
  obtain ⟨_, _, hC1⟩ := Kd.R_reads' (Kd.R_below R1.out hb2)
  have K1 := Aside0.mk hC1
  have K2 := Aside0.mk hC2
  have C2 := Aside0.mk hc2
  clear ho2 hb2 hC1 hC2 hc2
  go_wp2_with fail
  refine (hexaplalaw01_same.calls ((charsL s.data.toList).length + 1) A1 c1 (charsL s.data.toList) A2 c2 (charsL s.data.toList) true w2 K1.out C1.out K2.out C2.out (same_self _ (by have := HL.out; omega))).mono ?_
  rintro e w3 ⟨rfl, ⟨nd, rfl⟩⟩
  generalize Lib.validD s.data.toList = V
  have teq : (V == V) = true := by simp
  have B3 : Aside0 (Below w.heap.size w (w2.drewN nd)) := Aside0.mk (pw_below_drewN B2.out nd)
  go_wp2_with (go_at_call 15; refine (lives_calls (w2.drewN nd) (HT.out.below B3.out)).mono ?_; rintro en w4 ⟨rfl, hb4⟩)
  go_ret
  exact ⟨rfl, below_step B3.out hb4⟩
end Go.Proofs.YtapdipjcgjmdgaaDoor.Srcw
