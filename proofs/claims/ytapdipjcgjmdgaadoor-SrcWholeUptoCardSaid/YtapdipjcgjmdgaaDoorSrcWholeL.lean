/- The law SrcWhole, walked: it returns true at every text, in every world that holds utf8's two tables. -/
import Derived.Test.YtapdipjcgjmdgaaDoorSrcValidP
import Derived.Test.YtapdipjcgjmdgaaDoorSrcLives
import Derived.Outline
namespace Go.Proofs.YtapdipjcgjmdgaaDoor.Srcw
open Go.RowKit Go.Proofs.YtapdipjcgjmdgaaDoorW.PrintWords Go.Proofs.YtapdipjcgjmdgaaDoorW.PrintLast Go.Proofs.YtapdipjcgjmdgaaDoor.Own Go.Proofs.YtapdipjcgjmdgaaDoor.Tab Go.Proofs.YtapdipjcgjmdgaaDoor.PSrcSteps
set_option linter.unusedVariables false
set_option linter.unusedSimpArgs false

/-- What is known of a text of which some bytes were gone through: 'al': did all go on? -/
def Thru (s : ByteArray) (i : Nat) (al : Bool) (l : List UInt8) : Prop := if al then Lib.validD s.data.toList = Lib.validD (l ++ s.data.toList.drop i) else Lib.validD s.data.toList = false

theorem drop_at (s : ByteArray) (i : Nat) (h : i < s.size) : s.data.toList.drop i = s[i] :: s.data.toList.drop (i + 1) := by
  have hl : i < s.data.toList.length := by rw [size_data]; exact h
  rw [List.drop_eq_getElem_cons hl]
  simp
  rfl

theorem thru_ok_full {s : ByteArray} {i : Nat} {al : Bool} {l : List UInt8} (h : Thru s i al l) (hi : i < s.size) (hf : (oneL (l ++ [s[i]])).2 = (l ++ [s[i]]).length) : Thru s (i + 1) al [] := by
  unfold Thru at *
  cases al
  · exact h
  · rw [if_pos rfl] at h ⊢
    have hv := valid_full (l ++ [s[i]]) (s.data.toList.drop (i + 1)) (by simp) hf
    rw [h, drop_at s i hi, show l ++ s[i] :: s.data.toList.drop (i + 1) = (l ++ [s[i]]) ++ s.data.toList.drop (i + 1) from by simp]
    exact hv
theorem thru_ok_part {s : ByteArray} {i : Nat} {al : Bool} {l : List UInt8} (h : Thru s i al l) (hi : i < s.size) : Thru s (i + 1) al (l ++ [s[i]]) := by
  unfold Thru at *
  cases al
  · exact h
  · rw [if_pos rfl] at h ⊢
    rw [h, drop_at s i hi]
    simp
theorem thru_no {s : ByteArray} {i : Nat} {al : Bool} {l : List UInt8} (h : Thru s i al l) (hi : i < s.size) (hl : l.length ≤ 3) (h0 : (oneL l).2 = 0) (hk : okL (l ++ [s[i]]) = false) : Thru s (i + 1) false l := by
  unfold Thru at *
  rw [if_neg (by simp)]
  cases al
  · exact h
  · rw [if_pos rfl] at h
    rw [h, drop_at s i hi, valid_none l _ _ hl h0 hk]
theorem thru_end {s : ByteArray} {al : Bool} {l : List UInt8} {st : Int × Int × Int} (h : Thru s s.size al l) (hr : Rel l st) : Lib.validD s.data.toList = (al && l.isEmpty) := by
  unfold Thru at h
  cases al
  · exact h
  · rw [if_pos rfl, List.drop_of_length_le (by rw [size_data]; exact Nat.le_refl _), List.append_nil, valid_rel l st hr] at h
    rw [h]; rfl

set_option maxHeartbeats 4000000 in
set_option maxRecDepth 100000 in
theorem law_SrcWhole (s : ByteArray) (hs : s.size ≤ 1048576) (w : World) (hT : Tabs w) :
    Calls Tryd.prog 7 #[.string s] w fun e w' => e = .returned (.bool true) ∧ Below w.heap.size w w' := by
  have HT := Aside0.mk hT
  clear hT
  go_enter Tryd.func7, Tryd.ntmps7
  go_wp2_with fail
  refine (src_New.calls 0 128 191 w w (Below.refl _ _) rfl).mono ?_
  rintro e w1 ⟨g, rfl, ⟨hg1, hg0⟩, hb1, _⟩
  have G1 : Aside0 (ScanAt w1 g 0 128 191) := Aside0.mk hg1
  have G0 := Aside0.mk hg0
  have B1 := Aside0.mk hb1
  clear hg1 hg0 hb1
  go_wp2_with fail
  go_loopg [4, 5, 6] (s.size + 1) (fun gk v4 v5 _ wr => ∃ (i : Nat) (al : Bool) (l : List UInt8) (sl sa st : Int), v5 = .int .i64 i ∧ v4 = .bool al ∧ Aside0 (i ≤ s.size) ∧ Aside0 (s.size - i < gk) ∧ Aside0 (Rel l (sl, sa, st)) ∧ Aside0 ((sl == 0) = l.isEmpty) ∧ Aside0 (Thru s i al l) ∧ Aside0 (ScanAt wr g sl sa st) ∧ Aside0 (Below w.heap.size w wr))
  case atStart => exact ⟨0, true, [], 0, 128, 191, rfl, rfl, ⟨Nat.zero_le _⟩, ⟨by omega⟩, ⟨.inl ⟨rfl, rfl⟩⟩, ⟨rfl⟩, ⟨by unfold Thru; rw [if_pos rfl]; rfl⟩, G1, B1⟩
  case round =>
    obtain ⟨i, al, l, sl, sa, st, rfl, rfl, P1, P2, P3, PZ, PT, P4, P6⟩ := hrel
    cases gk with
    | zero => exact absurd P2.out (by omega)
    | succ k1 =>
    by_cases hlt : i < s.size
    · obtain ⟨hl3, hl0, hs3⟩ := rel_left l (sl, sa, st) P3.out
      have HGO := Aside0.mk (rel_goes l (sl, sa, st) s[i] P3.out)
      have HL3 := Aside0.mk hl3
      have HL0 := Aside0.mk hl0
      have HS3 := Aside0.mk hs3
      clear hl3 hl0 hs3
      go_wp2_with fail
      refine (step_calls g sl sa st (s[i].toNat : Int) w wr P4.out P6.out G0.out (by omega) (by have := s[i].toNat_lt; omega) HS3.out).mono ?_
      rintro e w4 ⟨rfl, hg4, hb4, hk4⟩
      rw [show (stepF sl sa st (s[i].toNat : Int)).1 = okL (l ++ [s[i]]) from HGO.out.1]
      have Q8 := Aside0.mk hb4
      have Q9 := Aside0.mk hg4
      clear hg4 hb4 hk4
      generalize hR : (stepF sl sa st (s[i].toNat : Int)).2 = r at *
      obtain ⟨x1, x2, x3⟩ := r
      have HRr := Aside0.mk hR
      clear hR
      cases hok : okL (l ++ [s[i]])
      · have HOK := Aside0.mk hok
        have hst : (x1, x2, x3) = (sl, sa, st) := by rw [← HRr.out]; exact HGO.out.2.2.2.2 hok
        simp only [Prod.mk.injEq] at hst
        obtain ⟨rfl, rfl, rfl⟩ := hst
        have PT2 : Aside0 (Thru s (i + 1) false l) := ⟨thru_no PT.out hlt HL3.out HL0.out hok⟩
        clear hok
        cases al
        all_goals
          go_wp2
          go_roundg k1
          case measure => have := P2.out; omega
          case rel => exact ⟨i + 1, false, l, x1, x2, x3, by go_num, rfl, ⟨by omega⟩, ⟨by have := P2.out; omega⟩, P3, PZ, PT2, Q9, Q8⟩
      · have HOK := Aside0.mk hok
        clear hok
        by_cases hn : (oneL (l ++ [s[i]])).2 = 0
        · have hg := HGO.out.2.2.2.1 HOK.out hn
          rw [HRr.out] at hg
          obtain ⟨hrel2, hpos⟩ := hg
          have HREL := Aside0.mk hrel2
          have e1 : (x1 == 0) = false := by rw [beq_eq_false_iff_ne]; simp only at hpos; omega
          have HE1 := Aside0.mk e1
          have PT2 : Aside0 (Thru s (i + 1) al (l ++ [s[i]])) := ⟨thru_ok_part PT.out hlt⟩
          clear hn hrel2 hpos e1
          cases al
          all_goals
            go_wp2
            go_roundg k1
            case measure => have := P2.out; omega
            case rel => exact ⟨i + 1, _, l ++ [s[i]], x1, x2, x3, by go_num, rfl, ⟨by omega⟩, ⟨by have := P2.out; omega⟩, HREL, ⟨by rw [HE1.out]; cases l <;> rfl⟩, PT2, Q9, Q8⟩
        · have hg := HGO.out.2.2.1 HOK.out hn
          have hf := HGO.out.2.1.resolve_left hn
          rw [HRr.out] at hg
          simp only [Prod.mk.injEq] at hg
          obtain ⟨rfl, rfl, rfl⟩ := hg
          have PT2 : Aside0 (Thru s (i + 1) al []) := ⟨thru_ok_full PT.out hlt hf⟩
          clear hn hf
          cases al
          all_goals
            go_wp2
            go_roundg k1
            case measure => have := P2.out; omega
            case rel => exact ⟨i + 1, _, [], 0, 128, 191, by go_num, rfl, ⟨by omega⟩, ⟨by have := P2.out; omega⟩, ⟨.inl ⟨rfl, rfl⟩⟩, ⟨rfl⟩, PT2, Q9, Q8⟩
    · have hi : i = s.size := by have := P1.out; omega
      have hPT := PT.out
      rw [hi] at hPT
      have hend : Lib.validD s.data.toList = (al && l.isEmpty) := thru_end hPT P3.out
      clear hPT hi
      rw [← PZ.out] at hend
      have HEND := Aside0.mk hend
      clear hend
      go_wp2_with fail
      refine (runes_calls s wr (by omega) (valid_calls s wr (by omega) (HT.out.below P6.out))).mono ?_
      rintro e w5 ⟨v5, rfl, ho5, hb5⟩
      rw [show Lib.validD s.data.toList = (al && (sl == 0)) from HEND.out]
      have G5 : Aside0 (ScanAt w5 g sl sa st) := Aside0.mk (blk_below P4.out hb5)
      have B5 : Aside0 (Below w.heap.size w w5) := Aside0.mk (below_step P6.out hb5)
      clear ho5 hb5
      cases al
      · rw [Bool.false_and]
        go_wp2_with (go_at_call 15; refine (lives_calls w5 (HT.out.below B5.out)).mono ?_; rintro en w6 ⟨rfl, hb6⟩)
        go_ret
        exact ⟨rfl, below_step B5.out hb6⟩
      · rw [Bool.true_and]
        go_wp2_with fail
        refine (src_Scan_Whole.calls g sl sa st (sl == 0) sl sa st w w5 ⟨G5.out, G0.out⟩ B5.out rfl).mono ?_
        rintro e w6 ⟨rfl, _, hb6, _⟩
        have B6 := Aside0.mk hb6
        clear hb6
        have teq : ((sl == 0) == (sl == 0)) = true := by simp
        go_wp2_with (go_at_call 15; refine (lives_calls w6 (HT.out.below B6.out)).mono ?_; rintro en w7 ⟨rfl, hb7⟩)
        go_ret
        exact ⟨rfl, below_step B6.out hb7⟩
end Go.Proofs.YtapdipjcgjmdgaaDoor.Srcw
