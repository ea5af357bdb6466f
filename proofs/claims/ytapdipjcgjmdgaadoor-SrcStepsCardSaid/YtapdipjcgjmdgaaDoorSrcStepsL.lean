/- The law SrcSteps, walked: it returns true at all bytes, in every world that holds utf8's two tables. -/
import Derived.Test.YtapdipjcgjmdgaaDoorSrcStepsP
import Derived.Test.YtapdipjcgjmdgaaDoorSrcLives
import Derived.Test.YtapdipjcgjmdgaaDoorSrcRefPutW
import Derived.Test.YtapdipjcgjmdgaaDoorOwn2
import Derived.Outline
namespace Go.Proofs.YtapdipjcgjmdgaaDoor.Srcw
open Go.RowKit Go.Proofs.YtapdipjcgjmdgaaDoorW.PrintWords Go.Proofs.YtapdipjcgjmdgaaDoorW.PrintLast Go.Proofs.YtapdipjcgjmdgaaDoor.Own Go.Proofs.YtapdipjcgjmdgaaDoor.Tab Go.Proofs.YtapdipjcgjmdgaaDoor.PSrcSteps
set_option linter.unusedVariables false
set_option linter.unusedSimpArgs false

theorem bnums_le (l : List UInt8) (h : l.length ≤ 3) : (bnums l).length ≤ 3 := by rw [bnums_len]; exact h

theorem full_ok (l : List UInt8) (h1 : 1 ≤ l.length) (h4 : l.length ≤ 4) (h : (oneL l).2 = l.length) : okL l = true := by
  have hne : l ≠ [] := by intro e; rw [e] at h1; simp at h1
  unfold oneL at h
  rw [if_neg hne, oneN_two] at h
  unfold okL
  apply decide_eq_true
  unfold okN lohi
  generalize l.length = n at *
  generalize (l.getD 0 0).toNat = b0 at *
  generalize (l.getD 1 0).toNat = b1 at *
  generalize (l.getD 2 0).toNat = b2 at *
  generalize (l.getD 3 0).toNat = b3 at *
  (repeat' split at h) <;> omega
theorem begins_own (l : List UInt8) (b : UInt8) (hl : l.length ≤ 3) (ho : (oneL (l ++ [b])).2 = 0 ∨ (oneL (l ++ [b])).2 = (l ++ [b]).length) :
    hexaplaref01_Begins.f 302 (strOfNums (bnums (l ++ [b]))) = some (okL (l ++ [b])) := by
  have hs : (strOfNums (bnums (l ++ [b]))).size = (l ++ [b]).length := by rw [strOfNums_size, bnums_len]
  have hlen : (l ++ [b]).length = l.length + 1 := by simp
  have h := Begins_is (strOfNums (bnums (l ++ [b]))) (by omega) (by omega) (by rw [bnums_str, hs]; exact ho)
  rw [bnums_str] at h
  rw [h]
  by_cases c : (oneL (l ++ [b])).2 = 0
  · rw [if_pos c]
  · rw [if_neg c, full_ok (l ++ [b]) (by omega) (by omega) (by omega)]
theorem one_own (k : Nat) (l : List UInt8) : hexaplaref01_One.f (k + 12) (strOfNums (bnums l)) = some (((oneL l).1 : Int), ((oneL l).2 : Int)) := by
  rw [one_is, bnums_str]

set_option maxHeartbeats 4000000 in
set_option maxRecDepth 100000 in
theorem law_SrcSteps (A : Option Addr) (len cap : Nat) (zs : List Int) (w : World) (hr : IsRow .u8 w A len cap zs) (hx : len * 1 ≤ 140737488351232) (hT : Tabs w) :
    Calls Tryd.prog 3 #[.slice A len cap] w fun e w' => e = .returned (.bool true) ∧ Below w.heap.size w w' := by
  have HT := Aside0.mk hT
  have HR := Aside0.mk hr
  have hlc := hr.len_le
  unfold maxLen at hlc
  clear hT hr
  obtain ⟨i0, hi0, _, hsz0, _⟩ := info_parts infoByte
  go_enter Tryd.func3, Tryd.ntmps3
  go_wp2_with fail
  refine (src_New.calls 0 128 191 w w (Below.refl _ _) rfl).mono ?_
  rintro e w1 ⟨g, rfl, ⟨hg1, hg0⟩, hb1, _⟩
  have G1 : Aside0 (ScanAt w1 g 0 128 191) := Aside0.mk hg1
  have G0 := Aside0.mk hg0
  have B1 := Aside0.mk hb1
  clear hg1 hg0 hb1
  go_wp2_with fail
  go_loopg [4, 5, 6, 7, 8] (len + 1) (fun gk v4 v5 _ _ _ wr => ∃ (i : Nat) (l : List UInt8) (sl sa st : Int), v5 = .int .i64 i ∧ Aside0 (i ≤ len) ∧ Aside0 (len - i < gk) ∧ Aside0 (Rel l (sl, sa, st)) ∧ Aside0 ((sl == 0) = ((l.length : Int) == 0)) ∧ Aside0 (ScanAt wr g sl sa st) ∧ Aside0 (Kd.R (Kd.int .u8) 5 wr w.heap.size (fun k => k ≠ g) v4 (bnums l)) ∧ Aside0 (Below w.heap.size w wr))
  case atStart => exact ⟨0, [], 0, 128, 191, rfl, ⟨Nat.zero_le _⟩, ⟨by omega⟩, ⟨.inl ⟨rfl, rfl⟩⟩, ⟨rfl⟩, G1, ⟨Kd.R_nil _ _ _ _ _⟩, B1⟩
  case round =>
    obtain ⟨i, l, sl, sa, st, rfl, P1, P2, P3, PZ, P4, P5, P6⟩ := hrel
    cases gk with
    | zero => exact absurd P2.out (by omega)
    | succ k1 =>
    by_cases hlt : i < len
    · obtain ⟨xa, hA, hcell0, hwf⟩ := HR.out.at_ i hlt
      obtain ⟨b, hb⟩ := byte_of hwf
      rw [hb] at hcell0
      clear hwf
      obtain ⟨hl3, hl0, hs3⟩ := rel_left l (sl, sa, st) P3.out
      have hgo := rel_goes l (sl, sa, st) b P3.out
      have HGO := Aside0.mk hgo
      have H0W := Aside0.mk hcell0
      have hcell := below_cell P6.out hcell0
      have HL3 := Aside0.mk hl3
      have HL0 := Aside0.mk hl0
      have HS3 := Aside0.mk hs3
      have HN := Aside0.mk (bnums_le l hl3)
      have HF := Aside0.mk (show ∀ k, wr.heap.size ≤ k → k ≠ g from fun k hk => by have := blk_lt P4.out; omega)
      clear hgo hl3 hl0 hs3 hb hcell0
      subst hA
      go_wp2_with ((with_reducible refine gate_builtin (b := .append) (xs := #[.tmp 18, .tmp 23]) rfl ?_); at_builtin; refine Kd.R_append (Kd.int .u8) (w0 := w) w.heap.size rfl (.tmp 18) (.tmp 23) 22 5 (.int .u8 0) 1 rfl Tryd.underlying22 infoByte rfl (by decide) (by omega) u4 (bnums l) (b.toNat : Int) [.int .u8 (b.toNat : Int)] (fun k => k ≠ g) (fun _ => False) rfl rfl ?aP (fun _ hk => hk.elim) HF.out P5.out P6.out P6.out.size (by have := HN.out; omega) ?_; (case aP => exact rfl); intro v2 w2 ho hb2 hg2 hat; have hcv := own_string (P := Tryd.prog) Tryd.underlying22 Tryd.underlying5 Tryd.underlying9 (Kd.own_of_R ho); rw [← bnums_app] at ho hcv; obtain ⟨A2, c2, hv2, hc2, hC2⟩ := Kd.R_reads ho; rw [show (bnums (l ++ [b])).length = l.length + 1 from by rw [bnums_len]; simp] at hv2 hc2; obtain rfl := hv2; have P7 := Aside0.mk ho; have P8 := Aside0.mk hb2; have P9 := Aside0.mk (blk_grown P4.out hg2 (fun h => (P5.out.1 g h.symm) rfl)); clear ho hb2 hg2 hat hC2)
      refine (hexaplaref01_Begins.calls 302 _ (okL (l ++ [b])) w2 (begins_own l b HL3.out HGO.out.2.1)).mono ?_
      rintro e w3 ⟨rfl, hb3⟩
      have Q9 : Aside0 (ScanAt w3 g sl sa st) := ⟨blk_below P9.out hb3⟩
      have Q7 : Aside0 (Kd.R (Kd.int .u8) 5 w3 w.heap.size (fun k => k ≠ g) (.slice A2 (l.length + 1) c2) (bnums (l ++ [b]))) := ⟨Kd.R_below P7.out hb3⟩
      have Q8 : Aside0 (Below w.heap.size w w3) := ⟨below_step P8.out hb3⟩
      have hcell3 := below_cell Q8.out H0W.out
      clear hb3 hcell hcv P7 P8 P9
      go_wp2_with fail
      refine (step_calls g sl sa st (b.toNat : Int) w w3 Q9.out Q8.out G0.out (by omega) (by have := b.toNat_lt; omega) HS3.out).mono ?_
      rintro e w4 ⟨rfl, hg4, hb4, hk4⟩
      rw [show (stepF sl sa st (b.toNat : Int)).1 = okL (l ++ [b]) from HGO.out.1]
      have Q7' := Aside0.mk (Kd.R_keep Q7.out hk4 (fun k hk => hk))
      have Q8' : Aside0 (Below w.heap.size w w4) := ⟨hb4⟩
      have Q9' := Aside0.mk hg4
      clear hg4 hb4 hk4 Q7 Q8 Q9 hcell3
      have hcv4 := own_string (P := Tryd.prog) Tryd.underlying22 Tryd.underlying5 Tryd.underlying9 (Kd.own_of_R Q7'.out)
      have hl33 := HL3.out
      have K4 : Aside0 (∀ nd, Below w.heap.size w (w4.drewN nd)) := ⟨fun nd => pw_below_drewN Q8'.out nd⟩
      generalize hR : (stepF sl sa st (b.toNat : Int)).2 = r at *
      obtain ⟨x1, x2, x3⟩ := r
      have HRr := Aside0.mk hR
      clear hR
      cases hok : okL (l ++ [b])
      · have HOK := Aside0.mk hok
        have hst : (x1, x2, x3) = (sl, sa, st) := by rw [← HRr.out]; exact HGO.out.2.2.2.2 hok
        simp only [Prod.mk.injEq] at hst
        obtain ⟨rfl, rfl, rfl⟩ := hst
        clear hok
        have hcut := cut_to (P := Tryd.prog) 22 5 .i64 Tryd.underlying22 hi0 A2 (l.length + 1) c2 (l.length : Int) (by omega) (by omega) hc2
        rw [Int.toNat_natCast] at hcut
        have P7b : Aside0 (Kd.R (Kd.int .u8) 5 w4 w.heap.size (fun k => k ≠ g) (.slice A2 l.length c2) (bnums l)) := ⟨by have h7 := Q7'.out; rw [bnums_app] at h7; have h8 := R_init h7; rw [bnums_len] at h8; exact h8⟩
        have hcv5 := own_string (P := Tryd.prog) Tryd.underlying22 Tryd.underlying5 Tryd.underlying9 (Kd.own_of_R P7b.out)
        go_wp2_with fail
        refine (hexaplaref01_One.calls 12 _ _ _ w4 (one_own 0 l)).mono ?_
        rintro e w5 ⟨rfl, ⟨nd, rfl⟩⟩
        rw [show (oneL l).2 = 0 from HL0.out]
        clear hcut hcv4 hcv5
        go_wp2_with fail
        refine (src_Scan_Whole.calls g x1 x2 x3 (x1 == 0) x1 x2 x3 w (w4.drewN nd) ⟨Q9'.out, G0.out⟩ (K4.out nd) rfl).mono ?_
        rintro e w6 ⟨rfl, ⟨hg6, _⟩, hb6, hk6⟩
        rw [show (x1 == 0) = ((l.length : Int) == 0) from PZ.out]
        have T1 : Aside0 (Kd.R (Kd.int .u8) 5 w6 w.heap.size (fun k => k ≠ g) (.slice A2 l.length c2) (bnums l)) := ⟨Kd.R_keep (show Kd.R (Kd.int .u8) 5 (w4.drewN nd) w.heap.size (fun k => k ≠ g) (.slice A2 l.length c2) (bnums l) from P7b.out) hk6 (fun k hk => hk)⟩
        have T2 : Aside0 (ScanAt w6 g x1 x2 x3) := ⟨hg6⟩
        have T3 := Aside0.mk hb6
        clear hg6 hb6 hk6
        have teq : (((l.length : Int) == 0) != ((l.length : Int) == 0)) = false := by simp
        go_wp2
        go_roundg k1
        case measure => have := P2.out; omega
        case rel => exact ⟨i + 1, l, x1, x2, x3, by go_num, ⟨by omega⟩, ⟨by have := P2.out; omega⟩, P3, PZ, T2, T1, T3⟩
      · have HOK := Aside0.mk hok
        clear hok
        go_wp2_with fail
        refine (hexaplaref01_One.calls 12 _ _ _ w4 (one_own 0 (l ++ [b]))).mono ?_
        rintro e w5 ⟨rfl, ⟨nd, rfl⟩⟩
        clear hcv4
        by_cases hn : (oneL (l ++ [b])).2 = 0
        · have hg := HGO.out.2.2.2.1 HOK.out hn
          rw [HRr.out] at hg
          obtain ⟨hrel2, hpos⟩ := hg
          rw [hn]
          have HREL := Aside0.mk hrel2
          have e1 : (x1 == 0) = false := by rw [beq_eq_false_iff_ne]; simp only at hpos; omega
          have HE1 := Aside0.mk e1
          clear hn hrel2 hpos e1
          go_wp2_with fail
          refine (src_Scan_Whole.calls g x1 x2 x3 (x1 == 0) x1 x2 x3 w (w4.drewN nd) ⟨Q9'.out, G0.out⟩ (K4.out nd) rfl).mono ?_
          rintro e w6 ⟨rfl, ⟨hg6, _⟩, hb6, hk6⟩
          rw [show (x1 == 0) = false from HE1.out]
          have T1 : Aside0 (Kd.R (Kd.int .u8) 5 w6 w.heap.size (fun k => k ≠ g) (.slice A2 (l.length + 1) c2) (bnums (l ++ [b]))) := ⟨Kd.R_keep (show Kd.R (Kd.int .u8) 5 (w4.drewN nd) w.heap.size (fun k => k ≠ g) (.slice A2 (l.length + 1) c2) (bnums (l ++ [b])) from Q7'.out) hk6 (fun k hk => hk)⟩
          have T2 : Aside0 (ScanAt w6 g x1 x2 x3) := ⟨hg6⟩
          have T3 := Aside0.mk hb6
          clear hg6 hb6 hk6
          have teq : (((l.length : Int) + 1) == 0) = false := by rw [beq_eq_false_iff_ne]; omega
          go_wp2
          go_roundg k1
          case measure => have := P2.out; omega
          case rel => exact ⟨i + 1, l ++ [b], x1, x2, x3, by go_num, ⟨by omega⟩, ⟨by have := P2.out; omega⟩, HREL, ⟨by rw [HE1.out, List.length_append]; symm; rw [beq_eq_false_iff_ne]; simp; omega⟩, T2, T1, T3⟩
        · have hg := HGO.out.2.2.1 HOK.out hn
          rw [HRr.out] at hg
          simp only [Prod.mk.injEq] at hg
          obtain ⟨rfl, rfl, rfl⟩ := hg
          obtain ⟨N, hN⟩ : ∃ N, N = (oneL (l ++ [b])).2 := ⟨_, rfl⟩
          rw [← hN] at hn ⊢
          have t1 : decide ((0 : Int) < (N : Int)) = true := decide_eq_true (by omega)
          have t2 : decide (0 < N) = true := decide_eq_true (by omega)
          clear hn hN
          go_wp2_with fail
          refine (src_Scan_Whole.calls g 0 128 191 true 0 128 191 w (w4.drewN nd) ⟨Q9'.out, G0.out⟩ (K4.out nd) rfl).mono ?_
          rintro e w6 ⟨rfl, ⟨hg6, _⟩, hb6, hk6⟩
          have T2 : Aside0 (ScanAt w6 g 0 128 191) := ⟨hg6⟩
          have T3 := Aside0.mk hb6
          clear hg6 hb6 hk6
          go_wp2
          go_roundg k1
          case measure => have := P2.out; omega
          case rel => exact ⟨i + 1, [], 0, 128, 191, by go_num, ⟨by omega⟩, ⟨by have := P2.out; omega⟩, ⟨.inl ⟨rfl, rfl⟩⟩, ⟨rfl⟩, T2, ⟨Kd.R_nil _ _ _ _ _⟩, T3⟩
    · go_wp2_with (go_at_call 15; refine (lives_calls wr (HT.out.below P6.out)).mono ?_; rintro en w3 ⟨rfl, hb3⟩)
      go_ret
      exact ⟨rfl, below_step P6.out hb3⟩
end Go.Proofs.YtapdipjcgjmdgaaDoor.Srcw
