/- delim: the end of all, walked. -/
import Derived.Test.YtalaedpiimdcbaaDelS
namespace Go.Proofs.Ytalaedpiimdcbaa.Dl
open Go Go.Lib Go.RowKit Go.Proofs.YtalaedpiimdcbaaW.PrintWords Go.Proofs.YtalaedpiimdcbaaW.PrintLast Go.Proofs.Ytalaedpiimdcbaa.Own Go.Proofs.Ytalaedpiimdcbaa.Hp Go.Proofs.Ytalaedpiimdcbaa.Srcw Go.Proofs.Ytalaedpiimdcbaa.Cr
set_option linter.unusedVariables false
set_option linter.unusedSimpArgs false
def EndRest (F : Nat → Prop) (w : World) (g gM gS : Nat) (m : MS) (c : CS) (wx : World) : Prop := D2 (ext F w) wx g gM gS m { c with q := c.q ++ ev0 m } ∧ Ch allT F w wx
theorem ends_len (m : MS) (more : Bool) : (endsM m more).2.1.length ≤ 4 := by
  have h : (cellE m).length ≤ 3 := by unfold cellE; split <;> simp
  unfold endsM
  repeat' split
  all_goals first | exact Nat.zero_le _ | (show (cellE m).length ≤ 4; omega) | (show (cellE m ++ [ev 9 noT]).length ≤ 4; rw [List.length_append, List.length_singleton]; omega)
set_option maxHeartbeats 16000000 in
set_option maxRecDepth 100000 in
theorem end_calls {F : Nat → Prop} {w : World} {g gM gS : Nat} {m : MS} {c : CS} (h : D2 F w g gM gS m c) (ho : MOK m) (hq : c.q.length ≤ 90000) :
    Calls Try.prog 58 #[ptr gM, tellF g] w (EndsPost F w g gM gS m c (endM m)) := by
  have H := Aside0.mk h
  have HO := Aside0.mk ho
  have HQ := Aside0.mk hq
  obtain ⟨hv, cv, k1, _⟩ := h.m.mach
  have K1 := Aside0.mk k1
  have c1 : w.cell? ⟨gM, 1, none⟩ = some (.bool m.started) := (blk_cell k1 1).trans rfl
  clear h ho hq k1
  go_enter Try.func58, Try.ntmps58
  go_upto_if 10 with fail
  go_cut [] from 6 to 13 (fun wx => Aside0 (EndRest F w g gM gS m c wx))
  case first =>
    cases hst : m.started with
    | true =>
      have HS := Aside0.mk hst
      rw [hst] at c1
      clear hst
      go_wp2
      go_meet
      case rel => exact ⟨⟨by unfold ev0; rw [if_pos HS.out, List.append_nil]; exact H.out.mono (fun _ h => ext_of h), Ch.refl _ _ _⟩⟩
    | false =>
      have HS := Aside0.mk hst
      rw [hst] at c1
      clear hst
      go_wp2_with fail
      refine (tell3 5 ⟨#[]⟩ ⟨#[]⟩ H.out.c (by have := HQ.out; omega)).mono ?_
      rintro e w3 ⟨rfl, hc3, hh3⟩
      have D3 := Aside0.mk (H.out.core hc3 hh3)
      have C3 := Aside0.mk (Ch.core_all hh3)
      clear hc3 hh3
      go_wp2
      go_meet
      case rel => exact ⟨⟨by unfold ev0; rw [if_neg (by rw [HS.out]; decide)]; exact D3.out, C3.out⟩⟩
  case rest =>
    have HC := hcut
    obtain ⟨hv2, cv2, k2, _⟩ := HC.out.1.m.mach
    have z0 : wc.cell? ⟨gM, 0, none⟩ = some (.int .i64 m.st) := (blk_cell k2 0).trans rfl
    have z2 : wc.cell? ⟨gM, 2, none⟩ = some (.bool m.row) := (blk_cell k2 2).trans rfl
    clear c1 k2 hcut
    have hev : (ev0 m).length ≤ 1 := by unfold ev0; split <;> simp
    have HE := Aside0.mk hev
    clear hev
    by_cases hs : m.st = 2
    · have HST := Aside0.mk hs
      rw [hs] at z0
      clear hs
      have HG := Aside0.mk (show endM m = (m, ev0 m, 2) by unfold endM; rw [if_pos HST.out])
      go_wp2
      go_ret
      rw [HG.out]
      exact ⟨rfl, HC.out.1, HC.out.2⟩
    · have HST := Aside0.mk hs
      obtain ⟨st, hst⟩ : ∃ st, m.st = st := ⟨_, rfl⟩
      rw [hst] at z0 hs
      have s2 : (st == 2) = false := by rw [beq_eq_false_iff_ne]; exact hs
      have s3 : decide (st = 2) = false := decide_eq_false hs
      clear hst hs
      cases hr : m.row with
      | false =>
        have HR := Aside0.mk hr
        rw [hr] at z2
        clear hr
        have HG := Aside0.mk (show endM m = (m, ev0 m ++ [ev 6 noT], 0) by unfold endM; rw [if_neg HST.out, if_neg (by rw [HR.out]; decide)])
        go_wp2_with fail
        refine (tell3 6 ⟨#[]⟩ ⟨#[]⟩ HC.out.1.c (by have := HQ.out; have := HE.out; show (c.q ++ ev0 m).length ≤ 1000000; rw [List.length_append]; omega)).mono ?_
        rintro e w3 ⟨rfl, hc3, hh3⟩
        have D3 := Aside0.mk ((HC.out.1.core hc3 hh3).mono (ext2 HC.out.2.size))
        have C3 := Aside0.mk (HC.out.2.trans (Ch.core_all hh3))
        clear hc3 hh3
        go_wp2
        go_ret
        rw [HG.out]
        refine ⟨rfl, ?_, C3.out⟩
        have := D3.out
        simp only [List.append_assoc] at this
        exact this
      | true =>
        have HR := Aside0.mk hr
        rw [hr] at z2
        clear hr
        have HLN := Aside0.mk (ends_len m false)
        have ends := fun (u : Unit) => ends_calls false HC.out.1 HO.out (by have := HQ.out; have := HE.out; show (c.q ++ ev0 m).length ≤ 100000; rw [List.length_append]; omega)
        have ENDS := Aside0.mk (ends ())
        clear ends
        by_cases hx : (endsM m false).2.2 = 0
        · have HG := Aside0.mk (show endM m = ((endsM m false).1, ev0 m ++ (endsM m false).2.1 ++ [ev 6 noT], 0) by unfold endM; rw [if_neg HST.out, if_pos HR.out, if_pos hx])
          have HX := Aside0.mk hx
          clear hx
          go_wp2_with fail
          refine ENDS.out.mono ?_
          rintro e w4 ⟨rfl, hd, hc⟩
          rw [HX.out]
          have D4 := Aside0.mk (hd.mono (ext2 HC.out.2.size))
          have C4 := Aside0.mk (HC.out.2.trans hc)
          clear hd hc
          go_wp2_with fail
          refine (tell3 6 ⟨#[]⟩ ⟨#[]⟩ D4.out.c (by have := HQ.out; have := HE.out; have := HLN.out; show (c.q ++ ev0 m ++ (endsM m false).2.1).length ≤ 1000000; rw [List.length_append, List.length_append]; omega)).mono ?_
          rintro e w5 ⟨rfl, hc5, hh5⟩
          have D5 := Aside0.mk ((D4.out.core hc5 hh5).mono (ext2 C4.out.size))
          have C5 := Aside0.mk (C4.out.trans (Ch.core_all hh5))
          clear hc5 hh5
          go_wp2
          go_ret
          rw [HG.out]
          refine ⟨rfl, ?_, C5.out⟩
          have := D5.out
          simp only [List.append_assoc] at this ⊢
          exact this
        · have HG := Aside0.mk (show endM m = ((endsM m false).1, ev0 m ++ (endsM m false).2.1, (endsM m false).2.2) by unfold endM; rw [if_neg HST.out, if_pos HR.out, if_neg hx])
          obtain ⟨y, hy⟩ : ∃ y, (endsM m false).2.2 = y := ⟨_, rfl⟩
          have HY := Aside0.mk hy
          rw [hy] at hx
          have s4 : (y == 0) = false := by rw [beq_eq_false_iff_ne]; exact hx
          have s5 : decide (y = 0) = false := decide_eq_false hx
          clear hx hy
          go_wp2_with fail
          refine ENDS.out.mono ?_
          rintro e w4 ⟨rfl, hd, hc⟩
          rw [HY.out]
          have D4 := Aside0.mk (hd.mono (ext2 HC.out.2.size))
          have C4 := Aside0.mk (HC.out.2.trans hc)
          clear hd hc
          go_wp2
          go_ret
          rw [HG.out, HY.out]
          refine ⟨rfl, ?_, C4.out⟩
          have := D4.out
          simp only [List.append_assoc] at this ⊢
          exact this
def stepMax : Nat := 5
theorem step_len (m : MS) (b : UInt8) : (stepM m b).2.1.length ≤ stepMax := by
  have hev : (ev0 m).length ≤ 1 := by unfold ev0; split <;> simp
  have h1 := ends_len (m1 m) true
  have h2 := ends_len (m1 m) false
  unfold stepM stepMax
  repeat' split
  all_goals (first | (show (ev0 m).length ≤ 5; omega) | (show (ev0 m ++ _).length ≤ 5; rw [List.length_append]; omega))
theorem end_len (m : MS) : (endM m).2.1.length ≤ 10 := by
  have hev : (ev0 m).length ≤ 1 := by unfold ev0; split <;> simp
  have h2 := ends_len m false
  unfold endM
  repeat' split
  all_goals (first | (show (ev0 m).length ≤ 10; omega) | (simp only [List.length_append, List.length_singleton]; omega))
abbrev newCells : Array Value := #[.int .i64 0, .bool false, .bool false, .slice none 0 0, .bool false, .slice none 0 0, .int .i64 0]
theorem new_mach {F : Nat → Prop} {w : World} {gM : Nat} (hF : F gM) (h : w.heap[gM]? = some (.cells newCells 55 (0, 0))) : IsM F w gM MS.new := ⟨hF, _, _, h, Row.nil _ _ _ _, Row.nil _ _ _ _⟩
end Go.Proofs.Ytalaedpiimdcbaa.Dl
