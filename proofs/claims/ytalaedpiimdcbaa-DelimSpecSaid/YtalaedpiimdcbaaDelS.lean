/- delim: one byte, and the end, walked. -/
import Derived.Test.YtalaedpiimdcbaaDelE
import Derived.Deep.CutBlock
namespace Go.Proofs.Ytalaedpiimdcbaa.Dl
open Go Go.Lib Go.RowKit Go.Proofs.YtalaedpiimdcbaaW.PrintWords Go.Proofs.YtalaedpiimdcbaaW.PrintLast Go.Proofs.Ytalaedpiimdcbaa.Own Go.Proofs.Ytalaedpiimdcbaa.Hp Go.Proofs.Ytalaedpiimdcbaa.Srcw Go.Proofs.Ytalaedpiimdcbaa.Cr
set_option linter.unusedVariables false
set_option linter.unusedSimpArgs false
theorem says_x {F : Nat → Prop} {w : World} {gM : Nat} {m : MS} {b : UInt8} {x : Int} (hx : (b.toNat : Int) = x) (h : IsM F w gM m) (hc : m.cell.length ≤ 48) :
    Calls Try.prog 60 #[ptr gM, .int .u8 x] w fun e w' => e = .returned (.int .i64 (saysM m b).2) ∧ IsM (ext F w) w' gM (saysM m b).1 ∧ Ch machT F w w' := by
  subst hx; exact says_calls b h hc
theorem started_same {m : MS} (h : m.started = true) : { m with started := true } = m := by cases m; simp at h; subst h; rfl
theorem byte_is {b k : UInt8} {x : Int} (hx : (b.toNat : Int) = x) (hk : (k.toNat : Int) = x) : b = k := UInt8.toNat_inj.1 (by omega)
theorem byte_not {b k : UInt8} {x : Int} (hx : (b.toNat : Int) = x) (hk : ¬ x = (k.toNat : Int)) : ¬ b = k := fun h => hk (by rw [← hx, h])
theorem byte_lt {b k : UInt8} {x : Int} (hx : (b.toNat : Int) = x) (hk : x < (k.toNat : Int)) : b < k := UInt8.lt_iff_toNat_lt.2 (by omega)
theorem byte_nlt {b k : UInt8} {x : Int} (hx : (b.toNat : Int) = x) (hk : ¬ x < (k.toNat : Int)) : ¬ b < k := fun h => hk (by have := UInt8.lt_iff_toNat_lt.1 h; omega)
section
variable {F : Nat → Prop} {w w1 w2 : World} {g gM gS : Nat} {m m' : MS} {c : CS} {r : MS × List Ev × Int}
theorem post_step (hr : r = (m', ev0 m, r.2.2)) (hD : D2 (ext F w) w2 g gM gS m' { c with q := c.q ++ ev0 m }) (hC : Ch allT F w w2) : EndsPost F w g gM gS m c r (.returned (.int .i64 r.2.2)) w2 := by
  rw [hr]; exact ⟨rfl, hD, hC⟩
end
def StepRest (F : Nat → Prop) (w : World) (g gM gS : Nat) (m : MS) (c : CS) (wx : World) : Prop := D2 (ext F w) wx g gM gS { m with started := true } { c with q := c.q ++ ev0 m } ∧ Ch allT F w wx
set_option maxHeartbeats 16000000 in
set_option maxRecDepth 100000 in
theorem step_calls {F : Nat → Prop} {w : World} {g gM gS : Nat} {m : MS} {c : CS} (b : UInt8) (h : D2 F w g gM gS m c) (ho : MOK m) (hq : c.q.length ≤ 90000) :
    Calls Try.prog 59 #[ptr gM, .int .u8 (b.toNat : Int), tellF g] w (EndsPost F w g gM gS m c (stepM m b)) := by
  have H := Aside0.mk h
  have HO := Aside0.mk ho
  have HQ := Aside0.mk hq
  obtain ⟨x, hx⟩ : ∃ x : Int, (b.toNat : Int) = x := ⟨_, rfl⟩
  have hx0 : 0 ≤ x ∧ x ≤ 255 := by have := b.toNat_lt; omega
  rw [hx]
  have HX := Aside0.mk hx
  obtain ⟨hv, cv, k1, _⟩ := h.m.mach
  have K1 := Aside0.mk k1
  have P1 := Aside0.mk (h.m.put (m' := { m with started := true }) 1 (.bool true) (fun _ _ => rfl) rfl rfl)
  have c1 : w.cell? ⟨gM, 1, none⟩ = some (.bool m.started) := (blk_cell k1 1).trans rfl
  have f1 := blk_frozen k1 1
  clear h ho hq k1 hx
  go_enter Try.func59, Try.ntmps59
  go_upto_if 11 with fail
  go_cut [] from 7 to 17 (fun wx => Aside0 (StepRest F w g gM gS m c wx))
  case first =>
    cases hst : m.started with
    | true =>
      have HS := Aside0.mk hst
      rw [hst] at c1
      clear hst
      go_wp2
      go_meet
      case rel => exact ⟨⟨by rw [started_same HS.out]; unfold ev0; rw [if_pos HS.out, List.append_nil]; exact H.out.mono (fun _ h => ext_of h), Ch.refl _ _ _⟩⟩
    | false =>
      have HS := Aside0.mk hst
      rw [hst] at c1
      have DP := Aside0.mk (show D2 F _ g gM gS _ c from ⟨P1.out.1, H.out.c.stay P1.out.2⟩)
      clear hst
      go_wp2_with fail
      refine (tell3 5 ⟨#[]⟩ ⟨#[]⟩ DP.out.c (by have := HQ.out; omega)).mono ?_
      rintro e w3 ⟨rfl, hc3, hh3⟩
      have D3 := Aside0.mk ((DP.out.core hc3 hh3).mono (F' := ext F w) (fun k hk => by rcases hk with hk | hk; exact .inl hk; exact .inr (by simpa using hk)))
      have C3 := Aside0.mk ((Ch.mach_all P1.out.2).trans ((Ch.core_all hh3).mono (fun _ h => h) (fun _ h => ext_of h)))
      clear hc3 hh3
      go_wp2
      go_meet
      case rel => exact ⟨⟨by unfold ev0; rw [if_neg (by rw [HS.out]; decide)]; exact D3.out, C3.out⟩⟩
  case rest =>
    have HC := hcut
    obtain ⟨hv2, cv2, k2, _⟩ := HC.out.1.m.mach
    have c2 := (blk_cell k2 2).trans rfl
    have f2 := blk_frozen k2 2
    have P2 := Aside0.mk (HC.out.1.m.put (m' := m1 m) 2 (.bool true) (fun _ _ => rfl) rfl rfl)
    obtain ⟨hv3, cv3, k3, _⟩ := P2.out.1.mach
    have K3 := Aside0.mk k3
    have z0 : (wc.setCell ⟨gM, 2, none⟩ (.bool true)).cell? ⟨gM, 0, none⟩ = some (.int .i64 m.st) := (blk_cell k3 0).trans rfl
    have g0 := blk_frozen k3 0
    have D3 := Aside0.mk (show D2 (ext F w) _ g gM gS (m1 m) { c with q := c.q ++ ev0 m } from ⟨P2.out.1, HC.out.1.c.stay P2.out.2⟩)
    have C3 := Aside0.mk (HC.out.2.trans (Ch.mach_all P2.out.2))
    clear c1 f1 k2 k3 hcut
    have hev : (ev0 m).length ≤ 1 := by unfold ev0; split <;> simp
    have HE := Aside0.mk hev
    clear hev
    rcases HO.out.st with hs | hs | hs | hs
    · have HST := Aside0.mk hs
      rw [hs] at z0
      clear hs
      by_cases h44 : x = 44
      · skip
        have HG := Aside0.mk (show stepM m b = ((endsM (m1 m) true).1, ev0 m ++ (endsM (m1 m) true).2.1, (endsM (m1 m) true).2.2) by unfold stepM; rw [if_neg (by rw [HST.out]; decide), if_pos (byte_is (k := 44) HX.out (by rw [h44]; rfl))])
        subst h44
        go_wp2_with (go_at_call 61; refine (ends_calls true D3.out (HO.out.with HO.out.st rfl rfl rfl rfl) (by have := HQ.out; have := HE.out; show (c.q ++ ev0 m).length ≤ 100000; rw [List.length_append]; omega)).mono ?_; rintro e w4 ⟨rfl, hd, hc⟩; have D4 := Aside0.mk (hd.mono (ext2 C3.out.size)); have C4 := Aside0.mk (C3.out.trans hc); clear hd hc)
        go_ret
        rw [HG.out]
        refine ⟨rfl, ?_, C4.out⟩
        have := D4.out
        simp only [List.append_assoc] at this
        exact this
      · skip
        by_cases h10 : x = 10
        · skip
          have HG := Aside0.mk (show stepM m b = ((endsM (m1 m) false).1, ev0 m ++ (endsM (m1 m) false).2.1, (endsM (m1 m) false).2.2) by unfold stepM; rw [if_neg (by rw [HST.out]; decide), if_neg (byte_not (k := 44) HX.out h44), if_pos (byte_is (k := 10) HX.out (by rw [h10]; rfl))])
          subst h10
          go_wp2_with (go_at_call 61; refine (ends_calls false D3.out (HO.out.with HO.out.st rfl rfl rfl rfl) (by have := HQ.out; have := HE.out; show (c.q ++ ev0 m).length ≤ 100000; rw [List.length_append]; omega)).mono ?_; rintro e w4 ⟨rfl, hd, hc⟩; have D4 := Aside0.mk (hd.mono (ext2 C3.out.size)); have C4 := Aside0.mk (C3.out.trans hc); clear hd hc)
          go_ret
          rw [HG.out]
          refine ⟨rfl, ?_, C4.out⟩
          have := D4.out
          simp only [List.append_assoc] at this
          exact this
        · skip
          by_cases h32 : x < 32
          · skip
            have HG := Aside0.mk (show stepM m b = (m1 m, ev0 m, 2) by unfold stepM; rw [if_neg (by rw [HST.out]; decide), if_neg (byte_not (k := 44) HX.out h44), if_neg (byte_not (k := 10) HX.out h10), if_neg (by rw [HST.out]; decide), if_pos (byte_lt (k := 32) HX.out h32)])
            have n44 : (x == 44) = false := by rw [beq_eq_false_iff_ne]; exact h44
            have m44 : decide (x = 44) = false := decide_eq_false h44
            have n10 : (x == 10) = false := by rw [beq_eq_false_iff_ne]; exact h10
            have m10 : decide (x = 10) = false := decide_eq_false h10
            have lt32 : decide (x < 32) = true := decide_eq_true h32
            clear h32 h44 h10
            go_wp2
            go_ret
            rw [HG.out]
            exact ⟨rfl, D3.out, C3.out⟩
          · skip
            by_cases h34 : x = 34
            · skip
              have HG := Aside0.mk (show stepM m b = ((m1 m).to 2, ev0 m, 0) by unfold stepM; rw [if_neg (by rw [HST.out]; decide), if_neg (byte_not (k := 44) HX.out h44), if_neg (byte_not (k := 10) HX.out h10), if_neg (by rw [HST.out]; decide), if_neg (byte_nlt (k := 32) HX.out h32), if_pos (byte_is (k := 34) HX.out (by rw [h34]; rfl)), if_neg (by rw [HST.out]; decide)])
              subst h34
              have P4 := Aside0.mk (P2.out.1.put (m' := (m1 m).to 2) 0 (.int .i64 2) (fun _ _ => rfl) rfl rfl)
              go_wp2
              go_ret
              rw [HG.out]
              exact ⟨rfl, ⟨P4.out.1, D3.out.c.stay P4.out.2⟩, C3.out.trans (Ch.mach_all P4.out.2)⟩
            · skip
              have HG := Aside0.mk (show stepM m b = ((saysM ((m1 m).to 1) b).1, ev0 m, (saysM ((m1 m).to 1) b).2) by unfold stepM; rw [if_neg (by rw [HST.out]; decide), if_neg (byte_not (k := 44) HX.out h44), if_neg (byte_not (k := 10) HX.out h10), if_neg (by rw [HST.out]; decide), if_neg (byte_nlt (k := 32) HX.out h32), if_neg (byte_not (k := 34) HX.out h34)])
              have n34 : (x == 34) = false := by rw [beq_eq_false_iff_ne]; exact h34
              have m34 : decide (x = 34) = false := decide_eq_false h34
              have n44 : (x == 44) = false := by rw [beq_eq_false_iff_ne]; exact h44
              have m44 : decide (x = 44) = false := decide_eq_false h44
              have n10 : (x == 10) = false := by rw [beq_eq_false_iff_ne]; exact h10
              have m10 : decide (x = 10) = false := decide_eq_false h10
              have lt32 : decide (x < 32) = false := decide_eq_false h32
              clear h32 h34 h44 h10
              have P4 := Aside0.mk (P2.out.1.put (m' := (m1 m).to 1) 0 (.int .i64 1) (fun _ _ => rfl) rfl rfl)
              have D3b := Aside0.mk (show D2 (ext F w) _ g gM gS ((m1 m).to 1) { c with q := c.q ++ ev0 m } from ⟨P4.out.1, D3.out.c.stay P4.out.2⟩)
              have C3b := Aside0.mk (C3.out.trans (Ch.mach_all P4.out.2))
              go_wp2_with (go_at_call 60; refine (says_x HX.out P4.out.1 HO.out.cell).mono ?_; rintro e w4 ⟨rfl, hm, hc⟩; have D4 := Aside0.mk ((D3b.out.mach hm hc).mono (ext2 C3b.out.size)); have C4 := Aside0.mk (C3b.out.trans (Ch.mach_all hc)); clear hm hc)
              go_ret
              rw [HG.out]
              exact ⟨rfl, D4.out, C4.out⟩
    · have HST := Aside0.mk hs
      rw [hs] at z0
      clear hs
      by_cases h44 : x = 44
      · skip
        have HG := Aside0.mk (show stepM m b = ((endsM (m1 m) true).1, ev0 m ++ (endsM (m1 m) true).2.1, (endsM (m1 m) true).2.2) by unfold stepM; rw [if_neg (by rw [HST.out]; decide), if_pos (byte_is (k := 44) HX.out (by rw [h44]; rfl))])
        subst h44
        go_wp2_with (go_at_call 61; refine (ends_calls true D3.out (HO.out.with HO.out.st rfl rfl rfl rfl) (by have := HQ.out; have := HE.out; show (c.q ++ ev0 m).length ≤ 100000; rw [List.length_append]; omega)).mono ?_; rintro e w4 ⟨rfl, hd, hc⟩; have D4 := Aside0.mk (hd.mono (ext2 C3.out.size)); have C4 := Aside0.mk (C3.out.trans hc); clear hd hc)
        go_ret
        rw [HG.out]
        refine ⟨rfl, ?_, C4.out⟩
        have := D4.out
        simp only [List.append_assoc] at this
        exact this
      · skip
        by_cases h10 : x = 10
        · skip
          have HG := Aside0.mk (show stepM m b = ((endsM (m1 m) false).1, ev0 m ++ (endsM (m1 m) false).2.1, (endsM (m1 m) false).2.2) by unfold stepM; rw [if_neg (by rw [HST.out]; decide), if_neg (byte_not (k := 44) HX.out h44), if_pos (byte_is (k := 10) HX.out (by rw [h10]; rfl))])
          subst h10
          go_wp2_with (go_at_call 61; refine (ends_calls false D3.out (HO.out.with HO.out.st rfl rfl rfl rfl) (by have := HQ.out; have := HE.out; show (c.q ++ ev0 m).length ≤ 100000; rw [List.length_append]; omega)).mono ?_; rintro e w4 ⟨rfl, hd, hc⟩; have D4 := Aside0.mk (hd.mono (ext2 C3.out.size)); have C4 := Aside0.mk (C3.out.trans hc); clear hd hc)
          go_ret
          rw [HG.out]
          refine ⟨rfl, ?_, C4.out⟩
          have := D4.out
          simp only [List.append_assoc] at this
          exact this
        · skip
          by_cases h32 : x < 32
          · skip
            have HG := Aside0.mk (show stepM m b = (m1 m, ev0 m, 2) by unfold stepM; rw [if_neg (by rw [HST.out]; decide), if_neg (byte_not (k := 44) HX.out h44), if_neg (byte_not (k := 10) HX.out h10), if_neg (by rw [HST.out]; decide), if_pos (byte_lt (k := 32) HX.out h32)])
            have n44 : (x == 44) = false := by rw [beq_eq_false_iff_ne]; exact h44
            have m44 : decide (x = 44) = false := decide_eq_false h44
            have n10 : (x == 10) = false := by rw [beq_eq_false_iff_ne]; exact h10
            have m10 : decide (x = 10) = false := decide_eq_false h10
            have lt32 : decide (x < 32) = true := decide_eq_true h32
            clear h32 h44 h10
            go_wp2
            go_ret
            rw [HG.out]
            exact ⟨rfl, D3.out, C3.out⟩
          · skip
            by_cases h34 : x = 34
            · skip
              have HG := Aside0.mk (show stepM m b = (m1 m, ev0 m, 2) by unfold stepM; rw [if_neg (by rw [HST.out]; decide), if_neg (byte_not (k := 44) HX.out h44), if_neg (byte_not (k := 10) HX.out h10), if_neg (by rw [HST.out]; decide), if_neg (byte_nlt (k := 32) HX.out h32), if_pos (byte_is (k := 34) HX.out (by rw [h34]; rfl)), if_pos HST.out])
              subst h34
              go_wp2
              go_ret
              rw [HG.out]
              exact ⟨rfl, D3.out, C3.out⟩
            · skip
              have HG := Aside0.mk (show stepM m b = ((saysM ((m1 m).to 1) b).1, ev0 m, (saysM ((m1 m).to 1) b).2) by unfold stepM; rw [if_neg (by rw [HST.out]; decide), if_neg (byte_not (k := 44) HX.out h44), if_neg (byte_not (k := 10) HX.out h10), if_neg (by rw [HST.out]; decide), if_neg (byte_nlt (k := 32) HX.out h32), if_neg (byte_not (k := 34) HX.out h34)])
              have n34 : (x == 34) = false := by rw [beq_eq_false_iff_ne]; exact h34
              have m34 : decide (x = 34) = false := decide_eq_false h34
              have n44 : (x == 44) = false := by rw [beq_eq_false_iff_ne]; exact h44
              have m44 : decide (x = 44) = false := decide_eq_false h44
              have n10 : (x == 10) = false := by rw [beq_eq_false_iff_ne]; exact h10
              have m10 : decide (x = 10) = false := decide_eq_false h10
              have lt32 : decide (x < 32) = false := decide_eq_false h32
              clear h32 h34 h44 h10
              have P4 := Aside0.mk (P2.out.1.put (m' := (m1 m).to 1) 0 (.int .i64 1) (fun _ _ => rfl) rfl rfl)
              have D3b := Aside0.mk (show D2 (ext F w) _ g gM gS ((m1 m).to 1) { c with q := c.q ++ ev0 m } from ⟨P4.out.1, D3.out.c.stay P4.out.2⟩)
              have C3b := Aside0.mk (C3.out.trans (Ch.mach_all P4.out.2))
              go_wp2_with (go_at_call 60; refine (says_x HX.out P4.out.1 HO.out.cell).mono ?_; rintro e w4 ⟨rfl, hm, hc⟩; have D4 := Aside0.mk ((D3b.out.mach hm hc).mono (ext2 C3b.out.size)); have C4 := Aside0.mk (C3b.out.trans (Ch.mach_all hc)); clear hm hc)
              go_ret
              rw [HG.out]
              exact ⟨rfl, D4.out, C4.out⟩
    · have HST := Aside0.mk hs
      rw [hs] at z0
      clear hs
      by_cases h34 : x = 34
      · skip
        have HG := Aside0.mk (show stepM m b = ((m1 m).to 3, ev0 m, 0) by unfold stepM; rw [if_pos HST.out, if_pos (byte_is (k := 34) HX.out (by rw [h34]; rfl))])
        subst h34
        have P4 := Aside0.mk (P2.out.1.put (m' := (m1 m).to 3) 0 (.int .i64 3) (fun _ _ => rfl) rfl rfl)
        go_wp2
        go_ret
        rw [HG.out]
        exact ⟨rfl, ⟨P4.out.1, D3.out.c.stay P4.out.2⟩, C3.out.trans (Ch.mach_all P4.out.2)⟩
      · skip
        have HG := Aside0.mk (show stepM m b = ((saysM (m1 m) b).1, ev0 m, (saysM (m1 m) b).2) by unfold stepM; rw [if_pos HST.out, if_neg (byte_not (k := 34) HX.out h34)])
        have n34 : (x == 34) = false := by rw [beq_eq_false_iff_ne]; exact h34
        have m34 : decide (x = 34) = false := decide_eq_false h34
        clear h34
        go_wp2_with (go_at_call 60; refine (says_x HX.out P2.out.1 HO.out.cell).mono ?_; rintro e w4 ⟨rfl, hm, hc⟩; have D4 := Aside0.mk ((D3.out.mach hm hc).mono (ext2 C3.out.size)); have C4 := Aside0.mk (C3.out.trans (Ch.mach_all hc)); clear hm hc)
        go_ret
        rw [HG.out]
        exact ⟨rfl, D4.out, C4.out⟩
    · have HST := Aside0.mk hs
      rw [hs] at z0
      clear hs
      by_cases h44 : x = 44
      · skip
        have HG := Aside0.mk (show stepM m b = ((endsM (m1 m) true).1, ev0 m ++ (endsM (m1 m) true).2.1, (endsM (m1 m) true).2.2) by unfold stepM; rw [if_neg (by rw [HST.out]; decide), if_pos (byte_is (k := 44) HX.out (by rw [h44]; rfl))])
        subst h44
        go_wp2_with (go_at_call 61; refine (ends_calls true D3.out (HO.out.with HO.out.st rfl rfl rfl rfl) (by have := HQ.out; have := HE.out; show (c.q ++ ev0 m).length ≤ 100000; rw [List.length_append]; omega)).mono ?_; rintro e w4 ⟨rfl, hd, hc⟩; have D4 := Aside0.mk (hd.mono (ext2 C3.out.size)); have C4 := Aside0.mk (C3.out.trans hc); clear hd hc)
        go_ret
        rw [HG.out]
        refine ⟨rfl, ?_, C4.out⟩
        have := D4.out
        simp only [List.append_assoc] at this
        exact this
      · skip
        by_cases h10 : x = 10
        · skip
          have HG := Aside0.mk (show stepM m b = ((endsM (m1 m) false).1, ev0 m ++ (endsM (m1 m) false).2.1, (endsM (m1 m) false).2.2) by unfold stepM; rw [if_neg (by rw [HST.out]; decide), if_neg (byte_not (k := 44) HX.out h44), if_pos (byte_is (k := 10) HX.out (by rw [h10]; rfl))])
          subst h10
          go_wp2_with (go_at_call 61; refine (ends_calls false D3.out (HO.out.with HO.out.st rfl rfl rfl rfl) (by have := HQ.out; have := HE.out; show (c.q ++ ev0 m).length ≤ 100000; rw [List.length_append]; omega)).mono ?_; rintro e w4 ⟨rfl, hd, hc⟩; have D4 := Aside0.mk (hd.mono (ext2 C3.out.size)); have C4 := Aside0.mk (C3.out.trans hc); clear hd hc)
          go_ret
          rw [HG.out]
          refine ⟨rfl, ?_, C4.out⟩
          have := D4.out
          simp only [List.append_assoc] at this
          exact this
        · skip
          by_cases h34 : x = 34
          · skip
            have HG := Aside0.mk (show stepM m b = ((saysM ((m1 m).to 2) b).1, ev0 m, (saysM ((m1 m).to 2) b).2) by unfold stepM; rw [if_neg (by rw [HST.out]; decide), if_neg (byte_not (k := 44) HX.out h44), if_neg (byte_not (k := 10) HX.out h10), if_pos HST.out, if_pos (byte_is (k := 34) HX.out (by rw [h34]; rfl))])
            subst h34
            have P4 := Aside0.mk (P2.out.1.put (m' := (m1 m).to 2) 0 (.int .i64 2) (fun _ _ => rfl) rfl rfl)
            have D3b := Aside0.mk (show D2 (ext F w) _ g gM gS ((m1 m).to 2) { c with q := c.q ++ ev0 m } from ⟨P4.out.1, D3.out.c.stay P4.out.2⟩)
            have C3b := Aside0.mk (C3.out.trans (Ch.mach_all P4.out.2))
            go_wp2_with (go_at_call 60; refine (says_x HX.out P4.out.1 HO.out.cell).mono ?_; rintro e w4 ⟨rfl, hm, hc⟩; have D4 := Aside0.mk ((D3b.out.mach hm hc).mono (ext2 C3b.out.size)); have C4 := Aside0.mk (C3b.out.trans (Ch.mach_all hc)); clear hm hc)
            go_ret
            rw [HG.out]
            exact ⟨rfl, D4.out, C4.out⟩
          · skip
            have HG := Aside0.mk (show stepM m b = (m1 m, ev0 m, 2) by unfold stepM; rw [if_neg (by rw [HST.out]; decide), if_neg (byte_not (k := 44) HX.out h44), if_neg (byte_not (k := 10) HX.out h10), if_pos HST.out, if_neg (byte_not (k := 34) HX.out h34)])
            have n34 : (x == 34) = false := by rw [beq_eq_false_iff_ne]; exact h34
            have m34 : decide (x = 34) = false := decide_eq_false h34
            have n44 : (x == 44) = false := by rw [beq_eq_false_iff_ne]; exact h44
            have m44 : decide (x = 44) = false := decide_eq_false h44
            have n10 : (x == 10) = false := by rw [beq_eq_false_iff_ne]; exact h10
            have m10 : decide (x = 10) = false := decide_eq_false h10
            clear h34 h44 h10
            go_wp2
            go_ret
            rw [HG.out]
            exact ⟨rfl, D3.out, C3.out⟩
end Go.Proofs.Ytalaedpiimdcbaa.Dl
