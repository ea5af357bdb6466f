/- The law DelimEarly, walked. -/
import Derived.Test.YtalaedpiimdcbaaDelLives
namespace Go.Proofs.Ytalaedpiimdcbaa.Lw
open Go Go.Lib Go.RowKit Go.Proofs.YtalaedpiimdcbaaW.PrintWords Go.Proofs.YtalaedpiimdcbaaW.PrintLast Go.Proofs.Ytalaedpiimdcbaa.Own Go.Proofs.Ytalaedpiimdcbaa.Hp Go.Proofs.Ytalaedpiimdcbaa.Srcw Go.Proofs.Ytalaedpiimdcbaa.Dl Go.Proofs.Ytalaedpiimdcbaa.Cr
set_option linter.unusedVariables false
set_option linter.unusedSimpArgs false
/-- A cut, as the law takes it: within n bytes. -/
def absV (c : Int) : Int := if c < 0 then wrap64 (-(wrap64 (c + 1))) else c
theorem absV_in (c : Int) (h : -9223372036854775808 ≤ c ∧ c ≤ 9223372036854775807) : 0 ≤ absV c ∧ absV c ≤ 9223372036854775807 := by
  unfold absV
  by_cases h0 : c < 0
  · rw [if_pos h0, w64 (x := c + 1) (by omega) (by omega), w64 (by omega) (by omega)]; omega
  · rw [if_neg h0]; omega
set_option maxHeartbeats 16000000 in
set_option maxRecDepth 100000 in
theorem law_DelimEarly (a : Option Addr) (len cap : Nat) (zs : List Int) {w : World} (hr : IsRow .u8 w a len cap zs) (_hx : len * 1 ≤ 140737488351232) (c : Int) (hc : -9223372036854775808 ≤ c ∧ c ≤ 9223372036854775807) :
    Calls Try.prog 4 #[.slice a len cap, .int .i64 c] w fun e w' => e = .returned (.bool true) ∧ Below w.heap.size w w' := by
  obtain ⟨L, hL, hR, hlc, hcm⟩ := row_bytes hr
  obtain ⟨l, hl⟩ : ∃ l, L.take 600 = l := ⟨_, rfl⟩
  have hll : min 600 len = l.length := by rw [← hl, List.length_take, hL]
  have HLL := Aside0.mk hll
  have hl6 : l.length ≤ 600 := by omega
  have HL6 := Aside0.mk hl6
  have HR := Aside0.mk (show Rd8 (fun k => w.heap.size ≤ k) w a l by rw [← hl]; exact Rd8.take_ hR 600)
  have hlcap : l.length ≤ cap := by omega
  clear hr hR hl
  have hab := absV_in c hc
  obtain ⟨y, hy⟩ : ∃ y, absV c = y := ⟨_, rfl⟩
  rw [hy] at hab
  have HY := Aside0.mk hy
  obtain ⟨k, hk⟩ : ∃ k : Nat, y % ((l.length : Int) + 1) = k := Int.eq_ofNat_of_zero_le (Int.emod_nonneg _ (by omega))
  have hkl : k ≤ l.length := by
    have := Int.emod_lt_of_pos y (show (0 : Int) < (l.length : Int) + 1 by omega)
    omega
  have HKK := Aside0.mk hk
  have HKL := Aside0.mk hkl
  have HY2 := Aside0.mk hab
  clear hy hk hab
  go_enter Try.func4, Try.ntmps4
  go_upto_if 18 with (go_at_call 8; refine (few_calls a len cap w hlc hcm).mono ?_; rintro e w1 ⟨rfl, rfl⟩; rw [HLL.out])
  go_cut [1] from 17 to 21 (fun s1 wx => s1 = .int .i64 y ∧ w = wx)
  case first =>
    by_cases hc0 : c < 0
    · have v1 : wrap64 (c + 1) = c + 1 := w64 (by omega) (by omega)
      have v2 : wrap64 (-(c + 1)) = -(c + 1) := w64 (by omega) (by omega)
      have HYV := Aside0.mk (show y = -(c + 1) by rw [← HY.out]; unfold absV; rw [if_pos hc0, v1, v2])
      go_wp2
      go_meet
      case rel => exact ⟨by rw [HYV.out], rfl⟩
    · have HYV := Aside0.mk (show y = c by rw [← HY.out]; unfold absV; rw [if_neg hc0])
      go_wp2
      go_meet
      case rel => exact ⟨by rw [HYV.out], rfl⟩
  case rest =>
    obtain ⟨rfl, rfl⟩ := hcut
    have hk := HKK.out
    have hy2 := HY2.out
    have tw : wrap64 ((l.length : Int) + 1) = (l.length : Int) + 1 := w64 (by omega) (by omega)
    have tz : ((l.length : Int) + 1 == 0) = false := by rw [beq_eq_false_iff_ne]; omega
    have hb0 : (0 : Int) ≤ y := hy2.1
    go_wp2_with (first
      | (go_at_call 9; refine (decode_calls (l := l) (by have := HL6.out; omega) HR.out).mono ?_; rintro e w2 ⟨v, rfl, hv, hc2⟩; generalize hdd : closeD (feedD DS.new l) = dd at hv ⊢; have HDD := Aside0.mk hdd; obtain ⟨Av, cv, hvs, hvc, _⟩ := hv.slice; have HVC := Aside0.mk hvc; have V2 := Aside0.mk hv.bound; clear hv hdd hvc; have hvv := hvs; clear hvs; subst hvv; have C2 := Aside0.mk hc2; have R2 := Aside0.mk (HR.out.ch hc2); clear hc2)
      | (go_at_call 10; refine (new_calls _).mono ?_; rintro e w3 ⟨g, gM, gS, rfl, hd3, hb3⟩; have D3 := Aside0.mk hd3; have B3 := Aside0.mk hb3; clear hd3 hb3))
    clear hk hy2 tw tz hb0
    have hkl := HKL.out
    have hlcap2 : (k : Int) ≤ (cap : Int) := by omega
    have hkp : (0 : Int) ≤ (k : Int) := by omega
    have HTK := Aside0.mk (show (l.take k).length = k by rw [List.length_take]; omega)
    refine wp_region_still_tail 9 (by kernel_rfl) (by kernel_rfl) ?_
    simp only [List.take_succ_cons, List.take_zero, List.drop_succ_cons, List.drop_zero]
    iterate 9 still_step
    refine wpStill_nil ?_
    change wpList _ _ _ _ _ w3.drew
    have D4 := Aside0.mk (D3.out.below (below_drew (Below.refl w3.heap.size w3)))
    have B4 := Aside0.mk (B3.out.trans ((below_drew (Below.refl w3.heap.size w3)).mono B3.out.size))
    generalize w3.drew = w4 at D4 B4 ⊢
    have HG0 := Aside0.mk (Going.new.feed (l.take k))
    have HD1 := Aside0.mk (DOK.new.feed (l.take k))
    have HPRE := Aside0.mk (show (feedD DS.new (l.take k)).c.q <+: dd.c.q by rw [← HDD.out]; exact dec_pre l k)
    have HDL := Aside0.mk (show dd.c.q.length ≤ 3010 by have := dec_len l; have h6 := HL6.out; rw [← HDD.out]; unfold stepMax at this; exact Nat.le_trans this (by omega))
    have HOVE := Aside0.mk (show (feedD DS.new (l.take k)).c.over = true → dd.c.err = (feedD DS.new (l.take k)).c.err ∧ dd.c.at_ = (feedD DS.new (l.take k)).c.at_ by
      intro ho
      have h1 := dec_over ho
      rw [close_over ho] at h1
      rw [← HDD.out]
      exact ⟨congrArg (fun d => d.c.err) h1, congrArg (fun d => d.c.at_) h1⟩)
    have V4 := Aside0.mk (V2.out.below B4.out)
    have R4 := Aside0.mk ((R2.out.ch (Ch.of_below B4.out : Ch allT (ext (fun k => w.heap.size ≤ k) w) w2 w4)).mono (F' := fun k => w2.heap.size ≤ k) (fun k hk => .inr hk))
    go_wp2_with fail
    refine (feed_k HTK.out (l := l.take k) (d := DS.new) D4.out DOK.new (by have := HL6.out; omega) (Rd8.take_ R4.out k) rfl).mono ?_
    rintro e w5 ⟨rfl, hd5, hc5⟩
    have V5 := Aside0.mk (V4.out.far hc5 (fun k hk hf => by have h1 := hk.2; have h2 : w2.heap.size ≤ k := hf; omega))
    have D5 := Aside0.mk hd5.bound
    have C5 := Aside0.mk hc5
    clear hd5 hc5
    generalize hd1 : feedD DS.new (l.take k) = d1 at HG0 HD1 HPRE HOVE D5
    clear hd1
    have T5 := Aside0.mk (takes_calls (G := fun _ => False) (l := []) (v := .slice none 0 0) D5.out (fun k hk => hk.2) (fun k _ hf => hf) (Row.nil _ _ _ _) (by simp) (by have := HPRE.out.length_le; have := HDL.out; omega))
    cases hov : d1.c.over with
    | false =>
      have HS := Aside0.mk (show stQ d1.c = 2 by unfold stQ; rw [if_pos hov])
      have HTC := Aside0.mk (show takenC d1.c = { d1.c with q := [] } by unfold takenC; rw [if_pos hov])
      clear hov
      go_wp2_with fail
      refine T5.out.mono ?_
      rintro e w6 ⟨v6, rfl, hv6, hd6, hc6⟩
      rw [HS.out]
      rw [List.nil_append] at hv6
      rw [HTC.out] at hd6
      obtain ⟨A6, c6, hvs, _, _⟩ := hv6.slice
      subst hvs
      have V6 := Aside0.mk hv6
      have D6 := Aside0.mk hd6
      have C6 := Aside0.mk hc6
      have W6 := Aside0.mk (row_pre (V5.out.far hc6 (fun k hk hf => by have h1 := hk.2; rcases hf with hf | hf; (rcases hf.1 with h2 | h2; (have h3 : w2.heap.size ≤ k := h2; omega); (have := B4.out.size; omega)); exact hf)) HPRE.out HVC.out)
      have hpl := HPRE.out.length_le
      have hvc := HVC.out
      have t1 : decide ((dd.c.q.length : Int) < (d1.c.q.length : Int)) = false := decide_eq_false (by omega)
      have t2 : decide (dd.c.q.length < d1.c.q.length) = false := decide_eq_false (by omega)
      have t3 : (d1.c.q.length : Int) ≤ (cv : Int) := by omega
      have HQL := Aside0.mk (show d1.c.q.length ≤ 1000000 by have := HDL.out; omega)
      clear hv6 hd6 hc6 hpl hvc
      go_wp2_with (first
        | (go_at_call 13; refine (same_k rfl rfl V6.out W6.out HQL.out).mono ?_; rintro e w7 ⟨rfl, hw7⟩; have W7 := Aside0.mk hw7; have D7 := Aside0.mk (D6.out.c.below hw7.below); clear hw7)
        | (go_at_call 14; refine (endQ_f D7.out HG0.out.told).mono ?_; rintro e w8 ⟨rfl, hw8⟩; have W8 := Aside0.mk hw8; clear hw8)
        | (go_at_call 16; refine (lives_calls _).mono ?_; rintro e w9 ⟨rfl, hw9⟩; have W9 := Aside0.mk hw9; clear hw9))
      go_ret
      have hB2 : Below w.heap.size w w2 := C2.out.below (fun _ h => h) (Nat.le_refl _)
      have hs2 := hB2.size
      have hs4 := B4.out.size
      have hs5 := C5.out.size
      have hs6 := C6.out.size
      have hs8 := W8.out.below.size
      have hs7 := W7.out.below.size
      have hB5 : Below w.heap.size w4 w5 := (C5.out.below (B := w2.heap.size) (fun _ h => h) hs4).mono hs2
      have hB6 : Below w.heap.size w5 w6 := C6.out.below (fun k hk => by rcases hk with hk | hk; (rcases hk.1 with h2 | h2; (have h3 : w2.heap.size ≤ k := h2; omega); omega); exact hk.elim) (by omega)
      exact ⟨rfl, ((((hB2.trans (B4.out.mono hs2)).trans hB5).trans hB6).trans (W7.out.below.mono (by omega))).trans ((W8.out.below.mono (by omega)).trans (W9.out.mono (by omega)))⟩
    | true =>
      have hst := HG0.out.stop hov
      have hoe := HOVE.out hov
      have HS := Aside0.mk (show stQ d1.c = 4 by unfold stQ; rw [if_neg (by rw [hov]; decide), if_neg hst.2])
      have HTC := Aside0.mk (show takenC d1.c = { d1.c with q := [], told := true } by unfold takenC; rw [if_neg (by rw [hov]; decide)])
      have HE1 := Aside0.mk hoe.1.symm
      have HE2 := Aside0.mk hoe.2.symm
      have u1 : decide (dd.c.at_ < (k : Int)) = true := decide_eq_true (by have := hst.1; rw [Nat.zero_add, List.length_take] at this; have h3 := hoe.2; rw [h3]; omega)
      clear hov hst hoe
      go_wp2_with fail
      refine T5.out.mono ?_
      rintro e w6 ⟨v6, rfl, hv6, hd6, hc6⟩
      rw [HS.out]
      rw [List.nil_append] at hv6
      rw [HTC.out] at hd6
      obtain ⟨A6, c6, hvs, _, _⟩ := hv6.slice
      subst hvs
      have V6 := Aside0.mk hv6
      have D6 := Aside0.mk hd6
      have C6 := Aside0.mk hc6
      have W6 := Aside0.mk (row_pre (V5.out.far hc6 (fun k hk hf => by have h1 := hk.2; rcases hf with hf | hf; (rcases hf.1 with h2 | h2; (have h3 : w2.heap.size ≤ k := h2; omega); (have := B4.out.size; omega)); exact hf)) HPRE.out HVC.out)
      have hpl := HPRE.out.length_le
      have hvc := HVC.out
      have t1 : decide ((dd.c.q.length : Int) < (d1.c.q.length : Int)) = false := decide_eq_false (by omega)
      have t2 : decide (dd.c.q.length < d1.c.q.length) = false := decide_eq_false (by omega)
      have t3 : (d1.c.q.length : Int) ≤ (cv : Int) := by omega
      have HQL := Aside0.mk (show d1.c.q.length ≤ 1000000 by have := HDL.out; omega)
      clear hv6 hd6 hc6 hpl hvc
      go_wp2_with (first
        | (go_at_call 13; refine (same_k rfl rfl V6.out W6.out HQL.out).mono ?_; rintro e w7 ⟨rfl, hw7⟩; have W7 := Aside0.mk hw7; have D7 := Aside0.mk (D6.out.c.below hw7.below); clear hw7)
        | (go_at_call 14; refine (endQ_t D7.out rfl HE1.out HE2.out).mono ?_; rintro e w8 ⟨rfl, hw8⟩; have W8 := Aside0.mk hw8; clear hw8)
        | (go_at_call 16; refine (lives_calls _).mono ?_; rintro e w9 ⟨rfl, hw9⟩; have W9 := Aside0.mk hw9; clear hw9))
      go_ret
      have hB2 : Below w.heap.size w w2 := C2.out.below (fun _ h => h) (Nat.le_refl _)
      have hs2 := hB2.size
      have hs4 := B4.out.size
      have hs5 := C5.out.size
      have hs6 := C6.out.size
      have hs8 := W8.out.below.size
      have hs7 := W7.out.below.size
      have hB5 : Below w.heap.size w4 w5 := (C5.out.below (B := w2.heap.size) (fun _ h => h) hs4).mono hs2
      have hB6 : Below w.heap.size w5 w6 := C6.out.below (fun k hk => by rcases hk with hk | hk; (rcases hk.1 with h2 | h2; (have h3 : w2.heap.size ≤ k := h2; omega); omega); exact hk.elim) (by omega)
      exact ⟨rfl, ((((hB2.trans (B4.out.mono hs2)).trans hB5).trans hB6).trans (W7.out.below.mono (by omega))).trans ((W8.out.below.mono (by omega)).trans (W9.out.mono (by omega)))⟩
end Go.Proofs.Ytalaedpiimdcbaa.Lw
