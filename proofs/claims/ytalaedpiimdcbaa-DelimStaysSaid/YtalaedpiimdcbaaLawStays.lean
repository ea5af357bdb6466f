/- The law DelimStays, walked. -/
import Derived.Test.YtalaedpiimdcbaaLawA
namespace Go.Proofs.Ytalaedpiimdcbaa.Lw
open Go Go.Lib Go.RowKit Go.Proofs.YtalaedpiimdcbaaW.PrintWords Go.Proofs.YtalaedpiimdcbaaW.PrintLast Go.Proofs.Ytalaedpiimdcbaa.Own Go.Proofs.Ytalaedpiimdcbaa.Hp Go.Proofs.Ytalaedpiimdcbaa.Srcw Go.Proofs.Ytalaedpiimdcbaa.Dl Go.Proofs.Ytalaedpiimdcbaa.Cr
set_option linter.unusedVariables false
set_option linter.unusedSimpArgs false
set_option maxHeartbeats 16000000 in
set_option maxRecDepth 100000 in
theorem law_DelimStays (a : Option Addr) (len cap : Nat) (zs : List Int) {w : World} (hr : IsRow .u8 w a len cap zs) (_hx : len * 1 ≤ 140737488351232) :
    Calls Try.prog 6 #[.slice a len cap] w fun e w' => e = .returned (.bool true) ∧ Below w.heap.size w w' := by
  obtain ⟨L, hL, hR, hlc, hcm⟩ := row_bytes hr
  obtain ⟨l, hl⟩ : ∃ l, L.take 600 = l := ⟨_, rfl⟩
  have hll : min 600 len = l.length := by rw [← hl, List.length_take, hL]
  have HLL := Aside0.mk hll
  have hl6 : l.length ≤ 600 := by omega
  have HL6 := Aside0.mk hl6
  have HR := Aside0.mk (show Rd8 (fun k => w.heap.size ≤ k) w a l by rw [← hl]; exact Rd8.take_ hR 600)
  clear hr hR hl hL hll hl6
  go_enter Try.func6, Try.ntmps6
  go_wp2_with (first
    | (go_at_call 8; refine (few_calls a len cap w hlc hcm).mono ?_; rintro e w0 ⟨rfl, rfl⟩; rw [HLL.out])
    | ((with_reducible refine gate_builtin (b := .append) (xs := #[.tmp 18, .tmp 19]) rfl ?_); at_builtin; refine copy_event (G := fun k => w.heap.size ≤ k) rfl (.tmp 18) (.tmp 19) 22 5 (.int .u8 0) rfl Try.underlying22 infoU8 rfl l rfl rfl rfl HR.out (by have := HL6.out; omega) ?_; intro v1 w1 hv1 hb1; obtain ⟨A1, c1, hvs, hvc, _⟩ := hv1.slice; have V1 := Aside0.mk hv1.bound; have B1 := Aside0.mk hb1; have RO := Aside0.mk (row_rd8 (G := fun k => w1.heap.size ≤ k) (hvs ▸ hv1) (fun k _ hk hg => by omega)); have R1 := Aside0.mk (HR.out.ch (Ch.of_below hb1 : Ch allT (fun k => w.heap.size ≤ k) w w1)); clear hv1 hb1 hvc; have hvv := hvs; clear hvs; subst hvv)
    | (go_at_call 9; refine (decode_calls (l := l) (by have := HL6.out; omega) RO.out).mono ?_; rintro e w2 ⟨v, rfl, hv, hc2⟩; generalize hdd : closeD (feedD DS.new l) = dd at hv ⊢; have HDD := Aside0.mk hdd; obtain ⟨Av, cv, hvs, hvc, _⟩ := hv.slice; have V2 := Aside0.mk hv; have C2 := Aside0.mk hc2; clear hv hc2 hdd hvc; have hvv := hvs; clear hvs; subst hvv))
  have hsz1 := B1.out.size
  have V1b := Aside0.mk (V1.out.far C2.out (fun k hk hg => by have := hk.2; have h2 : w1.heap.size ≤ k := hg; omega))
  have HDL := Aside0.mk (show dd.c.q.length ≤ 3010 by have := dec_len l; have h6 := HL6.out; rw [← HDD.out]; unfold stepMax at this; exact Nat.le_trans this (by omega))
  have BW2 := Aside0.mk (B1.out.trans ((C2.out.below (B := w1.heap.size) (fun _ h => h) (Nat.le_refl _)).mono hsz1))
  have V2b := Aside0.mk (V2.out.mono (F' := fun k => w1.heap.size ≤ k) (fun k hk => by rcases hk with hk | hk; exact hk; exact hk))
  have R2 := Aside0.mk ((R1.out.ch (Ch.of_below (Below.refl _ _) : Ch allT _ w1 w1)).mono (F' := fun k => w1.heap.size ≤ k) (fun k hk => .inr hk) |>.ch C2.out)
  clear hsz1
  go_loopg [7] (dd.c.q.length + 1) (fun gk v7 wr => ∃ (i : Nat) (xs : List Value), v7 = .int .i64 i ∧ Aside0 (i ≤ dd.c.q.length) ∧ Aside0 (dd.c.q.length - i < gk) ∧ Aside0 (Row (fun k => w1.heap.size ≤ k) wr 50 3 (.slice Av dd.c.q.length cv) dd.c.q.length xs) ∧ Aside0 (Ch allT (fun k => w1.heap.size ≤ k) w2 wr))
  case atStart => exact ⟨0, _, rfl, ⟨Nat.zero_le _⟩, ⟨by omega⟩, V2b, ⟨Ch.refl _ _ _⟩⟩
  case round =>
    obtain ⟨i, xs, rfl, P1, P2, P3, P4⟩ := hrel
    cases gk with
    | zero => exact absurd P2.out (by omega)
    | succ k1 =>
    have hp1 := P1.out
    have hdl := HDL.out
    by_cases hlt : i < dd.c.q.length
    · obtain ⟨b, o, c3, hv, _, _, _, _⟩ := P3.out.open_ (by omega)
      injection hv with e1 e2 e3
      subst e1; subst e3; clear e2
      have hxl := P3.out.1
      obtain ⟨u0, m0, f0⟩ := Row.at_ P3.out (i * 3) (by omega)
      have Q1 := Row.put P3.out (i * 3) (by omega) (.int .i64 77)
      obtain ⟨u1, m1, f1⟩ := Row.at_ Q1.1 (i * 3 + 1) (by rw [List.length_set]; omega)
      have Q2 := Row.put Q1.1 (i * 3 + 1) (by rw [List.length_set]; omega) (.string ⟨#[]⟩)
      obtain ⟨u2, m2, f2⟩ := Row.at_ Q2.1 (i * 3 + 2) (by rw [List.length_set, List.length_set]; omega)
      have Q3 := Row.put Q2.1 (i * 3 + 2) (by rw [List.length_set, List.length_set]; omega) (.string ⟨#[]⟩)
      have QC := Aside0.mk ((Q1.2.trans (Q2.2.mono (fun _ h => h) (fun _ h => ext_of h))).trans (Q3.2.mono (fun _ h => h) (fun _ h => ext_of h)))
      have QR := Aside0.mk Q3.1
      rw [← Nat.add_assoc] at m1 f1 m2 f2 QC QR
      rw [← Nat.add_assoc] at QC QR m2 f2
      clear Q1 Q2 Q3 hxl
      have t1 : decide ((i : Int) < (dd.c.q.length : Int)) = true := decide_eq_true (by omega)
      have t2 : decide (i < dd.c.q.length) = true := decide_eq_true hlt
      have tw : wrap64 ((i : Int) + 1) = (i : Int) + 1 := w64 (by omega) (by omega)
      go_wp2
      go_roundg k1
      case measure => have := P2.out; omega
      case rel => exact ⟨i + 1, _, by go_num, ⟨by omega⟩, ⟨by have := P2.out; omega⟩, QR, ⟨P4.out.trans (QC.out.mono (fun _ _ => trivial) (fun k hk => .inl hk))⟩⟩
    · have hi : i = dd.c.q.length := by omega
      have t1 : decide ((i : Int) < (dd.c.q.length : Int)) = false := decide_eq_false (by omega)
      have t2 : decide (i < dd.c.q.length) = false := decide_eq_false (by omega)
      have V3 := Aside0.mk (V1b.out.far P4.out (fun k hk hg => by have := hk.2; have h2 : w1.heap.size ≤ k := hg; omega))
      have R3 := Aside0.mk (((R2.out.mono (F' := fun k => w1.heap.size ≤ k) (fun k hk => .inl hk)).ch P4.out).mono (F' := fun k => w1.heap.size ≤ k) (fun k hk => .inl hk))
      have BW3 := Aside0.mk (BW2.out.trans ((P4.out.below (B := w1.heap.size) (fun _ h => h) C2.out.size).mono B1.out.size))
      have hl6 := HL6.out
      clear hi hp1 hdl
      go_wp2_with (first
        | ((with_reducible refine gate_dst (N := 38) rfl ?_); refine rowstr_event rfl rfl rfl Try.underlying22 Try.underlying5 Try.underlying9 V3.out ?_)
        | ((with_reducible refine gate_dst (N := 40) rfl ?_); refine rdstr_event rfl rfl rfl Try.underlying22 Try.underlying5 Try.underlying9 (l := l) rfl (by omega) R3.out ?_))
      clear t1 t2
      obtain ⟨wo, hwo⟩ : ∃ wo : World, wo = wr := ⟨_, rfl⟩
      subst hwo
      clear P1 P2 P3 hlt
      go_loopg [8] (l.length + 1) (fun gk v8 wr => ∃ (j : Nat) (xs : List Value), v8 = .int .i64 j ∧ Aside0 (j ≤ l.length) ∧ Aside0 (l.length - j < gk) ∧ Aside0 (Row (fun k => w.heap.size ≤ k ∧ k < w1.heap.size) wr 5 1 (.slice A1 l.length c1) l.length xs) ∧ Aside0 (Ch allT (fun k => w.heap.size ≤ k ∧ k < w1.heap.size) wo wr))
      case atStart => exact ⟨0, _, rfl, ⟨Nat.zero_le _⟩, ⟨by omega⟩, V3, ⟨Ch.refl _ _ _⟩⟩
      case round =>
        obtain ⟨j, xs2, rfl, P1, P2, P3, P5⟩ := hrel
        cases gk with
        | zero => exact absurd P2.out (by omega)
        | succ k1 =>
        have hp1 := P1.out
        have hl6 := HL6.out
        by_cases hlt : j < l.length
        · obtain ⟨b, o, c3, hv, q1, q2, q3, q4⟩ := P3.out.open_ (by omega)
          clear q1 q2 q3 q4
          injection hv with e1 e2 e3
          subst e1; subst e3; clear e2
          have hxl := P3.out.1
          obtain ⟨u0, m0, f0⟩ := Row.at_ P3.out j (by omega)
          have Q1 := Aside0.mk (Row.put P3.out j (by omega) (.int .u8 120))
          clear hxl
          have t1 : decide ((j : Int) < (l.length : Int)) = true := decide_eq_true (by omega)
          have t2 : decide (j < l.length) = true := decide_eq_true hlt
          have tw : wrap64 ((j : Int) + 1) = (j : Int) + 1 := w64 (by omega) (by omega)
          go_wp2
          go_roundg k1
          case measure => exact Nat.lt_succ_self _
          case rel => exact ⟨j + 1, _, by go_num, ⟨hlt⟩, ⟨meas_ hlt P2.out⟩, ⟨Q1.out.1⟩, ⟨P5.out.trans (Q1.out.2.mono (fun _ _ => trivial) (fun k hk => .inl hk))⟩⟩
        · have hj : j = l.length := by omega
          have t1 : decide ((j : Int) < (l.length : Int)) = false := decide_eq_false (by omega)
          have t2 : decide (j < l.length) = false := decide_eq_false (by omega)
          have hs5 := P5.out.size
          have hs4 := P4.out.size
          have hs2 := C2.out.size
          have hs1 := B1.out.size
          have R5 := Aside0.mk ((((HR.out.ch (Ch.of_below B1.out : Ch allT (fun k => w.heap.size ≤ k) w w1)).mono (F' := fun k => w.heap.size ≤ k) (fun k hk => .inl hk)).ch (C2.out.mono (F' := fun k => w.heap.size ≤ k) (fun _ h => h) (fun k hk => Nat.le_trans B1.out.size hk)) |>.mono (F' := fun k => w.heap.size ≤ k) (fun k hk => .inl hk)).ch (P4.out.mono (F' := fun k => w.heap.size ≤ k) (fun _ h => h) (fun k hk => Nat.le_trans B1.out.size hk)) |>.mono (F' := fun k => w.heap.size ≤ k) (fun k hk => .inl hk))
          have R6 := Aside0.mk ((R5.out.ch (P5.out.mono (F' := fun k => w.heap.size ≤ k) (fun _ h => h) (fun k hk => hk.1))).mono (F' := fun k => wr.heap.size ≤ k) (fun k hk => .inl (by omega)))
          have BW5 := Aside0.mk (BW3.out.trans (P5.out.below (B := w.heap.size) (fun k hk => hk.1) (by omega)))
          clear hj hp1 hs5 hs4 hs2 hs1
          go_wp2_with fail
          refine (decode_calls (l := l) (by omega) R6.out).mono ?_
          rintro e w6 ⟨v6, rfl, hv6, hc6⟩
          rw [show closeD (feedD DS.new l) = dd from HDD.out] at hv6 ⊢
          have V6 := Aside0.mk hv6.bound
          have C6 := Aside0.mk hc6
          have R7 := Aside0.mk ((R6.out.ch hc6).mono (F' := fun k => w6.heap.size ≤ k) (fun k hk => .inl (Nat.le_trans hc6.size hk)))
          clear hv6 hc6
          go_wp2_with fail
          refine (decode_calls (l := l) (by omega) R7.out).mono ?_
          rintro e w7 ⟨v7, rfl, hv7, hc7⟩
          rw [show closeD (feedD DS.new l) = dd from HDD.out] at hv7 ⊢
          have V7 := Aside0.mk hv7
          have C7 := Aside0.mk hc7
          have W6 := Aside0.mk (V6.out.far hc7 (fun k hk hg => by have := hk.2; have h2 : w6.heap.size ≤ k := hg; omega))
          obtain ⟨A6, c6, hs6, _, _⟩ := V6.out.slice
          obtain ⟨A7, c7, hs7, _, _⟩ := hv7.slice
          clear hv7 hc7
          have hss6 := hs6
          have hss7 := hs7
          clear hs6 hs7
          subst hss6
          subst hss7
          go_wp2_with (first
            | (go_at_call 13; refine (same_k rfl rfl W6.out V7.out (by have := HDL.out; omega)).mono ?_; rintro e w8 ⟨rfl, hw8⟩; have W8 := Aside0.mk hw8; clear hw8)
            | (go_at_call 16; refine (lives_calls _).mono ?_; rintro e w9 ⟨rfl, hw9⟩; have W9 := Aside0.mk hw9; clear hw9))
          go_ret
          have hz5 := BW5.out.size
          have hz6 := C6.out.size
          have hz7 := C7.out.size
          have hz8 := W8.out.below.size
          exact ⟨rfl, ((BW5.out.trans ((C6.out.below (B := wr.heap.size) (fun _ h => h) (Nat.le_refl _)).mono hz5)).trans ((C7.out.below (B := w6.heap.size) (fun _ h => h) (Nat.le_refl _)).mono (by omega))).trans ((W8.out.below.mono (by omega)).trans (W9.out.mono (by omega)))⟩
end Go.Proofs.Ytalaedpiimdcbaa.Lw
