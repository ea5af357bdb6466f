/- The law DelimChunks, walked. -/
import Derived.Test.YtalaedpiimdcbaaLawChunksP
import Derived.Test.YtalaedpiimdcbaaLawEarly
import Derived.Test.YtalaedpiimdcbaaOwn2
import Derived.Outline
import Derived.OpenShut
namespace Go.Proofs.Ytalaedpiimdcbaa.Lw
open Go Go.Lib Go.RowKit Go.Proofs.YtalaedpiimdcbaaW.PrintWords Go.Proofs.YtalaedpiimdcbaaW.PrintLast Go.Proofs.Ytalaedpiimdcbaa.Own Go.Proofs.Ytalaedpiimdcbaa.Hp Go.Proofs.Ytalaedpiimdcbaa.Srcw Go.Proofs.Ytalaedpiimdcbaa.Dl Go.Proofs.Ytalaedpiimdcbaa.Cr
set_option linter.unusedVariables false
set_option linter.unusedSimpArgs false
set_option maxHeartbeats 16000000 in
set_option maxRecDepth 100000 in
theorem law_DelimChunks (a : Option Addr) (len cap : Nat) (zs : List Int) {w : World} (hr : IsRow .u8 w a len cap zs) (_hx : len * 1 ≤ 140737488351232) (a1 : Option Addr) (len1 cap1 : Nat) (zs1 : List Int) (hr1 : IsRow .i64 w a1 len1 cap1 zs1) (_hx1 : len1 * 8 ≤ 140737488351232) (asks : Bool) :
    Calls Try.prog 3 #[.slice a len cap, .slice a1 len1 cap1, .bool asks] w fun e w' => e = .returned (.bool true) ∧ Below w.heap.size w w' := by
  obtain ⟨L, hL, hR, hlc, hcm⟩ := row_bytes hr
  obtain ⟨l, hl⟩ : ∃ l, L.take 600 = l := ⟨_, rfl⟩
  have hll : min 600 len = l.length := by rw [← hl, List.length_take, hL]
  have HLL := Aside0.mk hll
  have hl6 : l.length ≤ 600 := by omega
  have HL6 := Aside0.mk hl6
  have HR := Aside0.mk (show Rd8 (fun k => w.heap.size ≤ k) w a l by rw [← hl]; exact Rd8.take_ hR 600)
  have HLC := Aside0.mk (show l.length ≤ cap by omega)
  have HCM := Aside0.mk hcm
  have HZ := Aside0.mk hr1
  have HX1 := Aside0.mk (show len1 ≤ 140737488351232 by omega)
  clear hr hR hl hr1 hll hl6 hL
  go_enter Try.func3, Try.ntmps3
  go_wp2_with (first
    | (go_at_call 8; refine (few_calls a len cap w hlc hcm).mono ?_; rintro e w0 ⟨rfl, rfl⟩; rw [HLL.out])
    | (go_at_call 9; refine (decode_calls (l := l) (by have := HL6.out; omega) HR.out).mono ?_; rintro e w2 ⟨v, rfl, hv, hc2⟩; generalize hdd : closeD (feedD DS.new l) = dd at hv ⊢; have HDD := Aside0.mk hdd; obtain ⟨Av, cv, hvs, hvc, _⟩ := hv.slice; have HVC := Aside0.mk hvc; have V2 := Aside0.mk hv.bound; clear hv hdd hvc; have hvv := hvs; clear hvs; subst hvv; have B2 := Aside0.mk (hc2.below (B := w.heap.size) (fun _ h => h) (Nat.le_refl _)); clear hc2)
    | (go_at_call 10; refine (new_calls _).mono ?_; rintro e w3 ⟨g, gM, gS, rfl, hd3, hb3⟩; have D3 := Aside0.mk hd3; have B3 := Aside0.mk hb3; clear hd3 hb3))
  have HDL := Aside0.mk (show dd.c.q.length ≤ 3010 by have := dec_len l; have h6 := HL6.out; rw [← HDD.out]; unfold stepMax at this; exact Nat.le_trans this (by omega))
  have C3 := Aside0.mk (show CRel w2 w3 g gM gS (fun k => w2.heap.size ≤ k ∧ k < w3.heap.size) (fun _ => False) [] DS.new (.slice none 0 0) from ⟨B3.out, fun k hk => hk, fun k hk => hk.elim, fun k _ hk => hk, D3.out.bound, Row.nil _ _ _ _⟩)
  have HZ2 := Aside0.mk (HZ.out.below B2.out)
  clear hlc hcm
  go_loopg [11, 12, 13] (len1 + 1) (fun gk v11 v12 v13 wr => ∃ (i p c : Nat) (A : Option Addr) (F G : Nat → Prop) (t : List Ev) (d : DS), v13 = .int .i64 i ∧ v12 = .slice A (l.length - p) c ∧ Aside0 (i ≤ len1) ∧ Aside0 (len1 - i < gk) ∧ Aside0 (p ≤ l.length ∧ l.length - p ≤ c ∧ c ≤ 9223372036854775807) ∧ Aside0 (Rd8 (fun k => w.heap.size ≤ k) wr A (l.drop p)) ∧ Aside0 (CRel w2 wr g gM gS F G t d v11) ∧ Aside0 (Like t d (feedD DS.new (l.take p))))
  case atStart => exact ⟨0, 0, cap, a, _, _, [], DS.new, rfl, rfl, ⟨Nat.zero_le _⟩, ⟨by omega⟩, ⟨Nat.zero_le _, HLC.out, HCM.out⟩, ⟨Rd8.low HR.out (B2.out.trans (B3.out.mono B2.out.size))⟩, C3, ⟨Like.refl _ rfl⟩⟩
  case round =>
    obtain ⟨i, p, c, A, F, G, t, d, rfl, rfl, P1, P2, P3, P4, P5, P6⟩ := hrel
    cases gk with
    | zero => exact absurd P2.out (by omega)
    | succ k1 =>
    by_cases hlt : i < len1
    · obtain ⟨xa, hA, hcell0, hwf⟩ := HZ2.out.at_ i hlt
      have hcb := bounds_i64 hwf
      generalize hr : zs1.getD i 0 = r at hcell0 hcb
      have hcell := below_cell P5.out.fr hcell0
      clear hcell0 hr hwf
      subst hA
      have t1 : decide ((i : Int) < (len1 : Int)) = true := decide_eq_true (by omega)
      have t2 : decide (i < len1) = true := decide_eq_true hlt
      obtain ⟨y, hy⟩ : ∃ y, absV r = y := ⟨_, rfl⟩
      have hab := absV_in r hcb
      rw [hy] at hab
      have HY := Aside0.mk hy
      have HY2 := Aside0.mk hab
      clear hy hab
      go_upto_if 51 with fail
      go_cut [14] from 50 to 55 (fun s1 wx => s1 = .int .i64 y ∧ wr = wx)
      case first =>
        by_cases hc0 : r < 0
        · have v1 : wrap64 (r + 1) = r + 1 := w64 (by omega) (by omega)
          have v2 : wrap64 (-(r + 1)) = -(r + 1) := w64 (by omega) (by omega)
          have HYV := Aside0.mk (show y = -(r + 1) by rw [← HY.out]; unfold absV; rw [if_pos hc0, v1, v2])
          go_wp2
          go_meet
          case rel => exact ⟨by rw [HYV.out], rfl⟩
        · have HYV := Aside0.mk (show y = r by rw [← HY.out]; unfold absV; rw [if_neg hc0])
          go_wp2
          go_meet
          case rel => exact ⟨by rw [HYV.out], rfl⟩
      case rest =>
        obtain ⟨rfl, rfl⟩ := hcut
        clear hcell hcb _hx _hx1
        have hab := HY2.out
        have hb0 : (0 : Int) ≤ y := hab.1
        have hp3 := P3.out
        obtain ⟨n, hn⟩ : ∃ n, l.length - p = n := ⟨_, rfl⟩
        have HN := Aside0.mk hn
        obtain ⟨k, hk, hkn, hkc, hk0, tw, tz⟩ := cut_nums (y := y) (n := n) (c := c) (hn ▸ hp3.2.1) (by have := HL6.out; omega) hab.1
        have HKN := Aside0.mk hkn
        have HDR := Aside0.mk (show (l.drop p).length = n by rw [List.length_drop]; exact hn)
        have HTK := Aside0.mk (show ((l.drop p).take k).length = k by rw [List.length_take, HDR.out]; exact Nat.min_eq_left HKN.out)
        simp only [hn]
        have HP := Aside0.mk hp3
        clear hp3 hn hkn hab P3 t1 t2
        go_wp2_with (first
          | ((with_reducible refine gate_builtin (b := .append) (xs := #[.tmp 60, .tmp 63]) rfl ?_); at_builtin; refine copy_event (G := fun k => w.heap.size ≤ k) rfl (.tmp 60) (.tmp 63) 22 5 (.int .u8 0) rfl Try.underlying22 infoU8 rfl ((l.drop p).take k) HTK.out rfl rfl (Rd8.take_ P4.out k) (by rw [HTK.out]; exact small_ HKN.out HN.out HL6.out) ?_; intro v4 w4 hv4 hb4; obtain ⟨A4, c4, hvs, _, _⟩ := hv4.slice; have C4 := Aside0.mk (P5.out.below hb4); have V4 := Aside0.mk hv4.bound; have B4 := Aside0.mk hb4; have R4 := Aside0.mk (row_rd8 (G := F) (hvs ▸ hv4) (fun q hq _ hf => by have h2 : wr.heap.size ≤ q := hq; have := (P5.out.inF q hf).2; omega)); have T4 := Aside0.mk (Rd8.low P4.out (hb4.mono (Nat.le_trans B2.out.size P5.out.fr.size))); clear hv4 hb4; have hvv := hvs; clear hvs; subst hvv)
          | (go_at_call 11; refine (feed_k HTK.out (l := (l.drop p).take k) (d := d) C4.out.d (P6.out.dok (DOK.new.feed (l.take p))) (few_ HKN.out HN.out HL6.out) R4.out (P6.out.closed.trans (Going.new.feed _).closed)).mono ?_; rintro e w5 ⟨rfl, hd5, hc5⟩; have C5 := Aside0.mk (C4.out.fed hd5 hc5); have V5 := Aside0.mk (V4.out.far hc5 (fun q hq hf => by have h1 := (P5.out.inF q hf).2; have h2 : wr.heap.size ≤ q := hq.1; omega)); have T5 := Aside0.mk (Rd8.low T4.out (hc5.below (fun q hf => Nat.le_trans B2.out.size (P5.out.inF q hf).1) (Nat.le_trans (Nat.le_trans B2.out.size P5.out.fr.size) B4.out.size))); clear hd5 hc5))
        have L5 := Aside0.mk (P6.out.on k)
        have GG := Aside0.mk (show (∀ q, (ext F w4 q ∧ q < w5.heap.size) → ¬ (wr.heap.size ≤ q ∧ q < w4.heap.size)) ∧ (∀ q, G q → ¬ (wr.heap.size ≤ q ∧ q < w4.heap.size)) from ⟨fun q hq => by rcases hq.1 with h1 | h1; (have := (P5.out.inF q h1).2; omega); omega, fun q hq => by have := (P5.out.inG q hq).2; omega⟩)
        clear hkc hk tw tz hb0
        have HK2 := Aside0.mk hk0
        go_loopg [16] (k + 1) (fun gk v16 wr2 => ∃ (j : Nat) (xs : List Value), v16 = .int .i64 j ∧ Aside0 (j ≤ k) ∧ Aside0 (k - j < gk) ∧ Aside0 (Row (fun q => wr.heap.size ≤ q ∧ q < w4.heap.size) wr2 5 1 (.slice A4 k c4) k xs) ∧ Aside0 (Ch allT (fun q => wr.heap.size ≤ q ∧ q < w4.heap.size) w5 wr2))
        case atStart => exact ⟨0, _, rfl, ⟨Nat.zero_le _⟩, ⟨Nat.lt_succ_self _⟩, ⟨V5.out.mono (fun q hq => hq)⟩, ⟨Ch.refl _ _ _⟩⟩
        case round =>
          obtain ⟨j, xs2, rfl, Q1, Q2, Q3, Q4⟩ := hrel
          cases gk with
          | zero => exact absurd Q2.out (Nat.not_lt_zero _)
          | succ k2 =>
          have hq1 := Q1.out
          have hk6 := Aside0.mk (small_ HKN.out HN.out HL6.out)
          by_cases hlt2 : j < k
          · obtain ⟨b, o, c3, hv, q1, q2, q3, q4⟩ := Q3.out.open_ (Nat.ne_of_gt (Nat.lt_of_le_of_lt (Nat.zero_le _) hlt2))
            clear q1 q2 q3 q4
            injection hv with e1 e2 e3
            subst e1; subst e3; clear e2
            have hxl := Q3.out.1
            obtain ⟨u0, m0, f0⟩ := Row.at_ Q3.out j (by omega)
            have X1 := Aside0.mk (Row.put Q3.out j (by omega) (.int .u8 120))
            clear hxl
            have t1 : decide ((j : Int) < (k : Int)) = true := decide_eq_true (by omega)
            have t2 : decide (j < k) = true := decide_eq_true hlt2
            have tw : wrap64 ((j : Int) + 1) = (j : Int) + 1 := w64 (by have := hk6.out; omega) (by have := hk6.out; omega)
            go_wp2
            go_roundg k2
            case measure => exact Nat.lt_succ_self _
            case rel => exact ⟨j + 1, _, by go_num, ⟨hlt2⟩, ⟨meas_ hlt2 Q2.out⟩, ⟨X1.out.1⟩, ⟨Q4.out.trans (X1.out.2.mono (fun _ _ => trivial) (fun q hq => .inl hq))⟩⟩
          · have t1 : decide ((j : Int) < (k : Int)) = false := decide_eq_false (by omega)
            have t2 : decide (j < k) = false := decide_eq_false hlt2
            have C6 := Aside0.mk (C5.out.own Q4.out P5.out.fr.size GG.out.1 GG.out.2)
            have T6 := Aside0.mk (rd8_cut (c := c) (k := k) (Rd8.low T5.out (Q4.out.below (fun q hq => Nat.le_trans (Nat.le_trans B2.out.size P5.out.fr.size) hq.1) (Nat.le_trans (Nat.le_trans B2.out.size C5.out.fr.size) (Nat.le_refl _)))) (by rw [HDR.out, ← HN.out]; exact HP.out.2.1) (by rw [HDR.out]; exact HKN.out))
            have HG := Aside0.mk (go_on HP.out HN.out HKN.out)
            have HLF := Aside0.mk (left_ (k := k) HN.out)
            obtain ⟨A6, hA6⟩ : ∃ A6, (if c = k then A else Option.map (fun x => x.add k) A) = A6 := ⟨_, rfl⟩
            obtain ⟨c6, hc6⟩ : ∃ c6, c - k = c6 := ⟨_, rfl⟩
            have T6 := Aside0.mk (show Rd8 (fun q => w.heap.size ≤ q) wr A6 (l.drop (p + k)) by rw [← hA6, ← List.drop_drop]; have h := T6.out; rw [Nat.mul_one] at h; exact h)
            rw [hc6] at HG
            have HLT := Aside0.mk hlt
            clear hq1 Q1 Q2 hlt hlt2
            obtain ⟨Ae, ce, hue, _, _⟩ := C6.out.r.slice
            subst hue
            have tw : wrap64 ((i : Int) + 1) = (i : Int) + 1 := w64 (by have := HX1.out; have := HLT.out; omega) (by have := HX1.out; have := HLT.out; omega)
            cases asks with
            | false =>
              go_wp2_with ((with_reducible refine gate_dst (N := 82) rfl ?_); refine cut_event (k := k) rfl rfl rfl rfl HKN.out Try.underlying22 infoU8 ?_; rw [Nat.mul_one, hA6, hc6])
              go_roundg k1
              case measure => exact Nat.lt_succ_self _
              case rel => exact ⟨i + 1, p + k, c6, A6, _, _, t, _, by go_num, by rw [HLF.out], ⟨HLT.out⟩, ⟨meas_ HLT.out P2.out⟩, HG, T6, C6, L5⟩
            | true =>
              obtain ⟨d6, hd6⟩ : ∃ d6, feedD d ((l.drop p).take k) = d6 := ⟨_, rfl⟩
              obtain ⟨Dk, hDk⟩ : ∃ Dk, feedD DS.new (l.take (p + k)) = Dk := ⟨_, rfl⟩
              have L6 := Aside0.mk (show Like t d6 Dk by rw [← hd6, ← hDk]; exact L5.out)
              rw [hd6] at C6
              have HDK := Aside0.mk hDk
              have HG0 := Aside0.mk (show Going (0 + (l.take (p + k)).length) Dk by rw [← hDk]; exact Going.new.feed _)
              have HPRE := Aside0.mk (show Dk.c.q <+: dd.c.q by rw [← hDk, ← HDD.out]; exact dec_pre l _)
              have HOVE := Aside0.mk (show Dk.c.over = true → Dk.c.err = dd.c.err ∧ Dk.c.at_ = dd.c.at_ by rw [← hDk, ← HDD.out]; exact fun h => over_end h)
              have L7 := Aside0.mk L6.out.taken
              have TK := Aside0.mk (takes_calls C6.out.d (fun q hq => (C6.out.inF q hq).2) C6.out.dis C6.out.r (by have h1 := L6.out.qlen.1; have h2 := HPRE.out.length_le; have h3 := HDL.out; omega) (by have h1 := L6.out.qlen.2; have h2 := HPRE.out.length_le; have h3 := HDL.out; omega))
              clear hd6 hDk L5
              have hpl := HPRE.out.length_le
              have hvc := HVC.out
              have t3 : decide ((dd.c.q.length : Int) < (Dk.c.q.length : Int)) = false := decide_eq_false (by omega)
              have t4 : decide (dd.c.q.length < Dk.c.q.length) = false := decide_eq_false (by omega)
              have t5 : (Dk.c.q.length : Int) ≤ (cv : Int) := by omega
              clear hpl hvc
              cases hov : Dk.c.over with
              | false =>
                have HS := Aside0.mk (L6.out.st2 hov)
                have HOV := Aside0.mk hov
                clear hov
                go_wp2_with (first
                  | ((with_reducible refine gate_dst (N := 82) rfl ?_); refine cut_event (k := k) rfl rfl rfl rfl HKN.out Try.underlying22 infoU8 ?_; rw [Nat.mul_one, hA6, hc6])
                  | (go_at_call 12; refine TK.out.mono ?_; rintro e w7 ⟨v7, rfl, hv7, hd7, hc7⟩; rw [HS.out]; have C7 := Aside0.mk (C6.out.took L6.out.q hv7 hd7 hc7); have T7 := Aside0.mk (Rd8.low T6.out (hc7.below (fun q hq => by rcases hq with hq | hq; exact Nat.le_trans B2.out.size (C6.out.inF q hq).1; exact Nat.le_trans B2.out.size (C6.out.inG q hq).1) (Nat.le_trans B2.out.size C6.out.fr.size))); rw [L6.out.q] at hv7; obtain ⟨A7, c7, hvs, _, _⟩ := hv7.slice; have W7 := Aside0.mk (row_pre (V2.out.below C7.out.fr) HPRE.out HVC.out); have HQL := Aside0.mk (show Dk.c.q.length ≤ 1000000 by have h1 := HDL.out; have h2 := HPRE.out.length_le; omega); clear hv7 hd7 hc7; have hvv := hvs; clear hvs; subst hvv)
                  | (go_at_call 13; refine (same_k rfl rfl C7.out.r W7.out HQL.out).mono ?_; rintro e w8 ⟨rfl, hw8⟩; have D8 := Aside0.mk ((C7.out.below hw8.below).d.c); have C8 := Aside0.mk (C7.out.below hw8.below); have T8 := Aside0.mk (Rd8.low T7.out (hw8.below.mono (Nat.le_trans B2.out.size C7.out.fr.size))); clear hw8)
                  | (go_at_call 14; refine (endQ_f D8.out (L7.out.told_f HOV.out)).mono ?_; rintro e w9 ⟨rfl, hw9⟩; have C9 := Aside0.mk (C8.out.below hw9.below); have T9 := Aside0.mk (Rd8.low T8.out (hw9.below.mono (Nat.le_trans B2.out.size C8.out.fr.size))); clear hw9))
                go_roundg k1
                case measure => exact Nat.lt_succ_self _
                case rel => exact ⟨i + 1, p + k, c6, A6, _, _, Dk.c.q, ⟨d6.m, takenC d6.c⟩, by go_num, by rw [HLF.out], ⟨HLT.out⟩, ⟨meas_ HLT.out P2.out⟩, HG, T9, C9, ⟨by rw [HDK.out]; exact L7.out⟩⟩
              | true =>
                have HS := Aside0.mk (L6.out.st4 hov (HG0.out.stop hov).2)
                have HOV := Aside0.mk hov
                clear hov
                go_wp2_with (first
                  | ((with_reducible refine gate_dst (N := 82) rfl ?_); refine cut_event (k := k) rfl rfl rfl rfl HKN.out Try.underlying22 infoU8 ?_; rw [Nat.mul_one, hA6, hc6])
                  | (go_at_call 12; refine TK.out.mono ?_; rintro e w7 ⟨v7, rfl, hv7, hd7, hc7⟩; rw [HS.out]; have C7 := Aside0.mk (C6.out.took L6.out.q hv7 hd7 hc7); have T7 := Aside0.mk (Rd8.low T6.out (hc7.below (fun q hq => by rcases hq with hq | hq; exact Nat.le_trans B2.out.size (C6.out.inF q hq).1; exact Nat.le_trans B2.out.size (C6.out.inG q hq).1) (Nat.le_trans B2.out.size C6.out.fr.size))); rw [L6.out.q] at hv7; obtain ⟨A7, c7, hvs, _, _⟩ := hv7.slice; have W7 := Aside0.mk (row_pre (V2.out.below C7.out.fr) HPRE.out HVC.out); have HQL := Aside0.mk (show Dk.c.q.length ≤ 1000000 by have h1 := HDL.out; have h2 := HPRE.out.length_le; omega); clear hv7 hd7 hc7; have hvv := hvs; clear hvs; subst hvv)
                  | (go_at_call 13; refine (same_k rfl rfl C7.out.r W7.out HQL.out).mono ?_; rintro e w8 ⟨rfl, hw8⟩; have D8 := Aside0.mk ((C7.out.below hw8.below).d.c); have C8 := Aside0.mk (C7.out.below hw8.below); have T8 := Aside0.mk (Rd8.low T7.out (hw8.below.mono (Nat.le_trans B2.out.size C7.out.fr.size))); clear hw8)
                  | (go_at_call 14; refine (endQ_t D8.out (L6.out.told_t HOV.out) (L7.out.err.trans (HOVE.out HOV.out).1) (L7.out.at_.trans (HOVE.out HOV.out).2)).mono ?_; rintro e w9 ⟨rfl, hw9⟩; have C9 := Aside0.mk (C8.out.below hw9.below); have T9 := Aside0.mk (Rd8.low T8.out (hw9.below.mono (Nat.le_trans B2.out.size C8.out.fr.size))); clear hw9))
                go_roundg k1
                case measure => exact Nat.lt_succ_self _
                case rel => exact ⟨i + 1, p + k, c6, A6, _, _, Dk.c.q, ⟨d6.m, takenC d6.c⟩, by go_num, by rw [HLF.out], ⟨HLT.out⟩, ⟨meas_ HLT.out P2.out⟩, HG, T9, C9, ⟨by rw [HDK.out]; exact L7.out⟩⟩
    · have t1 : decide ((i : Int) < (len1 : Int)) = false := decide_eq_false (by omega)
      have t2 : decide (i < len1) = false := decide_eq_false hlt
      obtain ⟨Ae, ce, hue, _, _⟩ := P5.out.r.slice
      subst hue
      obtain ⟨n, hn⟩ : ∃ n, l.length - p = n := ⟨_, rfl⟩
      have HDR := Aside0.mk (show (l.drop p).length = n by rw [List.length_drop]; exact hn)
      have HNN := Aside0.mk (few_ (Nat.le_refl n) hn HL6.out)
      have R4 := Aside0.mk (P4.out.mono (F' := F) (fun q hq => Nat.le_trans B2.out.size (P5.out.inF q hq).1))
      have L5 := Aside0.mk (show Like t (feedD d (l.drop p)) (feedD DS.new l) by rw [feed_split DS.new l p]; exact P6.out.feed _)
      have LD := Aside0.mk (show Like t (closeD (feedD d (l.drop p))) dd by rw [← HDD.out]; exact L5.out.close)
      have HST := Aside0.mk (show dd.c.over = true by rw [← HDD.out]; exact close_stop (by have := (Going.new.feed l).closed; exact this))
      have HCC := Aside0.mk (show dd.c.closed = true by rw [← HDD.out]; exact close_closed _)
      have HNC := Aside0.mk (show 0 + l.length ≤ 10000 by have := HL6.out; omega)
      have HTL := Aside0.mk (show t.length ≤ 100000 by have h1 := LD.out.qlen.1; have h3 := HDL.out; omega)
      have HQL := Aside0.mk (show (closeD (feedD d (l.drop p))).c.q.length ≤ 4900 by have h1 := LD.out.qlen.2; have h3 := HDL.out; omega)
      have HQM := Aside0.mk (show dd.c.q.length ≤ 1000000 by have h3 := HDL.out; omega)
      simp only [hn]
      clear hn hlt _hx _hx1
      have hconv := fun W => Lib.run_convert_bytes_const (P := Try.prog) W 22 5 #[.int .u8 120] 1 1 Try.underlying22 Try.underlying5
      by_cases he : dd.c.err = 0
      · have HER := Aside0.mk he
        have HS := Aside0.mk (LD.out.st3 HST.out HER.out)
        have z1 : (dd.c.err == 0) = true := by rw [he]; decide
        have z2 : decide (dd.c.err = 0) = true := decide_eq_true he
        clear he
        go_wp2_with (first
          | (go_at_call 11; (fail_if_success (have := C9)); refine (feed_k HDR.out (l := l.drop p) (d := d) P5.out.d (P6.out.dok (DOK.new.feed (l.take p))) HNN.out R4.out (P6.out.closed.trans (Going.new.feed _).closed)).mono ?_; rintro e w5 ⟨rfl, hd5, hc5⟩; have C5 := Aside0.mk (P5.out.fed hd5 hc5); clear hd5 hc5)
          | (go_at_call 15; refine (close_calls C5.out.d (L5.out.dok (DOK.new.feed l)) HNC.out).mono ?_; rintro e w6 ⟨rfl, hd6, hc6⟩; have C6 := Aside0.mk (C5.out.fed hd6 hc6); clear hd6 hc6)
          | (go_at_call 12; refine (takes_calls C6.out.d (fun q hq => (C6.out.inF q hq).2) C6.out.dis C6.out.r HTL.out HQL.out).mono ?_; rintro e w7 ⟨v7, rfl, hv7, hd7, hc7⟩; rw [HS.out]; have C7 := Aside0.mk (C6.out.took LD.out.q hv7 hd7 hc7); rw [LD.out.q] at hv7; obtain ⟨A7, c7, hvs, _, _⟩ := hv7.slice; clear hv7 hd7 hc7; have hvv := hvs; clear hvs; subst hvv)
          | (go_at_call 14; refine (endQ_t C7.out.d.c (LD.out.told_t HST.out) LD.out.taken.err LD.out.taken.at_).mono ?_; rintro e w8 ⟨rfl, hw8⟩; have C8 := Aside0.mk (C7.out.below hw8.below); have W8 := Aside0.mk (V2.out.below C8.out.fr); clear hw8)
          | (go_at_call 13; refine (same_k rfl rfl C8.out.r W8.out HQM.out).mono ?_; rintro e w9 ⟨rfl, hw9⟩; have C9 := Aside0.mk (C8.out.below hw9.below); clear hw9)
          | (go_at_call 11; refine (feed_closed (C9.out.below (below_alloc (Below.refl _ _) _)).d.c (LD.out.taken.closed.trans HCC.out)).mono ?_; rintro e w11 ⟨rfl, hw11⟩; have C11 := Aside0.mk (C9.out.below (below_alloc (Below.refl _ _) (.cells #[.int .u8 120] 5 (1, 2)))); subst hw11)
          | (go_at_call 16; refine (lives_calls _).mono ?_; rintro e w12 ⟨rfl, hw12⟩; have W12 := Aside0.mk hw12; clear hw12))
        all_goals first
          | exact absurd HER.out (by assumption)
          | exact absurd (by assumption) HER.out
          | (go_ret; exact ⟨rfl, (B2.out.trans (C11.out.fr.mono B2.out.size)).trans (W12.out.mono (Nat.le_trans B2.out.size C11.out.fr.size))⟩)
      · have HER := Aside0.mk he
        have HS := Aside0.mk (LD.out.st4 HST.out HER.out)
        have z1 : (dd.c.err == 0) = false := by rw [beq_eq_false_iff_ne]; exact he
        have z2 : decide (dd.c.err = 0) = false := decide_eq_false he
        clear he
        go_wp2_with (first
          | (go_at_call 11; (fail_if_success (have := C9)); refine (feed_k HDR.out (l := l.drop p) (d := d) P5.out.d (P6.out.dok (DOK.new.feed (l.take p))) HNN.out R4.out (P6.out.closed.trans (Going.new.feed _).closed)).mono ?_; rintro e w5 ⟨rfl, hd5, hc5⟩; have C5 := Aside0.mk (P5.out.fed hd5 hc5); clear hd5 hc5)
          | (go_at_call 15; refine (close_calls C5.out.d (L5.out.dok (DOK.new.feed l)) HNC.out).mono ?_; rintro e w6 ⟨rfl, hd6, hc6⟩; have C6 := Aside0.mk (C5.out.fed hd6 hc6); clear hd6 hc6)
          | (go_at_call 12; refine (takes_calls C6.out.d (fun q hq => (C6.out.inF q hq).2) C6.out.dis C6.out.r HTL.out HQL.out).mono ?_; rintro e w7 ⟨v7, rfl, hv7, hd7, hc7⟩; rw [HS.out]; have C7 := Aside0.mk (C6.out.took LD.out.q hv7 hd7 hc7); rw [LD.out.q] at hv7; obtain ⟨A7, c7, hvs, _, _⟩ := hv7.slice; clear hv7 hd7 hc7; have hvv := hvs; clear hvs; subst hvv)
          | (go_at_call 14; refine (endQ_t C7.out.d.c (LD.out.told_t HST.out) LD.out.taken.err LD.out.taken.at_).mono ?_; rintro e w8 ⟨rfl, hw8⟩; have C8 := Aside0.mk (C7.out.below hw8.below); have W8 := Aside0.mk (V2.out.below C8.out.fr); clear hw8)
          | (go_at_call 13; refine (same_k rfl rfl C8.out.r W8.out HQM.out).mono ?_; rintro e w9 ⟨rfl, hw9⟩; have C9 := Aside0.mk (C8.out.below hw9.below); clear hw9)
          | (go_at_call 11; refine (feed_closed (C9.out.below (below_alloc (Below.refl _ _) _)).d.c (LD.out.taken.closed.trans HCC.out)).mono ?_; rintro e w11 ⟨rfl, hw11⟩; have C11 := Aside0.mk (C9.out.below (below_alloc (Below.refl _ _) (.cells #[.int .u8 120] 5 (1, 2)))); subst hw11)
          | (go_at_call 16; refine (lives_calls _).mono ?_; rintro e w12 ⟨rfl, hw12⟩; have W12 := Aside0.mk hw12; clear hw12))
        all_goals first
          | exact absurd HER.out (by assumption)
          | exact absurd (by assumption) HER.out
          | (go_ret; exact ⟨congrArg (fun b => Ending.returned (.bool b)) (bne_iff_ne.2 HER.out), (B2.out.trans (C11.out.fr.mono B2.out.size)).trans (W12.out.mono (Nat.le_trans B2.out.size C11.out.fr.size))⟩)
end Go.Proofs.Ytalaedpiimdcbaa.Lw
