/- The reference's Read, walked. -/
import Derived.Test.YtadbjbnnmooicaaDoorQuoteReadW
import Derived.Outline
import Derived.Deep.LoopGhost
namespace Go.Proofs.YtadbjbnnmooicaaDoor.Qw
open Go.RowKit Go.Proofs.YtadbjbnnmooicaaDoorW.PrintWords Go.Proofs.YtadbjbnnmooicaaDoorW.PrintLast Go.Proofs.YtadbjbnnmooicaaDoor.Own Go.Proofs.YtadbjbnnmooicaaDoor.Srcw
set_option linter.unusedVariables false
set_option linter.unusedSimpArgs false

set_option maxHeartbeats 8000000 in
set_option maxRecDepth 100000 in
theorem read_calls (s : ByteArray) (hs : s.size ≤ 140737488355328) (w : World) : Calls Tryd.prog 10 #[.string s, .int .i64 0] w (ReadPost s w) := by
  go_enter Tryd.func10, Tryd.ntmps10
  go_wp2_with fail
  go_loopg [8, 9] (s.size + 1) (fun gk v8 v9 wr => ∃ (i : Nat) (l : List Int) (m : Int) (A : Option Addr) (c : Nat), v9 = .int .i64 i ∧ v8 = .slice A l.length c ∧ Aside0 (i ≤ s.size) ∧ Aside0 (s.size - i < gk) ∧ Aside0 (l.length ≤ 48) ∧ Aside0 (allS s = allI (tailN s i) ⟨l, false, 0, m, false⟩ i) ∧ Aside0 ((Kd.int .u8).R 5 wr w.heap.size (fun _ => True) (.slice A l.length c) l) ∧ Aside0 (Below w.heap.size w wr))
  case atStart => exact ⟨0, [], 0, none, 0, rfl, rfl, ⟨Nat.zero_le _⟩, ⟨by omega⟩, ⟨by simp⟩, ⟨allL_eq _ _ _⟩, ⟨Kd.R_nil _ _ _ _ _⟩, ⟨Below.refl _ _⟩⟩
  case round =>
    obtain ⟨i, l, m, A, c, rfl, rfl, P1, P2, P3, P4, P5, P6⟩ := hrel
    cases gk with
    | zero => exact absurd P2.out (by omega)
    | succ k1 =>
    by_cases hlt : i < s.size
    · have h4 := P4.out
      rw [tail_at s i hlt] at h4
      have tw : wrap64 ((i : Int) + 1) = (i : Int) + 1 := w64 (by omega) (by omega)
      by_cases h34 : (s[i].toNat : Int) = 34
      · have fin : ReadIs (allS s) (strOfNums l) ((i : Int) + 1) 0 0 := by
          rw [h4, h34, allI_stop stop_end (.inl rfl)]
          exact ⟨rfl, fun h => absurd rfl h, fun _ => ⟨rfl, .inl ⟨rfl, rfl⟩⟩⟩
        have q1 : (s[i].toNat == 34) = true := by simp; omega
        have q2 : ((s[i].toNat : Int) == 34) = true := by simp; omega
        have F := Aside0.mk fin
        clear fin h4
        go_wp2_with (refine str_event rfl rfl rfl Tryd.underlying34 Tryd.underlying5 Tryd.underlying9 P5.out ?_)
        (try simp only [Exit.inBlock, Exit.then]); refine bodyPost_ret (results_tmp4 rfl _ _ _) rfl ?_
        exact ⟨_, _, _, _, rfl, F.out, P6.out⟩
      by_cases h32 : (s[i].toNat : Int) < 32
      · have fin : ReadIs (allS s) (strOfNums l) (-1) 2 (i : Int) := by
          rw [h4, allI_stop (stop_low h34 h32) (.inr (by decide))]
          exact ⟨rfl, fun _ => ⟨rfl, rfl⟩, fun h => absurd h (by decide)⟩
        have q1 : (s[i].toNat == 34) = false := by simp; omega
        have r1 : ((s[i].toNat : Int) == 34) = false := by simp; omega
        have q2 : decide (s[i].toNat < 32) = true := by simp; omega
        have r2 : decide ((s[i].toNat : Int) < 32) = true := by simp; omega
        have F := Aside0.mk fin
        clear fin h4
        go_wp2_with (refine str_event rfl rfl rfl Tryd.underlying34 Tryd.underlying5 Tryd.underlying9 P5.out ?_)
        (try simp only [Exit.inBlock, Exit.then]); refine bodyPost_ret (results_tmp4 rfl _ _ _) rfl ?_
        exact ⟨_, _, _, _, rfl, F.out, P6.out⟩
      by_cases h92 : (s[i].toNat : Int) = 92
      · have q1 : (s[i].toNat == 34) = false := by simp; omega
        have r1 : ((s[i].toNat : Int) == 34) = false := by simp; omega
        have q2 : decide (s[i].toNat < 32) = false := by simp; omega
        have r2 : decide ((s[i].toNat : Int) < 32) = false := by simp; omega
        have q3 : (s[i].toNat == 92) = true := by simp; omega
        have r3 : ((s[i].toNat : Int) == 92) = true := by simp; omega
        rw [h92] at h4
        by_cases hl2 : i + 1 < s.size
        · have g4 : decide ((i : Int) + 1 = (s.size : Int)) = false := by simp; omega
          have g5 : (((i : Int) + 1) == (s.size : Int)) = false := by simp; omega
          have tw2 : wrap64 ((i : Int) + 1 + 1) = (i : Int) + 1 + 1 := w64 (by omega) (by omega)
          have x4 := h4
          rw [allI_step step_back, tail_at s (i + 1) hl2] at x4
          by_cases h117 : (s[i + 1].toNat : Int) = 117
          · have q5 : (s[i + 1].toNat == 117) = true := by simp; omega
            have r5 : ((s[i + 1].toNat : Int) == 117) = true := by simp; omega
            rw [h117, allI_step step_four] at x4
            have X4 := Aside0.mk x4
            have HE := Aside0.mk (show escN 117 = none from rfl)
            clear h4 x4
            have L2 := Aside0.mk (below_alloc (Below.refl wr.heap.size wr) (.cells #[Value.int IntKind.u8 92] 5))
            go_wp2_with fail
            have R2 := Aside0.mk (Kd.R_below P5.out L2.out)
            have B2 := Aside0.mk (P6.out.trans (below_mono L2.out P6.out.size))
            generalize wr.alloc (Obj.cells #[Value.int IntKind.u8 92] 5) = w2 at R2 B2 ⊢
            clear L2
            refine (plain_calls 117 (by omega) (by omega) _).mono ?_
            rintro e w3 ⟨rfl, hb3⟩
            rw [HE.out, Option.getD_none, Option.isSome_none]
            have R3 := Aside0.mk (Kd.R_below R2.out hb3)
            have B3 := Aside0.mk (B2.out.trans (below_mono hb3 B2.out.size))
            clear hb3
            go_wp2_with fail
            have L4 := Aside0.mk (below_alloc (Below.refl w3.heap.size w3) (.cells #[Value.int IntKind.u8 0] 5))
            have R4 := Aside0.mk (Kd.R_below R3.out L4.out)
            have B4 := Aside0.mk (B3.out.trans (below_mono L4.out B3.out.size))
            go_loopg [9, 14, 15] 5 (fun gk2 v9 v14 v15 wr2 => ∃ (k : Nat) (n : Int), v15 = .int .i64 k ∧ v9 = .int .i64 ((i + 1 + k : Nat) : Int) ∧ v14 = .int .i64 n ∧ Aside0 (k ≤ 4) ∧ Aside0 (4 - k < gk2) ∧ Aside0 (i + 1 + k < s.size) ∧ Aside0 (0 ≤ n ∧ (k = 0 → n = 0) ∧ (k = 1 → n < 16) ∧ (k = 2 → n < 256) ∧ (k = 3 → n < 4096) ∧ n < 65536) ∧ Aside0 (k < 4 → allS s = allI (tailN s (i + 1 + k + 1)) ⟨l, false, 4 - (k : Int), n, false⟩ (i + 1 + k + 1)) ∧ Aside0 (k = 4 → LastI s l n (i + 1 + k)) ∧ Aside0 ((Kd.int .u8).R 5 wr2 w.heap.size (fun _ => True) (.slice A l.length c) l) ∧ Aside0 (Below w.heap.size w wr2))
            case atStart => exact ⟨0, 0, rfl, by go_num, rfl, ⟨by omega⟩, ⟨by omega⟩, ⟨hl2⟩, ⟨by omega⟩, ⟨fun _ => X4.out⟩, ⟨fun h => by omega⟩, R4, B4⟩
            case round =>
              obtain ⟨k, n, rfl, rfl, rfl, D1, D2, D3, D4, D5, D6, D7, D8⟩ := hrel
              cases gk with
              | zero => exact absurd D2.out (by omega)
              | succ k2 =>
              have hsz := D3.out
              by_cases hk : k < 4
              · have hd5 := D5.out hk
                have u1 : decide ((k : Int) < 4) = true := decide_eq_true (by omega)
                have tw3 : wrap64 ((i : Int) + 1 + k + 1) = (i : Int) + 1 + k + 1 := w64 (by omega) (by omega)
                have tw4 : wrap64 ((k : Int) + 1) = (k : Int) + 1 := w64 (by omega) (by omega)
                by_cases hl3 : i + 1 + k + 1 < s.size
                · have g6 : decide ((i : Int) + 1 + k + 1 = (s.size : Int)) = false := by simp; omega
                  have g7 : (((i : Int) + 1 + k + 1) == (s.size : Int)) = false := by simp; omega
                  rw [tail_at s (i + 1 + k + 1) hl3] at hd5
                  go_wp2_with fail
                  refine (hex_calls (s[i + 1 + k + 1].toNat : Int) (by omega) (by have := s[i + 1 + k + 1].toNat_lt; omega) _).mono ?_
                  rintro e w6 ⟨rfl, hb6⟩
                  have R6 := Aside0.mk (Kd.R_below D7.out hb6)
                  have B6 := Aside0.mk (D8.out.trans (below_mono hb6 D8.out.size))
                  clear hb6
                  have hlt16 := hexN_lt (s[i + 1 + k + 1].toNat : Int)
                  by_cases hx : hexN (s[i + 1 + k + 1].toNat : Int) < 0
                  · have fin : ReadIs (allS s) (strOfNums l) (-1) 9 ((i : Int) + 1 + k + 1) := by
                      rw [hd5, allI_stop (stop_dig (by omega) hx) (.inr (by decide))]
                      exact ⟨rfl, fun _ => ⟨by push_cast; rfl, rfl⟩, fun h => absurd h (by decide)⟩
                    have F := Aside0.mk fin
                    generalize hexN (s[i + 1 + k + 1].toNat : Int) = x at hx hlt16 ⊢
                    have t9 : decide (x < 0) = true := decide_eq_true hx
                    clear fin hd5 hx hlt16
                    go_wp2_with (refine str_event rfl rfl rfl Tryd.underlying34 Tryd.underlying5 Tryd.underlying9 R6.out ?_)
                    (try simp only [Exit.inBlock, Exit.then]); refine bodyPost_ret (results_tmp4 rfl _ _ _) rfl ?_
                    exact ⟨_, _, _, _, rfl, F.out, B6.out⟩
                  · have hn := D4.out
                    have G1 := Aside0.mk (show k + 1 < 4 → allS s = allI (tailN s (i + 1 + (k + 1) + 1)) ⟨l, false, 4 - ((k + 1 : Nat) : Int), 16 * n + hexN (s[i + 1 + k + 1].toNat : Int), false⟩ (i + 1 + (k + 1) + 1) from fun h => by
                      rw [hd5, allI_step (step_dig (by omega) (by omega))]
                      rw [show (4 : Int) - (k : Int) - 1 = 4 - ((k + 1 : Nat) : Int) by push_cast; omega]
                      rfl)
                    have G2 := Aside0.mk (show k + 1 = 4 → LastI s l (16 * n + hexN (s[i + 1 + k + 1].toNat : Int)) (i + 1 + (k + 1)) from fun h => by
                      have hk3 : (4 : Int) - (k : Int) = 1 := by omega
                      rw [hk3] at hd5
                      exact last_i hd5 (by omega))
                    generalize hexN (s[i + 1 + k + 1].toNat : Int) = x at hx hlt16 G1 G2 ⊢
                    have t9 : decide (x < 0) = false := decide_eq_false hx
                    have t10 : wrap64 (16 * n) = 16 * n := w64 (by omega) (by omega)
                    have t11 : wrap64 (16 * n + x) = 16 * n + x := w64 (by omega) (by omega)
                    have HN := Aside0.mk (show 0 ≤ 16 * n + x ∧ (k + 1 = 0 → 16 * n + x = 0) ∧ (k + 1 = 1 → 16 * n + x < 16) ∧ (k + 1 = 2 → 16 * n + x < 256) ∧ (k + 1 = 3 → 16 * n + x < 4096) ∧ 16 * n + x < 65536 from by omega)
                    clear hd5 hx hlt16 hn
                    go_wp2
                    go_roundg k2
                    case measure => have := D2.out; omega
                    case rel => exact ⟨k + 1, 16 * n + x, by go_num, by go_num, by go_num, ⟨by omega⟩, ⟨by have := D2.out; omega⟩, ⟨by omega⟩, HN, G1, G2, R6, B6⟩
                · have hi3 : i + 1 + k + 1 = s.size := by omega
                  have g6 : decide ((i : Int) + 1 + k + 1 = (s.size : Int)) = true := by simp; omega
                  have g7 : (((i : Int) + 1 + k + 1) == (s.size : Int)) = true := by simp; omega
                  have fin : ReadIs (allS s) (strOfNums l) (-1) 0 0 := by
                    rw [hd5, hi3, tail_end]
                    exact ⟨rfl, fun h => absurd rfl h, fun _ => ⟨rfl, .inr ⟨rfl, rfl⟩⟩⟩
                  have F := Aside0.mk fin
                  clear fin hd5
                  go_wp2_with (refine str_event rfl rfl rfl Tryd.underlying34 Tryd.underlying5 Tryd.underlying9 D7.out ?_)
                  (try simp only [Exit.inBlock, Exit.then]); refine bodyPost_ret (results_tmp4 rfl _ _ _) rfl ?_
                  exact ⟨_, _, _, _, rfl, F.out, D8.out⟩
              · have hk4 : k = 4 := by have := D1.out; omega
                subst hk4
                have hlast := D6.out rfl
                have hs4 := putS_size n
                have hl48 := P3.out
                go_wp2_with fail
                refine (refput_calls n wr).mono ?_
                rintro e w7 ⟨rfl, hb7⟩
                have R7 := Aside0.mk (Kd.R_below D7.out hb7)
                have B7 := Aside0.mk (D8.out.trans (below_mono hb7 D8.out.size))
                clear hb7
                cases hm : mayN n
                · obtain ⟨st, hst⟩ := hlast.1 hm
                  have fin : ReadIs (allS s) (strOfNums l) (-1) 9 ((i : Int) + 1 + 4) := by
                    rw [hst]
                    exact ⟨rfl, fun _ => ⟨by push_cast; rfl, rfl⟩, fun h => absurd h (by decide)⟩
                  have F := Aside0.mk fin
                  clear fin hst hlast hm
                  go_wp2_with (refine str_event rfl rfl rfl Tryd.underlying34 Tryd.underlying5 Tryd.underlying9 R7.out ?_)
                  (try simp only [Exit.inBlock, Exit.then]); refine bodyPost_ret (results_tmp4 rfl _ _ _) rfl ?_
                  exact ⟨_, _, _, _, rfl, F.out, B7.out⟩
                · by_cases hf : 48 < l.length + (putS n).size
                  · obtain ⟨st, hst⟩ := hlast.2.1 hm hf
                    have fin : ReadIs (allS s) (strOfNums l) (-1) 4 ((i : Int) + 1 + 4) := by
                      rw [hst]
                      exact ⟨rfl, fun _ => ⟨by push_cast; rfl, rfl⟩, fun h => absurd h (by decide)⟩
                    have F := Aside0.mk fin
                    have t5 : decide (48 < (l.length : Int) + ((putS n).size : Int)) = true := decide_eq_true (by omega)
                    have t6 : wrap64 ((l.length : Int) + ((putS n).size : Int)) = (l.length : Int) + ((putS n).size : Int) := w64 (by omega) (by omega)
                    clear fin hst hlast hm hf
                    go_wp2_with (first
                      | ((with_reducible refine gate_dst (N := 112) rfl ?_); refine conv_event rfl (N := 112) rfl (s := putS n) rfl rfl Tryd.underlying9 Tryd.underlying34 Tryd.underlying5 ?_; intro gc cc w8 hgc hcc hb8; have C8 := Aside0.mk (C_bytes (by omega) hcc); have R8 := Aside0.mk (Kd.R_below R7.out hb8); have B8 := Aside0.mk (B7.out.trans (below_mono hb8 B7.out.size)); clear hgc hcc hb8)
                      | (refine str_event rfl rfl rfl Tryd.underlying34 Tryd.underlying5 Tryd.underlying9 R8.out ?_))
                    (try simp only [Exit.inBlock, Exit.then]); refine bodyPost_ret (results_tmp4 rfl _ _ _) rfl ?_
                    exact ⟨_, _, _, _, rfl, F.out, B8.out⟩
                  · have H4 := Aside0.mk (hlast.2.2 hm hf)
                    have t5 : decide (48 < (l.length : Int) + ((putS n).size : Int)) = false := decide_eq_false (by omega)
                    have t6 : wrap64 ((l.length : Int) + ((putS n).size : Int)) = (l.length : Int) + ((putS n).size : Int) := w64 (by omega) (by omega)
                    have HL := Aside0.mk (show (l.length + (putS n).size) * 1 ≤ 140737488355328 by omega)
                    have HF := Aside0.mk (show (l ++ bnums (putS n).data.toList).length ≤ 48 by rw [List.length_append, (bnums_len _).trans (size_data _)]; omega)
                    have tw5 : wrap64 ((i : Int) + 1 + 4 + 1) = (i : Int) + 1 + 4 + 1 := w64 (by omega) (by omega)
                    clear hlast hm hf
                    go_wp2_with (first
                      | ((with_reducible refine gate_dst (N := 112) rfl ?_); refine conv_event rfl (N := 112) rfl (s := putS n) rfl rfl Tryd.underlying9 Tryd.underlying34 Tryd.underlying5 ?_; intro gc cc w8 hgc hcc hb8; have C8 := Aside0.mk (C_bytes (by omega) hcc); have R8 := Aside0.mk (Kd.R_below R7.out hb8); have B8 := Aside0.mk (B7.out.trans (below_mono hb8 B7.out.size)); clear hgc hcc hb8)
                      | ((with_reducible refine gate_builtin (b := .append) (xs := #[.tmp 122, .tmp 123]) rfl ?_); at_builtin; refine Kd.R_append_row (Value.int .u8) (0 : Int) (w0 := w) w.heap.size rfl (.tmp 122) (.tmp 123) 34 5 (.int .u8 0) 1 rfl Tryd.underlying34 infoByte rfl (by omega) _ l (bnums (putS n).data.toList) _ _ _ (fun _ => True) rfl rfl (fun _ _ => trivial) R8.out (by have := C8.out; rwa [(bnums_len _).trans (size_data _)] at this) B8.out B8.out.size HL.out ?_; intro v5 w5 ho hb hg hat; obtain ⟨A5, c5, hv5⟩ := Kd.R_slice ho; have R5 := Aside0.mk ho; have B5 := Aside0.mk hb; clear ho hb hg hat; subst hv5))
                    go_roundg k1
                    case measure => have := P2.out; omega
                    case rel => exact ⟨i + 1 + 4 + 1, _, n, A5, c5, by go_num, by simp, ⟨by have := D3.out; omega⟩, ⟨by have := P2.out; omega⟩, HF, ⟨H4.out⟩, R5, B5⟩
          · have q5 : (s[i + 1].toNat == 117) = false := by simp; omega
            have r5 : ((s[i + 1].toNat : Int) == 117) = false := by simp; omega
            cases hE : escN (s[i + 1].toNat : Int) with
            | none =>
              have fin : ReadIs (allS s) (strOfNums l) (-1) 9 ((i : Int) + 1) := by
                rw [x4, allI_stop (stop_none h117 hE) (.inr (by decide))]
                exact ⟨rfl, fun _ => ⟨by push_cast; rfl, rfl⟩, fun h => absurd h (by decide)⟩
              have F := Aside0.mk fin
              have HE := Aside0.mk hE
              clear fin h4 x4 hE
              go_wp2_with (first
                | ((with_reducible refine gate_dst (N := 41) rfl ?_); refine one_event rfl (N := 41) rfl (k := .u8) (x := (s[i].toNat : Int)) (e := 5) ?hr ?_; (case hr => first | (go_simp; done) | (go_simp; rfl)); intro g2 w2 hc2 hb2; have R2 := Aside0.mk (Kd.R_below P5.out hb2); have B2 := Aside0.mk (P6.out.trans (below_mono hb2 P6.out.size)); clear hc2 hb2)
                | (go_at_call 17; refine (plain_calls (s[i + 1].toNat : Int) (by omega) (by have := s[i + 1].toNat_lt; omega) _).mono ?_; rintro e w3 ⟨rfl, hb3⟩; rw [HE.out, Option.getD_none, Option.isSome_none]; have R3 := Aside0.mk (Kd.R_below R2.out hb3); have B3 := Aside0.mk (B2.out.trans (below_mono hb3 B2.out.size)); clear hb3)
                | ((with_reducible refine gate_dst (N := 60) rfl ?_); refine one_event rfl (N := 60) rfl (k := .u8) (x := 0) (e := 5) ?hr ?_; (case hr => first | (go_simp; done) | (go_simp; rfl)); intro g4 w4 hc4 hb4; have C4 := Aside0.mk hc4; have R4 := Aside0.mk (Kd.R_below R3.out hb4); have B4 := Aside0.mk (B3.out.trans (below_mono hb4 B3.out.size)); clear hc4 hb4)
                | (refine str_event rfl rfl rfl Tryd.underlying34 Tryd.underlying5 Tryd.underlying9 R4.out ?_))
              (try simp only [Exit.inBlock, Exit.then]); refine bodyPost_ret (results_tmp4 rfl _ _ _) rfl ?_
              exact ⟨_, _, _, _, rfl, F.out, B4.out⟩
            | some c =>
              have HE := Aside0.mk hE
              by_cases hl : l.length < 48
              · have H4 : Aside0 (allS s = allI (tailN s (i + 2)) ⟨l ++ [c], false, 0, m, false⟩ (i + 2)) := ⟨by rw [x4, allI_step (step_letter hl h117 hE)]⟩
                have t5 : decide (48 < (l.length : Int) + 1) = false := decide_eq_false (by omega)
                have t6 : wrap64 ((l.length : Int) + 1) = (l.length : Int) + 1 := w64 (by omega) (by omega)
                have HL := Aside0.mk (show (l.length + 1) * 1 ≤ 140737488355328 by omega)
                clear h4 x4 hE
                go_wp2_with (first
                  | ((with_reducible refine gate_dst (N := 41) rfl ?_); refine one_event rfl (N := 41) rfl (k := .u8) (x := (s[i].toNat : Int)) (e := 5) ?hr ?_; (case hr => first | (go_simp; done) | (go_simp; rfl)); intro g2 w2 hc2 hb2; have R2 := Aside0.mk (Kd.R_below P5.out hb2); have B2 := Aside0.mk (P6.out.trans (below_mono hb2 P6.out.size)); clear hc2 hb2)
                  | (go_at_call 17; refine (plain_calls (s[i + 1].toNat : Int) (by omega) (by have := s[i + 1].toNat_lt; omega) _).mono ?_; rintro e w3 ⟨rfl, hb3⟩; rw [HE.out, Option.getD_some, Option.isSome_some]; have R3 := Aside0.mk (Kd.R_below R2.out hb3); have B3 := Aside0.mk (B2.out.trans (below_mono hb3 B2.out.size)); clear hb3)
                  | ((with_reducible refine gate_dst (N := 60) rfl ?_); refine one_event rfl (N := 60) rfl (k := .u8) (x := c) (e := 5) ?hr ?_; (case hr => first | (go_simp; done) | (go_simp; rfl)); intro g4 w4 hc4 hb4; have C4 := Aside0.mk hc4; have R4 := Aside0.mk (Kd.R_below R3.out hb4); have B4 := Aside0.mk (B3.out.trans (below_mono hb4 B3.out.size)); clear hc4 hb4)
                  | ((with_reducible refine gate_builtin (b := .append) (xs := #[.tmp 122, .tmp 123]) rfl ?_); at_builtin; refine Kd.R_append_row (Value.int .u8) (0 : Int) (w0 := w) w.heap.size rfl (.tmp 122) (.tmp 123) 34 5 (.int .u8 0) 1 rfl Tryd.underlying34 infoByte rfl (by omega) _ l [c] _ _ _ (fun _ => True) rfl rfl (fun _ _ => trivial) R4.out C4.out B4.out B4.out.size HL.out ?_; intro v5 w5 ho hb hg hat; obtain ⟨A5, c5, hv5⟩ := Kd.R_slice ho; have R5 := Aside0.mk ho; have B5 := Aside0.mk hb; clear ho hb hg hat; subst hv5))
                go_roundg k1
                case measure => have := P2.out; omega
                case rel => exact ⟨i + 2, _, m, A5, c5, by go_num, by simp, ⟨by omega⟩, ⟨by have := P2.out; omega⟩, ⟨by simp; omega⟩, H4, R5, B5⟩
              · have fin : ReadIs (allS s) (strOfNums l) (-1) 4 ((i : Int) + 1) := by
                  rw [x4, allI_stop (stop_back hl h117 hE) (.inr (by decide))]
                  exact ⟨rfl, fun _ => ⟨by push_cast; rfl, rfl⟩, fun h => absurd h (by decide)⟩
                have t5 : decide (48 < (l.length : Int) + 1) = true := decide_eq_true (by omega)
                have t6 : wrap64 ((l.length : Int) + 1) = (l.length : Int) + 1 := w64 (by omega) (by have := P3.out; omega)
                have F := Aside0.mk fin
                clear fin h4 x4 hE
                go_wp2_with (first
                  | ((with_reducible refine gate_dst (N := 41) rfl ?_); refine one_event rfl (N := 41) rfl (k := .u8) (x := (s[i].toNat : Int)) (e := 5) ?hr ?_; (case hr => first | (go_simp; done) | (go_simp; rfl)); intro g2 w2 hc2 hb2; have R2 := Aside0.mk (Kd.R_below P5.out hb2); have B2 := Aside0.mk (P6.out.trans (below_mono hb2 P6.out.size)); clear hc2 hb2)
                  | (go_at_call 17; refine (plain_calls (s[i + 1].toNat : Int) (by omega) (by have := s[i + 1].toNat_lt; omega) _).mono ?_; rintro e w3 ⟨rfl, hb3⟩; rw [HE.out, Option.getD_some, Option.isSome_some]; have R3 := Aside0.mk (Kd.R_below R2.out hb3); have B3 := Aside0.mk (B2.out.trans (below_mono hb3 B2.out.size)); clear hb3)
                  | ((with_reducible refine gate_dst (N := 60) rfl ?_); refine one_event rfl (N := 60) rfl (k := .u8) (x := c) (e := 5) ?hr ?_; (case hr => first | (go_simp; done) | (go_simp; rfl)); intro g4 w4 hc4 hb4; have C4 := Aside0.mk hc4; have R4 := Aside0.mk (Kd.R_below R3.out hb4); have B4 := Aside0.mk (B3.out.trans (below_mono hb4 B3.out.size)); clear hc4 hb4)
                  | (refine str_event rfl rfl rfl Tryd.underlying34 Tryd.underlying5 Tryd.underlying9 R4.out ?_))
                (try simp only [Exit.inBlock, Exit.then]); refine bodyPost_ret (results_tmp4 rfl _ _ _) rfl ?_
                exact ⟨_, _, _, _, rfl, F.out, B4.out⟩
        · have hi2 : i + 1 = s.size := by omega
          have g4 : decide ((i : Int) + 1 = (s.size : Int)) = true := by simp; omega
          have g5 : (((i : Int) + 1) == (s.size : Int)) = true := by simp; omega
          have fin : ReadIs (allS s) (strOfNums l) (-1) 0 0 := by
            rw [h4, allI_step step_back, hi2, tail_end]
            exact ⟨rfl, fun h => absurd rfl h, fun _ => ⟨rfl, .inr ⟨rfl, rfl⟩⟩⟩
          have F := Aside0.mk fin
          clear fin h4
          go_wp2_with (first
            | ((with_reducible refine gate_dst (N := 41) rfl ?_); refine one_event rfl (N := 41) rfl (k := .u8) (x := (s[i].toNat : Int)) (e := 5) ?hr ?_; (case hr => first | (go_simp; done) | (go_simp; rfl)); intro g2 w2 hc2 hb2; have R2 := Aside0.mk (Kd.R_below P5.out hb2); have B2 := Aside0.mk (P6.out.trans (below_mono hb2 P6.out.size)); clear hc2 hb2)
            | (refine str_event rfl rfl rfl Tryd.underlying34 Tryd.underlying5 Tryd.underlying9 R2.out ?_))
          (try simp only [Exit.inBlock, Exit.then]); refine bodyPost_ret (results_tmp4 rfl _ _ _) rfl ?_
          exact ⟨_, _, _, _, rfl, F.out, B2.out⟩
      · have q1 : (s[i].toNat == 34) = false := by simp; omega
        have r1 : ((s[i].toNat : Int) == 34) = false := by simp; omega
        have q2 : decide (s[i].toNat < 32) = false := by simp; omega
        have r2 : decide ((s[i].toNat : Int) < 32) = false := by simp; omega
        have q3 : (s[i].toNat == 92) = false := by simp; omega
        have r3 : ((s[i].toNat : Int) == 92) = false := by simp; omega
        by_cases hl : l.length < 48
        · have H4 : Aside0 (allS s = allI (tailN s (i + 1)) ⟨l ++ [(s[i].toNat : Int)], false, 0, m, false⟩ (i + 1)) := ⟨by rw [h4, allI_step (step_quot hl h34 h32 h92)]⟩
          have t5 : decide (48 < (l.length : Int) + 1) = false := decide_eq_false (by omega)
          have t6 : wrap64 ((l.length : Int) + 1) = (l.length : Int) + 1 := w64 (by omega) (by omega)
          have HL := Aside0.mk (show (l.length + 1) * 1 ≤ 140737488355328 by omega)
          clear h4
          go_wp2_with (first
            | ((with_reducible refine gate_dst (N := 41) rfl ?_); refine one_event rfl (N := 41) rfl (k := .u8) (x := (s[i].toNat : Int)) (e := 5) ?hr ?_; (case hr => first | (go_simp; done) | (go_simp; rfl)); intro g2 w2 hc2 hb2; have C2 := Aside0.mk hc2; have R2 := Aside0.mk (Kd.R_below P5.out hb2); have B2 := Aside0.mk (P6.out.trans (below_mono hb2 P6.out.size)); clear hc2 hb2)
            | ((with_reducible refine gate_builtin (b := .append) (xs := #[.tmp 122, .tmp 123]) rfl ?_); at_builtin; refine Kd.R_append_row (Value.int .u8) (0 : Int) (w0 := w) w.heap.size rfl (.tmp 122) (.tmp 123) 34 5 (.int .u8 0) 1 rfl Tryd.underlying34 infoByte rfl (by omega) _ l [(s[i].toNat : Int)] _ _ _ (fun _ => True) rfl rfl (fun _ _ => trivial) R2.out C2.out B2.out B2.out.size HL.out ?_; intro v3 w3 ho hb hg hat; obtain ⟨A3, c3, hv3⟩ := Kd.R_slice ho; have R3 := Aside0.mk ho; have B3 := Aside0.mk hb; clear ho hb hg hat; subst hv3))
          go_roundg k1
          case measure => have := P2.out; omega
          case rel => exact ⟨i + 1, _, m, A3, c3, by go_num, by simp, ⟨by omega⟩, ⟨by have := P2.out; omega⟩, ⟨by simp; omega⟩, H4, R3, B3⟩
        · have fin : ReadIs (allS s) (strOfNums l) (-1) 4 (i : Int) := by
            rw [h4, allI_stop (stop_plain hl h34 h32 h92) (.inr (by decide))]
            exact ⟨rfl, fun _ => ⟨rfl, rfl⟩, fun h => absurd h (by decide)⟩
          have t5 : decide (48 < (l.length : Int) + 1) = true := decide_eq_true (by omega)
          have t6 : wrap64 ((l.length : Int) + 1) = (l.length : Int) + 1 := w64 (by omega) (by have := P3.out; omega)
          have F := Aside0.mk fin
          clear fin h4
          go_wp2_with (first
            | ((with_reducible refine gate_dst (N := 41) rfl ?_); refine one_event rfl (N := 41) rfl (k := .u8) (x := (s[i].toNat : Int)) (e := 5) ?hr ?_; (case hr => first | (go_simp; done) | (go_simp; rfl)); intro g2 w2 hc2 hb2; have R2 := Aside0.mk (Kd.R_below P5.out hb2); have B2 := Aside0.mk (P6.out.trans (below_mono hb2 P6.out.size)); clear hc2 hb2)
            | (refine str_event rfl rfl rfl Tryd.underlying34 Tryd.underlying5 Tryd.underlying9 R2.out ?_))
          (try simp only [Exit.inBlock, Exit.then]); refine bodyPost_ret (results_tmp4 rfl _ _ _) rfl ?_
          exact ⟨_, _, _, _, rfl, F.out, B2.out⟩
    · have hi : i = s.size := by have := P1.out; omega
      have h4 := P4.out
      rw [hi, tail_end] at h4
      have fin : ReadIs (allS s) (strOfNums l) (-1) 0 0 := by
        rw [h4]
        exact ⟨rfl, fun h => absurd rfl h, fun _ => ⟨rfl, .inr ⟨rfl, rfl⟩⟩⟩
      have F := Aside0.mk fin
      clear fin h4 hi
      go_wp2_with (refine str_event rfl rfl rfl Tryd.underlying34 Tryd.underlying5 Tryd.underlying9 P5.out ?_)
      (try simp only [Exit.inBlock, Exit.then]); refine bodyPost_ret (results_tmp4 rfl _ _ _) rfl ?_
      exact ⟨_, _, _, _, rfl, F.out, P6.out⟩
end Go.Proofs.YtadbjbnnmooicaaDoor.Qw
