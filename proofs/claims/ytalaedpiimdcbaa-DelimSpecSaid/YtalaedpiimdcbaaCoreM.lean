/- pull.Core over a machine: met, Feed. pull.Core over a machine: Close, Next, End, All. pull.Core over a machine: Next; a decoder is made; Decode. -/
import Derived.Test.YtalaedpiimdcbaaCoreW
import Derived.Deep.LoopGhost
import Derived.Deep.QuietTactic
import Derived.BigQuiet
namespace Go.Proofs.Ytalaedpiimdcbaa.Cr
open Go Go.Lib Go.RowKit Go.Proofs.YtalaedpiimdcbaaW.PrintWords Go.Proofs.YtalaedpiimdcbaaW.PrintLast Go.Proofs.Ytalaedpiimdcbaa.Own Go.Proofs.Ytalaedpiimdcbaa.Hp Go.Proofs.Ytalaedpiimdcbaa.Srcw Go.Proofs.Ytalaedpiimdcbaa.Dl
set_option linter.unusedVariables false
set_option linter.unusedSimpArgs false
theorem missing_one (n : String) (t : TypeId) (got : Array Method) (h : got.any (fun m => m.name == n && m.sig == t) = false) : ∃ s, Instr.missingMethod #[(n, t)] got = some s := by
  unfold Instr.missingMethod
  simp only [List.filter_cons, h, Bool.not_false, if_true, List.filter_nil, List.map_cons, List.map_nil]
  generalize hp : List.partition _ _ = p
  obtain ⟨u, e⟩ := p
  have h2 : u = [n] ∧ e = [] ∨ u = [] ∧ e = [n] := by
    rw [List.partition_eq_filter_filter] at hp
    injection hp with h3 h4
    subst h3; subst h4
    simp only [List.filter_cons, List.filter_nil, Function.comp]
    split <;> simp_all
  rcases h2 with ⟨rfl, rfl⟩ | ⟨rfl, rfl⟩
  · exact ⟨_, rfl⟩
  · exact ⟨_, rfl⟩
theorem not_placed (a : Addr) (w : World) : (Instr.typeAssert (.iface 52 (.pointer (some a))) 33 80 true).run Try.prog w = .ok (.tuple #[.nilIface, .bool false]) w := by
  have h := Try.underlying80
  have hm : (Try.prog.info? 52).map (fun i => i.methods.any (fun m => m.name == "At" && m.sig == 82)) = some false := by kernel_rfl
  have hz : ∀ w, (zeroValue 80).run Try.prog w = .ok .nilIface w := fun w => by kernel_rfl
  cases hi : Try.prog.info? 52 with
  | none => rw [hi] at hm; cases hm
  | some i =>
    rw [hi] at hm
    have hm2 : i.methods.any (fun m => m.name == "At" && m.sig == 82) = false := by simpa using hm
    obtain ⟨s, hs⟩ := missing_one "At" 82 i.methods hm2
    unfold Instr.typeAssert
    simp [run_underlying h, typeInfo, hi, hs, hz]
set_option maxHeartbeats 4000000 in
set_option maxRecDepth 100000 in
theorem met_calls {F : Nat → Prop} {w : World} {g gM gS : Nat} {c : CS} {x : Int} (h : IsC F w g gM gS c) :
    Calls Try.prog 23 #[ptr g, .int .i64 x] w fun e w' => e = .returned (.tuple #[]) ∧ IsC F w' g gM gS (c.fail x) ∧ Ch coreT F w w' := by
  have H := Aside0.mk h
  clear h
  go_enter Try.func23, Try.ntmps23
  go_wp2_with fail
  refine (fails_calls H.out).mono ?_
  rintro e w1 ⟨rfl, hc, hh⟩
  have H1 := Aside0.mk hc
  have C1 := Aside0.mk hh
  obtain ⟨qv, k1, _⟩ := hc.core
  have c0 : w1.cell? ⟨g, 0, none⟩ = some (mval gM) := (blk_cell k1 0).trans rfl
  clear hc hh k1
  have np := not_placed ⟨gM, 0, none⟩ w1
  go_wp2
  go_end0
  exact ⟨rfl, H1.out, C1.out⟩
theorem step_method (a : Addr) (w : World) : (method 210 52 (.pointer (some a)) "Step").run Try.prog w = .ok (59, .pointer (some a)) w := by kernel_rfl
theorem end_method (a : Addr) (w : World) : (method 210 52 (.pointer (some a)) "End").run Try.prog w = .ok (58, .pointer (some a)) w := by kernel_rfl
set_option maxHeartbeats 8000000 in
set_option maxRecDepth 100000 in
theorem feed_open {F : Nat → Prop} {w : World} {g gM gS n0 n : Nat} {d : DS} {A : Option Addr} {l : List UInt8} (h : D2 F w g gM gS d.m d.c) (hd : DOK n0 d) (hn : n0 + l.length ≤ 10000) (hr : Rd8 F w A l) (hc : d.c.closed = false) :
    Calls Try.prog 11 #[ptr g, .slice A l.length n] w fun e w' => e = .returned (.bool true) ∧ D2 (ext F w) w' g gM gS (feedD d l).m (feedD d l).c ∧ Ch allT F w w' := by
  have H := Aside0.mk h
  have HD := Aside0.mk hd
  have HN := Aside0.mk hn
  have HR := Aside0.mk hr
  obtain ⟨qv, k1, _⟩ := h.c.core
  have c4' : w.cell? ⟨g, 4, none⟩ = some (.bool d.c.closed) := (blk_cell k1 4).trans rfl
  have c4 : w.cell? ⟨g, 4, none⟩ = some (.bool false) := by rw [c4', hc]
  have HCL := Aside0.mk hc
  clear h hd hr k1 c4' hc
  go_enter Try.func11, Try.ntmps11
  go_wp2
  clear c4
  go_loopg [14] (l.length + 1) (fun gk v14 wr => ∃ (i : Nat), v14 = .int .i64 i ∧ Aside0 (i ≤ l.length) ∧ Aside0 (l.length - i < gk) ∧ Aside0 (D2 (ext F w) wr g gM gS (feedD d (l.take i)).m (feedD d (l.take i)).c) ∧ Aside0 (Ch allT F w wr) ∧ Aside0 (Rd8 (ext F w) wr A l))
  case atStart => exact ⟨0, rfl, ⟨Nat.zero_le _⟩, ⟨by omega⟩, ⟨by rw [List.take_zero]; exact H.out.mono (fun _ h => ext_of h)⟩, ⟨Ch.refl _ _ _⟩, ⟨HR.out.ch (Ch.refl allT F w)⟩⟩
  case round =>
    obtain ⟨i, rfl, P1, P2, P3, P4, P5⟩ := hrel
    cases gk with
    | zero => exact absurd P2.out (by omega)
    | succ k1 =>
    have hp1 := P1.out
    by_cases hlt : i < l.length
    · obtain ⟨ad, rfl, hna, hcell⟩ := P5.out i hlt
      have HFS := Aside0.mk (feed_succ d l i hlt)
      have HOK := Aside0.mk (show DOK (n0 + i) (feedD d (l.take i)) by have := HD.out.feed (l.take i); rwa [List.length_take, Nat.min_eq_left (by omega)] at this)
      generalize hdi : feedD d (l.take i) = di at P3 HFS HOK
      have HDI := Aside0.mk hdi
      clear hdi
      generalize l[i] = b at hcell HFS
      obtain ⟨qv, k1, _⟩ := P3.out.c.core
      have t1 : decide ((i : Int) < (l.length : Int)) = true := decide_eq_true (by omega)
      have t2 : decide (i < l.length) = true := decide_eq_true hlt
      have tw : wrap64 ((i : Int) + 1) = (i : Int) + 1 := w64 (by omega) (by omega)
      have c5' : wr.cell? ⟨g, 5, none⟩ = some (.bool di.c.over) := (blk_cell k1 5).trans rfl
      have c1 : wr.cell? ⟨g, 1, none⟩ = some (ptr gS) := (blk_cell k1 1).trans rfl
      clear k1 hna
      cases hov : di.c.over with
      | true =>
        have HOV := Aside0.mk hov
        rw [hov] at c5'
        clear hov
        go_wp2
        go_ret
        have hst : di = feedD d l := by rw [← HDI.out]; exact feed_stop (by rw [HDI.out]; exact HOV.out)
        rw [← hst]
        exact ⟨rfl, P3.out, P4.out⟩
      | false =>
        have HOV := Aside0.mk hov
        rw [hov] at c5'
        have hov2 : ¬ di.c.over = true := by rw [hov]; decide
        clear hov
        cases hsf : (stepF di.c.l di.c.a di.c.t b.toNat).1 with
        | false =>
          have HSF := Aside0.mk hsf
          have HS := Aside0.mk (show stepD di b = ⟨di.m, (di.c.scan (stepF di.c.l di.c.a di.c.t b.toNat)).fail 3⟩ by unfold stepD; rw [if_neg hov2, if_pos hsf])
          clear hsf hov2
          go_wp2_with (first
            | (go_at_call 20; refine (scan_calls b P3.out.c HOK.out.l).mono ?_; rintro e w3 ⟨rfl, hs, hh⟩; rw [HSF.out]; have S3 := Aside0.mk hs; have C3 := Aside0.mk hh; clear hs hh)
            | (go_at_call 21; refine (fails_calls S3.out).mono ?_; rintro e w4 ⟨rfl, hs, hh⟩; have S4 := Aside0.mk hs; have C4 := Aside0.mk hh; clear hs hh))
          go_ret
          have hst : stepD di b = feedD d l := by rw [← HFS.out]; exact feed_stop (by rw [HFS.out, HS.out]; rfl)
          rw [← hst, HS.out]
          exact ⟨rfl, ⟨(P3.out.m.stay C3.out).stay C4.out, S4.out⟩, P4.out.trans ((Ch.core_all C3.out).trans ((Ch.core_all C4.out).mono (fun _ h => h) (fun _ h => ext_of h)))⟩
        | true =>
          have HSF := Aside0.mk hsf
          have hsf2 : ¬ (stepF di.c.l di.c.a di.c.t b.toNat).1 = false := by rw [hsf]; decide
          clear hsf
          go_wp2_with (first
            | (go_at_call 20; refine (scan_calls b P3.out.c HOK.out.l).mono ?_; rintro e w3 ⟨rfl, hs, hh⟩; rw [HSF.out]; have S3 := Aside0.mk hs; have C3 := Aside0.mk hh; obtain ⟨qv3, k3, _⟩ := hs.core; have z0 : w3.cell? ⟨g, 0, none⟩ = some (mval gM) := (blk_cell k3 0).trans rfl; clear hs hh k3))
          have D3 := Aside0.mk (show D2 (ext F w) w3 g gM gS di.m (di.c.scan (stepF di.c.l di.c.a di.c.t b.toNat)) from ⟨P3.out.m.stay C3.out, S3.out⟩)
          have C3a := Aside0.mk (P4.out.trans (Ch.core_all C3.out))
          have hme := step_method ⟨gM, 0, none⟩
          go_wp2_with fail
          clear hme z0
          refine (Dl.step_calls b D3.out (HOK.out.ok HOV.out) (by have := HOK.out.q; have := HN.out; show di.c.q.length ≤ 90000; unfold stepMax at *; omega)).mono ?_
          rintro e w4 ⟨rfl, hd4, hc4⟩
          have D4 := Aside0.mk (hd4.mono (ext2 C3a.out.size))
          have C4 := Aside0.mk (C3a.out.trans hc4)
          clear hd4 hc4
          by_cases hx : (stepM di.m b).2.2 = 0
          · have HS := Aside0.mk (show stepD di b = ⟨(stepM di.m b).1, { di.c.scan (stepF di.c.l di.c.a di.c.t b.toNat) with q := di.c.q ++ (stepM di.m b).2.1, at_ := di.c.at_ + 1 }⟩ by unfold stepD; rw [if_neg hov2, if_neg hsf2, if_pos hx])
            obtain ⟨qv4, k4, _⟩ := D4.out.c.core
            have z3 : w4.cell? ⟨g, 3, none⟩ = some (.int .i64 di.c.at_) := (blk_cell k4 3).trans rfl
            have y3 := blk_frozen k4 3
            have hat := HOK.out.at_
            have hnn := HN.out
            have tw2 : wrap64 (di.c.at_ + 1) = di.c.at_ + 1 := w64 (by omega) (by omega)
            have PT := Aside0.mk (D4.out.c.put (c' := { di.c.scan (stepF di.c.l di.c.a di.c.t b.toNat) with q := di.c.q ++ (stepM di.m b).2.1, at_ := di.c.at_ + 1 }) 3 (.int .i64 (di.c.at_ + 1)) (fun qv => rfl) rfl ⟨rfl, rfl, rfl⟩)
            rw [hx]
            clear hx hov2 hsf2 k4 hat hnn
            go_wp2
            go_roundg k1
            case measure => have := P2.out; omega
            case rel =>
              refine ⟨i + 1, by go_num, ⟨by omega⟩, ⟨by have := P2.out; omega⟩, ⟨?_⟩, ⟨C4.out.trans ((Ch.core_all PT.out.2).mono (fun _ h => h) (fun _ h => h))⟩, ⟨?_⟩⟩
              · rw [HFS.out, HS.out]; exact ⟨D4.out.m.stay PT.out.2, PT.out.1⟩
              · exact (HR.out.ch (C4.out.trans ((Ch.core_all PT.out.2).mono (fun _ h => h) (fun _ h => h))))
          · have HS := Aside0.mk (show stepD di b = ⟨(stepM di.m b).1, ({ di.c.scan (stepF di.c.l di.c.a di.c.t b.toNat) with q := di.c.q ++ (stepM di.m b).2.1 } : CS).fail (stepM di.m b).2.2⟩ by unfold stepD; rw [if_neg hov2, if_neg hsf2, if_neg hx])
            obtain ⟨y, hy⟩ : ∃ y, (stepM di.m b).2.2 = y := ⟨_, rfl⟩
            rw [hy] at hx HS ⊢
            have s4 : (y == 0) = false := by rw [beq_eq_false_iff_ne]; exact hx
            have s5 : decide (y = 0) = false := decide_eq_false hx
            clear hx hov2 hsf2 hy
            go_wp2_with (go_at_call 23; refine (met_calls D4.out.c).mono ?_; rintro e w5 ⟨rfl, hs, hh⟩; have S5 := Aside0.mk hs; have C5 := Aside0.mk hh; clear hs hh)
            go_ret
            have hst : stepD di b = feedD d l := by rw [← HFS.out]; exact feed_stop (by rw [HFS.out, HS.out]; rfl)
            rw [← hst, HS.out]
            exact ⟨rfl, ⟨D4.out.m.stay C5.out, S5.out⟩, C4.out.trans (Ch.core_all C5.out)⟩
    · have hi : i = l.length := by omega
      have t1 : decide ((i : Int) < (l.length : Int)) = false := decide_eq_false (by omega)
      have t2 : decide (i < l.length) = false := decide_eq_false (by omega)
      rw [hi, List.take_length] at P3
      clear hi
      go_wp2
      go_ret
      exact ⟨rfl, P3.out, P4.out⟩
set_option maxHeartbeats 4000000 in
set_option maxRecDepth 100000 in
theorem feed_closed {F : Nat → Prop} {w : World} {g gM gS n k : Nat} {c : CS} {A : Option Addr} (h : IsC F w g gM gS c) (hc : c.closed = true) :
    Calls Try.prog 11 #[ptr g, .slice A k n] w fun e w' => e = .returned (.bool false) ∧ w' = w := by
  obtain ⟨qv, k1, _⟩ := h.core
  have c4' : w.cell? ⟨g, 4, none⟩ = some (.bool c.closed) := (blk_cell k1 4).trans rfl
  have c4 : w.cell? ⟨g, 4, none⟩ = some (.bool true) := by rw [c4', hc]
  clear h k1 c4' hc
  go_enter Try.func11, Try.ntmps11
  go_wp2
  go_ret
  exact ⟨rfl, rfl⟩
end Go.Proofs.Ytalaedpiimdcbaa.Cr

namespace Go.Proofs.Ytalaedpiimdcbaa.Cr
open Go Go.Lib Go.RowKit Go.Proofs.YtalaedpiimdcbaaW.PrintWords Go.Proofs.YtalaedpiimdcbaaW.PrintLast Go.Proofs.Ytalaedpiimdcbaa.Own Go.Proofs.Ytalaedpiimdcbaa.Hp Go.Proofs.Ytalaedpiimdcbaa.Srcw Go.Proofs.Ytalaedpiimdcbaa.Dl
set_option linter.unusedVariables false
set_option linter.unusedSimpArgs false
set_option maxHeartbeats 8000000 in
set_option maxRecDepth 100000 in
theorem close_calls {F : Nat → Prop} {w : World} {g gM gS n0 : Nat} {d : DS} (h : D2 F w g gM gS d.m d.c) (hd : DOK n0 d) (hn : n0 ≤ 10000) :
    Calls Try.prog 15 #[ptr g] w fun e w' => e = .returned (.tuple #[]) ∧ D2 (ext F w) w' g gM gS (closeD d).m (closeD d).c ∧ Ch allT F w w' := by
  have H := Aside0.mk h
  have HD := Aside0.mk hd
  have HN := Aside0.mk hn
  obtain ⟨qv, k1, _⟩ := h.c.core
  have c4' : w.cell? ⟨g, 4, none⟩ = some (.bool d.c.closed) := (blk_cell k1 4).trans rfl
  have c5' : w.cell? ⟨g, 5, none⟩ = some (.bool d.c.over) := (blk_cell k1 5).trans rfl
  have f4 := blk_frozen k1 4
  have P1 := Aside0.mk (h.c.put (c' := { d.c with closed := true }) 4 (.bool true) (fun qv => rfl) rfl ⟨rfl, rfl, rfl⟩)
  have DP := Aside0.mk (show D2 F (w.setCell ⟨g, 4, none⟩ (.bool true)) g gM gS d.m { d.c with closed := true } from ⟨h.m.stay P1.out.2, P1.out.1⟩)
  clear h hd hn k1
  cases hcl : d.c.closed with
  | true =>
    have HS := Aside0.mk (show closeD d = ⟨d.m, { d.c with closed := true }⟩ by unfold closeD; rw [if_pos (.inl hcl)])
    rw [hcl] at c4'
    clear hcl c5'
    go_enter Try.func15, Try.ntmps15
    go_wp2
    refine bodyPost_ret (v := .tuple #[]) (results_none rfl _ _ _) rfl ?_
    rw [HS.out]
    exact ⟨rfl, DP.out.mono (fun _ h => ext_of h), Ch.core_all P1.out.2⟩
  | false =>
    cases hov : d.c.over with
    | true =>
      have HS := Aside0.mk (show closeD d = ⟨d.m, { d.c with closed := true }⟩ by unfold closeD; rw [if_pos (.inr hov)])
      rw [hcl] at c4'
      rw [hov] at c5'
      clear hcl hov
      go_enter Try.func15, Try.ntmps15
      go_wp2
      refine bodyPost_ret (v := .tuple #[]) (results_none rfl _ _ _) rfl ?_
      rw [HS.out]
      exact ⟨rfl, DP.out.mono (fun _ h => ext_of h), Ch.core_all P1.out.2⟩
    | false =>
      have hno : ¬ (d.c.closed = true ∨ d.c.over = true) := by rw [hcl, hov]; simp
      have HMOK := Aside0.mk (HD.out.ok hov)
      rw [hcl] at c4'
      rw [hov] at c5'
      obtain ⟨qv2, k2, _⟩ := P1.out.1.core
      have z1 : (w.setCell ⟨g, 4, none⟩ (.bool true)).cell? ⟨g, 1, none⟩ = some (ptr gS) := (blk_cell k2 1).trans rfl
      have z0 : (w.setCell ⟨g, 4, none⟩ (.bool true)).cell? ⟨g, 0, none⟩ = some (mval gM) := (blk_cell k2 0).trans rfl
      clear hcl hov k2
      by_cases hl : d.c.l = 0
      · have HS := Aside0.mk (show closeD d = ⟨(endM d.m).1, ({ d.c with closed := true, q := d.c.q ++ (endM d.m).2.1 } : CS).fail (endM d.m).2.2⟩ by unfold closeD; rw [if_neg hno, if_neg (by simp [hl])])
        have HW := Aside0.mk (show decide (({ d.c with closed := true } : CS).l = 0) = true from decide_eq_true hl)
        clear hl hno
        have hme := end_method ⟨gM, 0, none⟩
        go_enter Try.func15, Try.ntmps15
        go_wp2_with (first
          | (go_at_call 25; refine (whole_calls DP.out.c).mono ?_; rintro e w3 ⟨rfl, rfl⟩; rw [HW.out])
          | (go_at_call 58; refine (end_calls DP.out HMOK.out (by have := HD.out.q; have := HN.out; show d.c.q.length ≤ 90000; unfold stepMax at *; omega)).mono ?_; rintro e w4 ⟨rfl, hd4, hc4⟩; have D4 := Aside0.mk hd4; have C4 := Aside0.mk hc4; clear hd4 hc4)
          | (go_at_call 23; refine (met_calls D4.out.c).mono ?_; rintro e w5 ⟨rfl, hs, hh⟩; have S5 := Aside0.mk hs; have C5 := Aside0.mk hh; clear hs hh))
        go_end0
        rw [HS.out]
        refine ⟨rfl, ⟨(D4.out.m.stay C5.out).mono (fun k hk => ?_), S5.out.mono (fun k hk => ?_)⟩, (Ch.core_all P1.out.2).trans ((C4.out.trans (Ch.core_all C5.out)).mono (fun _ h => h) (fun _ h => ext_of h))⟩
        · rcases hk with hk | hk
          · exact .inl hk
          · exact .inr (by simpa using hk)
        · rcases hk with hk | hk
          · exact .inl hk
          · exact .inr (by simpa using hk)
      · have HS := Aside0.mk (show closeD d = ⟨d.m, ({ d.c with closed := true } : CS).fail 3⟩ by unfold closeD; rw [if_neg hno, if_pos hl])
        have HW := Aside0.mk (show decide (({ d.c with closed := true } : CS).l = 0) = false from decide_eq_false hl)
        clear hl hno
        go_enter Try.func15, Try.ntmps15
        go_wp2_with (first
          | (go_at_call 25; refine (whole_calls DP.out.c).mono ?_; rintro e w3 ⟨rfl, rfl⟩; rw [HW.out])
          | (go_at_call 21; refine (fails_calls DP.out.c).mono ?_; rintro e w4 ⟨rfl, hs, hh⟩; have S4 := Aside0.mk hs; have C4 := Aside0.mk hh; clear hs hh))
        refine bodyPost_ret (v := .tuple #[]) (results_none rfl _ _ _) rfl ?_
        rw [HS.out]
        exact ⟨rfl, ⟨(DP.out.m.stay C4.out).mono (fun _ h => ext_of h), S4.out.mono (fun _ h => ext_of h)⟩, (Ch.core_all P1.out.2).trans ((Ch.core_all C4.out).mono (fun _ h => h) (fun _ h => ext_of h))⟩

set_option maxHeartbeats 4000000 in
set_option maxRecDepth 100000 in
theorem endQ_calls {F : Nat → Prop} {w : World} {g gM gS : Nat} {c : CS} (h : IsC F w g gM gS c) :
    Calls Try.prog 14 #[ptr g] w fun e w' => e = .returned (.tuple #[.int .i64 (if c.told = true then c.err else 0), .int .i64 (if c.told = true then c.at_ else -1)]) ∧ Drawn0 w w' := by
  obtain ⟨qv, k1, _⟩ := h.core
  have c7' : w.cell? ⟨g, 7, none⟩ = some (.bool c.told) := (blk_cell k1 7).trans rfl
  have c6 : w.cell? ⟨g, 6, none⟩ = some (.int .i64 c.err) := (blk_cell k1 6).trans rfl
  have c3 : w.cell? ⟨g, 3, none⟩ = some (.int .i64 c.at_) := (blk_cell k1 3).trans rfl
  clear h k1
  cases ht : c.told with
  | true =>
    rw [ht] at c7'
    clear ht
    go_enter Try.func14, Try.ntmps14
    go_wp2
    go_quiet (fail)
    go_wp2
    go_ret2
    exact ⟨by simp, (Drawn0.refl w).step _⟩
  | false =>
    rw [ht] at c7'
    clear ht
    go_enter Try.func14, Try.ntmps14
    go_wp2
    go_ret2
    exact ⟨by simp, Drawn0.refl w⟩

def AllPost (F : Nat → Prop) (w : World) (d : DS) (e : Ending) (w' : World) : Prop :=
  ∃ v, e = .returned (.tuple #[v, .int .i64 d.c.err, .int .i64 d.c.at_]) ∧ Row (ext F w) w' 50 3 v d.c.q.length (evCs d.c.q) ∧ Ch allT F w w'
set_option maxHeartbeats 4000000 in
set_option maxRecDepth 100000 in
theorem all_calls {F : Nat → Prop} {w : World} {g gM gS n : Nat} {d : DS} {A : Option Addr} {l : List UInt8} (h : D2 F w g gM gS d.m d.c) (hd : DOK 0 d) (hl : l.length ≤ 10000) (hr : Rd8 F w A l) (hc : d.c.closed = false) :
    Calls Try.prog 18 #[ptr g, .slice A l.length n] w (AllPost F w (closeD (feedD d l))) := by
  have H := Aside0.mk h
  have HD := Aside0.mk hd
  have HL := Aside0.mk hl
  have HR := Aside0.mk hr
  have HC := Aside0.mk hc
  have HD2 := Aside0.mk (hd.feed l)
  clear h hd hl hr hc
  go_enter Try.func18, Try.ntmps18
  go_wp2_with (first
    | (go_at_call 11; refine (feed_open H.out HD.out (by have := HL.out; omega) HR.out HC.out).mono ?_; rintro e w1 ⟨rfl, hd1, hc1⟩; have D1 := Aside0.mk hd1; have C1 := Aside0.mk hc1; clear hd1 hc1)
    | (go_at_call 15; refine (close_calls (d := feedD d l) D1.out HD2.out (by have := HL.out; omega)).mono ?_; rintro e w2 ⟨rfl, hd2, hc2⟩; have D2' := Aside0.mk (hd2.mono (ext2 C1.out.size)); have C2 := Aside0.mk (C1.out.trans hc2); obtain ⟨qv, k2, kq⟩ := hd2.c.core; have KQ := Aside0.mk (kq.mono (ext2 C1.out.size)); have z2 : w2.cell? ⟨g, 2, none⟩ = some qv := (blk_cell k2 2).trans rfl; have z6 : w2.cell? ⟨g, 6, none⟩ = some (.int .i64 (closeD (feedD d l)).c.err) := (blk_cell k2 6).trans rfl; have z3 : w2.cell? ⟨g, 3, none⟩ = some (.int .i64 (closeD (feedD d l)).c.at_) := (blk_cell k2 3).trans rfl; clear hd2 hc2 k2 kq))
  go_quiet (fail)
  go_wp2
  go_ret3
  exact ⟨qv, rfl, KQ.out.below (pw_below_drewN (Below.refl _ _) _), C2.out.trans (Ch.of_below (pw_below_drewN (Below.refl _ _) _))⟩
end Go.Proofs.Ytalaedpiimdcbaa.Cr

namespace Go.Proofs.Ytalaedpiimdcbaa.Cr
open Go Go.Lib Go.RowKit Go.Proofs.YtalaedpiimdcbaaW.PrintWords Go.Proofs.YtalaedpiimdcbaaW.PrintLast Go.Proofs.Ytalaedpiimdcbaa.Own Go.Proofs.Ytalaedpiimdcbaa.Hp Go.Proofs.Ytalaedpiimdcbaa.Srcw Go.Proofs.Ytalaedpiimdcbaa.Dl
set_option linter.unusedVariables false
set_option linter.unusedSimpArgs false
abbrev evV (x : Ev) : Value := .agg #[.int .i64 x.k, .string x.t, .string x.v]
def evZ : Ev := ⟨0, noT, noT⟩
def nextC (c : CS) : Ev × Int × CS :=
  match c.q with
  | x :: r => (x, 1, { c with q := r })
  | [] => if c.over = false then (evZ, 2, c) else (evZ, if c.err = 0 then 3 else 4, { c with told := true })
def NextPost (F : Nat → Prop) (w : World) (g gM gS : Nat) (r : Ev × Int × CS) (e : Ending) (w' : World) : Prop :=
  e = .returned (.tuple #[evV r.1, .int .i64 r.2.1]) ∧ IsC F w' g gM gS r.2.2 ∧ Ch coreT F w w'

theorem three_ch {w1 : World} {b T : Nat} {k0 k : Int} {t0 v0 t v : ByteArray} (h1 : w1.heap[b]? = some (.cells #[.int .i64 k0, .string t0, .string v0] T (0, 0))) :
    Ch (fun t => t = some T) (fun k => k = b) w1 (((w1.setCell ⟨b, 0, none⟩ (.int .i64 k)).setCell ⟨b, 1, none⟩ (.string t)).setCell ⟨b, 2, none⟩ (.string v)) ∧
    (((w1.setCell ⟨b, 0, none⟩ (.int .i64 k)).setCell ⟨b, 1, none⟩ (.string t)).setCell ⟨b, 2, none⟩ (.string v)).heap[b]? = some (.cells #[.int .i64 k, .string t, .string v] T (0, 0)) := by
  have a1 := blk_put (cs' := #[.int .i64 k, .string t0, .string v0]) h1 0 (.int .i64 k) rfl
  have a2 := blk_put (cs' := #[.int .i64 k, .string t, .string v0]) a1 1 (.string t) rfl
  have c1 : Ch (fun t => t = some T) (fun k => k = b) _ _ := Ch.set (T := fun t => t = some T) (F := fun k => k = b) h1 rfl rfl 0 (.int .i64 k)
  have c2 : Ch (fun t => t = some T) (fun k => k = b) _ _ := Ch.set (T := fun t => t = some T) (F := fun k => k = b) a1 rfl rfl 1 (.string t)
  have c3 : Ch (fun t => t = some T) (fun k => k = b) _ _ := Ch.set (T := fun t => t = some T) (F := fun k => k = b) a2 rfl rfl 2 (.string v)
  exact ⟨(c1.trans (c2.mono (fun _ h => h) (fun _ h => .inl h))).trans (c3.mono (fun _ h => h) (fun _ h => .inl h)), blk_put (cs' := #[.int .i64 k, .string t, .string v]) a2 2 (.string v) rfl⟩
/-- The result's own block is none of the core's. -/
theorem IsC.fresh {F : Nat → Prop} {w1 w2 : World} {g gM gS b : Nat} {c : CS} {T : Option Nat → Prop} (h : IsC F w1 g gM gS c) (hF : ∀ k, F k → k ≠ b) (hc : Ch T (fun k => k = b) w1 w2) : IsC F w2 g gM gS c := h.far hc (fun k hk he => hF k hk he)
set_option maxHeartbeats 4000000 in
set_option maxRecDepth 100000 in
theorem next_none {F : Nat → Prop} {w : World} {g gM gS : Nat} {c : CS} (h : IsC F w g gM gS c) (hF : ∀ k, F k → k < w.heap.size) (hq : c.q = []) :
    Calls Try.prog 24 #[ptr g] w (NextPost F w g gM gS (nextC c)) := by
  have H := Aside0.mk h
  have HLT := Aside0.mk hF
  obtain ⟨qv, k1, kq⟩ := h.core
  rw [hq] at kq
  obtain ⟨A, n, hv, _, _⟩ := kq.slice
  subst hv
  have c2 : w.cell? ⟨g, 2, none⟩ = some (.slice A 0 n) := (blk_cell k1 2).trans rfl
  have c5' : w.cell? ⟨g, 5, none⟩ = some (.bool c.over) := (blk_cell k1 5).trans rfl
  have HG := Aside0.mk k1
  clear h k1 kq hF
  cases hov : c.over with
  | false =>
    have HN := Aside0.mk (show nextC c = (evZ, 2, c) by unfold nextC; rw [hq]; simp only; rw [if_pos hov])
    rw [hov] at c5'
    clear hq hov
    go_enter Try.func24, Try.ntmps24
    go_wp2_with ((with_reducible refine gate_dst (N := 2) rfl ?_); refine box_event ?hg (N := 2) ?hd (cs := #[.int .i64 0, .string ⟨#[]⟩, .string ⟨#[]⟩]) (t := 50) ?hr ?_; (case hd => rfl); (case hg => rfl); (case hr => first | (go_simp; done) | (go_simp; rfl)); intro b hg w1 hbox hb; have HBB := Aside0.mk hg; have H1 := Aside0.mk hbox; have B1 := Aside0.mk hb; have a2 := below_cell hb c2; have a5 := below_cell hb c5'; have e0 := (blk_cell hbox 0).trans rfl; have e1 := (blk_cell hbox 1).trans rfl; have e2 := (blk_cell hbox 2).trans rfl; have g0 := blk_frozen hbox 0; have g1 := blk_frozen hbox 1; have g2 := blk_frozen hbox 2; clear hg hbox hb)
    obtain ⟨BF, HF⟩ := three_ch (k := 0) (t := ⟨#[]⟩) (v := ⟨#[]⟩) H1.out
    generalize ((w1.setCell ⟨b, 0, none⟩ (.int .i64 0)).setCell ⟨b, 1, none⟩ (.string ⟨#[]⟩)).setCell ⟨b, 2, none⟩ (.string ⟨#[]⟩) = w2 at BF HF ⊢
    have r0 := (blk_cell HF 0).trans rfl
    have r1 := (blk_cell HF 1).trans rfl
    have r2 := (blk_cell HF 2).trans rfl
    rw [HN.out]
    exact bodyPost_ret (v := .tuple #[evV evZ, .int .i64 2]) (by simp [results, Try.results24, go_sem, r0, r1, r2]; exact ⟨rfl, rfl, rfl⟩) rfl ⟨rfl, (H.out.below B1.out).fresh (fun k hk he => by have := HLT.out k hk; have := HBB.out; omega) BF, (Ch.of_below B1.out).trans (BF.mono (fun t ht => .inr (.inl ht)) (fun k hk => .inr (by have := HBB.out; omega)))⟩
  | true =>
    have HN := Aside0.mk (show nextC c = (evZ, if c.err = 0 then 3 else 4, { c with told := true }) by unfold nextC; rw [hq]; simp only; rw [if_neg (by rw [hov]; decide)])
    rw [hov] at c5'
    clear hq hov
    by_cases he : c.err = 0
    · have HN2 := Aside0.mk (show nextC c = (evZ, 3, { c with told := true }) by rw [HN.out, if_pos he])
      have HE := Aside0.mk he
      clear he
      go_enter Try.func24, Try.ntmps24
      go_wp2_with ((with_reducible refine gate_dst (N := 2) rfl ?_); refine box_event ?hg (N := 2) ?hd (cs := #[.int .i64 0, .string ⟨#[]⟩, .string ⟨#[]⟩]) (t := 50) ?hr ?_; (case hd => rfl); (case hg => rfl); (case hr => first | (go_simp; done) | (go_simp; rfl)); intro b hg w1 hbox hb; have HBB := Aside0.mk hg; have H1 := Aside0.mk hbox; have B1 := Aside0.mk hb; have a2 := below_cell hb c2; have a5 := below_cell hb c5'; have PT := Aside0.mk ((H.out.below hb).put (c' := { c with told := true }) 7 (.bool true) (fun qv => rfl) rfl ⟨rfl, rfl, rfl⟩); obtain ⟨qv1, m1, _⟩ := (H.out.below hb).core; have a7 := (blk_cell m1 7).trans rfl; have b7 := blk_frozen m1 7; obtain ⟨qv2, m2, _⟩ := PT.out.1.core; have a6' : (w1.setCell ⟨g, 7, none⟩ (.bool true)).cell? ⟨g, 6, none⟩ = some (.int .i64 c.err) := (blk_cell m2 6).trans rfl; have a6 : (w1.setCell ⟨g, 7, none⟩ (.bool true)).cell? ⟨g, 6, none⟩ = some (.int .i64 0) := a6'.trans (by rw [HE.out]); have hbox2 := blk_far hbox (p := ⟨g, 7, none⟩) (by show b ≠ g; have := H.out.lt.1; omega) (.bool true); have H2 := Aside0.mk hbox2; have e0 := (blk_cell hbox2 0).trans rfl; have e1 := (blk_cell hbox2 1).trans rfl; have e2 := (blk_cell hbox2 2).trans rfl; have g0 := blk_frozen hbox2 0; have g1 := blk_frozen hbox2 1; have g2 := blk_frozen hbox2 2; clear hbox2 m1 m2 a6'; clear hg hbox hb)
      obtain ⟨BF, HF⟩ := three_ch (k := 0) (t := ⟨#[]⟩) (v := ⟨#[]⟩) H2.out
      generalize (((w1.setCell ⟨g, 7, none⟩ (.bool true)).setCell ⟨b, 0, none⟩ (.int .i64 0)).setCell ⟨b, 1, none⟩ (.string ⟨#[]⟩)).setCell ⟨b, 2, none⟩ (.string ⟨#[]⟩) = w2 at BF HF ⊢
      have r0 := (blk_cell HF 0).trans rfl
      have r1 := (blk_cell HF 1).trans rfl
      have r2 := (blk_cell HF 2).trans rfl
      rw [HN2.out]
      exact bodyPost_ret (v := .tuple #[evV evZ, .int .i64 3]) (by simp [results, Try.results24, go_sem, r0, r1, r2]; exact ⟨rfl, rfl, rfl⟩) rfl ⟨rfl, PT.out.1.fresh (fun k hk he => by have := HLT.out k hk; have := HBB.out; omega) BF, ((Ch.of_below B1.out).trans (PT.out.2.mono (fun _ h => h) (fun _ h => ext_of h))).trans (BF.mono (fun t ht => .inr (.inl ht)) (fun k hk => .inr (by have := HBB.out; omega)))⟩
    · have HN2 := Aside0.mk (show nextC c = (evZ, 4, { c with told := true }) by rw [HN.out, if_neg he])
      obtain ⟨y, hy⟩ : ∃ y, c.err = y := ⟨_, rfl⟩
      have HE := Aside0.mk hy
      rw [hy] at he
      have s4 : (y == 0) = false := by rw [beq_eq_false_iff_ne]; exact he
      have s5 : decide (y = 0) = false := decide_eq_false he
      clear he hy
      go_enter Try.func24, Try.ntmps24
      go_wp2_with ((with_reducible refine gate_dst (N := 2) rfl ?_); refine box_event ?hg (N := 2) ?hd (cs := #[.int .i64 0, .string ⟨#[]⟩, .string ⟨#[]⟩]) (t := 50) ?hr ?_; (case hd => rfl); (case hg => rfl); (case hr => first | (go_simp; done) | (go_simp; rfl)); intro b hg w1 hbox hb; have HBB := Aside0.mk hg; have H1 := Aside0.mk hbox; have B1 := Aside0.mk hb; have a2 := below_cell hb c2; have a5 := below_cell hb c5'; have PT := Aside0.mk ((H.out.below hb).put (c' := { c with told := true }) 7 (.bool true) (fun qv => rfl) rfl ⟨rfl, rfl, rfl⟩); obtain ⟨qv1, m1, _⟩ := (H.out.below hb).core; have a7 := (blk_cell m1 7).trans rfl; have b7 := blk_frozen m1 7; obtain ⟨qv2, m2, _⟩ := PT.out.1.core; have a6' : (w1.setCell ⟨g, 7, none⟩ (.bool true)).cell? ⟨g, 6, none⟩ = some (.int .i64 c.err) := (blk_cell m2 6).trans rfl; have a6 : (w1.setCell ⟨g, 7, none⟩ (.bool true)).cell? ⟨g, 6, none⟩ = some (.int .i64 y) := a6'.trans (by rw [HE.out]); have hbox2 := blk_far hbox (p := ⟨g, 7, none⟩) (by show b ≠ g; have := H.out.lt.1; omega) (.bool true); have H2 := Aside0.mk hbox2; have e0 := (blk_cell hbox2 0).trans rfl; have e1 := (blk_cell hbox2 1).trans rfl; have e2 := (blk_cell hbox2 2).trans rfl; have g0 := blk_frozen hbox2 0; have g1 := blk_frozen hbox2 1; have g2 := blk_frozen hbox2 2; clear hbox2 m1 m2 a6'; clear hg hbox hb)
      obtain ⟨BF, HF⟩ := three_ch (k := 0) (t := ⟨#[]⟩) (v := ⟨#[]⟩) H2.out
      generalize (((w1.setCell ⟨g, 7, none⟩ (.bool true)).setCell ⟨b, 0, none⟩ (.int .i64 0)).setCell ⟨b, 1, none⟩ (.string ⟨#[]⟩)).setCell ⟨b, 2, none⟩ (.string ⟨#[]⟩) = w2 at BF HF ⊢
      have r0 := (blk_cell HF 0).trans rfl
      have r1 := (blk_cell HF 1).trans rfl
      have r2 := (blk_cell HF 2).trans rfl
      rw [HN2.out]
      exact bodyPost_ret (v := .tuple #[evV evZ, .int .i64 4]) (by simp [results, Try.results24, go_sem, r0, r1, r2]; exact ⟨rfl, rfl, rfl⟩) rfl ⟨rfl, PT.out.1.fresh (fun k hk he => by have := HLT.out k hk; have := HBB.out; omega) BF, ((Ch.of_below B1.out).trans (PT.out.2.mono (fun _ h => h) (fun _ h => ext_of h))).trans (BF.mono (fun t ht => .inr (.inl ht)) (fun k hk => .inr (by have := HBB.out; omega)))⟩
/-- The queue without its first event. -/
theorem IsC.pop {F : Nat → Prop} {w : World} {g gM gS b o n : Nat} {c : CS} {x : Ev} {r : List Ev} (h : IsC F w g gM gS c) (hg : w.heap[g]? = some (.cells (coreCells gM gS (.slice (some ⟨b, o, none⟩) (r.length + 1) n) c) 38 (0, 0))) (hq : c.q = x :: r)
    (hr : Row F w 50 3 (.slice (some ⟨b, o, none⟩) (r.length + 1) n) (r.length + 1) (evCs (x :: r))) (v : Value) (hv : v = .slice (some (if n = 1 then ⟨b, o, none⟩ else ⟨b, o + 3, none⟩)) r.length (n - 1)) :
    IsC F (w.setCell ⟨g, 2, none⟩ v) g gM gS { c with q := r } ∧ Ch coreT F w (w.setCell ⟨g, 2, none⟩ v) := by
  subst hv
  have hc : Ch (fun t => t = some 38) F w (w.setCell ⟨g, 2, none⟩ (.slice (some (if n = 1 then ⟨b, o, none⟩ else ⟨b, o + 3, none⟩)) r.length (n - 1))) := Ch.set (T := fun t => t = some 38) hg h.fg rfl 2 _
  have h1 := hr.drop1
  rw [evCs_drop1] at h1
  exact ⟨⟨h.fg, h.fS, ⟨_, blk_put (cs' := coreCells gM gS (.slice (some (if n = 1 then ⟨b, o, none⟩ else ⟨b, o + 3, none⟩)) r.length (n - 1)) { c with q := r }) hg 2 _ rfl, h1.ch hc (by decide)⟩, hc.blk h.scan (fun h3 => absurd h3.2 (by decide))⟩, hc.mono (fun t ht => .inl ht) (fun _ h => h)⟩

set_option maxHeartbeats 8000000 in
set_option maxRecDepth 100000 in
theorem next_some {F : Nat → Prop} {w : World} {g gM gS : Nat} {c : CS} {x : Ev} {r : List Ev} (h : IsC F w g gM gS c) (hF : ∀ k, F k → k < w.heap.size) (hq : c.q = x :: r) (hl : r.length ≤ 1000000) :
    Calls Try.prog 24 #[ptr g] w (NextPost F w g gM gS (nextC c)) := by
  have H := Aside0.mk h
  have HLT := Aside0.mk hF
  have HQ := Aside0.mk hq
  have HN := Aside0.mk (show nextC c = (x, 1, { c with q := r }) by unfold nextC; rw [hq])
  obtain ⟨qv, k1, kq⟩ := h.core
  rw [hq] at kq
  obtain ⟨b', o, n, hv, hn, hfb, hcell, hcur⟩ := kq.open_ (by simp)
  subst hv
  have HG := Aside0.mk k1
  have KQ := Aside0.mk kq
  have HNN := Aside0.mk hn
  have c2 : w.cell? ⟨g, 2, none⟩ = some (.slice (some ⟨b', o, none⟩) (r.length + 1) n) := (blk_cell k1 2).trans rfl
  have x0 : w.cell? ⟨b', o, none⟩ = some (.int .i64 x.k) := hcell 0 _ rfl
  have x1 : w.cell? ⟨b', o + 1, none⟩ = some (.string x.t) := hcell 1 _ rfl
  have x2 : w.cell? ⟨b', o + 2, none⟩ = some (.string x.v) := hcell 2 _ rfl
  have hn2 : r.length + 1 ≤ n := hn
  clear h k1 kq hF hq hcell hcur hn hfb
  by_cases hc1 : n = 1
  · subst hc1
    obtain rfl : r = [] := List.eq_nil_of_length_eq_zero (by omega)
    go_enter Try.func24, Try.ntmps24
    go_wp2_with (first
      | ((with_reducible refine gate_dst (N := 2) rfl ?_); refine box_event ?hg (N := 2) ?hd (cs := #[.int .i64 0, .string ⟨#[]⟩, .string ⟨#[]⟩]) (t := 50) ?hr ?_; (case hd => rfl); (case hg => rfl); (case hr => first | (go_simp; done) | (go_simp; rfl)); intro b hg w1 hbox hb; have HBB := Aside0.mk hg; have H1 := Aside0.mk hbox; have B1 := Aside0.mk hb; have a2 := below_cell hb c2; have y0 := below_cell hb x0; have y1 := below_cell hb x1; have y2 := below_cell hb x2; clear hg hbox hb)
      | ((with_reducible refine gate_dst (N := 4) rfl ?_); refine box_event ?hg (N := 4) ?hd (cs := #[.int .i64 0, .string ⟨#[]⟩, .string ⟨#[]⟩]) (t := 50) ?hr ?_; (case hd => rfl); (case hg => rfl); (case hr => first | (go_simp; done) | (go_simp; rfl)); intro b4 hg w2 hbox hb; have HB4 := Aside0.mk hg; have H4 := Aside0.mk hbox; have B2 := Aside0.mk hb; have e0 := (blk_cell hbox 0).trans rfl; have e1 := (blk_cell hbox 1).trans rfl; have e2 := (blk_cell hbox 2).trans rfl; have g0 := blk_frozen hbox 0; have g1 := blk_frozen hbox 1; have g2 := blk_frozen hbox 2; clear a2; have T4 := three_ch (k := x.k) (t := x.t) (v := x.v) hbox; have NG4 : g ≠ b4 := (by have := H.out.lt.1; have := HBB.out; have := B1.out.size; omega); have NB4 : b ≠ b4 := (by have := HBB.out; have := blk_lt H1.out; omega); have NBG : b ≠ g := (by have := H.out.lt.1; have := HBB.out; omega); have HGW := T4.1.blk ((hb.block g (by have := H.out.lt.1; have := B1.out.size; omega)).trans ((B1.out.block g H.out.lt.1).trans HG.out)) (fun h => NG4 h.1); have a2 : _ = some (Value.slice (some ⟨b', o, none⟩) 1 1) := (blk_cell HGW 2).trans rfl; have h2 := blk_frozen HGW 2; have KQ3 := ((KQ.out.below B1.out).below hb).far T4.1 (fun k hk he => by have := HLT.out k hk; have := B1.out.size; omega); have IC3 := ((H.out.below B1.out).below hb).fresh (fun k hk he => by have := HLT.out k hk; have := B1.out.size; omega) T4.1; have PP := Aside0.mk (IC3.pop HGW HQ.out KQ3 (.slice (some ⟨b', o, none⟩) 0 0) (by rw [if_pos rfl]; rfl)); have HB4W := blk_far T4.2 (p := ⟨g, 2, none⟩) (fun h => NG4 h.symm) (Value.slice (some ⟨b', o, none⟩) 0 0); have HBW := T4.1.blk ((hb.block b (blk_lt H1.out)).trans H1.out) (fun h => NB4 h.1); have HBW2 := blk_far HBW (p := ⟨g, 2, none⟩) NBG (Value.slice (some ⟨b', o, none⟩) 0 0); have s0 := (blk_cell HB4W 0).trans rfl; have s1 := (blk_cell HB4W 1).trans rfl; have s2 := (blk_cell HB4W 2).trans rfl; have u0 := (blk_cell HBW2 0).trans rfl; have u1 := (blk_cell HBW2 1).trans rfl; have u2 := (blk_cell HBW2 2).trans rfl; have v0 := blk_frozen HBW2 0; have v1 := blk_frozen HBW2 1; have v2 := blk_frozen HBW2 2; have HF5 := Aside0.mk (three_ch (k := x.k) (t := x.t) (v := x.v) HBW2); have C4 := Aside0.mk (((Ch.of_below B1.out : Ch coreT F w w1).trans (Ch.of_below hb)).trans (T4.1.mono (fun t ht => .inr (.inl ht)) (fun k hk => (.inr (by have := B1.out.size; omega) : ext F w k)))); clear T4 HGW KQ3 IC3 HB4W HBW HBW2 NG4 NB4 NBG hg hbox hb y0 y1 y2))
    obtain ⟨BF, HF⟩ := HF5.out
    have r0 := (blk_cell HF 0).trans rfl
    have r1 := (blk_cell HF 1).trans rfl
    have r2 := (blk_cell HF 2).trans rfl
    rw [HN.out]
    exact bodyPost_ret (v := .tuple #[evV x, .int .i64 1]) (by simp [results, Try.results24, go_sem, r0, r1, r2]) rfl ⟨rfl, PP.out.1.fresh (fun k hk he => by have := HLT.out k hk; have := HBB.out; omega) BF, (C4.out.trans (PP.out.2.mono (fun _ h => h) (fun _ h => ext_of h))).trans (BF.mono (fun t ht => .inr (.inl ht)) (fun k hk => .inr (by have := HBB.out; omega)))⟩
  · go_enter Try.func24, Try.ntmps24
    go_wp2_with (first
      | ((with_reducible refine gate_dst (N := 2) rfl ?_); refine box_event ?hg (N := 2) ?hd (cs := #[.int .i64 0, .string ⟨#[]⟩, .string ⟨#[]⟩]) (t := 50) ?hr ?_; (case hd => rfl); (case hg => rfl); (case hr => first | (go_simp; done) | (go_simp; rfl)); intro b hg w1 hbox hb; have HBB := Aside0.mk hg; have H1 := Aside0.mk hbox; have B1 := Aside0.mk hb; have a2 := below_cell hb c2; have y0 := below_cell hb x0; have y1 := below_cell hb x1; have y2 := below_cell hb x2; clear hg hbox hb)
      | ((with_reducible refine gate_dst (N := 4) rfl ?_); refine box_event ?hg (N := 4) ?hd (cs := #[.int .i64 0, .string ⟨#[]⟩, .string ⟨#[]⟩]) (t := 50) ?hr ?_; (case hd => rfl); (case hg => rfl); (case hr => first | (go_simp; done) | (go_simp; rfl)); intro b4 hg w2 hbox hb; have HB4 := Aside0.mk hg; have H4 := Aside0.mk hbox; have B2 := Aside0.mk hb; have e0 := (blk_cell hbox 0).trans rfl; have e1 := (blk_cell hbox 1).trans rfl; have e2 := (blk_cell hbox 2).trans rfl; have g0 := blk_frozen hbox 0; have g1 := blk_frozen hbox 1; have g2 := blk_frozen hbox 2; clear a2; have T4 := three_ch (k := x.k) (t := x.t) (v := x.v) hbox; have NG4 : g ≠ b4 := (by have := H.out.lt.1; have := HBB.out; have := B1.out.size; omega); have NB4 : b ≠ b4 := (by have := HBB.out; have := blk_lt H1.out; omega); have NBG : b ≠ g := (by have := H.out.lt.1; have := HBB.out; omega); have HGW := T4.1.blk ((hb.block g (by have := H.out.lt.1; have := B1.out.size; omega)).trans ((B1.out.block g H.out.lt.1).trans HG.out)) (fun h => NG4 h.1); have a2 : _ = some (Value.slice (some ⟨b', o, none⟩) (r.length + 1) n) := (blk_cell HGW 2).trans rfl; have h2 := blk_frozen HGW 2; have KQ3 := ((KQ.out.below B1.out).below hb).far T4.1 (fun k hk he => by have := HLT.out k hk; have := B1.out.size; omega); have IC3 := ((H.out.below B1.out).below hb).fresh (fun k hk he => by have := HLT.out k hk; have := B1.out.size; omega) T4.1; have PP := Aside0.mk (IC3.pop HGW HQ.out KQ3 (.slice (some ⟨b', o + 3, none⟩) r.length (n - 1)) (by rw [if_neg hc1])); have HB4W := blk_far T4.2 (p := ⟨g, 2, none⟩) (fun h => NG4 h.symm) (Value.slice (some ⟨b', o + 3, none⟩) r.length (n - 1)); have HBW := T4.1.blk ((hb.block b (blk_lt H1.out)).trans H1.out) (fun h => NB4 h.1); have HBW2 := blk_far HBW (p := ⟨g, 2, none⟩) NBG (Value.slice (some ⟨b', o + 3, none⟩) r.length (n - 1)); have s0 := (blk_cell HB4W 0).trans rfl; have s1 := (blk_cell HB4W 1).trans rfl; have s2 := (blk_cell HB4W 2).trans rfl; have u0 := (blk_cell HBW2 0).trans rfl; have u1 := (blk_cell HBW2 1).trans rfl; have u2 := (blk_cell HBW2 2).trans rfl; have v0 := blk_frozen HBW2 0; have v1 := blk_frozen HBW2 1; have v2 := blk_frozen HBW2 2; have HF5 := Aside0.mk (three_ch (k := x.k) (t := x.t) (v := x.v) HBW2); have C4 := Aside0.mk (((Ch.of_below B1.out : Ch coreT F w w1).trans (Ch.of_below hb)).trans (T4.1.mono (fun t ht => .inr (.inl ht)) (fun k hk => (.inr (by have := B1.out.size; omega) : ext F w k)))); clear T4 HGW KQ3 IC3 HB4W HBW HBW2 NG4 NB4 NBG hg hbox hb y0 y1 y2))
    obtain ⟨BF, HF⟩ := HF5.out
    have r0 := (blk_cell HF 0).trans rfl
    have r1 := (blk_cell HF 1).trans rfl
    have r2 := (blk_cell HF 2).trans rfl
    rw [HN.out]
    exact bodyPost_ret (v := .tuple #[evV x, .int .i64 1]) (by simp [results, Try.results24, go_sem, r0, r1, r2]) rfl ⟨rfl, PP.out.1.fresh (fun k hk he => by have := HLT.out k hk; have := HBB.out; omega) BF, (C4.out.trans (PP.out.2.mono (fun _ h => h) (fun _ h => ext_of h))).trans (BF.mono (fun t ht => .inr (.inl ht)) (fun k hk => .inr (by have := HBB.out; omega)))⟩
end Go.Proofs.Ytalaedpiimdcbaa.Cr
