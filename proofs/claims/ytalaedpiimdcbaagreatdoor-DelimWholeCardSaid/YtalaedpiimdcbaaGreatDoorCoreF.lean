/- pull.Core over a machine: met, Feed. -/
import Derived.Test.YtalaedpiimdcbaaGreatDoorCoreW
import Derived.Deep.LoopGhost
namespace Go.Proofs.YtalaedpiimdcbaaGreatDoor.Cr
open Go Go.Lib Go.RowKit Go.Proofs.YtalaedpiimdcbaaGreatDoorW.PrintWords Go.Proofs.YtalaedpiimdcbaaGreatDoorW.PrintLast Go.Proofs.YtalaedpiimdcbaaGreatDoor.Own Go.Proofs.YtalaedpiimdcbaaGreatDoor.Hp Go.Proofs.YtalaedpiimdcbaaGreatDoor.Srcw Go.Proofs.YtalaedpiimdcbaaGreatDoor.Dl
set_option linter.unusedVariables false
set_option linter.unusedSimpArgs false
theorem missing_one (n : String) (t : TypeId) (got : Array Method) (h : got.any (fun m => m.name == n && m.sig == t) = false) : ∃ s, Instr.missingMethod #[(n, t)] got = some s := by
  unfold Instr.missingMethod
  simp only [List.filter_cons, h, Bool.not_false, if_true, List.filter_nil, List.map_cons, List.map_nil]
  generalize hp : List.partition _ _ = p
  obtain ⟨u, e⟩ := p
  have h2 : u = [n] ∧ e = [] ∨ u = [] ∧ e = [n] := by
    rw [List.partition_eq_filter_filter] at hp
    injection hp with h3 h4
    subst h3; subst h4
    simp only [List.filter_cons, List.filter_nil, Function.comp]
    split <;> simp_all
  rcases h2 with ⟨rfl, rfl⟩ | ⟨rfl, rfl⟩
  · exact ⟨_, rfl⟩
  · exact ⟨_, rfl⟩
theorem not_placed (a : Addr) (w : World) : (Instr.typeAssert (.iface 47 (.pointer (some a))) 35 76 true).run Tryz.prog w = .ok (.tuple #[.nilIface, .bool false]) w := by
  have h := Tryz.underlying76
  have hm : (Tryz.prog.info? 47).map (fun i => i.methods.any (fun m => m.name == "At" && m.sig == 78)) = some false := by kernel_rfl
  have hz : ∀ w, (zeroValue 76).run Tryz.prog w = .ok .nilIface w := fun w => by kernel_rfl
  cases hi : Tryz.prog.info? 47 with
  | none => rw [hi] at hm; cases hm
  | some i =>
    rw [hi] at hm
    have hm2 : i.methods.any (fun m => m.name == "At" && m.sig == 78) = false := by simpa using hm
    obtain ⟨s, hs⟩ := missing_one "At" 78 i.methods hm2
    unfold Instr.typeAssert
    simp [run_underlying h, typeInfo, hi, hs, hz]
set_option maxHeartbeats 4000000 in
set_option maxRecDepth 100000 in
theorem met_calls {F : Nat → Prop} {w : World} {g gM gS : Nat} {c : CS} {x : Int} (h : IsC F w g gM gS c) :
    Calls Tryz.prog 25 #[ptr g, .int .i64 x] w fun e w' => e = .returned (.tuple #[]) ∧ IsC F w' g gM gS (c.fail x) ∧ Ch coreT F w w' := by
  have H := Aside0.mk h
  clear h
  go_enter Tryz.func25, Tryz.ntmps25
  go_wp2_with fail
  refine (fails_calls H.out).mono ?_
  rintro e w1 ⟨rfl, hc, hh⟩
  have H1 := Aside0.mk hc
  have C1 := Aside0.mk hh
  obtain ⟨qv, k1, _⟩ := hc.core
  have c0 : w1.cell? ⟨g, 0, none⟩ = some (mval gM) := (blk_cell k1 0).trans rfl
  clear hc hh k1
  have np := not_placed ⟨gM, 0, none⟩ w1
  go_wp2
  go_end0
  exact ⟨rfl, H1.out, C1.out⟩
theorem step_method (a : Addr) (w : World) : (method 304 47 (.pointer (some a)) "Step").run Tryz.prog w = .ok (141, .pointer (some a)) w := by kernel_rfl
theorem end_method (a : Addr) (w : World) : (method 304 47 (.pointer (some a)) "End").run Tryz.prog w = .ok (140, .pointer (some a)) w := by kernel_rfl
set_option maxHeartbeats 8000000 in
set_option maxRecDepth 100000 in
theorem feed_open {F : Nat → Prop} {w : World} {g gM gS n0 n : Nat} {d : DS} {A : Option Addr} {l : List UInt8} (h : D2 F w g gM gS d.m d.c) (hd : DOK n0 d) (hn : n0 + l.length ≤ 10000) (hr : Rd8 F w A l) (hc : d.c.closed = false) :
    Calls Tryz.prog 14 #[ptr g, .slice A l.length n] w fun e w' => e = .returned (.bool true) ∧ D2 (ext F w) w' g gM gS (feedD d l).m (feedD d l).c ∧ Ch allT F w w' := by
  have H := Aside0.mk h
  have HD := Aside0.mk hd
  have HN := Aside0.mk hn
  have HR := Aside0.mk hr
  obtain ⟨qv, k1, _⟩ := h.c.core
  have c4' : w.cell? ⟨g, 4, none⟩ = some (.bool d.c.closed) := (blk_cell k1 4).trans rfl
  have c4 : w.cell? ⟨g, 4, none⟩ = some (.bool false) := by rw [c4', hc]
  have HCL := Aside0.mk hc
  clear h hd hr k1 c4' hc
  go_enter Tryz.func14, Tryz.ntmps14
  go_wp2
  clear c4
  go_loopg [14] (l.length + 1) (fun gk v14 wr => ∃ (i : Nat), v14 = .int .i64 i ∧ Aside0 (i ≤ l.length) ∧ Aside0 (l.length - i < gk) ∧ Aside0 (D2 (ext F w) wr g gM gS (feedD d (l.take i)).m (feedD d (l.take i)).c) ∧ Aside0 (Ch allT F w wr) ∧ Aside0 (Rd8 (ext F w) wr A l))
  case atStart => exact ⟨0, rfl, ⟨Nat.zero_le _⟩, ⟨by omega⟩, ⟨by rw [List.take_zero]; exact H.out.mono (fun _ h => ext_of h)⟩, ⟨Ch.refl _ _ _⟩, ⟨HR.out.ch (Ch.refl allT F w)⟩⟩
  case round =>
    obtain ⟨i, rfl, P1, P2, P3, P4, P5⟩ := hrel
    cases gk with
    | zero => exact absurd P2.out (by omega)
    | succ k1 =>
    have hp1 := P1.out
    by_cases hlt : i < l.length
    · obtain ⟨ad, rfl, hna, hcell⟩ := P5.out i hlt
      have HFS := Aside0.mk (feed_succ d l i hlt)
      have HOK := Aside0.mk (show DOK (n0 + i) (feedD d (l.take i)) by have := HD.out.feed (l.take i); rwa [List.length_take, Nat.min_eq_left (by omega)] at this)
      generalize hdi : feedD d (l.take i) = di at P3 HFS HOK
      have HDI := Aside0.mk hdi
      clear hdi
      generalize l[i] = b at hcell HFS
      obtain ⟨qv, k1, _⟩ := P3.out.c.core
      have t1 : decide ((i : Int) < (l.length : Int)) = true := decide_eq_true (by omega)
      have t2 : decide (i < l.length) = true := decide_eq_true hlt
      have tw : wrap64 ((i : Int) + 1) = (i : Int) + 1 := w64 (by omega) (by omega)
      have c5' : wr.cell? ⟨g, 5, none⟩ = some (.bool di.c.over) := (blk_cell k1 5).trans rfl
      have c1 : wr.cell? ⟨g, 1, none⟩ = some (ptr gS) := (blk_cell k1 1).trans rfl
      clear k1 hna
      cases hov : di.c.over with
      | true =>
        have HOV := Aside0.mk hov
        rw [hov] at c5'
        clear hov
        go_wp2
        go_ret
        have hst : di = feedD d l := by rw [← HDI.out]; exact feed_stop (by rw [HDI.out]; exact HOV.out)
        rw [← hst]
        exact ⟨rfl, P3.out, P4.out⟩
      | false =>
        have HOV := Aside0.mk hov
        rw [hov] at c5'
        have hov2 : ¬ di.c.over = true := by rw [hov]; decide
        clear hov
        cases hsf : (stepF di.c.l di.c.a di.c.t b.toNat).1 with
        | false =>
          have HSF := Aside0.mk hsf
          have HS := Aside0.mk (show stepD di b = ⟨di.m, (di.c.scan (stepF di.c.l di.c.a di.c.t b.toNat)).fail 3⟩ by unfold stepD; rw [if_neg hov2, if_pos hsf])
          clear hsf hov2
          go_wp2_with (first
            | (go_at_call 22; refine (scan_calls b P3.out.c HOK.out.l).mono ?_; rintro e w3 ⟨rfl, hs, hh⟩; rw [HSF.out]; have S3 := Aside0.mk hs; have C3 := Aside0.mk hh; clear hs hh)
            | (go_at_call 23; refine (fails_calls S3.out).mono ?_; rintro e w4 ⟨rfl, hs, hh⟩; have S4 := Aside0.mk hs; have C4 := Aside0.mk hh; clear hs hh))
          go_ret
          have hst : stepD di b = feedD d l := by rw [← HFS.out]; exact feed_stop (by rw [HFS.out, HS.out]; rfl)
          rw [← hst, HS.out]
          exact ⟨rfl, ⟨(P3.out.m.stay C3.out).stay C4.out, S4.out⟩, P4.out.trans ((Ch.core_all C3.out).trans ((Ch.core_all C4.out).mono (fun _ h => h) (fun _ h => ext_of h)))⟩
        | true =>
          have HSF := Aside0.mk hsf
          have hsf2 : ¬ (stepF di.c.l di.c.a di.c.t b.toNat).1 = false := by rw [hsf]; decide
          clear hsf
          go_wp2_with (first
            | (go_at_call 22; refine (scan_calls b P3.out.c HOK.out.l).mono ?_; rintro e w3 ⟨rfl, hs, hh⟩; rw [HSF.out]; have S3 := Aside0.mk hs; have C3 := Aside0.mk hh; obtain ⟨qv3, k3, _⟩ := hs.core; have z0 : w3.cell? ⟨g, 0, none⟩ = some (mval gM) := (blk_cell k3 0).trans rfl; clear hs hh k3))
          have D3 := Aside0.mk (show D2 (ext F w) w3 g gM gS di.m (di.c.scan (stepF di.c.l di.c.a di.c.t b.toNat)) from ⟨P3.out.m.stay C3.out, S3.out⟩)
          have C3a := Aside0.mk (P4.out.trans (Ch.core_all C3.out))
          have hme := step_method ⟨gM, 0, none⟩
          go_wp2_with fail
          clear hme z0
          refine (Dl.step_calls b D3.out (HOK.out.ok HOV.out) (by have := HOK.out.q; have := HN.out; show di.c.q.length ≤ 90000; unfold stepMax at *; omega)).mono ?_
          rintro e w4 ⟨rfl, hd4, hc4⟩
          have D4 := Aside0.mk (hd4.mono (ext2 C3a.out.size))
          have C4 := Aside0.mk (C3a.out.trans hc4)
          clear hd4 hc4
          by_cases hx : (stepM di.m b).2.2 = 0
          · have HS := Aside0.mk (show stepD di b = ⟨(stepM di.m b).1, { di.c.scan (stepF di.c.l di.c.a di.c.t b.toNat) with q := di.c.q ++ (stepM di.m b).2.1, at_ := di.c.at_ + 1 }⟩ by unfold stepD; rw [if_neg hov2, if_neg hsf2, if_pos hx])
            obtain ⟨qv4, k4, _⟩ := D4.out.c.core
            have z3 : w4.cell? ⟨g, 3, none⟩ = some (.int .i64 di.c.at_) := (blk_cell k4 3).trans rfl
            have y3 := blk_frozen k4 3
            have hat := HOK.out.at_
            have hnn := HN.out
            have tw2 : wrap64 (di.c.at_ + 1) = di.c.at_ + 1 := w64 (by omega) (by omega)
            have PT := Aside0.mk (D4.out.c.put (c' := { di.c.scan (stepF di.c.l di.c.a di.c.t b.toNat) with q := di.c.q ++ (stepM di.m b).2.1, at_ := di.c.at_ + 1 }) 3 (.int .i64 (di.c.at_ + 1)) (fun qv => rfl) rfl ⟨rfl, rfl, rfl⟩)
            rw [hx]
            clear hx hov2 hsf2 k4 hat hnn
            go_wp2
            go_roundg k1
            case measure => have := P2.out; omega
            case rel =>
              refine ⟨i + 1, by go_num, ⟨by omega⟩, ⟨by have := P2.out; omega⟩, ⟨?_⟩, ⟨C4.out.trans ((Ch.core_all PT.out.2).mono (fun _ h => h) (fun _ h => h))⟩, ⟨?_⟩⟩
              · rw [HFS.out, HS.out]; exact ⟨D4.out.m.stay PT.out.2, PT.out.1⟩
              · exact (HR.out.ch (C4.out.trans ((Ch.core_all PT.out.2).mono (fun _ h => h) (fun _ h => h))))
          · have HS := Aside0.mk (show stepD di b = ⟨(stepM di.m b).1, ({ di.c.scan (stepF di.c.l di.c.a di.c.t b.toNat) with q := di.c.q ++ (stepM di.m b).2.1 } : CS).fail (stepM di.m b).2.2⟩ by unfold stepD; rw [if_neg hov2, if_neg hsf2, if_neg hx])
            obtain ⟨y, hy⟩ : ∃ y, (stepM di.m b).2.2 = y := ⟨_, rfl⟩
            rw [hy] at hx HS ⊢
            have s4 : (y == 0) = false := by rw [beq_eq_false_iff_ne]; exact hx
            have s5 : decide (y = 0) = false := decide_eq_false hx
            clear hx hov2 hsf2 hy
            go_wp2_with (go_at_call 25; refine (met_calls D4.out.c).mono ?_; rintro e w5 ⟨rfl, hs, hh⟩; have S5 := Aside0.mk hs; have C5 := Aside0.mk hh; clear hs hh)
            go_ret
            have hst : stepD di b = feedD d l := by rw [← HFS.out]; exact feed_stop (by rw [HFS.out, HS.out]; rfl)
            rw [← hst, HS.out]
            exact ⟨rfl, ⟨D4.out.m.stay C5.out, S5.out⟩, C4.out.trans (Ch.core_all C5.out)⟩
    · have hi : i = l.length := by omega
      have t1 : decide ((i : Int) < (l.length : Int)) = false := decide_eq_false (by omega)
      have t2 : decide (i < l.length) = false := decide_eq_false (by omega)
      rw [hi, List.take_length] at P3
      clear hi
      go_wp2
      go_ret
      exact ⟨rfl, P3.out, P4.out⟩
set_option maxHeartbeats 4000000 in
set_option maxRecDepth 100000 in
theorem feed_closed {F : Nat → Prop} {w : World} {g gM gS n k : Nat} {c : CS} {A : Option Addr} (h : IsC F w g gM gS c) (hc : c.closed = true) :
    Calls Tryz.prog 14 #[ptr g, .slice A k n] w fun e w' => e = .returned (.bool false) ∧ w' = w := by
  obtain ⟨qv, k1, _⟩ := h.core
  have c4' : w.cell? ⟨g, 4, none⟩ = some (.bool c.closed) := (blk_cell k1 4).trans rfl
  have c4 : w.cell? ⟨g, 4, none⟩ = some (.bool true) := by rw [c4', hc]
  clear h k1 c4' hc
  go_enter Tryz.func14, Tryz.ntmps14
  go_wp2
  go_ret
  exact ⟨rfl, rfl⟩
end Go.Proofs.YtalaedpiimdcbaaGreatDoor.Cr
