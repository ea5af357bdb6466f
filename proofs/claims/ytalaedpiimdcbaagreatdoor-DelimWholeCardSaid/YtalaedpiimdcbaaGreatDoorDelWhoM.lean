/- events: may, right of the kinds that carry nothing and of the two that carry a name. events: Step of a Check, kind by kind. events.Whole. DelimWhole, walked. -/
import Derived.Test.YtalaedpiimdcbaaGreatDoorEvcW
import Derived.Test.YtalaedpiimdcbaaGreatDoorSrcRunesW
import Derived.Test.YtalaedpiimdcbaaGreatDoorTabs
import Derived.Test.YtalaedpiimdcbaaGreatDoorDelWhoP
import Derived.Test.YtalaedpiimdcbaaGreatDoorCore
import Derived.BigQuiet
import Derived.Deep.LoopGhost
import Derived.RegionTactic
import Derived.Test.YtalaedpiimdcbaaGreatDoorDelLives
namespace Go.Proofs.YtalaedpiimdcbaaGreatDoor.Ec
open Go Go.Lib Go.WideShapes Go.Proofs.YtalaedpiimdcbaaGreatDoor.Lw Go.RowKit Go.Proofs.YtalaedpiimdcbaaGreatDoorW.PrintWords Go.Proofs.YtalaedpiimdcbaaGreatDoorW.PrintLast Go.Proofs.YtalaedpiimdcbaaGreatDoor.Own Go.Proofs.YtalaedpiimdcbaaGreatDoor.Hp
set_option linter.unusedVariables false
set_option linter.unusedSimpArgs false
set_option maxHeartbeats 4000000 in
set_option maxRecDepth 100000 in
theorem may_calls {w : World} (s : ByteArray) (hs : s.size ≤ 1000000) (hT : Tab.Tabs w) :
    Calls Tryz.prog 30 #[.string s] w fun e w' => e = .returned (.bool (mayT s)) ∧ Below w.heap.size w w' := by
  have HR := Aside0.mk (Srcw.runes_calls s w (by omega) (Tab.valid_calls s w (by omega) hT))
  cases hv : Lib.validD s.data.toList with
  | false =>
    have HG := Aside0.mk (show mayT s = false by unfold mayT; rw [hv]; rfl)
    have HV := Aside0.mk hv
    clear hv hT hs
    go_enter Tryz.func30, Tryz.ntmps30
    go_wp2_with (go_at_call 37; refine HR.out.mono ?_; rintro e w1 ⟨v, rfl, _, hb⟩; have B1 := Aside0.mk hb; clear hb; rw [HV.out])
    go_ret
    exact ⟨by rw [HG.out]; rfl, B1.out⟩
  | true =>
    have HG := Aside0.mk (show mayT s = decide (s.size ≤ 48) by unfold mayT; rw [hv]; rfl)
    have HV := Aside0.mk hv
    obtain ⟨n, hn⟩ : ∃ n, s.size = n := ⟨_, rfl⟩
    rw [hn] at HG
    clear hv hT hs
    go_enter Tryz.func30, Tryz.ntmps30
    go_wp2_with (go_at_call 37; refine HR.out.mono ?_; rintro e w1 ⟨v, rfl, _, hb⟩; have B1 := Aside0.mk hb; clear hb; rw [HV.out])
    go_ret
    have he : decide ((n : Int) ≤ 48) = decide (n ≤ 48) := decide_eq_decide.mpr (by omega)
    exact ⟨by rw [HG.out, ← he]; rfl, B1.out⟩
theorem nil_iff (t : ByteArray) : t.toList = [] ↔ t = noT := by
  constructor
  · intro h
    rw [ByteArray.toList_eq] at h
    exact bytes_inj (by rw [h]; rfl)
  · intro h
    rw [h, ByteArray.toList_eq]
    rfl
set_option maxHeartbeats 4000000 in
set_option maxRecDepth 100000 in
theorem right_none1 {w : World} (t v : ByteArray) :
    Calls Tryz.prog 16 #[evA ⟨1, t, v⟩] w fun e w' => e = .returned (.bool (decide (t = noT ∧ v = noT))) ∧ Below w.heap.size w w' := by
  go_enter Tryz.func16, Tryz.ntmps16
  go_wp2_with ((with_reducible refine gate_dst (N := 1) rfl ?_); refine box_event ?hg (N := 1) ?hd (cs := #[.int .i64 1, .string t, .string v]) (t := 44) ?hr ?_; (case hd => rfl); (case hg => rfl); (case hr => first | (go_simp; done) | (go_simp; rfl)); intro b hg w1 hbox hb; have X1 := Aside0.mk hbox; have B1 := Aside0.mk hb; have y0 : w1.cell? ⟨b, 0, none⟩ = some (.int .i64 1) := (blk_cell hbox 0).trans rfl; have y1 : w1.cell? ⟨b, 1, none⟩ = some (.string t) := (blk_cell hbox 1).trans rfl; have y2 : w1.cell? ⟨b, 2, none⟩ = some (.string v) := (blk_cell hbox 2).trans rfl; clear hg hbox hb)
  all_goals go_ret
  all_goals (refine ⟨?_, B1.out⟩; simp_all [nil_iff])
set_option maxHeartbeats 4000000 in
set_option maxRecDepth 100000 in
theorem right_none5 {w : World} (t v : ByteArray) :
    Calls Tryz.prog 16 #[evA ⟨5, t, v⟩] w fun e w' => e = .returned (.bool (decide (t = noT ∧ v = noT))) ∧ Below w.heap.size w w' := by
  go_enter Tryz.func16, Tryz.ntmps16
  go_wp2_with ((with_reducible refine gate_dst (N := 1) rfl ?_); refine box_event ?hg (N := 1) ?hd (cs := #[.int .i64 5, .string t, .string v]) (t := 44) ?hr ?_; (case hd => rfl); (case hg => rfl); (case hr => first | (go_simp; done) | (go_simp; rfl)); intro b hg w1 hbox hb; have X1 := Aside0.mk hbox; have B1 := Aside0.mk hb; have y0 : w1.cell? ⟨b, 0, none⟩ = some (.int .i64 5) := (blk_cell hbox 0).trans rfl; have y1 : w1.cell? ⟨b, 1, none⟩ = some (.string t) := (blk_cell hbox 1).trans rfl; have y2 : w1.cell? ⟨b, 2, none⟩ = some (.string v) := (blk_cell hbox 2).trans rfl; clear hg hbox hb)
  all_goals go_ret
  all_goals (refine ⟨?_, B1.out⟩; simp_all [nil_iff])
set_option maxHeartbeats 4000000 in
set_option maxRecDepth 100000 in
theorem right_none6 {w : World} (t v : ByteArray) :
    Calls Tryz.prog 16 #[evA ⟨6, t, v⟩] w fun e w' => e = .returned (.bool (decide (t = noT ∧ v = noT))) ∧ Below w.heap.size w w' := by
  go_enter Tryz.func16, Tryz.ntmps16
  go_wp2_with ((with_reducible refine gate_dst (N := 1) rfl ?_); refine box_event ?hg (N := 1) ?hd (cs := #[.int .i64 6, .string t, .string v]) (t := 44) ?hr ?_; (case hd => rfl); (case hg => rfl); (case hr => first | (go_simp; done) | (go_simp; rfl)); intro b hg w1 hbox hb; have X1 := Aside0.mk hbox; have B1 := Aside0.mk hb; have y0 : w1.cell? ⟨b, 0, none⟩ = some (.int .i64 6) := (blk_cell hbox 0).trans rfl; have y1 : w1.cell? ⟨b, 1, none⟩ = some (.string t) := (blk_cell hbox 1).trans rfl; have y2 : w1.cell? ⟨b, 2, none⟩ = some (.string v) := (blk_cell hbox 2).trans rfl; clear hg hbox hb)
  all_goals go_ret
  all_goals (refine ⟨?_, B1.out⟩; simp_all [nil_iff])
set_option maxHeartbeats 4000000 in
set_option maxRecDepth 100000 in
theorem right_none7 {w : World} (t v : ByteArray) :
    Calls Tryz.prog 16 #[evA ⟨7, t, v⟩] w fun e w' => e = .returned (.bool (decide (t = noT ∧ v = noT))) ∧ Below w.heap.size w w' := by
  go_enter Tryz.func16, Tryz.ntmps16
  go_wp2_with ((with_reducible refine gate_dst (N := 1) rfl ?_); refine box_event ?hg (N := 1) ?hd (cs := #[.int .i64 7, .string t, .string v]) (t := 44) ?hr ?_; (case hd => rfl); (case hg => rfl); (case hr => first | (go_simp; done) | (go_simp; rfl)); intro b hg w1 hbox hb; have X1 := Aside0.mk hbox; have B1 := Aside0.mk hb; have y0 : w1.cell? ⟨b, 0, none⟩ = some (.int .i64 7) := (blk_cell hbox 0).trans rfl; have y1 : w1.cell? ⟨b, 1, none⟩ = some (.string t) := (blk_cell hbox 1).trans rfl; have y2 : w1.cell? ⟨b, 2, none⟩ = some (.string v) := (blk_cell hbox 2).trans rfl; clear hg hbox hb)
  all_goals go_ret
  all_goals (refine ⟨?_, B1.out⟩; simp_all [nil_iff])
set_option maxHeartbeats 4000000 in
set_option maxRecDepth 100000 in
theorem right_none9 {w : World} (t v : ByteArray) :
    Calls Tryz.prog 16 #[evA ⟨9, t, v⟩] w fun e w' => e = .returned (.bool (decide (t = noT ∧ v = noT))) ∧ Below w.heap.size w w' := by
  go_enter Tryz.func16, Tryz.ntmps16
  go_wp2_with ((with_reducible refine gate_dst (N := 1) rfl ?_); refine box_event ?hg (N := 1) ?hd (cs := #[.int .i64 9, .string t, .string v]) (t := 44) ?hr ?_; (case hd => rfl); (case hg => rfl); (case hr => first | (go_simp; done) | (go_simp; rfl)); intro b hg w1 hbox hb; have X1 := Aside0.mk hbox; have B1 := Aside0.mk hb; have y0 : w1.cell? ⟨b, 0, none⟩ = some (.int .i64 9) := (blk_cell hbox 0).trans rfl; have y1 : w1.cell? ⟨b, 1, none⟩ = some (.string t) := (blk_cell hbox 1).trans rfl; have y2 : w1.cell? ⟨b, 2, none⟩ = some (.string v) := (blk_cell hbox 2).trans rfl; clear hg hbox hb)
  all_goals go_ret
  all_goals (refine ⟨?_, B1.out⟩; simp_all [nil_iff])
set_option maxHeartbeats 4000000 in
set_option maxRecDepth 100000 in
theorem right_none12 {w : World} (t v : ByteArray) :
    Calls Tryz.prog 16 #[evA ⟨12, t, v⟩] w fun e w' => e = .returned (.bool (decide (t = noT ∧ v = noT))) ∧ Below w.heap.size w w' := by
  go_enter Tryz.func16, Tryz.ntmps16
  go_wp2_with ((with_reducible refine gate_dst (N := 1) rfl ?_); refine box_event ?hg (N := 1) ?hd (cs := #[.int .i64 12, .string t, .string v]) (t := 44) ?hr ?_; (case hd => rfl); (case hg => rfl); (case hr => first | (go_simp; done) | (go_simp; rfl)); intro b hg w1 hbox hb; have X1 := Aside0.mk hbox; have B1 := Aside0.mk hb; have y0 : w1.cell? ⟨b, 0, none⟩ = some (.int .i64 12) := (blk_cell hbox 0).trans rfl; have y1 : w1.cell? ⟨b, 1, none⟩ = some (.string t) := (blk_cell hbox 1).trans rfl; have y2 : w1.cell? ⟨b, 2, none⟩ = some (.string v) := (blk_cell hbox 2).trans rfl; clear hg hbox hb)
  all_goals go_ret
  all_goals (refine ⟨?_, B1.out⟩; simp_all [nil_iff])
set_option maxHeartbeats 4000000 in
set_option maxRecDepth 100000 in
theorem right_text4 {w : World} (t v : ByteArray) (ht : t.size ≤ 1000000) (hT : Tab.Tabs w) :
    Calls Tryz.prog 16 #[evA ⟨4, t, v⟩] w fun e w' => e = .returned (.bool (decide (v = noT) && mayT t)) ∧ Below w.heap.size w w' := by
  have HM := Aside0.mk (fun w1 (h : Below w.heap.size w w1) => may_calls (w := w1) t ht (hT.below h))
  clear hT ht
  go_enter Tryz.func16, Tryz.ntmps16
  go_wp2_with (first
    | (go_at_call 30; refine (HM.out _ B1.out).mono ?_; rintro e w2 ⟨rfl, hb⟩; have B2 := Aside0.mk hb; clear hb)
    | (((with_reducible refine gate_dst (N := 1) rfl ?_); refine box_event ?hg (N := 1) ?hd (cs := #[.int .i64 4, .string t, .string v]) (t := 44) ?hr ?_; (case hd => rfl); (case hg => rfl); (case hr => first | (go_simp; done) | (go_simp; rfl)); intro b hg w1 hbox hb; have X1 := Aside0.mk hbox; have B1 := Aside0.mk hb; have y0 : w1.cell? ⟨b, 0, none⟩ = some (.int .i64 4) := (blk_cell hbox 0).trans rfl; have y1 : w1.cell? ⟨b, 1, none⟩ = some (.string t) := (blk_cell hbox 1).trans rfl; have y2 : w1.cell? ⟨b, 2, none⟩ = some (.string v) := (blk_cell hbox 2).trans rfl; clear hg hbox hb)))
  all_goals go_ret
  all_goals (refine ⟨?_, by first | exact B1.out | exact B1.out.trans (B2.out.mono B1.out.size)⟩; simp_all [nil_iff])
set_option maxHeartbeats 4000000 in
set_option maxRecDepth 100000 in
theorem right_text8 {w : World} (t v : ByteArray) (ht : t.size ≤ 1000000) (hT : Tab.Tabs w) :
    Calls Tryz.prog 16 #[evA ⟨8, t, v⟩] w fun e w' => e = .returned (.bool (decide (v = noT) && mayT t)) ∧ Below w.heap.size w w' := by
  have HM := Aside0.mk (fun w1 (h : Below w.heap.size w w1) => may_calls (w := w1) t ht (hT.below h))
  clear hT ht
  go_enter Tryz.func16, Tryz.ntmps16
  go_wp2_with (first
    | (go_at_call 30; refine (HM.out _ B1.out).mono ?_; rintro e w2 ⟨rfl, hb⟩; have B2 := Aside0.mk hb; clear hb)
    | (((with_reducible refine gate_dst (N := 1) rfl ?_); refine box_event ?hg (N := 1) ?hd (cs := #[.int .i64 8, .string t, .string v]) (t := 44) ?hr ?_; (case hd => rfl); (case hg => rfl); (case hr => first | (go_simp; done) | (go_simp; rfl)); intro b hg w1 hbox hb; have X1 := Aside0.mk hbox; have B1 := Aside0.mk hb; have y0 : w1.cell? ⟨b, 0, none⟩ = some (.int .i64 8) := (blk_cell hbox 0).trans rfl; have y1 : w1.cell? ⟨b, 1, none⟩ = some (.string t) := (blk_cell hbox 1).trans rfl; have y2 : w1.cell? ⟨b, 2, none⟩ = some (.string v) := (blk_cell hbox 2).trans rfl; clear hg hbox hb)))
  all_goals go_ret
  all_goals (refine ⟨?_, by first | exact B1.out | exact B1.out.trans (B2.out.mono B1.out.size)⟩; simp_all [nil_iff])
/-- Of the kinds that delim and brace tell without a number or a name: which are right. -/
theorem right_calls {w : World} (x : Ev) (hk : x.k = 1 ∨ x.k = 4 ∨ x.k = 5 ∨ x.k = 6 ∨ x.k = 7 ∨ x.k = 8 ∨ x.k = 9 ∨ x.k = 12) (ht : x.t.size ≤ 1000000) (hT : Tab.Tabs w) :
    Calls Tryz.prog 16 #[evA x] w fun e w' => e = .returned (.bool (rightD x)) ∧ Below w.heap.size w w' := by
  obtain ⟨k, t, v⟩ := x
  rcases hk with hk | hk | hk | hk | hk | hk | hk | hk
  all_goals (change k = _ at hk; subst hk)
  · rw [show rightD ⟨1, t, v⟩ = decide (t = noT ∧ v = noT) by unfold rightD; simp]; exact right_none1 t v
  · rw [show rightD ⟨4, t, v⟩ = (decide (v = noT) && mayT t) by unfold rightD; simp]; exact right_text4 t v ht hT
  · rw [show rightD ⟨5, t, v⟩ = decide (t = noT ∧ v = noT) by unfold rightD; simp]; exact right_none5 t v
  · rw [show rightD ⟨6, t, v⟩ = decide (t = noT ∧ v = noT) by unfold rightD; simp]; exact right_none6 t v
  · rw [show rightD ⟨7, t, v⟩ = decide (t = noT ∧ v = noT) by unfold rightD; simp]; exact right_none7 t v
  · rw [show rightD ⟨8, t, v⟩ = (decide (v = noT) && mayT t) by unfold rightD; simp]; exact right_text8 t v ht hT
  · rw [show rightD ⟨9, t, v⟩ = decide (t = noT ∧ v = noT) by unfold rightD; simp]; exact right_none9 t v
  · rw [show rightD ⟨12, t, v⟩ = decide (t = noT ∧ v = noT) by unfold rightD; simp]; exact right_none12 t v
end Go.Proofs.YtalaedpiimdcbaaGreatDoor.Ec

namespace Go.Proofs.YtalaedpiimdcbaaGreatDoor.Ec
open Go Go.Lib Go.Proofs.YtalaedpiimdcbaaGreatDoor.Lw Go.RowKit Go.Proofs.YtalaedpiimdcbaaGreatDoorW.PrintWords Go.Proofs.YtalaedpiimdcbaaGreatDoorW.PrintLast Go.Proofs.YtalaedpiimdcbaaGreatDoor.Own Go.Proofs.YtalaedpiimdcbaaGreatDoor.Hp
set_option linter.unusedVariables false
set_option linter.unusedSimpArgs false
def TI (P : Program) (t k e : TypeId) : Prop := P.underlying t = some (.map k e) ∧ P.underlying k = some (.int .i64) ∧ P.underlying e = some (.int .i64) ∧ ∀ w, (zeroValue e).run P w = .ok (.int .i64 0) w
/-- Numbers to numbers. -/
def mkI {P : Program} {t k e : TypeId} (h0 : TI P t k e) : MKind P t k e Int Int where
  kv := fun x => .int .i64 x
  kl := fun x => .int .i64 x
  vv := fun x => .int .i64 x
  vl := fun x => .int .i64 x
  d := 0
  okk := fun x => 0 ≤ x ∧ x < 256
  okv := fun x => 0 ≤ x ∧ x < 256
  ht := h0.1
  keyed := Maps.int_keyed h0.2.1
  key := fun a h => Maps.keyOf_int_mk h0.2.1 (by have h0 := h.1; have h1 := h.2; simp [Lit.wf, IntKind.min, IntKind.max, IntKind.signed, IntKind.bits]; omega)
  lit := fun a => trivial
  inj := fun a b h => by injection h
  val := fun b h => plainElem_int h0.2.2.1 (by have h0 := h.1; have h1 := h.2; simp [Lit.wf, IntKind.min, IntKind.max, IntKind.signed, IntKind.bits]; omega)
  inv := fun v ps b h => by
    obtain ⟨a, rfl, hz, _⟩ := plainElem_int_inv h0.2.2.1 h
    injection hz with h1 _
    injection h1 with h1
    injection h1 with _ h1
    rw [h1]
  zero := h0.2.2.2
  okd := by omega
theorem tI : TI Tryz.prog 62 3 3 := ⟨Tryz.underlying62, Tryz.underlying3, Tryz.underlying3, Tryz.zeroValue3⟩
def lastV : List (Nat × Nat) → Value
  | [] => .pointer none
  | p :: _ => pt p.1
theorem last_calls {F : Nat → Prop} {w : World} {g : Nat} {ps : List (Nat × Nat)} {c : CK} (h : CkAt F w g ps c) :
    Calls Tryz.prog 17 #[pt g] w fun e w' => e = .returned (lastV ps) ∧ Below w.heap.size w w' := by
  cases ps with
  | nil => exact last_none h
  | cons p ps => exact last_some h
/-- Nothing that is open is of kind 10. -/
def N10 (c : CK) : Prop := ∀ l ∈ c.op, l.k ≠ 10
theorem CkAt.head {F : Nat → Prop} {w : World} {g : Nat} {p : Nat × Nat} {ps : List (Nat × Nat)} {c : CK} (h : CkAt F w g (p :: ps) c) : ∃ l r, c.op = l :: r ∧ OAt F w p l := by
  have he := h.each
  revert he
  generalize c.op = q
  intro he
  cases he with
  | cons h1 h2 => exact ⟨_, _, rfl, h1⟩
theorem CkAt.noneOp {F : Nat → Prop} {w : World} {g : Nat} {c : CK} (h : CkAt F w g [] c) : c.op = [] := List.eq_nil_of_length_eq_zero h.len.symm
theorem value_calls {F : Nat → Prop} {w : World} {g : Nat} {ps : List (Nat × Nat)} {c : CK} (x : Ev) (h : CkAt F w g ps c) (h10 : N10 c) :
    Calls Tryz.prog 18 #[pt g, evA x] w fun e w' => e = .returned (.bool (valueC c x)) ∧ Below w.heap.size w w' := by
  cases ps with
  | nil =>
    rw [show valueC c x = !c.over by unfold valueC; rw [h.noneOp]]
    exact value_none x h
  | cons p ps =>
    obtain ⟨l, r, ho, hl⟩ := h.head
    have hn := h10 l (by rw [ho]; exact List.mem_cons_self ..)
    rw [show valueC c x = (if l.k = 7 then l.key else true) by unfold valueC; rw [ho]; simp only [if_neg hn]]
    exact value_some x h hl hn
theorem stands_calls {F : Nat → Prop} {w : World} {g : Nat} {ps : List (Nat × Nat)} {c : CK} (x : Ev) (h : CkAt F w g ps c) :
    Calls Tryz.prog 19 #[pt g, evA x] w (CkPost F w g ps (standsC c x) (.tuple #[])) := by
  cases ps with
  | nil =>
    rw [show standsC c x = { c with over := true } by unfold standsC; rw [h.noneOp]]
    exact stands_none x h
  | cons p ps =>
    obtain ⟨l, r, ho, hl⟩ := h.head
    rw [show standsC c x = { c with op := { l with key := false, full := true, text := decide (x.k = 4) } :: r } by unfold standsC; rw [ho]]
    exact stands_some x h ho hl
/-- A Check behind a step. -/
def StepPost (F : Nat → Prop) (w : World) (g : Nat) (c : CK) (x : Ev) (e : Ending) (w' : World) : Prop := ∃ ps, e = .returned (.int .i64 (stepC rightD c x).2) ∧ CkAt F w' g ps (stepC rightD c x).1 ∧ Ch evcT F w w'
set_option maxHeartbeats 8000000 in
set_option maxRecDepth 100000 in
theorem step_value1 {F : Nat → Prop} {w : World} {g : Nat} {ps : List (Nat × Nat)} {c : CK} (t v : ByteArray) (h : CkAt F w g ps c) (hF : ∀ k, w.heap.size ≤ k → F k) (ht : t.size ≤ 1000000) (hT : Tab.Tabs w) (h10 : N10 c) :
    Calls Tryz.prog 11 #[pt g, evA ⟨1, t, v⟩] w (StepPost F w g c ⟨1, t, v⟩) := by
  have H := Aside0.mk h
  have HFF := Aside0.mk hF
  have HRC := Aside0.mk (fun w1 (hb : Below w.heap.size w w1) => right_calls (w := w1) ⟨1, t, v⟩ (by simp) ht (hT.below hb))
  have HN := Aside0.mk h10
  cases hr : rightD ⟨1, t, v⟩ with
  | false =>
    have HR := Aside0.mk hr
    have HG := Aside0.mk (show stepC rightD c ⟨1, t, v⟩ = (c, 19) by unfold stepC; rw [hr]; rfl)
    clear hr h hF ht hT
    go_enter Tryz.func11, Tryz.ntmps11
    go_wp2_with (first
      | ((with_reducible refine gate_dst (N := 3) rfl ?_); refine box_event ?hg (N := 3) ?hd (cs := #[.int .i64 1, .string t, .string v]) (t := 44) ?hr ?_; (case hd => rfl); (case hg => rfl); (case hr => first | (go_simp; done) | (go_simp; rfl)); intro b hg w1 hbox hb; have X1 := Aside0.mk hbox; have B1 := Aside0.mk hb; have K1 := Aside0.mk (H.out.below hb); have C1 := Aside0.mk ((Ch.of_below hb : Ch evcT F w w1)); have y0 : w1.cell? ⟨b, 0, none⟩ = some (.int .i64 1) := (blk_cell hbox 0).trans rfl; have y1 : w1.cell? ⟨b, 1, none⟩ = some (.string t) := (blk_cell hbox 1).trans rfl; have y2 : w1.cell? ⟨b, 2, none⟩ = some (.string v) := (blk_cell hbox 2).trans rfl; clear hg hbox hb)
      | (go_at_call 16; refine (HRC.out _ B1.out).mono ?_; rintro e w2 ⟨rfl, hb⟩; rw [HR.out]; have B2 := Aside0.mk hb; have K2 := Aside0.mk (K1.out.below hb); have C2 := Aside0.mk (C1.out.trans (Ch.of_below hb)); have X2 := Aside0.mk ((hb.block b (blk_lt X1.out)).trans X1.out); clear y0 y1 y2; have y0 : w2.cell? ⟨b, 0, none⟩ = some (.int .i64 1) := (blk_cell X2.out 0).trans rfl; have y1 : w2.cell? ⟨b, 1, none⟩ = some (.string t) := (blk_cell X2.out 1).trans rfl; have y2 : w2.cell? ⟨b, 2, none⟩ = some (.string v) := (blk_cell X2.out 2).trans rfl; clear hb))
    go_ret
    unfold StepPost
    rw [HG.out]
    exact ⟨ps, rfl, K2.out, C2.out⟩
  | true =>
    have HR := Aside0.mk hr
    cases hv : valueC c ⟨1, t, v⟩ with
    | false =>
      have HV := Aside0.mk hv
      have HG := Aside0.mk (show stepC rightD c ⟨1, t, v⟩ = (c, 19) by unfold stepC; rw [if_pos hr]; unfold goesC; simp [hv])
      clear hr hv h hF ht hT h10
      go_enter Tryz.func11, Tryz.ntmps11
      go_wp2_with (first
        | ((with_reducible refine gate_dst (N := 3) rfl ?_); refine box_event ?hg (N := 3) ?hd (cs := #[.int .i64 1, .string t, .string v]) (t := 44) ?hr ?_; (case hd => rfl); (case hg => rfl); (case hr => first | (go_simp; done) | (go_simp; rfl)); intro b hg w1 hbox hb; have X1 := Aside0.mk hbox; have B1 := Aside0.mk hb; have K1 := Aside0.mk (H.out.below hb); have C1 := Aside0.mk ((Ch.of_below hb : Ch evcT F w w1)); have y0 : w1.cell? ⟨b, 0, none⟩ = some (.int .i64 1) := (blk_cell hbox 0).trans rfl; have y1 : w1.cell? ⟨b, 1, none⟩ = some (.string t) := (blk_cell hbox 1).trans rfl; have y2 : w1.cell? ⟨b, 2, none⟩ = some (.string v) := (blk_cell hbox 2).trans rfl; clear hg hbox hb)
        | (go_at_call 16; refine (HRC.out _ B1.out).mono ?_; rintro e w2 ⟨rfl, hb⟩; rw [HR.out]; have B2 := Aside0.mk hb; have K2 := Aside0.mk (K1.out.below hb); have C2 := Aside0.mk (C1.out.trans (Ch.of_below hb)); have X2 := Aside0.mk ((hb.block b (blk_lt X1.out)).trans X1.out); clear y0 y1 y2; have y0 : w2.cell? ⟨b, 0, none⟩ = some (.int .i64 1) := (blk_cell X2.out 0).trans rfl; have y1 : w2.cell? ⟨b, 1, none⟩ = some (.string t) := (blk_cell X2.out 1).trans rfl; have y2 : w2.cell? ⟨b, 2, none⟩ = some (.string v) := (blk_cell X2.out 2).trans rfl; clear hb)
        | (go_at_call 17; refine (last_calls K2.out).mono ?_; rintro e w3 ⟨rfl, hb⟩; have B3 := Aside0.mk hb; have K3 := Aside0.mk (K2.out.below hb); have C3 := Aside0.mk (C2.out.trans (Ch.of_below hb)); have X3 := Aside0.mk ((hb.block b (blk_lt X2.out)).trans X2.out); clear y0 y1 y2; have y0 : w3.cell? ⟨b, 0, none⟩ = some (.int .i64 1) := (blk_cell X3.out 0).trans rfl; have y1 : w3.cell? ⟨b, 1, none⟩ = some (.string t) := (blk_cell X3.out 1).trans rfl; have y2 : w3.cell? ⟨b, 2, none⟩ = some (.string v) := (blk_cell X3.out 2).trans rfl; clear hb)
        | (go_at_call 18; refine (value_calls ⟨1, t, v⟩ K3.out HN.out).mono ?_; rintro e w4 ⟨rfl, hb⟩; rw [HV.out]; have B4 := Aside0.mk hb; have K4 := Aside0.mk (K3.out.below hb); have C4 := Aside0.mk (C3.out.trans (Ch.of_below hb)); have X4 := Aside0.mk ((hb.block b (blk_lt X3.out)).trans X3.out); clear y0 y1 y2; have y0 : w4.cell? ⟨b, 0, none⟩ = some (.int .i64 1) := (blk_cell X4.out 0).trans rfl; have y1 : w4.cell? ⟨b, 1, none⟩ = some (.string t) := (blk_cell X4.out 1).trans rfl; have y2 : w4.cell? ⟨b, 2, none⟩ = some (.string v) := (blk_cell X4.out 2).trans rfl; clear hb))
      go_ret
      unfold StepPost
      rw [HG.out]
      exact ⟨ps, rfl, K4.out, C4.out⟩
    | true =>
      have HV := Aside0.mk hv
      have HG := Aside0.mk (show stepC rightD c ⟨1, t, v⟩ = (standsC c ⟨1, t, v⟩, 0) by unfold stepC; rw [if_pos hr]; unfold goesC; simp [hv])
      clear hr hv h hF ht hT h10
      go_enter Tryz.func11, Tryz.ntmps11
      go_wp2_with (first
        | ((with_reducible refine gate_dst (N := 3) rfl ?_); refine box_event ?hg (N := 3) ?hd (cs := #[.int .i64 1, .string t, .string v]) (t := 44) ?hr ?_; (case hd => rfl); (case hg => rfl); (case hr => first | (go_simp; done) | (go_simp; rfl)); intro b hg w1 hbox hb; have X1 := Aside0.mk hbox; have B1 := Aside0.mk hb; have K1 := Aside0.mk (H.out.below hb); have C1 := Aside0.mk ((Ch.of_below hb : Ch evcT F w w1)); have y0 : w1.cell? ⟨b, 0, none⟩ = some (.int .i64 1) := (blk_cell hbox 0).trans rfl; have y1 : w1.cell? ⟨b, 1, none⟩ = some (.string t) := (blk_cell hbox 1).trans rfl; have y2 : w1.cell? ⟨b, 2, none⟩ = some (.string v) := (blk_cell hbox 2).trans rfl; clear hg hbox hb)
        | (go_at_call 16; refine (HRC.out _ B1.out).mono ?_; rintro e w2 ⟨rfl, hb⟩; rw [HR.out]; have B2 := Aside0.mk hb; have K2 := Aside0.mk (K1.out.below hb); have C2 := Aside0.mk (C1.out.trans (Ch.of_below hb)); have X2 := Aside0.mk ((hb.block b (blk_lt X1.out)).trans X1.out); clear y0 y1 y2; have y0 : w2.cell? ⟨b, 0, none⟩ = some (.int .i64 1) := (blk_cell X2.out 0).trans rfl; have y1 : w2.cell? ⟨b, 1, none⟩ = some (.string t) := (blk_cell X2.out 1).trans rfl; have y2 : w2.cell? ⟨b, 2, none⟩ = some (.string v) := (blk_cell X2.out 2).trans rfl; clear hb)
        | (go_at_call 17; refine (last_calls K2.out).mono ?_; rintro e w3 ⟨rfl, hb⟩; have B3 := Aside0.mk hb; have K3 := Aside0.mk (K2.out.below hb); have C3 := Aside0.mk (C2.out.trans (Ch.of_below hb)); have X3 := Aside0.mk ((hb.block b (blk_lt X2.out)).trans X2.out); clear y0 y1 y2; have y0 : w3.cell? ⟨b, 0, none⟩ = some (.int .i64 1) := (blk_cell X3.out 0).trans rfl; have y1 : w3.cell? ⟨b, 1, none⟩ = some (.string t) := (blk_cell X3.out 1).trans rfl; have y2 : w3.cell? ⟨b, 2, none⟩ = some (.string v) := (blk_cell X3.out 2).trans rfl; clear hb)
        | (go_at_call 18; refine (value_calls ⟨1, t, v⟩ K3.out HN.out).mono ?_; rintro e w4 ⟨rfl, hb⟩; rw [HV.out]; have B4 := Aside0.mk hb; have K4 := Aside0.mk (K3.out.below hb); have C4 := Aside0.mk (C3.out.trans (Ch.of_below hb)); have X4 := Aside0.mk ((hb.block b (blk_lt X3.out)).trans X3.out); clear y0 y1 y2; have y0 : w4.cell? ⟨b, 0, none⟩ = some (.int .i64 1) := (blk_cell X4.out 0).trans rfl; have y1 : w4.cell? ⟨b, 1, none⟩ = some (.string t) := (blk_cell X4.out 1).trans rfl; have y2 : w4.cell? ⟨b, 2, none⟩ = some (.string v) := (blk_cell X4.out 2).trans rfl; clear hb)
        | (go_at_call 19; refine (stands_calls ⟨1, t, v⟩ K4.out).mono ?_; rintro e w5 ⟨rfl, hk, hc⟩; have K5 := Aside0.mk hk; have C5 := Aside0.mk (C4.out.trans (hc.mono (fun _ h => h) (fun _ h => ext_of h))); have X5 := Aside0.mk (hc.blk X4.out (by intro hx; rcases hx.2 with h | h | h | h <;> exact absurd h (by decide))); clear y0 y1 y2; have y0 : w5.cell? ⟨b, 0, none⟩ = some (.int .i64 1) := (blk_cell X5.out 0).trans rfl; clear hk hc))
      go_ret
      unfold StepPost
      rw [HG.out]
      exact ⟨ps, rfl, K5.out, C5.out⟩
set_option maxHeartbeats 8000000 in
set_option maxRecDepth 100000 in
theorem step_value4 {F : Nat → Prop} {w : World} {g : Nat} {ps : List (Nat × Nat)} {c : CK} (t v : ByteArray) (h : CkAt F w g ps c) (hF : ∀ k, w.heap.size ≤ k → F k) (ht : t.size ≤ 1000000) (hT : Tab.Tabs w) (h10 : N10 c) :
    Calls Tryz.prog 11 #[pt g, evA ⟨4, t, v⟩] w (StepPost F w g c ⟨4, t, v⟩) := by
  have H := Aside0.mk h
  have HFF := Aside0.mk hF
  have HRC := Aside0.mk (fun w1 (hb : Below w.heap.size w w1) => right_calls (w := w1) ⟨4, t, v⟩ (by simp) ht (hT.below hb))
  have HN := Aside0.mk h10
  cases hr : rightD ⟨4, t, v⟩ with
  | false =>
    have HR := Aside0.mk hr
    have HG := Aside0.mk (show stepC rightD c ⟨4, t, v⟩ = (c, 19) by unfold stepC; rw [hr]; rfl)
    clear hr h hF ht hT
    go_enter Tryz.func11, Tryz.ntmps11
    go_wp2_with (first
      | ((with_reducible refine gate_dst (N := 3) rfl ?_); refine box_event ?hg (N := 3) ?hd (cs := #[.int .i64 4, .string t, .string v]) (t := 44) ?hr ?_; (case hd => rfl); (case hg => rfl); (case hr => first | (go_simp; done) | (go_simp; rfl)); intro b hg w1 hbox hb; have X1 := Aside0.mk hbox; have B1 := Aside0.mk hb; have K1 := Aside0.mk (H.out.below hb); have C1 := Aside0.mk ((Ch.of_below hb : Ch evcT F w w1)); have y0 : w1.cell? ⟨b, 0, none⟩ = some (.int .i64 4) := (blk_cell hbox 0).trans rfl; have y1 : w1.cell? ⟨b, 1, none⟩ = some (.string t) := (blk_cell hbox 1).trans rfl; have y2 : w1.cell? ⟨b, 2, none⟩ = some (.string v) := (blk_cell hbox 2).trans rfl; clear hg hbox hb)
      | (go_at_call 16; refine (HRC.out _ B1.out).mono ?_; rintro e w2 ⟨rfl, hb⟩; rw [HR.out]; have B2 := Aside0.mk hb; have K2 := Aside0.mk (K1.out.below hb); have C2 := Aside0.mk (C1.out.trans (Ch.of_below hb)); have X2 := Aside0.mk ((hb.block b (blk_lt X1.out)).trans X1.out); clear y0 y1 y2; have y0 : w2.cell? ⟨b, 0, none⟩ = some (.int .i64 4) := (blk_cell X2.out 0).trans rfl; have y1 : w2.cell? ⟨b, 1, none⟩ = some (.string t) := (blk_cell X2.out 1).trans rfl; have y2 : w2.cell? ⟨b, 2, none⟩ = some (.string v) := (blk_cell X2.out 2).trans rfl; clear hb))
    go_ret
    unfold StepPost
    rw [HG.out]
    exact ⟨ps, rfl, K2.out, C2.out⟩
  | true =>
    have HR := Aside0.mk hr
    cases hv : valueC c ⟨4, t, v⟩ with
    | false =>
      have HV := Aside0.mk hv
      have HG := Aside0.mk (show stepC rightD c ⟨4, t, v⟩ = (c, 19) by unfold stepC; rw [if_pos hr]; unfold goesC; simp [hv])
      clear hr hv h hF ht hT h10
      go_enter Tryz.func11, Tryz.ntmps11
      go_wp2_with (first
        | ((with_reducible refine gate_dst (N := 3) rfl ?_); refine box_event ?hg (N := 3) ?hd (cs := #[.int .i64 4, .string t, .string v]) (t := 44) ?hr ?_; (case hd => rfl); (case hg => rfl); (case hr => first | (go_simp; done) | (go_simp; rfl)); intro b hg w1 hbox hb; have X1 := Aside0.mk hbox; have B1 := Aside0.mk hb; have K1 := Aside0.mk (H.out.below hb); have C1 := Aside0.mk ((Ch.of_below hb : Ch evcT F w w1)); have y0 : w1.cell? ⟨b, 0, none⟩ = some (.int .i64 4) := (blk_cell hbox 0).trans rfl; have y1 : w1.cell? ⟨b, 1, none⟩ = some (.string t) := (blk_cell hbox 1).trans rfl; have y2 : w1.cell? ⟨b, 2, none⟩ = some (.string v) := (blk_cell hbox 2).trans rfl; clear hg hbox hb)
        | (go_at_call 16; refine (HRC.out _ B1.out).mono ?_; rintro e w2 ⟨rfl, hb⟩; rw [HR.out]; have B2 := Aside0.mk hb; have K2 := Aside0.mk (K1.out.below hb); have C2 := Aside0.mk (C1.out.trans (Ch.of_below hb)); have X2 := Aside0.mk ((hb.block b (blk_lt X1.out)).trans X1.out); clear y0 y1 y2; have y0 : w2.cell? ⟨b, 0, none⟩ = some (.int .i64 4) := (blk_cell X2.out 0).trans rfl; have y1 : w2.cell? ⟨b, 1, none⟩ = some (.string t) := (blk_cell X2.out 1).trans rfl; have y2 : w2.cell? ⟨b, 2, none⟩ = some (.string v) := (blk_cell X2.out 2).trans rfl; clear hb)
        | (go_at_call 17; refine (last_calls K2.out).mono ?_; rintro e w3 ⟨rfl, hb⟩; have B3 := Aside0.mk hb; have K3 := Aside0.mk (K2.out.below hb); have C3 := Aside0.mk (C2.out.trans (Ch.of_below hb)); have X3 := Aside0.mk ((hb.block b (blk_lt X2.out)).trans X2.out); clear y0 y1 y2; have y0 : w3.cell? ⟨b, 0, none⟩ = some (.int .i64 4) := (blk_cell X3.out 0).trans rfl; have y1 : w3.cell? ⟨b, 1, none⟩ = some (.string t) := (blk_cell X3.out 1).trans rfl; have y2 : w3.cell? ⟨b, 2, none⟩ = some (.string v) := (blk_cell X3.out 2).trans rfl; clear hb)
        | (go_at_call 18; refine (value_calls ⟨4, t, v⟩ K3.out HN.out).mono ?_; rintro e w4 ⟨rfl, hb⟩; rw [HV.out]; have B4 := Aside0.mk hb; have K4 := Aside0.mk (K3.out.below hb); have C4 := Aside0.mk (C3.out.trans (Ch.of_below hb)); have X4 := Aside0.mk ((hb.block b (blk_lt X3.out)).trans X3.out); clear y0 y1 y2; have y0 : w4.cell? ⟨b, 0, none⟩ = some (.int .i64 4) := (blk_cell X4.out 0).trans rfl; have y1 : w4.cell? ⟨b, 1, none⟩ = some (.string t) := (blk_cell X4.out 1).trans rfl; have y2 : w4.cell? ⟨b, 2, none⟩ = some (.string v) := (blk_cell X4.out 2).trans rfl; clear hb))
      go_ret
      unfold StepPost
      rw [HG.out]
      exact ⟨ps, rfl, K4.out, C4.out⟩
    | true =>
      have HV := Aside0.mk hv
      have HG := Aside0.mk (show stepC rightD c ⟨4, t, v⟩ = (standsC c ⟨4, t, v⟩, 0) by unfold stepC; rw [if_pos hr]; unfold goesC; simp [hv])
      clear hr hv h hF ht hT h10
      go_enter Tryz.func11, Tryz.ntmps11
      go_wp2_with (first
        | ((with_reducible refine gate_dst (N := 3) rfl ?_); refine box_event ?hg (N := 3) ?hd (cs := #[.int .i64 4, .string t, .string v]) (t := 44) ?hr ?_; (case hd => rfl); (case hg => rfl); (case hr => first | (go_simp; done) | (go_simp; rfl)); intro b hg w1 hbox hb; have X1 := Aside0.mk hbox; have B1 := Aside0.mk hb; have K1 := Aside0.mk (H.out.below hb); have C1 := Aside0.mk ((Ch.of_below hb : Ch evcT F w w1)); have y0 : w1.cell? ⟨b, 0, none⟩ = some (.int .i64 4) := (blk_cell hbox 0).trans rfl; have y1 : w1.cell? ⟨b, 1, none⟩ = some (.string t) := (blk_cell hbox 1).trans rfl; have y2 : w1.cell? ⟨b, 2, none⟩ = some (.string v) := (blk_cell hbox 2).trans rfl; clear hg hbox hb)
        | (go_at_call 16; refine (HRC.out _ B1.out).mono ?_; rintro e w2 ⟨rfl, hb⟩; rw [HR.out]; have B2 := Aside0.mk hb; have K2 := Aside0.mk (K1.out.below hb); have C2 := Aside0.mk (C1.out.trans (Ch.of_below hb)); have X2 := Aside0.mk ((hb.block b (blk_lt X1.out)).trans X1.out); clear y0 y1 y2; have y0 : w2.cell? ⟨b, 0, none⟩ = some (.int .i64 4) := (blk_cell X2.out 0).trans rfl; have y1 : w2.cell? ⟨b, 1, none⟩ = some (.string t) := (blk_cell X2.out 1).trans rfl; have y2 : w2.cell? ⟨b, 2, none⟩ = some (.string v) := (blk_cell X2.out 2).trans rfl; clear hb)
        | (go_at_call 17; refine (last_calls K2.out).mono ?_; rintro e w3 ⟨rfl, hb⟩; have B3 := Aside0.mk hb; have K3 := Aside0.mk (K2.out.below hb); have C3 := Aside0.mk (C2.out.trans (Ch.of_below hb)); have X3 := Aside0.mk ((hb.block b (blk_lt X2.out)).trans X2.out); clear y0 y1 y2; have y0 : w3.cell? ⟨b, 0, none⟩ = some (.int .i64 4) := (blk_cell X3.out 0).trans rfl; have y1 : w3.cell? ⟨b, 1, none⟩ = some (.string t) := (blk_cell X3.out 1).trans rfl; have y2 : w3.cell? ⟨b, 2, none⟩ = some (.string v) := (blk_cell X3.out 2).trans rfl; clear hb)
        | (go_at_call 18; refine (value_calls ⟨4, t, v⟩ K3.out HN.out).mono ?_; rintro e w4 ⟨rfl, hb⟩; rw [HV.out]; have B4 := Aside0.mk hb; have K4 := Aside0.mk (K3.out.below hb); have C4 := Aside0.mk (C3.out.trans (Ch.of_below hb)); have X4 := Aside0.mk ((hb.block b (blk_lt X3.out)).trans X3.out); clear y0 y1 y2; have y0 : w4.cell? ⟨b, 0, none⟩ = some (.int .i64 4) := (blk_cell X4.out 0).trans rfl; have y1 : w4.cell? ⟨b, 1, none⟩ = some (.string t) := (blk_cell X4.out 1).trans rfl; have y2 : w4.cell? ⟨b, 2, none⟩ = some (.string v) := (blk_cell X4.out 2).trans rfl; clear hb)
        | (go_at_call 19; refine (stands_calls ⟨4, t, v⟩ K4.out).mono ?_; rintro e w5 ⟨rfl, hk, hc⟩; have K5 := Aside0.mk hk; have C5 := Aside0.mk (C4.out.trans (hc.mono (fun _ h => h) (fun _ h => ext_of h))); have X5 := Aside0.mk (hc.blk X4.out (by intro hx; rcases hx.2 with h | h | h | h <;> exact absurd h (by decide))); clear y0 y1 y2; have y0 : w5.cell? ⟨b, 0, none⟩ = some (.int .i64 4) := (blk_cell X5.out 0).trans rfl; clear hk hc))
      go_ret
      unfold StepPost
      rw [HG.out]
      exact ⟨ps, rfl, K5.out, C5.out⟩
theorem infoOpen : (Tryz.prog.info? 56).map (fun i => (i.zero, i.size, i.bytes)) = some (some (.pointer none), 1, 8) := by kernel_rfl
theorem CkAt.push {F : Nat → Prop} {W w3 : World} {g : Nat} {p : Nat × Nat} {ps : List (Nat × Nat)} {c : CK} {l : OE} {v3 : Value} (h : CkAt F W g ps c) (hn : OAt F W p l) (hd1 : p.1 ∉ ps.map Prod.fst) (hd2 : p.2 ∉ ps.map Prod.snd)
    (hr : Row (ext F W) w3 56 1 v3 (ps.length + 1) ((ps.reverse.map fun p => pt p.1) ++ [pt p.1])) (hF : ∀ k, W.heap.size ≤ k → F k) (hc : Ch (fun t => t = some 56) F W w3) :
    CkAt F (w3.setCell ⟨g, 0, none⟩ v3) g (p :: ps) { c with op := l :: c.op } ∧ Ch evcT F W (w3.setCell ⟨g, 0, none⟩ v3) := by
  obtain ⟨ov, h1, h2⟩ := h.core
  have h3 := hc.blk h1 (fun hx => absurd hx.2 (by decide))
  have hcs : Ch (fun t => t = some 54) F w3 (w3.setCell ⟨g, 0, none⟩ v3) := Ch.set (T := fun t => t = some 54) h3 h.fg rfl 0 _
  refine ⟨⟨h.fg, ⟨v3, blk_put (cs' := #[v3, .bool c.over]) h3 0 _ rfl, ?_⟩, .cons ((hn.ch hc (by decide) (by decide)).ch hcs (by decide) (by decide)) (h.each.imp (fun _ _ h => (h.ch hc (by decide) (by decide)).ch hcs (by decide) (by decide))), by rw [List.map_cons, List.nodup_cons]; exact ⟨hd1, h.dup1⟩, by rw [List.map_cons, List.nodup_cons]; exact ⟨hd2, h.dup2⟩⟩,
    (hc.mono (fun t ht => .inr (.inr (.inl ht))) (fun _ h => h)).trans (hcs.mono (fun t ht => .inl ht) (fun _ h => ext_of h))⟩
  rw [List.length_cons, List.reverse_cons, List.map_append]
  exact (hr.mono (fun k hk => by rcases hk with hk | hk; exact hk; exact hF k hk)).ch hcs (by decide)
theorem CkAt.pop {F : Nat → Prop} {w : World} {g : Nat} {p : Nat × Nat} {ps : List (Nat × Nat)} {c : CK} {l : OE} {r : List OE} {A : Option Addr} {n : Nat} (h : CkAt F w g (p :: ps) c) (hop : c.op = l :: r) (ho : w.cell? ⟨g, 0, none⟩ = some (.slice A (ps.length + 1) n)) :
    CkAt F (w.setCell ⟨g, 0, none⟩ (.slice A ps.length n)) g ps { c with op := r } ∧ Ch evcT F w (w.setCell ⟨g, 0, none⟩ (.slice A ps.length n)) := by
  obtain ⟨ov, h1, h2⟩ := h.core
  have hov : ov = .slice A (ps.length + 1) n := by
    have h3 := (blk_cell h1 0).symm.trans ho
    exact Option.some.inj h3
  subst hov
  have hcs : Ch (fun t => t = some 54) F w (w.setCell ⟨g, 0, none⟩ (.slice A ps.length n)) := Ch.set (T := fun t => t = some 54) h1 h.fg rfl 0 _
  have he := h.each
  rw [hop] at he
  cases he with
  | cons h3 h4 =>
    have d1 := h.dup1
    have d2 := h.dup2
    rw [List.map_cons, List.nodup_cons] at d1 d2
    refine ⟨⟨h.fg, ⟨_, blk_put (cs' := #[.slice A ps.length n, .bool c.over]) h1 0 _ rfl, ?_⟩, h4.imp (fun _ _ h => h.ch hcs (by decide) (by decide)), d1.2, d2.2⟩, hcs.mono (fun t ht => .inl ht) (fun _ h => h)⟩
    have hn : ps.length + 1 ≤ n := by obtain ⟨_, _, hx, hy, _⟩ := h2.slice; injection hx with _ _ h5; rw [List.length_cons] at hy; omega
    have h5 := h2.take (m := ps.length) (c' := n) (by simp) (by omega) (by omega)
    rw [List.reverse_cons, List.map_append, Nat.mul_one, List.take_append_of_le_length (by simp), List.take_of_length_le (by simp)] at h5
    exact h5.ch hcs (by decide)
theorem CkAt.lts {F : Nat → Prop} {w : World} {g : Nat} {ps : List (Nat × Nat)} {c : CK} (h : CkAt F w g ps c) : ∀ q ∈ ps, q.1 < w.heap.size ∧ q.2 < w.heap.size := by
  have he := h.each
  revert he
  generalize c.op = m
  intro he
  clear h
  induction he with
  | nil => intro q hq; cases hq
  | cons h1 _ ih =>
    intro q hq
    rcases List.mem_cons.1 hq with hq | hq
    · subst hq; exact h1.lt
    · exact ih q hq
set_option maxHeartbeats 8000000 in
set_option maxRecDepth 100000 in
theorem step_open5 {F : Nat → Prop} {w : World} {g : Nat} {ps : List (Nat × Nat)} {c : CK} (t v : ByteArray) (h : CkAt F w g ps c) (hF : ∀ k, w.heap.size ≤ k → F k) (ht : t.size ≤ 1000000) (hT : Tab.Tabs w) (h10 : N10 c) (hok : c.Ok) :
    Calls Tryz.prog 11 #[pt g, evA ⟨5, t, v⟩] w (StepPost F w g c ⟨5, t, v⟩) := by
  have H := Aside0.mk h
  have HFF := Aside0.mk hF
  have HRC := Aside0.mk (fun w1 (hb : Below w.heap.size w w1) => right_calls (w := w1) ⟨5, t, v⟩ (by simp) ht (hT.below hb))
  have HN := Aside0.mk h10
  have HOK := Aside0.mk hok
  cases hr : rightD ⟨5, t, v⟩ with
  | false =>
    have HR := Aside0.mk hr
    have HG := Aside0.mk (show stepC rightD c ⟨5, t, v⟩ = (c, 19) by unfold stepC; rw [hr]; rfl)
    clear hr h hF ht hT
    go_enter Tryz.func11, Tryz.ntmps11
    go_wp2_with (first
      | ((with_reducible refine gate_dst (N := 3) rfl ?_); refine box_event ?hg (N := 3) ?hd (cs := #[.int .i64 5, .string t, .string v]) (t := 44) ?hr ?_; (case hd => rfl); (case hg => rfl); (case hr => first | (go_simp; done) | (go_simp; rfl)); intro b hg w1 hbox hb; have X1 := Aside0.mk hbox; have B1 := Aside0.mk hb; have K1 := Aside0.mk (H.out.below hb); have C1 := Aside0.mk ((Ch.of_below hb : Ch evcT F w w1)); have y0 : w1.cell? ⟨b, 0, none⟩ = some (.int .i64 5) := (blk_cell hbox 0).trans rfl; have y1 : w1.cell? ⟨b, 1, none⟩ = some (.string t) := (blk_cell hbox 1).trans rfl; have y2 : w1.cell? ⟨b, 2, none⟩ = some (.string v) := (blk_cell hbox 2).trans rfl; clear hg hbox hb)
      | (go_at_call 16; refine (HRC.out _ B1.out).mono ?_; rintro e w2 ⟨rfl, hb⟩; rw [HR.out]; have B2 := Aside0.mk hb; have K2 := Aside0.mk (K1.out.below hb); have C2 := Aside0.mk (C1.out.trans (Ch.of_below hb)); have X2 := Aside0.mk ((hb.block b (blk_lt X1.out)).trans X1.out); clear y0 y1 y2; have y0 : w2.cell? ⟨b, 0, none⟩ = some (.int .i64 5) := (blk_cell X2.out 0).trans rfl; have y1 : w2.cell? ⟨b, 1, none⟩ = some (.string t) := (blk_cell X2.out 1).trans rfl; have y2 : w2.cell? ⟨b, 2, none⟩ = some (.string v) := (blk_cell X2.out 2).trans rfl; clear hb))
    go_ret
    unfold StepPost
    rw [HG.out]
    exact ⟨ps, rfl, K2.out, C2.out⟩
  | true =>
    have HR := Aside0.mk hr
    cases hv : valueC c ⟨5, t, v⟩ with
    | false =>
      have HV := Aside0.mk hv
      have HG := Aside0.mk (show stepC rightD c ⟨5, t, v⟩ = (c, 19) by unfold stepC; rw [if_pos hr]; unfold goesC; simp [hv])
      clear hr hv h hF ht hT h10 hok
      go_enter Tryz.func11, Tryz.ntmps11
      go_wp2_with (first
        | ((with_reducible refine gate_dst (N := 3) rfl ?_); refine box_event ?hg (N := 3) ?hd (cs := #[.int .i64 5, .string t, .string v]) (t := 44) ?hr ?_; (case hd => rfl); (case hg => rfl); (case hr => first | (go_simp; done) | (go_simp; rfl)); intro b hg w1 hbox hb; have X1 := Aside0.mk hbox; have B1 := Aside0.mk hb; have K1 := Aside0.mk (H.out.below hb); have C1 := Aside0.mk ((Ch.of_below hb : Ch evcT F w w1)); have y0 : w1.cell? ⟨b, 0, none⟩ = some (.int .i64 5) := (blk_cell hbox 0).trans rfl; have y1 : w1.cell? ⟨b, 1, none⟩ = some (.string t) := (blk_cell hbox 1).trans rfl; have y2 : w1.cell? ⟨b, 2, none⟩ = some (.string v) := (blk_cell hbox 2).trans rfl; clear hg hbox hb)
        | (go_at_call 16; refine (HRC.out _ B1.out).mono ?_; rintro e w2 ⟨rfl, hb⟩; rw [HR.out]; have B2 := Aside0.mk hb; have K2 := Aside0.mk (K1.out.below hb); have C2 := Aside0.mk (C1.out.trans (Ch.of_below hb)); have X2 := Aside0.mk ((hb.block b (blk_lt X1.out)).trans X1.out); clear y0 y1 y2; have y0 : w2.cell? ⟨b, 0, none⟩ = some (.int .i64 5) := (blk_cell X2.out 0).trans rfl; have y1 : w2.cell? ⟨b, 1, none⟩ = some (.string t) := (blk_cell X2.out 1).trans rfl; have y2 : w2.cell? ⟨b, 2, none⟩ = some (.string v) := (blk_cell X2.out 2).trans rfl; clear hb)
        | (go_at_call 17; refine (last_calls K2.out).mono ?_; rintro e w3 ⟨rfl, hb⟩; have B3 := Aside0.mk hb; have K3 := Aside0.mk (K2.out.below hb); have C3 := Aside0.mk (C2.out.trans (Ch.of_below hb)); have X3 := Aside0.mk ((hb.block b (blk_lt X2.out)).trans X2.out); clear y0 y1 y2; have y0 : w3.cell? ⟨b, 0, none⟩ = some (.int .i64 5) := (blk_cell X3.out 0).trans rfl; have y1 : w3.cell? ⟨b, 1, none⟩ = some (.string t) := (blk_cell X3.out 1).trans rfl; have y2 : w3.cell? ⟨b, 2, none⟩ = some (.string v) := (blk_cell X3.out 2).trans rfl; clear hb)
        | (go_at_call 18; refine (value_calls ⟨5, t, v⟩ K3.out HN.out).mono ?_; rintro e w4 ⟨rfl, hb⟩; rw [HV.out]; have B4 := Aside0.mk hb; have K4 := Aside0.mk (K3.out.below hb); have C4 := Aside0.mk (C3.out.trans (Ch.of_below hb)); have X4 := Aside0.mk ((hb.block b (blk_lt X3.out)).trans X3.out); clear y0 y1 y2; have y0 : w4.cell? ⟨b, 0, none⟩ = some (.int .i64 5) := (blk_cell X4.out 0).trans rfl; have y1 : w4.cell? ⟨b, 1, none⟩ = some (.string t) := (blk_cell X4.out 1).trans rfl; have y2 : w4.cell? ⟨b, 2, none⟩ = some (.string v) := (blk_cell X4.out 2).trans rfl; clear hb))
      go_ret
      unfold StepPost
      rw [HG.out]
      exact ⟨ps, rfl, K4.out, C4.out⟩
    | true =>
      have HV := Aside0.mk hv
      by_cases h6 : 6 ≤ c.op.length
      · have HG := Aside0.mk (show stepC rightD c ⟨5, t, v⟩ = (c, 5) by unfold stepC; rw [if_pos hr]; unfold goesC; simp [hv, h6])
        have t1 : decide (6 ≤ (c.op.length : Int)) = true := decide_eq_true (by omega)
        have t2 : decide (6 ≤ c.op.length) = true := decide_eq_true h6
        clear hr hv h hF ht hT h10 hok h6
        go_enter Tryz.func11, Tryz.ntmps11
        go_wp2_with (first
          | ((with_reducible refine gate_dst (N := 3) rfl ?_); refine box_event ?hg (N := 3) ?hd (cs := #[.int .i64 5, .string t, .string v]) (t := 44) ?hr ?_; (case hd => rfl); (case hg => rfl); (case hr => first | (go_simp; done) | (go_simp; rfl)); intro b hg w1 hbox hb; have X1 := Aside0.mk hbox; have B1 := Aside0.mk hb; have K1 := Aside0.mk (H.out.below hb); have C1 := Aside0.mk ((Ch.of_below hb : Ch evcT F w w1)); have y0 : w1.cell? ⟨b, 0, none⟩ = some (.int .i64 5) := (blk_cell hbox 0).trans rfl; have y1 : w1.cell? ⟨b, 1, none⟩ = some (.string t) := (blk_cell hbox 1).trans rfl; have y2 : w1.cell? ⟨b, 2, none⟩ = some (.string v) := (blk_cell hbox 2).trans rfl; clear hg hbox hb)
          | (go_at_call 16; refine (HRC.out _ B1.out).mono ?_; rintro e w2 ⟨rfl, hb⟩; rw [HR.out]; have B2 := Aside0.mk hb; have K2 := Aside0.mk (K1.out.below hb); have C2 := Aside0.mk (C1.out.trans (Ch.of_below hb)); have X2 := Aside0.mk ((hb.block b (blk_lt X1.out)).trans X1.out); clear y0 y1 y2; have y0 : w2.cell? ⟨b, 0, none⟩ = some (.int .i64 5) := (blk_cell X2.out 0).trans rfl; have y1 : w2.cell? ⟨b, 1, none⟩ = some (.string t) := (blk_cell X2.out 1).trans rfl; have y2 : w2.cell? ⟨b, 2, none⟩ = some (.string v) := (blk_cell X2.out 2).trans rfl; clear hb)
          | (go_at_call 17; refine (last_calls K2.out).mono ?_; rintro e w3 ⟨rfl, hb⟩; have B3 := Aside0.mk hb; have K3 := Aside0.mk (K2.out.below hb); have C3 := Aside0.mk (C2.out.trans (Ch.of_below hb)); have X3 := Aside0.mk ((hb.block b (blk_lt X2.out)).trans X2.out); clear y0 y1 y2; have y0 : w3.cell? ⟨b, 0, none⟩ = some (.int .i64 5) := (blk_cell X3.out 0).trans rfl; have y1 : w3.cell? ⟨b, 1, none⟩ = some (.string t) := (blk_cell X3.out 1).trans rfl; have y2 : w3.cell? ⟨b, 2, none⟩ = some (.string v) := (blk_cell X3.out 2).trans rfl; clear hb)
          | (go_at_call 18; refine (value_calls ⟨5, t, v⟩ K3.out HN.out).mono ?_; rintro e w4 ⟨rfl, hb⟩; rw [HV.out]; have B4 := Aside0.mk hb; have K4 := Aside0.mk (K3.out.below hb); have C4 := Aside0.mk (C3.out.trans (Ch.of_below hb)); have X4 := Aside0.mk ((hb.block b (blk_lt X3.out)).trans X3.out); clear y0 y1 y2; have y0 : w4.cell? ⟨b, 0, none⟩ = some (.int .i64 5) := (blk_cell X4.out 0).trans rfl; have y1 : w4.cell? ⟨b, 1, none⟩ = some (.string t) := (blk_cell X4.out 1).trans rfl; have y2 : w4.cell? ⟨b, 2, none⟩ = some (.string v) := (blk_cell X4.out 2).trans rfl; clear hb; obtain ⟨ov, hg4, hr4⟩ := K4.out.core; obtain ⟨A4, n4, hv4, _, _⟩ := hr4.slice; subst hv4; have g0 : w4.cell? ⟨g, 0, none⟩ = some (.slice A4 c.op.length n4) := (by rw [← K4.out.len]; exact (blk_cell hg4 0).trans rfl); clear hg4 hr4))
        go_ret
        unfold StepPost
        rw [HG.out]
        exact ⟨ps, rfl, K4.out, C4.out⟩
      · have HG := Aside0.mk (show stepC rightD c ⟨5, t, v⟩ = ({ standsC c ⟨5, t, v⟩ with op := OE.new 5 :: (standsC c ⟨5, t, v⟩).op }, 0) by unfold stepC; rw [if_pos hr]; unfold goesC; simp [hv, h6])
        have t1 : decide (6 ≤ (c.op.length : Int)) = false := decide_eq_false (by omega)
        have t2 : decide (6 ≤ c.op.length) = false := decide_eq_false h6
        clear hr hv h hF ht hT h10 hok h6
        go_enter Tryz.func11, Tryz.ntmps11
        go_wp2_with (first
          | ((with_reducible refine gate_dst (N := 3) rfl ?_); refine box_event ?hg (N := 3) ?hd (cs := #[.int .i64 5, .string t, .string v]) (t := 44) ?hr ?_; (case hd => rfl); (case hg => rfl); (case hr => first | (go_simp; done) | (go_simp; rfl)); intro b hg w1 hbox hb; have X1 := Aside0.mk hbox; have B1 := Aside0.mk hb; have K1 := Aside0.mk (H.out.below hb); have C1 := Aside0.mk ((Ch.of_below hb : Ch evcT F w w1)); have y0 : w1.cell? ⟨b, 0, none⟩ = some (.int .i64 5) := (blk_cell hbox 0).trans rfl; have y1 : w1.cell? ⟨b, 1, none⟩ = some (.string t) := (blk_cell hbox 1).trans rfl; have y2 : w1.cell? ⟨b, 2, none⟩ = some (.string v) := (blk_cell hbox 2).trans rfl; clear hg hbox hb)
          | (go_at_call 16; refine (HRC.out _ B1.out).mono ?_; rintro e w2 ⟨rfl, hb⟩; rw [HR.out]; have B2 := Aside0.mk hb; have K2 := Aside0.mk (K1.out.below hb); have C2 := Aside0.mk (C1.out.trans (Ch.of_below hb)); have X2 := Aside0.mk ((hb.block b (blk_lt X1.out)).trans X1.out); clear y0 y1 y2; have y0 : w2.cell? ⟨b, 0, none⟩ = some (.int .i64 5) := (blk_cell X2.out 0).trans rfl; have y1 : w2.cell? ⟨b, 1, none⟩ = some (.string t) := (blk_cell X2.out 1).trans rfl; have y2 : w2.cell? ⟨b, 2, none⟩ = some (.string v) := (blk_cell X2.out 2).trans rfl; clear hb)
          | (go_at_call 17; refine (last_calls K2.out).mono ?_; rintro e w3 ⟨rfl, hb⟩; have B3 := Aside0.mk hb; have K3 := Aside0.mk (K2.out.below hb); have C3 := Aside0.mk (C2.out.trans (Ch.of_below hb)); have X3 := Aside0.mk ((hb.block b (blk_lt X2.out)).trans X2.out); clear y0 y1 y2; have y0 : w3.cell? ⟨b, 0, none⟩ = some (.int .i64 5) := (blk_cell X3.out 0).trans rfl; have y1 : w3.cell? ⟨b, 1, none⟩ = some (.string t) := (blk_cell X3.out 1).trans rfl; have y2 : w3.cell? ⟨b, 2, none⟩ = some (.string v) := (blk_cell X3.out 2).trans rfl; clear hb)
          | (go_at_call 18; refine (value_calls ⟨5, t, v⟩ K3.out HN.out).mono ?_; rintro e w4 ⟨rfl, hb⟩; rw [HV.out]; have B4 := Aside0.mk hb; have K4 := Aside0.mk (K3.out.below hb); have C4 := Aside0.mk (C3.out.trans (Ch.of_below hb)); have X4 := Aside0.mk ((hb.block b (blk_lt X3.out)).trans X3.out); clear y0 y1 y2; have y0 : w4.cell? ⟨b, 0, none⟩ = some (.int .i64 5) := (blk_cell X4.out 0).trans rfl; have y1 : w4.cell? ⟨b, 1, none⟩ = some (.string t) := (blk_cell X4.out 1).trans rfl; have y2 : w4.cell? ⟨b, 2, none⟩ = some (.string v) := (blk_cell X4.out 2).trans rfl; clear hb; obtain ⟨ov, hg4, hr4⟩ := K4.out.core; obtain ⟨A4, n4, hv4, _, _⟩ := hr4.slice; subst hv4; have g0 : w4.cell? ⟨g, 0, none⟩ = some (.slice A4 c.op.length n4) := (by rw [← K4.out.len]; exact (blk_cell hg4 0).trans rfl); clear hg4 hr4)
          | (go_at_call 19; refine (stands_calls ⟨5, t, v⟩ K4.out).mono ?_; rintro e w5 ⟨rfl, hk, hc⟩; have K5 := Aside0.mk hk; have C5 := Aside0.mk (C4.out.trans (hc.mono (fun _ h => h) (fun _ h => ext_of h))); have X5 := Aside0.mk (hc.blk X4.out (by intro hx; rcases hx.2 with h | h | h | h <;> exact absurd h (by decide))); clear y0 y1 y2 g0; have y0 : w5.cell? ⟨b, 0, none⟩ = some (.int .i64 5) := (blk_cell X5.out 0).trans rfl; clear hk hc))
        obtain ⟨ov, hg5, hr5⟩ := K5.out.core
        have HG5 := Aside0.mk hg5
        have HR5 := Aside0.mk hr5
        clear hg5 hr5 y0
        refine start_ (n := 15) (S := (fun w' => w'.heap[b]? = some (.cells #[.int .i64 5, .string t, .string v] 44 (0, 0)) ∧ w'.heap[g]? = some (.cells #[ov, .bool (standsC c ⟨5, t, v⟩).over] 54 (0, 0)))) (ds := [11, 12, 13, 14]) #[false, false, false, false, false, false, false, false, false, false, false, false, false, false, false] (by kernel_rfl) rfl rfl ⟨X5.out, HG5.out⟩ (fun hHeld => ?_)
        have DB := Aside0.mk (below_drew (Below.refl w5.heap.size w5))
        generalize w5.drew = w6 at DB hHeld ⊢
        -- T80 := move (tmp 0) :41
        refine pure_ (i := 0) (N := some 80) (v := ?_) (a' := ?_) #[true, false, false, false, false, false, false, false, false, false, false, false, false, false, false] rfl rfl (by kernel_rfl) (fun _ _ _ h => h) (Or.inl ⟨by rfl, ?_⟩) ?_ ?_
        rotate_left
        · intro w'
          go_simp
          with_reducible rfl
        rotate_left
        · simp only [Act.put, List.setIfInBounds_toArray, List.set_cons_zero, List.set_cons_succ]
          rfl
        -- T81 := move (tmp 0) :41
        refine pure_ (i := 1) (N := some 81) (v := ?_) (a' := ?_) #[true, true, false, false, false, false, false, false, false, false, false, false, false, false, false] rfl rfl (by kernel_rfl) (fun _ _ _ h => h) (Or.inl ⟨by rfl, ?_⟩) ?_ ?_
        rotate_left
        · intro w'
          go_simp
          with_reducible rfl
        rotate_left
        · simp only [Act.put, List.setIfInBounds_toArray, List.set_cons_zero, List.set_cons_succ]
          rfl
        -- T82 := nilCheck (tmp 81) :0
        refine pure_ (i := 2) (N := some 82) (v := ?_) (a' := ?_) #[true, true, true, false, false, false, false, false, false, false, false, false, false, false, false] rfl rfl (by kernel_rfl) (fun _ _ _ h => h) (Or.inl ⟨by rfl, ?_⟩) ?_ ?_
        rotate_left
        · intro w'
          go_simp
          with_reducible rfl
        rotate_left
        · simp only [Act.put, List.setIfInBounds_toArray, List.set_cons_zero, List.set_cons_succ]
          rfl
        -- T83 := fieldAddr 54 (tmp 82) 0 :0
        refine pure_ (i := 3) (N := some 83) (v := ?_) (a' := ?_) #[true, true, true, true, false, false, false, false, false, false, false, false, false, false, false] rfl rfl (by kernel_rfl) (fun _ _ _ h => h) (Or.inl ⟨by rfl, ?_⟩) ?_ ?_
        rotate_left
        · intro w'
          go_simp
          with_reducible rfl
        rotate_left
        · simp only [Act.put, List.setIfInBounds_toArray, List.set_cons_zero, List.set_cons_succ]
          rfl
        -- T84 := load 52 (tmp 83) :52
        refine take_ (i := 4) (N := some 84) (v := ?_) (a' := ?_) #[true, true, true, true, true, false, false, false, false, false, false, false, false, false, false] rfl rfl (by kernel_rfl) (fun _ _ _ h => h) (Or.inl ⟨by rfl, ?_⟩) hHeld ?_ ?_
        rotate_left
        · intro w' hw'
          (have y0 := (blk_cell hw'.1 0).trans rfl; have g0 : w'.cell? ⟨g, 0, none⟩ = some ov := (blk_cell hw'.2 0).trans rfl)
          go_simp
          with_reducible rfl
        rotate_left
        · simp only [Act.put, List.setIfInBounds_toArray, List.set_cons_zero, List.set_cons_succ]
          rfl
        -- T85 := fieldAddr 44 (tmp 3) 0 :0
        refine pure_ (i := 5) (N := some 85) (v := ?_) (a' := ?_) #[true, true, true, true, true, true, false, false, false, false, false, false, false, false, false] rfl rfl (by kernel_rfl) (fun _ _ _ h => h) (Or.inl ⟨by rfl, ?_⟩) ?_ ?_
        rotate_left
        · intro w'
          go_simp
          with_reducible rfl
        rotate_left
        · simp only [Act.put, List.setIfInBounds_toArray, List.set_cons_zero, List.set_cons_succ]
          rfl
        -- T86 := load 3 (tmp 85) :3
        refine take_ (i := 6) (N := some 86) (v := ?_) (a' := ?_) #[true, true, true, true, true, true, true, false, false, false, false, false, false, false, false] rfl rfl (by kernel_rfl) (fun _ _ _ h => h) (Or.inl ⟨by rfl, ?_⟩) hHeld ?_ ?_
        rotate_left
        · intro w' hw'
          (have y0 := (blk_cell hw'.1 0).trans rfl; have g0 : w'.cell? ⟨g, 0, none⟩ = some ov := (blk_cell hw'.2 0).trans rfl)
          go_simp
          with_reducible rfl
        rotate_left
        · simp only [Act.put, List.setIfInBounds_toArray, List.set_cons_zero, List.set_cons_succ]
          rfl
        -- T87 := makeMap 59 none :59,
        refine one_ (i := 7) (N := some 87) #[true, true, true, true, true, true, true, true, false, false, false, false, false, false, false] rfl rfl (by kernel_rfl) (by decide) (fun K hK => ?_)
        refine value_ (v := .map (some w6.heap.size)) (w1 := w6.alloc (.map #[] 0)) rfl rfl (by unfold execOp; rfl) ?_
        refine hK _ _ ⟨(Below.heap_alloc _ _ b (blk_lt hHeld.1)).trans hHeld.1, (Below.heap_alloc _ _ g (blk_lt hHeld.2)).trans hHeld.2⟩ (fun hHeld3 => ?_)
        clear hK
        refine norm_ (a' := ?_) ?_ ?_
        rotate_left
        · simp only [Act.put, List.setIfInBounds_toArray, List.set_cons_zero, List.set_cons_succ]
          rfl
        -- T88 := build 61 #[(0, tmp 86), (4, tmp 87)] :61
        refine pure_ (i := 8) (N := some 88) (v := ?_) (a' := ?_) #[true, true, true, true, true, true, true, true, true, false, false, false, false, false, false] rfl rfl (by kernel_rfl) (fun _ _ _ h => h) (Or.inl ⟨by rfl, ?_⟩) ?_ ?_
        rotate_left
        · intro w'
          go_simp
          with_reducible rfl
        rotate_left
        · simp only [Act.put, List.setIfInBounds_toArray, List.set_cons_zero, List.set_cons_succ]
          rfl
        -- T89 := box 61 (tmp 88) :56
        refine one_ (i := 9) (N := some 89) #[true, true, true, true, true, true, true, true, true, true, false, false, false, false, false] rfl rfl (by kernel_rfl) (by decide) (fun K hK => ?_)
        refine value_ (v := pt (w6.alloc (.map #[] 0)).heap.size) (w1 := (w6.alloc (.map #[] 0)).alloc (.cells #[.int .i64 5, .bool false, .bool false, .bool false, .map (some w6.heap.size)] 61)) rfl rfl (by go_simp) ?_
        refine hK _ _ ⟨(Below.heap_alloc _ _ b (blk_lt hHeld3.1)).trans hHeld3.1, (Below.heap_alloc _ _ g (blk_lt hHeld3.2)).trans hHeld3.2⟩ (fun hHeld4 => ?_)
        clear hK
        refine norm_ (a' := ?_) ?_ ?_
        rotate_left
        · simp only [Act.put, List.setIfInBounds_toArray, List.set_cons_zero, List.set_cons_succ]
          rfl
        -- T90 := buildSlice 52 1 #[(0, tmp 89)] :52
        refine one_ (i := 10) (N := some 90) #[true, true, true, true, true, true, true, true, true, true, true, false, false, false, false] rfl rfl (by kernel_rfl) (by decide) (fun K hK => ?_)
        refine value_ (v := .slice (some ⟨((w6.alloc (.map #[] 0)).alloc (.cells #[.int .i64 5, .bool false, .bool false, .bool false, .map (some w6.heap.size)] 61)).heap.size, 0, none⟩) 1 1) (w1 := ((w6.alloc (.map #[] 0)).alloc (.cells #[.int .i64 5, .bool false, .bool false, .bool false, .map (some w6.heap.size)] 61)).alloc (.cells #[pt (w6.alloc (.map #[] 0)).heap.size] 56)) rfl rfl (by go_simp) ?_
        refine hK _ _ ⟨(Below.heap_alloc _ _ b (blk_lt hHeld4.1)).trans hHeld4.1, (Below.heap_alloc _ _ g (blk_lt hHeld4.2)).trans hHeld4.2⟩ (fun hHeld5 => ?_)
        clear hK hHeld hHeld3 hHeld4 hHeld5
        refine norm_ (a' := ?_) ?_ ?_
        rotate_left
        · simp only [Act.put, List.setIfInBounds_toArray, List.set_cons_zero, List.set_cons_succ]
          rfl
        refine tailI_ [11, 12, 13, 14] (by kernel_rfl) (by decide) rfl ?_
        simp only [List.filterMap_cons, List.filterMap_nil]
        have hb1 : Below w6.heap.size w6 (w6.alloc (.map #[] 0)) := below_alloc (Below.refl _ _) _
        have hb2 : Below (w6.alloc (.map #[] 0)).heap.size (w6.alloc (.map #[] 0)) ((w6.alloc (.map #[] 0)).alloc (.cells #[.int .i64 5, .bool false, .bool false, .bool false, .map (some w6.heap.size)] 61)) := below_alloc (Below.refl _ _) _
        have hK6 := ((K5.out.below DB.out).below hb1).below hb2
        have hR6 := ((HR5.out.below DB.out).below hb1).below hb2
        have hC6 := (((C5.out.trans (Ch.of_below DB.out)).trans (Ch.of_below hb1)).trans (Ch.of_below hb2))
        have hm6 : MKind.Is (mkB tB) (w6.alloc (.map #[] 0)) w6.heap.size 0 0 (fun _ => none) := MKind.Is.made (mkB tB) (MapKept.heap_alloc w6 _).1
        have hN := Aside0.mk (show OAt F ((w6.alloc (.map #[] 0)).alloc (.cells #[.int .i64 5, .bool false, .bool false, .bool false, .map (some w6.heap.size)] 61)) ((w6.alloc (.map #[] 0)).heap.size, w6.heap.size) (OE.new 5) from
          ⟨HFF.out _ (Nat.le_trans C5.out.size (Nat.le_trans DB.out.size hb1.size)), HFF.out _ (Nat.le_trans C5.out.size DB.out.size), (MapKept.heap_alloc _ _).1, (is_ch hm6 (Ch.of_below hb2 : Ch (fun _ => False) (fun _ => False) _ _) (fun h => h.1)).ext (fun y => by unfold hadF; rw [if_neg (by intro hx; cases hx)])⟩)
        have hD1 := Aside0.mk (show (w6.alloc (.map #[] 0)).heap.size ∉ ps.map Prod.fst by
          intro hx
          obtain ⟨q, hq, hqe⟩ := List.mem_map.1 hx
          have := K5.out.lts q hq
          have := DB.out.size
          have := hb1.size
          omega)
        have hD2 := Aside0.mk (show w6.heap.size ∉ ps.map Prod.snd by
          intro hx
          obtain ⟨q, hq, hqe⟩ := List.mem_map.1 hx
          have := K5.out.lts q hq
          have := DB.out.size
          omega)
        have K6 := Aside0.mk hK6
        have R6 := Aside0.mk hR6
        have C6 := Aside0.mk hC6
        clear hb1 hb2 hK6 hR6 hC6 hm6
        generalize (w6.alloc (.map #[] 0)).alloc (.cells #[.int .i64 5, .bool false, .bool false, .bool false, .map (some w6.heap.size)] 61) = w7 at K6 R6 C6 hN ⊢
        generalize (w6.alloc (.map #[] 0)).heap.size = b0 at hD1 hN ⊢
        generalize w6.heap.size = m0 at hD2 hN ⊢
        have HLEN := Aside0.mk (show ps.length ≤ 6 by rw [K6.out.len]; exact (stands_ok HOK.out _).1.op)
        refine row_append rfl (.tmp 84) (.tmp 90) 52 56 (.pointer none) 1 8 rfl Tryz.underlying52 infoOpen rfl (by decide) ov ps.length (ps.reverse.map fun p => pt p.1) [pt b0] rfl rfl rfl (by intro u hu; rw [List.mem_singleton] at hu; subst hu; rfl) R6.out (by have := HLEN.out; omega) (by have := HLEN.out; unfold maxLen; omega) ?_
        intro v8 w8 hr8 hc8
        have hp := K6.out.push hN.out hD1.out hD2.out hr8 (fun k hk => HFF.out k (Nat.le_trans C6.out.size hk)) hc8
        have HP := Aside0.mk hp
        obtain ⟨ov6, hg6, _⟩ := K6.out.core
        have hg8 := hc8.blk hg6 (fun hx => absurd hx.2 (by decide))
        have g0 : w8.cell? ⟨g, 0, none⟩ = some ov6 := (blk_cell hg8 0).trans rfl
        have f0 := blk_frozen hg8 0
        obtain ⟨A8, n8, hv8, _, _⟩ := hr8.slice
        clear hp hg6 hg8 hr8 hc8
        subst hv8
        go_wp2
        go_ret
        unfold StepPost
        rw [HG.out]
        exact ⟨_, rfl, HP.out.1, C6.out.trans (HP.out.2.mono (fun _ h => h) (fun _ h => ext_of h))⟩
set_option maxHeartbeats 8000000 in
set_option maxRecDepth 100000 in
theorem step_open7 {F : Nat → Prop} {w : World} {g : Nat} {ps : List (Nat × Nat)} {c : CK} (t v : ByteArray) (h : CkAt F w g ps c) (hF : ∀ k, w.heap.size ≤ k → F k) (ht : t.size ≤ 1000000) (hT : Tab.Tabs w) (h10 : N10 c) (hok : c.Ok) :
    Calls Tryz.prog 11 #[pt g, evA ⟨7, t, v⟩] w (StepPost F w g c ⟨7, t, v⟩) := by
  have H := Aside0.mk h
  have HFF := Aside0.mk hF
  have HRC := Aside0.mk (fun w1 (hb : Below w.heap.size w w1) => right_calls (w := w1) ⟨7, t, v⟩ (by simp) ht (hT.below hb))
  have HN := Aside0.mk h10
  have HOK := Aside0.mk hok
  cases hr : rightD ⟨7, t, v⟩ with
  | false =>
    have HR := Aside0.mk hr
    have HG := Aside0.mk (show stepC rightD c ⟨7, t, v⟩ = (c, 19) by unfold stepC; rw [hr]; rfl)
    clear hr h hF ht hT
    go_enter Tryz.func11, Tryz.ntmps11
    go_wp2_with (first
      | ((with_reducible refine gate_dst (N := 3) rfl ?_); refine box_event ?hg (N := 3) ?hd (cs := #[.int .i64 7, .string t, .string v]) (t := 44) ?hr ?_; (case hd => rfl); (case hg => rfl); (case hr => first | (go_simp; done) | (go_simp; rfl)); intro b hg w1 hbox hb; have X1 := Aside0.mk hbox; have B1 := Aside0.mk hb; have K1 := Aside0.mk (H.out.below hb); have C1 := Aside0.mk ((Ch.of_below hb : Ch evcT F w w1)); have y0 : w1.cell? ⟨b, 0, none⟩ = some (.int .i64 7) := (blk_cell hbox 0).trans rfl; have y1 : w1.cell? ⟨b, 1, none⟩ = some (.string t) := (blk_cell hbox 1).trans rfl; have y2 : w1.cell? ⟨b, 2, none⟩ = some (.string v) := (blk_cell hbox 2).trans rfl; clear hg hbox hb)
      | (go_at_call 16; refine (HRC.out _ B1.out).mono ?_; rintro e w2 ⟨rfl, hb⟩; rw [HR.out]; have B2 := Aside0.mk hb; have K2 := Aside0.mk (K1.out.below hb); have C2 := Aside0.mk (C1.out.trans (Ch.of_below hb)); have X2 := Aside0.mk ((hb.block b (blk_lt X1.out)).trans X1.out); clear y0 y1 y2; have y0 : w2.cell? ⟨b, 0, none⟩ = some (.int .i64 7) := (blk_cell X2.out 0).trans rfl; have y1 : w2.cell? ⟨b, 1, none⟩ = some (.string t) := (blk_cell X2.out 1).trans rfl; have y2 : w2.cell? ⟨b, 2, none⟩ = some (.string v) := (blk_cell X2.out 2).trans rfl; clear hb))
    go_ret
    unfold StepPost
    rw [HG.out]
    exact ⟨ps, rfl, K2.out, C2.out⟩
  | true =>
    have HR := Aside0.mk hr
    cases hv : valueC c ⟨7, t, v⟩ with
    | false =>
      have HV := Aside0.mk hv
      have HG := Aside0.mk (show stepC rightD c ⟨7, t, v⟩ = (c, 19) by unfold stepC; rw [if_pos hr]; unfold goesC; simp [hv])
      clear hr hv h hF ht hT h10 hok
      go_enter Tryz.func11, Tryz.ntmps11
      go_wp2_with (first
        | ((with_reducible refine gate_dst (N := 3) rfl ?_); refine box_event ?hg (N := 3) ?hd (cs := #[.int .i64 7, .string t, .string v]) (t := 44) ?hr ?_; (case hd => rfl); (case hg => rfl); (case hr => first | (go_simp; done) | (go_simp; rfl)); intro b hg w1 hbox hb; have X1 := Aside0.mk hbox; have B1 := Aside0.mk hb; have K1 := Aside0.mk (H.out.below hb); have C1 := Aside0.mk ((Ch.of_below hb : Ch evcT F w w1)); have y0 : w1.cell? ⟨b, 0, none⟩ = some (.int .i64 7) := (blk_cell hbox 0).trans rfl; have y1 : w1.cell? ⟨b, 1, none⟩ = some (.string t) := (blk_cell hbox 1).trans rfl; have y2 : w1.cell? ⟨b, 2, none⟩ = some (.string v) := (blk_cell hbox 2).trans rfl; clear hg hbox hb)
        | (go_at_call 16; refine (HRC.out _ B1.out).mono ?_; rintro e w2 ⟨rfl, hb⟩; rw [HR.out]; have B2 := Aside0.mk hb; have K2 := Aside0.mk (K1.out.below hb); have C2 := Aside0.mk (C1.out.trans (Ch.of_below hb)); have X2 := Aside0.mk ((hb.block b (blk_lt X1.out)).trans X1.out); clear y0 y1 y2; have y0 : w2.cell? ⟨b, 0, none⟩ = some (.int .i64 7) := (blk_cell X2.out 0).trans rfl; have y1 : w2.cell? ⟨b, 1, none⟩ = some (.string t) := (blk_cell X2.out 1).trans rfl; have y2 : w2.cell? ⟨b, 2, none⟩ = some (.string v) := (blk_cell X2.out 2).trans rfl; clear hb)
        | (go_at_call 17; refine (last_calls K2.out).mono ?_; rintro e w3 ⟨rfl, hb⟩; have B3 := Aside0.mk hb; have K3 := Aside0.mk (K2.out.below hb); have C3 := Aside0.mk (C2.out.trans (Ch.of_below hb)); have X3 := Aside0.mk ((hb.block b (blk_lt X2.out)).trans X2.out); clear y0 y1 y2; have y0 : w3.cell? ⟨b, 0, none⟩ = some (.int .i64 7) := (blk_cell X3.out 0).trans rfl; have y1 : w3.cell? ⟨b, 1, none⟩ = some (.string t) := (blk_cell X3.out 1).trans rfl; have y2 : w3.cell? ⟨b, 2, none⟩ = some (.string v) := (blk_cell X3.out 2).trans rfl; clear hb)
        | (go_at_call 18; refine (value_calls ⟨7, t, v⟩ K3.out HN.out).mono ?_; rintro e w4 ⟨rfl, hb⟩; rw [HV.out]; have B4 := Aside0.mk hb; have K4 := Aside0.mk (K3.out.below hb); have C4 := Aside0.mk (C3.out.trans (Ch.of_below hb)); have X4 := Aside0.mk ((hb.block b (blk_lt X3.out)).trans X3.out); clear y0 y1 y2; have y0 : w4.cell? ⟨b, 0, none⟩ = some (.int .i64 7) := (blk_cell X4.out 0).trans rfl; have y1 : w4.cell? ⟨b, 1, none⟩ = some (.string t) := (blk_cell X4.out 1).trans rfl; have y2 : w4.cell? ⟨b, 2, none⟩ = some (.string v) := (blk_cell X4.out 2).trans rfl; clear hb))
      go_ret
      unfold StepPost
      rw [HG.out]
      exact ⟨ps, rfl, K4.out, C4.out⟩
    | true =>
      have HV := Aside0.mk hv
      by_cases h6 : 6 ≤ c.op.length
      · have HG := Aside0.mk (show stepC rightD c ⟨7, t, v⟩ = (c, 5) by unfold stepC; rw [if_pos hr]; unfold goesC; simp [hv, h6])
        have t1 : decide (6 ≤ (c.op.length : Int)) = true := decide_eq_true (by omega)
        have t2 : decide (6 ≤ c.op.length) = true := decide_eq_true h6
        clear hr hv h hF ht hT h10 hok h6
        go_enter Tryz.func11, Tryz.ntmps11
        go_wp2_with (first
          | ((with_reducible refine gate_dst (N := 3) rfl ?_); refine box_event ?hg (N := 3) ?hd (cs := #[.int .i64 7, .string t, .string v]) (t := 44) ?hr ?_; (case hd => rfl); (case hg => rfl); (case hr => first | (go_simp; done) | (go_simp; rfl)); intro b hg w1 hbox hb; have X1 := Aside0.mk hbox; have B1 := Aside0.mk hb; have K1 := Aside0.mk (H.out.below hb); have C1 := Aside0.mk ((Ch.of_below hb : Ch evcT F w w1)); have y0 : w1.cell? ⟨b, 0, none⟩ = some (.int .i64 7) := (blk_cell hbox 0).trans rfl; have y1 : w1.cell? ⟨b, 1, none⟩ = some (.string t) := (blk_cell hbox 1).trans rfl; have y2 : w1.cell? ⟨b, 2, none⟩ = some (.string v) := (blk_cell hbox 2).trans rfl; clear hg hbox hb)
          | (go_at_call 16; refine (HRC.out _ B1.out).mono ?_; rintro e w2 ⟨rfl, hb⟩; rw [HR.out]; have B2 := Aside0.mk hb; have K2 := Aside0.mk (K1.out.below hb); have C2 := Aside0.mk (C1.out.trans (Ch.of_below hb)); have X2 := Aside0.mk ((hb.block b (blk_lt X1.out)).trans X1.out); clear y0 y1 y2; have y0 : w2.cell? ⟨b, 0, none⟩ = some (.int .i64 7) := (blk_cell X2.out 0).trans rfl; have y1 : w2.cell? ⟨b, 1, none⟩ = some (.string t) := (blk_cell X2.out 1).trans rfl; have y2 : w2.cell? ⟨b, 2, none⟩ = some (.string v) := (blk_cell X2.out 2).trans rfl; clear hb)
          | (go_at_call 17; refine (last_calls K2.out).mono ?_; rintro e w3 ⟨rfl, hb⟩; have B3 := Aside0.mk hb; have K3 := Aside0.mk (K2.out.below hb); have C3 := Aside0.mk (C2.out.trans (Ch.of_below hb)); have X3 := Aside0.mk ((hb.block b (blk_lt X2.out)).trans X2.out); clear y0 y1 y2; have y0 : w3.cell? ⟨b, 0, none⟩ = some (.int .i64 7) := (blk_cell X3.out 0).trans rfl; have y1 : w3.cell? ⟨b, 1, none⟩ = some (.string t) := (blk_cell X3.out 1).trans rfl; have y2 : w3.cell? ⟨b, 2, none⟩ = some (.string v) := (blk_cell X3.out 2).trans rfl; clear hb)
          | (go_at_call 18; refine (value_calls ⟨7, t, v⟩ K3.out HN.out).mono ?_; rintro e w4 ⟨rfl, hb⟩; rw [HV.out]; have B4 := Aside0.mk hb; have K4 := Aside0.mk (K3.out.below hb); have C4 := Aside0.mk (C3.out.trans (Ch.of_below hb)); have X4 := Aside0.mk ((hb.block b (blk_lt X3.out)).trans X3.out); clear y0 y1 y2; have y0 : w4.cell? ⟨b, 0, none⟩ = some (.int .i64 7) := (blk_cell X4.out 0).trans rfl; have y1 : w4.cell? ⟨b, 1, none⟩ = some (.string t) := (blk_cell X4.out 1).trans rfl; have y2 : w4.cell? ⟨b, 2, none⟩ = some (.string v) := (blk_cell X4.out 2).trans rfl; clear hb; obtain ⟨ov, hg4, hr4⟩ := K4.out.core; obtain ⟨A4, n4, hv4, _, _⟩ := hr4.slice; subst hv4; have g0 : w4.cell? ⟨g, 0, none⟩ = some (.slice A4 c.op.length n4) := (by rw [← K4.out.len]; exact (blk_cell hg4 0).trans rfl); clear hg4 hr4))
        go_ret
        unfold StepPost
        rw [HG.out]
        exact ⟨ps, rfl, K4.out, C4.out⟩
      · have HG := Aside0.mk (show stepC rightD c ⟨7, t, v⟩ = ({ standsC c ⟨7, t, v⟩ with op := OE.new 7 :: (standsC c ⟨7, t, v⟩).op }, 0) by unfold stepC; rw [if_pos hr]; unfold goesC; simp [hv, h6])
        have t1 : decide (6 ≤ (c.op.length : Int)) = false := decide_eq_false (by omega)
        have t2 : decide (6 ≤ c.op.length) = false := decide_eq_false h6
        clear hr hv h hF ht hT h10 hok h6
        go_enter Tryz.func11, Tryz.ntmps11
        go_wp2_with (first
          | ((with_reducible refine gate_dst (N := 3) rfl ?_); refine box_event ?hg (N := 3) ?hd (cs := #[.int .i64 7, .string t, .string v]) (t := 44) ?hr ?_; (case hd => rfl); (case hg => rfl); (case hr => first | (go_simp; done) | (go_simp; rfl)); intro b hg w1 hbox hb; have X1 := Aside0.mk hbox; have B1 := Aside0.mk hb; have K1 := Aside0.mk (H.out.below hb); have C1 := Aside0.mk ((Ch.of_below hb : Ch evcT F w w1)); have y0 : w1.cell? ⟨b, 0, none⟩ = some (.int .i64 7) := (blk_cell hbox 0).trans rfl; have y1 : w1.cell? ⟨b, 1, none⟩ = some (.string t) := (blk_cell hbox 1).trans rfl; have y2 : w1.cell? ⟨b, 2, none⟩ = some (.string v) := (blk_cell hbox 2).trans rfl; clear hg hbox hb)
          | (go_at_call 16; refine (HRC.out _ B1.out).mono ?_; rintro e w2 ⟨rfl, hb⟩; rw [HR.out]; have B2 := Aside0.mk hb; have K2 := Aside0.mk (K1.out.below hb); have C2 := Aside0.mk (C1.out.trans (Ch.of_below hb)); have X2 := Aside0.mk ((hb.block b (blk_lt X1.out)).trans X1.out); clear y0 y1 y2; have y0 : w2.cell? ⟨b, 0, none⟩ = some (.int .i64 7) := (blk_cell X2.out 0).trans rfl; have y1 : w2.cell? ⟨b, 1, none⟩ = some (.string t) := (blk_cell X2.out 1).trans rfl; have y2 : w2.cell? ⟨b, 2, none⟩ = some (.string v) := (blk_cell X2.out 2).trans rfl; clear hb)
          | (go_at_call 17; refine (last_calls K2.out).mono ?_; rintro e w3 ⟨rfl, hb⟩; have B3 := Aside0.mk hb; have K3 := Aside0.mk (K2.out.below hb); have C3 := Aside0.mk (C2.out.trans (Ch.of_below hb)); have X3 := Aside0.mk ((hb.block b (blk_lt X2.out)).trans X2.out); clear y0 y1 y2; have y0 : w3.cell? ⟨b, 0, none⟩ = some (.int .i64 7) := (blk_cell X3.out 0).trans rfl; have y1 : w3.cell? ⟨b, 1, none⟩ = some (.string t) := (blk_cell X3.out 1).trans rfl; have y2 : w3.cell? ⟨b, 2, none⟩ = some (.string v) := (blk_cell X3.out 2).trans rfl; clear hb)
          | (go_at_call 18; refine (value_calls ⟨7, t, v⟩ K3.out HN.out).mono ?_; rintro e w4 ⟨rfl, hb⟩; rw [HV.out]; have B4 := Aside0.mk hb; have K4 := Aside0.mk (K3.out.below hb); have C4 := Aside0.mk (C3.out.trans (Ch.of_below hb)); have X4 := Aside0.mk ((hb.block b (blk_lt X3.out)).trans X3.out); clear y0 y1 y2; have y0 : w4.cell? ⟨b, 0, none⟩ = some (.int .i64 7) := (blk_cell X4.out 0).trans rfl; have y1 : w4.cell? ⟨b, 1, none⟩ = some (.string t) := (blk_cell X4.out 1).trans rfl; have y2 : w4.cell? ⟨b, 2, none⟩ = some (.string v) := (blk_cell X4.out 2).trans rfl; clear hb; obtain ⟨ov, hg4, hr4⟩ := K4.out.core; obtain ⟨A4, n4, hv4, _, _⟩ := hr4.slice; subst hv4; have g0 : w4.cell? ⟨g, 0, none⟩ = some (.slice A4 c.op.length n4) := (by rw [← K4.out.len]; exact (blk_cell hg4 0).trans rfl); clear hg4 hr4)
          | (go_at_call 19; refine (stands_calls ⟨7, t, v⟩ K4.out).mono ?_; rintro e w5 ⟨rfl, hk, hc⟩; have K5 := Aside0.mk hk; have C5 := Aside0.mk (C4.out.trans (hc.mono (fun _ h => h) (fun _ h => ext_of h))); have X5 := Aside0.mk (hc.blk X4.out (by intro hx; rcases hx.2 with h | h | h | h <;> exact absurd h (by decide))); clear y0 y1 y2 g0; have y0 : w5.cell? ⟨b, 0, none⟩ = some (.int .i64 7) := (blk_cell X5.out 0).trans rfl; clear hk hc))
        obtain ⟨ov, hg5, hr5⟩ := K5.out.core
        have HG5 := Aside0.mk hg5
        have HR5 := Aside0.mk hr5
        clear hg5 hr5 y0
        refine start_ (n := 15) (S := (fun w' => w'.heap[b]? = some (.cells #[.int .i64 7, .string t, .string v] 44 (0, 0)) ∧ w'.heap[g]? = some (.cells #[ov, .bool (standsC c ⟨7, t, v⟩).over] 54 (0, 0)))) (ds := [11, 12, 13, 14]) #[false, false, false, false, false, false, false, false, false, false, false, false, false, false, false] (by kernel_rfl) rfl rfl ⟨X5.out, HG5.out⟩ (fun hHeld => ?_)
        have DB := Aside0.mk (below_drew (Below.refl w5.heap.size w5))
        generalize w5.drew = w6 at DB hHeld ⊢
        -- T80 := move (tmp 0) :41
        refine pure_ (i := 0) (N := some 80) (v := ?_) (a' := ?_) #[true, false, false, false, false, false, false, false, false, false, false, false, false, false, false] rfl rfl (by kernel_rfl) (fun _ _ _ h => h) (Or.inl ⟨by rfl, ?_⟩) ?_ ?_
        rotate_left
        · intro w'
          go_simp
          with_reducible rfl
        rotate_left
        · simp only [Act.put, List.setIfInBounds_toArray, List.set_cons_zero, List.set_cons_succ]
          rfl
        -- T81 := move (tmp 0) :41
        refine pure_ (i := 1) (N := some 81) (v := ?_) (a' := ?_) #[true, true, false, false, false, false, false, false, false, false, false, false, false, false, false] rfl rfl (by kernel_rfl) (fun _ _ _ h => h) (Or.inl ⟨by rfl, ?_⟩) ?_ ?_
        rotate_left
        · intro w'
          go_simp
          with_reducible rfl
        rotate_left
        · simp only [Act.put, List.setIfInBounds_toArray, List.set_cons_zero, List.set_cons_succ]
          rfl
        -- T82 := nilCheck (tmp 81) :0
        refine pure_ (i := 2) (N := some 82) (v := ?_) (a' := ?_) #[true, true, true, false, false, false, false, false, false, false, false, false, false, false, false] rfl rfl (by kernel_rfl) (fun _ _ _ h => h) (Or.inl ⟨by rfl, ?_⟩) ?_ ?_
        rotate_left
        · intro w'
          go_simp
          with_reducible rfl
        rotate_left
        · simp only [Act.put, List.setIfInBounds_toArray, List.set_cons_zero, List.set_cons_succ]
          rfl
        -- T83 := fieldAddr 54 (tmp 82) 0 :0
        refine pure_ (i := 3) (N := some 83) (v := ?_) (a' := ?_) #[true, true, true, true, false, false, false, false, false, false, false, false, false, false, false] rfl rfl (by kernel_rfl) (fun _ _ _ h => h) (Or.inl ⟨by rfl, ?_⟩) ?_ ?_
        rotate_left
        · intro w'
          go_simp
          with_reducible rfl
        rotate_left
        · simp only [Act.put, List.setIfInBounds_toArray, List.set_cons_zero, List.set_cons_succ]
          rfl
        -- T84 := load 52 (tmp 83) :52
        refine take_ (i := 4) (N := some 84) (v := ?_) (a' := ?_) #[true, true, true, true, true, false, false, false, false, false, false, false, false, false, false] rfl rfl (by kernel_rfl) (fun _ _ _ h => h) (Or.inl ⟨by rfl, ?_⟩) hHeld ?_ ?_
        rotate_left
        · intro w' hw'
          (have y0 := (blk_cell hw'.1 0).trans rfl; have g0 : w'.cell? ⟨g, 0, none⟩ = some ov := (blk_cell hw'.2 0).trans rfl)
          go_simp
          with_reducible rfl
        rotate_left
        · simp only [Act.put, List.setIfInBounds_toArray, List.set_cons_zero, List.set_cons_succ]
          rfl
        -- T85 := fieldAddr 44 (tmp 3) 0 :0
        refine pure_ (i := 5) (N := some 85) (v := ?_) (a' := ?_) #[true, true, true, true, true, true, false, false, false, false, false, false, false, false, false] rfl rfl (by kernel_rfl) (fun _ _ _ h => h) (Or.inl ⟨by rfl, ?_⟩) ?_ ?_
        rotate_left
        · intro w'
          go_simp
          with_reducible rfl
        rotate_left
        · simp only [Act.put, List.setIfInBounds_toArray, List.set_cons_zero, List.set_cons_succ]
          rfl
        -- T86 := load 3 (tmp 85) :3
        refine take_ (i := 6) (N := some 86) (v := ?_) (a' := ?_) #[true, true, true, true, true, true, true, false, false, false, false, false, false, false, false] rfl rfl (by kernel_rfl) (fun _ _ _ h => h) (Or.inl ⟨by rfl, ?_⟩) hHeld ?_ ?_
        rotate_left
        · intro w' hw'
          (have y0 := (blk_cell hw'.1 0).trans rfl; have g0 : w'.cell? ⟨g, 0, none⟩ = some ov := (blk_cell hw'.2 0).trans rfl)
          go_simp
          with_reducible rfl
        rotate_left
        · simp only [Act.put, List.setIfInBounds_toArray, List.set_cons_zero, List.set_cons_succ]
          rfl
        -- T87 := makeMap 59 none :59,
        refine one_ (i := 7) (N := some 87) #[true, true, true, true, true, true, true, true, false, false, false, false, false, false, false] rfl rfl (by kernel_rfl) (by decide) (fun K hK => ?_)
        refine value_ (v := .map (some w6.heap.size)) (w1 := w6.alloc (.map #[] 0)) rfl rfl (by unfold execOp; rfl) ?_
        refine hK _ _ ⟨(Below.heap_alloc _ _ b (blk_lt hHeld.1)).trans hHeld.1, (Below.heap_alloc _ _ g (blk_lt hHeld.2)).trans hHeld.2⟩ (fun hHeld3 => ?_)
        clear hK
        refine norm_ (a' := ?_) ?_ ?_
        rotate_left
        · simp only [Act.put, List.setIfInBounds_toArray, List.set_cons_zero, List.set_cons_succ]
          rfl
        -- T88 := build 61 #[(0, tmp 86), (4, tmp 87)] :61
        refine pure_ (i := 8) (N := some 88) (v := ?_) (a' := ?_) #[true, true, true, true, true, true, true, true, true, false, false, false, false, false, false] rfl rfl (by kernel_rfl) (fun _ _ _ h => h) (Or.inl ⟨by rfl, ?_⟩) ?_ ?_
        rotate_left
        · intro w'
          go_simp
          with_reducible rfl
        rotate_left
        · simp only [Act.put, List.setIfInBounds_toArray, List.set_cons_zero, List.set_cons_succ]
          rfl
        -- T89 := box 61 (tmp 88) :56
        refine one_ (i := 9) (N := some 89) #[true, true, true, true, true, true, true, true, true, true, false, false, false, false, false] rfl rfl (by kernel_rfl) (by decide) (fun K hK => ?_)
        refine value_ (v := pt (w6.alloc (.map #[] 0)).heap.size) (w1 := (w6.alloc (.map #[] 0)).alloc (.cells #[.int .i64 7, .bool false, .bool false, .bool false, .map (some w6.heap.size)] 61)) rfl rfl (by go_simp) ?_
        refine hK _ _ ⟨(Below.heap_alloc _ _ b (blk_lt hHeld3.1)).trans hHeld3.1, (Below.heap_alloc _ _ g (blk_lt hHeld3.2)).trans hHeld3.2⟩ (fun hHeld4 => ?_)
        clear hK
        refine norm_ (a' := ?_) ?_ ?_
        rotate_left
        · simp only [Act.put, List.setIfInBounds_toArray, List.set_cons_zero, List.set_cons_succ]
          rfl
        -- T90 := buildSlice 52 1 #[(0, tmp 89)] :52
        refine one_ (i := 10) (N := some 90) #[true, true, true, true, true, true, true, true, true, true, true, false, false, false, false] rfl rfl (by kernel_rfl) (by decide) (fun K hK => ?_)
        refine value_ (v := .slice (some ⟨((w6.alloc (.map #[] 0)).alloc (.cells #[.int .i64 7, .bool false, .bool false, .bool false, .map (some w6.heap.size)] 61)).heap.size, 0, none⟩) 1 1) (w1 := ((w6.alloc (.map #[] 0)).alloc (.cells #[.int .i64 7, .bool false, .bool false, .bool false, .map (some w6.heap.size)] 61)).alloc (.cells #[pt (w6.alloc (.map #[] 0)).heap.size] 56)) rfl rfl (by go_simp) ?_
        refine hK _ _ ⟨(Below.heap_alloc _ _ b (blk_lt hHeld4.1)).trans hHeld4.1, (Below.heap_alloc _ _ g (blk_lt hHeld4.2)).trans hHeld4.2⟩ (fun hHeld5 => ?_)
        clear hK hHeld hHeld3 hHeld4 hHeld5
        refine norm_ (a' := ?_) ?_ ?_
        rotate_left
        · simp only [Act.put, List.setIfInBounds_toArray, List.set_cons_zero, List.set_cons_succ]
          rfl
        refine tailI_ [11, 12, 13, 14] (by kernel_rfl) (by decide) rfl ?_
        simp only [List.filterMap_cons, List.filterMap_nil]
        have hb1 : Below w6.heap.size w6 (w6.alloc (.map #[] 0)) := below_alloc (Below.refl _ _) _
        have hb2 : Below (w6.alloc (.map #[] 0)).heap.size (w6.alloc (.map #[] 0)) ((w6.alloc (.map #[] 0)).alloc (.cells #[.int .i64 7, .bool false, .bool false, .bool false, .map (some w6.heap.size)] 61)) := below_alloc (Below.refl _ _) _
        have hK6 := ((K5.out.below DB.out).below hb1).below hb2
        have hR6 := ((HR5.out.below DB.out).below hb1).below hb2
        have hC6 := (((C5.out.trans (Ch.of_below DB.out)).trans (Ch.of_below hb1)).trans (Ch.of_below hb2))
        have hm6 : MKind.Is (mkB tB) (w6.alloc (.map #[] 0)) w6.heap.size 0 0 (fun _ => none) := MKind.Is.made (mkB tB) (MapKept.heap_alloc w6 _).1
        have hN := Aside0.mk (show OAt F ((w6.alloc (.map #[] 0)).alloc (.cells #[.int .i64 7, .bool false, .bool false, .bool false, .map (some w6.heap.size)] 61)) ((w6.alloc (.map #[] 0)).heap.size, w6.heap.size) (OE.new 7) from
          ⟨HFF.out _ (Nat.le_trans C5.out.size (Nat.le_trans DB.out.size hb1.size)), HFF.out _ (Nat.le_trans C5.out.size DB.out.size), (MapKept.heap_alloc _ _).1, (is_ch hm6 (Ch.of_below hb2 : Ch (fun _ => False) (fun _ => False) _ _) (fun h => h.1)).ext (fun y => by unfold hadF; rw [if_neg (by intro hx; cases hx)])⟩)
        have hD1 := Aside0.mk (show (w6.alloc (.map #[] 0)).heap.size ∉ ps.map Prod.fst by
          intro hx
          obtain ⟨q, hq, hqe⟩ := List.mem_map.1 hx
          have := K5.out.lts q hq
          have := DB.out.size
          have := hb1.size
          omega)
        have hD2 := Aside0.mk (show w6.heap.size ∉ ps.map Prod.snd by
          intro hx
          obtain ⟨q, hq, hqe⟩ := List.mem_map.1 hx
          have := K5.out.lts q hq
          have := DB.out.size
          omega)
        have K6 := Aside0.mk hK6
        have R6 := Aside0.mk hR6
        have C6 := Aside0.mk hC6
        clear hb1 hb2 hK6 hR6 hC6 hm6
        generalize (w6.alloc (.map #[] 0)).alloc (.cells #[.int .i64 7, .bool false, .bool false, .bool false, .map (some w6.heap.size)] 61) = w7 at K6 R6 C6 hN ⊢
        generalize (w6.alloc (.map #[] 0)).heap.size = b0 at hD1 hN ⊢
        generalize w6.heap.size = m0 at hD2 hN ⊢
        have HLEN := Aside0.mk (show ps.length ≤ 6 by rw [K6.out.len]; exact (stands_ok HOK.out _).1.op)
        refine row_append rfl (.tmp 84) (.tmp 90) 52 56 (.pointer none) 1 8 rfl Tryz.underlying52 infoOpen rfl (by decide) ov ps.length (ps.reverse.map fun p => pt p.1) [pt b0] rfl rfl rfl (by intro u hu; rw [List.mem_singleton] at hu; subst hu; rfl) R6.out (by have := HLEN.out; omega) (by have := HLEN.out; unfold maxLen; omega) ?_
        intro v8 w8 hr8 hc8
        have hp := K6.out.push hN.out hD1.out hD2.out hr8 (fun k hk => HFF.out k (Nat.le_trans C6.out.size hk)) hc8
        have HP := Aside0.mk hp
        obtain ⟨ov6, hg6, _⟩ := K6.out.core
        have hg8 := hc8.blk hg6 (fun hx => absurd hx.2 (by decide))
        have g0 : w8.cell? ⟨g, 0, none⟩ = some ov6 := (blk_cell hg8 0).trans rfl
        have f0 := blk_frozen hg8 0
        obtain ⟨A8, n8, hv8, _, _⟩ := hr8.slice
        clear hp hg6 hg8 hr8 hc8
        subst hv8
        go_wp2
        go_ret
        unfold StepPost
        rw [HG.out]
        exact ⟨_, rfl, HP.out.1, C6.out.trans (HP.out.2.mono (fun _ h => h) (fun _ h => ext_of h))⟩
set_option maxHeartbeats 8000000 in
set_option maxRecDepth 100000 in
theorem step_name {F : Nat → Prop} {w : World} {g : Nat} {ps : List (Nat × Nat)} {c : CK} (t v : ByteArray) (h : CkAt F w g ps c) (hF : ∀ k, w.heap.size ≤ k → F k) (ht : t.size ≤ 1000000) (hT : Tab.Tabs w) (hok : c.Ok) :
    Calls Tryz.prog 11 #[pt g, evA ⟨8, t, v⟩] w (StepPost F w g c ⟨8, t, v⟩) := by
  have H := Aside0.mk h
  have HFF := Aside0.mk hF
  have HRC := Aside0.mk (fun w1 (hb : Below w.heap.size w w1) => right_calls (w := w1) ⟨8, t, v⟩ (by simp) ht (hT.below hb))
  have HOK := Aside0.mk hok
  cases hr : rightD ⟨8, t, v⟩ with
  | false =>
    have HR := Aside0.mk hr
    have HG := Aside0.mk (show stepC rightD c ⟨8, t, v⟩ = (c, 19) by unfold stepC; rw [hr]; rfl)
    clear hr h hF ht hT
    go_enter Tryz.func11, Tryz.ntmps11
    go_wp2_with (first
      | ((with_reducible refine gate_dst (N := 3) rfl ?_); refine box_event ?hg (N := 3) ?hd (cs := #[.int .i64 8, .string t, .string v]) (t := 44) ?hr ?_; (case hd => rfl); (case hg => rfl); (case hr => first | (go_simp; done) | (go_simp; rfl)); intro b hg w1 hbox hb; have X1 := Aside0.mk hbox; have B1 := Aside0.mk hb; have K1 := Aside0.mk (H.out.below hb); have C1 := Aside0.mk ((Ch.of_below hb : Ch evcT F w w1)); have y0 : w1.cell? ⟨b, 0, none⟩ = some (.int .i64 8) := (blk_cell hbox 0).trans rfl; have y1 : w1.cell? ⟨b, 1, none⟩ = some (.string t) := (blk_cell hbox 1).trans rfl; have y2 : w1.cell? ⟨b, 2, none⟩ = some (.string v) := (blk_cell hbox 2).trans rfl; clear hg hbox hb)
      | (go_at_call 16; refine (HRC.out _ B1.out).mono ?_; rintro e w2 ⟨rfl, hb⟩; rw [HR.out]; have B2 := Aside0.mk hb; have K2 := Aside0.mk (K1.out.below hb); have C2 := Aside0.mk (C1.out.trans (Ch.of_below hb)); have X2 := Aside0.mk ((hb.block b (blk_lt X1.out)).trans X1.out); clear y0 y1 y2; have y0 : w2.cell? ⟨b, 0, none⟩ = some (.int .i64 8) := (blk_cell X2.out 0).trans rfl; have y1 : w2.cell? ⟨b, 1, none⟩ = some (.string t) := (blk_cell X2.out 1).trans rfl; have y2 : w2.cell? ⟨b, 2, none⟩ = some (.string v) := (blk_cell X2.out 2).trans rfl; clear hb))
    go_ret
    unfold StepPost
    rw [HG.out]
    exact ⟨ps, rfl, K2.out, C2.out⟩
  | true =>
    have HR := Aside0.mk hr
    cases ps with
    | nil =>
      have HG := Aside0.mk (show stepC rightD c ⟨8, t, v⟩ = (c, 19) by unfold stepC; rw [if_pos hr]; unfold goesC; simp [h.noneOp])
      clear hr h hF ht hT hok
      go_enter Tryz.func11, Tryz.ntmps11
      go_wp2_with (first
        | ((with_reducible refine gate_dst (N := 3) rfl ?_); refine box_event ?hg (N := 3) ?hd (cs := #[.int .i64 8, .string t, .string v]) (t := 44) ?hr ?_; (case hd => rfl); (case hg => rfl); (case hr => first | (go_simp; done) | (go_simp; rfl)); intro b hg w1 hbox hb; have X1 := Aside0.mk hbox; have B1 := Aside0.mk hb; have K1 := Aside0.mk (H.out.below hb); have C1 := Aside0.mk ((Ch.of_below hb : Ch evcT F w w1)); have y0 : w1.cell? ⟨b, 0, none⟩ = some (.int .i64 8) := (blk_cell hbox 0).trans rfl; have y1 : w1.cell? ⟨b, 1, none⟩ = some (.string t) := (blk_cell hbox 1).trans rfl; have y2 : w1.cell? ⟨b, 2, none⟩ = some (.string v) := (blk_cell hbox 2).trans rfl; clear hg hbox hb)
        | (go_at_call 16; refine (HRC.out _ B1.out).mono ?_; rintro e w2 ⟨rfl, hb⟩; rw [HR.out]; have B2 := Aside0.mk hb; have K2 := Aside0.mk (K1.out.below hb); have C2 := Aside0.mk (C1.out.trans (Ch.of_below hb)); have X2 := Aside0.mk ((hb.block b (blk_lt X1.out)).trans X1.out); clear y0 y1 y2; have y0 : w2.cell? ⟨b, 0, none⟩ = some (.int .i64 8) := (blk_cell X2.out 0).trans rfl; have y1 : w2.cell? ⟨b, 1, none⟩ = some (.string t) := (blk_cell X2.out 1).trans rfl; have y2 : w2.cell? ⟨b, 2, none⟩ = some (.string v) := (blk_cell X2.out 2).trans rfl; clear hb)
        | (go_at_call 17; refine (last_none K2.out).mono ?_; rintro e w3 ⟨rfl, hb⟩; have B3 := Aside0.mk hb; have K3 := Aside0.mk (K2.out.below hb); have C3 := Aside0.mk (C2.out.trans (Ch.of_below hb)); have X3 := Aside0.mk ((hb.block b (blk_lt X2.out)).trans X2.out); clear y0 y1 y2; have y0 : w3.cell? ⟨b, 0, none⟩ = some (.int .i64 8) := (blk_cell X3.out 0).trans rfl; have y1 : w3.cell? ⟨b, 1, none⟩ = some (.string t) := (blk_cell X3.out 1).trans rfl; have y2 : w3.cell? ⟨b, 2, none⟩ = some (.string v) := (blk_cell X3.out 2).trans rfl; clear hb))
      go_ret
      unfold StepPost
      rw [HG.out]
      exact ⟨_, rfl, K3.out, C3.out⟩
    | cons p ps =>
      obtain ⟨l, r, hop, hl⟩ := h.head
      have L := Aside0.mk hl
      have HOP := Aside0.mk hop
      have HLO := Aside0.mk (hok.each l (by rw [hop]; exact List.mem_cons_self ..))
      have HSZ := Aside0.mk ht
      obtain ⟨lk, hlk⟩ : ∃ y, l.k = y := ⟨_, rfl⟩
      obtain ⟨lb, hlb⟩ : ∃ y, l.key = y := ⟨_, rfl⟩
      have HK := Aside0.mk hlk
      have HKEY := Aside0.mk hlb
      by_cases h7 : lk = 7
      · subst h7
        cases lb with
        | true =>
          have HG := Aside0.mk (show stepC rightD c ⟨8, t, v⟩ = (c, 19) by unfold stepC; rw [if_pos hr]; unfold goesC; simp [hop, hlb])
          clear hr h hF ht hT hok hl hop hlk hlb
          go_enter Tryz.func11, Tryz.ntmps11
          go_wp2_with (first
            | ((with_reducible refine gate_dst (N := 3) rfl ?_); refine box_event ?hg (N := 3) ?hd (cs := #[.int .i64 8, .string t, .string v]) (t := 44) ?hr ?_; (case hd => rfl); (case hg => rfl); (case hr => first | (go_simp; done) | (go_simp; rfl)); intro b hg w1 hbox hb; have X1 := Aside0.mk hbox; have B1 := Aside0.mk hb; have K1 := Aside0.mk (H.out.below hb); have C1 := Aside0.mk ((Ch.of_below hb : Ch evcT F w w1)); have y0 : w1.cell? ⟨b, 0, none⟩ = some (.int .i64 8) := (blk_cell hbox 0).trans rfl; have y1 : w1.cell? ⟨b, 1, none⟩ = some (.string t) := (blk_cell hbox 1).trans rfl; have y2 : w1.cell? ⟨b, 2, none⟩ = some (.string v) := (blk_cell hbox 2).trans rfl; clear hg hbox hb)
            | (go_at_call 16; refine (HRC.out _ B1.out).mono ?_; rintro e w2 ⟨rfl, hb⟩; rw [HR.out]; have B2 := Aside0.mk hb; have K2 := Aside0.mk (K1.out.below hb); have C2 := Aside0.mk (C1.out.trans (Ch.of_below hb)); have X2 := Aside0.mk ((hb.block b (blk_lt X1.out)).trans X1.out); clear y0 y1 y2; have y0 : w2.cell? ⟨b, 0, none⟩ = some (.int .i64 8) := (blk_cell X2.out 0).trans rfl; have y1 : w2.cell? ⟨b, 1, none⟩ = some (.string t) := (blk_cell X2.out 1).trans rfl; have y2 : w2.cell? ⟨b, 2, none⟩ = some (.string v) := (blk_cell X2.out 2).trans rfl; clear hb)
            | (go_at_call 17; refine (last_some K2.out).mono ?_; rintro e w3 ⟨rfl, hb⟩; have B3 := Aside0.mk hb; have K3 := Aside0.mk (K2.out.below hb); have C3 := Aside0.mk (C2.out.trans (Ch.of_below hb)); have X3 := Aside0.mk ((hb.block b (blk_lt X2.out)).trans X2.out); clear y0 y1 y2; have y0 : w3.cell? ⟨b, 0, none⟩ = some (.int .i64 8) := (blk_cell X3.out 0).trans rfl; have y1 : w3.cell? ⟨b, 1, none⟩ = some (.string t) := (blk_cell X3.out 1).trans rfl; have y2 : w3.cell? ⟨b, 2, none⟩ = some (.string v) := (blk_cell X3.out 2).trans rfl; clear hb; have L3 := Aside0.mk (L.out.far (G := fun _ => False) (T := fun _ => False) ((((Ch.of_below B1.out).trans (Ch.of_below B2.out)).trans (Ch.of_below B3.out))) (fun _ _ h => h)); have l0 : w3.cell? ⟨p.1, 0, none⟩ = some (.int .i64 7) := ((blk_cell L3.out.blk 0).trans (by rw [← HK.out]; rfl)); have l1 : w3.cell? ⟨p.1, 1, none⟩ = some (.bool true) := ((blk_cell L3.out.blk 1).trans (by rw [← HKEY.out]; rfl))))
          go_ret
          unfold StepPost
          rw [HG.out]
          exact ⟨_, rfl, K3.out, C3.out⟩
        | false =>
          have HG := Aside0.mk (show stepC rightD c ⟨8, t, v⟩ = ({ c with op := (namedL l ⟨8, t, v⟩).1 :: r }, (namedL l ⟨8, t, v⟩).2) by unfold stepC; rw [if_pos hr]; unfold goesC; simp [hop, hlk, hlb])
          clear hr h hF ht hT hok hl hop hlk hlb
          go_enter Tryz.func11, Tryz.ntmps11
          go_wp2_with (first
            | ((with_reducible refine gate_dst (N := 3) rfl ?_); refine box_event ?hg (N := 3) ?hd (cs := #[.int .i64 8, .string t, .string v]) (t := 44) ?hr ?_; (case hd => rfl); (case hg => rfl); (case hr => first | (go_simp; done) | (go_simp; rfl)); intro b hg w1 hbox hb; have X1 := Aside0.mk hbox; have B1 := Aside0.mk hb; have K1 := Aside0.mk (H.out.below hb); have C1 := Aside0.mk ((Ch.of_below hb : Ch evcT F w w1)); have y0 : w1.cell? ⟨b, 0, none⟩ = some (.int .i64 8) := (blk_cell hbox 0).trans rfl; have y1 : w1.cell? ⟨b, 1, none⟩ = some (.string t) := (blk_cell hbox 1).trans rfl; have y2 : w1.cell? ⟨b, 2, none⟩ = some (.string v) := (blk_cell hbox 2).trans rfl; clear hg hbox hb)
            | (go_at_call 16; refine (HRC.out _ B1.out).mono ?_; rintro e w2 ⟨rfl, hb⟩; rw [HR.out]; have B2 := Aside0.mk hb; have K2 := Aside0.mk (K1.out.below hb); have C2 := Aside0.mk (C1.out.trans (Ch.of_below hb)); have X2 := Aside0.mk ((hb.block b (blk_lt X1.out)).trans X1.out); clear y0 y1 y2; have y0 : w2.cell? ⟨b, 0, none⟩ = some (.int .i64 8) := (blk_cell X2.out 0).trans rfl; have y1 : w2.cell? ⟨b, 1, none⟩ = some (.string t) := (blk_cell X2.out 1).trans rfl; have y2 : w2.cell? ⟨b, 2, none⟩ = some (.string v) := (blk_cell X2.out 2).trans rfl; clear hb)
            | (go_at_call 17; refine (last_some K2.out).mono ?_; rintro e w3 ⟨rfl, hb⟩; have B3 := Aside0.mk hb; have K3 := Aside0.mk (K2.out.below hb); have C3 := Aside0.mk (C2.out.trans (Ch.of_below hb)); have X3 := Aside0.mk ((hb.block b (blk_lt X2.out)).trans X2.out); clear y0 y1 y2; have y0 : w3.cell? ⟨b, 0, none⟩ = some (.int .i64 8) := (blk_cell X3.out 0).trans rfl; have y1 : w3.cell? ⟨b, 1, none⟩ = some (.string t) := (blk_cell X3.out 1).trans rfl; have y2 : w3.cell? ⟨b, 2, none⟩ = some (.string v) := (blk_cell X3.out 2).trans rfl; clear hb; have L3 := Aside0.mk (L.out.far (G := fun _ => False) (T := fun _ => False) ((((Ch.of_below B1.out).trans (Ch.of_below B2.out)).trans (Ch.of_below B3.out))) (fun _ _ h => h)); have l0 : w3.cell? ⟨p.1, 0, none⟩ = some (.int .i64 7) := ((blk_cell L3.out.blk 0).trans (by rw [← HK.out]; rfl)); have l1 : w3.cell? ⟨p.1, 1, none⟩ = some (.bool false) := ((blk_cell L3.out.blk 1).trans (by rw [← HKEY.out]; rfl)))
            | (go_at_call 20; refine (named_calls ⟨8, t, v⟩ L3.out HSZ.out HLO.out).mono ?_; rintro e w4 ⟨rfl, ho, hc⟩; have K4 := Aside0.mk (K3.out.top HOP.out ho hc); have C4 := Aside0.mk (C3.out.trans ((top_all L3.out.fb L3.out.fm hc).mono (fun _ h => h) (fun _ h => ext_of h))); clear ho hc y0 y1 y2 l0 l1))
          go_ret
          unfold StepPost
          rw [HG.out]
          exact ⟨_, rfl, K4.out, C4.out⟩
      · have HG := Aside0.mk (show stepC rightD c ⟨8, t, v⟩ = (c, 19) by unfold stepC; rw [if_pos hr]; unfold goesC; simp [hop, hlk, h7])
        have n7 : (lk == 7) = false := by rw [beq_eq_false_iff_ne]; exact h7
        have m7 : decide (lk = 7) = false := decide_eq_false h7
        have b7 : (lk != 7) = true := by rw [bne_iff_ne]; exact h7
        clear hr h hF ht hT hok hl hop hlk hlb h7
        go_enter Tryz.func11, Tryz.ntmps11
        go_wp2_with (first
          | ((with_reducible refine gate_dst (N := 3) rfl ?_); refine box_event ?hg (N := 3) ?hd (cs := #[.int .i64 8, .string t, .string v]) (t := 44) ?hr ?_; (case hd => rfl); (case hg => rfl); (case hr => first | (go_simp; done) | (go_simp; rfl)); intro b hg w1 hbox hb; have X1 := Aside0.mk hbox; have B1 := Aside0.mk hb; have K1 := Aside0.mk (H.out.below hb); have C1 := Aside0.mk ((Ch.of_below hb : Ch evcT F w w1)); have y0 : w1.cell? ⟨b, 0, none⟩ = some (.int .i64 8) := (blk_cell hbox 0).trans rfl; have y1 : w1.cell? ⟨b, 1, none⟩ = some (.string t) := (blk_cell hbox 1).trans rfl; have y2 : w1.cell? ⟨b, 2, none⟩ = some (.string v) := (blk_cell hbox 2).trans rfl; clear hg hbox hb)
          | (go_at_call 16; refine (HRC.out _ B1.out).mono ?_; rintro e w2 ⟨rfl, hb⟩; rw [HR.out]; have B2 := Aside0.mk hb; have K2 := Aside0.mk (K1.out.below hb); have C2 := Aside0.mk (C1.out.trans (Ch.of_below hb)); have X2 := Aside0.mk ((hb.block b (blk_lt X1.out)).trans X1.out); clear y0 y1 y2; have y0 : w2.cell? ⟨b, 0, none⟩ = some (.int .i64 8) := (blk_cell X2.out 0).trans rfl; have y1 : w2.cell? ⟨b, 1, none⟩ = some (.string t) := (blk_cell X2.out 1).trans rfl; have y2 : w2.cell? ⟨b, 2, none⟩ = some (.string v) := (blk_cell X2.out 2).trans rfl; clear hb)
          | (go_at_call 17; refine (last_some K2.out).mono ?_; rintro e w3 ⟨rfl, hb⟩; have B3 := Aside0.mk hb; have K3 := Aside0.mk (K2.out.below hb); have C3 := Aside0.mk (C2.out.trans (Ch.of_below hb)); have X3 := Aside0.mk ((hb.block b (blk_lt X2.out)).trans X2.out); clear y0 y1 y2; have y0 : w3.cell? ⟨b, 0, none⟩ = some (.int .i64 8) := (blk_cell X3.out 0).trans rfl; have y1 : w3.cell? ⟨b, 1, none⟩ = some (.string t) := (blk_cell X3.out 1).trans rfl; have y2 : w3.cell? ⟨b, 2, none⟩ = some (.string v) := (blk_cell X3.out 2).trans rfl; clear hb; have L3 := Aside0.mk (L.out.far (G := fun _ => False) (T := fun _ => False) ((((Ch.of_below B1.out).trans (Ch.of_below B2.out)).trans (Ch.of_below B3.out))) (fun _ _ h => h)); have l0 : w3.cell? ⟨p.1, 0, none⟩ = some (.int .i64 lk) := ((blk_cell L3.out.blk 0).trans (by rw [← HK.out]; rfl)); have l1 : w3.cell? ⟨p.1, 1, none⟩ = some (.bool lb) := ((blk_cell L3.out.blk 1).trans (by rw [← HKEY.out]; rfl))))
        go_ret
        unfold StepPost
        rw [HG.out]
        exact ⟨_, rfl, K3.out, C3.out⟩
set_option maxHeartbeats 8000000 in
set_option maxRecDepth 100000 in
theorem step_close6 {F : Nat → Prop} {w : World} {g : Nat} {ps : List (Nat × Nat)} {c : CK} (t v : ByteArray) (h : CkAt F w g ps c) (hF : ∀ k, w.heap.size ≤ k → F k) (ht : t.size ≤ 1000000) (hT : Tab.Tabs w) :
    Calls Tryz.prog 11 #[pt g, evA ⟨6, t, v⟩] w (StepPost F w g c ⟨6, t, v⟩) := by
  have H := Aside0.mk h
  have HFF := Aside0.mk hF
  have HRC := Aside0.mk (fun w1 (hb : Below w.heap.size w w1) => right_calls (w := w1) ⟨6, t, v⟩ (by simp) ht (hT.below hb))
  cases hr : rightD ⟨6, t, v⟩ with
  | false =>
    have HR := Aside0.mk hr
    have HG := Aside0.mk (show stepC rightD c ⟨6, t, v⟩ = (c, 19) by unfold stepC; rw [hr]; rfl)
    clear hr h hF ht hT
    go_enter Tryz.func11, Tryz.ntmps11
    go_wp2_with (first
      | ((with_reducible refine gate_dst (N := 3) rfl ?_); refine box_event ?hg (N := 3) ?hd (cs := #[.int .i64 6, .string t, .string v]) (t := 44) ?hr ?_; (case hd => rfl); (case hg => rfl); (case hr => first | (go_simp; done) | (go_simp; rfl)); intro b hg w1 hbox hb; have X1 := Aside0.mk hbox; have B1 := Aside0.mk hb; have K1 := Aside0.mk (H.out.below hb); have C1 := Aside0.mk ((Ch.of_below hb : Ch evcT F w w1)); have y0 : w1.cell? ⟨b, 0, none⟩ = some (.int .i64 6) := (blk_cell hbox 0).trans rfl; have y1 : w1.cell? ⟨b, 1, none⟩ = some (.string t) := (blk_cell hbox 1).trans rfl; have y2 : w1.cell? ⟨b, 2, none⟩ = some (.string v) := (blk_cell hbox 2).trans rfl; clear hg hbox hb)
      | (go_at_call 16; refine (HRC.out _ B1.out).mono ?_; rintro e w2 ⟨rfl, hb⟩; rw [HR.out]; have B2 := Aside0.mk hb; have K2 := Aside0.mk (K1.out.below hb); have C2 := Aside0.mk (C1.out.trans (Ch.of_below hb)); have X2 := Aside0.mk ((hb.block b (blk_lt X1.out)).trans X1.out); clear y0 y1 y2; have y0 : w2.cell? ⟨b, 0, none⟩ = some (.int .i64 6) := (blk_cell X2.out 0).trans rfl; have y1 : w2.cell? ⟨b, 1, none⟩ = some (.string t) := (blk_cell X2.out 1).trans rfl; have y2 : w2.cell? ⟨b, 2, none⟩ = some (.string v) := (blk_cell X2.out 2).trans rfl; clear hb))
    go_ret
    unfold StepPost
    rw [HG.out]
    exact ⟨ps, rfl, K2.out, C2.out⟩
  | true =>
    have HR := Aside0.mk hr
    cases ps with
    | nil =>
      have HG := Aside0.mk (show stepC rightD c ⟨6, t, v⟩ = (c, 19) by unfold stepC; rw [if_pos hr]; unfold goesC; simp [h.noneOp])
      clear hr h hF ht hT
      go_enter Tryz.func11, Tryz.ntmps11
      go_wp2_with (first
        | ((with_reducible refine gate_dst (N := 3) rfl ?_); refine box_event ?hg (N := 3) ?hd (cs := #[.int .i64 6, .string t, .string v]) (t := 44) ?hr ?_; (case hd => rfl); (case hg => rfl); (case hr => first | (go_simp; done) | (go_simp; rfl)); intro b hg w1 hbox hb; have X1 := Aside0.mk hbox; have B1 := Aside0.mk hb; have K1 := Aside0.mk (H.out.below hb); have C1 := Aside0.mk ((Ch.of_below hb : Ch evcT F w w1)); have y0 : w1.cell? ⟨b, 0, none⟩ = some (.int .i64 6) := (blk_cell hbox 0).trans rfl; have y1 : w1.cell? ⟨b, 1, none⟩ = some (.string t) := (blk_cell hbox 1).trans rfl; have y2 : w1.cell? ⟨b, 2, none⟩ = some (.string v) := (blk_cell hbox 2).trans rfl; clear hg hbox hb)
        | (go_at_call 16; refine (HRC.out _ B1.out).mono ?_; rintro e w2 ⟨rfl, hb⟩; rw [HR.out]; have B2 := Aside0.mk hb; have K2 := Aside0.mk (K1.out.below hb); have C2 := Aside0.mk (C1.out.trans (Ch.of_below hb)); have X2 := Aside0.mk ((hb.block b (blk_lt X1.out)).trans X1.out); clear y0 y1 y2; have y0 : w2.cell? ⟨b, 0, none⟩ = some (.int .i64 6) := (blk_cell X2.out 0).trans rfl; have y1 : w2.cell? ⟨b, 1, none⟩ = some (.string t) := (blk_cell X2.out 1).trans rfl; have y2 : w2.cell? ⟨b, 2, none⟩ = some (.string v) := (blk_cell X2.out 2).trans rfl; clear hb)
        | (go_at_call 17; refine (last_none K2.out).mono ?_; rintro e w3 ⟨rfl, hb⟩; have B3 := Aside0.mk hb; have K3 := Aside0.mk (K2.out.below hb); have C3 := Aside0.mk (C2.out.trans (Ch.of_below hb)); have X3 := Aside0.mk ((hb.block b (blk_lt X2.out)).trans X2.out); clear y0 y1 y2; have y0 : w3.cell? ⟨b, 0, none⟩ = some (.int .i64 6) := (blk_cell X3.out 0).trans rfl; have y1 : w3.cell? ⟨b, 1, none⟩ = some (.string t) := (blk_cell X3.out 1).trans rfl; have y2 : w3.cell? ⟨b, 2, none⟩ = some (.string v) := (blk_cell X3.out 2).trans rfl; clear hb)
        | (refine MKind.make_event (mkI tI) rfl rfl ?_; intro mm hmm w4 hM hb; have C4 := Aside0.mk (Ch.of_below hb : Ch evcT (fun k => w3.heap.size ≤ k) w3 w4); have M4 := Aside0.mk hM; have MM := Aside0.mk hmm; clear hmm hM hb)
        | (refine MKind.put_event rfl (.inl rfl) (mkI tI) rfl 6 5 rfl rfl M4.out (by unfold maxLen; omega) ⟨by omega, by omega⟩ ⟨by omega, by omega⟩ ?_; intro w5 hm hg; have C5 := Aside0.mk (C4.out.trans ((put_ch (F := fun k => w3.heap.size ≤ k) M4.out MM.out hg).mono (fun _ h => Or.inr (Or.inr (Or.inr h))) (fun _ h => ext_of h))); have M5 := Aside0.mk hm; clear hm hg)
        | (refine MKind.put_event rfl (.inl rfl) (mkI tI) rfl 9 7 rfl rfl M5.out (by unfold maxLen; omega) ⟨by omega, by omega⟩ ⟨by omega, by omega⟩ ?_; intro w6 hm hg; have C6 := Aside0.mk (C5.out.trans ((put_ch (F := fun k => w3.heap.size ≤ k) M5.out MM.out hg).mono (fun _ h => Or.inr (Or.inr (Or.inr h))) (fun _ h => ext_of h))); have M6 := Aside0.mk hm; clear hm hg)
        | (refine MKind.put_event rfl (.inl rfl) (mkI tI) rfl 12 10 rfl rfl M6.out (by unfold maxLen; omega) ⟨by omega, by omega⟩ ⟨by omega, by omega⟩ ?_; intro w7 hm hg; have C7 := Aside0.mk (C6.out.trans ((put_ch (F := fun k => w3.heap.size ≤ k) M6.out MM.out hg).mono (fun _ h => Or.inr (Or.inr (Or.inr h))) (fun _ h => ext_of h))); have M7 := Aside0.mk hm; clear hm hg))
      have B7 := Aside0.mk (C7.out.below (B := w3.heap.size) (fun _ h => h) (Nat.le_refl _))
      have X7 := Aside0.mk ((B7.out.block b (blk_lt X3.out)).trans X3.out)
      have K7 := Aside0.mk (K3.out.below B7.out)
      have C7b := Aside0.mk (C3.out.trans (Ch.of_below B7.out))
      have hlk : ∀ n, (Instr.lookup 62 (.map (some mm)) (.int .i64 6) false).run Tryz.prog (w7.drewN n) = .ok (.int .i64 5) (w7.drewN n) := by
        intro n
        have M8 := is_ch M7.out (Ch.of_below (pw_below_drewN (Below.refl _ _) n) : Ch (fun _ => False) (fun _ => False) _ _) (fun h => h.1)
        exact M8.look1 6 ⟨by omega, by omega⟩
      clear y0 y1 y2
      have y0 : w7.cell? ⟨b, 0, none⟩ = some (.int .i64 6) := (blk_cell X7.out 0).trans rfl
      go_quiet (fail)
      have DB := Aside0.mk (pw_below_drewN (Below.refl w7.heap.size w7) nq)
      have K8 := Aside0.mk (K7.out.below DB.out)
      have C8 := Aside0.mk (C7b.out.trans (Ch.of_below DB.out))
      clear hlk y0
      generalize w7.drewN nq = w8 at DB K8 C8 ⊢
      go_wp2
      go_ret
      unfold StepPost
      rw [HG.out]
      exact ⟨_, rfl, K8.out, C8.out⟩
    | cons p ps =>
      obtain ⟨l, r, hop, hl⟩ := h.head
      have L := Aside0.mk hl
      have HOP := Aside0.mk hop
      obtain ⟨lk, hlk⟩ : ∃ y, l.k = y := ⟨_, rfl⟩
      obtain ⟨lb, hlb⟩ : ∃ y, l.key = y := ⟨_, rfl⟩
      have HK := Aside0.mk hlk
      have HKEY := Aside0.mk hlb
      by_cases h7 : lk = 5
      · subst h7
        cases lb with
        | true =>
          have HG := Aside0.mk (show stepC rightD c ⟨6, t, v⟩ = (c, 19) by unfold stepC; rw [if_pos hr]; unfold goesC; simp [hop, hlk, hlb, endsK])
          clear hr h hF ht hT hl hop hlk hlb
          go_enter Tryz.func11, Tryz.ntmps11
          go_wp2_with (first
            | ((with_reducible refine gate_dst (N := 3) rfl ?_); refine box_event ?hg (N := 3) ?hd (cs := #[.int .i64 6, .string t, .string v]) (t := 44) ?hr ?_; (case hd => rfl); (case hg => rfl); (case hr => first | (go_simp; done) | (go_simp; rfl)); intro b hg w1 hbox hb; have X1 := Aside0.mk hbox; have B1 := Aside0.mk hb; have K1 := Aside0.mk (H.out.below hb); have C1 := Aside0.mk ((Ch.of_below hb : Ch evcT F w w1)); have y0 : w1.cell? ⟨b, 0, none⟩ = some (.int .i64 6) := (blk_cell hbox 0).trans rfl; have y1 : w1.cell? ⟨b, 1, none⟩ = some (.string t) := (blk_cell hbox 1).trans rfl; have y2 : w1.cell? ⟨b, 2, none⟩ = some (.string v) := (blk_cell hbox 2).trans rfl; clear hg hbox hb)
            | (go_at_call 16; refine (HRC.out _ B1.out).mono ?_; rintro e w2 ⟨rfl, hb⟩; rw [HR.out]; have B2 := Aside0.mk hb; have K2 := Aside0.mk (K1.out.below hb); have C2 := Aside0.mk (C1.out.trans (Ch.of_below hb)); have X2 := Aside0.mk ((hb.block b (blk_lt X1.out)).trans X1.out); clear y0 y1 y2; have y0 : w2.cell? ⟨b, 0, none⟩ = some (.int .i64 6) := (blk_cell X2.out 0).trans rfl; have y1 : w2.cell? ⟨b, 1, none⟩ = some (.string t) := (blk_cell X2.out 1).trans rfl; have y2 : w2.cell? ⟨b, 2, none⟩ = some (.string v) := (blk_cell X2.out 2).trans rfl; clear hb)
            | (go_at_call 17; refine (last_some K2.out).mono ?_; rintro e w3 ⟨rfl, hb⟩; have B3 := Aside0.mk hb; have K3 := Aside0.mk (K2.out.below hb); have C3 := Aside0.mk (C2.out.trans (Ch.of_below hb)); have X3 := Aside0.mk ((hb.block b (blk_lt X2.out)).trans X2.out); clear y0 y1 y2; have y0 : w3.cell? ⟨b, 0, none⟩ = some (.int .i64 6) := (blk_cell X3.out 0).trans rfl; have y1 : w3.cell? ⟨b, 1, none⟩ = some (.string t) := (blk_cell X3.out 1).trans rfl; have y2 : w3.cell? ⟨b, 2, none⟩ = some (.string v) := (blk_cell X3.out 2).trans rfl; clear hb; have L3 := Aside0.mk (L.out.far (G := fun _ => False) (T := fun _ => False) ((((Ch.of_below B1.out).trans (Ch.of_below B2.out)).trans (Ch.of_below B3.out))) (fun _ _ h => h)); have l0 : w3.cell? ⟨p.1, 0, none⟩ = some (.int .i64 5) := ((blk_cell L3.out.blk 0).trans (by rw [← HK.out]; rfl)); have l1 : w3.cell? ⟨p.1, 1, none⟩ = some (.bool true) := ((blk_cell L3.out.blk 1).trans (by rw [← HKEY.out]; rfl)))
            | (refine MKind.make_event (mkI tI) rfl rfl ?_; intro mm hmm w4 hM hb; have C4 := Aside0.mk (Ch.of_below hb : Ch evcT (fun k => w3.heap.size ≤ k) w3 w4); have M4 := Aside0.mk hM; have MM := Aside0.mk hmm; clear hmm hM hb)
            | (refine MKind.put_event rfl (.inl rfl) (mkI tI) rfl 6 5 rfl rfl M4.out (by unfold maxLen; omega) ⟨by omega, by omega⟩ ⟨by omega, by omega⟩ ?_; intro w5 hm hg; have C5 := Aside0.mk (C4.out.trans ((put_ch (F := fun k => w3.heap.size ≤ k) M4.out MM.out hg).mono (fun _ h => Or.inr (Or.inr (Or.inr h))) (fun _ h => ext_of h))); have M5 := Aside0.mk hm; clear hm hg)
            | (refine MKind.put_event rfl (.inl rfl) (mkI tI) rfl 9 7 rfl rfl M5.out (by unfold maxLen; omega) ⟨by omega, by omega⟩ ⟨by omega, by omega⟩ ?_; intro w6 hm hg; have C6 := Aside0.mk (C5.out.trans ((put_ch (F := fun k => w3.heap.size ≤ k) M5.out MM.out hg).mono (fun _ h => Or.inr (Or.inr (Or.inr h))) (fun _ h => ext_of h))); have M6 := Aside0.mk hm; clear hm hg)
            | (refine MKind.put_event rfl (.inl rfl) (mkI tI) rfl 12 10 rfl rfl M6.out (by unfold maxLen; omega) ⟨by omega, by omega⟩ ⟨by omega, by omega⟩ ?_; intro w7 hm hg; have C7 := Aside0.mk (C6.out.trans ((put_ch (F := fun k => w3.heap.size ≤ k) M6.out MM.out hg).mono (fun _ h => Or.inr (Or.inr (Or.inr h))) (fun _ h => ext_of h))); have M7 := Aside0.mk hm; clear hm hg))
          have B7 := Aside0.mk (C7.out.below (B := w3.heap.size) (fun _ h => h) (Nat.le_refl _))
          have X7 := Aside0.mk ((B7.out.block b (blk_lt X3.out)).trans X3.out)
          have K7 := Aside0.mk (K3.out.below B7.out)
          have C7b := Aside0.mk (C3.out.trans (Ch.of_below B7.out))
          have hlk : ∀ n, (Instr.lookup 62 (.map (some mm)) (.int .i64 6) false).run Tryz.prog (w7.drewN n) = .ok (.int .i64 5) (w7.drewN n) := by
            intro n
            have M8 := is_ch M7.out (Ch.of_below (pw_below_drewN (Below.refl _ _) n) : Ch (fun _ => False) (fun _ => False) _ _) (fun h => h.1)
            exact M8.look1 6 ⟨by omega, by omega⟩
          clear y0 y1 y2
          have y0 : w7.cell? ⟨b, 0, none⟩ = some (.int .i64 6) := (blk_cell X7.out 0).trans rfl
          have L7 := Aside0.mk (L3.out.far (G := fun _ => False) (T := fun _ => False) (Ch.of_below B7.out) (fun _ _ h => h))
          clear l0 l1
          have l0 : w7.cell? ⟨p.1, 0, none⟩ = some (.int .i64 5) := (blk_cell L7.out.blk 0).trans (by rw [← HK.out]; rfl)
          have l1 : w7.cell? ⟨p.1, 1, none⟩ = some (.bool true) := (blk_cell L7.out.blk 1).trans (by rw [← HKEY.out]; rfl)
          go_quiet (fail)
          have DB := Aside0.mk (pw_below_drewN (Below.refl w7.heap.size w7) nq)
          have K8 := Aside0.mk (K7.out.below DB.out)
          have C8 := Aside0.mk (C7b.out.trans (Ch.of_below DB.out))
          clear hlk y0 l0 l1
          generalize w7.drewN nq = w8 at DB K8 C8 ⊢
          go_wp2
          go_ret
          unfold StepPost
          rw [HG.out]
          exact ⟨_, rfl, K8.out, C8.out⟩
        | false =>
          have HG := Aside0.mk (show stepC rightD c ⟨6, t, v⟩ = ({ c with op := r }, 0) by unfold stepC; rw [if_pos hr]; unfold goesC; simp [hop, hlk, hlb, endsK])
          clear hr h hF ht hT hl hop hlk hlb
          go_enter Tryz.func11, Tryz.ntmps11
          go_wp2_with (first
            | ((with_reducible refine gate_dst (N := 3) rfl ?_); refine box_event ?hg (N := 3) ?hd (cs := #[.int .i64 6, .string t, .string v]) (t := 44) ?hr ?_; (case hd => rfl); (case hg => rfl); (case hr => first | (go_simp; done) | (go_simp; rfl)); intro b hg w1 hbox hb; have X1 := Aside0.mk hbox; have B1 := Aside0.mk hb; have K1 := Aside0.mk (H.out.below hb); have C1 := Aside0.mk ((Ch.of_below hb : Ch evcT F w w1)); have y0 : w1.cell? ⟨b, 0, none⟩ = some (.int .i64 6) := (blk_cell hbox 0).trans rfl; have y1 : w1.cell? ⟨b, 1, none⟩ = some (.string t) := (blk_cell hbox 1).trans rfl; have y2 : w1.cell? ⟨b, 2, none⟩ = some (.string v) := (blk_cell hbox 2).trans rfl; clear hg hbox hb)
            | (go_at_call 16; refine (HRC.out _ B1.out).mono ?_; rintro e w2 ⟨rfl, hb⟩; rw [HR.out]; have B2 := Aside0.mk hb; have K2 := Aside0.mk (K1.out.below hb); have C2 := Aside0.mk (C1.out.trans (Ch.of_below hb)); have X2 := Aside0.mk ((hb.block b (blk_lt X1.out)).trans X1.out); clear y0 y1 y2; have y0 : w2.cell? ⟨b, 0, none⟩ = some (.int .i64 6) := (blk_cell X2.out 0).trans rfl; have y1 : w2.cell? ⟨b, 1, none⟩ = some (.string t) := (blk_cell X2.out 1).trans rfl; have y2 : w2.cell? ⟨b, 2, none⟩ = some (.string v) := (blk_cell X2.out 2).trans rfl; clear hb)
            | (go_at_call 17; refine (last_some K2.out).mono ?_; rintro e w3 ⟨rfl, hb⟩; have B3 := Aside0.mk hb; have K3 := Aside0.mk (K2.out.below hb); have C3 := Aside0.mk (C2.out.trans (Ch.of_below hb)); have X3 := Aside0.mk ((hb.block b (blk_lt X2.out)).trans X2.out); clear y0 y1 y2; have y0 : w3.cell? ⟨b, 0, none⟩ = some (.int .i64 6) := (blk_cell X3.out 0).trans rfl; have y1 : w3.cell? ⟨b, 1, none⟩ = some (.string t) := (blk_cell X3.out 1).trans rfl; have y2 : w3.cell? ⟨b, 2, none⟩ = some (.string v) := (blk_cell X3.out 2).trans rfl; clear hb; have L3 := Aside0.mk (L.out.far (G := fun _ => False) (T := fun _ => False) ((((Ch.of_below B1.out).trans (Ch.of_below B2.out)).trans (Ch.of_below B3.out))) (fun _ _ h => h)); have l0 : w3.cell? ⟨p.1, 0, none⟩ = some (.int .i64 5) := ((blk_cell L3.out.blk 0).trans (by rw [← HK.out]; rfl)); have l1 : w3.cell? ⟨p.1, 1, none⟩ = some (.bool false) := ((blk_cell L3.out.blk 1).trans (by rw [← HKEY.out]; rfl)))
            | (refine MKind.make_event (mkI tI) rfl rfl ?_; intro mm hmm w4 hM hb; have C4 := Aside0.mk (Ch.of_below hb : Ch evcT (fun k => w3.heap.size ≤ k) w3 w4); have M4 := Aside0.mk hM; have MM := Aside0.mk hmm; clear hmm hM hb)
            | (refine MKind.put_event rfl (.inl rfl) (mkI tI) rfl 6 5 rfl rfl M4.out (by unfold maxLen; omega) ⟨by omega, by omega⟩ ⟨by omega, by omega⟩ ?_; intro w5 hm hg; have C5 := Aside0.mk (C4.out.trans ((put_ch (F := fun k => w3.heap.size ≤ k) M4.out MM.out hg).mono (fun _ h => Or.inr (Or.inr (Or.inr h))) (fun _ h => ext_of h))); have M5 := Aside0.mk hm; clear hm hg)
            | (refine MKind.put_event rfl (.inl rfl) (mkI tI) rfl 9 7 rfl rfl M5.out (by unfold maxLen; omega) ⟨by omega, by omega⟩ ⟨by omega, by omega⟩ ?_; intro w6 hm hg; have C6 := Aside0.mk (C5.out.trans ((put_ch (F := fun k => w3.heap.size ≤ k) M5.out MM.out hg).mono (fun _ h => Or.inr (Or.inr (Or.inr h))) (fun _ h => ext_of h))); have M6 := Aside0.mk hm; clear hm hg)
            | (refine MKind.put_event rfl (.inl rfl) (mkI tI) rfl 12 10 rfl rfl M6.out (by unfold maxLen; omega) ⟨by omega, by omega⟩ ⟨by omega, by omega⟩ ?_; intro w7 hm hg; have C7 := Aside0.mk (C6.out.trans ((put_ch (F := fun k => w3.heap.size ≤ k) M6.out MM.out hg).mono (fun _ h => Or.inr (Or.inr (Or.inr h))) (fun _ h => ext_of h))); have M7 := Aside0.mk hm; clear hm hg))
          have B7 := Aside0.mk (C7.out.below (B := w3.heap.size) (fun _ h => h) (Nat.le_refl _))
          have X7 := Aside0.mk ((B7.out.block b (blk_lt X3.out)).trans X3.out)
          have K7 := Aside0.mk (K3.out.below B7.out)
          have C7b := Aside0.mk (C3.out.trans (Ch.of_below B7.out))
          have hlk : ∀ n, (Instr.lookup 62 (.map (some mm)) (.int .i64 6) false).run Tryz.prog (w7.drewN n) = .ok (.int .i64 5) (w7.drewN n) := by
            intro n
            have M8 := is_ch M7.out (Ch.of_below (pw_below_drewN (Below.refl _ _) n) : Ch (fun _ => False) (fun _ => False) _ _) (fun h => h.1)
            exact M8.look1 6 ⟨by omega, by omega⟩
          clear y0 y1 y2
          have y0 : w7.cell? ⟨b, 0, none⟩ = some (.int .i64 6) := (blk_cell X7.out 0).trans rfl
          have L7 := Aside0.mk (L3.out.far (G := fun _ => False) (T := fun _ => False) (Ch.of_below B7.out) (fun _ _ h => h))
          clear l0 l1
          have l0 : w7.cell? ⟨p.1, 0, none⟩ = some (.int .i64 5) := (blk_cell L7.out.blk 0).trans (by rw [← HK.out]; rfl)
          have l1 : w7.cell? ⟨p.1, 1, none⟩ = some (.bool false) := (blk_cell L7.out.blk 1).trans (by rw [← HKEY.out]; rfl)
          go_quiet (fail)
          have DB := Aside0.mk (pw_below_drewN (Below.refl w7.heap.size w7) nq)
          have K8 := Aside0.mk (K7.out.below DB.out)
          have C8 := Aside0.mk (C7b.out.trans (Ch.of_below DB.out))
          clear hlk y0 l0 l1
          generalize w7.drewN nq = w8 at DB K8 C8 ⊢
          go_wp2_with fail
          obtain ⟨ov, hg8, hr8⟩ := K8.out.core
          obtain ⟨ab, ao, n8, hv8, hn8, _, _, _⟩ := hr8.open_ (by simp)
          have hml : n8 ≤ maxLen := by obtain ⟨_, _, hx, _, hy⟩ := hr8.slice; rw [hv8] at hx; injection hx with _ _ h3; omega
          rw [List.length_cons] at hv8 hn8
          subst hv8
          have g0 : w8.cell? ⟨g, 0, none⟩ = some (.slice (some ⟨ab, ao, none⟩) (ps.length + 1) n8) := (blk_cell hg8 0).trans rfl
          have HPOP := Aside0.mk ((K8.out.below (below_drew (Below.refl w8.heap.size w8))).pop HOP.out (A := some ⟨ab, ao, none⟩) (n := n8) g0)
          have DB8 := Aside0.mk (below_drew (Below.refl w8.heap.size w8))
          have HF0 := Aside0.mk (blk_frozen hg8 0)
          have e1 : IntKind.i64.wrap ((ps.length : Int)) = (ps.length : Int) := Go.IntWalk.i64_in _ (by unfold maxLen at hml; omega)
          have e0 : IntKind.i64.wrap ((ps.length : Int) + 1 - 1) = (ps.length : Int) := by rw [Int.add_sub_cancel]; exact e1
          have e3 : (0 : Int) ≤ (ps.length : Int) := by omega
          have e5 : (ps.length : Int) ≤ (n8 : Int) := by omega
          have e6 : ps.length ≤ n8 := by omega
          clear hg8 hr8 hn8 hml
          refine wp_region_still_tail 14 (by kernel_rfl) (by kernel_rfl) ?_
          simp only [List.take_succ_cons, List.take_zero, List.drop_succ_cons, List.drop_zero]
          iterate 14 still_step
          refine wpStill_nil ?_
          change wpList _ _ _ _ _ w8.drew
          have f0 : w8.drew.frozen? ⟨g, 0, none⟩ = false := HF0.out
          go_wp2
          go_ret
          unfold StepPost
          rw [HG.out]
          exact ⟨ps, rfl, HPOP.out.1, (C8.out.trans (Ch.of_below DB8.out)).trans (HPOP.out.2.mono (fun _ h => h) (fun _ h => ext_of h))⟩
      · have HG := Aside0.mk (show stepC rightD c ⟨6, t, v⟩ = (c, 19) by unfold stepC; rw [if_pos hr]; unfold goesC; simp [hop, hlk, h7, endsK])
        have n7 : (lk == 5) = false := by rw [beq_eq_false_iff_ne]; exact h7
        have m7 : decide (lk = 5) = false := decide_eq_false h7
        have b7 : (lk != 5) = true := by rw [bne_iff_ne]; exact h7
        clear hr h hF ht hT hl hop hlk hlb h7
        go_enter Tryz.func11, Tryz.ntmps11
        go_wp2_with (first
          | ((with_reducible refine gate_dst (N := 3) rfl ?_); refine box_event ?hg (N := 3) ?hd (cs := #[.int .i64 6, .string t, .string v]) (t := 44) ?hr ?_; (case hd => rfl); (case hg => rfl); (case hr => first | (go_simp; done) | (go_simp; rfl)); intro b hg w1 hbox hb; have X1 := Aside0.mk hbox; have B1 := Aside0.mk hb; have K1 := Aside0.mk (H.out.below hb); have C1 := Aside0.mk ((Ch.of_below hb : Ch evcT F w w1)); have y0 : w1.cell? ⟨b, 0, none⟩ = some (.int .i64 6) := (blk_cell hbox 0).trans rfl; have y1 : w1.cell? ⟨b, 1, none⟩ = some (.string t) := (blk_cell hbox 1).trans rfl; have y2 : w1.cell? ⟨b, 2, none⟩ = some (.string v) := (blk_cell hbox 2).trans rfl; clear hg hbox hb)
          | (go_at_call 16; refine (HRC.out _ B1.out).mono ?_; rintro e w2 ⟨rfl, hb⟩; rw [HR.out]; have B2 := Aside0.mk hb; have K2 := Aside0.mk (K1.out.below hb); have C2 := Aside0.mk (C1.out.trans (Ch.of_below hb)); have X2 := Aside0.mk ((hb.block b (blk_lt X1.out)).trans X1.out); clear y0 y1 y2; have y0 : w2.cell? ⟨b, 0, none⟩ = some (.int .i64 6) := (blk_cell X2.out 0).trans rfl; have y1 : w2.cell? ⟨b, 1, none⟩ = some (.string t) := (blk_cell X2.out 1).trans rfl; have y2 : w2.cell? ⟨b, 2, none⟩ = some (.string v) := (blk_cell X2.out 2).trans rfl; clear hb)
          | (go_at_call 17; refine (last_some K2.out).mono ?_; rintro e w3 ⟨rfl, hb⟩; have B3 := Aside0.mk hb; have K3 := Aside0.mk (K2.out.below hb); have C3 := Aside0.mk (C2.out.trans (Ch.of_below hb)); have X3 := Aside0.mk ((hb.block b (blk_lt X2.out)).trans X2.out); clear y0 y1 y2; have y0 : w3.cell? ⟨b, 0, none⟩ = some (.int .i64 6) := (blk_cell X3.out 0).trans rfl; have y1 : w3.cell? ⟨b, 1, none⟩ = some (.string t) := (blk_cell X3.out 1).trans rfl; have y2 : w3.cell? ⟨b, 2, none⟩ = some (.string v) := (blk_cell X3.out 2).trans rfl; clear hb; have L3 := Aside0.mk (L.out.far (G := fun _ => False) (T := fun _ => False) ((((Ch.of_below B1.out).trans (Ch.of_below B2.out)).trans (Ch.of_below B3.out))) (fun _ _ h => h)); have l0 : w3.cell? ⟨p.1, 0, none⟩ = some (.int .i64 lk) := ((blk_cell L3.out.blk 0).trans (by rw [← HK.out]; rfl)); have l1 : w3.cell? ⟨p.1, 1, none⟩ = some (.bool lb) := ((blk_cell L3.out.blk 1).trans (by rw [← HKEY.out]; rfl)))
          | (refine MKind.make_event (mkI tI) rfl rfl ?_; intro mm hmm w4 hM hb; have C4 := Aside0.mk (Ch.of_below hb : Ch evcT (fun k => w3.heap.size ≤ k) w3 w4); have M4 := Aside0.mk hM; have MM := Aside0.mk hmm; clear hmm hM hb)
          | (refine MKind.put_event rfl (.inl rfl) (mkI tI) rfl 6 5 rfl rfl M4.out (by unfold maxLen; omega) ⟨by omega, by omega⟩ ⟨by omega, by omega⟩ ?_; intro w5 hm hg; have C5 := Aside0.mk (C4.out.trans ((put_ch (F := fun k => w3.heap.size ≤ k) M4.out MM.out hg).mono (fun _ h => Or.inr (Or.inr (Or.inr h))) (fun _ h => ext_of h))); have M5 := Aside0.mk hm; clear hm hg)
          | (refine MKind.put_event rfl (.inl rfl) (mkI tI) rfl 9 7 rfl rfl M5.out (by unfold maxLen; omega) ⟨by omega, by omega⟩ ⟨by omega, by omega⟩ ?_; intro w6 hm hg; have C6 := Aside0.mk (C5.out.trans ((put_ch (F := fun k => w3.heap.size ≤ k) M5.out MM.out hg).mono (fun _ h => Or.inr (Or.inr (Or.inr h))) (fun _ h => ext_of h))); have M6 := Aside0.mk hm; clear hm hg)
          | (refine MKind.put_event rfl (.inl rfl) (mkI tI) rfl 12 10 rfl rfl M6.out (by unfold maxLen; omega) ⟨by omega, by omega⟩ ⟨by omega, by omega⟩ ?_; intro w7 hm hg; have C7 := Aside0.mk (C6.out.trans ((put_ch (F := fun k => w3.heap.size ≤ k) M6.out MM.out hg).mono (fun _ h => Or.inr (Or.inr (Or.inr h))) (fun _ h => ext_of h))); have M7 := Aside0.mk hm; clear hm hg))
        have B7 := Aside0.mk (C7.out.below (B := w3.heap.size) (fun _ h => h) (Nat.le_refl _))
        have X7 := Aside0.mk ((B7.out.block b (blk_lt X3.out)).trans X3.out)
        have K7 := Aside0.mk (K3.out.below B7.out)
        have C7b := Aside0.mk (C3.out.trans (Ch.of_below B7.out))
        have hlk : ∀ n, (Instr.lookup 62 (.map (some mm)) (.int .i64 6) false).run Tryz.prog (w7.drewN n) = .ok (.int .i64 5) (w7.drewN n) := by
          intro n
          have M8 := is_ch M7.out (Ch.of_below (pw_below_drewN (Below.refl _ _) n) : Ch (fun _ => False) (fun _ => False) _ _) (fun h => h.1)
          exact M8.look1 6 ⟨by omega, by omega⟩
        clear y0 y1 y2
        have y0 : w7.cell? ⟨b, 0, none⟩ = some (.int .i64 6) := (blk_cell X7.out 0).trans rfl
        have L7 := Aside0.mk (L3.out.far (G := fun _ => False) (T := fun _ => False) (Ch.of_below B7.out) (fun _ _ h => h))
        clear l0 l1
        have l0 : w7.cell? ⟨p.1, 0, none⟩ = some (.int .i64 lk) := (blk_cell L7.out.blk 0).trans (by rw [← HK.out]; rfl)
        have l1 : w7.cell? ⟨p.1, 1, none⟩ = some (.bool lb) := (blk_cell L7.out.blk 1).trans (by rw [← HKEY.out]; rfl)
        go_quiet (fail)
        have DB := Aside0.mk (pw_below_drewN (Below.refl w7.heap.size w7) nq)
        have K8 := Aside0.mk (K7.out.below DB.out)
        have C8 := Aside0.mk (C7b.out.trans (Ch.of_below DB.out))
        clear hlk y0 l0 l1
        generalize w7.drewN nq = w8 at DB K8 C8 ⊢
        go_wp2
        go_ret
        unfold StepPost
        rw [HG.out]
        exact ⟨_, rfl, K8.out, C8.out⟩
set_option maxHeartbeats 8000000 in
set_option maxRecDepth 100000 in
theorem step_close9 {F : Nat → Prop} {w : World} {g : Nat} {ps : List (Nat × Nat)} {c : CK} (t v : ByteArray) (h : CkAt F w g ps c) (hF : ∀ k, w.heap.size ≤ k → F k) (ht : t.size ≤ 1000000) (hT : Tab.Tabs w) :
    Calls Tryz.prog 11 #[pt g, evA ⟨9, t, v⟩] w (StepPost F w g c ⟨9, t, v⟩) := by
  have H := Aside0.mk h
  have HFF := Aside0.mk hF
  have HRC := Aside0.mk (fun w1 (hb : Below w.heap.size w w1) => right_calls (w := w1) ⟨9, t, v⟩ (by simp) ht (hT.below hb))
  cases hr : rightD ⟨9, t, v⟩ with
  | false =>
    have HR := Aside0.mk hr
    have HG := Aside0.mk (show stepC rightD c ⟨9, t, v⟩ = (c, 19) by unfold stepC; rw [hr]; rfl)
    clear hr h hF ht hT
    go_enter Tryz.func11, Tryz.ntmps11
    go_wp2_with (first
      | ((with_reducible refine gate_dst (N := 3) rfl ?_); refine box_event ?hg (N := 3) ?hd (cs := #[.int .i64 9, .string t, .string v]) (t := 44) ?hr ?_; (case hd => rfl); (case hg => rfl); (case hr => first | (go_simp; done) | (go_simp; rfl)); intro b hg w1 hbox hb; have X1 := Aside0.mk hbox; have B1 := Aside0.mk hb; have K1 := Aside0.mk (H.out.below hb); have C1 := Aside0.mk ((Ch.of_below hb : Ch evcT F w w1)); have y0 : w1.cell? ⟨b, 0, none⟩ = some (.int .i64 9) := (blk_cell hbox 0).trans rfl; have y1 : w1.cell? ⟨b, 1, none⟩ = some (.string t) := (blk_cell hbox 1).trans rfl; have y2 : w1.cell? ⟨b, 2, none⟩ = some (.string v) := (blk_cell hbox 2).trans rfl; clear hg hbox hb)
      | (go_at_call 16; refine (HRC.out _ B1.out).mono ?_; rintro e w2 ⟨rfl, hb⟩; rw [HR.out]; have B2 := Aside0.mk hb; have K2 := Aside0.mk (K1.out.below hb); have C2 := Aside0.mk (C1.out.trans (Ch.of_below hb)); have X2 := Aside0.mk ((hb.block b (blk_lt X1.out)).trans X1.out); clear y0 y1 y2; have y0 : w2.cell? ⟨b, 0, none⟩ = some (.int .i64 9) := (blk_cell X2.out 0).trans rfl; have y1 : w2.cell? ⟨b, 1, none⟩ = some (.string t) := (blk_cell X2.out 1).trans rfl; have y2 : w2.cell? ⟨b, 2, none⟩ = some (.string v) := (blk_cell X2.out 2).trans rfl; clear hb))
    go_ret
    unfold StepPost
    rw [HG.out]
    exact ⟨ps, rfl, K2.out, C2.out⟩
  | true =>
    have HR := Aside0.mk hr
    cases ps with
    | nil =>
      have HG := Aside0.mk (show stepC rightD c ⟨9, t, v⟩ = (c, 19) by unfold stepC; rw [if_pos hr]; unfold goesC; simp [h.noneOp])
      clear hr h hF ht hT
      go_enter Tryz.func11, Tryz.ntmps11
      go_wp2_with (first
        | ((with_reducible refine gate_dst (N := 3) rfl ?_); refine box_event ?hg (N := 3) ?hd (cs := #[.int .i64 9, .string t, .string v]) (t := 44) ?hr ?_; (case hd => rfl); (case hg => rfl); (case hr => first | (go_simp; done) | (go_simp; rfl)); intro b hg w1 hbox hb; have X1 := Aside0.mk hbox; have B1 := Aside0.mk hb; have K1 := Aside0.mk (H.out.below hb); have C1 := Aside0.mk ((Ch.of_below hb : Ch evcT F w w1)); have y0 : w1.cell? ⟨b, 0, none⟩ = some (.int .i64 9) := (blk_cell hbox 0).trans rfl; have y1 : w1.cell? ⟨b, 1, none⟩ = some (.string t) := (blk_cell hbox 1).trans rfl; have y2 : w1.cell? ⟨b, 2, none⟩ = some (.string v) := (blk_cell hbox 2).trans rfl; clear hg hbox hb)
        | (go_at_call 16; refine (HRC.out _ B1.out).mono ?_; rintro e w2 ⟨rfl, hb⟩; rw [HR.out]; have B2 := Aside0.mk hb; have K2 := Aside0.mk (K1.out.below hb); have C2 := Aside0.mk (C1.out.trans (Ch.of_below hb)); have X2 := Aside0.mk ((hb.block b (blk_lt X1.out)).trans X1.out); clear y0 y1 y2; have y0 : w2.cell? ⟨b, 0, none⟩ = some (.int .i64 9) := (blk_cell X2.out 0).trans rfl; have y1 : w2.cell? ⟨b, 1, none⟩ = some (.string t) := (blk_cell X2.out 1).trans rfl; have y2 : w2.cell? ⟨b, 2, none⟩ = some (.string v) := (blk_cell X2.out 2).trans rfl; clear hb)
        | (go_at_call 17; refine (last_none K2.out).mono ?_; rintro e w3 ⟨rfl, hb⟩; have B3 := Aside0.mk hb; have K3 := Aside0.mk (K2.out.below hb); have C3 := Aside0.mk (C2.out.trans (Ch.of_below hb)); have X3 := Aside0.mk ((hb.block b (blk_lt X2.out)).trans X2.out); clear y0 y1 y2; have y0 : w3.cell? ⟨b, 0, none⟩ = some (.int .i64 9) := (blk_cell X3.out 0).trans rfl; have y1 : w3.cell? ⟨b, 1, none⟩ = some (.string t) := (blk_cell X3.out 1).trans rfl; have y2 : w3.cell? ⟨b, 2, none⟩ = some (.string v) := (blk_cell X3.out 2).trans rfl; clear hb)
        | (refine MKind.make_event (mkI tI) rfl rfl ?_; intro mm hmm w4 hM hb; have C4 := Aside0.mk (Ch.of_below hb : Ch evcT (fun k => w3.heap.size ≤ k) w3 w4); have M4 := Aside0.mk hM; have MM := Aside0.mk hmm; clear hmm hM hb)
        | (refine MKind.put_event rfl (.inl rfl) (mkI tI) rfl 6 5 rfl rfl M4.out (by unfold maxLen; omega) ⟨by omega, by omega⟩ ⟨by omega, by omega⟩ ?_; intro w5 hm hg; have C5 := Aside0.mk (C4.out.trans ((put_ch (F := fun k => w3.heap.size ≤ k) M4.out MM.out hg).mono (fun _ h => Or.inr (Or.inr (Or.inr h))) (fun _ h => ext_of h))); have M5 := Aside0.mk hm; clear hm hg)
        | (refine MKind.put_event rfl (.inl rfl) (mkI tI) rfl 9 7 rfl rfl M5.out (by unfold maxLen; omega) ⟨by omega, by omega⟩ ⟨by omega, by omega⟩ ?_; intro w6 hm hg; have C6 := Aside0.mk (C5.out.trans ((put_ch (F := fun k => w3.heap.size ≤ k) M5.out MM.out hg).mono (fun _ h => Or.inr (Or.inr (Or.inr h))) (fun _ h => ext_of h))); have M6 := Aside0.mk hm; clear hm hg)
        | (refine MKind.put_event rfl (.inl rfl) (mkI tI) rfl 12 10 rfl rfl M6.out (by unfold maxLen; omega) ⟨by omega, by omega⟩ ⟨by omega, by omega⟩ ?_; intro w7 hm hg; have C7 := Aside0.mk (C6.out.trans ((put_ch (F := fun k => w3.heap.size ≤ k) M6.out MM.out hg).mono (fun _ h => Or.inr (Or.inr (Or.inr h))) (fun _ h => ext_of h))); have M7 := Aside0.mk hm; clear hm hg))
      have B7 := Aside0.mk (C7.out.below (B := w3.heap.size) (fun _ h => h) (Nat.le_refl _))
      have X7 := Aside0.mk ((B7.out.block b (blk_lt X3.out)).trans X3.out)
      have K7 := Aside0.mk (K3.out.below B7.out)
      have C7b := Aside0.mk (C3.out.trans (Ch.of_below B7.out))
      have hlk : ∀ n, (Instr.lookup 62 (.map (some mm)) (.int .i64 9) false).run Tryz.prog (w7.drewN n) = .ok (.int .i64 7) (w7.drewN n) := by
        intro n
        have M8 := is_ch M7.out (Ch.of_below (pw_below_drewN (Below.refl _ _) n) : Ch (fun _ => False) (fun _ => False) _ _) (fun h => h.1)
        exact M8.look1 9 ⟨by omega, by omega⟩
      clear y0 y1 y2
      have y0 : w7.cell? ⟨b, 0, none⟩ = some (.int .i64 9) := (blk_cell X7.out 0).trans rfl
      go_quiet (fail)
      have DB := Aside0.mk (pw_below_drewN (Below.refl w7.heap.size w7) nq)
      have K8 := Aside0.mk (K7.out.below DB.out)
      have C8 := Aside0.mk (C7b.out.trans (Ch.of_below DB.out))
      clear hlk y0
      generalize w7.drewN nq = w8 at DB K8 C8 ⊢
      go_wp2
      go_ret
      unfold StepPost
      rw [HG.out]
      exact ⟨_, rfl, K8.out, C8.out⟩
    | cons p ps =>
      obtain ⟨l, r, hop, hl⟩ := h.head
      have L := Aside0.mk hl
      have HOP := Aside0.mk hop
      obtain ⟨lk, hlk⟩ : ∃ y, l.k = y := ⟨_, rfl⟩
      obtain ⟨lb, hlb⟩ : ∃ y, l.key = y := ⟨_, rfl⟩
      have HK := Aside0.mk hlk
      have HKEY := Aside0.mk hlb
      by_cases h7 : lk = 7
      · subst h7
        cases lb with
        | true =>
          have HG := Aside0.mk (show stepC rightD c ⟨9, t, v⟩ = (c, 19) by unfold stepC; rw [if_pos hr]; unfold goesC; simp [hop, hlk, hlb, endsK])
          clear hr h hF ht hT hl hop hlk hlb
          go_enter Tryz.func11, Tryz.ntmps11
          go_wp2_with (first
            | ((with_reducible refine gate_dst (N := 3) rfl ?_); refine box_event ?hg (N := 3) ?hd (cs := #[.int .i64 9, .string t, .string v]) (t := 44) ?hr ?_; (case hd => rfl); (case hg => rfl); (case hr => first | (go_simp; done) | (go_simp; rfl)); intro b hg w1 hbox hb; have X1 := Aside0.mk hbox; have B1 := Aside0.mk hb; have K1 := Aside0.mk (H.out.below hb); have C1 := Aside0.mk ((Ch.of_below hb : Ch evcT F w w1)); have y0 : w1.cell? ⟨b, 0, none⟩ = some (.int .i64 9) := (blk_cell hbox 0).trans rfl; have y1 : w1.cell? ⟨b, 1, none⟩ = some (.string t) := (blk_cell hbox 1).trans rfl; have y2 : w1.cell? ⟨b, 2, none⟩ = some (.string v) := (blk_cell hbox 2).trans rfl; clear hg hbox hb)
            | (go_at_call 16; refine (HRC.out _ B1.out).mono ?_; rintro e w2 ⟨rfl, hb⟩; rw [HR.out]; have B2 := Aside0.mk hb; have K2 := Aside0.mk (K1.out.below hb); have C2 := Aside0.mk (C1.out.trans (Ch.of_below hb)); have X2 := Aside0.mk ((hb.block b (blk_lt X1.out)).trans X1.out); clear y0 y1 y2; have y0 : w2.cell? ⟨b, 0, none⟩ = some (.int .i64 9) := (blk_cell X2.out 0).trans rfl; have y1 : w2.cell? ⟨b, 1, none⟩ = some (.string t) := (blk_cell X2.out 1).trans rfl; have y2 : w2.cell? ⟨b, 2, none⟩ = some (.string v) := (blk_cell X2.out 2).trans rfl; clear hb)
            | (go_at_call 17; refine (last_some K2.out).mono ?_; rintro e w3 ⟨rfl, hb⟩; have B3 := Aside0.mk hb; have K3 := Aside0.mk (K2.out.below hb); have C3 := Aside0.mk (C2.out.trans (Ch.of_below hb)); have X3 := Aside0.mk ((hb.block b (blk_lt X2.out)).trans X2.out); clear y0 y1 y2; have y0 : w3.cell? ⟨b, 0, none⟩ = some (.int .i64 9) := (blk_cell X3.out 0).trans rfl; have y1 : w3.cell? ⟨b, 1, none⟩ = some (.string t) := (blk_cell X3.out 1).trans rfl; have y2 : w3.cell? ⟨b, 2, none⟩ = some (.string v) := (blk_cell X3.out 2).trans rfl; clear hb; have L3 := Aside0.mk (L.out.far (G := fun _ => False) (T := fun _ => False) ((((Ch.of_below B1.out).trans (Ch.of_below B2.out)).trans (Ch.of_below B3.out))) (fun _ _ h => h)); have l0 : w3.cell? ⟨p.1, 0, none⟩ = some (.int .i64 7) := ((blk_cell L3.out.blk 0).trans (by rw [← HK.out]; rfl)); have l1 : w3.cell? ⟨p.1, 1, none⟩ = some (.bool true) := ((blk_cell L3.out.blk 1).trans (by rw [← HKEY.out]; rfl)))
            | (refine MKind.make_event (mkI tI) rfl rfl ?_; intro mm hmm w4 hM hb; have C4 := Aside0.mk (Ch.of_below hb : Ch evcT (fun k => w3.heap.size ≤ k) w3 w4); have M4 := Aside0.mk hM; have MM := Aside0.mk hmm; clear hmm hM hb)
            | (refine MKind.put_event rfl (.inl rfl) (mkI tI) rfl 6 5 rfl rfl M4.out (by unfold maxLen; omega) ⟨by omega, by omega⟩ ⟨by omega, by omega⟩ ?_; intro w5 hm hg; have C5 := Aside0.mk (C4.out.trans ((put_ch (F := fun k => w3.heap.size ≤ k) M4.out MM.out hg).mono (fun _ h => Or.inr (Or.inr (Or.inr h))) (fun _ h => ext_of h))); have M5 := Aside0.mk hm; clear hm hg)
            | (refine MKind.put_event rfl (.inl rfl) (mkI tI) rfl 9 7 rfl rfl M5.out (by unfold maxLen; omega) ⟨by omega, by omega⟩ ⟨by omega, by omega⟩ ?_; intro w6 hm hg; have C6 := Aside0.mk (C5.out.trans ((put_ch (F := fun k => w3.heap.size ≤ k) M5.out MM.out hg).mono (fun _ h => Or.inr (Or.inr (Or.inr h))) (fun _ h => ext_of h))); have M6 := Aside0.mk hm; clear hm hg)
            | (refine MKind.put_event rfl (.inl rfl) (mkI tI) rfl 12 10 rfl rfl M6.out (by unfold maxLen; omega) ⟨by omega, by omega⟩ ⟨by omega, by omega⟩ ?_; intro w7 hm hg; have C7 := Aside0.mk (C6.out.trans ((put_ch (F := fun k => w3.heap.size ≤ k) M6.out MM.out hg).mono (fun _ h => Or.inr (Or.inr (Or.inr h))) (fun _ h => ext_of h))); have M7 := Aside0.mk hm; clear hm hg))
          have B7 := Aside0.mk (C7.out.below (B := w3.heap.size) (fun _ h => h) (Nat.le_refl _))
          have X7 := Aside0.mk ((B7.out.block b (blk_lt X3.out)).trans X3.out)
          have K7 := Aside0.mk (K3.out.below B7.out)
          have C7b := Aside0.mk (C3.out.trans (Ch.of_below B7.out))
          have hlk : ∀ n, (Instr.lookup 62 (.map (some mm)) (.int .i64 9) false).run Tryz.prog (w7.drewN n) = .ok (.int .i64 7) (w7.drewN n) := by
            intro n
            have M8 := is_ch M7.out (Ch.of_below (pw_below_drewN (Below.refl _ _) n) : Ch (fun _ => False) (fun _ => False) _ _) (fun h => h.1)
            exact M8.look1 9 ⟨by omega, by omega⟩
          clear y0 y1 y2
          have y0 : w7.cell? ⟨b, 0, none⟩ = some (.int .i64 9) := (blk_cell X7.out 0).trans rfl
          have L7 := Aside0.mk (L3.out.far (G := fun _ => False) (T := fun _ => False) (Ch.of_below B7.out) (fun _ _ h => h))
          clear l0 l1
          have l0 : w7.cell? ⟨p.1, 0, none⟩ = some (.int .i64 7) := (blk_cell L7.out.blk 0).trans (by rw [← HK.out]; rfl)
          have l1 : w7.cell? ⟨p.1, 1, none⟩ = some (.bool true) := (blk_cell L7.out.blk 1).trans (by rw [← HKEY.out]; rfl)
          go_quiet (fail)
          have DB := Aside0.mk (pw_below_drewN (Below.refl w7.heap.size w7) nq)
          have K8 := Aside0.mk (K7.out.below DB.out)
          have C8 := Aside0.mk (C7b.out.trans (Ch.of_below DB.out))
          clear hlk y0 l0 l1
          generalize w7.drewN nq = w8 at DB K8 C8 ⊢
          go_wp2
          go_ret
          unfold StepPost
          rw [HG.out]
          exact ⟨_, rfl, K8.out, C8.out⟩
        | false =>
          have HG := Aside0.mk (show stepC rightD c ⟨9, t, v⟩ = ({ c with op := r }, 0) by unfold stepC; rw [if_pos hr]; unfold goesC; simp [hop, hlk, hlb, endsK])
          clear hr h hF ht hT hl hop hlk hlb
          go_enter Tryz.func11, Tryz.ntmps11
          go_wp2_with (first
            | ((with_reducible refine gate_dst (N := 3) rfl ?_); refine box_event ?hg (N := 3) ?hd (cs := #[.int .i64 9, .string t, .string v]) (t := 44) ?hr ?_; (case hd => rfl); (case hg => rfl); (case hr => first | (go_simp; done) | (go_simp; rfl)); intro b hg w1 hbox hb; have X1 := Aside0.mk hbox; have B1 := Aside0.mk hb; have K1 := Aside0.mk (H.out.below hb); have C1 := Aside0.mk ((Ch.of_below hb : Ch evcT F w w1)); have y0 : w1.cell? ⟨b, 0, none⟩ = some (.int .i64 9) := (blk_cell hbox 0).trans rfl; have y1 : w1.cell? ⟨b, 1, none⟩ = some (.string t) := (blk_cell hbox 1).trans rfl; have y2 : w1.cell? ⟨b, 2, none⟩ = some (.string v) := (blk_cell hbox 2).trans rfl; clear hg hbox hb)
            | (go_at_call 16; refine (HRC.out _ B1.out).mono ?_; rintro e w2 ⟨rfl, hb⟩; rw [HR.out]; have B2 := Aside0.mk hb; have K2 := Aside0.mk (K1.out.below hb); have C2 := Aside0.mk (C1.out.trans (Ch.of_below hb)); have X2 := Aside0.mk ((hb.block b (blk_lt X1.out)).trans X1.out); clear y0 y1 y2; have y0 : w2.cell? ⟨b, 0, none⟩ = some (.int .i64 9) := (blk_cell X2.out 0).trans rfl; have y1 : w2.cell? ⟨b, 1, none⟩ = some (.string t) := (blk_cell X2.out 1).trans rfl; have y2 : w2.cell? ⟨b, 2, none⟩ = some (.string v) := (blk_cell X2.out 2).trans rfl; clear hb)
            | (go_at_call 17; refine (last_some K2.out).mono ?_; rintro e w3 ⟨rfl, hb⟩; have B3 := Aside0.mk hb; have K3 := Aside0.mk (K2.out.below hb); have C3 := Aside0.mk (C2.out.trans (Ch.of_below hb)); have X3 := Aside0.mk ((hb.block b (blk_lt X2.out)).trans X2.out); clear y0 y1 y2; have y0 : w3.cell? ⟨b, 0, none⟩ = some (.int .i64 9) := (blk_cell X3.out 0).trans rfl; have y1 : w3.cell? ⟨b, 1, none⟩ = some (.string t) := (blk_cell X3.out 1).trans rfl; have y2 : w3.cell? ⟨b, 2, none⟩ = some (.string v) := (blk_cell X3.out 2).trans rfl; clear hb; have L3 := Aside0.mk (L.out.far (G := fun _ => False) (T := fun _ => False) ((((Ch.of_below B1.out).trans (Ch.of_below B2.out)).trans (Ch.of_below B3.out))) (fun _ _ h => h)); have l0 : w3.cell? ⟨p.1, 0, none⟩ = some (.int .i64 7) := ((blk_cell L3.out.blk 0).trans (by rw [← HK.out]; rfl)); have l1 : w3.cell? ⟨p.1, 1, none⟩ = some (.bool false) := ((blk_cell L3.out.blk 1).trans (by rw [← HKEY.out]; rfl)))
            | (refine MKind.make_event (mkI tI) rfl rfl ?_; intro mm hmm w4 hM hb; have C4 := Aside0.mk (Ch.of_below hb : Ch evcT (fun k => w3.heap.size ≤ k) w3 w4); have M4 := Aside0.mk hM; have MM := Aside0.mk hmm; clear hmm hM hb)
            | (refine MKind.put_event rfl (.inl rfl) (mkI tI) rfl 6 5 rfl rfl M4.out (by unfold maxLen; omega) ⟨by omega, by omega⟩ ⟨by omega, by omega⟩ ?_; intro w5 hm hg; have C5 := Aside0.mk (C4.out.trans ((put_ch (F := fun k => w3.heap.size ≤ k) M4.out MM.out hg).mono (fun _ h => Or.inr (Or.inr (Or.inr h))) (fun _ h => ext_of h))); have M5 := Aside0.mk hm; clear hm hg)
            | (refine MKind.put_event rfl (.inl rfl) (mkI tI) rfl 9 7 rfl rfl M5.out (by unfold maxLen; omega) ⟨by omega, by omega⟩ ⟨by omega, by omega⟩ ?_; intro w6 hm hg; have C6 := Aside0.mk (C5.out.trans ((put_ch (F := fun k => w3.heap.size ≤ k) M5.out MM.out hg).mono (fun _ h => Or.inr (Or.inr (Or.inr h))) (fun _ h => ext_of h))); have M6 := Aside0.mk hm; clear hm hg)
            | (refine MKind.put_event rfl (.inl rfl) (mkI tI) rfl 12 10 rfl rfl M6.out (by unfold maxLen; omega) ⟨by omega, by omega⟩ ⟨by omega, by omega⟩ ?_; intro w7 hm hg; have C7 := Aside0.mk (C6.out.trans ((put_ch (F := fun k => w3.heap.size ≤ k) M6.out MM.out hg).mono (fun _ h => Or.inr (Or.inr (Or.inr h))) (fun _ h => ext_of h))); have M7 := Aside0.mk hm; clear hm hg))
          have B7 := Aside0.mk (C7.out.below (B := w3.heap.size) (fun _ h => h) (Nat.le_refl _))
          have X7 := Aside0.mk ((B7.out.block b (blk_lt X3.out)).trans X3.out)
          have K7 := Aside0.mk (K3.out.below B7.out)
          have C7b := Aside0.mk (C3.out.trans (Ch.of_below B7.out))
          have hlk : ∀ n, (Instr.lookup 62 (.map (some mm)) (.int .i64 9) false).run Tryz.prog (w7.drewN n) = .ok (.int .i64 7) (w7.drewN n) := by
            intro n
            have M8 := is_ch M7.out (Ch.of_below (pw_below_drewN (Below.refl _ _) n) : Ch (fun _ => False) (fun _ => False) _ _) (fun h => h.1)
            exact M8.look1 9 ⟨by omega, by omega⟩
          clear y0 y1 y2
          have y0 : w7.cell? ⟨b, 0, none⟩ = some (.int .i64 9) := (blk_cell X7.out 0).trans rfl
          have L7 := Aside0.mk (L3.out.far (G := fun _ => False) (T := fun _ => False) (Ch.of_below B7.out) (fun _ _ h => h))
          clear l0 l1
          have l0 : w7.cell? ⟨p.1, 0, none⟩ = some (.int .i64 7) := (blk_cell L7.out.blk 0).trans (by rw [← HK.out]; rfl)
          have l1 : w7.cell? ⟨p.1, 1, none⟩ = some (.bool false) := (blk_cell L7.out.blk 1).trans (by rw [← HKEY.out]; rfl)
          go_quiet (fail)
          have DB := Aside0.mk (pw_below_drewN (Below.refl w7.heap.size w7) nq)
          have K8 := Aside0.mk (K7.out.below DB.out)
          have C8 := Aside0.mk (C7b.out.trans (Ch.of_below DB.out))
          clear hlk y0 l0 l1
          generalize w7.drewN nq = w8 at DB K8 C8 ⊢
          go_wp2_with fail
          obtain ⟨ov, hg8, hr8⟩ := K8.out.core
          obtain ⟨ab, ao, n8, hv8, hn8, _, _, _⟩ := hr8.open_ (by simp)
          have hml : n8 ≤ maxLen := by obtain ⟨_, _, hx, _, hy⟩ := hr8.slice; rw [hv8] at hx; injection hx with _ _ h3; omega
          rw [List.length_cons] at hv8 hn8
          subst hv8
          have g0 : w8.cell? ⟨g, 0, none⟩ = some (.slice (some ⟨ab, ao, none⟩) (ps.length + 1) n8) := (blk_cell hg8 0).trans rfl
          have HPOP := Aside0.mk ((K8.out.below (below_drew (Below.refl w8.heap.size w8))).pop HOP.out (A := some ⟨ab, ao, none⟩) (n := n8) g0)
          have DB8 := Aside0.mk (below_drew (Below.refl w8.heap.size w8))
          have HF0 := Aside0.mk (blk_frozen hg8 0)
          have e1 : IntKind.i64.wrap ((ps.length : Int)) = (ps.length : Int) := Go.IntWalk.i64_in _ (by unfold maxLen at hml; omega)
          have e0 : IntKind.i64.wrap ((ps.length : Int) + 1 - 1) = (ps.length : Int) := by rw [Int.add_sub_cancel]; exact e1
          have e3 : (0 : Int) ≤ (ps.length : Int) := by omega
          have e5 : (ps.length : Int) ≤ (n8 : Int) := by omega
          have e6 : ps.length ≤ n8 := by omega
          clear hg8 hr8 hn8 hml
          refine wp_region_still_tail 14 (by kernel_rfl) (by kernel_rfl) ?_
          simp only [List.take_succ_cons, List.take_zero, List.drop_succ_cons, List.drop_zero]
          iterate 14 still_step
          refine wpStill_nil ?_
          change wpList _ _ _ _ _ w8.drew
          have f0 : w8.drew.frozen? ⟨g, 0, none⟩ = false := HF0.out
          go_wp2
          go_ret
          unfold StepPost
          rw [HG.out]
          exact ⟨ps, rfl, HPOP.out.1, (C8.out.trans (Ch.of_below DB8.out)).trans (HPOP.out.2.mono (fun _ h => h) (fun _ h => ext_of h))⟩
      · have HG := Aside0.mk (show stepC rightD c ⟨9, t, v⟩ = (c, 19) by unfold stepC; rw [if_pos hr]; unfold goesC; simp [hop, hlk, h7, endsK])
        have n7 : (lk == 7) = false := by rw [beq_eq_false_iff_ne]; exact h7
        have m7 : decide (lk = 7) = false := decide_eq_false h7
        have b7 : (lk != 7) = true := by rw [bne_iff_ne]; exact h7
        clear hr h hF ht hT hl hop hlk hlb h7
        go_enter Tryz.func11, Tryz.ntmps11
        go_wp2_with (first
          | ((with_reducible refine gate_dst (N := 3) rfl ?_); refine box_event ?hg (N := 3) ?hd (cs := #[.int .i64 9, .string t, .string v]) (t := 44) ?hr ?_; (case hd => rfl); (case hg => rfl); (case hr => first | (go_simp; done) | (go_simp; rfl)); intro b hg w1 hbox hb; have X1 := Aside0.mk hbox; have B1 := Aside0.mk hb; have K1 := Aside0.mk (H.out.below hb); have C1 := Aside0.mk ((Ch.of_below hb : Ch evcT F w w1)); have y0 : w1.cell? ⟨b, 0, none⟩ = some (.int .i64 9) := (blk_cell hbox 0).trans rfl; have y1 : w1.cell? ⟨b, 1, none⟩ = some (.string t) := (blk_cell hbox 1).trans rfl; have y2 : w1.cell? ⟨b, 2, none⟩ = some (.string v) := (blk_cell hbox 2).trans rfl; clear hg hbox hb)
          | (go_at_call 16; refine (HRC.out _ B1.out).mono ?_; rintro e w2 ⟨rfl, hb⟩; rw [HR.out]; have B2 := Aside0.mk hb; have K2 := Aside0.mk (K1.out.below hb); have C2 := Aside0.mk (C1.out.trans (Ch.of_below hb)); have X2 := Aside0.mk ((hb.block b (blk_lt X1.out)).trans X1.out); clear y0 y1 y2; have y0 : w2.cell? ⟨b, 0, none⟩ = some (.int .i64 9) := (blk_cell X2.out 0).trans rfl; have y1 : w2.cell? ⟨b, 1, none⟩ = some (.string t) := (blk_cell X2.out 1).trans rfl; have y2 : w2.cell? ⟨b, 2, none⟩ = some (.string v) := (blk_cell X2.out 2).trans rfl; clear hb)
          | (go_at_call 17; refine (last_some K2.out).mono ?_; rintro e w3 ⟨rfl, hb⟩; have B3 := Aside0.mk hb; have K3 := Aside0.mk (K2.out.below hb); have C3 := Aside0.mk (C2.out.trans (Ch.of_below hb)); have X3 := Aside0.mk ((hb.block b (blk_lt X2.out)).trans X2.out); clear y0 y1 y2; have y0 : w3.cell? ⟨b, 0, none⟩ = some (.int .i64 9) := (blk_cell X3.out 0).trans rfl; have y1 : w3.cell? ⟨b, 1, none⟩ = some (.string t) := (blk_cell X3.out 1).trans rfl; have y2 : w3.cell? ⟨b, 2, none⟩ = some (.string v) := (blk_cell X3.out 2).trans rfl; clear hb; have L3 := Aside0.mk (L.out.far (G := fun _ => False) (T := fun _ => False) ((((Ch.of_below B1.out).trans (Ch.of_below B2.out)).trans (Ch.of_below B3.out))) (fun _ _ h => h)); have l0 : w3.cell? ⟨p.1, 0, none⟩ = some (.int .i64 lk) := ((blk_cell L3.out.blk 0).trans (by rw [← HK.out]; rfl)); have l1 : w3.cell? ⟨p.1, 1, none⟩ = some (.bool lb) := ((blk_cell L3.out.blk 1).trans (by rw [← HKEY.out]; rfl)))
          | (refine MKind.make_event (mkI tI) rfl rfl ?_; intro mm hmm w4 hM hb; have C4 := Aside0.mk (Ch.of_below hb : Ch evcT (fun k => w3.heap.size ≤ k) w3 w4); have M4 := Aside0.mk hM; have MM := Aside0.mk hmm; clear hmm hM hb)
          | (refine MKind.put_event rfl (.inl rfl) (mkI tI) rfl 6 5 rfl rfl M4.out (by unfold maxLen; omega) ⟨by omega, by omega⟩ ⟨by omega, by omega⟩ ?_; intro w5 hm hg; have C5 := Aside0.mk (C4.out.trans ((put_ch (F := fun k => w3.heap.size ≤ k) M4.out MM.out hg).mono (fun _ h => Or.inr (Or.inr (Or.inr h))) (fun _ h => ext_of h))); have M5 := Aside0.mk hm; clear hm hg)
          | (refine MKind.put_event rfl (.inl rfl) (mkI tI) rfl 9 7 rfl rfl M5.out (by unfold maxLen; omega) ⟨by omega, by omega⟩ ⟨by omega, by omega⟩ ?_; intro w6 hm hg; have C6 := Aside0.mk (C5.out.trans ((put_ch (F := fun k => w3.heap.size ≤ k) M5.out MM.out hg).mono (fun _ h => Or.inr (Or.inr (Or.inr h))) (fun _ h => ext_of h))); have M6 := Aside0.mk hm; clear hm hg)
          | (refine MKind.put_event rfl (.inl rfl) (mkI tI) rfl 12 10 rfl rfl M6.out (by unfold maxLen; omega) ⟨by omega, by omega⟩ ⟨by omega, by omega⟩ ?_; intro w7 hm hg; have C7 := Aside0.mk (C6.out.trans ((put_ch (F := fun k => w3.heap.size ≤ k) M6.out MM.out hg).mono (fun _ h => Or.inr (Or.inr (Or.inr h))) (fun _ h => ext_of h))); have M7 := Aside0.mk hm; clear hm hg))
        have B7 := Aside0.mk (C7.out.below (B := w3.heap.size) (fun _ h => h) (Nat.le_refl _))
        have X7 := Aside0.mk ((B7.out.block b (blk_lt X3.out)).trans X3.out)
        have K7 := Aside0.mk (K3.out.below B7.out)
        have C7b := Aside0.mk (C3.out.trans (Ch.of_below B7.out))
        have hlk : ∀ n, (Instr.lookup 62 (.map (some mm)) (.int .i64 9) false).run Tryz.prog (w7.drewN n) = .ok (.int .i64 7) (w7.drewN n) := by
          intro n
          have M8 := is_ch M7.out (Ch.of_below (pw_below_drewN (Below.refl _ _) n) : Ch (fun _ => False) (fun _ => False) _ _) (fun h => h.1)
          exact M8.look1 9 ⟨by omega, by omega⟩
        clear y0 y1 y2
        have y0 : w7.cell? ⟨b, 0, none⟩ = some (.int .i64 9) := (blk_cell X7.out 0).trans rfl
        have L7 := Aside0.mk (L3.out.far (G := fun _ => False) (T := fun _ => False) (Ch.of_below B7.out) (fun _ _ h => h))
        clear l0 l1
        have l0 : w7.cell? ⟨p.1, 0, none⟩ = some (.int .i64 lk) := (blk_cell L7.out.blk 0).trans (by rw [← HK.out]; rfl)
        have l1 : w7.cell? ⟨p.1, 1, none⟩ = some (.bool lb) := (blk_cell L7.out.blk 1).trans (by rw [← HKEY.out]; rfl)
        go_quiet (fail)
        have DB := Aside0.mk (pw_below_drewN (Below.refl w7.heap.size w7) nq)
        have K8 := Aside0.mk (K7.out.below DB.out)
        have C8 := Aside0.mk (C7b.out.trans (Ch.of_below DB.out))
        clear hlk y0 l0 l1
        generalize w7.drewN nq = w8 at DB K8 C8 ⊢
        go_wp2
        go_ret
        unfold StepPost
        rw [HG.out]
        exact ⟨_, rfl, K8.out, C8.out⟩
set_option maxHeartbeats 8000000 in
set_option maxRecDepth 100000 in
theorem step_close12 {F : Nat → Prop} {w : World} {g : Nat} {ps : List (Nat × Nat)} {c : CK} (t v : ByteArray) (h : CkAt F w g ps c) (hF : ∀ k, w.heap.size ≤ k → F k) (ht : t.size ≤ 1000000) (hT : Tab.Tabs w) :
    Calls Tryz.prog 11 #[pt g, evA ⟨12, t, v⟩] w (StepPost F w g c ⟨12, t, v⟩) := by
  have H := Aside0.mk h
  have HFF := Aside0.mk hF
  have HRC := Aside0.mk (fun w1 (hb : Below w.heap.size w w1) => right_calls (w := w1) ⟨12, t, v⟩ (by simp) ht (hT.below hb))
  cases hr : rightD ⟨12, t, v⟩ with
  | false =>
    have HR := Aside0.mk hr
    have HG := Aside0.mk (show stepC rightD c ⟨12, t, v⟩ = (c, 19) by unfold stepC; rw [hr]; rfl)
    clear hr h hF ht hT
    go_enter Tryz.func11, Tryz.ntmps11
    go_wp2_with (first
      | ((with_reducible refine gate_dst (N := 3) rfl ?_); refine box_event ?hg (N := 3) ?hd (cs := #[.int .i64 12, .string t, .string v]) (t := 44) ?hr ?_; (case hd => rfl); (case hg => rfl); (case hr => first | (go_simp; done) | (go_simp; rfl)); intro b hg w1 hbox hb; have X1 := Aside0.mk hbox; have B1 := Aside0.mk hb; have K1 := Aside0.mk (H.out.below hb); have C1 := Aside0.mk ((Ch.of_below hb : Ch evcT F w w1)); have y0 : w1.cell? ⟨b, 0, none⟩ = some (.int .i64 12) := (blk_cell hbox 0).trans rfl; have y1 : w1.cell? ⟨b, 1, none⟩ = some (.string t) := (blk_cell hbox 1).trans rfl; have y2 : w1.cell? ⟨b, 2, none⟩ = some (.string v) := (blk_cell hbox 2).trans rfl; clear hg hbox hb)
      | (go_at_call 16; refine (HRC.out _ B1.out).mono ?_; rintro e w2 ⟨rfl, hb⟩; rw [HR.out]; have B2 := Aside0.mk hb; have K2 := Aside0.mk (K1.out.below hb); have C2 := Aside0.mk (C1.out.trans (Ch.of_below hb)); have X2 := Aside0.mk ((hb.block b (blk_lt X1.out)).trans X1.out); clear y0 y1 y2; have y0 : w2.cell? ⟨b, 0, none⟩ = some (.int .i64 12) := (blk_cell X2.out 0).trans rfl; have y1 : w2.cell? ⟨b, 1, none⟩ = some (.string t) := (blk_cell X2.out 1).trans rfl; have y2 : w2.cell? ⟨b, 2, none⟩ = some (.string v) := (blk_cell X2.out 2).trans rfl; clear hb))
    go_ret
    unfold StepPost
    rw [HG.out]
    exact ⟨ps, rfl, K2.out, C2.out⟩
  | true =>
    have HR := Aside0.mk hr
    cases ps with
    | nil =>
      have HG := Aside0.mk (show stepC rightD c ⟨12, t, v⟩ = (c, 19) by unfold stepC; rw [if_pos hr]; unfold goesC; simp [h.noneOp])
      clear hr h hF ht hT
      go_enter Tryz.func11, Tryz.ntmps11
      go_wp2_with (first
        | ((with_reducible refine gate_dst (N := 3) rfl ?_); refine box_event ?hg (N := 3) ?hd (cs := #[.int .i64 12, .string t, .string v]) (t := 44) ?hr ?_; (case hd => rfl); (case hg => rfl); (case hr => first | (go_simp; done) | (go_simp; rfl)); intro b hg w1 hbox hb; have X1 := Aside0.mk hbox; have B1 := Aside0.mk hb; have K1 := Aside0.mk (H.out.below hb); have C1 := Aside0.mk ((Ch.of_below hb : Ch evcT F w w1)); have y0 : w1.cell? ⟨b, 0, none⟩ = some (.int .i64 12) := (blk_cell hbox 0).trans rfl; have y1 : w1.cell? ⟨b, 1, none⟩ = some (.string t) := (blk_cell hbox 1).trans rfl; have y2 : w1.cell? ⟨b, 2, none⟩ = some (.string v) := (blk_cell hbox 2).trans rfl; clear hg hbox hb)
        | (go_at_call 16; refine (HRC.out _ B1.out).mono ?_; rintro e w2 ⟨rfl, hb⟩; rw [HR.out]; have B2 := Aside0.mk hb; have K2 := Aside0.mk (K1.out.below hb); have C2 := Aside0.mk (C1.out.trans (Ch.of_below hb)); have X2 := Aside0.mk ((hb.block b (blk_lt X1.out)).trans X1.out); clear y0 y1 y2; have y0 : w2.cell? ⟨b, 0, none⟩ = some (.int .i64 12) := (blk_cell X2.out 0).trans rfl; have y1 : w2.cell? ⟨b, 1, none⟩ = some (.string t) := (blk_cell X2.out 1).trans rfl; have y2 : w2.cell? ⟨b, 2, none⟩ = some (.string v) := (blk_cell X2.out 2).trans rfl; clear hb)
        | (go_at_call 17; refine (last_none K2.out).mono ?_; rintro e w3 ⟨rfl, hb⟩; have B3 := Aside0.mk hb; have K3 := Aside0.mk (K2.out.below hb); have C3 := Aside0.mk (C2.out.trans (Ch.of_below hb)); have X3 := Aside0.mk ((hb.block b (blk_lt X2.out)).trans X2.out); clear y0 y1 y2; have y0 : w3.cell? ⟨b, 0, none⟩ = some (.int .i64 12) := (blk_cell X3.out 0).trans rfl; have y1 : w3.cell? ⟨b, 1, none⟩ = some (.string t) := (blk_cell X3.out 1).trans rfl; have y2 : w3.cell? ⟨b, 2, none⟩ = some (.string v) := (blk_cell X3.out 2).trans rfl; clear hb)
        | (refine MKind.make_event (mkI tI) rfl rfl ?_; intro mm hmm w4 hM hb; have C4 := Aside0.mk (Ch.of_below hb : Ch evcT (fun k => w3.heap.size ≤ k) w3 w4); have M4 := Aside0.mk hM; have MM := Aside0.mk hmm; clear hmm hM hb)
        | (refine MKind.put_event rfl (.inl rfl) (mkI tI) rfl 6 5 rfl rfl M4.out (by unfold maxLen; omega) ⟨by omega, by omega⟩ ⟨by omega, by omega⟩ ?_; intro w5 hm hg; have C5 := Aside0.mk (C4.out.trans ((put_ch (F := fun k => w3.heap.size ≤ k) M4.out MM.out hg).mono (fun _ h => Or.inr (Or.inr (Or.inr h))) (fun _ h => ext_of h))); have M5 := Aside0.mk hm; clear hm hg)
        | (refine MKind.put_event rfl (.inl rfl) (mkI tI) rfl 9 7 rfl rfl M5.out (by unfold maxLen; omega) ⟨by omega, by omega⟩ ⟨by omega, by omega⟩ ?_; intro w6 hm hg; have C6 := Aside0.mk (C5.out.trans ((put_ch (F := fun k => w3.heap.size ≤ k) M5.out MM.out hg).mono (fun _ h => Or.inr (Or.inr (Or.inr h))) (fun _ h => ext_of h))); have M6 := Aside0.mk hm; clear hm hg)
        | (refine MKind.put_event rfl (.inl rfl) (mkI tI) rfl 12 10 rfl rfl M6.out (by unfold maxLen; omega) ⟨by omega, by omega⟩ ⟨by omega, by omega⟩ ?_; intro w7 hm hg; have C7 := Aside0.mk (C6.out.trans ((put_ch (F := fun k => w3.heap.size ≤ k) M6.out MM.out hg).mono (fun _ h => Or.inr (Or.inr (Or.inr h))) (fun _ h => ext_of h))); have M7 := Aside0.mk hm; clear hm hg))
      have B7 := Aside0.mk (C7.out.below (B := w3.heap.size) (fun _ h => h) (Nat.le_refl _))
      have X7 := Aside0.mk ((B7.out.block b (blk_lt X3.out)).trans X3.out)
      have K7 := Aside0.mk (K3.out.below B7.out)
      have C7b := Aside0.mk (C3.out.trans (Ch.of_below B7.out))
      have hlk : ∀ n, (Instr.lookup 62 (.map (some mm)) (.int .i64 12) false).run Tryz.prog (w7.drewN n) = .ok (.int .i64 10) (w7.drewN n) := by
        intro n
        have M8 := is_ch M7.out (Ch.of_below (pw_below_drewN (Below.refl _ _) n) : Ch (fun _ => False) (fun _ => False) _ _) (fun h => h.1)
        exact M8.look1 12 ⟨by omega, by omega⟩
      clear y0 y1 y2
      have y0 : w7.cell? ⟨b, 0, none⟩ = some (.int .i64 12) := (blk_cell X7.out 0).trans rfl
      go_quiet (fail)
      have DB := Aside0.mk (pw_below_drewN (Below.refl w7.heap.size w7) nq)
      have K8 := Aside0.mk (K7.out.below DB.out)
      have C8 := Aside0.mk (C7b.out.trans (Ch.of_below DB.out))
      clear hlk y0
      generalize w7.drewN nq = w8 at DB K8 C8 ⊢
      go_wp2
      go_ret
      unfold StepPost
      rw [HG.out]
      exact ⟨_, rfl, K8.out, C8.out⟩
    | cons p ps =>
      obtain ⟨l, r, hop, hl⟩ := h.head
      have L := Aside0.mk hl
      have HOP := Aside0.mk hop
      obtain ⟨lk, hlk⟩ : ∃ y, l.k = y := ⟨_, rfl⟩
      obtain ⟨lb, hlb⟩ : ∃ y, l.key = y := ⟨_, rfl⟩
      have HK := Aside0.mk hlk
      have HKEY := Aside0.mk hlb
      by_cases h7 : lk = 10
      · subst h7
        cases lb with
        | true =>
          have HG := Aside0.mk (show stepC rightD c ⟨12, t, v⟩ = (c, 19) by unfold stepC; rw [if_pos hr]; unfold goesC; simp [hop, hlk, hlb, endsK])
          clear hr h hF ht hT hl hop hlk hlb
          go_enter Tryz.func11, Tryz.ntmps11
          go_wp2_with (first
            | ((with_reducible refine gate_dst (N := 3) rfl ?_); refine box_event ?hg (N := 3) ?hd (cs := #[.int .i64 12, .string t, .string v]) (t := 44) ?hr ?_; (case hd => rfl); (case hg => rfl); (case hr => first | (go_simp; done) | (go_simp; rfl)); intro b hg w1 hbox hb; have X1 := Aside0.mk hbox; have B1 := Aside0.mk hb; have K1 := Aside0.mk (H.out.below hb); have C1 := Aside0.mk ((Ch.of_below hb : Ch evcT F w w1)); have y0 : w1.cell? ⟨b, 0, none⟩ = some (.int .i64 12) := (blk_cell hbox 0).trans rfl; have y1 : w1.cell? ⟨b, 1, none⟩ = some (.string t) := (blk_cell hbox 1).trans rfl; have y2 : w1.cell? ⟨b, 2, none⟩ = some (.string v) := (blk_cell hbox 2).trans rfl; clear hg hbox hb)
            | (go_at_call 16; refine (HRC.out _ B1.out).mono ?_; rintro e w2 ⟨rfl, hb⟩; rw [HR.out]; have B2 := Aside0.mk hb; have K2 := Aside0.mk (K1.out.below hb); have C2 := Aside0.mk (C1.out.trans (Ch.of_below hb)); have X2 := Aside0.mk ((hb.block b (blk_lt X1.out)).trans X1.out); clear y0 y1 y2; have y0 : w2.cell? ⟨b, 0, none⟩ = some (.int .i64 12) := (blk_cell X2.out 0).trans rfl; have y1 : w2.cell? ⟨b, 1, none⟩ = some (.string t) := (blk_cell X2.out 1).trans rfl; have y2 : w2.cell? ⟨b, 2, none⟩ = some (.string v) := (blk_cell X2.out 2).trans rfl; clear hb)
            | (go_at_call 17; refine (last_some K2.out).mono ?_; rintro e w3 ⟨rfl, hb⟩; have B3 := Aside0.mk hb; have K3 := Aside0.mk (K2.out.below hb); have C3 := Aside0.mk (C2.out.trans (Ch.of_below hb)); have X3 := Aside0.mk ((hb.block b (blk_lt X2.out)).trans X2.out); clear y0 y1 y2; have y0 : w3.cell? ⟨b, 0, none⟩ = some (.int .i64 12) := (blk_cell X3.out 0).trans rfl; have y1 : w3.cell? ⟨b, 1, none⟩ = some (.string t) := (blk_cell X3.out 1).trans rfl; have y2 : w3.cell? ⟨b, 2, none⟩ = some (.string v) := (blk_cell X3.out 2).trans rfl; clear hb; have L3 := Aside0.mk (L.out.far (G := fun _ => False) (T := fun _ => False) ((((Ch.of_below B1.out).trans (Ch.of_below B2.out)).trans (Ch.of_below B3.out))) (fun _ _ h => h)); have l0 : w3.cell? ⟨p.1, 0, none⟩ = some (.int .i64 10) := ((blk_cell L3.out.blk 0).trans (by rw [← HK.out]; rfl)); have l1 : w3.cell? ⟨p.1, 1, none⟩ = some (.bool true) := ((blk_cell L3.out.blk 1).trans (by rw [← HKEY.out]; rfl)))
            | (refine MKind.make_event (mkI tI) rfl rfl ?_; intro mm hmm w4 hM hb; have C4 := Aside0.mk (Ch.of_below hb : Ch evcT (fun k => w3.heap.size ≤ k) w3 w4); have M4 := Aside0.mk hM; have MM := Aside0.mk hmm; clear hmm hM hb)
            | (refine MKind.put_event rfl (.inl rfl) (mkI tI) rfl 6 5 rfl rfl M4.out (by unfold maxLen; omega) ⟨by omega, by omega⟩ ⟨by omega, by omega⟩ ?_; intro w5 hm hg; have C5 := Aside0.mk (C4.out.trans ((put_ch (F := fun k => w3.heap.size ≤ k) M4.out MM.out hg).mono (fun _ h => Or.inr (Or.inr (Or.inr h))) (fun _ h => ext_of h))); have M5 := Aside0.mk hm; clear hm hg)
            | (refine MKind.put_event rfl (.inl rfl) (mkI tI) rfl 9 7 rfl rfl M5.out (by unfold maxLen; omega) ⟨by omega, by omega⟩ ⟨by omega, by omega⟩ ?_; intro w6 hm hg; have C6 := Aside0.mk (C5.out.trans ((put_ch (F := fun k => w3.heap.size ≤ k) M5.out MM.out hg).mono (fun _ h => Or.inr (Or.inr (Or.inr h))) (fun _ h => ext_of h))); have M6 := Aside0.mk hm; clear hm hg)
            | (refine MKind.put_event rfl (.inl rfl) (mkI tI) rfl 12 10 rfl rfl M6.out (by unfold maxLen; omega) ⟨by omega, by omega⟩ ⟨by omega, by omega⟩ ?_; intro w7 hm hg; have C7 := Aside0.mk (C6.out.trans ((put_ch (F := fun k => w3.heap.size ≤ k) M6.out MM.out hg).mono (fun _ h => Or.inr (Or.inr (Or.inr h))) (fun _ h => ext_of h))); have M7 := Aside0.mk hm; clear hm hg))
          have B7 := Aside0.mk (C7.out.below (B := w3.heap.size) (fun _ h => h) (Nat.le_refl _))
          have X7 := Aside0.mk ((B7.out.block b (blk_lt X3.out)).trans X3.out)
          have K7 := Aside0.mk (K3.out.below B7.out)
          have C7b := Aside0.mk (C3.out.trans (Ch.of_below B7.out))
          have hlk : ∀ n, (Instr.lookup 62 (.map (some mm)) (.int .i64 12) false).run Tryz.prog (w7.drewN n) = .ok (.int .i64 10) (w7.drewN n) := by
            intro n
            have M8 := is_ch M7.out (Ch.of_below (pw_below_drewN (Below.refl _ _) n) : Ch (fun _ => False) (fun _ => False) _ _) (fun h => h.1)
            exact M8.look1 12 ⟨by omega, by omega⟩
          clear y0 y1 y2
          have y0 : w7.cell? ⟨b, 0, none⟩ = some (.int .i64 12) := (blk_cell X7.out 0).trans rfl
          have L7 := Aside0.mk (L3.out.far (G := fun _ => False) (T := fun _ => False) (Ch.of_below B7.out) (fun _ _ h => h))
          clear l0 l1
          have l0 : w7.cell? ⟨p.1, 0, none⟩ = some (.int .i64 10) := (blk_cell L7.out.blk 0).trans (by rw [← HK.out]; rfl)
          have l1 : w7.cell? ⟨p.1, 1, none⟩ = some (.bool true) := (blk_cell L7.out.blk 1).trans (by rw [← HKEY.out]; rfl)
          go_quiet (fail)
          have DB := Aside0.mk (pw_below_drewN (Below.refl w7.heap.size w7) nq)
          have K8 := Aside0.mk (K7.out.below DB.out)
          have C8 := Aside0.mk (C7b.out.trans (Ch.of_below DB.out))
          clear hlk y0 l0 l1
          generalize w7.drewN nq = w8 at DB K8 C8 ⊢
          go_wp2
          go_ret
          unfold StepPost
          rw [HG.out]
          exact ⟨_, rfl, K8.out, C8.out⟩
        | false =>
          have HG := Aside0.mk (show stepC rightD c ⟨12, t, v⟩ = ({ c with op := r }, 0) by unfold stepC; rw [if_pos hr]; unfold goesC; simp [hop, hlk, hlb, endsK])
          clear hr h hF ht hT hl hop hlk hlb
          go_enter Tryz.func11, Tryz.ntmps11
          go_wp2_with (first
            | ((with_reducible refine gate_dst (N := 3) rfl ?_); refine box_event ?hg (N := 3) ?hd (cs := #[.int .i64 12, .string t, .string v]) (t := 44) ?hr ?_; (case hd => rfl); (case hg => rfl); (case hr => first | (go_simp; done) | (go_simp; rfl)); intro b hg w1 hbox hb; have X1 := Aside0.mk hbox; have B1 := Aside0.mk hb; have K1 := Aside0.mk (H.out.below hb); have C1 := Aside0.mk ((Ch.of_below hb : Ch evcT F w w1)); have y0 : w1.cell? ⟨b, 0, none⟩ = some (.int .i64 12) := (blk_cell hbox 0).trans rfl; have y1 : w1.cell? ⟨b, 1, none⟩ = some (.string t) := (blk_cell hbox 1).trans rfl; have y2 : w1.cell? ⟨b, 2, none⟩ = some (.string v) := (blk_cell hbox 2).trans rfl; clear hg hbox hb)
            | (go_at_call 16; refine (HRC.out _ B1.out).mono ?_; rintro e w2 ⟨rfl, hb⟩; rw [HR.out]; have B2 := Aside0.mk hb; have K2 := Aside0.mk (K1.out.below hb); have C2 := Aside0.mk (C1.out.trans (Ch.of_below hb)); have X2 := Aside0.mk ((hb.block b (blk_lt X1.out)).trans X1.out); clear y0 y1 y2; have y0 : w2.cell? ⟨b, 0, none⟩ = some (.int .i64 12) := (blk_cell X2.out 0).trans rfl; have y1 : w2.cell? ⟨b, 1, none⟩ = some (.string t) := (blk_cell X2.out 1).trans rfl; have y2 : w2.cell? ⟨b, 2, none⟩ = some (.string v) := (blk_cell X2.out 2).trans rfl; clear hb)
            | (go_at_call 17; refine (last_some K2.out).mono ?_; rintro e w3 ⟨rfl, hb⟩; have B3 := Aside0.mk hb; have K3 := Aside0.mk (K2.out.below hb); have C3 := Aside0.mk (C2.out.trans (Ch.of_below hb)); have X3 := Aside0.mk ((hb.block b (blk_lt X2.out)).trans X2.out); clear y0 y1 y2; have y0 : w3.cell? ⟨b, 0, none⟩ = some (.int .i64 12) := (blk_cell X3.out 0).trans rfl; have y1 : w3.cell? ⟨b, 1, none⟩ = some (.string t) := (blk_cell X3.out 1).trans rfl; have y2 : w3.cell? ⟨b, 2, none⟩ = some (.string v) := (blk_cell X3.out 2).trans rfl; clear hb; have L3 := Aside0.mk (L.out.far (G := fun _ => False) (T := fun _ => False) ((((Ch.of_below B1.out).trans (Ch.of_below B2.out)).trans (Ch.of_below B3.out))) (fun _ _ h => h)); have l0 : w3.cell? ⟨p.1, 0, none⟩ = some (.int .i64 10) := ((blk_cell L3.out.blk 0).trans (by rw [← HK.out]; rfl)); have l1 : w3.cell? ⟨p.1, 1, none⟩ = some (.bool false) := ((blk_cell L3.out.blk 1).trans (by rw [← HKEY.out]; rfl)))
            | (refine MKind.make_event (mkI tI) rfl rfl ?_; intro mm hmm w4 hM hb; have C4 := Aside0.mk (Ch.of_below hb : Ch evcT (fun k => w3.heap.size ≤ k) w3 w4); have M4 := Aside0.mk hM; have MM := Aside0.mk hmm; clear hmm hM hb)
            | (refine MKind.put_event rfl (.inl rfl) (mkI tI) rfl 6 5 rfl rfl M4.out (by unfold maxLen; omega) ⟨by omega, by omega⟩ ⟨by omega, by omega⟩ ?_; intro w5 hm hg; have C5 := Aside0.mk (C4.out.trans ((put_ch (F := fun k => w3.heap.size ≤ k) M4.out MM.out hg).mono (fun _ h => Or.inr (Or.inr (Or.inr h))) (fun _ h => ext_of h))); have M5 := Aside0.mk hm; clear hm hg)
            | (refine MKind.put_event rfl (.inl rfl) (mkI tI) rfl 9 7 rfl rfl M5.out (by unfold maxLen; omega) ⟨by omega, by omega⟩ ⟨by omega, by omega⟩ ?_; intro w6 hm hg; have C6 := Aside0.mk (C5.out.trans ((put_ch (F := fun k => w3.heap.size ≤ k) M5.out MM.out hg).mono (fun _ h => Or.inr (Or.inr (Or.inr h))) (fun _ h => ext_of h))); have M6 := Aside0.mk hm; clear hm hg)
            | (refine MKind.put_event rfl (.inl rfl) (mkI tI) rfl 12 10 rfl rfl M6.out (by unfold maxLen; omega) ⟨by omega, by omega⟩ ⟨by omega, by omega⟩ ?_; intro w7 hm hg; have C7 := Aside0.mk (C6.out.trans ((put_ch (F := fun k => w3.heap.size ≤ k) M6.out MM.out hg).mono (fun _ h => Or.inr (Or.inr (Or.inr h))) (fun _ h => ext_of h))); have M7 := Aside0.mk hm; clear hm hg))
          have B7 := Aside0.mk (C7.out.below (B := w3.heap.size) (fun _ h => h) (Nat.le_refl _))
          have X7 := Aside0.mk ((B7.out.block b (blk_lt X3.out)).trans X3.out)
          have K7 := Aside0.mk (K3.out.below B7.out)
          have C7b := Aside0.mk (C3.out.trans (Ch.of_below B7.out))
          have hlk : ∀ n, (Instr.lookup 62 (.map (some mm)) (.int .i64 12) false).run Tryz.prog (w7.drewN n) = .ok (.int .i64 10) (w7.drewN n) := by
            intro n
            have M8 := is_ch M7.out (Ch.of_below (pw_below_drewN (Below.refl _ _) n) : Ch (fun _ => False) (fun _ => False) _ _) (fun h => h.1)
            exact M8.look1 12 ⟨by omega, by omega⟩
          clear y0 y1 y2
          have y0 : w7.cell? ⟨b, 0, none⟩ = some (.int .i64 12) := (blk_cell X7.out 0).trans rfl
          have L7 := Aside0.mk (L3.out.far (G := fun _ => False) (T := fun _ => False) (Ch.of_below B7.out) (fun _ _ h => h))
          clear l0 l1
          have l0 : w7.cell? ⟨p.1, 0, none⟩ = some (.int .i64 10) := (blk_cell L7.out.blk 0).trans (by rw [← HK.out]; rfl)
          have l1 : w7.cell? ⟨p.1, 1, none⟩ = some (.bool false) := (blk_cell L7.out.blk 1).trans (by rw [← HKEY.out]; rfl)
          go_quiet (fail)
          have DB := Aside0.mk (pw_below_drewN (Below.refl w7.heap.size w7) nq)
          have K8 := Aside0.mk (K7.out.below DB.out)
          have C8 := Aside0.mk (C7b.out.trans (Ch.of_below DB.out))
          clear hlk y0 l0 l1
          generalize w7.drewN nq = w8 at DB K8 C8 ⊢
          go_wp2_with fail
          obtain ⟨ov, hg8, hr8⟩ := K8.out.core
          obtain ⟨ab, ao, n8, hv8, hn8, _, _, _⟩ := hr8.open_ (by simp)
          have hml : n8 ≤ maxLen := by obtain ⟨_, _, hx, _, hy⟩ := hr8.slice; rw [hv8] at hx; injection hx with _ _ h3; omega
          rw [List.length_cons] at hv8 hn8
          subst hv8
          have g0 : w8.cell? ⟨g, 0, none⟩ = some (.slice (some ⟨ab, ao, none⟩) (ps.length + 1) n8) := (blk_cell hg8 0).trans rfl
          have HPOP := Aside0.mk ((K8.out.below (below_drew (Below.refl w8.heap.size w8))).pop HOP.out (A := some ⟨ab, ao, none⟩) (n := n8) g0)
          have DB8 := Aside0.mk (below_drew (Below.refl w8.heap.size w8))
          have HF0 := Aside0.mk (blk_frozen hg8 0)
          have e1 : IntKind.i64.wrap ((ps.length : Int)) = (ps.length : Int) := Go.IntWalk.i64_in _ (by unfold maxLen at hml; omega)
          have e0 : IntKind.i64.wrap ((ps.length : Int) + 1 - 1) = (ps.length : Int) := by rw [Int.add_sub_cancel]; exact e1
          have e3 : (0 : Int) ≤ (ps.length : Int) := by omega
          have e5 : (ps.length : Int) ≤ (n8 : Int) := by omega
          have e6 : ps.length ≤ n8 := by omega
          clear hg8 hr8 hn8 hml
          refine wp_region_still_tail 14 (by kernel_rfl) (by kernel_rfl) ?_
          simp only [List.take_succ_cons, List.take_zero, List.drop_succ_cons, List.drop_zero]
          iterate 14 still_step
          refine wpStill_nil ?_
          change wpList _ _ _ _ _ w8.drew
          have f0 : w8.drew.frozen? ⟨g, 0, none⟩ = false := HF0.out
          go_wp2
          go_ret
          unfold StepPost
          rw [HG.out]
          exact ⟨ps, rfl, HPOP.out.1, (C8.out.trans (Ch.of_below DB8.out)).trans (HPOP.out.2.mono (fun _ h => h) (fun _ h => ext_of h))⟩
      · have HG := Aside0.mk (show stepC rightD c ⟨12, t, v⟩ = (c, 19) by unfold stepC; rw [if_pos hr]; unfold goesC; simp [hop, hlk, h7, endsK])
        have n7 : (lk == 10) = false := by rw [beq_eq_false_iff_ne]; exact h7
        have m7 : decide (lk = 10) = false := decide_eq_false h7
        have b7 : (lk != 10) = true := by rw [bne_iff_ne]; exact h7
        clear hr h hF ht hT hl hop hlk hlb h7
        go_enter Tryz.func11, Tryz.ntmps11
        go_wp2_with (first
          | ((with_reducible refine gate_dst (N := 3) rfl ?_); refine box_event ?hg (N := 3) ?hd (cs := #[.int .i64 12, .string t, .string v]) (t := 44) ?hr ?_; (case hd => rfl); (case hg => rfl); (case hr => first | (go_simp; done) | (go_simp; rfl)); intro b hg w1 hbox hb; have X1 := Aside0.mk hbox; have B1 := Aside0.mk hb; have K1 := Aside0.mk (H.out.below hb); have C1 := Aside0.mk ((Ch.of_below hb : Ch evcT F w w1)); have y0 : w1.cell? ⟨b, 0, none⟩ = some (.int .i64 12) := (blk_cell hbox 0).trans rfl; have y1 : w1.cell? ⟨b, 1, none⟩ = some (.string t) := (blk_cell hbox 1).trans rfl; have y2 : w1.cell? ⟨b, 2, none⟩ = some (.string v) := (blk_cell hbox 2).trans rfl; clear hg hbox hb)
          | (go_at_call 16; refine (HRC.out _ B1.out).mono ?_; rintro e w2 ⟨rfl, hb⟩; rw [HR.out]; have B2 := Aside0.mk hb; have K2 := Aside0.mk (K1.out.below hb); have C2 := Aside0.mk (C1.out.trans (Ch.of_below hb)); have X2 := Aside0.mk ((hb.block b (blk_lt X1.out)).trans X1.out); clear y0 y1 y2; have y0 : w2.cell? ⟨b, 0, none⟩ = some (.int .i64 12) := (blk_cell X2.out 0).trans rfl; have y1 : w2.cell? ⟨b, 1, none⟩ = some (.string t) := (blk_cell X2.out 1).trans rfl; have y2 : w2.cell? ⟨b, 2, none⟩ = some (.string v) := (blk_cell X2.out 2).trans rfl; clear hb)
          | (go_at_call 17; refine (last_some K2.out).mono ?_; rintro e w3 ⟨rfl, hb⟩; have B3 := Aside0.mk hb; have K3 := Aside0.mk (K2.out.below hb); have C3 := Aside0.mk (C2.out.trans (Ch.of_below hb)); have X3 := Aside0.mk ((hb.block b (blk_lt X2.out)).trans X2.out); clear y0 y1 y2; have y0 : w3.cell? ⟨b, 0, none⟩ = some (.int .i64 12) := (blk_cell X3.out 0).trans rfl; have y1 : w3.cell? ⟨b, 1, none⟩ = some (.string t) := (blk_cell X3.out 1).trans rfl; have y2 : w3.cell? ⟨b, 2, none⟩ = some (.string v) := (blk_cell X3.out 2).trans rfl; clear hb; have L3 := Aside0.mk (L.out.far (G := fun _ => False) (T := fun _ => False) ((((Ch.of_below B1.out).trans (Ch.of_below B2.out)).trans (Ch.of_below B3.out))) (fun _ _ h => h)); have l0 : w3.cell? ⟨p.1, 0, none⟩ = some (.int .i64 lk) := ((blk_cell L3.out.blk 0).trans (by rw [← HK.out]; rfl)); have l1 : w3.cell? ⟨p.1, 1, none⟩ = some (.bool lb) := ((blk_cell L3.out.blk 1).trans (by rw [← HKEY.out]; rfl)))
          | (refine MKind.make_event (mkI tI) rfl rfl ?_; intro mm hmm w4 hM hb; have C4 := Aside0.mk (Ch.of_below hb : Ch evcT (fun k => w3.heap.size ≤ k) w3 w4); have M4 := Aside0.mk hM; have MM := Aside0.mk hmm; clear hmm hM hb)
          | (refine MKind.put_event rfl (.inl rfl) (mkI tI) rfl 6 5 rfl rfl M4.out (by unfold maxLen; omega) ⟨by omega, by omega⟩ ⟨by omega, by omega⟩ ?_; intro w5 hm hg; have C5 := Aside0.mk (C4.out.trans ((put_ch (F := fun k => w3.heap.size ≤ k) M4.out MM.out hg).mono (fun _ h => Or.inr (Or.inr (Or.inr h))) (fun _ h => ext_of h))); have M5 := Aside0.mk hm; clear hm hg)
          | (refine MKind.put_event rfl (.inl rfl) (mkI tI) rfl 9 7 rfl rfl M5.out (by unfold maxLen; omega) ⟨by omega, by omega⟩ ⟨by omega, by omega⟩ ?_; intro w6 hm hg; have C6 := Aside0.mk (C5.out.trans ((put_ch (F := fun k => w3.heap.size ≤ k) M5.out MM.out hg).mono (fun _ h => Or.inr (Or.inr (Or.inr h))) (fun _ h => ext_of h))); have M6 := Aside0.mk hm; clear hm hg)
          | (refine MKind.put_event rfl (.inl rfl) (mkI tI) rfl 12 10 rfl rfl M6.out (by unfold maxLen; omega) ⟨by omega, by omega⟩ ⟨by omega, by omega⟩ ?_; intro w7 hm hg; have C7 := Aside0.mk (C6.out.trans ((put_ch (F := fun k => w3.heap.size ≤ k) M6.out MM.out hg).mono (fun _ h => Or.inr (Or.inr (Or.inr h))) (fun _ h => ext_of h))); have M7 := Aside0.mk hm; clear hm hg))
        have B7 := Aside0.mk (C7.out.below (B := w3.heap.size) (fun _ h => h) (Nat.le_refl _))
        have X7 := Aside0.mk ((B7.out.block b (blk_lt X3.out)).trans X3.out)
        have K7 := Aside0.mk (K3.out.below B7.out)
        have C7b := Aside0.mk (C3.out.trans (Ch.of_below B7.out))
        have hlk : ∀ n, (Instr.lookup 62 (.map (some mm)) (.int .i64 12) false).run Tryz.prog (w7.drewN n) = .ok (.int .i64 10) (w7.drewN n) := by
          intro n
          have M8 := is_ch M7.out (Ch.of_below (pw_below_drewN (Below.refl _ _) n) : Ch (fun _ => False) (fun _ => False) _ _) (fun h => h.1)
          exact M8.look1 12 ⟨by omega, by omega⟩
        clear y0 y1 y2
        have y0 : w7.cell? ⟨b, 0, none⟩ = some (.int .i64 12) := (blk_cell X7.out 0).trans rfl
        have L7 := Aside0.mk (L3.out.far (G := fun _ => False) (T := fun _ => False) (Ch.of_below B7.out) (fun _ _ h => h))
        clear l0 l1
        have l0 : w7.cell? ⟨p.1, 0, none⟩ = some (.int .i64 lk) := (blk_cell L7.out.blk 0).trans (by rw [← HK.out]; rfl)
        have l1 : w7.cell? ⟨p.1, 1, none⟩ = some (.bool lb) := (blk_cell L7.out.blk 1).trans (by rw [← HKEY.out]; rfl)
        go_quiet (fail)
        have DB := Aside0.mk (pw_below_drewN (Below.refl w7.heap.size w7) nq)
        have K8 := Aside0.mk (K7.out.below DB.out)
        have C8 := Aside0.mk (C7b.out.trans (Ch.of_below DB.out))
        clear hlk y0 l0 l1
        generalize w7.drewN nq = w8 at DB K8 C8 ⊢
        go_wp2
        go_ret
        unfold StepPost
        rw [HG.out]
        exact ⟨_, rfl, K8.out, C8.out⟩
theorem step_calls {F : Nat → Prop} {w : World} {g : Nat} {ps : List (Nat × Nat)} {c : CK} (x : Ev) (hk : x.k = 1 ∨ x.k = 4 ∨ x.k = 5 ∨ x.k = 6 ∨ x.k = 7 ∨ x.k = 8 ∨ x.k = 9 ∨ x.k = 12) (h : CkAt F w g ps c) (hF : ∀ k, w.heap.size ≤ k → F k) (ht : x.t.size ≤ 1000000) (hT : Tab.Tabs w) (h10 : N10 c) (hok : c.Ok) :
    Calls Tryz.prog 11 #[pt g, evA x] w (StepPost F w g c x) := by
  obtain ⟨k, t, v⟩ := x
  rcases hk with hk | hk | hk | hk | hk | hk | hk | hk
  all_goals (change k = _ at hk; subst hk)
  · exact step_value1 t v h hF ht hT h10
  · exact step_value4 t v h hF ht hT h10
  · exact step_open5 t v h hF ht hT h10 hok
  · exact step_close6 t v h hF ht hT
  · exact step_open7 t v h hF ht hT h10 hok
  · exact step_name t v h hF ht hT hok
  · exact step_close9 t v h hF ht hT
  · exact step_close12 t v h hF ht hT
theorem goes_n10 {c : CK} (h : N10 c) (x : Ev) (hx : x.k ≠ 10) : N10 (goesC c x).1 := by
  have hst : N10 (standsC c x) := by
    unfold standsC
    split
    · exact h
    · rename_i l r h0
      intro y hy
      rcases List.mem_cons.1 hy with hy | hy
      · subst hy; exact h l (by rw [h0]; exact List.mem_cons_self ..)
      · exact h y (by rw [h0]; exact List.mem_cons_of_mem _ hy)
  have hnm : ∀ l : OE, (namedL l x).1.k = l.k := fun l => by
    unfold namedL
    split
    · rfl
    · split <;> rfl
  have hwith : ∀ l r, c.op = l :: r → N10 { c with op := (namedL l x).1 :: r } := fun l r h0 y hy => by
    rcases List.mem_cons.1 hy with hy | hy
    · subst hy; rw [hnm]; exact h l (by rw [h0]; exact List.mem_cons_self ..)
    · exact h y (by rw [h0]; exact List.mem_cons_of_mem _ hy)
  unfold goesC
  split
  · split
    · exact hst
    · exact h
  split
  · split
    · split
      · exact h
      · intro y hy
        rcases List.mem_cons.1 hy with hy | hy
        · subst hy; exact hx
        · exact hst y hy
    · exact h
  split
  · split
    · exact h
    · rename_i l r h0
      split
      · exact hwith l r h0
      · exact h
  split
  · split
    · exact h
    · rename_i l r h0
      split
      · exact hwith l r h0
      · exact h
  · split
    · exact h
    · rename_i l r h0
      split
      · exact fun y hy => h y (by rw [h0]; exact List.mem_cons_of_mem _ hy)
      · exact h
theorem step_n10 {c : CK} (h : N10 c) (right : Ev → Bool) (x : Ev) (hx : x.k ≠ 10) : N10 (stepC right c x).1 := by
  unfold stepC
  split
  · exact goes_n10 h x hx
  · exact h
end Go.Proofs.YtalaedpiimdcbaaGreatDoor.Ec

namespace Go.Proofs.YtalaedpiimdcbaaGreatDoor.Ec
open Go Go.Lib Go.Proofs.YtalaedpiimdcbaaGreatDoor.Lw Go.RowKit Go.Proofs.YtalaedpiimdcbaaGreatDoorW.PrintWords Go.Proofs.YtalaedpiimdcbaaGreatDoorW.PrintLast Go.Proofs.YtalaedpiimdcbaaGreatDoor.Own Go.Proofs.YtalaedpiimdcbaaGreatDoor.Hp Go.Proofs.YtalaedpiimdcbaaGreatDoor.Cr
set_option linter.unusedVariables false
set_option linter.unusedSimpArgs false
theorem right_kind {x : Ev} (h : rightD x = true) : (x.k = 1 ∨ x.k = 4 ∨ x.k = 5 ∨ x.k = 6 ∨ x.k = 7 ∨ x.k = 8 ∨ x.k = 9 ∨ x.k = 12) ∧ x.t.size ≤ 1000000 := by
  unfold rightD at h
  by_cases h1 : x.k = 4 ∨ x.k = 8
  · rw [if_pos h1] at h
    simp only [Bool.and_eq_true, mayT, decide_eq_true_eq] at h
    exact ⟨by omega, by omega⟩
  · rw [if_neg h1] at h
    by_cases h2 : x.k = 1 ∨ x.k = 5 ∨ x.k = 6 ∨ x.k = 7 ∨ x.k = 9 ∨ x.k = 12
    · rw [if_pos h2] at h
      simp only [Bool.and_eq_true, decide_eq_true_eq] at h
      refine ⟨by omega, ?_⟩
      rw [h.1]
      show (0 : Nat) ≤ 1000000
      omega
    · rw [if_neg h2] at h
      cases h
theorem CkAt.chT {F G : Nat → Prop} {w w1 : World} {g : Nat} {ps : List (Nat × Nat)} {c : CK} {T : Option Nat → Prop} (h : CkAt F w g ps c) (hc : Ch T G w w1) (t1 : ¬ T (some 54)) (t2 : ¬ T (some 61)) (t3 : ¬ T (some 56)) (t4 : ¬ T none) : CkAt F w1 g ps c := by
  obtain ⟨ov, h1, h2⟩ := h.core
  exact ⟨h.fg, ⟨ov, hc.blk h1 (fun h3 => t1 h3.2), h2.ch hc t3⟩, h.each.imp (fun _ _ h => h.ch hc t2 t4), h.dup1, h.dup2⟩
theorem runC_pos {c : CK} {x : Ev} {r : List Ev} {i : Nat} (h : (stepC rightD c x).2 = 0) : runC rightD c (x :: r) i = runC rightD (stepC rightD c x).1 r (i + 1) := by rw [runC, if_pos h]
theorem runC_neg {c : CK} {x : Ev} {r : List Ev} {i : Nat} (h : (stepC rightD c x).2 ≠ 0) : runC rightD c (x :: r) i = (c, i, (stepC rightD c x).2) := by rw [runC, if_neg h]
theorem three_c {w1 : World} {b T : Nat} {k0 k : Int} {t0 v0 t v : ByteArray} (h1 : w1.heap[b]? = some (.cells #[.int .i64 k0, .string t0, .string v0] T (0, 0))) :
    Ch (fun t => t = some T) (fun k => k = b) w1 (((w1.setCell ⟨b, 0, none⟩ (.int .i64 k)).setCell ⟨b, 1, none⟩ (.string t)).setCell ⟨b, 2, none⟩ (.string v)) ∧
    (((w1.setCell ⟨b, 0, none⟩ (.int .i64 k)).setCell ⟨b, 1, none⟩ (.string t)).setCell ⟨b, 2, none⟩ (.string v)).heap[b]? = some (.cells #[.int .i64 k, .string t, .string v] T (0, 0)) := by
  have a1 := blk_put (cs' := #[.int .i64 k, .string t0, .string v0]) h1 0 (.int .i64 k) rfl
  have a2 := blk_put (cs' := #[.int .i64 k, .string t, .string v0]) a1 1 (.string t) rfl
  have c1 : Ch (fun t => t = some T) (fun k => k = b) _ _ := Ch.set (T := fun t => t = some T) (F := fun k => k = b) h1 rfl rfl 0 (.int .i64 k)
  have c2 : Ch (fun t => t = some T) (fun k => k = b) _ _ := Ch.set (T := fun t => t = some T) (F := fun k => k = b) a1 rfl rfl 1 (.string t)
  have c3 : Ch (fun t => t = some T) (fun k => k = b) _ _ := Ch.set (T := fun t => t = some T) (F := fun k => k = b) a2 rfl rfl 2 (.string v)
  exact ⟨(c1.trans (c2.mono (fun _ h => h) (fun _ h => .inl h))).trans (c3.mono (fun _ h => h) (fun _ h => .inl h)), blk_put (cs' := #[.int .i64 k, .string t, .string v]) a2 2 (.string v) rfl⟩
set_option maxHeartbeats 8000000 in
set_option maxRecDepth 100000 in
theorem whole_calls {G : Nat → Prop} {w : World} {l : List Ev} {v : Value} (hr : Row G w 44 3 v l.length (evCs l)) (hl : l.length ≤ 1000000) (hx : ∀ x ∈ l, rightD x = true) (hT : Tab.Tabs w) :
    Calls Tryz.prog 6 #[v] w fun e w' => e = .returned (.tuple #[.int .i64 ((wholeC rightD l).1 : Nat), .int .i64 (wholeC rightD l).2]) ∧ Below w.heap.size w w' := by
  obtain ⟨A1, n1, hv1, _, _⟩ := hr.slice
  subst hv1
  have HR := Aside0.mk hr
  have HT := Aside0.mk hT
  have HX := Aside0.mk hx
  have HL := Aside0.mk hl
  clear hr hx hT hl
  go_enter Tryz.func6, Tryz.ntmps6
  go_wp2_with (go_at_call 10; refine (new_calls w).mono ?_; rintro e w1 ⟨g, rfl, hk, hb⟩; have K1 := Aside0.mk hk; have B1 := Aside0.mk hb; clear hk hb)
  go_loopg [11] (l.length + 1) (fun gk v11 wr => ∃ (i : Nat) (c : CK) (ps : List (Nat × Nat)), v11 = .int .i64 i ∧ Aside0 (i ≤ l.length) ∧ Aside0 (l.length - i < gk) ∧ Aside0 (CkAt (fun k => w.heap.size ≤ k) wr g ps c) ∧ Aside0 (c.Ok) ∧ Aside0 (N10 c) ∧ Aside0 (runC rightD CK.new l 0 = runC rightD c (l.drop i) i) ∧ Aside0 (Below w.heap.size w wr))
  case atStart => exact ⟨0, CK.new, [], rfl, ⟨Nat.zero_le _⟩, ⟨by omega⟩, K1, ⟨CK.Ok.new⟩, ⟨fun l hl => by cases hl⟩, ⟨by rw [List.drop_zero]⟩, B1⟩
  case round =>
    obtain ⟨i, c, ps, rfl, P1, P2, P3, P4, P5, P6, P7⟩ := hrel
    cases gk with
    | zero => exact absurd P2.out (by omega)
    | succ k1 =>
    have hp1 := P1.out
    have hll := HL.out
    by_cases hlt : i < l.length
    · obtain ⟨b, o, c0, hv, _, _, hcell, _⟩ := (HR.out.below P7.out).open_ (by omega)
      injection hv with e1 e2 e3
      subst e1; subst e3
      clear e2
      obtain ⟨g0, g1, g2⟩ := evCs_get l i hlt
      have x0 := hcell _ _ g0
      have x1 := hcell _ _ g1
      have x2 := hcell _ _ g2
      have t1 : decide ((i : Int) < (l.length : Int)) = true := decide_eq_true (by omega)
      have t2 : decide (i < l.length) = true := decide_eq_true hlt
      have tw : wrap64 ((i : Int) + 1) = (i : Int) + 1 := w64 (by omega) (by omega)
      have HCONS := Aside0.mk (List.drop_eq_getElem_cons hlt)
      have HMEM := Aside0.mk (HX.out l[i] (List.getElem_mem hlt))
      generalize l[i] = x at x0 x1 x2 HCONS HMEM
      rw [← Nat.add_assoc] at x1 x2
      have y3 : (0 : Int) ≤ (i : Int) := by omega
      have y4 : (i : Int) < (l.length : Int) := by omega
      clear g0 g1 g2 hcell
      obtain ⟨sq, hsq⟩ : ∃ sq, (stepC rightD c x).2 = sq := ⟨_, rfl⟩
      have HSQ := Aside0.mk hsq
      by_cases hs0 : sq = 0
      · subst hs0
        clear hsq
        go_wp2_with (first
          | ((with_reducible refine gate_dst (N := 6) rfl ?_); refine box_event ?hg (N := 6) ?hd (cs := #[.int .i64 0, .string ⟨#[]⟩, .string ⟨#[]⟩]) (t := 44) ?hr ?_; (case hd => rfl); (case hg => rfl); (case hr => first | (go_simp; done) | (go_simp; rfl)); intro b2 hg w4 hbox hb; have HBB := Aside0.mk hg; have B4 := Aside0.mk hb; have e0 := (blk_cell hbox 0).trans rfl; have e1 := (blk_cell hbox 1).trans rfl; have e2 := (blk_cell hbox 2).trans rfl; have g0 := blk_frozen hbox 0; have g1 := blk_frozen hbox 1; have g2 := blk_frozen hbox 2; have T4 := Aside0.mk (three_c (k := x.k) (t := x.t) (v := x.v) hbox); have s0 := (blk_cell T4.out.2 0).trans rfl; have s1 := (blk_cell T4.out.2 1).trans rfl; have s2 := (blk_cell T4.out.2 2).trans rfl; clear hg hbox hb)
          | (go_at_call 11; have K5 := Aside0.mk ((P3.out.below B4.out).chT T4.out.1 (by decide) (by decide) (by decide) (by decide)); have B5 := Aside0.mk ((P7.out.trans (B4.out.mono P7.out.size)).trans (T4.out.1.below (B := w.heap.size) (fun k hk => by have := HBB.out; have := P7.out.size; omega) (Nat.le_trans P7.out.size B4.out.size))); refine (step_calls x (right_kind HMEM.out).1 K5.out (fun k hk => Nat.le_trans B5.out.size hk) (right_kind HMEM.out).2 (HT.out.below B5.out) P5.out P4.out).mono ?_; rintro e w6 ⟨ps6, rfl, hk, hc⟩; rw [HSQ.out]; have K6 := Aside0.mk hk; have B6 := Aside0.mk (B5.out.trans (hc.below (B := w.heap.size) (fun _ h => h) B5.out.size)); clear hk hc e0 e1 e2 g0 g1 g2 s0 s1 s2 x0 x1 x2))
        go_roundg k1
        case measure => have := P2.out; omega
        case rel =>
          have hk10 : x.k ≠ 10 := by have := (right_kind HMEM.out).1; omega
          exact ⟨i + 1, (stepC rightD c x).1, ps6, by go_num, ⟨by omega⟩, ⟨by have := P2.out; omega⟩, K6, ⟨step_ok P4.out _ x⟩, ⟨step_n10 P5.out _ x hk10⟩, ⟨by rw [P6.out, HCONS.out, runC_pos HSQ.out]⟩, B6⟩
      · have n0 : (sq == 0) = false := by rw [beq_eq_false_iff_ne]; exact hs0
        have m0 : decide (sq = 0) = false := decide_eq_false hs0
        have b0 : (sq != 0) = true := by rw [bne_iff_ne]; exact hs0
        have HNE := Aside0.mk hs0
        clear hsq hs0
        go_wp2_with (first
          | ((with_reducible refine gate_dst (N := 6) rfl ?_); refine box_event ?hg (N := 6) ?hd (cs := #[.int .i64 0, .string ⟨#[]⟩, .string ⟨#[]⟩]) (t := 44) ?hr ?_; (case hd => rfl); (case hg => rfl); (case hr => first | (go_simp; done) | (go_simp; rfl)); intro b2 hg w4 hbox hb; have HBB := Aside0.mk hg; have B4 := Aside0.mk hb; have e0 := (blk_cell hbox 0).trans rfl; have e1 := (blk_cell hbox 1).trans rfl; have e2 := (blk_cell hbox 2).trans rfl; have g0 := blk_frozen hbox 0; have g1 := blk_frozen hbox 1; have g2 := blk_frozen hbox 2; have T4 := Aside0.mk (three_c (k := x.k) (t := x.t) (v := x.v) hbox); have s0 := (blk_cell T4.out.2 0).trans rfl; have s1 := (blk_cell T4.out.2 1).trans rfl; have s2 := (blk_cell T4.out.2 2).trans rfl; clear hg hbox hb)
          | (go_at_call 11; have K5 := Aside0.mk ((P3.out.below B4.out).chT T4.out.1 (by decide) (by decide) (by decide) (by decide)); have B5 := Aside0.mk ((P7.out.trans (B4.out.mono P7.out.size)).trans (T4.out.1.below (B := w.heap.size) (fun k hk => by have := HBB.out; have := P7.out.size; omega) (Nat.le_trans P7.out.size B4.out.size))); refine (step_calls x (right_kind HMEM.out).1 K5.out (fun k hk => Nat.le_trans B5.out.size hk) (right_kind HMEM.out).2 (HT.out.below B5.out) P5.out P4.out).mono ?_; rintro e w6 ⟨ps6, rfl, hk, hc⟩; rw [HSQ.out]; have K6 := Aside0.mk hk; have B6 := Aside0.mk (B5.out.trans (hc.below (B := w.heap.size) (fun _ h => h) B5.out.size)); clear hk hc e0 e1 e2 g0 g1 g2 s0 s1 s2 x0 x1 x2))
        go_ret2
        have hrun : runC rightD CK.new l 0 = (c, i, sq) := by rw [P6.out, HCONS.out, runC_neg (by rw [HSQ.out]; exact HNE.out), HSQ.out]
        have hw : wholeC rightD l = (i, sq) := by unfold wholeC; rw [hrun, if_neg HNE.out]
        rw [hw]
        exact ⟨rfl, B6.out⟩
    · have hi : i = l.length := by omega
      have HI := Aside0.mk hi
      have t1 : decide ((i : Int) < (l.length : Int)) = false := decide_eq_false (by omega)
      have t2 : decide (i < l.length) = false := decide_eq_false (by omega)
      have HRUN := Aside0.mk (show runC rightD CK.new l 0 = (c, l.length, 0) by rw [P6.out, hi, List.drop_length]; rfl)
      cases hd : doneC c with
      | false =>
        have HD := Aside0.mk hd
        have HW := Aside0.mk (show wholeC rightD l = (l.length, 19) by unfold wholeC; rw [HRUN.out]; simp [hd])
        clear hi hd
        go_wp2_with (go_at_call 12; refine (done_calls P3.out).mono ?_; rintro e w5 ⟨rfl, hb⟩; rw [HD.out]; have B5 := Aside0.mk (P7.out.trans (hb.mono P7.out.size)); clear hb)
        go_ret2
        rw [HW.out]
        exact ⟨rfl, B5.out⟩
      | true =>
        have HD := Aside0.mk hd
        have HW := Aside0.mk (show wholeC rightD l = (l.length, 0) by unfold wholeC; rw [HRUN.out]; simp [hd])
        clear hi hd
        go_wp2_with (go_at_call 12; refine (done_calls P3.out).mono ?_; rintro e w5 ⟨rfl, hb⟩; rw [HD.out]; have B5 := Aside0.mk (P7.out.trans (hb.mono P7.out.size)); clear hb)
        go_ret2
        rw [HW.out]
        exact ⟨rfl, B5.out⟩
end Go.Proofs.YtalaedpiimdcbaaGreatDoor.Ec

namespace Go.Proofs.YtalaedpiimdcbaaGreatDoor.Lw
open Go Go.Lib Go.RowKit Go.Proofs.YtalaedpiimdcbaaGreatDoorW.PrintWords Go.Proofs.YtalaedpiimdcbaaGreatDoorW.PrintLast Go.Proofs.YtalaedpiimdcbaaGreatDoor.Own Go.Proofs.YtalaedpiimdcbaaGreatDoor.Hp Go.Proofs.YtalaedpiimdcbaaGreatDoor.Srcw Go.Proofs.YtalaedpiimdcbaaGreatDoor.Dl Go.Proofs.YtalaedpiimdcbaaGreatDoor.Cr Go.Proofs.YtalaedpiimdcbaaGreatDoor.Ec
set_option linter.unusedVariables false
set_option linter.unusedSimpArgs false
theorem takes_dec (l : List UInt8) : ∃ c, Takes CK.new (dec l).c.q c := by
  have hi := Inv.new.feed l
  rw [Nat.zero_add] at hi
  obtain ⟨hok, c, ht, ha⟩ := hi
  unfold dec closeD
  by_cases h1 : (feedD DS.new l).c.closed = true ∨ (feedD DS.new l).c.over = true
  · rw [if_pos h1]
    exact ⟨c, ht⟩
  rw [if_neg h1]
  have hov : (feedD DS.new l).c.over = false := by
    cases hx : (feedD DS.new l).c.over
    · rfl
    · exact absurd (.inr hx) h1
  by_cases h2 : (feedD DS.new l).c.l ≠ 0
  · rw [if_pos h2]
    exact ⟨c, ht⟩
  · rw [if_neg h2]
    obtain ⟨hat, htx⟩ := ha hov
    obtain ⟨c', g1, g2⟩ := end_good hat (hok.ok hov) htx (by simpa using h2)
    exact ⟨c', ht.app g1⟩
theorem run_right : ∀ (l : List Ev) (c c' : CK) (i : Nat), runC rightD c l i = (c', i + l.length, 0) → ∀ x ∈ l, rightD x = true := by
  intro l
  induction l with
  | nil => intro c c' i h x hx; cases hx
  | cons y r ih =>
    intro c c' i h x hx
    by_cases h0 : (stepC rightD c y).2 = 0
    · have hy : rightD y = true := by
        cases hr : rightD y with
        | true => rfl
        | false =>
          unfold stepC at h0
          rw [hr] at h0
          cases h0
      rcases List.mem_cons.1 hx with hx | hx
      · subst hx; exact hy
      · rw [runC, if_pos h0] at h
        refine ih _ c' (i + 1) (by rw [h, List.length_cons]; congr 2; omega) x hx
    · rw [runC, if_neg h0] at h
      injection h with _ h
      injection h with _ h
      exact absurd h h0
theorem dec_right (l : List UInt8) : ∀ x ∈ (dec l).c.q, rightD x = true := by
  obtain ⟨c, h⟩ := takes_dec l
  exact run_right _ _ _ _ (h 0)
set_option maxHeartbeats 16000000 in
set_option maxRecDepth 100000 in
theorem law_DelimWhole (a : Option Addr) (len cap : Nat) (zs : List Int) {w : World} (hr : IsRow .u8 w a len cap zs) (_hx : len * 1 ≤ 140737488351232) (hT : Tab.Tabs w) :
    Calls Tryz.prog 3 #[.slice a len cap] w fun e w' => e = .returned (.bool true) ∧ Below w.heap.size w w' := by
  obtain ⟨L, hL, hR, hlc, hcm⟩ := row_bytes hr
  obtain ⟨l, hl⟩ : ∃ l, L.take 600 = l := ⟨_, rfl⟩
  have hll : min 600 len = l.length := by rw [← hl, List.length_take, hL]
  have HLL := Aside0.mk hll
  have hl6 : l.length ≤ 600 := by omega
  have HL6 := Aside0.mk hl6
  have HR := Aside0.mk (show Rd8 (fun k => w.heap.size ≤ k) w a l by rw [← hl]; exact Rd8.take_ hR 600)
  have HT := Aside0.mk hT
  clear hr hR hl hL hll hl6 hT
  obtain ⟨dd, hdd⟩ : ∃ dd, dec l = dd := ⟨_, rfl⟩
  have HDD := Aside0.mk (show closeD (feedD DS.new l) = dd from hdd)
  have hwd := whole_dec l
  have hrd := dec_right l
  have hdl := dec_len l
  rw [hdd] at hwd hrd hdl
  obtain ⟨q1, q2, q3, q4⟩ := hwd
  have HRD := Aside0.mk hrd
  have HDL := Aside0.mk (show dd.c.q.length ≤ 3010 by have h6 := HL6.out; unfold stepMax at hdl; exact Nat.le_trans hdl (by omega))
  obtain ⟨at_, hat⟩ : ∃ y, dd.c.at_ = y := ⟨_, rfl⟩
  obtain ⟨er, her⟩ : ∃ y, dd.c.err = y := ⟨_, rfl⟩
  obtain ⟨wn, hwn⟩ : ∃ y, (wholeC rightD dd.c.q).2 = y := ⟨_, rfl⟩
  have HAT := Aside0.mk hat
  have HER := Aside0.mk her
  have HWN := Aside0.mk hwn
  have HW1 := Aside0.mk q1
  rw [hat] at q2 q3 q4
  rw [her, hwn] at q2
  clear hdd hrd hdl hat her hwn q1
  by_cases h0 : er = 0
  · obtain ⟨k1, k2⟩ := q2 h0
    subst h0; subst k1; subst k2
    clear q2 q3 q4
    go_enter Tryz.func3, Tryz.ntmps3
    go_wp2_with (first
      | (go_at_call 4; refine (few_calls a len cap w hlc hcm).mono ?_; rintro e w0 ⟨rfl, rfl⟩; rw [HLL.out])
      | (go_at_call 5; refine (decode_calls (l := l) (by have := HL6.out; omega) HR.out).mono ?_; rintro e w2 ⟨v, rfl, hv, hc2⟩; rw [HDD.out] at hv ⊢; rw [HER.out, HAT.out]; have V2 := Aside0.mk hv; have B2 := Aside0.mk (hc2.below (B := w.heap.size) (fun _ h => h) (Nat.le_refl _)); obtain ⟨Av, cv, hvs, _, _⟩ := hv.slice; clear hv hc2; have hvv := hvs; clear hvs; subst hvv)
      | (go_at_call 6; refine (whole_calls V2.out (by have := HDL.out; omega) HRD.out (HT.out.below B2.out)).mono ?_; rintro e w3 ⟨rfl, hb⟩; rw [HW1.out, HWN.out]; have B3 := Aside0.mk (B2.out.trans (hb.mono B2.out.size)); clear hb)
      | (go_at_call 7; refine (lives_calls _).mono ?_; rintro e w4 ⟨rfl, hb⟩; have B4 := Aside0.mk (B3.out.trans (hb.mono B3.out.size)); clear hb))
    go_ret
    exact ⟨rfl, B4.out⟩
  · have n0 : (er == 0) = false := by rw [beq_eq_false_iff_ne]; exact h0
    have m0 : decide (er = 0) = false := decide_eq_false h0
    have t1 : decide (0 ≤ at_) = true := decide_eq_true q3
    have t2 : decide (at_ ≤ (l.length : Int)) = true := decide_eq_true q4
    clear q2 h0
    go_enter Tryz.func3, Tryz.ntmps3
    go_wp2_with (first
      | (go_at_call 4; refine (few_calls a len cap w hlc hcm).mono ?_; rintro e w0 ⟨rfl, rfl⟩; rw [HLL.out])
      | (go_at_call 5; refine (decode_calls (l := l) (by have := HL6.out; omega) HR.out).mono ?_; rintro e w2 ⟨v, rfl, hv, hc2⟩; rw [HDD.out] at hv ⊢; rw [HER.out, HAT.out]; have V2 := Aside0.mk hv; have B2 := Aside0.mk (hc2.below (B := w.heap.size) (fun _ h => h) (Nat.le_refl _)); obtain ⟨Av, cv, hvs, _, _⟩ := hv.slice; clear hv hc2; have hvv := hvs; clear hvs; subst hvv)
      | (go_at_call 6; refine (whole_calls V2.out (by have := HDL.out; omega) HRD.out (HT.out.below B2.out)).mono ?_; rintro e w3 ⟨rfl, hb⟩; rw [HW1.out, HWN.out]; have B3 := Aside0.mk (B2.out.trans (hb.mono B2.out.size)); clear hb)
      | (go_at_call 7; refine (lives_calls _).mono ?_; rintro e w4 ⟨rfl, hb⟩; have B4 := Aside0.mk (B3.out.trans (hb.mono B3.out.size)); clear hb))
    go_ret
    exact ⟨rfl, B4.out⟩
end Go.Proofs.YtalaedpiimdcbaaGreatDoor.Lw
