/- delim: the document's example. -/
import Derived.Test.YtalaedpiimdcbaaGreatDoorLawF
import Derived.Test.YtalaedpiimdcbaaGreatDoorCoreP
import Derived.Lib.SlBytesConst
namespace Go.Proofs.YtalaedpiimdcbaaGreatDoor.Lw
open Go Go.Lib Go.RowKit Go.Proofs.YtalaedpiimdcbaaGreatDoorW.PrintWords Go.Proofs.YtalaedpiimdcbaaGreatDoorW.PrintLast Go.Proofs.YtalaedpiimdcbaaGreatDoor.Own Go.Proofs.YtalaedpiimdcbaaGreatDoor.Hp Go.Proofs.YtalaedpiimdcbaaGreatDoor.Srcw Go.Proofs.YtalaedpiimdcbaaGreatDoor.Dl Go.Proofs.YtalaedpiimdcbaaGreatDoor.Cr
set_option linter.unusedVariables false
set_option linter.unusedSimpArgs false
def exB : List UInt8 := [97, 44, 98, 10, 49, 44, 34, 120, 34, 34, 121, 34, 10]
theorem ex_q : (dec exB).c.q = [⟨5, ⟨#[]⟩, ⟨#[]⟩⟩, ⟨7, ⟨#[]⟩, ⟨#[]⟩⟩, ⟨8, ⟨#[97]⟩, ⟨#[]⟩⟩, ⟨4, ⟨#[49]⟩, ⟨#[]⟩⟩, ⟨8, ⟨#[98]⟩, ⟨#[]⟩⟩, ⟨4, ⟨#[120, 34, 121]⟩, ⟨#[]⟩⟩, ⟨9, ⟨#[]⟩, ⟨#[]⟩⟩, ⟨6, ⟨#[]⟩, ⟨#[]⟩⟩] := by kernel_rfl
theorem ex_e : (dec exB).c.err = 0 ∧ (dec exB).c.at_ = 13 := by decide +kernel
/-- '[]byte("..")' of a constant: the literal's row has just been laid. -/
theorem const_event {P : Program} {ops : Array Oper} {rest : List Oper} {o : Oper} {a : Act} {Q : Exit → Act → World → Prop} {W : World} (hgd : o.guard = none) {l : List UInt8} {t e : TypeId} {n : Nat} {x : Operand} (hop : o.op = .convert t t x) (cs : Array Value) (hcs : cs = (u8C l).toArray)
    (hx : a.eval x = .slice (some ⟨W.heap.size, 0, none⟩) n n) (ht : P.underlying t = some (.slice e)) (he : P.underlying e = some (.int .u8))
    (h : ∀ g w1, g = W.heap.size → w1.heap.size = g + 1 → Rd8 (fun k => w1.heap.size ≤ k) w1 (some ⟨g, 0, none⟩) l → Below W.heap.size W w1 → wpList P ops Q rest (a.put o.dst (.slice (some ⟨g, 0, none⟩) n n)) w1) : wpList P ops Q (o :: rest) a (W.alloc (.cells cs e)) := by
  subst hcs
  have hsz : (W.alloc (.cells (u8C l).toArray e ((u8C l).toArray.size, (u8C l).toArray.size + 1))).heap.size = W.heap.size + 1 := by simp
  refine Kd.event_run hgd (v := .slice (some ⟨W.heap.size, 0, none⟩) n n) (w1 := W.alloc (.cells (u8C l).toArray e ((u8C l).toArray.size, (u8C l).toArray.size + 1))) ?_ (h _ _ rfl hsz (fun i hi => ?_) (below_alloc (Below.refl _ _) _))
  · have hr := Lib.run_convert_bytes_const (P := P) W t e (u8C l).toArray n n ht he
    unfold execOp
    simp only [hop, hx]
    simp [hr]
  · refine ⟨_, rfl, by show ¬ _ ≤ W.heap.size; omega, ?_⟩
    rw [Addr.add_lit, Nat.zero_add, World.cell?_alloc_mark]
    unfold u8C
    rw [List.getElem?_toArray, List.getElem?_map, List.getElem?_eq_getElem hi]
    rfl
set_option maxHeartbeats 8000000 in
set_option maxRecDepth 100000 in
theorem lives_calls (w : World) : Calls Tryz.prog 7 #[] w fun e w' => e = .returned (.bool true) ∧ Below w.heap.size w w' := by
  have HQ := Aside0.mk ex_q
  have HE := Aside0.mk ex_e
  go_enter Tryz.func7, Tryz.ntmps7
  go_wp2_with (first
    | ((with_reducible refine gate_dst (N := 6) rfl ?_); refine const_event ?hg (l := exB) (n := 13) (t := 22) (e := 5) (x := .tmp 5) ?ho (#[.int .u8 97, .int .u8 44, .int .u8 98, .int .u8 10, .int .u8 49, .int .u8 44, .int .u8 34, .int .u8 120, .int .u8 34, .int .u8 34, .int .u8 121, .int .u8 34, .int .u8 10]) ?hc ?hx Tryz.underlying22 Tryz.underlying5 ?_; (case ho => rfl); (case hg => rfl); (case hc => rfl); (case hx => rfl); intro g w1 hg hs1 hr8 hb; have R1 := Aside0.mk hr8; have B1 := Aside0.mk hb; clear hs1 hg hr8 hb)
    | (go_at_call 5; refine (decode_calls (l := exB) (by decide) R1.out).mono ?_; rintro e w2 ⟨v, rfl, hv, hc⟩; rw [show (closeD (feedD DS.new exB)).c.err = 0 from HE.out.1, show (closeD (feedD DS.new exB)).c.at_ = 13 from HE.out.2]; rw [show (closeD (feedD DS.new exB)).c.q = _ from HQ.out] at hv; obtain ⟨b2, o2, n2, hv2, _, _, hcell, _⟩ := hv.open_ (by decide); subst hv2; have x0 : w2.cell? ⟨b2, o2 + 9, none⟩ = _ := hcell 9 _ rfl; have x1 : w2.cell? ⟨b2, o2 + 10, none⟩ = _ := hcell 10 _ rfl; have x2 : w2.cell? ⟨b2, o2 + 11, none⟩ = _ := hcell 11 _ rfl; have y0 : w2.cell? ⟨b2, o2 + 15, none⟩ = _ := hcell 15 _ rfl; have y1 : w2.cell? ⟨b2, o2 + 16, none⟩ = _ := hcell 16 _ rfl; have y2 : w2.cell? ⟨b2, o2 + 17, none⟩ = _ := hcell 17 _ rfl; have BB := Aside0.mk (B1.out.trans ((hc.below (fun _ h => h) (Nat.le_refl _)).mono B1.out.size)); clear hv hc hcell))
  go_ret
  exact ⟨rfl, BB.out⟩
end Go.Proofs.YtalaedpiimdcbaaGreatDoor.Lw
