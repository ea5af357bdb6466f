/- names: the state of a Scope, and what New, Open, Bind and Close do with it. -/
import Derived.Test.YticlppojbbocbaaDoorNameCut
import Derived.Test.YticlppojbbocbaaDoorOwnMap
import Derived.Test.YticlppojbbocbaaDoorBulk
namespace Go.Proofs.YticlppojbbocbaaDoor.Nm
open Go Go.Lib Go.Shelf Go.RowKit Go.Proofs.YticlppojbbocbaaDoorW.PrintWords Go.Proofs.YticlppojbbocbaaDoorW.PrintLast Go.Proofs.YticlppojbbocbaaDoor.Own Go.Proofs.YticlppojbbocbaaDoor.Srcw Go.Proofs.YticlppojbbocbaaDoor.Tab
set_option linter.unusedVariables false
set_option linter.unusedSimpArgs false

theorem tS : TS Tryd.prog 60 9 9 := ⟨Tryd.underlying60, Tryd.underlying9, Tryd.underlying9, Tryd.zeroValue9⟩
theorem infoMap : (Tryd.prog.info? 60).map (fun i => (i.zero, i.size, i.bytes)) = some (some (.map none), 1, 8) := by kernel_rfl
/-- A map's block as a value. -/
def mv (b : Nat) : Value := .map (some b)
/-- A scope that is open: its block, how many are bound, what. -/
structure Sc where
  b : Nat
  m : Nat
  f : ByteArray → Option ByteArray
def kmv : Kd Nat := Kd.scalar mv (fun _ => rfl)
def IsSc (B : Nat) (w : World) (g : Nat) (st : List Sc) : Prop :=
  B ≤ g ∧ ∃ v, w.heap[g]? = some (.cells #[v] 55 (0, 0)) ∧ kmv.R 60 w B (fun k => k ≠ g ∧ ∀ x ∈ st, k ≠ x.b) v (st.map Sc.b) ∧
    (∀ x ∈ st, B ≤ x.b ∧ x.b ≠ g ∧ (mkS tS).Is w x.b x.m x.m x.f) ∧ (st.map Sc.b).Nodup
theorem IsSc.lt {B g : Nat} {w : World} {st : List Sc} (h : IsSc B w g st) : g < w.heap.size := by
  obtain ⟨_, v, h1, _⟩ := h; exact blk_lt h1
theorem IsSc.below {B g : Nat} {w w' : World} {st : List Sc} (h : IsSc B w g st) (hb : Below w.heap.size w w') : IsSc B w' g st := by
  obtain ⟨h0, v, h1, h2, h3, h4⟩ := h
  exact ⟨h0, v, (hb.block g (blk_lt h1)).trans h1, Kd.R_below h2 hb, fun x hx => ⟨(h3 x hx).1, (h3 x hx).2.1, (h3 x hx).2.2.below hb⟩, h4⟩
theorem below_mono {B : Nat} {w1 w2 : World} (h : Below w1.heap.size w1 w2) (hB : B ≤ w1.heap.size) : Below B w1 w2 := ⟨h.os, h.tape, h.output, h.size, fun k hk => h.block k (by omega)⟩

set_option maxHeartbeats 2000000 in
set_option maxRecDepth 100000 in
theorem new_calls (w0 w : World) (hB : Below w0.heap.size w0 w) :
    Calls Tryd.prog 18 #[] w fun e w' => ∃ g : Nat, e = .returned (.pointer (some ⟨g, 0, none⟩)) ∧ IsSc w0.heap.size w' g [] ∧ Below w0.heap.size w0 w' := by
  have HB := Aside0.mk hB
  clear hB
  go_enter Tryd.func18, Tryd.ntmps18
  go_wp2_with ((with_reducible refine gate_dst (N := 2) rfl ?_); refine box_event ?hg (N := 2) ?hd (cs := #[.slice none 0 0]) (t := 55) ?hr ?_; (case hd => rfl); (case hg => rfl); (case hr => first | (go_simp; done) | (go_simp; rfl)); intro g hg w1 hbox hb; have HG := Aside0.mk hg; have H1 := Aside0.mk hbox; have H2 := Aside0.mk hb; clear hg hbox hb)
  go_ret
  exact ⟨g, rfl, ⟨by rw [HG.out]; exact HB.out.size, _, H1.out, Kd.R_nil _ _ _ _ _, (fun x hx => by cases hx), List.nodup_nil⟩, HB.out.trans (below_mono H2.out HB.out.size)⟩

set_option maxHeartbeats 2000000 in
set_option maxRecDepth 100000 in
theorem open_calls {B g : Nat} {w : World} {st : List Sc} (h : IsSc B w g st) (hB : B ≤ w.heap.size) (hl : st.length < 17000000000000) :
    Calls Tryd.prog 21 #[.pointer (some ⟨g, 0, none⟩)] w fun e w' => (∃ v, e = .returned v) ∧ (∃ b, IsSc B w' g (st ++ [⟨b, 0, fun _ => none⟩])) ∧ Below B w w' := by
  have hgl := h.lt
  obtain ⟨h0, v, h1, h2, h3, h4⟩ := h
  have H0 := Aside0.mk h0
  have H1 := Aside0.mk h1
  have H2 := Aside0.mk h2
  have H3 := Aside0.mk h3
  have H4 := Aside0.mk h4
  have HB := Aside0.mk hB
  have HG := Aside0.mk hgl
  have HL := Aside0.mk (show ((st.map Sc.b).length + 1) * 8 ≤ 140737488355328 by rw [List.length_map]; omega)
  have c0 := (blk_cell h1 0).trans rfl
  have f0 := blk_frozen h1 0
  obtain ⟨A1, n1, hv⟩ := Kd.R_slice h2
  rw [List.length_map] at hv
  clear h0 h1 h2 h3 h4 hB hl hgl
  subst hv
  go_enter Tryd.func21, Tryd.ntmps21
  go_wp2_with (first
    | (refine MKind.make_event (mkS tS) rfl rfl ?_; intro b hb w1 hm b1; have M1 := Aside0.mk hm; have B1 := Aside0.mk b1; have G1 := Aside0.mk hb; have D0 := (b1.cell (p := ⟨g, 0, none⟩) HG.out).trans c0; have E0 := (b1.frozen (p := ⟨g, 0, none⟩) HG.out).trans f0; clear hm b1 hb c0 f0)
    | ((with_reducible refine gate_builtin (b := .append) (xs := #[.tmp 6, .tmp 8]) rfl ?_); at_builtin; refine Kd.R_append kmv (w0 := w) B rfl (.tmp 6) (.tmp 8) 53 60 (.map none) 8 rfl Tryd.underlying53 infoMap rfl (by decide) (by omega) _ (st.map Sc.b) b [mv b] (fun k => (k ≠ g ∧ ∀ x ∈ st, k ≠ x.b) ∧ k ≠ b) (fun _ => False) rfl rfl ?aP (fun _ hk => hk.elim) ?aF (Kd.R_below (Kd.R_elderB H2.out b G1.out) B1.out) (below_mono B1.out HB.out) (Nat.le_trans HB.out B1.out.size) HL.out ?_; (case aP => exact rfl); (case aF => exact (fun k hk => ⟨⟨by have := HG.out; have := B1.out.size; omega, fun x hx => by have := (H3.out x hx).2.2.lt; have := B1.out.size; omega⟩, by have := M1.out.lt; omega⟩)); intro v2 w2 ho hb hg hat; have K1 := Aside0.mk ho; have K2 := Aside0.mk hb; have K3 := Aside0.mk hg; have D1 := (blk_cell (hg.block g (by have := HG.out; have := B1.out.size; omega) (fun e => (H2.out.1 g e.symm).1 rfl) |>.trans ((B1.out.block g HG.out).trans H1.out)) 0).trans rfl; have E1 := blk_frozen (hg.block g (by have := HG.out; have := B1.out.size; omega) (fun e => (H2.out.1 g e.symm).1 rfl) |>.trans ((B1.out.block g HG.out).trans H1.out)) 0; obtain ⟨A2, n2, hv2⟩ := Kd.R_slice ho; rw [List.length_append, List.length_map] at hv2; clear ho hb hg hat D0 E0; subst hv2))
  go_end0
  have hbg : b ≠ g := by have := HG.out; have := G1.out; omega
  have hw2 : w2.heap[g]? = some (.cells #[.slice A1 st.length n1] 55 (0, 0)) := (K3.out.block g (by have := HG.out; have := B1.out.size; omega) (fun e => (H2.out.1 g e.symm).1 rfl)).trans ((B1.out.block g HG.out).trans H1.out)
  refine ⟨⟨_, rfl⟩, ⟨b, H0.out, _, blk_put (cs' := #[.slice A2 (st.length + 1) n2]) hw2 0 _ (by simp), ?_, fun x hx => ?_, ?_⟩, K2.out.setCell (p := ⟨g, 0, none⟩) H0.out _⟩
  · rw [List.map_append]
    refine Kd.R_mono (Kd.R_far (p := ⟨g, 0, none⟩) K1.out (fun k hk => hk.1.1) _) (fun k hk => ⟨hk.1.1, fun x hx => ?_⟩)
    rcases List.mem_append.1 hx with hx | hx
    · exact hk.1.2 x hx
    · rw [List.mem_singleton] at hx; subst hx; exact hk.2
  · rcases List.mem_append.1 hx with hx | hx
    · obtain ⟨q1, q2, q3⟩ := H3.out x hx
      exact ⟨q1, q2, ((q3.below B1.out).grown K3.out (fun e => (H2.out.1 _ e.symm).2 x hx rfl)).set (p := ⟨g, 0, none⟩) q2 _⟩
    · rw [List.mem_singleton] at hx; subst hx
      exact ⟨Nat.le_trans HB.out G1.out, hbg, (M1.out.grown K3.out (fun e => by have := Kd.R_lt H2.out b e.symm; have := G1.out; omega)).set (p := ⟨g, 0, none⟩) hbg _⟩
  · rw [List.map_append, List.nodup_append]
    refine ⟨H4.out, by simp, fun x hx y hy => ?_⟩
    obtain ⟨z, hz, rfl⟩ := List.mem_map.1 hx
    simp only [List.map_cons, List.map_nil, List.mem_singleton] at hy
    subst hy
    have := (H3.out z hz).2.2.lt
    have := G1.out
    omega
end Go.Proofs.YticlppojbbocbaaDoor.Nm
