/- names: the state of a Scope, and what New, Open, Bind and Close do with it. names: Bind and Close. names.Bind, walked. slices.Backward over a row of maps, and names' Scope.Space over it. names' Scope.Space, walked. -/
import Derived.Test.YticlppojbbocbaaDoorNameCut
import Derived.Test.YticlppojbbocbaaDoorOwnMap
import Derived.Test.YticlppojbbocbaaDoorHp
import Derived.Test.YticlppojbbocbaaDoorBulk
import Derived.Test.YticlppojbbocbaaDoorNameJoin
import Derived.StillTailTactics
import Derived.BigQuiet
import Derived.RangeFuncBox
import Derived.RangeFuncLeaves
import Derived.RangeFuncNested
import Derived.Shelf.Abstract
import Derived.OwnWalkIn
import Derived.TacticsInMore
import Derived.LoopNIn
import Derived.LoopIn
import Derived.Maps.OwnIn
namespace Go.Proofs.YticlppojbbocbaaDoor.Nm
open Go Go.Lib Go.Shelf Go.RowKit Go.Proofs.YticlppojbbocbaaDoorW.PrintWords Go.Proofs.YticlppojbbocbaaDoorW.PrintLast Go.Proofs.YticlppojbbocbaaDoor.Own Go.Proofs.YticlppojbbocbaaDoor.Srcw Go.Proofs.YticlppojbbocbaaDoor.Tab
set_option linter.unusedVariables false
set_option linter.unusedSimpArgs false

theorem tS : TS Tryd.prog 60 9 9 := ⟨Tryd.underlying60, Tryd.underlying9, Tryd.underlying9, Tryd.zeroValue9⟩
theorem infoMap : (Tryd.prog.info? 60).map (fun i => (i.zero, i.size, i.bytes)) = some (some (.map none), 1, 8) := by kernel_rfl
/-- A map's block as a value. -/
def mv (b : Nat) : Value := .map (some b)
/-- A scope that is open: its block, how many are bound, what. -/
structure Sc where
  b : Nat
  m : Nat
  f : ByteArray → Option ByteArray
def kmv : Kd Nat := Kd.scalar mv (fun _ => rfl)
/-- The types of a Scope's blocks. -/
def scT (t : Option Nat) : Prop := t = some 55 ∨ t = some 60 ∨ t = none
/-- Of the blocks from B on, only a Scope's may be others. -/
abbrev Chs (B : Nat) (w w' : World) : Prop := Hp.Ch scT (fun k => B ≤ k) w w'
theorem Chs.below {B : Nat} {w w' : World} (h : Chs B w w') (hB : B ≤ w.heap.size) : Below B w w' := Hp.Ch.below h (fun _ h => h) hB
theorem Chs.then {B : Nat} {w w1 w2 : World} (h : Chs B w w1) (k : Chs B w1 w2) : Chs B w w2 := Hp.Ch.trans h (Hp.Ch.mono k (fun _ h => h) (fun _ h => Hp.ext_of h))
theorem Chs.set {B g : Nat} {w : World} {cs : Array Value} (hb : w.heap[g]? = some (.cells cs 55 (0, 0))) (hB : B ≤ g) (v : Value) : Chs B w (w.setCell ⟨g, 0, none⟩ v) :=
  Hp.Ch.set (T := scT) (F := fun k => B ≤ k) hb hB (.inl rfl) 0 v
section
variable {P : Program} {t k e : TypeId} {α β : Type} {M : MKind P t k e α β} {w w1 : World} {b n m B : Nat} {f : α → Option β}
theorem is_block (h : M.Is w b n m f) : ∃ es clock, w.heap[b]? = some (.map es clock) := by
  obtain ⟨D, ⟨es, clock, h1, _⟩, _⟩ := h
  exact ⟨es, clock, h1⟩
theorem put_ch (h : M.Is w b n m f) (hF : B ≤ b) (hg : w.grownBy w1 (some b)) : Chs B w w1 := by
  obtain ⟨es, clock, h1⟩ := is_block h
  refine ⟨hg.os, hg.tape, hg.output, hg.size, fun k o hk hne => ?_⟩
  by_cases hkb : k = b
  · subst hkb
    rw [h1] at hk
    injection hk with hk
    subst hk
    exact absurd ⟨hF, Or.inr (Or.inr rfl)⟩ hne
  · exact (hg.block k (blk_lt hk) (fun he => hkb (Option.some.inj he))).trans hk
end
theorem grown_ch {w w1 : World} {B : Nat} {ok : Nat → Prop} {v : Value} {xs : List Nat} (h : kmv.R 60 w B ok v xs) (hg : w.grownBy w1 v.ownBlock) : Chs B w w1 := by
  have ho := Kd.own_of_R h
  refine ⟨hg.os, hg.tape, hg.output, hg.size, fun k o hk hne => ?_⟩
  by_cases hkb : some k = v.ownBlock
  · rcases ho.2 with ⟨hv, h0⟩ | ⟨g, cap, cur, rfl, hgb, hh, r⟩
    · subst hv
      simp [Value.ownBlock] at hkb
    · simp [Value.ownBlock] at hkb
      subst hkb
      rw [hh] at hk
      injection hk with hk
      subst hk
      exact absurd ⟨hgb, Or.inr (Or.inl rfl)⟩ hne
  · exact (hg.block k (blk_lt hk) hkb).trans hk
def IsSc (B : Nat) (w : World) (g : Nat) (st : List Sc) : Prop :=
  B ≤ g ∧ ∃ v, w.heap[g]? = some (.cells #[v] 55 (0, 0)) ∧ kmv.R 60 w B (fun k => k ≠ g ∧ ∀ x ∈ st, k ≠ x.b) v (st.map Sc.b) ∧
    (∀ x ∈ st, B ≤ x.b ∧ x.b ≠ g ∧ (mkS tS).Is w x.b x.m x.m x.f) ∧ (st.map Sc.b).Nodup
theorem IsSc.lt {B g : Nat} {w : World} {st : List Sc} (h : IsSc B w g st) : g < w.heap.size := by
  obtain ⟨_, v, h1, _⟩ := h; exact blk_lt h1
theorem IsSc.below {B g : Nat} {w w' : World} {st : List Sc} (h : IsSc B w g st) (hb : Below w.heap.size w w') : IsSc B w' g st := by
  obtain ⟨h0, v, h1, h2, h3, h4⟩ := h
  exact ⟨h0, v, (hb.block g (blk_lt h1)).trans h1, Kd.R_below h2 hb, fun x hx => ⟨(h3 x hx).1, (h3 x hx).2.1, (h3 x hx).2.2.below hb⟩, h4⟩
theorem below_mono {B : Nat} {w1 w2 : World} (h : Below w1.heap.size w1 w2) (hB : B ≤ w1.heap.size) : Below B w1 w2 := ⟨h.os, h.tape, h.output, h.size, fun k hk => h.block k (by omega)⟩

set_option maxHeartbeats 2000000 in
set_option maxRecDepth 100000 in
theorem new_calls (w0 w : World) (hB : Below w0.heap.size w0 w) :
    Calls Tryd.prog 18 #[] w fun e w' => ∃ g : Nat, e = .returned (.pointer (some ⟨g, 0, none⟩)) ∧ IsSc w0.heap.size w' g [] ∧ Below w0.heap.size w0 w' := by
  have HB := Aside0.mk hB
  clear hB
  go_enter Tryd.func18, Tryd.ntmps18
  go_wp2_with ((with_reducible refine gate_dst (N := 2) rfl ?_); refine box_event ?hg (N := 2) ?hd (cs := #[.slice none 0 0]) (t := 55) ?hr ?_; (case hd => rfl); (case hg => rfl); (case hr => first | (go_simp; done) | (go_simp; rfl)); intro g hg w1 hbox hb; have HG := Aside0.mk hg; have H1 := Aside0.mk hbox; have H2 := Aside0.mk hb; clear hg hbox hb)
  go_ret
  exact ⟨g, rfl, ⟨by rw [HG.out]; exact HB.out.size, _, H1.out, Kd.R_nil _ _ _ _ _, (fun x hx => by cases hx), List.nodup_nil⟩, HB.out.trans (below_mono H2.out HB.out.size)⟩

set_option maxHeartbeats 2000000 in
set_option maxRecDepth 100000 in
theorem open_calls {B g : Nat} {w : World} {st : List Sc} (h : IsSc B w g st) (hB : B ≤ w.heap.size) (hl : st.length < 17000000000000) :
    Calls Tryd.prog 21 #[.pointer (some ⟨g, 0, none⟩)] w fun e w' => (∃ v, e = .returned v) ∧ (∃ b, w.heap.size ≤ b ∧ IsSc B w' g (st ++ [⟨b, 0, fun _ => none⟩])) ∧ Chs B w w' := by
  have hgl := h.lt
  obtain ⟨h0, v, h1, h2, h3, h4⟩ := h
  have H0 := Aside0.mk h0
  have H1 := Aside0.mk h1
  have H2 := Aside0.mk h2
  have H3 := Aside0.mk h3
  have H4 := Aside0.mk h4
  have HB := Aside0.mk hB
  have HG := Aside0.mk hgl
  have HL := Aside0.mk (show ((st.map Sc.b).length + 1) * 8 ≤ 140737488355328 by rw [List.length_map]; omega)
  have c0 := (blk_cell h1 0).trans rfl
  have f0 := blk_frozen h1 0
  obtain ⟨A1, n1, hv⟩ := Kd.R_slice h2
  rw [List.length_map] at hv
  clear h0 h1 h2 h3 h4 hB hl hgl
  subst hv
  go_enter Tryd.func21, Tryd.ntmps21
  go_wp2_with (first
    | (refine MKind.make_event (mkS tS) rfl rfl ?_; intro b hb w1 hm b1; have M1 := Aside0.mk hm; have B1 := Aside0.mk b1; have G1 := Aside0.mk hb; have D0 := (b1.cell (p := ⟨g, 0, none⟩) HG.out).trans c0; have E0 := (b1.frozen (p := ⟨g, 0, none⟩) HG.out).trans f0; clear hm b1 hb c0 f0)
    | ((with_reducible refine gate_builtin (b := .append) (xs := #[.tmp 6, .tmp 8]) rfl ?_); at_builtin; refine Kd.R_append kmv (w0 := w) B rfl (.tmp 6) (.tmp 8) 53 60 (.map none) 8 rfl Tryd.underlying53 infoMap rfl (by decide) (by omega) _ (st.map Sc.b) b [mv b] (fun k => (k ≠ g ∧ ∀ x ∈ st, k ≠ x.b) ∧ k ≠ b) (fun _ => False) rfl rfl ?aP (fun _ hk => hk.elim) ?aF (Kd.R_below (Kd.R_elderB H2.out b G1.out) B1.out) (below_mono B1.out HB.out) (Nat.le_trans HB.out B1.out.size) HL.out ?_; (case aP => exact rfl); (case aF => exact (fun k hk => ⟨⟨by have := HG.out; have := B1.out.size; omega, fun x hx => by have := (H3.out x hx).2.2.lt; have := B1.out.size; omega⟩, by have := M1.out.lt; omega⟩)); intro v2 w2 ho hb hg hat; have K1 := Aside0.mk ho; have K2 := Aside0.mk hb; have K3 := Aside0.mk hg; have D1 := (blk_cell (hg.block g (by have := HG.out; have := B1.out.size; omega) (fun e => (H2.out.1 g e.symm).1 rfl) |>.trans ((B1.out.block g HG.out).trans H1.out)) 0).trans rfl; have E1 := blk_frozen (hg.block g (by have := HG.out; have := B1.out.size; omega) (fun e => (H2.out.1 g e.symm).1 rfl) |>.trans ((B1.out.block g HG.out).trans H1.out)) 0; obtain ⟨A2, n2, hv2⟩ := Kd.R_slice ho; rw [List.length_append, List.length_map] at hv2; clear ho hb hg hat D0 E0; subst hv2))
  go_end0
  have hbg : b ≠ g := by have := HG.out; have := G1.out; omega
  have hw2 : w2.heap[g]? = some (.cells #[.slice A1 st.length n1] 55 (0, 0)) := (K3.out.block g (by have := HG.out; have := B1.out.size; omega) (fun e => (H2.out.1 g e.symm).1 rfl)).trans ((B1.out.block g HG.out).trans H1.out)
  refine ⟨⟨_, rfl⟩, ⟨b, G1.out, H0.out, _, blk_put (cs' := #[.slice A2 (st.length + 1) n2]) hw2 0 _ (by simp), ?_, fun x hx => ?_, ?_⟩, Chs.then (Chs.then (Hp.Ch.of_below B1.out) (grown_ch (Kd.R_below H2.out B1.out) K3.out)) (Chs.set hw2 H0.out _)⟩
  · rw [List.map_append]
    refine Kd.R_mono (Kd.R_far (p := ⟨g, 0, none⟩) K1.out (fun k hk => hk.1.1) _) (fun k hk => ⟨hk.1.1, fun x hx => ?_⟩)
    rcases List.mem_append.1 hx with hx | hx
    · exact hk.1.2 x hx
    · rw [List.mem_singleton] at hx; subst hx; exact hk.2
  · rcases List.mem_append.1 hx with hx | hx
    · obtain ⟨q1, q2, q3⟩ := H3.out x hx
      exact ⟨q1, q2, ((q3.below B1.out).grown K3.out (fun e => (H2.out.1 _ e.symm).2 x hx rfl)).set (p := ⟨g, 0, none⟩) q2 _⟩
    · rw [List.mem_singleton] at hx; subst hx
      exact ⟨Nat.le_trans HB.out G1.out, hbg, (M1.out.grown K3.out (fun e => by have := Kd.R_lt H2.out b e.symm; have := G1.out; omega)).set (p := ⟨g, 0, none⟩) hbg _⟩
  · rw [List.map_append, List.nodup_append]
    refine ⟨H4.out, by simp, fun x hx y hy => ?_⟩
    obtain ⟨z, hz, rfl⟩ := List.mem_map.1 hx
    simp only [List.map_cons, List.map_nil, List.mem_singleton] at hy
    subst hy
    have := (H3.out z hz).2.2.lt
    have := G1.out
    omega
end Go.Proofs.YticlppojbbocbaaDoor.Nm

namespace Go.Proofs.YticlppojbbocbaaDoor.Nm
open Go Go.Lib Go.Shelf Go.RowKit Go.Proofs.YticlppojbbocbaaDoorW.PrintWords Go.Proofs.YticlppojbbocbaaDoorW.PrintLast Go.Proofs.YticlppojbbocbaaDoor.Own Go.Proofs.YticlppojbbocbaaDoor.Srcw Go.Proofs.YticlppojbbocbaaDoor.Tab
set_option linter.unusedVariables false
set_option linter.unusedSimpArgs false

theorem mrow_at {e : Nat} {w : World} {base : Nat} {ok : Nat → Prop} {v : Value} {xs : List Nat} (h : kmv.R e w base ok v xs) (hne : xs ≠ []) :
    ∃ g c, v = .slice (some ⟨g, 0, none⟩) xs.length c ∧ base ≤ g ∧ ok g ∧ g < w.heap.size ∧ ∀ j x, xs[j]? = some x → w.cell? ⟨g, j, none⟩ = some (mv x) := by
  have ho := Kd.own_of_R h
  rcases ho.2 with ⟨_, h0⟩ | ⟨g, cap, cur, rfl, hg, hh, r⟩
  · exact absurd (List.eq_nil_of_length_eq_zero h0) hne
  · refine ⟨g, cap, rfl, hg, h.1 g (by simp [Value.ownBlock]), blk_lt hh, fun j x hj => ?_⟩
    have hc := ho.cells (g := g) rfl j (mv x) (by unfold encs; rw [List.getElem?_map, hj]; rfl)
    have ha : (⟨g, 0, none⟩ : Addr).add j = ⟨g, j, none⟩ := by unfold Addr.add; simp; intro h; exact h.symm
    rwa [ha] at hc
theorem mrow_init {e : Nat} {w : World} {base : Nat} {ok : Nat → Prop} {A : Option Addr} {n c : Nat} {xs : List Nat} {x : Nat} (h : kmv.R e w base ok (.slice A n c) (xs ++ [x])) :
    kmv.R e w base ok (.slice A xs.length c) xs := by
  have ho := Kd.own_of_R h
  obtain ⟨hn, hc, _⟩ := Kd.R_reads' h
  have hl : (xs ++ [x]).length = xs.length + 1 := by simp
  rw [hn] at ho
  have ht := own_take (m := xs.length) ho (by omega)
  have he : (encs mv (xs ++ [x])).take (xs.length * 1) = encs mv xs := by simp [encs]
  rw [he] at ht
  refine Kd.R_of_own ht (fun g hg => h.1 g ?_)
  cases A
  · simp [Value.ownBlock] at hg
  · simpa [Value.ownBlock] using hg

set_option maxHeartbeats 2000000 in
set_option maxRecDepth 100000 in
theorem close_none {B g : Nat} {w : World} (h : IsSc B w g []) :
    Calls Tryd.prog 23 #[.pointer (some ⟨g, 0, none⟩)] w fun e w' => e = .returned (.int .i64 21) ∧ IsSc B w' g [] ∧ Chs B w w' := by
  have H := Aside0.mk h
  obtain ⟨h0, v, h1, h2, h3, h4⟩ := h
  have c0 := (blk_cell h1 0).trans rfl
  obtain ⟨A1, n1, hv⟩ := Kd.R_slice h2
  simp only [List.map_nil, List.length_nil] at hv
  clear h0 h1 h2 h3 h4
  subst hv
  go_enter Tryd.func23, Tryd.ntmps23
  go_wp2
  go_ret
  exact ⟨rfl, H.out, Hp.Ch.refl _ _ _⟩
set_option maxHeartbeats 2000000 in
set_option maxRecDepth 100000 in
theorem close_some {B g : Nat} {w : World} {st : List Sc} {x : Sc} (h : IsSc B w g (st ++ [x])) (hl : st.length < 17000000000000) :
    Calls Tryd.prog 23 #[.pointer (some ⟨g, 0, none⟩)] w fun e w' => e = .returned (.int .i64 0) ∧ IsSc B w' g st ∧ Chs B w w' := by
  obtain ⟨h0, v, h1, h2, h3, h4⟩ := h
  have H0 := Aside0.mk h0
  have H1 := Aside0.mk h1
  have H3 := Aside0.mk h3
  have H4 := Aside0.mk h4
  have c0 := (blk_cell h1 0).trans rfl
  have f0 := blk_frozen h1 0
  obtain ⟨gr, cr, hv, hgb, hgo, hgl, hgc⟩ := mrow_at h2 (by simp)
  rw [List.length_map, List.length_append, List.length_singleton] at hv
  have hcc := (Kd.R_reads' (hv ▸ h2)).2.1
  have H2 := Aside0.mk (hv ▸ h2)
  have e1 : IntKind.i64.wrap ((st.length : Int)) = (st.length : Int) := Go.IntWalk.i64_in _ (by omega)
  have e0 : IntKind.i64.wrap ((st.length : Int) + 1 - 1) = (st.length : Int) := by rw [Int.add_sub_cancel]; exact e1
  have e2 : ((st.length : Int)) ≤ (st.length : Int) + 1 := by omega
  have e5 : ((st.length : Int)) ≤ (cr : Int) := by omega
  have e3 : (0 : Int) ≤ (st.length : Int) := by omega
  have e4 : ((st.length : Int) + 1 == 0) = false := by rw [beq_eq_false_iff_ne]; omega
  clear h0 h1 h2 h3 h4 hgb hgo hgl hgc
  subst hv
  go_enter Tryd.func23, Tryd.ntmps23
  go_wp2_with fail
  refine wp_region_still_tail 14 (by kernel_rfl) (by kernel_rfl) ?_
  simp only [List.take_succ_cons, List.take_zero, List.drop_succ_cons, List.drop_zero]
  iterate 14 still_step
  refine wpStill_nil ?_
  change wpList _ _ _ _ _ w.drew
  have D0 : Below w.heap.size w w.drew := below_drew (Below.refl _ _)
  have D1 := Aside0.mk D0
  have c1 : w.drew.cell? ⟨g, 0, none⟩ = _ := c0
  have f1 : w.drew.frozen? ⟨g, 0, none⟩ = false := f0
  clear c0 f0 D0
  generalize w.drew = w1 at D1 c1 f1 ⊢
  go_wp2
  go_ret
  have hw1 : w1.heap[g]? = some (.cells #[.slice (some ⟨gr, 0, none⟩) (st.length + 1) cr] 55 (0, 0)) := (D1.out.block g (blk_lt H1.out)).trans H1.out
  have hmem : ∀ y ∈ st, y ∈ st ++ [x] := fun y hy => List.mem_append_left _ hy
  refine ⟨rfl, ⟨H0.out, _, blk_put (cs' := #[.slice (some ⟨gr, 0, none⟩) st.length cr]) hw1 0 _ (by simp), ?_, fun y hy => ?_, ?_⟩, Chs.then (Hp.Ch.of_below D1.out) (Chs.set hw1 H0.out _)⟩
  · have h := H2.out
    rw [List.map_append] at h
    have h' := mrow_init h
    rw [List.length_map] at h'
    exact Kd.R_mono (Kd.R_far (p := ⟨g, 0, none⟩) (Kd.R_below h' D1.out) (fun k hk => hk.1) _) (fun k hk => ⟨hk.1, fun y hy => hk.2 y (hmem y hy)⟩)
  · obtain ⟨q1, q2, q3⟩ := H3.out y (hmem y hy)
    exact ⟨q1, q2, (q3.below D1.out).set (p := ⟨g, 0, none⟩) q2 _⟩
  · have h := H4.out
    rw [List.map_append, List.nodup_append] at h
    exact h.1
end Go.Proofs.YticlppojbbocbaaDoor.Nm

namespace Go.Proofs.YticlppojbbocbaaDoor.Nm
open Go Go.Lib Go.Shelf Go.RowKit Go.Proofs.YticlppojbbocbaaDoorW.PrintWords Go.Proofs.YticlppojbbocbaaDoorW.PrintLast Go.Proofs.YticlppojbbocbaaDoor.Own Go.Proofs.YticlppojbbocbaaDoor.Srcw Go.Proofs.YticlppojbbocbaaDoor.Tab
set_option linter.unusedVariables false
set_option linter.unusedSimpArgs false
/-- May a prefix stand for a space? -/
def argsOk (p s : ByteArray) : Bool := (decide (p.size = 0) || localL p.data.toList) && (decide (s.size = 0) || spaceL s.data.toList) && !(decide (s.size = 0) && !decide (p.size = 0))
def bindF (x : Sc) (p s : ByteArray) : Sc := ⟨x.b, x.m + 1, fun y => if y = p then some s else x.f y⟩
/-- What Bind answers of the last scope. -/
def bindE (x : Sc) (p : ByteArray) : Int := if (x.f p).isSome then 6 else if 10 ≤ x.m then 7 else 0
def BindPost (B g : Nat) (init : List Sc) (x : Sc) (p s : ByteArray) (w : World) (e : Ending) (w' : World) : Prop :=
  e = .returned (.int .i64 (bindE x p)) ∧ IsSc B w' g (init ++ [if bindE x p = 0 then bindF x p s else x]) ∧ Chs B w w'
theorem IsSc.keys {B g : Nat} {w : World} {st : List Sc} (h : IsSc B w g st) : B ≤ w.heap.size := by have := h.lt; have := h.1; omega
theorem IsSc.last {B g : Nat} {w w' : World} {init : List Sc} {x y : Sc} (h : IsSc B w g (init ++ [x])) (hb : w.grownBy w' (some x.b)) (hy : y.b = x.b) (hm : (mkS tS).Is w' y.b y.m y.m y.f) : IsSc B w' g (init ++ [y]) := by
  obtain ⟨h0, v, h1, h2, h3, h4⟩ := h
  have hxg := (h3 x (by simp)).2.1
  have hbb : (init ++ [y]).map Sc.b = (init ++ [x]).map Sc.b := by simp [hy]
  have hno : some x.b ≠ v.ownBlock := fun e => (h2.1 _ e.symm).2 x (by simp) rfl
  refine ⟨h0, v, (hb.block g (blk_lt h1) (fun e => hxg (Option.some.inj e).symm)).trans h1, ?_, fun z hz => ?_, by rw [hbb]; exact h4⟩
  · rw [hbb]
    refine Kd.R_mono (Kd.R_grown h2 hb (fun k hk e => hk.2 x (by simp) (Option.some.inj e))) (fun k hk => ⟨hk.1, fun z hz => ?_⟩)
    rcases List.mem_append.1 hz with hz | hz
    · exact hk.2 z (List.mem_append_left _ hz)
    · rw [List.mem_singleton] at hz; subst hz; rw [hy]; exact hk.2 x (by simp)
  · rcases List.mem_append.1 hz with hz | hz
    · obtain ⟨q1, q2, q3⟩ := h3 z (List.mem_append_left _ hz)
      refine ⟨q1, q2, q3.grown hb (fun e => ?_)⟩
      have hzx := Option.some.inj e
      rw [List.map_append, List.nodup_append] at h4
      exact h4.2.2 z.b (List.mem_map.2 ⟨z, hz, rfl⟩) x.b (by simp) hzx
    · rw [List.mem_singleton] at hz; subst hz
      rw [hy] at hm ⊢
      exact ⟨(h3 x (by simp)).1, hxg, hm⟩


set_option maxHeartbeats 2000000 in
set_option maxRecDepth 100000 in
theorem bind_none {B g : Nat} {w : World} {p s : ByteArray} (h : IsSc B w g []) :
    Calls Tryd.prog 22 #[.pointer (some ⟨g, 0, none⟩), .string p, .string s] w fun e w' => e = .returned (.int .i64 1) ∧ IsSc B w' g [] ∧ Chs B w w' := by
  have H := Aside0.mk h
  obtain ⟨h0, v, h1, h2, h3, h4⟩ := h
  have c0 := (blk_cell h1 0).trans rfl
  obtain ⟨A1, n1, hv⟩ := Kd.R_slice h2
  simp only [List.map_nil, List.length_nil] at hv
  clear h0 h1 h2 h3 h4
  subst hv
  go_enter Tryd.func22, Tryd.ntmps22
  go_wp2
  go_ret
  exact ⟨rfl, H.out, Hp.Ch.refl _ _ _⟩


set_option maxHeartbeats 4000000 in
set_option maxRecDepth 100000 in
theorem bind_p {B g : Nat} {w : World} {init : List Sc} {x : Sc} {p s : ByteArray} (h : IsSc B w g (init ++ [x])) (hl : init.length < 17000000000000) (hps : p.size ≤ 1048576) (hss : s.size ≤ 1048576) (hm : x.m ≤ 10) (hT : Tabs w) (hp0 : ¬ p.size = 0) (hpl : localL p.data.toList = false) :
    Calls Tryd.prog 22 #[.pointer (some ⟨g, 0, none⟩), .string p, .string s] w (fun e w' => e = .returned (.int .i64 1) ∧ IsSc B w' g (init ++ [x]) ∧ Chs B w w') := by
  have HT := Aside0.mk hT
  have HSC := Aside0.mk h
  have HM := Aside0.mk hm
  have HPS := Aside0.mk hps
  have HSS := Aside0.mk hss
  have p1 := ne_empty hp0
  have p2 := ne_empty2 hp0
  have HPL := Aside0.mk hpl
  obtain ⟨h0, v, h1, h2, h3, h4⟩ := h
  have c0 := (blk_cell h1 0).trans rfl
  obtain ⟨gr, cr, hv, hgb, hgo, hgl, hgc⟩ := mrow_at h2 (by simp)
  rw [List.length_map, List.length_append, List.length_singleton] at hv
  have e4 : ((init.length : Int) + 1 == 0) = false := by rw [beq_eq_false_iff_ne]; omega
  have HC := Aside0.mk (show w.cell? ⟨gr, init.length, none⟩ = some (.map (some x.b)) from hgc init.length x.b (by simp))
  have HGR := Aside0.mk hgl
  have HGL := Aside0.mk (blk_lt h1)
  have HX := Aside0.mk (h3 x (by simp)).2.2
  have HL := Aside0.mk hl
  clear h0 h1 h2 h3 h4 hgb hgo hgl hgc hl hps hss hm hT hp0 hpl
  subst hv
  go_enter Tryd.func22, Tryd.ntmps22
  have B0 := Aside0.mk (Below.refl w.heap.size w)
  go_wp2_with fail
  refine (local_calls p w).mono ?_
  rintro e w1 ⟨rfl, hb⟩
  rw [HPL.out]
  have B1 := Aside0.mk (B0.out.trans (hb.mono B0.out.size))
  clear hb
  go_wp2
  go_ret
  exact ⟨rfl, HSC.out.below B1.out, Hp.Ch.of_below B1.out⟩

set_option maxHeartbeats 4000000 in
set_option maxRecDepth 100000 in
theorem bind_s {B g : Nat} {w : World} {init : List Sc} {x : Sc} {p s : ByteArray} (h : IsSc B w g (init ++ [x])) (hl : init.length < 17000000000000) (hps : p.size ≤ 1048576) (hss : s.size ≤ 1048576) (hm : x.m ≤ 10) (hT : Tabs w) (hp0 : p.size = 0) (hs0 : ¬ s.size = 0) (hsl : spaceL s.data.toList = false) :
    Calls Tryd.prog 22 #[.pointer (some ⟨g, 0, none⟩), .string p, .string s] w (fun e w' => e = .returned (.int .i64 1) ∧ IsSc B w' g (init ++ [x]) ∧ Chs B w w') := by
  have HT := Aside0.mk hT
  have HSC := Aside0.mk h
  have HM := Aside0.mk hm
  have HPS := Aside0.mk hps
  have HSS := Aside0.mk hss
  obtain rfl : p = ⟨#[]⟩ := empty_of hp0
  have s1 := ne_empty hs0
  have s2 := ne_empty2 hs0
  have HSL := Aside0.mk hsl
  obtain ⟨h0, v, h1, h2, h3, h4⟩ := h
  have c0 := (blk_cell h1 0).trans rfl
  obtain ⟨gr, cr, hv, hgb, hgo, hgl, hgc⟩ := mrow_at h2 (by simp)
  rw [List.length_map, List.length_append, List.length_singleton] at hv
  have e4 : ((init.length : Int) + 1 == 0) = false := by rw [beq_eq_false_iff_ne]; omega
  have HC := Aside0.mk (show w.cell? ⟨gr, init.length, none⟩ = some (.map (some x.b)) from hgc init.length x.b (by simp))
  have HGR := Aside0.mk hgl
  have HGL := Aside0.mk (blk_lt h1)
  have HX := Aside0.mk (h3 x (by simp)).2.2
  have HL := Aside0.mk hl
  clear h0 h1 h2 h3 h4 hgb hgo hgl hgc hl hps hss hm hT hp0 hs0 hsl
  subst hv
  go_enter Tryd.func22, Tryd.ntmps22
  have B0 := Aside0.mk (Below.refl w.heap.size w)
  go_wp2_with fail
  refine (space_calls s w (by have := HSS.out; omega) (HT.out.below B0.out)).mono ?_
  rintro e w1 ⟨rfl, hb⟩
  rw [HSL.out]
  have B1 := Aside0.mk (B0.out.trans (hb.mono B0.out.size))
  clear hb
  go_wp2
  go_ret
  exact ⟨rfl, HSC.out.below B1.out, Hp.Ch.of_below B1.out⟩

set_option maxHeartbeats 4000000 in
set_option maxRecDepth 100000 in
theorem bind_ps {B g : Nat} {w : World} {init : List Sc} {x : Sc} {p s : ByteArray} (h : IsSc B w g (init ++ [x])) (hl : init.length < 17000000000000) (hps : p.size ≤ 1048576) (hss : s.size ≤ 1048576) (hm : x.m ≤ 10) (hT : Tabs w) (hp0 : ¬ p.size = 0) (hpl : localL p.data.toList = true) (hs0 : ¬ s.size = 0) (hsl : spaceL s.data.toList = false) :
    Calls Tryd.prog 22 #[.pointer (some ⟨g, 0, none⟩), .string p, .string s] w (fun e w' => e = .returned (.int .i64 1) ∧ IsSc B w' g (init ++ [x]) ∧ Chs B w w') := by
  have HT := Aside0.mk hT
  have HSC := Aside0.mk h
  have HM := Aside0.mk hm
  have HPS := Aside0.mk hps
  have HSS := Aside0.mk hss
  have p1 := ne_empty hp0
  have p2 := ne_empty2 hp0
  have HPL := Aside0.mk hpl
  have s1 := ne_empty hs0
  have s2 := ne_empty2 hs0
  have HSL := Aside0.mk hsl
  obtain ⟨h0, v, h1, h2, h3, h4⟩ := h
  have c0 := (blk_cell h1 0).trans rfl
  obtain ⟨gr, cr, hv, hgb, hgo, hgl, hgc⟩ := mrow_at h2 (by simp)
  rw [List.length_map, List.length_append, List.length_singleton] at hv
  have e4 : ((init.length : Int) + 1 == 0) = false := by rw [beq_eq_false_iff_ne]; omega
  have HC := Aside0.mk (show w.cell? ⟨gr, init.length, none⟩ = some (.map (some x.b)) from hgc init.length x.b (by simp))
  have HGR := Aside0.mk hgl
  have HGL := Aside0.mk (blk_lt h1)
  have HX := Aside0.mk (h3 x (by simp)).2.2
  have HL := Aside0.mk hl
  clear h0 h1 h2 h3 h4 hgb hgo hgl hgc hl hps hss hm hT hp0 hpl hs0 hsl
  subst hv
  go_enter Tryd.func22, Tryd.ntmps22
  have B0 := Aside0.mk (Below.refl w.heap.size w)
  go_wp2_with fail
  refine (local_calls p w).mono ?_
  rintro e w1 ⟨rfl, hb⟩
  rw [HPL.out]
  have B1 := Aside0.mk (B0.out.trans (hb.mono B0.out.size))
  clear hb
  go_wp2_with fail
  refine (space_calls s w1 (by have := HSS.out; omega) (HT.out.below B1.out)).mono ?_
  rintro e w2 ⟨rfl, hb⟩
  rw [HSL.out]
  have B2 := Aside0.mk (B1.out.trans (hb.mono B1.out.size))
  clear hb
  go_wp2
  go_ret
  exact ⟨rfl, HSC.out.below B2.out, Hp.Ch.of_below B2.out⟩

set_option maxHeartbeats 4000000 in
set_option maxRecDepth 100000 in
theorem bind_pe {B g : Nat} {w : World} {init : List Sc} {x : Sc} {p s : ByteArray} (h : IsSc B w g (init ++ [x])) (hl : init.length < 17000000000000) (hps : p.size ≤ 1048576) (hss : s.size ≤ 1048576) (hm : x.m ≤ 10) (hT : Tabs w) (hp0 : ¬ p.size = 0) (hpl : localL p.data.toList = true) (hs0 : s.size = 0) :
    Calls Tryd.prog 22 #[.pointer (some ⟨g, 0, none⟩), .string p, .string s] w (fun e w' => e = .returned (.int .i64 1) ∧ IsSc B w' g (init ++ [x]) ∧ Chs B w w') := by
  have HT := Aside0.mk hT
  have HSC := Aside0.mk h
  have HM := Aside0.mk hm
  have HPS := Aside0.mk hps
  have HSS := Aside0.mk hss
  have p1 := ne_empty hp0
  have p2 := ne_empty2 hp0
  have HPL := Aside0.mk hpl
  obtain rfl : s = ⟨#[]⟩ := empty_of hs0
  obtain ⟨h0, v, h1, h2, h3, h4⟩ := h
  have c0 := (blk_cell h1 0).trans rfl
  obtain ⟨gr, cr, hv, hgb, hgo, hgl, hgc⟩ := mrow_at h2 (by simp)
  rw [List.length_map, List.length_append, List.length_singleton] at hv
  have e4 : ((init.length : Int) + 1 == 0) = false := by rw [beq_eq_false_iff_ne]; omega
  have HC := Aside0.mk (show w.cell? ⟨gr, init.length, none⟩ = some (.map (some x.b)) from hgc init.length x.b (by simp))
  have HGR := Aside0.mk hgl
  have HGL := Aside0.mk (blk_lt h1)
  have HX := Aside0.mk (h3 x (by simp)).2.2
  have HL := Aside0.mk hl
  clear h0 h1 h2 h3 h4 hgb hgo hgl hgc hl hps hss hm hT hp0 hpl hs0
  subst hv
  go_enter Tryd.func22, Tryd.ntmps22
  have B0 := Aside0.mk (Below.refl w.heap.size w)
  go_wp2_with fail
  refine (local_calls p w).mono ?_
  rintro e w1 ⟨rfl, hb⟩
  rw [HPL.out]
  have B1 := Aside0.mk (B0.out.trans (hb.mono B0.out.size))
  clear hb
  go_wp2
  go_ret
  exact ⟨rfl, HSC.out.below B1.out, Hp.Ch.of_below B1.out⟩

set_option maxHeartbeats 4000000 in
set_option maxRecDepth 100000 in
theorem bind_a {B g : Nat} {w : World} {init : List Sc} {x : Sc} {p s : ByteArray} (h : IsSc B w g (init ++ [x])) (hl : init.length < 17000000000000) (hps : p.size ≤ 1048576) (hss : s.size ≤ 1048576) (hm : x.m ≤ 10) (hT : Tabs w) (hp0 : p.size = 0) (hs0 : s.size = 0) :
    Calls Tryd.prog 22 #[.pointer (some ⟨g, 0, none⟩), .string p, .string s] w (BindPost B g init x p s w) := by
  have HT := Aside0.mk hT
  have HSC := Aside0.mk h
  have HM := Aside0.mk hm
  have HPS := Aside0.mk hps
  have HSS := Aside0.mk hss
  obtain rfl : p = ⟨#[]⟩ := empty_of hp0
  obtain rfl : s = ⟨#[]⟩ := empty_of hs0
  obtain ⟨h0, v, h1, h2, h3, h4⟩ := h
  have c0 := (blk_cell h1 0).trans rfl
  obtain ⟨gr, cr, hv, hgb, hgo, hgl, hgc⟩ := mrow_at h2 (by simp)
  rw [List.length_map, List.length_append, List.length_singleton] at hv
  have e4 : ((init.length : Int) + 1 == 0) = false := by rw [beq_eq_false_iff_ne]; omega
  have HC := Aside0.mk (show w.cell? ⟨gr, init.length, none⟩ = some (.map (some x.b)) from hgc init.length x.b (by simp))
  have HGR := Aside0.mk hgl
  have HGL := Aside0.mk (blk_lt h1)
  have HX := Aside0.mk (h3 x (by simp)).2.2
  have HL := Aside0.mk hl
  clear h0 h1 h2 h3 h4 hgb hgo hgl hgc hl hps hss hm hT hp0 hs0
  subst hv
  go_enter Tryd.func22, Tryd.ntmps22
  have B0 := Aside0.mk (Below.refl w.heap.size w)
  have K1 := Aside0.mk (HSC.out.below B0.out)
  have K2 := Aside0.mk (Hp.Ch.of_below B0.out : Chs B w _)
  have HX1 := Aside0.mk (HX.out.below B0.out)
  have c1 : w.cell? ⟨g, 0, none⟩ = _ := (B0.out.cell (p := ⟨g, 0, none⟩) HGL.out).trans c0
  have c2 : w.cell? ⟨gr, init.length, none⟩ = some (.map (some x.b)) := (B0.out.cell (p := ⟨gr, init.length, none⟩) HGR.out).trans HC.out
  clear c0 HX
  go_wp2_with fail
  have hl := HL.out
  have q1 : IntKind.i64.wrap ((init.length : Int)) = (init.length : Int) := Go.IntWalk.i64_in _ (by omega)
  have q0 : IntKind.i64.wrap ((init.length : Int) + 1 - 1) = (init.length : Int) := by rw [Int.add_sub_cancel]; exact q1
  have q2 : (0 : Int) ≤ (init.length : Int) := by omega
  have q3 : (init.length : Int) < (init.length : Int) + 1 := by omega
  clear hl
  go_quiet (fail)
  have D0 : Below w.heap.size w (w.drewN nq) := pw_below_drewN (Below.refl _ _) _
  generalize w.drewN nq = w5 at D0 ⊢
  have B5 := Aside0.mk D0
  have K5 := Aside0.mk (K1.out.below D0)
  have L5 := Aside0.mk (Chs.then K2.out (Hp.Ch.of_below D0))
  have X5 := Aside0.mk (HX1.out.below D0)
  have hlen : ∀ ty, (Builtin.len_ #[60] ty #[.map (some x.b)]).run Tryd.prog w5 = .ok (.int .i64 x.m) w5 := fun ty => X5.out.len ty
  have PK := Aside0.mk (show (mkS tS).okk ⟨#[]⟩ from by show ByteArray.size _ ≤ maxLen; have := HPS.out; unfold maxLen; omega)
  have SK := Aside0.mk (show (mkS tS).okv ⟨#[]⟩ from by show ByteArray.size _ ≤ maxLen; have := HSS.out; unfold maxLen; omega)
  have MN := Aside0.mk (show x.m < maxLen by have := HM.out; unfold maxLen; omega)
  clear c1 c2 D0 q0 q1 q2 q3 e4
  cases hf : x.f ⟨#[]⟩ with
  | some c =>
    have HF := Aside0.mk hf
    have HE := Aside0.mk (show bindE x ⟨#[]⟩ = 6 by unfold bindE; rw [hf]; rfl)
    clear hf hlen
    go_wp2_with (at_lookup; refine MKind.look_event rfl rfl (mkS tS) rfl ⟨#[]⟩ rfl X5.out PK.out ?_; rw [HF.out]; rw [(rfl : (mkS tS).vv ((some c).getD (mkS tS).d) = .string c), Option.isSome_some])
    go_ret
    exact ⟨by rw [HE.out]; rfl, by rw [HE.out, if_neg (by decide)]; exact K5.out, L5.out⟩
  | none =>
    have HF := Aside0.mk hf
    by_cases h10 : 10 ≤ x.m
    · have HE := Aside0.mk (show bindE x ⟨#[]⟩ = 7 by unfold bindE; rw [hf, if_neg (by simp), if_pos h10])
      have r1 : decide ((10 : Int) ≤ (x.m : Int)) = true := decide_eq_true (by omega)
      have r2 : decide (10 ≤ x.m) = true := decide_eq_true h10
      clear hf h10
      go_wp2_with (at_lookup; refine MKind.look_event rfl rfl (mkS tS) rfl ⟨#[]⟩ rfl X5.out PK.out ?_; rw [HF.out]; rw [(rfl : (mkS tS).vv ((none : Option ByteArray).getD (mkS tS).d) = .string ⟨#[]⟩), Option.isSome_none])
      go_ret
      exact ⟨by rw [HE.out]; rfl, by rw [HE.out, if_neg (by decide)]; exact K5.out, L5.out⟩
    · have HE := Aside0.mk (show bindE x ⟨#[]⟩ = 0 by unfold bindE; rw [hf, if_neg (by simp), if_neg h10])
      have r1 : decide ((10 : Int) ≤ (x.m : Int)) = false := decide_eq_false (by omega)
      have r2 : decide (10 ≤ x.m) = false := decide_eq_false h10
      clear hf h10
      go_wp2_with (first
        | (at_lookup; refine MKind.look_event rfl rfl (mkS tS) rfl ⟨#[]⟩ rfl X5.out PK.out ?_; rw [HF.out]; rw [(rfl : (mkS tS).vv ((none : Option ByteArray).getD (mkS tS).d) = .string ⟨#[]⟩), Option.isSome_none])
        | (refine MKind.put_event rfl (.inr rfl) (mkS tS) rfl ⟨#[]⟩ ⟨#[]⟩ rfl rfl X5.out MN.out PK.out SK.out ?_; intro w6 hm6 g6; have M6 := Aside0.mk hm6; have G6 := Aside0.mk g6; clear hm6 g6 hlen))
      go_ret
      have hM := M6.out
      rw [HF.out] at hM
      refine ⟨by rw [HE.out]; rfl, ?_, Chs.then L5.out (put_ch X5.out (HSC.out.2.choose_spec.2.2.1 x (by simp)).1 G6.out)⟩
      rw [HE.out, if_pos rfl]
      exact IsSc.last K5.out G6.out rfl hM

set_option maxHeartbeats 4000000 in
set_option maxRecDepth 100000 in
theorem bind_b {B g : Nat} {w : World} {init : List Sc} {x : Sc} {p s : ByteArray} (h : IsSc B w g (init ++ [x])) (hl : init.length < 17000000000000) (hps : p.size ≤ 1048576) (hss : s.size ≤ 1048576) (hm : x.m ≤ 10) (hT : Tabs w) (hp0 : p.size = 0) (hs0 : ¬ s.size = 0) (hsl : spaceL s.data.toList = true) :
    Calls Tryd.prog 22 #[.pointer (some ⟨g, 0, none⟩), .string p, .string s] w (BindPost B g init x p s w) := by
  have HT := Aside0.mk hT
  have HSC := Aside0.mk h
  have HM := Aside0.mk hm
  have HPS := Aside0.mk hps
  have HSS := Aside0.mk hss
  obtain rfl : p = ⟨#[]⟩ := empty_of hp0
  have s1 := ne_empty hs0
  have s2 := ne_empty2 hs0
  have HSL := Aside0.mk hsl
  obtain ⟨h0, v, h1, h2, h3, h4⟩ := h
  have c0 := (blk_cell h1 0).trans rfl
  obtain ⟨gr, cr, hv, hgb, hgo, hgl, hgc⟩ := mrow_at h2 (by simp)
  rw [List.length_map, List.length_append, List.length_singleton] at hv
  have e4 : ((init.length : Int) + 1 == 0) = false := by rw [beq_eq_false_iff_ne]; omega
  have HC := Aside0.mk (show w.cell? ⟨gr, init.length, none⟩ = some (.map (some x.b)) from hgc init.length x.b (by simp))
  have HGR := Aside0.mk hgl
  have HGL := Aside0.mk (blk_lt h1)
  have HX := Aside0.mk (h3 x (by simp)).2.2
  have HL := Aside0.mk hl
  clear h0 h1 h2 h3 h4 hgb hgo hgl hgc hl hps hss hm hT hp0 hs0 hsl
  subst hv
  go_enter Tryd.func22, Tryd.ntmps22
  have B0 := Aside0.mk (Below.refl w.heap.size w)
  go_wp2_with fail
  refine (space_calls s w (by have := HSS.out; omega) (HT.out.below B0.out)).mono ?_
  rintro e w1 ⟨rfl, hb⟩
  rw [HSL.out]
  have B1 := Aside0.mk (B0.out.trans (hb.mono B0.out.size))
  clear hb
  have K1 := Aside0.mk (HSC.out.below B1.out)
  have K2 := Aside0.mk (Hp.Ch.of_below B1.out : Chs B w _)
  have HX1 := Aside0.mk (HX.out.below B1.out)
  have c1 : w1.cell? ⟨g, 0, none⟩ = _ := (B1.out.cell (p := ⟨g, 0, none⟩) HGL.out).trans c0
  have c2 : w1.cell? ⟨gr, init.length, none⟩ = some (.map (some x.b)) := (B1.out.cell (p := ⟨gr, init.length, none⟩) HGR.out).trans HC.out
  clear c0 HX
  go_wp2_with fail
  have hl := HL.out
  have q1 : IntKind.i64.wrap ((init.length : Int)) = (init.length : Int) := Go.IntWalk.i64_in _ (by omega)
  have q0 : IntKind.i64.wrap ((init.length : Int) + 1 - 1) = (init.length : Int) := by rw [Int.add_sub_cancel]; exact q1
  have q2 : (0 : Int) ≤ (init.length : Int) := by omega
  have q3 : (init.length : Int) < (init.length : Int) + 1 := by omega
  clear hl
  go_quiet (fail)
  have D0 : Below w1.heap.size w1 (w1.drewN nq) := pw_below_drewN (Below.refl _ _) _
  generalize w1.drewN nq = w5 at D0 ⊢
  have B5 := Aside0.mk D0
  have K5 := Aside0.mk (K1.out.below D0)
  have L5 := Aside0.mk (Chs.then K2.out (Hp.Ch.of_below D0))
  have X5 := Aside0.mk (HX1.out.below D0)
  have hlen : ∀ ty, (Builtin.len_ #[60] ty #[.map (some x.b)]).run Tryd.prog w5 = .ok (.int .i64 x.m) w5 := fun ty => X5.out.len ty
  have PK := Aside0.mk (show (mkS tS).okk ⟨#[]⟩ from by show ByteArray.size _ ≤ maxLen; have := HPS.out; unfold maxLen; omega)
  have SK := Aside0.mk (show (mkS tS).okv s from by show ByteArray.size _ ≤ maxLen; have := HSS.out; unfold maxLen; omega)
  have MN := Aside0.mk (show x.m < maxLen by have := HM.out; unfold maxLen; omega)
  clear c1 c2 D0 q0 q1 q2 q3 e4
  cases hf : x.f ⟨#[]⟩ with
  | some c =>
    have HF := Aside0.mk hf
    have HE := Aside0.mk (show bindE x ⟨#[]⟩ = 6 by unfold bindE; rw [hf]; rfl)
    clear hf hlen
    go_wp2_with (at_lookup; refine MKind.look_event rfl rfl (mkS tS) rfl ⟨#[]⟩ rfl X5.out PK.out ?_; rw [HF.out]; rw [(rfl : (mkS tS).vv ((some c).getD (mkS tS).d) = .string c), Option.isSome_some])
    go_ret
    exact ⟨by rw [HE.out]; rfl, by rw [HE.out, if_neg (by decide)]; exact K5.out, L5.out⟩
  | none =>
    have HF := Aside0.mk hf
    by_cases h10 : 10 ≤ x.m
    · have HE := Aside0.mk (show bindE x ⟨#[]⟩ = 7 by unfold bindE; rw [hf, if_neg (by simp), if_pos h10])
      have r1 : decide ((10 : Int) ≤ (x.m : Int)) = true := decide_eq_true (by omega)
      have r2 : decide (10 ≤ x.m) = true := decide_eq_true h10
      clear hf h10
      go_wp2_with (at_lookup; refine MKind.look_event rfl rfl (mkS tS) rfl ⟨#[]⟩ rfl X5.out PK.out ?_; rw [HF.out]; rw [(rfl : (mkS tS).vv ((none : Option ByteArray).getD (mkS tS).d) = .string ⟨#[]⟩), Option.isSome_none])
      go_ret
      exact ⟨by rw [HE.out]; rfl, by rw [HE.out, if_neg (by decide)]; exact K5.out, L5.out⟩
    · have HE := Aside0.mk (show bindE x ⟨#[]⟩ = 0 by unfold bindE; rw [hf, if_neg (by simp), if_neg h10])
      have r1 : decide ((10 : Int) ≤ (x.m : Int)) = false := decide_eq_false (by omega)
      have r2 : decide (10 ≤ x.m) = false := decide_eq_false h10
      clear hf h10
      go_wp2_with (first
        | (at_lookup; refine MKind.look_event rfl rfl (mkS tS) rfl ⟨#[]⟩ rfl X5.out PK.out ?_; rw [HF.out]; rw [(rfl : (mkS tS).vv ((none : Option ByteArray).getD (mkS tS).d) = .string ⟨#[]⟩), Option.isSome_none])
        | (refine MKind.put_event rfl (.inr rfl) (mkS tS) rfl ⟨#[]⟩ s rfl rfl X5.out MN.out PK.out SK.out ?_; intro w6 hm6 g6; have M6 := Aside0.mk hm6; have G6 := Aside0.mk g6; clear hm6 g6 hlen))
      go_ret
      have hM := M6.out
      rw [HF.out] at hM
      refine ⟨by rw [HE.out]; rfl, ?_, Chs.then L5.out (put_ch X5.out (HSC.out.2.choose_spec.2.2.1 x (by simp)).1 G6.out)⟩
      rw [HE.out, if_pos rfl]
      exact IsSc.last K5.out G6.out rfl hM

set_option maxHeartbeats 4000000 in
set_option maxRecDepth 100000 in
theorem bind_c {B g : Nat} {w : World} {init : List Sc} {x : Sc} {p s : ByteArray} (h : IsSc B w g (init ++ [x])) (hl : init.length < 17000000000000) (hps : p.size ≤ 1048576) (hss : s.size ≤ 1048576) (hm : x.m ≤ 10) (hT : Tabs w) (hp0 : ¬ p.size = 0) (hpl : localL p.data.toList = true) (hs0 : ¬ s.size = 0) (hsl : spaceL s.data.toList = true) :
    Calls Tryd.prog 22 #[.pointer (some ⟨g, 0, none⟩), .string p, .string s] w (BindPost B g init x p s w) := by
  have HT := Aside0.mk hT
  have HSC := Aside0.mk h
  have HM := Aside0.mk hm
  have HPS := Aside0.mk hps
  have HSS := Aside0.mk hss
  have p1 := ne_empty hp0
  have p2 := ne_empty2 hp0
  have HPL := Aside0.mk hpl
  have s1 := ne_empty hs0
  have s2 := ne_empty2 hs0
  have HSL := Aside0.mk hsl
  obtain ⟨h0, v, h1, h2, h3, h4⟩ := h
  have c0 := (blk_cell h1 0).trans rfl
  obtain ⟨gr, cr, hv, hgb, hgo, hgl, hgc⟩ := mrow_at h2 (by simp)
  rw [List.length_map, List.length_append, List.length_singleton] at hv
  have e4 : ((init.length : Int) + 1 == 0) = false := by rw [beq_eq_false_iff_ne]; omega
  have HC := Aside0.mk (show w.cell? ⟨gr, init.length, none⟩ = some (.map (some x.b)) from hgc init.length x.b (by simp))
  have HGR := Aside0.mk hgl
  have HGL := Aside0.mk (blk_lt h1)
  have HX := Aside0.mk (h3 x (by simp)).2.2
  have HL := Aside0.mk hl
  clear h0 h1 h2 h3 h4 hgb hgo hgl hgc hl hps hss hm hT hp0 hpl hs0 hsl
  subst hv
  go_enter Tryd.func22, Tryd.ntmps22
  have B0 := Aside0.mk (Below.refl w.heap.size w)
  go_wp2_with fail
  refine (local_calls p w).mono ?_
  rintro e w1 ⟨rfl, hb⟩
  rw [HPL.out]
  have B1 := Aside0.mk (B0.out.trans (hb.mono B0.out.size))
  clear hb
  go_wp2_with fail
  refine (space_calls s w1 (by have := HSS.out; omega) (HT.out.below B1.out)).mono ?_
  rintro e w2 ⟨rfl, hb⟩
  rw [HSL.out]
  have B2 := Aside0.mk (B1.out.trans (hb.mono B1.out.size))
  clear hb
  have K1 := Aside0.mk (HSC.out.below B2.out)
  have K2 := Aside0.mk (Hp.Ch.of_below B2.out : Chs B w _)
  have HX1 := Aside0.mk (HX.out.below B2.out)
  have c1 : w2.cell? ⟨g, 0, none⟩ = _ := (B2.out.cell (p := ⟨g, 0, none⟩) HGL.out).trans c0
  have c2 : w2.cell? ⟨gr, init.length, none⟩ = some (.map (some x.b)) := (B2.out.cell (p := ⟨gr, init.length, none⟩) HGR.out).trans HC.out
  clear c0 HX
  go_wp2_with fail
  have hl := HL.out
  have q1 : IntKind.i64.wrap ((init.length : Int)) = (init.length : Int) := Go.IntWalk.i64_in _ (by omega)
  have q0 : IntKind.i64.wrap ((init.length : Int) + 1 - 1) = (init.length : Int) := by rw [Int.add_sub_cancel]; exact q1
  have q2 : (0 : Int) ≤ (init.length : Int) := by omega
  have q3 : (init.length : Int) < (init.length : Int) + 1 := by omega
  clear hl
  go_quiet (fail)
  have D0 : Below w2.heap.size w2 (w2.drewN nq) := pw_below_drewN (Below.refl _ _) _
  generalize w2.drewN nq = w5 at D0 ⊢
  have B5 := Aside0.mk D0
  have K5 := Aside0.mk (K1.out.below D0)
  have L5 := Aside0.mk (Chs.then K2.out (Hp.Ch.of_below D0))
  have X5 := Aside0.mk (HX1.out.below D0)
  have hlen : ∀ ty, (Builtin.len_ #[60] ty #[.map (some x.b)]).run Tryd.prog w5 = .ok (.int .i64 x.m) w5 := fun ty => X5.out.len ty
  have PK := Aside0.mk (show (mkS tS).okk p from by show ByteArray.size _ ≤ maxLen; have := HPS.out; unfold maxLen; omega)
  have SK := Aside0.mk (show (mkS tS).okv s from by show ByteArray.size _ ≤ maxLen; have := HSS.out; unfold maxLen; omega)
  have MN := Aside0.mk (show x.m < maxLen by have := HM.out; unfold maxLen; omega)
  clear c1 c2 D0 q0 q1 q2 q3 e4
  cases hf : x.f p with
  | some c =>
    have HF := Aside0.mk hf
    have HE := Aside0.mk (show bindE x p = 6 by unfold bindE; rw [hf]; rfl)
    clear hf hlen
    go_wp2_with (at_lookup; refine MKind.look_event rfl rfl (mkS tS) rfl p rfl X5.out PK.out ?_; rw [HF.out]; rw [(rfl : (mkS tS).vv ((some c).getD (mkS tS).d) = .string c), Option.isSome_some])
    go_ret
    exact ⟨by rw [HE.out]; rfl, by rw [HE.out, if_neg (by decide)]; exact K5.out, L5.out⟩
  | none =>
    have HF := Aside0.mk hf
    by_cases h10 : 10 ≤ x.m
    · have HE := Aside0.mk (show bindE x p = 7 by unfold bindE; rw [hf, if_neg (by simp), if_pos h10])
      have r1 : decide ((10 : Int) ≤ (x.m : Int)) = true := decide_eq_true (by omega)
      have r2 : decide (10 ≤ x.m) = true := decide_eq_true h10
      clear hf h10
      go_wp2_with (at_lookup; refine MKind.look_event rfl rfl (mkS tS) rfl p rfl X5.out PK.out ?_; rw [HF.out]; rw [(rfl : (mkS tS).vv ((none : Option ByteArray).getD (mkS tS).d) = .string ⟨#[]⟩), Option.isSome_none])
      go_ret
      exact ⟨by rw [HE.out]; rfl, by rw [HE.out, if_neg (by decide)]; exact K5.out, L5.out⟩
    · have HE := Aside0.mk (show bindE x p = 0 by unfold bindE; rw [hf, if_neg (by simp), if_neg h10])
      have r1 : decide ((10 : Int) ≤ (x.m : Int)) = false := decide_eq_false (by omega)
      have r2 : decide (10 ≤ x.m) = false := decide_eq_false h10
      clear hf h10
      go_wp2_with (first
        | (at_lookup; refine MKind.look_event rfl rfl (mkS tS) rfl p rfl X5.out PK.out ?_; rw [HF.out]; rw [(rfl : (mkS tS).vv ((none : Option ByteArray).getD (mkS tS).d) = .string ⟨#[]⟩), Option.isSome_none])
        | (refine MKind.put_event rfl (.inr rfl) (mkS tS) rfl p s rfl rfl X5.out MN.out PK.out SK.out ?_; intro w6 hm6 g6; have M6 := Aside0.mk hm6; have G6 := Aside0.mk g6; clear hm6 g6 hlen))
      go_ret
      have hM := M6.out
      rw [HF.out] at hM
      refine ⟨by rw [HE.out]; rfl, ?_, Chs.then L5.out (put_ch X5.out (HSC.out.2.choose_spec.2.2.1 x (by simp)).1 G6.out)⟩
      rw [HE.out, if_pos rfl]
      exact IsSc.last K5.out G6.out rfl hM
end Go.Proofs.YticlppojbbocbaaDoor.Nm

namespace Go.Proofs.YticlppojbbocbaaDoor.Nm
open Go Go.Lib Go.Shelf Go.RowKit Go.Proofs.YticlppojbbocbaaDoorW.PrintWords Go.Proofs.YticlppojbbocbaaDoorW.PrintLast Go.Proofs.YticlppojbbocbaaDoor.Own Go.Proofs.YticlppojbbocbaaDoor.Srcw Go.Proofs.YticlppojbbocbaaDoor.Tab
set_option linter.unusedVariables false
set_option linter.unusedSimpArgs false
attribute [local go_sem] Oper.semAt_some

/-- What has come when k rounds are over, from the last on. -/
def came (n k : Nat) : List (Fin n) := ((List.finRange n).reverse).take k
theorem came_all (n : Nat) : came n n = (List.finRange n).reverse := by unfold came; rw [List.take_of_length_le (by simp)]
theorem came_succ (n k : Nat) (h : k < n) : came n (k + 1) = came n k ++ [⟨n - 1 - k, by omega⟩] := by
  have hl : k < ((List.finRange n).reverse).length := by simpa using h
  unfold came
  rw [List.take_succ_eq_append_getElem hl]
  congr 2
  rw [List.getElem_reverse]
  simp
theorem came_prefix (n k : Nat) : came n k <+: (List.finRange n).reverse := List.take_prefix _ _
def encB (zs : List Nat) (j : Fin zs.length) : Array Value := #[.int .i64 (j.val : Int), .map (some zs[j])]

set_option maxRecDepth 100000 in
set_option maxHeartbeats 2000000 in
theorem back1_in (F : Fence) (n : Nat) (h42 : F.fn 42) (hro : F.round = none) (hn : 1 ≤ n) (l Bs n₀ b cap : Nat) (zs : List Nat) (hz : zs.length < 17592186044416) (hb : b < n₀) (J Jx : List (Fin zs.length) → World → Prop)
    (hY : ∀ pre x W, J pre W → pre.length < zs.length → YieldAt F (n - 1) Tryd.prog l (encB zs x) W fun e W' =>
      (e = .returned (.bool true) ∧ J (pre ++ [x]) W' ∧ Below n₀ W W') ∨ (e = .returned (.bool false) ∧ Jx (pre ++ [x]) W'))
    (W : World) (hBs : W.cell? ⟨Bs, 0, none⟩ = some (.slice (some ⟨b, 0, none⟩) zs.length cap)) (hc : ∀ j (h : j < zs.length), W.cell? ⟨b, j, none⟩ = some (.map (some zs[j]))) (hBn : Bs < n₀) (h0 : J [] W) :
    CallsIn F n Tryd.prog 42 #[.func (.yield l) #[] #[], .pointer (some ⟨Bs, 0, none⟩)] W fun e W' => (∃ v, e = .returned v) ∧
      ((J (came zs.length zs.length) W') ∨ (∃ k, k ≤ zs.length ∧ Jx (came zs.length k) W')) := by
  refine callsIn_of_wp Tryd.func42 rfl h42 ?_ hro
  simp only [Tryd.ntmps42, List.size_toArray, List.length_cons, List.length_nil, Nat.reduceAdd, Nat.reduceSub, Array.replicate_succ, Array.replicate_zero, List.push_toArray, List.append_toArray, List.nil_append, List.cons_append]
  have e1 : wrap64 ((zs.length : Int) - 1) = (zs.length : Int) - 1 := w64 (by omega) (by omega)
  gi_wp2
  gi_loopw [3] (fun i wr => ∃ k : Nat, k ≤ zs.length ∧ i = .int .i64 ((zs.length : Int) - 1 - k) ∧ J (came zs.length k) wr ∧ Below n₀ W wr)
    (fun i _ => (intOf i + 1).toNat)
  case atStart => exact ⟨0, Nat.zero_le _, by simp, h0, Below.refl _ _⟩
  case round =>
    obtain ⟨k, hk, rfl, hJs, hnx⟩ := hrel
    by_cases hlt : k < zs.length
    · obtain ⟨j, hj⟩ : ∃ j, j = zs.length - 1 - k := ⟨_, rfl⟩
      have hjl : j < zs.length := by omega
      have hcm := came_succ zs.length k hlt
      have hfj : (⟨zs.length - 1 - k, by omega⟩ : Fin zs.length) = ⟨j, hjl⟩ := Fin.ext hj.symm
      rw [hfj] at hcm
      obtain ⟨fn, tmps, assign, body, hy, hR⟩ := hY _ ⟨j, hjl⟩ wr hJs (by unfold came; rw [List.length_take]; simp; omega)
      rw [← hcm] at hR
      have hcx : wr.cell? ⟨b, j, none⟩ = some (.map (some (zs[j]'hjl))) := (hnx.cell (p := ⟨b, j, none⟩) hb).trans (hc _ hjl)
      have hy' : (Instr.yield l #[.int .i64 (j : Int), .map (some (zs[j]'hjl))]).run Tryd.prog wr = .ok (.round l fn tmps assign body) wr := hy
      clear hy
      have hcb : wr.cell? ⟨Bs, 0, none⟩ = _ := (hnx.cell (p := ⟨Bs, 0, none⟩) hBn).trans hBs
      have hi : (zs.length : Int) - 1 - k = (j : Int) := by omega
      have hn2 : wrap64 ((j : Int) - 1) = (j : Int) - 1 := w64 (by omega) (by omega)
      have HI := Aside0.mk (show (j : Int) - 1 = (zs.length : Int) - 1 - ((k + 1 : Nat) : Int) by omega)
      have HK := Aside0.mk hlt
      have HX := Aside0.mk hnx
      have HJ := Aside0.mk hj
      have t0 : (0 : Int) ≤ (j : Int) := by omega
      have t1 : (j : Int) < (zs.length : Int) := by omega
      rw [hi]
      generalize zs[j]'hjl = zj at hcx hy' ⊢
      clear hi hcm hfj hj hY hJs hlt hBs hc e1 hnx hk h0
      gi_wp2
      refine hR.mono ?_
      rintro e W3 (⟨rfl, hJ3, hk3⟩ | ⟨rfl, hJx3⟩)
      · gi_wp2
        go_roundw
        case rel => exact ⟨k + 1, by have := HK.out; omega, by rw [HI.out], hJ3, HX.out.trans hk3⟩
        case measure => (simp [intOf] <;> omega)
      · gi_wp2
        refine bodyPost_ret (results_none rfl _ _ _) rfl ?_
        exact ⟨⟨_, rfl⟩, .inr ⟨k + 1, by have := HK.out; omega, hJx3⟩⟩
    · obtain rfl : k = zs.length := by omega
      have hi : (zs.length : Int) - 1 - zs.length = -1 := by omega
      rw [hi]
      clear hY hBs hc e1 hlt hk h0
      gi_wp2
      go_end0
      exact ⟨⟨_, rfl⟩, .inl hJs⟩

set_option maxRecDepth 100000 in
set_option maxHeartbeats 1000000 in
theorem back1_nil_in (F : Fence) (n : Nat) (h42 : F.fn 42) (hro : F.round = none) (l Bs cap : Nat) (A : Option Addr) (J : World → Prop) (W : World) (hBs : W.cell? ⟨Bs, 0, none⟩ = some (.slice A 0 cap)) (h0 : J W) :
    CallsIn F n Tryd.prog 42 #[.func (.yield l) #[] #[], .pointer (some ⟨Bs, 0, none⟩)] W fun e W' => (∃ v, e = .returned v) ∧ J W' := by
  refine callsIn_of_wp Tryd.func42 rfl h42 ?_ hro
  simp only [Tryd.ntmps42, List.size_toArray, List.length_cons, List.length_nil, Nat.reduceAdd, Nat.reduceSub, Array.replicate_succ, Array.replicate_zero, List.push_toArray, List.append_toArray, List.nil_append, List.cons_append]
  gi_wp2
  gi_loopw [3] (fun i wr => i = .int .i64 (-1) ∧ J wr) (fun _ _ => 0)
  case atStart => exact ⟨rfl, h0⟩
  case round =>
    obtain ⟨rfl, hJs⟩ := hrel
    gi_wp2
    go_end0
    exact ⟨⟨_, rfl⟩, hJs⟩

set_option maxHeartbeats 1000000 in
theorem back_in (F : Fence) (n : Nat) (h35 : F.fn 35) (hro : F.round = none) (a : Option Addr) (len cap : Nat) (w : World) :
    CallsIn F n Tryd.prog 35 #[.slice a len cap] w fun e w' => e = .returned (.func (.func 42) #[] #[.pointer (some ⟨w.heap.size, 0, none⟩)]) ∧ w' = w.alloc (.cells #[.slice a len cap] 53) := by
  refine callsIn_of_wp Tryd.func35 rfl h35 ?_ hro
  simp only [Tryd.ntmps35, List.size_toArray, List.length_cons, List.length_nil, Nat.reduceAdd, Nat.reduceSub, Array.replicate_succ, Array.replicate_zero, List.push_toArray, List.append_toArray, List.nil_append, List.cons_append]
  gi_wp2
  go_ret
  exact ⟨rfl, rfl⟩

/-- The slice value sv holds the maps zs, in a block below n₀; or there are none. -/
def Holds (n₀ : Nat) (W : World) (sv : Value) (zs : List Nat) : Prop :=
  (∃ A cap, sv = .slice A 0 cap ∧ zs = []) ∨ ∃ b cap, sv = .slice (some ⟨b, 0, none⟩) zs.length cap ∧ b < n₀ ∧ ∀ j (h : j < zs.length), W.cell? ⟨b, j, none⟩ = some (.map (some zs[j]))
theorem Holds.below {n₀ : Nat} {A B : World} (h : Below n₀ A B) {sv : Value} {zs : List Nat} : Holds n₀ A sv zs → Holds n₀ B sv zs
  | .inl e => .inl e
  | .inr ⟨b, cap, e, hb, hc⟩ => .inr ⟨b, cap, e, hb, fun j hj => (h.cell (p := ⟨b, j, none⟩) hb).trans (hc j hj)⟩
theorem back_stops (F : Fence) (n : Nat) (h42 : F.fn 42) (hro : F.round = none) (hn : 1 ≤ n) (Bs n₀ : Nat) (sv : Value) (zs : List Nat) (hz : zs.length < 17592186044416) (w : World) (hBs : Bs < w.heap.size) (hn₀ : n₀ ≤ w.heap.size) (hBn : Bs < n₀)
    (hc : w.cell? ⟨Bs, 0, none⟩ = some sv) (hI : Holds n₀ w sv zs) :
    SeqStopsK F n Tryd.prog 42 #[.pointer (some ⟨Bs, 0, none⟩)] (encB zs) (Below n₀) (fun ys => ys = (List.finRange zs.length).reverse) (fun pre => ∃ k, k ≤ zs.length ∧ pre = came zs.length k) zs.length w := fun l J Jx W hW _ _ hY h0 => by
  have hc' := (hW.cell (p := ⟨Bs, 0, none⟩) hBs).trans hc
  rcases hI.below (hW.mono hn₀) with ⟨A, cap, rfl, hz0⟩ | ⟨b, cap, rfl, hb, hcs⟩
  · subst hz0
    exact (back1_nil_in F n h42 hro l Bs cap A (J []) W hc' h0).mono fun e W' ⟨he, hj⟩ => ⟨he, .inl ⟨_, rfl, hj⟩⟩
  · refine (back1_in F n h42 hro hn l Bs n₀ b cap zs hz hb J Jx hY W hc' hcs hBn h0).mono ?_
    rintro e W' ⟨he, hj | ⟨k, hk, hj⟩⟩
    · exact ⟨he, .inl ⟨_, rfl, by rw [← came_all]; exact hj⟩⟩
    · exact ⟨he, .inr ⟨_, ⟨k, hk, rfl⟩, hj⟩⟩
end Go.Proofs.YticlppojbbocbaaDoor.Nm

namespace Go.Proofs.YticlppojbbocbaaDoor.Nm
open Go Go.Lib Go.Shelf Go.RowKit Go.Proofs.YticlppojbbocbaaDoorW.PrintWords Go.Proofs.YticlppojbbocbaaDoorW.PrintLast Go.Proofs.YticlppojbbocbaaDoor.Own Go.Proofs.YticlppojbbocbaaDoor.Srcw Go.Proofs.YticlppojbbocbaaDoor.Tab
set_option linter.unusedVariables false
set_option linter.unusedSimpArgs false
attribute [local go_sem] Oper.semAt_some

/-- What a prefix stands for. -/
def askS (st : List Sc) (p : ByteArray) : ByteArray × Bool := match st.reverse.findSome? (fun x => x.f p) with
  | some c => (c, true)
  | none => (⟨#[]⟩, decide (p.size = 0))

theorem look_in {P : Program} {t k e : TypeId} {α β : Type} {F : Fence} {nF : Nat} {ops : Array Oper} {rest : List Oper} {o : Oper} {a : Act} {Q : Exit → Act → World → Prop} {W : World} (hgd : o.guard = none) {mo ko : Operand} (hop : o.op = .lookup t mo ko true) (M : MKind P t k e α β) {b n m : Nat} {f : α → Option β} (hm : a.eval mo = .map (some b)) (x : α) (hk : a.eval ko = M.kv x)
    (hM : M.Is W b n m f) (hx : M.okk x)
    (h : wpListIn F nF P ops Q rest (a.put o.dst (.tuple #[M.vv ((f x).getD M.d), .bool (f x).isSome])) W) : wpListIn F nF P ops Q (o :: rest) a W := by
  refine wpListIn_plain hgd fun K' hK' => ?_
  have hrun := hM.look x hx
  unfold Oper.wpIn
  refine ⟨by simp [Oper.about, hop], ?_⟩
  rw [Oper.semAt_plain F _ _ (by rw [hop]; intro c hc'; cases hc')]
  simp [execOp, hop, hm, hk, hrun, Result.andThen]
  exact hK' _ _ h
theorem vvS (v : ByteArray) : (mkS tS).vv v = .string v := rfl
theorem cell_set_ne (w : World) (p : Addr) (v : Value) {q : Addr} (h : q.block ≠ p.block) : (w.setCell p v).cell? q = w.cell? q := by
  simp only [World.cell?]
  rw [Below.heap_setCell _ _ _ _ h]
def sAt (st : List Sc) (j : Fin (st.map Sc.b).length) : Sc := st[j.val]'(Nat.lt_of_lt_of_eq j.2 (List.length_map _))
theorem sAt_mem (st : List Sc) (j : Fin (st.map Sc.b).length) : sAt st j ∈ st := List.getElem_mem _
theorem sAt_b (st : List Sc) (j : Fin (st.map Sc.b).length) : (st.map Sc.b)[j] = (sAt st j).b := by simp [sAt]
theorem Holds.mono {n₀ n₁ : Nat} {W : World} (h : n₀ ≤ n₁) {sv : Value} {zs : List Nat} : Holds n₀ W sv zs → Holds n₁ W sv zs
  | .inl e => .inl e
  | .inr ⟨b, cap, e, hb, hc⟩ => .inr ⟨b, cap, e, by omega, hc⟩

theorem ask_end (w W : World) (D : Nat) (r : ByteArray) (o : Bool) (hD : w.heap.size + 4 ≤ D) (hB : Below w.heap.size w W) (hK : W.heap[D]? = some (.deferred (some [])))
    (q1 : W.cell? ⟨w.heap.size + 1, 0, none⟩ = some (.string ⟨#[]⟩)) (q2 : W.cell? ⟨w.heap.size + 1 + 1, 0, none⟩ = some (.bool false)) :
    let W' := ((W.setCell ⟨w.heap.size + 1, 0, none⟩ (.string r)).setCell ⟨w.heap.size + 1 + 1, 0, none⟩ (.bool o)).drew
    W'.heap[D]? = some (.deferred (some [])) ∧ W'.cell? ⟨w.heap.size + 1, 0, none⟩ = some (.string r) ∧ W'.cell? ⟨w.heap.size + 1 + 1, 0, none⟩ = some (.bool o) ∧ Below w.heap.size w W' := by
  refine ⟨?_, ?_, ?_, ?_⟩
  · show ((W.setCell ⟨w.heap.size + 1, 0, none⟩ (.string r)).setCell ⟨w.heap.size + 1 + 1, 0, none⟩ (.bool o)).heap[D]? = _
    rw [Below.heap_setCell _ _ _ _ (by simp; omega), Below.heap_setCell _ _ _ _ (by simp; omega)]
    exact hK
  · show ((W.setCell ⟨w.heap.size + 1, 0, none⟩ (.string r)).setCell ⟨w.heap.size + 1 + 1, 0, none⟩ (.bool o)).cell? _ = _
    rw [cell_set_ne _ _ _ (by simp)]
    exact World.cell?_setCell_same' _ _ _ (by rw [q1]; rfl)
  · show ((W.setCell ⟨w.heap.size + 1, 0, none⟩ (.string r)).setCell ⟨w.heap.size + 1 + 1, 0, none⟩ (.bool o)).cell? _ = _
    exact World.cell?_setCell_same' _ _ _ (by rw [cell_set_ne _ _ _ (by simp), q2]; rfl)
  · exact below_drew1 ((hB.setCell (p := ⟨w.heap.size + 1, 0, none⟩) (by simp) _).setCell (p := ⟨w.heap.size + 1 + 1, 0, none⟩) (by simp; omega) _)
theorem ask_none {st : List Sc} {p : ByteArray} (h : ∀ j ∈ (List.finRange (st.map Sc.b).length).reverse, (sAt st j).f p = none) : askS st p = (⟨#[]⟩, decide (p.size = 0)) := by
  have : st.reverse.findSome? (fun x => x.f p) = none := by
    rw [List.findSome?_eq_none_iff]
    intro x hx
    obtain ⟨i, hi, rfl⟩ := List.getElem_of_mem (List.mem_reverse.1 hx)
    exact h ⟨i, by rw [List.length_map]; exact hi⟩ (by simp)
  unfold askS
  rw [this]
theorem ask_some {st : List Sc} {p v : ByteArray} {ini : List (Fin (st.map Sc.b).length)} {last : Fin (st.map Sc.b).length} {k : Nat} (hk : k ≤ (st.map Sc.b).length) (e1 : came (st.map Sc.b).length k = ini ++ [last]) (e2 : ∀ j ∈ ini, (sAt st j).f p = none) (e3 : (sAt st last).f p = some v) : askS st p = (v, true) := by
  have hmap : (List.finRange (st.map Sc.b).length).map (sAt st) = st := by
    apply List.ext_getElem
    · simp
    · intro i h1 h2
      simp [sAt]
  have hrev : st.reverse = ((List.finRange (st.map Sc.b).length).reverse).map (sAt st) := by rw [List.map_reverse, hmap]
  have hspl : (List.finRange (st.map Sc.b).length).reverse = ini ++ [last] ++ ((List.finRange (st.map Sc.b).length).reverse).drop k := by
    rw [← e1]; unfold came; rw [List.take_append_drop]
  have : st.reverse.findSome? (fun x => x.f p) = some v := by
    rw [hrev, List.findSome?_map, hspl, List.append_assoc, List.findSome?_append]
    have h0 : List.findSome? ((fun x : Sc => x.f p) ∘ sAt st) ini = none := List.findSome?_eq_none_iff.2 (fun j hj => e2 j hj)
    rw [h0, Option.none_or, List.singleton_append, List.findSome?_cons]
    simp [e3]
  unfold askS
  rw [this]

set_option maxRecDepth 100000 in
set_option maxHeartbeats 4000000 in
theorem ask_in (F : Fence) (n : Nat) (h20 : F.fn 20) (h35 : F.fn 35) (h42 : F.fn 42) (hro : F.round = none) (hn : 3 ≤ n) {B g : Nat} {w : World} {st : List Sc} {p : ByteArray} (h : IsSc B w g st) (hl : st.length < 17000000000000) (hp : p.size ≤ 1048576) :
    CallsIn F n Tryd.prog 20 #[.pointer (some ⟨g, 0, none⟩), .string p] w fun e w' => e = .returned (.tuple #[.string (askS st p).1, .bool (askS st p).2]) ∧ Below w.heap.size w w' := by
  have h1 : 1 ≤ n := by omega
  refine callsIn_of_wp_marks Tryd.func20 rfl h20 ?_ hro
  simp only [Tryd.ntmps20, List.size_toArray, List.length_cons, List.length_nil, Nat.reduceAdd, Nat.reduceSub, Array.replicate_succ, Array.replicate_zero, List.push_toArray, List.append_toArray, List.nil_append, List.cons_append]
  obtain ⟨h0, v, hh, hR, h3, h4⟩ := h
  have HH : Holds w.heap.size w v (st.map Sc.b) := by
    rcases st with _ | ⟨x, r⟩
    · obtain ⟨A, c, hv⟩ := Kd.R_slice hR
      exact .inl ⟨A, c, hv, rfl⟩
    · obtain ⟨gr, cr, hv, _, _, hgl, hgc⟩ := mrow_at hR (by simp)
      exact .inr ⟨gr, cr, hv, hgl, fun j hj => hgc j _ (List.getElem?_eq_getElem hj)⟩
  obtain ⟨A1, n1, hv⟩ := Kd.R_slice hR
  subst hv
  have hgl := blk_lt hh
  have B3 : Below w.heap.size w (((w.alloc (.cells #[.string p] 9)).alloc (.cells #[.string ⟨#[]⟩] 9)).alloc (.cells #[.bool false] 4)) := (((Below.refl _ w).alloc (Nat.le_refl _) _).alloc (by simp) _).alloc (by simp; omega) _
  have c0 : (((w.alloc (.cells #[.string p] 9)).alloc (.cells #[.string ⟨#[]⟩] 9)).alloc (.cells #[.bool false] 4)).cell? ⟨g, 0, none⟩ = some (.slice A1 (st.map Sc.b).length n1) := (B3.cell (p := ⟨g, 0, none⟩) hgl).trans (blk_cell hh 0)
  gi_wp2_with (gi_at_call 35; refine (back_in F (n - 1) h35 hro _ _ _ _).mono ?_; rintro e w' ⟨rfl, rfl⟩)
  have hlt : ∀ x ∈ st, x.b < w.heap.size := fun x hx => (h3 x hx).2.2.lt
  have bP := ((((Boxed.new w 9 (.string p)).alloc (.cells #[.string ⟨#[]⟩] 9)).alloc (.cells #[.bool false] 4)).alloc (.cells #[.slice A1 st.length n1] 53))
  have bR := (((Boxed.new (w.alloc (.cells #[.string p] 9)) 9 (.string ⟨#[]⟩)).alloc (.cells #[.bool false] 4)).alloc (.cells #[.slice A1 st.length n1] 53))
  have bO := ((Boxed.new ((w.alloc (.cells #[.string p] 9)).alloc (.cells #[.string ⟨#[]⟩] 9)) 4 (.bool false)).alloc (.cells #[.slice A1 st.length n1] 53))
  have bN := Boxed.new (((w.alloc (.cells #[.string p] 9)).alloc (.cells #[.string ⟨#[]⟩] 9)).alloc (.cells #[.bool false] 4)) 53 (.slice A1 st.length n1)
  simp only [World.size_alloc] at bP bR bO bN
  have hB0 : Below w.heap.size w ((((w.alloc (.cells #[.string p] 9)).alloc (.cells #[.string ⟨#[]⟩] 9)).alloc (.cells #[.bool false] 4)).alloc (.cells #[.slice A1 st.length n1] 53)) := B3.alloc (by simp; omega) _
  have hz0 : ((((w.alloc (.cells #[.string p] 9)).alloc (.cells #[.string ⟨#[]⟩] 9)).alloc (.cells #[.bool false] 4)).alloc (.cells #[.slice A1 st.length n1] 53)).heap.size = w.heap.size + 4 := by simp
  have hlen : (st.map Sc.b).length = st.length := List.length_map _
  rw [hlen] at HH
  have hIs0 : ∀ x ∈ st, (mkS tS).Is ((((w.alloc (.cells #[.string p] 9)).alloc (.cells #[.string ⟨#[]⟩] 9)).alloc (.cells #[.bool false] 4)).alloc (.cells #[.slice A1 st.length n1] 53)) x.b x.m x.m x.f := fun x hx => (h3 x hx).2.2.below hB0
  generalize hW0 : ((((w.alloc (.cells #[.string p] 9)).alloc (.cells #[.string ⟨#[]⟩] 9)).alloc (.cells #[.bool false] 4)).alloc (.cells #[.slice A1 st.length n1] 53)) = W0 at *
  clear hW0 B3 c0 hR h4 hh hgl
  refine wpIn_rangeFunc_ownG hro h1 (gf := 42) (lb := #[.pointer (some ⟨w.heap.size + 1 + 1 + 1, 0, none⟩)]) rfl h42 (enters_of Tryd.func42 (by kernel_rfl) rfl)
    (back_stops F (n - 1) h42 hro (by omega) (w.heap.size + 1 + 1 + 1) (w.heap.size + 4) _ (st.map Sc.b) (by rw [hlen]; omega) W0 (by omega) (by omega) (by omega) bN.cell ((HH.below hB0).mono (by omega))) belowK_t (belowK_b (by omega)) (Below.refl _ _) (fun _ => rfl)
    (fun pre W => ((∀ j ∈ pre, (sAt st j).f p = none) ∧ W.cell? ⟨w.heap.size, 0, none⟩ = some (.string p) ∧ W.cell? ⟨w.heap.size + 1, 0, none⟩ = some (.string ⟨#[]⟩) ∧ W.frozen? ⟨w.heap.size + 1, 0, none⟩ = false ∧ W.cell? ⟨w.heap.size + 1 + 1, 0, none⟩ = some (.bool false) ∧ W.frozen? ⟨w.heap.size + 1 + 1, 0, none⟩ = false) ∧ (∀ x ∈ st, (mkS tS).Is W x.b x.m x.m x.f) ∧ Below w.heap.size w W)
    (fun c pre W => (c = .ret ∧ ∃ ini last v, pre = ini ++ [last] ∧ (∀ j ∈ ini, (sAt st j).f p = none) ∧ (sAt st last).f p = some v ∧ W.cell? ⟨w.heap.size + 1, 0, none⟩ = some (.string v) ∧ W.cell? ⟨w.heap.size + 1 + 1, 0, none⟩ = some (.bool true)) ∧ Below w.heap.size w W)
    (OwnFrom.and (Own.from (fun s A B row hs hg hr => ⟨hs.1, cell_kept hs.2.1 hg hr, cell_kept hs.2.2.1 hg hr, (frozen_kept hs.2.2.1 hg hr).trans hs.2.2.2.1, cell_kept hs.2.2.2.2.1 hg hr, (frozen_kept hs.2.2.2.2.1 hg hr).trans hs.2.2.2.2.2⟩) _) (OwnFrom.and (fun s A B row hs hg hr x hx => (hs x hx).grown hg (fun e => by have h5 := (hr x.b e.symm).1; have := hlt x hx; omega)) (ownFrom_below (Nat.le_refl _) (by omega))))
    (fun c => OwnFrom.and (Own.from (fun s A B row hs hg hr => by obtain ⟨hc, ini, last, v, e1, e2, e3, e4, e5⟩ := hs; exact ⟨hc, ini, last, v, e1, e2, e3, cell_kept e4 hg hr, cell_kept e5 hg hr⟩) _) (ownFrom_below (Nat.le_refl _) (by omega)))
    ⟨⟨by simp, bP.cell, bR.cell, bR.frozen, bO.cell, bO.frozen⟩, hIs0, hB0⟩
    (fun x => { tmps := #[.pointer (some ⟨g, 0, none⟩), .string p, undef, .pointer (some ⟨w.heap.size, 0, none⟩), .pointer (some ⟨w.heap.size + 1, 0, none⟩), .pointer (some ⟨w.heap.size + 1 + 1, 0, none⟩), undef, .map (some (st.map Sc.b)[x]), undef, undef, .pointer (some ⟨g, 0, none⟩), .pointer (some ⟨g, 0, none⟩), .pointer (some ⟨g, 0, none⟩), .slice A1 st.length n1, .func (.func 42) #[] #[.pointer (some ⟨w.heap.size + 1 + 1 + 1, 0, none⟩)], .int .i64 (x.val : Int), .map (some (st.map Sc.b)[x]), undef, undef, undef, undef, undef, undef, undef, undef, undef, undef], defers := [] }) ?assign ?body ?done ?stop
  case assign =>
    intro l x W K hK
    unfold encB
    rw [sAt_b st x] at hK ⊢
    generalize (sAt st x).b = bb at hK ⊢
    gi_wp2
    exact hK
  case body =>
    rintro l pre x W ⟨⟨hpre, q0, q1, f1, q2, f2⟩, hM, hB⟩ _
    have hMx := hM _ (sAt_mem st x)
    have PK : (mkS tS).okk p := by show p.size ≤ maxLen; unfold maxLen; omega
    rw [sAt_b st x]
    cases hf : (sAt st x).f p with
    | none =>
      have HF := Aside0.mk hf
      have HX := Aside0.mk hMx
      have HPK := Aside0.mk PK
      have HI := Aside0.mk (show ((∀ j ∈ pre ++ [x], (sAt st j).f p = none) ∧ W.cell? ⟨w.heap.size, 0, none⟩ = some (.string p) ∧ W.cell? ⟨w.heap.size + 1, 0, none⟩ = some (.string ⟨#[]⟩) ∧ W.frozen? ⟨w.heap.size + 1, 0, none⟩ = false ∧ W.cell? ⟨w.heap.size + 1 + 1, 0, none⟩ = some (.bool false) ∧ W.frozen? ⟨w.heap.size + 1 + 1, 0, none⟩ = false) ∧ (∀ x ∈ st, (mkS tS).Is W x.b x.m x.m x.f) ∧ Below w.heap.size w W from
        ⟨⟨fun j hj => (List.mem_append.1 hj).elim (hpre j) (fun e => by rw [List.mem_singleton] at e; subst e; exact hf), q0, q1, f1, q2, f2⟩, hM, hB⟩)
      clear hf hMx PK hM hpre
      gi_wp2_with (gi_at_lookup; refine look_in rfl rfl (mkS tS) rfl p rfl HX.out HPK.out ?_; rw [HF.out]; rw [(rfl : (mkS tS).vv ((none : Option ByteArray).getD (mkS tS).d) = .string ⟨#[]⟩), Option.isSome_none])
      exact ⟨KeepsFrom.refl _ _, Below.refl _ _, HI.out⟩
    | some v =>
      have HF := Aside0.mk hf
      have HX := Aside0.mk hMx
      have HPK := Aside0.mk PK
      have HP := Aside0.mk hpre
      clear hf hMx PK hM hpre
      gi_wp2_with (gi_at_lookup; refine look_in rfl rfl (mkS tS) rfl p rfl HX.out HPK.out ?_; rw [HF.out, Option.getD_some, vvS, Option.isSome_some])
      refine ⟨((KeepsOthers.setCell _ _ _).trans (KeepsOthers.setCell _ _ _)).from _, ⟨rfl, pre, x, v, rfl, HP.out, HF.out, ?_, ?_⟩, (hB.setCell (p := ⟨w.heap.size + 1, 0, none⟩) (by simp) _).setCell (p := ⟨w.heap.size + 1 + 1, 0, none⟩) (by simp; omega) _⟩
      · rw [cell_set_ne _ _ _ (by simp)]
        exact World.cell?_setCell_same' _ _ _ (by rw [q1]; rfl)
      · exact World.cell?_setCell_same' _ _ _ (by rw [cell_set_ne _ _ _ (by simp), q2]; rfl)
  case done =>
    rintro D ys W hD rfl ⟨⟨hne, q0, q1, f1, q2, f2⟩, hM, hB⟩ hK
    have HNE := Aside0.mk hne
    clear hne hM
    have HD := Aside0.mk (show w.heap.size + 4 ≤ D by omega)
    gi_wp2
    by_cases hp0 : p.size = 0
    · have HA := Aside0.mk (show askS st p = (⟨#[]⟩, true) by rw [ask_none HNE.out, decide_eq_true hp0])
      obtain rfl : p = ⟨#[]⟩ := by
        cases p with
        | mk d => congr 1; exact Array.eq_empty_of_size_eq_zero hp0
      have HE := Aside0.mk (ask_end w W D ⟨#[]⟩ true HD.out hB hK q1 q2)
      gi_region
      all_goals
        generalize (((W.setCell ⟨w.heap.size + 1, 0, none⟩ (.string ⟨#[]⟩)).setCell ⟨w.heap.size + 1 + 1, 0, none⟩ (.bool true)).drew) = W5 at HE ⊢
        gi_wp2
        refine ⟨by simp, .inl ⟨_, _, rfl, run_takeDeferred HE.out.1, ?_⟩⟩
        have hc4 := cell_kept HE.out.2.1 (grownBy_putObj' _ D (.deferred none)) (fun r e => by cases e; exact ⟨_, HE.out.1, rfl⟩)
        have hc5 := cell_kept HE.out.2.2.1 (grownBy_putObj' _ D (.deferred none)) (fun r e => by cases e; exact ⟨_, HE.out.1, rfl⟩)
        refine ⟨.tuple #[.string ⟨#[]⟩, .bool true], ?_, by rw [HA.out], HE.out.2.2.2.trans (belowK_b (w := w) (Nat.le_refl _) W5 D _ _ (by have := HD.out; omega) HE.out.1 rfl rfl)⟩
        simp [results, Tryd.f20, go_sem, hc4, hc5]
    · have HA := Aside0.mk (show askS st p = (⟨#[]⟩, false) by rw [ask_none HNE.out, decide_eq_false hp0])
      have p1 := ne_empty hp0
      have p2 := ne_empty2 hp0
      have HE := Aside0.mk (ask_end w W D ⟨#[]⟩ false HD.out hB hK q1 q2)
      gi_region
      all_goals
        generalize (((W.setCell ⟨w.heap.size + 1, 0, none⟩ (.string ⟨#[]⟩)).setCell ⟨w.heap.size + 1 + 1, 0, none⟩ (.bool false)).drew) = W5 at HE ⊢
        gi_wp2
        refine ⟨by simp, .inl ⟨_, _, rfl, run_takeDeferred HE.out.1, ?_⟩⟩
        have hc4 := cell_kept HE.out.2.1 (grownBy_putObj' _ D (.deferred none)) (fun r e => by cases e; exact ⟨_, HE.out.1, rfl⟩)
        have hc5 := cell_kept HE.out.2.2.1 (grownBy_putObj' _ D (.deferred none)) (fun r e => by cases e; exact ⟨_, HE.out.1, rfl⟩)
        refine ⟨.tuple #[.string ⟨#[]⟩, .bool false], ?_, by rw [HA.out], HE.out.2.2.2.trans (belowK_b (w := w) (Nat.le_refl _) W5 D _ _ (by have := HD.out; omega) HE.out.1 rfl rfl)⟩
        simp [results, Tryd.f20, go_sem, hc4, hc5]
  case stop =>
    rintro D c pre W hD ⟨k, hk, hke⟩ ⟨⟨rfl, ini, last, v, e1, e2, e3, q1, q2⟩, hB⟩ hK
    have HA := Aside0.mk (ask_some hk (hke ▸ e1) e2 e3)
    clear e1 e2 e3 hke
    gi_wp2
    refine ⟨by simp, .inl ⟨_, _, rfl, run_takeDeferred hK, ?_⟩⟩
    have hc4 := cell_kept q1 (grownBy_putObj' _ D (.deferred none)) (fun r e => by cases e; exact ⟨_, hK, rfl⟩)
    have hc5 := cell_kept q2 (grownBy_putObj' _ D (.deferred none)) (fun r e => by cases e; exact ⟨_, hK, rfl⟩)
    refine ⟨.tuple #[.string v, .bool true], ?_, by rw [HA.out], hB.trans (belowK_b (w := w) (Nat.le_refl _) W D _ _ (by omega) hK rfl rfl)⟩
    simp [results, Tryd.f20, go_sem, hc4, hc5]

theorem ask_calls {B g : Nat} {w : World} {st : List Sc} {p : ByteArray} (h : IsSc B w g st) (hl : st.length < 17000000000000) (hp : p.size ≤ 1048576) :
    Calls Tryd.prog 20 #[.pointer (some ⟨g, 0, none⟩), .string p] w fun e w' => e = .returned (.tuple #[.string (askS st p).1, .bool (askS st p).2]) ∧ Below w.heap.size w w' :=
  (callsIn_wide (n := 3)).1 (ask_in Fence.wide 3 trivial trivial trivial rfl (by omega) h hl hp)
end Go.Proofs.YticlppojbbocbaaDoor.Nm
