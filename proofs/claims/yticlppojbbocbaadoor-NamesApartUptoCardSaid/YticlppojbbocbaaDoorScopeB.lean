/- names: Bind and Close. -/
import Derived.Test.YticlppojbbocbaaDoorScopeW
import Derived.Test.YticlppojbbocbaaDoorNameJoin
import Derived.StillTailTactics
import Derived.BigQuiet
namespace Go.Proofs.YticlppojbbocbaaDoor.Nm
open Go Go.Lib Go.Shelf Go.RowKit Go.Proofs.YticlppojbbocbaaDoorW.PrintWords Go.Proofs.YticlppojbbocbaaDoorW.PrintLast Go.Proofs.YticlppojbbocbaaDoor.Own Go.Proofs.YticlppojbbocbaaDoor.Srcw Go.Proofs.YticlppojbbocbaaDoor.Tab
set_option linter.unusedVariables false
set_option linter.unusedSimpArgs false

theorem mrow_at {e : Nat} {w : World} {base : Nat} {ok : Nat → Prop} {v : Value} {xs : List Nat} (h : kmv.R e w base ok v xs) (hne : xs ≠ []) :
    ∃ g c, v = .slice (some ⟨g, 0, none⟩) xs.length c ∧ base ≤ g ∧ ok g ∧ g < w.heap.size ∧ ∀ j x, xs[j]? = some x → w.cell? ⟨g, j, none⟩ = some (mv x) := by
  have ho := Kd.own_of_R h
  rcases ho.2 with ⟨_, h0⟩ | ⟨g, cap, cur, rfl, hg, hh, r⟩
  · exact absurd (List.eq_nil_of_length_eq_zero h0) hne
  · refine ⟨g, cap, rfl, hg, h.1 g (by simp [Value.ownBlock]), blk_lt hh, fun j x hj => ?_⟩
    have hc := ho.cells (g := g) rfl j (mv x) (by unfold encs; rw [List.getElem?_map, hj]; rfl)
    have ha : (⟨g, 0, none⟩ : Addr).add j = ⟨g, j, none⟩ := by unfold Addr.add; simp; intro h; exact h.symm
    rwa [ha] at hc
theorem mrow_init {e : Nat} {w : World} {base : Nat} {ok : Nat → Prop} {A : Option Addr} {n c : Nat} {xs : List Nat} {x : Nat} (h : kmv.R e w base ok (.slice A n c) (xs ++ [x])) :
    kmv.R e w base ok (.slice A xs.length c) xs := by
  have ho := Kd.own_of_R h
  obtain ⟨hn, hc, _⟩ := Kd.R_reads' h
  have hl : (xs ++ [x]).length = xs.length + 1 := by simp
  rw [hn] at ho
  have ht := own_take (m := xs.length) ho (by omega)
  have he : (encs mv (xs ++ [x])).take (xs.length * 1) = encs mv xs := by simp [encs]
  rw [he] at ht
  refine Kd.R_of_own ht (fun g hg => h.1 g ?_)
  cases A
  · simp [Value.ownBlock] at hg
  · simpa [Value.ownBlock] using hg

set_option maxHeartbeats 2000000 in
set_option maxRecDepth 100000 in
theorem close_none {B g : Nat} {w : World} (h : IsSc B w g []) :
    Calls Tryd.prog 23 #[.pointer (some ⟨g, 0, none⟩)] w fun e w' => e = .returned (.int .i64 21) ∧ IsSc B w' g [] ∧ Below B w w' := by
  have H := Aside0.mk h
  obtain ⟨h0, v, h1, h2, h3, h4⟩ := h
  have c0 := (blk_cell h1 0).trans rfl
  obtain ⟨A1, n1, hv⟩ := Kd.R_slice h2
  simp only [List.map_nil, List.length_nil] at hv
  clear h0 h1 h2 h3 h4
  subst hv
  go_enter Tryd.func23, Tryd.ntmps23
  go_wp2
  go_ret
  exact ⟨rfl, H.out, Below.refl _ _⟩
set_option maxHeartbeats 2000000 in
set_option maxRecDepth 100000 in
theorem close_some {B g : Nat} {w : World} {st : List Sc} {x : Sc} (h : IsSc B w g (st ++ [x])) (hl : st.length < 17000000000000) :
    Calls Tryd.prog 23 #[.pointer (some ⟨g, 0, none⟩)] w fun e w' => e = .returned (.int .i64 0) ∧ IsSc B w' g st ∧ Below B w w' := by
  obtain ⟨h0, v, h1, h2, h3, h4⟩ := h
  have H0 := Aside0.mk h0
  have H1 := Aside0.mk h1
  have H3 := Aside0.mk h3
  have H4 := Aside0.mk h4
  have c0 := (blk_cell h1 0).trans rfl
  have f0 := blk_frozen h1 0
  obtain ⟨gr, cr, hv, hgb, hgo, hgl, hgc⟩ := mrow_at h2 (by simp)
  rw [List.length_map, List.length_append, List.length_singleton] at hv
  have hcc := (Kd.R_reads' (hv ▸ h2)).2.1
  have H2 := Aside0.mk (hv ▸ h2)
  have e1 : IntKind.i64.wrap ((st.length : Int)) = (st.length : Int) := Go.IntWalk.i64_in _ (by omega)
  have e0 : IntKind.i64.wrap ((st.length : Int) + 1 - 1) = (st.length : Int) := by rw [Int.add_sub_cancel]; exact e1
  have e2 : ((st.length : Int)) ≤ (st.length : Int) + 1 := by omega
  have e5 : ((st.length : Int)) ≤ (cr : Int) := by omega
  have e3 : (0 : Int) ≤ (st.length : Int) := by omega
  have e4 : ((st.length : Int) + 1 == 0) = false := by rw [beq_eq_false_iff_ne]; omega
  clear h0 h1 h2 h3 h4 hgb hgo hgl hgc
  subst hv
  go_enter Tryd.func23, Tryd.ntmps23
  go_wp2_with fail
  refine wp_region_still_tail 14 (by kernel_rfl) (by kernel_rfl) ?_
  simp only [List.take_succ_cons, List.take_zero, List.drop_succ_cons, List.drop_zero]
  iterate 14 still_step
  refine wpStill_nil ?_
  change wpList _ _ _ _ _ w.drew
  have D0 : Below w.heap.size w w.drew := below_drew (Below.refl _ _)
  have D1 := Aside0.mk D0
  have c1 : w.drew.cell? ⟨g, 0, none⟩ = _ := c0
  have f1 : w.drew.frozen? ⟨g, 0, none⟩ = false := f0
  clear c0 f0 D0
  generalize w.drew = w1 at D1 c1 f1 ⊢
  go_wp2
  go_ret
  have hw1 : w1.heap[g]? = some (.cells #[.slice (some ⟨gr, 0, none⟩) (st.length + 1) cr] 55 (0, 0)) := (D1.out.block g (blk_lt H1.out)).trans H1.out
  have hmem : ∀ y ∈ st, y ∈ st ++ [x] := fun y hy => List.mem_append_left _ hy
  refine ⟨rfl, ⟨H0.out, _, blk_put (cs' := #[.slice (some ⟨gr, 0, none⟩) st.length cr]) hw1 0 _ (by simp), ?_, fun y hy => ?_, ?_⟩, (below_mono D1.out (Nat.le_trans H0.out (Nat.le_of_lt (blk_lt H1.out)))).setCell (p := ⟨g, 0, none⟩) H0.out _⟩
  · have h := H2.out
    rw [List.map_append] at h
    have h' := mrow_init h
    rw [List.length_map] at h'
    exact Kd.R_mono (Kd.R_far (p := ⟨g, 0, none⟩) (Kd.R_below h' D1.out) (fun k hk => hk.1) _) (fun k hk => ⟨hk.1, fun y hy => hk.2 y (hmem y hy)⟩)
  · obtain ⟨q1, q2, q3⟩ := H3.out y (hmem y hy)
    exact ⟨q1, q2, (q3.below D1.out).set (p := ⟨g, 0, none⟩) q2 _⟩
  · have h := H4.out
    rw [List.map_append, List.nodup_append] at h
    exact h.1
end Go.Proofs.YticlppojbbocbaaDoor.Nm
