/- names' Scope.Space, walked. -/
import Derived.Test.YticlppojbbocbaaDoorScopeIter
namespace Go.Proofs.YticlppojbbocbaaDoor.Nm
open Go Go.Lib Go.Shelf Go.RowKit Go.Proofs.YticlppojbbocbaaDoorW.PrintWords Go.Proofs.YticlppojbbocbaaDoorW.PrintLast Go.Proofs.YticlppojbbocbaaDoor.Own Go.Proofs.YticlppojbbocbaaDoor.Srcw Go.Proofs.YticlppojbbocbaaDoor.Tab
set_option linter.unusedVariables false
set_option linter.unusedSimpArgs false
attribute [local go_sem] Oper.semAt_some

/-- What a prefix stands for. -/
def askS (st : List Sc) (p : ByteArray) : ByteArray × Bool := match st.reverse.findSome? (fun x => x.f p) with
  | some c => (c, true)
  | none => (⟨#[]⟩, decide (p.size = 0))

theorem look_in {P : Program} {t k e : TypeId} {α β : Type} {F : Fence} {nF : Nat} {ops : Array Oper} {rest : List Oper} {o : Oper} {a : Act} {Q : Exit → Act → World → Prop} {W : World} (hgd : o.guard = none) {mo ko : Operand} (hop : o.op = .lookup t mo ko true) (M : MKind P t k e α β) {b n m : Nat} {f : α → Option β} (hm : a.eval mo = .map (some b)) (x : α) (hk : a.eval ko = M.kv x)
    (hM : M.Is W b n m f) (hx : M.okk x)
    (h : wpListIn F nF P ops Q rest (a.put o.dst (.tuple #[M.vv ((f x).getD M.d), .bool (f x).isSome])) W) : wpListIn F nF P ops Q (o :: rest) a W := by
  refine wpListIn_plain hgd fun K' hK' => ?_
  have hrun := hM.look x hx
  unfold Oper.wpIn
  refine ⟨by simp [Oper.about, hop], ?_⟩
  rw [Oper.semAt_plain F _ _ (by rw [hop]; intro c hc'; cases hc')]
  simp [execOp, hop, hm, hk, hrun, Result.andThen]
  exact hK' _ _ h
theorem vvS (v : ByteArray) : (mkS tS).vv v = .string v := rfl
theorem cell_set_ne (w : World) (p : Addr) (v : Value) {q : Addr} (h : q.block ≠ p.block) : (w.setCell p v).cell? q = w.cell? q := by
  simp only [World.cell?]
  rw [Below.heap_setCell _ _ _ _ h]
def sAt (st : List Sc) (j : Fin (st.map Sc.b).length) : Sc := st[j.val]'(Nat.lt_of_lt_of_eq j.2 (List.length_map _))
theorem sAt_mem (st : List Sc) (j : Fin (st.map Sc.b).length) : sAt st j ∈ st := List.getElem_mem _
theorem sAt_b (st : List Sc) (j : Fin (st.map Sc.b).length) : (st.map Sc.b)[j] = (sAt st j).b := by simp [sAt]
theorem Holds.mono {n₀ n₁ : Nat} {W : World} (h : n₀ ≤ n₁) {sv : Value} {zs : List Nat} : Holds n₀ W sv zs → Holds n₁ W sv zs
  | .inl e => .inl e
  | .inr ⟨b, cap, e, hb, hc⟩ => .inr ⟨b, cap, e, by omega, hc⟩

theorem ask_end (w W : World) (D : Nat) (r : ByteArray) (o : Bool) (hD : w.heap.size + 4 ≤ D) (hB : Below w.heap.size w W) (hK : W.heap[D]? = some (.deferred (some [])))
    (q1 : W.cell? ⟨w.heap.size + 1, 0, none⟩ = some (.string ⟨#[]⟩)) (q2 : W.cell? ⟨w.heap.size + 1 + 1, 0, none⟩ = some (.bool false)) :
    let W' := ((W.setCell ⟨w.heap.size + 1, 0, none⟩ (.string r)).setCell ⟨w.heap.size + 1 + 1, 0, none⟩ (.bool o)).drew
    W'.heap[D]? = some (.deferred (some [])) ∧ W'.cell? ⟨w.heap.size + 1, 0, none⟩ = some (.string r) ∧ W'.cell? ⟨w.heap.size + 1 + 1, 0, none⟩ = some (.bool o) ∧ Below w.heap.size w W' := by
  refine ⟨?_, ?_, ?_, ?_⟩
  · show ((W.setCell ⟨w.heap.size + 1, 0, none⟩ (.string r)).setCell ⟨w.heap.size + 1 + 1, 0, none⟩ (.bool o)).heap[D]? = _
    rw [Below.heap_setCell _ _ _ _ (by simp; omega), Below.heap_setCell _ _ _ _ (by simp; omega)]
    exact hK
  · show ((W.setCell ⟨w.heap.size + 1, 0, none⟩ (.string r)).setCell ⟨w.heap.size + 1 + 1, 0, none⟩ (.bool o)).cell? _ = _
    rw [cell_set_ne _ _ _ (by simp)]
    exact World.cell?_setCell_same' _ _ _ (by rw [q1]; rfl)
  · show ((W.setCell ⟨w.heap.size + 1, 0, none⟩ (.string r)).setCell ⟨w.heap.size + 1 + 1, 0, none⟩ (.bool o)).cell? _ = _
    exact World.cell?_setCell_same' _ _ _ (by rw [cell_set_ne _ _ _ (by simp), q2]; rfl)
  · exact below_drew1 ((hB.setCell (p := ⟨w.heap.size + 1, 0, none⟩) (by simp) _).setCell (p := ⟨w.heap.size + 1 + 1, 0, none⟩) (by simp; omega) _)
theorem ask_none {st : List Sc} {p : ByteArray} (h : ∀ j ∈ (List.finRange (st.map Sc.b).length).reverse, (sAt st j).f p = none) : askS st p = (⟨#[]⟩, decide (p.size = 0)) := by
  have : st.reverse.findSome? (fun x => x.f p) = none := by
    rw [List.findSome?_eq_none_iff]
    intro x hx
    obtain ⟨i, hi, rfl⟩ := List.getElem_of_mem (List.mem_reverse.1 hx)
    exact h ⟨i, by rw [List.length_map]; exact hi⟩ (by simp)
  unfold askS
  rw [this]
theorem ask_some {st : List Sc} {p v : ByteArray} {ini : List (Fin (st.map Sc.b).length)} {last : Fin (st.map Sc.b).length} {k : Nat} (hk : k ≤ (st.map Sc.b).length) (e1 : came (st.map Sc.b).length k = ini ++ [last]) (e2 : ∀ j ∈ ini, (sAt st j).f p = none) (e3 : (sAt st last).f p = some v) : askS st p = (v, true) := by
  have hmap : (List.finRange (st.map Sc.b).length).map (sAt st) = st := by
    apply List.ext_getElem
    · simp
    · intro i h1 h2
      simp [sAt]
  have hrev : st.reverse = ((List.finRange (st.map Sc.b).length).reverse).map (sAt st) := by rw [List.map_reverse, hmap]
  have hspl : (List.finRange (st.map Sc.b).length).reverse = ini ++ [last] ++ ((List.finRange (st.map Sc.b).length).reverse).drop k := by
    rw [← e1]; unfold came; rw [List.take_append_drop]
  have : st.reverse.findSome? (fun x => x.f p) = some v := by
    rw [hrev, List.findSome?_map, hspl, List.append_assoc, List.findSome?_append]
    have h0 : List.findSome? ((fun x : Sc => x.f p) ∘ sAt st) ini = none := List.findSome?_eq_none_iff.2 (fun j hj => e2 j hj)
    rw [h0, Option.none_or, List.singleton_append, List.findSome?_cons]
    simp [e3]
  unfold askS
  rw [this]

set_option maxRecDepth 100000 in
set_option maxHeartbeats 4000000 in
theorem ask_in (F : Fence) (n : Nat) (h20 : F.fn 20) (h35 : F.fn 35) (h42 : F.fn 42) (hro : F.round = none) (hn : 3 ≤ n) {B g : Nat} {w : World} {st : List Sc} {p : ByteArray} (h : IsSc B w g st) (hl : st.length < 17000000000000) (hp : p.size ≤ 1048576) :
    CallsIn F n Tryd.prog 20 #[.pointer (some ⟨g, 0, none⟩), .string p] w fun e w' => e = .returned (.tuple #[.string (askS st p).1, .bool (askS st p).2]) ∧ Below w.heap.size w w' := by
  have h1 : 1 ≤ n := by omega
  refine callsIn_of_wp_marks Tryd.func20 rfl h20 ?_ hro
  simp only [Tryd.ntmps20, List.size_toArray, List.length_cons, List.length_nil, Nat.reduceAdd, Nat.reduceSub, Array.replicate_succ, Array.replicate_zero, List.push_toArray, List.append_toArray, List.nil_append, List.cons_append]
  obtain ⟨h0, v, hh, hR, h3, h4⟩ := h
  have HH : Holds w.heap.size w v (st.map Sc.b) := by
    rcases st with _ | ⟨x, r⟩
    · obtain ⟨A, c, hv⟩ := Kd.R_slice hR
      exact .inl ⟨A, c, hv, rfl⟩
    · obtain ⟨gr, cr, hv, _, _, hgl, hgc⟩ := mrow_at hR (by simp)
      exact .inr ⟨gr, cr, hv, hgl, fun j hj => hgc j _ (List.getElem?_eq_getElem hj)⟩
  obtain ⟨A1, n1, hv⟩ := Kd.R_slice hR
  subst hv
  have hgl := blk_lt hh
  have B3 : Below w.heap.size w (((w.alloc (.cells #[.string p] 9)).alloc (.cells #[.string ⟨#[]⟩] 9)).alloc (.cells #[.bool false] 4)) := (((Below.refl _ w).alloc (Nat.le_refl _) _).alloc (by simp) _).alloc (by simp; omega) _
  have c0 : (((w.alloc (.cells #[.string p] 9)).alloc (.cells #[.string ⟨#[]⟩] 9)).alloc (.cells #[.bool false] 4)).cell? ⟨g, 0, none⟩ = some (.slice A1 (st.map Sc.b).length n1) := (B3.cell (p := ⟨g, 0, none⟩) hgl).trans (blk_cell hh 0)
  gi_wp2_with (gi_at_call 35; refine (back_in F (n - 1) h35 hro _ _ _ _).mono ?_; rintro e w' ⟨rfl, rfl⟩)
  have hlt : ∀ x ∈ st, x.b < w.heap.size := fun x hx => (h3 x hx).2.2.lt
  have bP := ((((Boxed.new w 9 (.string p)).alloc (.cells #[.string ⟨#[]⟩] 9)).alloc (.cells #[.bool false] 4)).alloc (.cells #[.slice A1 st.length n1] 53))
  have bR := (((Boxed.new (w.alloc (.cells #[.string p] 9)) 9 (.string ⟨#[]⟩)).alloc (.cells #[.bool false] 4)).alloc (.cells #[.slice A1 st.length n1] 53))
  have bO := ((Boxed.new ((w.alloc (.cells #[.string p] 9)).alloc (.cells #[.string ⟨#[]⟩] 9)) 4 (.bool false)).alloc (.cells #[.slice A1 st.length n1] 53))
  have bN := Boxed.new (((w.alloc (.cells #[.string p] 9)).alloc (.cells #[.string ⟨#[]⟩] 9)).alloc (.cells #[.bool false] 4)) 53 (.slice A1 st.length n1)
  simp only [World.size_alloc] at bP bR bO bN
  have hB0 : Below w.heap.size w ((((w.alloc (.cells #[.string p] 9)).alloc (.cells #[.string ⟨#[]⟩] 9)).alloc (.cells #[.bool false] 4)).alloc (.cells #[.slice A1 st.length n1] 53)) := B3.alloc (by simp; omega) _
  have hz0 : ((((w.alloc (.cells #[.string p] 9)).alloc (.cells #[.string ⟨#[]⟩] 9)).alloc (.cells #[.bool false] 4)).alloc (.cells #[.slice A1 st.length n1] 53)).heap.size = w.heap.size + 4 := by simp
  have hlen : (st.map Sc.b).length = st.length := List.length_map _
  rw [hlen] at HH
  have hIs0 : ∀ x ∈ st, (mkS tS).Is ((((w.alloc (.cells #[.string p] 9)).alloc (.cells #[.string ⟨#[]⟩] 9)).alloc (.cells #[.bool false] 4)).alloc (.cells #[.slice A1 st.length n1] 53)) x.b x.m x.m x.f := fun x hx => (h3 x hx).2.2.below hB0
  generalize hW0 : ((((w.alloc (.cells #[.string p] 9)).alloc (.cells #[.string ⟨#[]⟩] 9)).alloc (.cells #[.bool false] 4)).alloc (.cells #[.slice A1 st.length n1] 53)) = W0 at *
  clear hW0 B3 c0 hR h4 hh hgl
  refine wpIn_rangeFunc_ownG hro h1 (gf := 42) (lb := #[.pointer (some ⟨w.heap.size + 1 + 1 + 1, 0, none⟩)]) rfl h42 (enters_of Tryd.func42 (by kernel_rfl) rfl)
    (back_stops F (n - 1) h42 hro (by omega) (w.heap.size + 1 + 1 + 1) (w.heap.size + 4) _ (st.map Sc.b) (by rw [hlen]; omega) W0 (by omega) (by omega) (by omega) bN.cell ((HH.below hB0).mono (by omega))) belowK_t (belowK_b (by omega)) (Below.refl _ _) (fun _ => rfl)
    (fun pre W => ((∀ j ∈ pre, (sAt st j).f p = none) ∧ W.cell? ⟨w.heap.size, 0, none⟩ = some (.string p) ∧ W.cell? ⟨w.heap.size + 1, 0, none⟩ = some (.string ⟨#[]⟩) ∧ W.frozen? ⟨w.heap.size + 1, 0, none⟩ = false ∧ W.cell? ⟨w.heap.size + 1 + 1, 0, none⟩ = some (.bool false) ∧ W.frozen? ⟨w.heap.size + 1 + 1, 0, none⟩ = false) ∧ (∀ x ∈ st, (mkS tS).Is W x.b x.m x.m x.f) ∧ Below w.heap.size w W)
    (fun c pre W => (c = .ret ∧ ∃ ini last v, pre = ini ++ [last] ∧ (∀ j ∈ ini, (sAt st j).f p = none) ∧ (sAt st last).f p = some v ∧ W.cell? ⟨w.heap.size + 1, 0, none⟩ = some (.string v) ∧ W.cell? ⟨w.heap.size + 1 + 1, 0, none⟩ = some (.bool true)) ∧ Below w.heap.size w W)
    (OwnFrom.and (Own.from (fun s A B row hs hg hr => ⟨hs.1, cell_kept hs.2.1 hg hr, cell_kept hs.2.2.1 hg hr, (frozen_kept hs.2.2.1 hg hr).trans hs.2.2.2.1, cell_kept hs.2.2.2.2.1 hg hr, (frozen_kept hs.2.2.2.2.1 hg hr).trans hs.2.2.2.2.2⟩) _) (OwnFrom.and (fun s A B row hs hg hr x hx => (hs x hx).grown hg (fun e => by have h5 := (hr x.b e.symm).1; have := hlt x hx; omega)) (ownFrom_below (Nat.le_refl _) (by omega))))
    (fun c => OwnFrom.and (Own.from (fun s A B row hs hg hr => by obtain ⟨hc, ini, last, v, e1, e2, e3, e4, e5⟩ := hs; exact ⟨hc, ini, last, v, e1, e2, e3, cell_kept e4 hg hr, cell_kept e5 hg hr⟩) _) (ownFrom_below (Nat.le_refl _) (by omega)))
    ⟨⟨by simp, bP.cell, bR.cell, bR.frozen, bO.cell, bO.frozen⟩, hIs0, hB0⟩
    (fun x => { tmps := #[.pointer (some ⟨g, 0, none⟩), .string p, undef, .pointer (some ⟨w.heap.size, 0, none⟩), .pointer (some ⟨w.heap.size + 1, 0, none⟩), .pointer (some ⟨w.heap.size + 1 + 1, 0, none⟩), undef, .map (some (st.map Sc.b)[x]), undef, undef, .pointer (some ⟨g, 0, none⟩), .pointer (some ⟨g, 0, none⟩), .pointer (some ⟨g, 0, none⟩), .slice A1 st.length n1, .func (.func 42) #[] #[.pointer (some ⟨w.heap.size + 1 + 1 + 1, 0, none⟩)], .int .i64 (x.val : Int), .map (some (st.map Sc.b)[x]), undef, undef, undef, undef, undef, undef, undef, undef, undef, undef], defers := [] }) ?assign ?body ?done ?stop
  case assign =>
    intro l x W K hK
    unfold encB
    rw [sAt_b st x] at hK ⊢
    generalize (sAt st x).b = bb at hK ⊢
    gi_wp2
    exact hK
  case body =>
    rintro l pre x W ⟨⟨hpre, q0, q1, f1, q2, f2⟩, hM, hB⟩ _
    have hMx := hM _ (sAt_mem st x)
    have PK : (mkS tS).okk p := by show p.size ≤ maxLen; unfold maxLen; omega
    rw [sAt_b st x]
    cases hf : (sAt st x).f p with
    | none =>
      have HF := Aside0.mk hf
      have HX := Aside0.mk hMx
      have HPK := Aside0.mk PK
      have HI := Aside0.mk (show ((∀ j ∈ pre ++ [x], (sAt st j).f p = none) ∧ W.cell? ⟨w.heap.size, 0, none⟩ = some (.string p) ∧ W.cell? ⟨w.heap.size + 1, 0, none⟩ = some (.string ⟨#[]⟩) ∧ W.frozen? ⟨w.heap.size + 1, 0, none⟩ = false ∧ W.cell? ⟨w.heap.size + 1 + 1, 0, none⟩ = some (.bool false) ∧ W.frozen? ⟨w.heap.size + 1 + 1, 0, none⟩ = false) ∧ (∀ x ∈ st, (mkS tS).Is W x.b x.m x.m x.f) ∧ Below w.heap.size w W from
        ⟨⟨fun j hj => (List.mem_append.1 hj).elim (hpre j) (fun e => by rw [List.mem_singleton] at e; subst e; exact hf), q0, q1, f1, q2, f2⟩, hM, hB⟩)
      clear hf hMx PK hM hpre
      gi_wp2_with (gi_at_lookup; refine look_in rfl rfl (mkS tS) rfl p rfl HX.out HPK.out ?_; rw [HF.out]; rw [(rfl : (mkS tS).vv ((none : Option ByteArray).getD (mkS tS).d) = .string ⟨#[]⟩), Option.isSome_none])
      exact ⟨KeepsFrom.refl _ _, Below.refl _ _, HI.out⟩
    | some v =>
      have HF := Aside0.mk hf
      have HX := Aside0.mk hMx
      have HPK := Aside0.mk PK
      have HP := Aside0.mk hpre
      clear hf hMx PK hM hpre
      gi_wp2_with (gi_at_lookup; refine look_in rfl rfl (mkS tS) rfl p rfl HX.out HPK.out ?_; rw [HF.out, Option.getD_some, vvS, Option.isSome_some])
      refine ⟨((KeepsOthers.setCell _ _ _).trans (KeepsOthers.setCell _ _ _)).from _, ⟨rfl, pre, x, v, rfl, HP.out, HF.out, ?_, ?_⟩, (hB.setCell (p := ⟨w.heap.size + 1, 0, none⟩) (by simp) _).setCell (p := ⟨w.heap.size + 1 + 1, 0, none⟩) (by simp; omega) _⟩
      · rw [cell_set_ne _ _ _ (by simp)]
        exact World.cell?_setCell_same' _ _ _ (by rw [q1]; rfl)
      · exact World.cell?_setCell_same' _ _ _ (by rw [cell_set_ne _ _ _ (by simp), q2]; rfl)
  case done =>
    rintro D ys W hD rfl ⟨⟨hne, q0, q1, f1, q2, f2⟩, hM, hB⟩ hK
    have HNE := Aside0.mk hne
    clear hne hM
    have HD := Aside0.mk (show w.heap.size + 4 ≤ D by omega)
    gi_wp2
    by_cases hp0 : p.size = 0
    · have HA := Aside0.mk (show askS st p = (⟨#[]⟩, true) by rw [ask_none HNE.out, decide_eq_true hp0])
      obtain rfl : p = ⟨#[]⟩ := by
        cases p with
        | mk d => congr 1; exact Array.eq_empty_of_size_eq_zero hp0
      have HE := Aside0.mk (ask_end w W D ⟨#[]⟩ true HD.out hB hK q1 q2)
      gi_region
      all_goals
        generalize (((W.setCell ⟨w.heap.size + 1, 0, none⟩ (.string ⟨#[]⟩)).setCell ⟨w.heap.size + 1 + 1, 0, none⟩ (.bool true)).drew) = W5 at HE ⊢
        gi_wp2
        refine ⟨by simp, .inl ⟨_, _, rfl, run_takeDeferred HE.out.1, ?_⟩⟩
        have hc4 := cell_kept HE.out.2.1 (grownBy_putObj' _ D (.deferred none)) (fun r e => by cases e; exact ⟨_, HE.out.1, rfl⟩)
        have hc5 := cell_kept HE.out.2.2.1 (grownBy_putObj' _ D (.deferred none)) (fun r e => by cases e; exact ⟨_, HE.out.1, rfl⟩)
        refine ⟨.tuple #[.string ⟨#[]⟩, .bool true], ?_, by rw [HA.out], HE.out.2.2.2.trans (belowK_b (w := w) (Nat.le_refl _) W5 D _ _ (by have := HD.out; omega) HE.out.1 rfl rfl)⟩
        simp [results, Tryd.f20, go_sem, hc4, hc5]
    · have HA := Aside0.mk (show askS st p = (⟨#[]⟩, false) by rw [ask_none HNE.out, decide_eq_false hp0])
      have p1 := ne_empty hp0
      have p2 := ne_empty2 hp0
      have HE := Aside0.mk (ask_end w W D ⟨#[]⟩ false HD.out hB hK q1 q2)
      gi_region
      all_goals
        generalize (((W.setCell ⟨w.heap.size + 1, 0, none⟩ (.string ⟨#[]⟩)).setCell ⟨w.heap.size + 1 + 1, 0, none⟩ (.bool false)).drew) = W5 at HE ⊢
        gi_wp2
        refine ⟨by simp, .inl ⟨_, _, rfl, run_takeDeferred HE.out.1, ?_⟩⟩
        have hc4 := cell_kept HE.out.2.1 (grownBy_putObj' _ D (.deferred none)) (fun r e => by cases e; exact ⟨_, HE.out.1, rfl⟩)
        have hc5 := cell_kept HE.out.2.2.1 (grownBy_putObj' _ D (.deferred none)) (fun r e => by cases e; exact ⟨_, HE.out.1, rfl⟩)
        refine ⟨.tuple #[.string ⟨#[]⟩, .bool false], ?_, by rw [HA.out], HE.out.2.2.2.trans (belowK_b (w := w) (Nat.le_refl _) W5 D _ _ (by have := HD.out; omega) HE.out.1 rfl rfl)⟩
        simp [results, Tryd.f20, go_sem, hc4, hc5]
  case stop =>
    rintro D c pre W hD ⟨k, hk, hke⟩ ⟨⟨rfl, ini, last, v, e1, e2, e3, q1, q2⟩, hB⟩ hK
    have HA := Aside0.mk (ask_some hk (hke ▸ e1) e2 e3)
    clear e1 e2 e3 hke
    gi_wp2
    refine ⟨by simp, .inl ⟨_, _, rfl, run_takeDeferred hK, ?_⟩⟩
    have hc4 := cell_kept q1 (grownBy_putObj' _ D (.deferred none)) (fun r e => by cases e; exact ⟨_, hK, rfl⟩)
    have hc5 := cell_kept q2 (grownBy_putObj' _ D (.deferred none)) (fun r e => by cases e; exact ⟨_, hK, rfl⟩)
    refine ⟨.tuple #[.string v, .bool true], ?_, by rw [HA.out], hB.trans (belowK_b (w := w) (Nat.le_refl _) W D _ _ (by omega) hK rfl rfl)⟩
    simp [results, Tryd.f20, go_sem, hc4, hc5]

theorem ask_calls {B g : Nat} {w : World} {st : List Sc} {p : ByteArray} (h : IsSc B w g st) (hl : st.length < 17000000000000) (hp : p.size ≤ 1048576) :
    Calls Tryd.prog 20 #[.pointer (some ⟨g, 0, none⟩), .string p] w fun e w' => e = .returned (.tuple #[.string (askS st p).1, .bool (askS st p).2]) ∧ Below w.heap.size w w' :=
  (callsIn_wide (n := 3)).1 (ask_in Fence.wide 3 trivial trivial trivial rfl (by omega) h hl hp)
end Go.Proofs.YticlppojbbocbaaDoor.Nm
