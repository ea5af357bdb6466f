/- names: scopes, as lists of what is bound in each; what the reference keeps: one list of triples. Plain. names: the reference's scopes, walked. names: the reference's Bind, walked. names: a deed, by both scopes. names: every deed is answered alike; the law NamesScopes, walked. -/
import Derived.Test.YticlppojbbocbaaDoorScopeM
import Derived.Test.YticlppojbbocbaaDoorNameRef
import Derived.Test.YticlppojbbocbaaDoorOwn4
import Derived.Deep.LoopGhost
import Derived.RegionTactic
import Derived.BigQuiet
import Derived.Test.YticlppojbbocbaaDoorPNamesScopesx2
import Derived.Test.YticlppojbbocbaaDoorNameLives
import Derived.Test.YticlppojbbocbaaDoorDeeds
namespace Go.Proofs.YticlppojbbocbaaDoor.Nm
set_option linter.unusedVariables false
set_option linter.unusedSimpArgs false
/-- What is bound in one scope. -/
abbrev Lvl := List (ByteArray × ByteArray)
/-- A prefix, what it stands for, in which scope. -/
abbrev Tri := ByteArray × ByteArray × Int
def tri (i : Nat) (x : ByteArray × ByteArray) : Tri := (x.1, x.2, (i : Int))
def flatF : Nat → List Lvl → List Tri
  | _, [] => []
  | i, l :: r => l.map (tri i) ++ flatF (i + 1) r
theorem flat_snoc : ∀ (a : List Lvl) (i : Nat) (l : Lvl), flatF i (a ++ [l]) = flatF i a ++ l.map (tri (i + a.length))
  | [], i, l => by simp [flatF]
  | x :: r, i, l => by
    rw [List.cons_append, flatF, flatF, flat_snoc r (i + 1) l, List.append_assoc, List.length_cons]
    congr 3
    congr 1
    omega
theorem flat_lt : ∀ (a : List Lvl) (i : Nat), ∀ y ∈ flatF i a, (i : Int) ≤ y.2.2 ∧ y.2.2 < (i : Int) + a.length
  | [], i, y, h => by cases h
  | x :: r, i, y, h => by
    rw [flatF, List.mem_append] at h
    rw [List.length_cons]
    rcases h with h | h
    · obtain ⟨z, _, rfl⟩ := List.mem_map.1 h
      show (i : Int) ≤ (i : Int) ∧ (i : Int) < _
      omega
    · have := flat_lt r (i + 1) y h
      omega
/-- A scope of the program and its list. -/
structure RelL (x : Sc) (l : Lvl) : Prop where
  m : x.m = l.length
  f : ∀ p, x.f p = (l.find? (fun y => decide (y.1 = p))).map Prod.snd
  ten : l.length ≤ 10
inductive RelS : List Sc → List Lvl → Prop
  | nil : RelS [] []
  | snoc {a : List Sc} {b : List Lvl} {x : Sc} {l : Lvl} : RelS a b → RelL x l → RelS (a ++ [x]) (b ++ [l])
theorem RelS.len {a : List Sc} {b : List Lvl} (h : RelS a b) : a.length = b.length := by
  induction h with
  | nil => rfl
  | snoc _ _ ih => rw [List.length_append, List.length_append, ih]; rfl
theorem RelS.emp {b : List Lvl} (h : RelS [] b) : b = [] := List.eq_nil_of_length_eq_zero h.len.symm
theorem RelS.last {a : List Sc} {x : Sc} {b : List Lvl} (h : RelS (a ++ [x]) b) : ∃ b' l, b = b' ++ [l] ∧ RelS a b' ∧ RelL x l := by
  generalize hc : a ++ [x] = c at h
  cases h with
  | nil => simp at hc
  | snoc h1 h2 =>
    obtain ⟨rfl, rfl⟩ := List.append_inj' hc (by simp) |>.imp id (fun h => by simpa using h)
    exact ⟨_, _, rfl, h1, h2⟩
theorem RelL.new (b : Nat) : RelL ⟨b, 0, fun _ => none⟩ [] := ⟨rfl, fun p => rfl, by simp⟩
theorem RelL.bind {x : Sc} {l : Lvl} (h : RelL x l) {p s : ByteArray} (h0 : bindE x p = 0) : RelL (bindF x p s) (l ++ [(p, s)]) := by
  have hn : x.f p = none := by
    unfold bindE at h0
    by_cases hs : (x.f p).isSome = true
    · rw [if_pos hs] at h0; cases h0
    · simpa using hs
  have hm : ¬ 10 ≤ x.m := by
    intro h10
    unfold bindE at h0
    rw [hn, if_neg (by simp), if_pos h10] at h0
    cases h0
  refine ⟨by show x.m + 1 = _; rw [h.m, List.length_append]; rfl, fun q => ?_, by rw [List.length_append]; have := h.m; simp; omega⟩
  show (if q = p then some s else x.f q) = _
  rw [List.find?_append]
  by_cases hq : q = p
  · subst hq
    rw [if_pos rfl]
    have h1 := h.f q
    rw [hn] at h1
    have h2 : l.find? (fun y => decide (y.1 = q)) = none := by
      cases hf : l.find? (fun y => decide (y.1 = q)) with
      | none => rfl
      | some z => rw [hf] at h1; cases h1
    rw [h2]
    simp
  · rw [if_neg hq, h.f q]
    have h2 : ([(p, s)] : Lvl).find? (fun y => decide (y.1 = q)) = none := by
      rw [List.find?_cons, decide_eq_false (show ¬ (p, s).1 = q from fun h => hq h.symm)]
      rfl
    rw [h2]
    simp
/-- What the reference answers. -/
def rAsk (L : List Tri) (p : ByteArray) : ByteArray × Bool :=
  match L.reverse.find? (fun y => decide (y.1 = p)) with
  | some y => (y.2.1, true)
  | none => (⟨#[]⟩, decide (p.size = 0))
def rDup (L : List Tri) (op : Int) (p : ByteArray) : Bool := L.any fun y => decide (y.2.2 = op) && decide (y.1 = p)
def rCnt (L : List Tri) (op : Int) : Nat := (L.filter fun y => decide (y.2.2 = op)).length
def rBindE (L : List Tri) (op : Int) (p s : ByteArray) : Int :=
  if op = 0 ∨ argsOk p s = false then 1 else if rDup L op p = true then 6 else if 10 ≤ rCnt L op then 7 else 0
theorem find_map_tri (l : Lvl) (i : Nat) (p : ByteArray) : (l.map (tri i)).find? (fun y => decide (y.1 = p)) = (l.find? (fun y => decide (y.1 = p))).map (tri i) := by
  induction l with
  | nil => rfl
  | cons x r ih =>
    rw [List.map_cons, List.find?_cons, List.find?_cons]
    by_cases h : x.1 = p
    · simp [tri, h]
    · simp only [tri, h, decide_false]
      exact ih
theorem RelS.any {st : List Sc} {Ls : List Lvl} (h : RelS st Ls) (hn : ∀ l ∈ Ls, (l.map Prod.fst).Nodup) (i : Nat) (p : ByteArray) :
    ((flatF i Ls).reverse.find? (fun y => decide (y.1 = p))).map (fun y => y.2.1) = st.reverse.findSome? (fun x => x.f p) := by
  induction h with
  | nil => rfl
  | @snoc a b x l h1 h2 ih =>
    have ih := ih (fun y hy => hn y (List.mem_append_left _ hy))
    have hl := hn l (by simp)
    rw [flat_snoc, List.reverse_append, List.find?_append, List.reverse_append, List.reverse_singleton, List.singleton_append, List.findSome?_cons, h2.f p]
    have hrev : (l.map (tri (i + b.length))).reverse.find? (fun y => decide (y.1 = p)) = (l.find? (fun y => decide (y.1 = p))).map (tri (i + b.length)) := by
      rw [← List.map_reverse, find_map_tri]
      congr 1
      clear ih h1 h2 hn
      induction l with
      | nil => rfl
      | cons z r ihr =>
        rw [List.map_cons, List.nodup_cons] at hl
        rw [List.reverse_cons, List.find?_append, ihr hl.2, List.find?_cons]
        by_cases hz : z.1 = p
        · have hno : r.find? (fun y => decide (y.1 = p)) = none := by
            rw [List.find?_eq_none]
            intro y hy
            rw [decide_eq_true_eq]
            intro hyp
            exact hl.1 (by rw [hz, ← hyp]; exact List.mem_map_of_mem (f := Prod.fst) hy)
          rw [hno]
          simp [hz]
        · simp [hz]
    rw [hrev]
    cases hf : l.find? (fun y => decide (y.1 = p)) with
    | none => simpa using ih
    | some z => rfl
theorem rAsk_is {st : List Sc} {Ls : List Lvl} (h : RelS st Ls) (hn : ∀ l ∈ Ls, (l.map Prod.fst).Nodup) (p : ByteArray) : rAsk (flatF 1 Ls) p = askS st p := by
  have h1 := h.any hn 1 p
  unfold rAsk askS
  rw [← h1]
  cases (flatF 1 Ls).reverse.find? (fun y => decide (y.1 = p)) <;> rfl
theorem filt_none {L : List Tri} {k : Int} (h : ∀ y ∈ L, y.2.2 < k) : L.filter (fun y => decide (y.2.2 = k)) = [] := by
  rw [List.filter_eq_nil_iff]
  intro y hy
  have := h y hy
  simp
  omega
theorem rBind_is {a : List Sc} {x : Sc} {b : List Lvl} {l : Lvl} (h1 : RelS a b) (h2 : RelL x l) (p s : ByteArray) (hok : argsOk p s = true) :
    rBindE (flatF 1 (b ++ [l])) (((b ++ [l]).length : Nat) : Int) p s = bindE x p := by
  have hL : flatF 1 (b ++ [l]) = flatF 1 b ++ l.map (tri (1 + b.length)) := flat_snoc b 1 l
  have hop : (((b ++ [l]).length : Nat) : Int) = ((1 + b.length : Nat) : Int) := by rw [List.length_append]; simp; omega
  have hlt : ∀ y ∈ flatF 1 b, y.2.2 < ((1 + b.length : Nat) : Int) := fun y hy => by have := flat_lt b 1 y hy; omega
  unfold rBindE bindE
  rw [hop, hL, if_neg (by rw [hok]; simp; omega)]
  have hd : rDup (flatF 1 b ++ l.map (tri (1 + b.length))) ((1 + b.length : Nat) : Int) p = (x.f p).isSome := by
    unfold rDup
    rw [List.any_append, h2.f p]
    have e1 : (flatF 1 b).any (fun y => decide (y.2.2 = ((1 + b.length : Nat) : Int)) && decide (y.1 = p)) = false := by
      rw [List.any_eq_false]
      intro y hy
      have := hlt y hy
      simp
      omega
    rw [e1, Bool.false_or, List.any_map]
    have e2 : ((fun y : Tri => decide (y.2.2 = ((1 + b.length : Nat) : Int)) && decide (y.1 = p)) ∘ tri (1 + b.length)) = fun y => decide (y.1 = p) := by
      funext y
      have h3 : decide ((tri (1 + b.length) y).2.2 = ((1 + b.length : Nat) : Int)) = true := decide_eq_true rfl
      show (decide ((tri (1 + b.length) y).2.2 = ((1 + b.length : Nat) : Int)) && decide ((tri (1 + b.length) y).1 = p)) = _
      rw [h3, Bool.true_and]
      rfl
    rw [e2]
    induction l with
    | nil => rfl
    | cons z r ih =>
      rw [List.any_cons, List.find?_cons]
      by_cases hz : z.1 = p
      · simp [hz]
      · have ih2 : r.any (fun y => decide (y.1 = p)) = ((r.find? (fun y => decide (y.1 = p))).map Prod.snd).isSome := by
          clear ih h1 h2 hL hop hlt e1 e2 hok
          induction r with
          | nil => rfl
          | cons u v ihv =>
            rw [List.any_cons, List.find?_cons]
            by_cases hu : u.1 = p
            · simp [hu]
            · simp only [hu, decide_false, Bool.false_or]
              exact ihv
        simp only [hz, decide_false, Bool.false_or]
        exact ih2
  have hc : rCnt (flatF 1 b ++ l.map (tri (1 + b.length))) ((1 + b.length : Nat) : Int) = x.m := by
    unfold rCnt
    rw [List.filter_append, filt_none hlt, List.nil_append, h2.m, List.filter_eq_self.2, List.length_map]
    intro y hy
    obtain ⟨z, _, rfl⟩ := List.mem_map.1 hy
    simp [tri]
  rw [hd, hc]
theorem rClose_is (b : List Lvl) (l : Lvl) : (flatF 1 (b ++ [l])).filter (fun y => decide (y.2.2 < (((b ++ [l]).length : Nat) : Int))) = flatF 1 b := by
  have hop : (((b ++ [l]).length : Nat) : Int) = ((1 + b.length : Nat) : Int) := by rw [List.length_append]; simp; omega
  rw [hop, flat_snoc, List.filter_append, List.filter_eq_self.2 (fun y hy => by have := flat_lt b 1 y hy; simp; omega), List.filter_eq_nil_iff.2, List.append_nil]
  intro y hy
  obtain ⟨z, _, rfl⟩ := List.mem_map.1 hy
  simp [tri]
/-- Where a prefix is bound once in each scope, it stays so. -/
theorem nodup_bind {x : Sc} {l : Lvl} (h : RelL x l) {p s : ByteArray} (hn : (l.map Prod.fst).Nodup) (h0 : bindE x p = 0) : ((l ++ [(p, s)]).map Prod.fst).Nodup := by
  rw [List.map_append, List.nodup_append]
  refine ⟨hn, by simp, fun a ha b hb hab => ?_⟩
  simp at hb
  subst hb; subst hab
  obtain ⟨z, hz, hze⟩ := List.mem_map.1 ha
  have hsome : (x.f a).isSome = true := by
    rw [h.f a]
    cases hf : l.find? (fun y => decide (y.1 = a)) with
    | some z => rfl
    | none =>
      rw [List.find?_eq_none] at hf
      exact absurd (decide_eq_true hze) (hf z hz)
  unfold bindE at h0
  rw [if_pos hsome] at h0
  cases h0
end Go.Proofs.YticlppojbbocbaaDoor.Nm

namespace Go.Proofs.YticlppojbbocbaaDoor.Nm
open Go Go.Lib Go.Shelf Go.RowKit Go.Proofs.YticlppojbbocbaaDoorW.PrintWords Go.Proofs.YticlppojbbocbaaDoorW.PrintLast Go.Proofs.YticlppojbbocbaaDoor.Own Go.Proofs.YticlppojbbocbaaDoor.Srcw Go.Proofs.YticlppojbbocbaaDoor.Tab
set_option linter.unusedVariables false
set_option linter.unusedSimpArgs false
def triC : List Tri → List Value
  | [] => []
  | y :: r => .string y.1 :: .string y.2.1 :: .int .i64 y.2.2 :: triC r
theorem triC_len : ∀ L : List Tri, (triC L).length = L.length * 3
  | [] => rfl
  | y :: r => by show (triC r).length + 1 + 1 + 1 = _; rw [triC_len r, List.length_cons]; omega
theorem triC_app : ∀ a b : List Tri, triC (a ++ b) = triC a ++ triC b
  | [], b => rfl
  | y :: r, b => by show _ :: _ :: _ :: triC (r ++ b) = _; rw [triC_app r b]; rfl
theorem triC_get : ∀ (L : List Tri) (i : Nat) (h : i < L.length), (triC L)[i * 3]? = some (.string L[i].1) ∧ (triC L)[i * 3 + 1]? = some (.string L[i].2.1) ∧ (triC L)[i * 3 + 2]? = some (.int .i64 L[i].2.2)
  | [], i, h => absurd h (Nat.not_lt_zero _)
  | y :: r, 0, h => ⟨rfl, rfl, rfl⟩
  | y :: r, i + 1, h => by
    have ih := triC_get r i (by rw [List.length_cons] at h; omega)
    have e : (i + 1) * 3 = i * 3 + 1 + 1 + 1 := by omega
    have e1 : (i + 1) * 3 + 1 = i * 3 + 1 + 1 + 1 + 1 := by omega
    have e2 : (i + 1) * 3 + 2 = i * 3 + 2 + 1 + 1 + 1 := by omega
    rw [e1, e2, e]
    show (triC r)[i * 3]? = _ ∧ (triC r)[i * 3 + 1]? = _ ∧ (triC r)[i * 3 + 2]? = _
    exact ih
theorem infoPair : (Tryd.prog.info? 62).map (fun i => (i.zero, i.size, i.bytes)) = some (some (.agg #[.string ⟨#[]⟩, .string ⟨#[]⟩, .int .i64 0]), 3, 40) := by kernel_rfl
def rT (t : Option Nat) : Prop := t = some 35 ∨ t = some 62
/-- The reference's scopes at block g. -/
structure RAt (F : Nat → Prop) (w : World) (g : Nat) (L : List Tri) (op : Int) : Prop where
  fb : F g
  core : ∃ lv, w.heap[g]? = some (.cells #[lv, .int .i64 op] 35 (0, 0)) ∧ Hp.Row F w 62 3 lv L.length (triC L)
section
variable {F F' G : Nat → Prop} {w w1 : World} {g : Nat} {L : List Tri} {op : Int} {T : Option Nat → Prop}
theorem RAt.mono (h : RAt F w g L op) (hF : ∀ k, F k → F' k) : RAt F' w g L op := by
  obtain ⟨lv, h1, h2⟩ := h.core
  exact ⟨hF _ h.fb, ⟨lv, h1, h2.mono hF⟩⟩
theorem RAt.below (h : RAt F w g L op) (hb : Below w.heap.size w w1) : RAt F w1 g L op := by
  obtain ⟨lv, h1, h2⟩ := h.core
  exact ⟨h.fb, ⟨lv, (hb.block g (blk_lt h1)).trans h1, h2.below hb⟩⟩
theorem RAt.ch (h : RAt F w g L op) (hc : Hp.Ch T G w w1) (t1 : ¬ T (some 35)) (t2 : ¬ T (some 62)) : RAt F w1 g L op := by
  obtain ⟨lv, h1, h2⟩ := h.core
  exact ⟨h.fb, ⟨lv, hc.blk h1 (fun hx => t1 hx.2), h2.ch hc t2⟩⟩
end
theorem ne_str {a b : ByteArray} (h : a ≠ b) : ¬ a.toList = b.toList := fun e => h (by
  rw [ByteArray.toList_eq, ByteArray.toList_eq] at e
  exact WideShapes.bytes_inj e)
theorem beq_str (a b : ByteArray) : (a.toList == b.toList) = decide (a = b) := by
  by_cases h : a = b
  · subst h
    rw [decide_eq_true rfl]
    exact beq_self_eq_true _
  · rw [decide_eq_false h, beq_eq_false_iff_ne]
    exact ne_str h
theorem nil_str (a : ByteArray) : a.toList = [] ↔ a.size = 0 := by
  rw [ByteArray.toList_eq]
  constructor
  · intro h
    have := congrArg List.length h
    simpa using this
  · intro h
    exact List.eq_nil_of_length_eq_zero (by simpa using h)
theorem isEmpty_str (a : ByteArray) : decide (a.size = 0) = a.toList.isEmpty := by
  by_cases h : a.size = 0
  · rw [decide_eq_true h, (nil_str a).2 h]; rfl
  · rw [decide_eq_false h]
    cases hl : a.toList with
    | nil => exact absurd ((nil_str a).1 hl) h
    | cons x r => rfl
theorem rAsk_snoc (M : List Tri) (y : Tri) (p : ByteArray) : rAsk (M ++ [y]) p = if y.1 = p then (y.2.1, true) else rAsk M p := by
  unfold rAsk
  rw [List.reverse_append, List.reverse_singleton, List.singleton_append, List.find?_cons]
  by_cases h : y.1 = p
  · simp [h]
  · simp [h]
set_option maxHeartbeats 4000000 in
set_option maxRecDepth 100000 in
theorem raskw_calls {F : Nat → Prop} {w : World} {g : Nat} {L : List Tri} {op : Int} (p : ByteArray) (h : RAt F w g L op) (hl : L.length ≤ 100000000000) :
    Calls Tryd.prog 24 #[.pointer (some ⟨g, 0, none⟩), .string p] w fun e w' => e = .returned (.tuple #[.string (rAsk L p).1, .bool (rAsk L p).2]) ∧ w = w' := by
  obtain ⟨lv, h1, h2⟩ := h.core
  obtain ⟨A, n, hv, hn, _⟩ := h2.slice
  subst hv
  have H2 := Aside0.mk h2
  have HL := Aside0.mk hl
  have c0 : w.cell? ⟨g, 0, none⟩ = some (.slice A L.length n) := (blk_cell h1 0).trans rfl
  have tw0 : wrap64 ((L.length : Int) - 1) = (L.length : Int) - 1 := w64 (by omega) (by omega)
  clear h h1 h2 hl hn
  go_enter Tryd.func24, Tryd.ntmps24
  go_wp2
  go_loopg [6] (L.length + 1) (fun gk v6 wr => ∃ (k : Nat), v6 = .int .i64 ((k : Int) - 1) ∧ Aside0 (k ≤ L.length) ∧ Aside0 (k < gk) ∧ Aside0 (rAsk L p = rAsk (L.take k) p) ∧ w = wr)
  case atStart => exact ⟨L.length, by rw [tw0], ⟨Nat.le_refl _⟩, ⟨by omega⟩, ⟨by rw [List.take_length]⟩, rfl⟩
  case round =>
    obtain ⟨k, rfl, P1, P2, P3, rfl⟩ := hrel
    cases gk with
    | zero => exact absurd P2.out (by omega)
    | succ k1 =>
    have hp1 := P1.out
    have hll := HL.out
    cases k with
    | zero =>
      have t1 : decide ((0 : Int) ≤ ((0 : Nat) : Int) - 1) = false := by decide
      have HZ := Aside0.mk (show rAsk L p = (⟨#[]⟩, p.toList.isEmpty) by rw [P3.out, List.take_zero, ← isEmpty_str]; rfl)
      clear hp1 hll
      go_wp2
      go_ret2
      rw [HZ.out]
      exact ⟨rfl, rfl⟩
    | succ j =>
      have hj : j < L.length := by omega
      obtain ⟨b, o, c, hv, _, _, hcell, _⟩ := H2.out.open_ (by omega)
      injection hv with e1 e2 e3
      subst e1; subst e3
      clear e2
      obtain ⟨g0, g1, g2⟩ := triC_get L j hj
      have x0 := hcell _ _ g0
      have x1 := hcell _ _ g1
      have HTK := Aside0.mk (List.take_succ_eq_append_getElem hj)
      generalize L[j] = y at x0 x1 HTK
      rw [← Nat.add_assoc] at x1
      have e7 : ((j + 1 : Nat) : Int) - 1 = (j : Int) := by omega
      have t1 : decide ((0 : Int) ≤ (j : Int)) = true := decide_eq_true (by omega)
      have y3 : (0 : Int) ≤ (j : Int) := by omega
      have y4 : (j : Int) < (L.length : Int) := by omega
      have tw : wrap64 ((j : Int) - 1) = (j : Int) - 1 := w64 (by omega) (by omega)
      rw [e7]
      clear g0 g1 g2 hcell hp1 hll e7
      by_cases hq : y.1 = p
      · have HZ := Aside0.mk (show rAsk L p = (y.2.1, true) by rw [P3.out, HTK.out, rAsk_snoc, if_pos hq])
        rw [hq] at x0
        clear hq
        go_wp2
        go_ret2
        rw [HZ.out]
        exact ⟨rfl, rfl⟩
      · have HZ := Aside0.mk (show rAsk L p = rAsk (L.take j) p by rw [P3.out, HTK.out, rAsk_snoc, if_neg hq])
        have hq1 := ne_str hq
        have hq2 : (y.1.toList == p.toList) = false := by rw [beq_str]; exact decide_eq_false hq
        clear hq
        go_wp2
        go_roundg k1
        case measure => have := P2.out; omega
        case rel => exact ⟨j, by go_num, ⟨by omega⟩, ⟨by have := P2.out; omega⟩, HZ, rfl⟩
theorem tri_one (y : Tri) : triC [y] = [.string y.1, .string y.2.1, .int .i64 y.2.2] := rfl
theorem tri_cell (y : Tri) : ∀ u ∈ [Value.string y.1, .string y.2.1, .int .i64 y.2.2], u.oneCell' = true := by
  intro u hu
  simp only [List.mem_cons, List.not_mem_nil, or_false] at hu
  rcases hu with rfl | rfl | rfl <;> rfl
def kept (L : List Tri) (op : Int) : List Tri := L.filter (fun y => decide (y.2.2 < op))
theorem kept_len (L : List Tri) (op : Int) : (kept L op).length ≤ L.length := List.length_filter_le _ _
theorem kept_snoc (M : List Tri) (y : Tri) (op : Int) : kept (M ++ [y]) op = if y.2.2 < op then kept M op ++ [y] else kept M op := by
  unfold kept
  rw [List.filter_append, List.filter_cons]
  by_cases h : y.2.2 < op
  · simp [h]
  · simp [h]
set_option maxHeartbeats 4000000 in
set_option maxRecDepth 100000 in
theorem rclose_none {F : Nat → Prop} {w : World} {g : Nat} {L : List Tri} (h : RAt F w g L 0) :
    Calls Tryd.prog 34 #[.pointer (some ⟨g, 0, none⟩)] w fun e w' => e = .returned (.int .i64 21) ∧ w = w' := by
  obtain ⟨lv, h1, h2⟩ := h.core
  have c1 : w.cell? ⟨g, 1, none⟩ = some (.int .i64 0) := (blk_cell h1 1).trans rfl
  clear h h1 h2
  go_enter Tryd.func34, Tryd.ntmps34
  go_wp2
  go_ret
  exact ⟨rfl, rfl⟩
set_option maxHeartbeats 8000000 in
set_option maxRecDepth 100000 in
theorem rclose_some {F : Nat → Prop} {w : World} {g : Nat} {L : List Tri} {op : Int} (h : RAt F w g L op) (hF : ∀ k, w.heap.size ≤ k → F k) (hl : L.length ≤ 1000000000000) (h0 : 0 < op) (h1m : op ≤ 1000000000000) :
    Calls Tryd.prog 34 #[.pointer (some ⟨g, 0, none⟩)] w fun e w' => e = .returned (.int .i64 0) ∧ RAt F w' g (kept L op) (op - 1) ∧ Hp.Ch rT F w w' := by
  obtain ⟨lv, h1, h2⟩ := h.core
  obtain ⟨A, n, hv, hn, _⟩ := h2.slice
  subst hv
  have H := Aside0.mk h
  have H1 := Aside0.mk h1
  have H2 := Aside0.mk h2
  have HL := Aside0.mk hl
  have HF := Aside0.mk hF
  have c0 : w.cell? ⟨g, 0, none⟩ = some (.slice A L.length n) := (blk_cell h1 0).trans rfl
  have c1 : w.cell? ⟨g, 1, none⟩ = some (.int .i64 op) := (blk_cell h1 1).trans rfl
  have z1 : (op == 0) = false := by rw [beq_eq_false_iff_ne]; omega
  have z2 : decide (op = 0) = false := decide_eq_false (by omega)
  have two : wrap64 (op - 1) = op - 1 := w64 (by omega) (by omega)
  clear h h1 h2 hl hn hF h0 h1m
  go_enter Tryd.func34, Tryd.ntmps34
  go_wp2
  go_loopg [3, 4] (L.length + 1) (fun gk v3 v4 wr => ∃ (i : Nat), v4 = .int .i64 i ∧ Aside0 (i ≤ L.length) ∧ Aside0 (L.length - i < gk) ∧ Aside0 (Hp.Row (fun k => w.heap.size ≤ k) wr 62 3 v3 (kept (L.take i) op).length (triC (kept (L.take i) op))) ∧ Aside0 (Below w.heap.size w wr))
  case atStart => exact ⟨0, rfl, ⟨Nat.zero_le _⟩, ⟨by omega⟩, ⟨Hp.Row.nil _ _ _ _⟩, ⟨Below.refl _ _⟩⟩
  case round =>
    obtain ⟨i, rfl, P1, P2, P3, P4⟩ := hrel
    cases gk with
    | zero => exact absurd P2.out (by omega)
    | succ k1 =>
    have hp1 := P1.out
    have hll := HL.out
    have HG := Aside0.mk ((P4.out.block g (blk_lt H1.out)).trans H1.out)
    have d0 : wr.cell? ⟨g, 0, none⟩ = some (.slice A L.length n) := (blk_cell HG.out 0).trans rfl
    have d1 : wr.cell? ⟨g, 1, none⟩ = some (.int .i64 op) := (blk_cell HG.out 1).trans rfl
    by_cases hlt : i < L.length
    · obtain ⟨b, o, c, hv, _, _, hcell, _⟩ := (H2.out.below P4.out).open_ (by omega)
      injection hv with e1 e2 e3
      subst e1; subst e3
      clear e2
      obtain ⟨g0, g1, g2⟩ := triC_get L i hlt
      have x0 := hcell _ _ g0
      have x1 := hcell _ _ g1
      have x2 := hcell _ _ g2
      have HTK := Aside0.mk (List.take_succ_eq_append_getElem hlt)
      generalize L[i] = y at x0 x1 x2 HTK
      rw [← Nat.add_assoc] at x1 x2
      have t1 : decide ((i : Int) < (L.length : Int)) = true := decide_eq_true (by omega)
      have t2 : decide (i < L.length) = true := decide_eq_true hlt
      have tw : wrap64 ((i : Int) + 1) = (i : Int) + 1 := w64 (by omega) (by omega)
      have y3 : (0 : Int) ≤ (i : Int) := by omega
      have y4 : (i : Int) < (L.length : Int) := by omega
      have HKL := Aside0.mk (show (kept (L.take i) op).length ≤ 1000000000000 from Nat.le_trans (kept_len _ _) (by rw [List.length_take]; omega))
      clear g0 g1 g2 hcell hp1 hll
      by_cases hq : y.2.2 < op
      · have HK := Aside0.mk (show kept (L.take (i + 1)) op = kept (L.take i) op ++ [y] by rw [HTK.out, kept_snoc, if_pos hq])
        have q1 : decide (y.2.2 < op) = true := decide_eq_true hq
        clear hq
        go_wp2
        go_quiet (fail)
        have DB := Aside0.mk (pw_below_drewN (Below.refl wr.heap.size wr) nq)
        have d0 : (wr.drewN nq).cell? ⟨g, 0, none⟩ = some (.slice (some ⟨b, o, none⟩) L.length n) := d0
        have x0 : (wr.drewN nq).cell? ⟨b, o + i * 3, none⟩ = some (.string y.1) := x0
        have x1 : (wr.drewN nq).cell? ⟨b, o + i * 3 + 1, none⟩ = some (.string y.2.1) := x1
        have x2 : (wr.drewN nq).cell? ⟨b, o + i * 3 + 2, none⟩ = some (.int .i64 y.2.2) := x2
        generalize wr.drewN nq = w3 at DB d0 x0 x1 x2 ⊢
        have R3 := Aside0.mk (P3.out.below DB.out)
        have B3 := Aside0.mk (P4.out.trans (DB.out.mono P4.out.size))
        go_wp2_with ((with_reducible refine gate_builtin (b := .append) (xs := #[.tmp 32, .tmp 40]) rfl ?_); at_builtin; refine Hp.row_append rfl (.tmp 32) (.tmp 40) 33 62 (.agg #[.string ⟨#[]⟩, .string ⟨#[]⟩, .int .i64 0]) 3 40 rfl Tryd.underlying33 infoPair rfl (by decide) _ (kept (L.take i) op).length (triC (kept (L.take i) op)) [.string y.1, .string y.2.1, .int .i64 y.2.2] rfl rfl rfl (tri_cell y) R3.out (by have := HKL.out; omega) (by have := HKL.out; unfold maxLen; omega) ?_; intro v5 w5 hr5 hc5; have R5 := Aside0.mk hr5; have C5 := Aside0.mk hc5; clear hr5 hc5)
        go_roundg k1
        case measure => have := P2.out; omega
        case rel =>
          refine ⟨i + 1, by go_num, ⟨by omega⟩, ⟨by have := P2.out; omega⟩, ⟨?_⟩, ⟨B3.out.trans (C5.out.below (B := w.heap.size) (fun _ h => h) B3.out.size)⟩⟩
          rw [HK.out, triC_app, tri_one, List.length_append, List.length_singleton]
          exact R5.out.mono (fun k hk => by rcases hk with hk | hk; exact hk; exact Nat.le_trans B3.out.size hk)
      · have HK := Aside0.mk (show kept (L.take (i + 1)) op = kept (L.take i) op by rw [HTK.out, kept_snoc, if_neg hq])
        have q1 : decide (y.2.2 < op) = false := decide_eq_false hq
        clear hq
        go_wp2
        go_quiet (fail)
        go_wp2
        go_roundg k1
        case measure => have := P2.out; omega
        case rel =>
          have DB := pw_below_drewN (Below.refl wr.heap.size wr) nq
          refine ⟨i + 1, by go_num, ⟨by omega⟩, ⟨by have := P2.out; omega⟩, ⟨?_⟩, ⟨P4.out.trans (DB.mono P4.out.size)⟩⟩
          rw [HK.out]
          exact P3.out.below DB
    · have hi : i = L.length := by omega
      have t1 : decide ((i : Int) < (L.length : Int)) = false := decide_eq_false (by omega)
      have t2 : decide (i < L.length) = false := decide_eq_false (by omega)
      have R3 := Aside0.mk (show Hp.Row (fun k => w.heap.size ≤ k) wr 62 3 u3 (kept L op).length (triC (kept L op)) by have h := P3.out; rw [hi, List.take_length] at h; exact h)
      have f0 := blk_frozen HG.out 0
      have f1 := blk_frozen HG.out 1
      obtain ⟨A3, n3, hv3, _, _⟩ := R3.out.slice
      clear hi hp1 hll P3
      subst hv3
      go_wp2
      go_ret
      have hc1 : Hp.Ch (fun t => t = some 35) F wr (wr.setCell ⟨g, 0, none⟩ (.slice A3 (kept L op).length n3)) := Hp.Ch.set (T := fun t => t = some 35) HG.out H.out.fb rfl 0 _
      have hb1 : (wr.setCell ⟨g, 0, none⟩ (.slice A3 (kept L op).length n3)).heap[g]? = some (.cells #[(.slice A3 (kept L op).length n3), .int .i64 op] 35 (0, 0)) := blk_put HG.out 0 _ rfl
      have hc2 : Hp.Ch (fun t => t = some 35) F (wr.setCell ⟨g, 0, none⟩ (.slice A3 (kept L op).length n3)) ((wr.setCell ⟨g, 0, none⟩ (.slice A3 (kept L op).length n3)).setCell ⟨g, 1, none⟩ (.int .i64 (op - 1))) := Hp.Ch.set (T := fun t => t = some 35) hb1 H.out.fb rfl 1 _
      refine ⟨rfl, ⟨H.out.fb, ⟨(.slice A3 (kept L op).length n3), blk_put (cs' := #[(.slice A3 (kept L op).length n3), .int .i64 (op - 1)]) hb1 1 _ rfl, ?_⟩⟩, (Hp.Ch.of_below P4.out).trans (((hc1.mono (fun t ht => .inl ht) (fun _ h => Hp.ext_of h))).trans (hc2.mono (fun t ht => .inl ht) (fun _ h => Hp.ext_of (Hp.ext_of h))))⟩
      exact ((R3.out.ch hc1 (by decide)).ch hc2 (by decide)).mono (fun k hk => HF.out k hk)
end Go.Proofs.YticlppojbbocbaaDoor.Nm

namespace Go.Proofs.YticlppojbbocbaaDoor.Nm
open Go Go.Lib Go.Shelf Go.RowKit Go.Proofs.YticlppojbbocbaaDoorW.PrintWords Go.Proofs.YticlppojbbocbaaDoorW.PrintLast Go.Proofs.YticlppojbbocbaaDoor.Own Go.Proofs.YticlppojbbocbaaDoor.Srcw Go.Proofs.YticlppojbbocbaaDoor.Tab Go.Proofs.YticlppojbbocbaaDoor.PNamesKinds
set_option linter.unusedVariables false
set_option linter.unusedSimpArgs false
theorem rDup_snoc (M : List Tri) (y : Tri) (op : Int) (p : ByteArray) : rDup (M ++ [y]) op p = (rDup M op p || (decide (y.2.2 = op) && decide (y.1 = p))) := by
  unfold rDup
  rw [List.any_append]
  simp
theorem rCnt_snoc (M : List Tri) (y : Tri) (op : Int) : rCnt (M ++ [y]) op = if y.2.2 = op then rCnt M op + 1 else rCnt M op := by
  unfold rCnt
  rw [List.filter_append, List.filter_cons]
  by_cases h : y.2.2 = op
  · simp [h]
  · simp [h]
theorem rCnt_le (M : List Tri) (op : Int) : rCnt M op ≤ M.length := List.length_filter_le _ _
theorem rDup_more {L : List Tri} {op : Int} {p : ByteArray} (i : Nat) (h : rDup (L.take i) op p = true) : rDup L op p = true := by
  unfold rDup at *
  rw [List.any_eq_true] at *
  obtain ⟨y, hy, hh⟩ := h
  exact ⟨y, List.mem_of_mem_take hy, hh⟩
theorem args_bad {p s : ByteArray} : argsOk p s = false → (¬ p.toList = [] ∧ localL p.data.toList = false) ∨ (¬ s.toList = [] ∧ spaceL s.data.toList = false) ∨ (s.toList = [] ∧ ¬ p.toList = []) := by
  unfold argsOk
  rw [nil_str, nil_str]
  generalize localL p.data.toList = a
  generalize spaceL s.data.toList = b
  generalize p.size = x
  generalize s.size = y
  intro h
  cases a <;> cases b <;> by_cases hx : x = 0 <;> by_cases hy : y = 0 <;> simp_all
/-- What Bind answers where its arguments are right. -/
def rBindG (L : List Tri) (op : Int) (p : ByteArray) : Int := if rDup L op p = true then 6 else if 10 ≤ rCnt L op then 7 else 0
def RBindPost (F : Nat → Prop) (w : World) (g : Nat) (L : List Tri) (op : Int) (p s : ByteArray) (e : Ending) (w' : World) : Prop :=
  e = .returned (.int .i64 (rBindG L op p)) ∧ RAt F w' g (if rBindG L op p = 0 then L ++ [(p, s, op)] else L) op ∧ Hp.Ch rT F w w'
set_option maxHeartbeats 16000000 in
set_option maxRecDepth 100000 in
theorem rbind_bad {F : Nat → Prop} {w : World} {g : Nat} {L : List Tri} {op : Int} (p s : ByteArray) (h : RAt F w g L op) (hF : ∀ k, w.heap.size ≤ k → F k) (hl : L.length ≤ 1000000000000) (hss : s.size ≤ 1048576) (hbad : op = 0 ∨ argsOk p s = false) :
    Calls Tryd.prog 33 #[.pointer (some ⟨g, 0, none⟩), .string p, .string s] w (fun e w' => e = .returned (.int .i64 1) ∧ Below w.heap.size w w') := by
  obtain ⟨lv, h1, h2⟩ := h.core
  obtain ⟨A, n, hv, hn, _⟩ := h2.slice
  subst hv
  have H := Aside0.mk h
  have H1 := Aside0.mk h1
  have H2 := Aside0.mk h2
  have HL := Aside0.mk hl
  have HF := Aside0.mk hF
  have HSS := Aside0.mk hss
  have c0 : w.cell? ⟨g, 0, none⟩ = some (.slice A L.length n) := (blk_cell h1 0).trans rfl
  have c1 : w.cell? ⟨g, 1, none⟩ = some (.int .i64 op) := (blk_cell h1 1).trans rfl
  have hbad2 := hbad.imp id args_bad
  clear h h1 h2 hl hn hF hss hbad
  by_cases z0 : op = 0
  · subst z0
    clear hbad2
    obtain ⟨b1, hb1⟩ : ∃ y, localL p.data.toList = y := ⟨_, rfl⟩
    obtain ⟨b2, hb2⟩ : ∃ y, spaceL s.data.toList = y := ⟨_, rfl⟩
    have HPL := Aside0.mk hb1
    have HSL := Aside0.mk hb2
    clear hb1 hb2
    go_enter Tryd.func33, Tryd.ntmps33
    go_wp2_with (first
      | (go_at_call 12; refine (rlocal_calls p w).mono ?_; rintro e w1 ⟨rfl, hb⟩; rw [HPL.out]; have B1 := Aside0.mk hb; have HG1 := Aside0.mk ((hb.block g (blk_lt H1.out)).trans H1.out); clear hb c0 c1)
      | (go_at_call 14; refine (rspace_calls s (by have := HSS.out; omega) w1).mono ?_; rintro e w2 ⟨rfl, hb⟩; rw [HSL.out]; have B2 := Aside0.mk (B1.out.trans (hb.mono B1.out.size)); have HG2 := Aside0.mk ((hb.block g (blk_lt HG1.out)).trans HG1.out); have c0 : w2.cell? ⟨g, 0, none⟩ = some (.slice A L.length n) := (blk_cell HG2.out 0).trans rfl; have c1 : w2.cell? ⟨g, 1, none⟩ = some (.int .i64 0) := (blk_cell HG2.out 1).trans rfl; clear hb))
    go_ret
    exact ⟨rfl, B2.out⟩
  have z1 : (op == 0) = false := by rw [beq_eq_false_iff_ne]; exact z0
  have z2 : decide (op = 0) = false := decide_eq_false z0
  have hbad3 := hbad2.resolve_left z0
  clear hbad2 z0
  by_cases hp : p.toList = []
  · have hs3 : ¬ s.toList = [] ∧ spaceL s.data.toList = false := by
      rcases hbad3 with h | h | h
      · exact absurd hp h.1
      · exact h
      · exact absurd hp h.2
    obtain ⟨hs, hb2⟩ := hs3
    clear hbad3
    have pe1 : p.toList.isEmpty = true := by rw [hp]; rfl
    have se1 : s.toList.isEmpty = false := by rw [List.isEmpty_eq_false_iff]; exact hs
    obtain ⟨b1, hb1⟩ : ∃ y, localL p.data.toList = y := ⟨_, rfl⟩
    have HPL := Aside0.mk hb1
    have HSL := Aside0.mk hb2
    clear hb1 hb2
    go_enter Tryd.func33, Tryd.ntmps33
    go_wp2_with (first
      | (go_at_call 12; refine (rlocal_calls p w).mono ?_; rintro e w1 ⟨rfl, hb⟩; rw [HPL.out]; have B1 := Aside0.mk hb; have HG1 := Aside0.mk ((hb.block g (blk_lt H1.out)).trans H1.out); clear hb c0 c1)
      | (go_at_call 14; refine (rspace_calls s (by have := HSS.out; omega) w1).mono ?_; rintro e w2 ⟨rfl, hb⟩; rw [HSL.out]; have B2 := Aside0.mk (B1.out.trans (hb.mono B1.out.size)); have HG2 := Aside0.mk ((hb.block g (blk_lt HG1.out)).trans HG1.out); have c0 : w2.cell? ⟨g, 0, none⟩ = some (.slice A L.length n) := (blk_cell HG2.out 0).trans rfl; have c1 : w2.cell? ⟨g, 1, none⟩ = some (.int .i64 op) := (blk_cell HG2.out 1).trans rfl; clear hb))
    go_ret
    exact ⟨rfl, B2.out⟩
  · have pe1 : p.toList.isEmpty = false := by rw [List.isEmpty_eq_false_iff]; exact hp
    cases hb1 : localL p.data.toList with
    | false =>
      obtain ⟨b2, hb2⟩ : ∃ y, spaceL s.data.toList = y := ⟨_, rfl⟩
      have HPL := Aside0.mk hb1
      have HSL := Aside0.mk hb2
      clear hb1 hb2 hbad3
      go_enter Tryd.func33, Tryd.ntmps33
      go_wp2_with (first
        | (go_at_call 12; refine (rlocal_calls p w).mono ?_; rintro e w1 ⟨rfl, hb⟩; rw [HPL.out]; have B1 := Aside0.mk hb; have HG1 := Aside0.mk ((hb.block g (blk_lt H1.out)).trans H1.out); clear hb c0 c1)
        | (go_at_call 14; refine (rspace_calls s (by have := HSS.out; omega) w1).mono ?_; rintro e w2 ⟨rfl, hb⟩; rw [HSL.out]; have B2 := Aside0.mk (B1.out.trans (hb.mono B1.out.size)); have HG2 := Aside0.mk ((hb.block g (blk_lt HG1.out)).trans HG1.out); have c0 : w2.cell? ⟨g, 0, none⟩ = some (.slice A L.length n) := (blk_cell HG2.out 0).trans rfl; have c1 : w2.cell? ⟨g, 1, none⟩ = some (.int .i64 op) := (blk_cell HG2.out 1).trans rfl; clear hb))
      go_ret
      exact ⟨rfl, B2.out⟩
    | true =>
      have HPL := Aside0.mk hb1
      by_cases hs : s.toList = []
      · have se1 : s.toList.isEmpty = true := by rw [hs]; rfl
        obtain ⟨b2, hb2⟩ : ∃ y, spaceL s.data.toList = y := ⟨_, rfl⟩
        have HSL := Aside0.mk hb2
        clear hb1 hb2 hbad3
        go_enter Tryd.func33, Tryd.ntmps33
        go_wp2_with (first
          | (go_at_call 12; refine (rlocal_calls p w).mono ?_; rintro e w1 ⟨rfl, hb⟩; rw [HPL.out]; have B1 := Aside0.mk hb; have HG1 := Aside0.mk ((hb.block g (blk_lt H1.out)).trans H1.out); clear hb c0 c1)
          | (go_at_call 14; refine (rspace_calls s (by have := HSS.out; omega) w1).mono ?_; rintro e w2 ⟨rfl, hb⟩; rw [HSL.out]; have B2 := Aside0.mk (B1.out.trans (hb.mono B1.out.size)); have HG2 := Aside0.mk ((hb.block g (blk_lt HG1.out)).trans HG1.out); have c0 : w2.cell? ⟨g, 0, none⟩ = some (.slice A L.length n) := (blk_cell HG2.out 0).trans rfl; have c1 : w2.cell? ⟨g, 1, none⟩ = some (.int .i64 op) := (blk_cell HG2.out 1).trans rfl; clear hb))
        go_ret
        exact ⟨rfl, B2.out⟩
      · have se1 : s.toList.isEmpty = false := by rw [List.isEmpty_eq_false_iff]; exact hs
        have hb2 : spaceL s.data.toList = false := by
          rcases hbad3 with h | h | h
          · rw [hb1] at h; cases h.2
          · exact h.2
          · exact absurd h.1 hs
        have HSL := Aside0.mk hb2
        clear hb1 hb2 hbad3
        go_enter Tryd.func33, Tryd.ntmps33
        go_wp2_with (first
          | (go_at_call 12; refine (rlocal_calls p w).mono ?_; rintro e w1 ⟨rfl, hb⟩; rw [HPL.out]; have B1 := Aside0.mk hb; have HG1 := Aside0.mk ((hb.block g (blk_lt H1.out)).trans H1.out); clear hb c0 c1)
          | (go_at_call 14; refine (rspace_calls s (by have := HSS.out; omega) w1).mono ?_; rintro e w2 ⟨rfl, hb⟩; rw [HSL.out]; have B2 := Aside0.mk (B1.out.trans (hb.mono B1.out.size)); have HG2 := Aside0.mk ((hb.block g (blk_lt HG1.out)).trans HG1.out); have c0 : w2.cell? ⟨g, 0, none⟩ = some (.slice A L.length n) := (blk_cell HG2.out 0).trans rfl; have c1 : w2.cell? ⟨g, 1, none⟩ = some (.int .i64 op) := (blk_cell HG2.out 1).trans rfl; clear hb))
        go_ret
        exact ⟨rfl, B2.out⟩
set_option maxHeartbeats 16000000 in
set_option maxRecDepth 100000 in
theorem rbind_a {F : Nat → Prop} {w : World} {g : Nat} {L : List Tri} {op : Int} (p s : ByteArray) (h : RAt F w g L op) (hF : ∀ k, w.heap.size ≤ k → F k) (hl : L.length ≤ 1000000000000) (hss : s.size ≤ 1048576) (hp : p.toList = []) (hs : s.toList = []) (h0 : op ≠ 0) (h0m : op ≤ 1000000000000) :
    Calls Tryd.prog 33 #[.pointer (some ⟨g, 0, none⟩), .string p, .string s] w (RBindPost F w g L op p s) := by
  obtain ⟨lv, h1, h2⟩ := h.core
  obtain ⟨A, n, hv, hn, _⟩ := h2.slice
  subst hv
  have H := Aside0.mk h
  have H1 := Aside0.mk h1
  have H2 := Aside0.mk h2
  have HL := Aside0.mk hl
  have HF := Aside0.mk hF
  have HSS := Aside0.mk hss
  have c0 : w.cell? ⟨g, 0, none⟩ = some (.slice A L.length n) := (blk_cell h1 0).trans rfl
  have c1 : w.cell? ⟨g, 1, none⟩ = some (.int .i64 op) := (blk_cell h1 1).trans rfl
  have z1 : (op == 0) = false := by rw [beq_eq_false_iff_ne]; exact h0
  have z2 : decide (op = 0) = false := decide_eq_false h0
  have pe1 : p.toList.isEmpty = true := by rw [hp]; rfl
  have se1 : s.toList.isEmpty = true := by rw [hs]; rfl
  obtain ⟨b1, hb1⟩ : ∃ y, localL p.data.toList = y := ⟨_, rfl⟩
  obtain ⟨b2, hb2⟩ : ∃ y, spaceL s.data.toList = y := ⟨_, rfl⟩
  have HPL := Aside0.mk hb1
  have HSL := Aside0.mk hb2
  clear hb1 hb2
  clear h h1 h2 hl hn hF hss h0 h0m
  go_enter Tryd.func33, Tryd.ntmps33
  go_wp2_with (first
    | (go_at_call 12; refine (rlocal_calls p w).mono ?_; rintro e w1 ⟨rfl, hb⟩; rw [HPL.out]; have B1 := Aside0.mk hb; have HG1 := Aside0.mk ((hb.block g (blk_lt H1.out)).trans H1.out); clear hb c0 c1)
    | (go_at_call 14; refine (rspace_calls s (by have := HSS.out; omega) w1).mono ?_; rintro e w2 ⟨rfl, hb⟩; rw [HSL.out]; have B2 := Aside0.mk (B1.out.trans (hb.mono B1.out.size)); have HG2 := Aside0.mk ((hb.block g (blk_lt HG1.out)).trans HG1.out); have c0 : w2.cell? ⟨g, 0, none⟩ = some (.slice A L.length n) := (blk_cell HG2.out 0).trans rfl; have c1 : w2.cell? ⟨g, 1, none⟩ = some (.int .i64 op) := (blk_cell HG2.out 1).trans rfl; clear hb))
  clear z1 z2 hp hs pe1 se1
  go_loopg [9, 10] (L.length + 1) (fun gk v9 v10 wr => ∃ (i m : Nat), v9 = .int .i64 m ∧ v10 = .int .i64 i ∧ Aside0 (i ≤ L.length) ∧ Aside0 (L.length - i < gk) ∧ Aside0 (rDup (L.take i) op p = false) ∧ Aside0 (m = rCnt (L.take i) op) ∧ Aside0 (Below w.heap.size w wr))
  case atStart => exact ⟨0, 0, rfl, rfl, ⟨Nat.zero_le _⟩, ⟨by omega⟩, ⟨rfl⟩, ⟨rfl⟩, B2⟩
  case round =>
    obtain ⟨i, m, rfl, rfl, P1, P2, P3, P4, P5⟩ := hrel
    cases gk with
    | zero => exact absurd P2.out (by omega)
    | succ k1 =>
    have hp1 := P1.out
    have hll := HL.out
    have HG := Aside0.mk ((P5.out.block g (blk_lt H1.out)).trans H1.out)
    clear c0 c1
    have d0 : wr.cell? ⟨g, 0, none⟩ = some (.slice A L.length n) := (blk_cell HG.out 0).trans rfl
    have d1 : wr.cell? ⟨g, 1, none⟩ = some (.int .i64 op) := (blk_cell HG.out 1).trans rfl
    have hm : m ≤ 1000000000000 := by rw [P4.out]; exact Nat.le_trans (rCnt_le _ _) (by rw [List.length_take]; omega)
    by_cases hlt : i < L.length
    · obtain ⟨b, o, c, hv, _, _, hcell, _⟩ := (H2.out.below P5.out).open_ (by omega)
      injection hv with e1 e2 e3
      subst e1; subst e3
      clear e2
      obtain ⟨g0, g1, g2⟩ := triC_get L i hlt
      have x0 := hcell _ _ g0
      have x2 := hcell _ _ g2
      have HTK := Aside0.mk (List.take_succ_eq_append_getElem hlt)
      generalize L[i] = y at x0 x2 HTK
      rw [← Nat.add_assoc] at x2
      have t1 : decide ((i : Int) < (L.length : Int)) = true := decide_eq_true (by omega)
      have t2 : decide (i < L.length) = true := decide_eq_true hlt
      have tw : wrap64 ((i : Int) + 1) = (i : Int) + 1 := w64 (by omega) (by omega)
      have tm : wrap64 ((m : Int) + 1) = (m : Int) + 1 := w64 (by omega) (by omega)
      have y3 : (0 : Int) ≤ (i : Int) := by omega
      have y4 : (i : Int) < (L.length : Int) := by omega
      clear g0 g1 g2 hcell hp1 hll hm
      by_cases hq : y.2.2 = op
      · rw [hq] at x2
        have u1 : (op == op) = true := beq_self_eq_true _
        go_wp2
        go_quiet (fail)
        have DB := Aside0.mk (pw_below_drewN (Below.refl wr.heap.size wr) nq)
        have d0 : (wr.drewN nq).cell? ⟨g, 0, none⟩ = some (.slice (some ⟨b, o, none⟩) L.length n) := d0
        have x0 : (wr.drewN nq).cell? ⟨b, o + i * 3, none⟩ = some (.string y.1) := x0
        generalize wr.drewN nq = w3 at DB d0 x0 ⊢
        have B3 := Aside0.mk (P5.out.trans (DB.out.mono P5.out.size))
        by_cases hqp : y.1 = p
        · have HD6 := Aside0.mk (show rBindG L op p = 6 by unfold rBindG; rw [rDup_more (i + 1) (by rw [HTK.out, rDup_snoc]; simp [hq, hqp]), if_pos rfl])
          rw [hqp] at x0
          clear hq hqp
          go_wp2
          go_ret
          unfold RBindPost
          rw [HD6.out, if_neg (by decide)]
          exact ⟨rfl, H.out.below B3.out, Hp.Ch.of_below B3.out⟩
        · have HDN := Aside0.mk (show rDup (L.take (i + 1)) op p = false by rw [HTK.out, rDup_snoc, P3.out]; simp [hqp])
          have HCN := Aside0.mk (show m + 1 = rCnt (L.take (i + 1)) op by rw [HTK.out, rCnt_snoc, if_pos hq, ← P4.out])
          have hq1 := ne_str hqp
          have hq2 : (y.1.toList == p.toList) = false := by rw [beq_str]; exact decide_eq_false hqp
          clear hq hqp
          go_wp2
          go_roundg k1
          case measure => have := P2.out; omega
          case rel => exact ⟨i + 1, m + 1, by go_num, by go_num, ⟨by omega⟩, ⟨by have := P2.out; omega⟩, HDN, HCN, B3⟩
      · have HDN := Aside0.mk (show rDup (L.take (i + 1)) op p = false by rw [HTK.out, rDup_snoc, P3.out]; simp [hq])
        have HCN := Aside0.mk (show m = rCnt (L.take (i + 1)) op by rw [HTK.out, rCnt_snoc, if_neg hq, ← P4.out])
        have u1 : (y.2.2 == op) = false := by rw [beq_eq_false_iff_ne]; exact hq
        have u2 : decide (y.2.2 = op) = false := decide_eq_false hq
        clear hq
        go_wp2
        go_quiet (fail)
        have DB := Aside0.mk (pw_below_drewN (Below.refl wr.heap.size wr) nq)
        have B3 := Aside0.mk (P5.out.trans (DB.out.mono P5.out.size))
        go_wp2
        go_roundg k1
        case measure => have := P2.out; omega
        case rel => exact ⟨i + 1, m, rfl, by go_num, ⟨by omega⟩, ⟨by have := P2.out; omega⟩, HDN, HCN, B3⟩
    have hi : i = L.length := by omega
    have t1 : decide ((i : Int) < (L.length : Int)) = false := decide_eq_false (by omega)
    have t2 : decide (i < L.length) = false := decide_eq_false (by omega)
    have HDUP := Aside0.mk (show rDup L op p = false by have h := P3.out; rw [hi, List.take_length] at h; exact h)
    have HCM := Aside0.mk (show m = rCnt L op by have h := P4.out; rw [hi, List.take_length] at h; exact h)
    clear hi hp1 hll hlt hm
    by_cases h10 : 10 ≤ m
    · have r1 : decide ((10 : Int) ≤ (m : Int)) = true := decide_eq_true (by omega)
      have r2 : decide (10 ≤ m) = true := decide_eq_true h10
      have HG7 := Aside0.mk (show rBindG L op p = 7 by unfold rBindG; rw [HDUP.out, if_neg (by decide), if_pos (by rw [← HCM.out]; exact h10)])
      clear h10
      go_wp2
      go_ret
      unfold RBindPost
      rw [HG7.out, if_neg (by decide)]
      exact ⟨rfl, H.out.below P5.out, Hp.Ch.of_below P5.out⟩
    have r1 : decide ((10 : Int) ≤ (m : Int)) = false := decide_eq_false (by omega)
    have r2 : decide (10 ≤ m) = false := decide_eq_false h10
    have HCN := Aside0.mk (show ¬ 10 ≤ rCnt L op by rw [← HCM.out]; exact h10)
    clear h10
    go_wp2_with fail
    refine start_ (n := 17) (S := (fun w' => w'.heap[g]? = some (.cells #[.slice A L.length n, .int .i64 op] 35 (0, 0)))) (ds := [13, 14, 15, 16]) #[false, false, false, false, false, false, false, false, false, false, false, false, false, false, false, false, false] (by kernel_rfl) rfl rfl HG.out (fun hHeld => ?_)
    have DB := Aside0.mk (below_drew (Below.refl wr.heap.size wr))
    generalize wr.drew = w6 at DB hHeld ⊢
    -- T80 := move (tmp 0) :32,
    refine pure_ (i := 0) (N := some 80) (v := ?_) (a' := ?_) #[true, false, false, false, false, false, false, false, false, false, false, false, false, false, false, false, false] rfl rfl (by kernel_rfl) (fun _ _ _ h => h) (Or.inl ⟨by rfl, ?_⟩) ?_ ?_
    rotate_left
    · intro w'
      go_simp
      with_reducible rfl
    rotate_left
    · simp only [Act.put, List.setIfInBounds_toArray, List.set_cons_zero, List.set_cons_succ]
      rfl
    -- T81 := move (tmp 0) :32,
    refine pure_ (i := 1) (N := some 81) (v := ?_) (a' := ?_) #[true, true, false, false, false, false, false, false, false, false, false, false, false, false, false, false, false] rfl rfl (by kernel_rfl) (fun _ _ _ h => h) (Or.inl ⟨by rfl, ?_⟩) ?_ ?_
    rotate_left
    · intro w'
      go_simp
      with_reducible rfl
    rotate_left
    · simp only [Act.put, List.setIfInBounds_toArray, List.set_cons_zero, List.set_cons_succ]
      rfl
    -- T82 := nilCheck (tmp 81) :0,
    refine pure_ (i := 2) (N := some 82) (v := ?_) (a' := ?_) #[true, true, true, false, false, false, false, false, false, false, false, false, false, false, false, false, false] rfl rfl (by kernel_rfl) (fun _ _ _ h => h) (Or.inl ⟨by rfl, ?_⟩) ?_ ?_
    rotate_left
    · intro w'
      go_simp
      with_reducible rfl
    rotate_left
    · simp only [Act.put, List.setIfInBounds_toArray, List.set_cons_zero, List.set_cons_succ]
      rfl
    -- T83 := fieldAddr 35 (tmp 82) 0 :0
    refine pure_ (i := 3) (N := some 83) (v := ?_) (a' := ?_) #[true, true, true, true, false, false, false, false, false, false, false, false, false, false, false, false, false] rfl rfl (by kernel_rfl) (fun _ _ _ h => h) (Or.inl ⟨by rfl, ?_⟩) ?_ ?_
    rotate_left
    · intro w'
      go_simp
      with_reducible rfl
    rotate_left
    · simp only [Act.put, List.setIfInBounds_toArray, List.set_cons_zero, List.set_cons_succ]
      rfl
    -- T84 := load 33 (tmp 83) :33,
    refine take_ (i := 4) (N := some 84) (v := ?_) (a' := ?_) #[true, true, true, true, true, false, false, false, false, false, false, false, false, false, false, false, false] rfl rfl (by kernel_rfl) (fun _ _ _ h => h) (Or.inl ⟨by rfl, ?_⟩) hHeld ?_ ?_
    rotate_left
    · intro w' hw'
      (have d0 := (blk_cell hw' 0).trans rfl; have d1 := (blk_cell hw' 1).trans rfl)
      go_simp
      with_reducible rfl
    rotate_left
    · simp only [Act.put, List.setIfInBounds_toArray, List.set_cons_zero, List.set_cons_succ]
      rfl
    -- T85 := move (tmp 1) :9,
    refine pure_ (i := 5) (N := some 85) (v := ?_) (a' := ?_) #[true, true, true, true, true, true, false, false, false, false, false, false, false, false, false, false, false] rfl rfl (by kernel_rfl) (fun _ _ _ h => h) (Or.inl ⟨by rfl, ?_⟩) ?_ ?_
    rotate_left
    · intro w'
      go_simp
      with_reducible rfl
    rotate_left
    · simp only [Act.put, List.setIfInBounds_toArray, List.set_cons_zero, List.set_cons_succ]
      rfl
    -- T86 := move (tmp 2) :9,
    refine pure_ (i := 6) (N := some 86) (v := ?_) (a' := ?_) #[true, true, true, true, true, true, true, false, false, false, false, false, false, false, false, false, false] rfl rfl (by kernel_rfl) (fun _ _ _ h => h) (Or.inl ⟨by rfl, ?_⟩) ?_ ?_
    rotate_left
    · intro w'
      go_simp
      with_reducible rfl
    rotate_left
    · simp only [Act.put, List.setIfInBounds_toArray, List.set_cons_zero, List.set_cons_succ]
      rfl
    -- T87 := move (tmp 0) :32,
    refine pure_ (i := 7) (N := some 87) (v := ?_) (a' := ?_) #[true, true, true, true, true, true, true, true, false, false, false, false, false, false, false, false, false] rfl rfl (by kernel_rfl) (fun _ _ _ h => h) (Or.inl ⟨by rfl, ?_⟩) ?_ ?_
    rotate_left
    · intro w'
      go_simp
      with_reducible rfl
    rotate_left
    · simp only [Act.put, List.setIfInBounds_toArray, List.set_cons_zero, List.set_cons_succ]
      rfl
    -- T88 := nilCheck (tmp 87) :0,
    refine pure_ (i := 8) (N := some 88) (v := ?_) (a' := ?_) #[true, true, true, true, true, true, true, true, true, false, false, false, false, false, false, false, false] rfl rfl (by kernel_rfl) (fun _ _ _ h => h) (Or.inl ⟨by rfl, ?_⟩) ?_ ?_
    rotate_left
    · intro w'
      go_simp
      with_reducible rfl
    rotate_left
    · simp only [Act.put, List.setIfInBounds_toArray, List.set_cons_zero, List.set_cons_succ]
      rfl
    -- T89 := fieldAddr 35 (tmp 88) 1 :0
    refine pure_ (i := 9) (N := some 89) (v := ?_) (a' := ?_) #[true, true, true, true, true, true, true, true, true, true, false, false, false, false, false, false, false] rfl rfl (by kernel_rfl) (fun _ _ _ h => h) (Or.inl ⟨by rfl, ?_⟩) ?_ ?_
    rotate_left
    · intro w'
      go_simp
      with_reducible rfl
    rotate_left
    · simp only [Act.put, List.setIfInBounds_toArray, List.set_cons_zero, List.set_cons_succ]
      rfl
    -- T90 := load 3 (tmp 89) :3,
    refine take_ (i := 10) (N := some 90) (v := ?_) (a' := ?_) #[true, true, true, true, true, true, true, true, true, true, true, false, false, false, false, false, false] rfl rfl (by kernel_rfl) (fun _ _ _ h => h) (Or.inl ⟨by rfl, ?_⟩) hHeld ?_ ?_
    rotate_left
    · intro w' hw'
      (have d0 := (blk_cell hw' 0).trans rfl; have d1 := (blk_cell hw' 1).trans rfl)
      go_simp
      with_reducible rfl
    rotate_left
    · simp only [Act.put, List.setIfInBounds_toArray, List.set_cons_zero, List.set_cons_succ]
      rfl
    -- T91 := build 62 #[(0, tmp 85), (1, tmp 86), (2, tmp 90)] :62,
    refine pure_ (i := 11) (N := some 91) (v := ?_) (a' := ?_) #[true, true, true, true, true, true, true, true, true, true, true, true, false, false, false, false, false] rfl rfl (by kernel_rfl) (fun _ _ _ h => h) (Or.inl ⟨by rfl, ?_⟩) ?_ ?_
    rotate_left
    · intro w'
      go_simp
      with_reducible rfl
    rotate_left
    · simp only [Act.put, List.setIfInBounds_toArray, List.set_cons_zero, List.set_cons_succ]
      rfl
    -- T92 := buildSlice 33 1 #[(0, tmp 91)] :33
    refine one_ (i := 12) (N := some 92) #[true, true, true, true, true, true, true, true, true, true, true, true, true, false, false, false, false] rfl rfl (by kernel_rfl) (by decide) (fun K hK => ?_)
    refine value_ (v := .slice (some ⟨w6.heap.size, 0, none⟩) 1 1) (w1 := w6.alloc (.cells #[.string p, .string s, .int .i64 op] 62)) rfl rfl (by go_simp) ?_
    refine hK _ _ ((Below.heap_alloc _ _ g (blk_lt hHeld)).trans hHeld) (fun hHeld3 => ?_)
    have HG6 := Aside0.mk hHeld
    clear hK hHeld hHeld3
    refine norm_ (a' := ?_) ?_ ?_
    rotate_left
    · simp only [Act.put, List.setIfInBounds_toArray, List.set_cons_zero, List.set_cons_succ]
      rfl
    refine tailI_ [13, 14, 15, 16] (by kernel_rfl) (by decide) rfl ?_
    simp only [List.filterMap_cons, List.filterMap_nil]
    have R6 := Aside0.mk ((H2.out.below P5.out).below DB.out)
    have B6 := Aside0.mk (P5.out.trans (DB.out.mono P5.out.size))
    refine Hp.row_append rfl (.tmp 84) (.tmp 92) 33 62 (.agg #[.string ⟨#[]⟩, .string ⟨#[]⟩, .int .i64 0]) 3 40 rfl Tryd.underlying33 infoPair rfl (by decide) _ L.length (triC L) [.string p, .string s, .int .i64 op] rfl rfl rfl (tri_cell (p, s, op)) R6.out (by have := HL.out; omega) (by have := HL.out; unfold maxLen; omega) ?_
    intro v7 w7 hr7 hc7
    have R7 := Aside0.mk hr7
    have C7 := Aside0.mk hc7
    have HG7 := Aside0.mk (hc7.blk HG6.out (fun hx => absurd hx.2 (by decide)))
    have d0 : w7.cell? ⟨g, 0, none⟩ = some (.slice A L.length n) := (blk_cell HG7.out 0).trans rfl
    have f0 := blk_frozen HG7.out 0
    obtain ⟨A7, n7, hv7, _, _⟩ := hr7.slice
    clear hr7 hc7
    subst hv7
    go_wp2
    go_ret
    unfold RBindPost
    have hg0 : rBindG L op p = 0 := by unfold rBindG; rw [HDUP.out, if_neg (by decide), if_neg (by have := HCN.out; omega)]
    rw [hg0, if_pos rfl]
    have hcs : Hp.Ch (fun t => t = some 35) F w7 (w7.setCell ⟨g, 0, none⟩ (.slice A7 (L.length + 1) n7)) := Hp.Ch.set (T := fun t => t = some 35) HG7.out H.out.fb rfl 0 _
    refine ⟨rfl, ⟨H.out.fb, ⟨_, blk_put (cs' := #[.slice A7 (L.length + 1) n7, .int .i64 op]) HG7.out 0 _ rfl, ?_⟩⟩, (Hp.Ch.of_below B6.out).trans (((C7.out.mono (fun t ht => .inr ht) (fun _ h => Hp.ext_of h))).trans (hcs.mono (fun t ht => .inl ht) (fun _ h => Hp.ext_of (Hp.ext_of h))))⟩
    rw [triC_app, tri_one, List.length_append, List.length_singleton]
    exact (R7.out.mono (fun k hk => by rcases hk with hk | hk; exact hk; exact HF.out k (Nat.le_trans B6.out.size hk))).ch hcs (by decide)
set_option maxHeartbeats 16000000 in
set_option maxRecDepth 100000 in
theorem rbind_b {F : Nat → Prop} {w : World} {g : Nat} {L : List Tri} {op : Int} (p s : ByteArray) (h : RAt F w g L op) (hF : ∀ k, w.heap.size ≤ k → F k) (hl : L.length ≤ 1000000000000) (hss : s.size ≤ 1048576) (hp : p.toList = []) (hs : ¬ s.toList = []) (hb2 : spaceL s.data.toList = true) (h0 : op ≠ 0) (h0m : op ≤ 1000000000000) :
    Calls Tryd.prog 33 #[.pointer (some ⟨g, 0, none⟩), .string p, .string s] w (RBindPost F w g L op p s) := by
  obtain ⟨lv, h1, h2⟩ := h.core
  obtain ⟨A, n, hv, hn, _⟩ := h2.slice
  subst hv
  have H := Aside0.mk h
  have H1 := Aside0.mk h1
  have H2 := Aside0.mk h2
  have HL := Aside0.mk hl
  have HF := Aside0.mk hF
  have HSS := Aside0.mk hss
  have c0 : w.cell? ⟨g, 0, none⟩ = some (.slice A L.length n) := (blk_cell h1 0).trans rfl
  have c1 : w.cell? ⟨g, 1, none⟩ = some (.int .i64 op) := (blk_cell h1 1).trans rfl
  have z1 : (op == 0) = false := by rw [beq_eq_false_iff_ne]; exact h0
  have z2 : decide (op = 0) = false := decide_eq_false h0
  have pe1 : p.toList.isEmpty = true := by rw [hp]; rfl
  have se1 : s.toList.isEmpty = false := by rw [List.isEmpty_eq_false_iff]; exact hs
  obtain ⟨b1, hb1⟩ : ∃ y, localL p.data.toList = y := ⟨_, rfl⟩
  have HPL := Aside0.mk hb1
  have HSL := Aside0.mk hb2
  clear hb1 hb2
  clear h h1 h2 hl hn hF hss h0 h0m
  go_enter Tryd.func33, Tryd.ntmps33
  go_wp2_with (first
    | (go_at_call 12; refine (rlocal_calls p w).mono ?_; rintro e w1 ⟨rfl, hb⟩; rw [HPL.out]; have B1 := Aside0.mk hb; have HG1 := Aside0.mk ((hb.block g (blk_lt H1.out)).trans H1.out); clear hb c0 c1)
    | (go_at_call 14; refine (rspace_calls s (by have := HSS.out; omega) w1).mono ?_; rintro e w2 ⟨rfl, hb⟩; rw [HSL.out]; have B2 := Aside0.mk (B1.out.trans (hb.mono B1.out.size)); have HG2 := Aside0.mk ((hb.block g (blk_lt HG1.out)).trans HG1.out); have c0 : w2.cell? ⟨g, 0, none⟩ = some (.slice A L.length n) := (blk_cell HG2.out 0).trans rfl; have c1 : w2.cell? ⟨g, 1, none⟩ = some (.int .i64 op) := (blk_cell HG2.out 1).trans rfl; clear hb))
  clear z1 z2 hp hs pe1 se1
  go_loopg [9, 10] (L.length + 1) (fun gk v9 v10 wr => ∃ (i m : Nat), v9 = .int .i64 m ∧ v10 = .int .i64 i ∧ Aside0 (i ≤ L.length) ∧ Aside0 (L.length - i < gk) ∧ Aside0 (rDup (L.take i) op p = false) ∧ Aside0 (m = rCnt (L.take i) op) ∧ Aside0 (Below w.heap.size w wr))
  case atStart => exact ⟨0, 0, rfl, rfl, ⟨Nat.zero_le _⟩, ⟨by omega⟩, ⟨rfl⟩, ⟨rfl⟩, B2⟩
  case round =>
    obtain ⟨i, m, rfl, rfl, P1, P2, P3, P4, P5⟩ := hrel
    cases gk with
    | zero => exact absurd P2.out (by omega)
    | succ k1 =>
    have hp1 := P1.out
    have hll := HL.out
    have HG := Aside0.mk ((P5.out.block g (blk_lt H1.out)).trans H1.out)
    clear c0 c1
    have d0 : wr.cell? ⟨g, 0, none⟩ = some (.slice A L.length n) := (blk_cell HG.out 0).trans rfl
    have d1 : wr.cell? ⟨g, 1, none⟩ = some (.int .i64 op) := (blk_cell HG.out 1).trans rfl
    have hm : m ≤ 1000000000000 := by rw [P4.out]; exact Nat.le_trans (rCnt_le _ _) (by rw [List.length_take]; omega)
    by_cases hlt : i < L.length
    · obtain ⟨b, o, c, hv, _, _, hcell, _⟩ := (H2.out.below P5.out).open_ (by omega)
      injection hv with e1 e2 e3
      subst e1; subst e3
      clear e2
      obtain ⟨g0, g1, g2⟩ := triC_get L i hlt
      have x0 := hcell _ _ g0
      have x2 := hcell _ _ g2
      have HTK := Aside0.mk (List.take_succ_eq_append_getElem hlt)
      generalize L[i] = y at x0 x2 HTK
      rw [← Nat.add_assoc] at x2
      have t1 : decide ((i : Int) < (L.length : Int)) = true := decide_eq_true (by omega)
      have t2 : decide (i < L.length) = true := decide_eq_true hlt
      have tw : wrap64 ((i : Int) + 1) = (i : Int) + 1 := w64 (by omega) (by omega)
      have tm : wrap64 ((m : Int) + 1) = (m : Int) + 1 := w64 (by omega) (by omega)
      have y3 : (0 : Int) ≤ (i : Int) := by omega
      have y4 : (i : Int) < (L.length : Int) := by omega
      clear g0 g1 g2 hcell hp1 hll hm
      by_cases hq : y.2.2 = op
      · rw [hq] at x2
        have u1 : (op == op) = true := beq_self_eq_true _
        go_wp2
        go_quiet (fail)
        have DB := Aside0.mk (pw_below_drewN (Below.refl wr.heap.size wr) nq)
        have d0 : (wr.drewN nq).cell? ⟨g, 0, none⟩ = some (.slice (some ⟨b, o, none⟩) L.length n) := d0
        have x0 : (wr.drewN nq).cell? ⟨b, o + i * 3, none⟩ = some (.string y.1) := x0
        generalize wr.drewN nq = w3 at DB d0 x0 ⊢
        have B3 := Aside0.mk (P5.out.trans (DB.out.mono P5.out.size))
        by_cases hqp : y.1 = p
        · have HD6 := Aside0.mk (show rBindG L op p = 6 by unfold rBindG; rw [rDup_more (i + 1) (by rw [HTK.out, rDup_snoc]; simp [hq, hqp]), if_pos rfl])
          rw [hqp] at x0
          clear hq hqp
          go_wp2
          go_ret
          unfold RBindPost
          rw [HD6.out, if_neg (by decide)]
          exact ⟨rfl, H.out.below B3.out, Hp.Ch.of_below B3.out⟩
        · have HDN := Aside0.mk (show rDup (L.take (i + 1)) op p = false by rw [HTK.out, rDup_snoc, P3.out]; simp [hqp])
          have HCN := Aside0.mk (show m + 1 = rCnt (L.take (i + 1)) op by rw [HTK.out, rCnt_snoc, if_pos hq, ← P4.out])
          have hq1 := ne_str hqp
          have hq2 : (y.1.toList == p.toList) = false := by rw [beq_str]; exact decide_eq_false hqp
          clear hq hqp
          go_wp2
          go_roundg k1
          case measure => have := P2.out; omega
          case rel => exact ⟨i + 1, m + 1, by go_num, by go_num, ⟨by omega⟩, ⟨by have := P2.out; omega⟩, HDN, HCN, B3⟩
      · have HDN := Aside0.mk (show rDup (L.take (i + 1)) op p = false by rw [HTK.out, rDup_snoc, P3.out]; simp [hq])
        have HCN := Aside0.mk (show m = rCnt (L.take (i + 1)) op by rw [HTK.out, rCnt_snoc, if_neg hq, ← P4.out])
        have u1 : (y.2.2 == op) = false := by rw [beq_eq_false_iff_ne]; exact hq
        have u2 : decide (y.2.2 = op) = false := decide_eq_false hq
        clear hq
        go_wp2
        go_quiet (fail)
        have DB := Aside0.mk (pw_below_drewN (Below.refl wr.heap.size wr) nq)
        have B3 := Aside0.mk (P5.out.trans (DB.out.mono P5.out.size))
        go_wp2
        go_roundg k1
        case measure => have := P2.out; omega
        case rel => exact ⟨i + 1, m, rfl, by go_num, ⟨by omega⟩, ⟨by have := P2.out; omega⟩, HDN, HCN, B3⟩
    have hi : i = L.length := by omega
    have t1 : decide ((i : Int) < (L.length : Int)) = false := decide_eq_false (by omega)
    have t2 : decide (i < L.length) = false := decide_eq_false (by omega)
    have HDUP := Aside0.mk (show rDup L op p = false by have h := P3.out; rw [hi, List.take_length] at h; exact h)
    have HCM := Aside0.mk (show m = rCnt L op by have h := P4.out; rw [hi, List.take_length] at h; exact h)
    clear hi hp1 hll hlt hm
    by_cases h10 : 10 ≤ m
    · have r1 : decide ((10 : Int) ≤ (m : Int)) = true := decide_eq_true (by omega)
      have r2 : decide (10 ≤ m) = true := decide_eq_true h10
      have HG7 := Aside0.mk (show rBindG L op p = 7 by unfold rBindG; rw [HDUP.out, if_neg (by decide), if_pos (by rw [← HCM.out]; exact h10)])
      clear h10
      go_wp2
      go_ret
      unfold RBindPost
      rw [HG7.out, if_neg (by decide)]
      exact ⟨rfl, H.out.below P5.out, Hp.Ch.of_below P5.out⟩
    have r1 : decide ((10 : Int) ≤ (m : Int)) = false := decide_eq_false (by omega)
    have r2 : decide (10 ≤ m) = false := decide_eq_false h10
    have HCN := Aside0.mk (show ¬ 10 ≤ rCnt L op by rw [← HCM.out]; exact h10)
    clear h10
    go_wp2_with fail
    refine start_ (n := 17) (S := (fun w' => w'.heap[g]? = some (.cells #[.slice A L.length n, .int .i64 op] 35 (0, 0)))) (ds := [13, 14, 15, 16]) #[false, false, false, false, false, false, false, false, false, false, false, false, false, false, false, false, false] (by kernel_rfl) rfl rfl HG.out (fun hHeld => ?_)
    have DB := Aside0.mk (below_drew (Below.refl wr.heap.size wr))
    generalize wr.drew = w6 at DB hHeld ⊢
    -- T80 := move (tmp 0) :32,
    refine pure_ (i := 0) (N := some 80) (v := ?_) (a' := ?_) #[true, false, false, false, false, false, false, false, false, false, false, false, false, false, false, false, false] rfl rfl (by kernel_rfl) (fun _ _ _ h => h) (Or.inl ⟨by rfl, ?_⟩) ?_ ?_
    rotate_left
    · intro w'
      go_simp
      with_reducible rfl
    rotate_left
    · simp only [Act.put, List.setIfInBounds_toArray, List.set_cons_zero, List.set_cons_succ]
      rfl
    -- T81 := move (tmp 0) :32,
    refine pure_ (i := 1) (N := some 81) (v := ?_) (a' := ?_) #[true, true, false, false, false, false, false, false, false, false, false, false, false, false, false, false, false] rfl rfl (by kernel_rfl) (fun _ _ _ h => h) (Or.inl ⟨by rfl, ?_⟩) ?_ ?_
    rotate_left
    · intro w'
      go_simp
      with_reducible rfl
    rotate_left
    · simp only [Act.put, List.setIfInBounds_toArray, List.set_cons_zero, List.set_cons_succ]
      rfl
    -- T82 := nilCheck (tmp 81) :0,
    refine pure_ (i := 2) (N := some 82) (v := ?_) (a' := ?_) #[true, true, true, false, false, false, false, false, false, false, false, false, false, false, false, false, false] rfl rfl (by kernel_rfl) (fun _ _ _ h => h) (Or.inl ⟨by rfl, ?_⟩) ?_ ?_
    rotate_left
    · intro w'
      go_simp
      with_reducible rfl
    rotate_left
    · simp only [Act.put, List.setIfInBounds_toArray, List.set_cons_zero, List.set_cons_succ]
      rfl
    -- T83 := fieldAddr 35 (tmp 82) 0 :0
    refine pure_ (i := 3) (N := some 83) (v := ?_) (a' := ?_) #[true, true, true, true, false, false, false, false, false, false, false, false, false, false, false, false, false] rfl rfl (by kernel_rfl) (fun _ _ _ h => h) (Or.inl ⟨by rfl, ?_⟩) ?_ ?_
    rotate_left
    · intro w'
      go_simp
      with_reducible rfl
    rotate_left
    · simp only [Act.put, List.setIfInBounds_toArray, List.set_cons_zero, List.set_cons_succ]
      rfl
    -- T84 := load 33 (tmp 83) :33,
    refine take_ (i := 4) (N := some 84) (v := ?_) (a' := ?_) #[true, true, true, true, true, false, false, false, false, false, false, false, false, false, false, false, false] rfl rfl (by kernel_rfl) (fun _ _ _ h => h) (Or.inl ⟨by rfl, ?_⟩) hHeld ?_ ?_
    rotate_left
    · intro w' hw'
      (have d0 := (blk_cell hw' 0).trans rfl; have d1 := (blk_cell hw' 1).trans rfl)
      go_simp
      with_reducible rfl
    rotate_left
    · simp only [Act.put, List.setIfInBounds_toArray, List.set_cons_zero, List.set_cons_succ]
      rfl
    -- T85 := move (tmp 1) :9,
    refine pure_ (i := 5) (N := some 85) (v := ?_) (a' := ?_) #[true, true, true, true, true, true, false, false, false, false, false, false, false, false, false, false, false] rfl rfl (by kernel_rfl) (fun _ _ _ h => h) (Or.inl ⟨by rfl, ?_⟩) ?_ ?_
    rotate_left
    · intro w'
      go_simp
      with_reducible rfl
    rotate_left
    · simp only [Act.put, List.setIfInBounds_toArray, List.set_cons_zero, List.set_cons_succ]
      rfl
    -- T86 := move (tmp 2) :9,
    refine pure_ (i := 6) (N := some 86) (v := ?_) (a' := ?_) #[true, true, true, true, true, true, true, false, false, false, false, false, false, false, false, false, false] rfl rfl (by kernel_rfl) (fun _ _ _ h => h) (Or.inl ⟨by rfl, ?_⟩) ?_ ?_
    rotate_left
    · intro w'
      go_simp
      with_reducible rfl
    rotate_left
    · simp only [Act.put, List.setIfInBounds_toArray, List.set_cons_zero, List.set_cons_succ]
      rfl
    -- T87 := move (tmp 0) :32,
    refine pure_ (i := 7) (N := some 87) (v := ?_) (a' := ?_) #[true, true, true, true, true, true, true, true, false, false, false, false, false, false, false, false, false] rfl rfl (by kernel_rfl) (fun _ _ _ h => h) (Or.inl ⟨by rfl, ?_⟩) ?_ ?_
    rotate_left
    · intro w'
      go_simp
      with_reducible rfl
    rotate_left
    · simp only [Act.put, List.setIfInBounds_toArray, List.set_cons_zero, List.set_cons_succ]
      rfl
    -- T88 := nilCheck (tmp 87) :0,
    refine pure_ (i := 8) (N := some 88) (v := ?_) (a' := ?_) #[true, true, true, true, true, true, true, true, true, false, false, false, false, false, false, false, false] rfl rfl (by kernel_rfl) (fun _ _ _ h => h) (Or.inl ⟨by rfl, ?_⟩) ?_ ?_
    rotate_left
    · intro w'
      go_simp
      with_reducible rfl
    rotate_left
    · simp only [Act.put, List.setIfInBounds_toArray, List.set_cons_zero, List.set_cons_succ]
      rfl
    -- T89 := fieldAddr 35 (tmp 88) 1 :0
    refine pure_ (i := 9) (N := some 89) (v := ?_) (a' := ?_) #[true, true, true, true, true, true, true, true, true, true, false, false, false, false, false, false, false] rfl rfl (by kernel_rfl) (fun _ _ _ h => h) (Or.inl ⟨by rfl, ?_⟩) ?_ ?_
    rotate_left
    · intro w'
      go_simp
      with_reducible rfl
    rotate_left
    · simp only [Act.put, List.setIfInBounds_toArray, List.set_cons_zero, List.set_cons_succ]
      rfl
    -- T90 := load 3 (tmp 89) :3,
    refine take_ (i := 10) (N := some 90) (v := ?_) (a' := ?_) #[true, true, true, true, true, true, true, true, true, true, true, false, false, false, false, false, false] rfl rfl (by kernel_rfl) (fun _ _ _ h => h) (Or.inl ⟨by rfl, ?_⟩) hHeld ?_ ?_
    rotate_left
    · intro w' hw'
      (have d0 := (blk_cell hw' 0).trans rfl; have d1 := (blk_cell hw' 1).trans rfl)
      go_simp
      with_reducible rfl
    rotate_left
    · simp only [Act.put, List.setIfInBounds_toArray, List.set_cons_zero, List.set_cons_succ]
      rfl
    -- T91 := build 62 #[(0, tmp 85), (1, tmp 86), (2, tmp 90)] :62,
    refine pure_ (i := 11) (N := some 91) (v := ?_) (a' := ?_) #[true, true, true, true, true, true, true, true, true, true, true, true, false, false, false, false, false] rfl rfl (by kernel_rfl) (fun _ _ _ h => h) (Or.inl ⟨by rfl, ?_⟩) ?_ ?_
    rotate_left
    · intro w'
      go_simp
      with_reducible rfl
    rotate_left
    · simp only [Act.put, List.setIfInBounds_toArray, List.set_cons_zero, List.set_cons_succ]
      rfl
    -- T92 := buildSlice 33 1 #[(0, tmp 91)] :33
    refine one_ (i := 12) (N := some 92) #[true, true, true, true, true, true, true, true, true, true, true, true, true, false, false, false, false] rfl rfl (by kernel_rfl) (by decide) (fun K hK => ?_)
    refine value_ (v := .slice (some ⟨w6.heap.size, 0, none⟩) 1 1) (w1 := w6.alloc (.cells #[.string p, .string s, .int .i64 op] 62)) rfl rfl (by go_simp) ?_
    refine hK _ _ ((Below.heap_alloc _ _ g (blk_lt hHeld)).trans hHeld) (fun hHeld3 => ?_)
    have HG6 := Aside0.mk hHeld
    clear hK hHeld hHeld3
    refine norm_ (a' := ?_) ?_ ?_
    rotate_left
    · simp only [Act.put, List.setIfInBounds_toArray, List.set_cons_zero, List.set_cons_succ]
      rfl
    refine tailI_ [13, 14, 15, 16] (by kernel_rfl) (by decide) rfl ?_
    simp only [List.filterMap_cons, List.filterMap_nil]
    have R6 := Aside0.mk ((H2.out.below P5.out).below DB.out)
    have B6 := Aside0.mk (P5.out.trans (DB.out.mono P5.out.size))
    refine Hp.row_append rfl (.tmp 84) (.tmp 92) 33 62 (.agg #[.string ⟨#[]⟩, .string ⟨#[]⟩, .int .i64 0]) 3 40 rfl Tryd.underlying33 infoPair rfl (by decide) _ L.length (triC L) [.string p, .string s, .int .i64 op] rfl rfl rfl (tri_cell (p, s, op)) R6.out (by have := HL.out; omega) (by have := HL.out; unfold maxLen; omega) ?_
    intro v7 w7 hr7 hc7
    have R7 := Aside0.mk hr7
    have C7 := Aside0.mk hc7
    have HG7 := Aside0.mk (hc7.blk HG6.out (fun hx => absurd hx.2 (by decide)))
    have d0 : w7.cell? ⟨g, 0, none⟩ = some (.slice A L.length n) := (blk_cell HG7.out 0).trans rfl
    have f0 := blk_frozen HG7.out 0
    obtain ⟨A7, n7, hv7, _, _⟩ := hr7.slice
    clear hr7 hc7
    subst hv7
    go_wp2
    go_ret
    unfold RBindPost
    have hg0 : rBindG L op p = 0 := by unfold rBindG; rw [HDUP.out, if_neg (by decide), if_neg (by have := HCN.out; omega)]
    rw [hg0, if_pos rfl]
    have hcs : Hp.Ch (fun t => t = some 35) F w7 (w7.setCell ⟨g, 0, none⟩ (.slice A7 (L.length + 1) n7)) := Hp.Ch.set (T := fun t => t = some 35) HG7.out H.out.fb rfl 0 _
    refine ⟨rfl, ⟨H.out.fb, ⟨_, blk_put (cs' := #[.slice A7 (L.length + 1) n7, .int .i64 op]) HG7.out 0 _ rfl, ?_⟩⟩, (Hp.Ch.of_below B6.out).trans (((C7.out.mono (fun t ht => .inr ht) (fun _ h => Hp.ext_of h))).trans (hcs.mono (fun t ht => .inl ht) (fun _ h => Hp.ext_of (Hp.ext_of h))))⟩
    rw [triC_app, tri_one, List.length_append, List.length_singleton]
    exact (R7.out.mono (fun k hk => by rcases hk with hk | hk; exact hk; exact HF.out k (Nat.le_trans B6.out.size hk))).ch hcs (by decide)
set_option maxHeartbeats 16000000 in
set_option maxRecDepth 100000 in
theorem rbind_c {F : Nat → Prop} {w : World} {g : Nat} {L : List Tri} {op : Int} (p s : ByteArray) (h : RAt F w g L op) (hF : ∀ k, w.heap.size ≤ k → F k) (hl : L.length ≤ 1000000000000) (hss : s.size ≤ 1048576) (hp : ¬ p.toList = []) (hs : ¬ s.toList = []) (hb1 : localL p.data.toList = true) (hb2 : spaceL s.data.toList = true) (h0 : op ≠ 0) (h0m : op ≤ 1000000000000) :
    Calls Tryd.prog 33 #[.pointer (some ⟨g, 0, none⟩), .string p, .string s] w (RBindPost F w g L op p s) := by
  obtain ⟨lv, h1, h2⟩ := h.core
  obtain ⟨A, n, hv, hn, _⟩ := h2.slice
  subst hv
  have H := Aside0.mk h
  have H1 := Aside0.mk h1
  have H2 := Aside0.mk h2
  have HL := Aside0.mk hl
  have HF := Aside0.mk hF
  have HSS := Aside0.mk hss
  have c0 : w.cell? ⟨g, 0, none⟩ = some (.slice A L.length n) := (blk_cell h1 0).trans rfl
  have c1 : w.cell? ⟨g, 1, none⟩ = some (.int .i64 op) := (blk_cell h1 1).trans rfl
  have z1 : (op == 0) = false := by rw [beq_eq_false_iff_ne]; exact h0
  have z2 : decide (op = 0) = false := decide_eq_false h0
  have pe1 : p.toList.isEmpty = false := by rw [List.isEmpty_eq_false_iff]; exact hp
  have se1 : s.toList.isEmpty = false := by rw [List.isEmpty_eq_false_iff]; exact hs
  have HPL := Aside0.mk hb1
  have HSL := Aside0.mk hb2
  clear hb1 hb2
  clear h h1 h2 hl hn hF hss h0 h0m
  go_enter Tryd.func33, Tryd.ntmps33
  go_wp2_with (first
    | (go_at_call 12; refine (rlocal_calls p w).mono ?_; rintro e w1 ⟨rfl, hb⟩; rw [HPL.out]; have B1 := Aside0.mk hb; have HG1 := Aside0.mk ((hb.block g (blk_lt H1.out)).trans H1.out); clear hb c0 c1)
    | (go_at_call 14; refine (rspace_calls s (by have := HSS.out; omega) w1).mono ?_; rintro e w2 ⟨rfl, hb⟩; rw [HSL.out]; have B2 := Aside0.mk (B1.out.trans (hb.mono B1.out.size)); have HG2 := Aside0.mk ((hb.block g (blk_lt HG1.out)).trans HG1.out); have c0 : w2.cell? ⟨g, 0, none⟩ = some (.slice A L.length n) := (blk_cell HG2.out 0).trans rfl; have c1 : w2.cell? ⟨g, 1, none⟩ = some (.int .i64 op) := (blk_cell HG2.out 1).trans rfl; clear hb))
  clear z1 z2 hp hs pe1 se1
  go_loopg [9, 10] (L.length + 1) (fun gk v9 v10 wr => ∃ (i m : Nat), v9 = .int .i64 m ∧ v10 = .int .i64 i ∧ Aside0 (i ≤ L.length) ∧ Aside0 (L.length - i < gk) ∧ Aside0 (rDup (L.take i) op p = false) ∧ Aside0 (m = rCnt (L.take i) op) ∧ Aside0 (Below w.heap.size w wr))
  case atStart => exact ⟨0, 0, rfl, rfl, ⟨Nat.zero_le _⟩, ⟨by omega⟩, ⟨rfl⟩, ⟨rfl⟩, B2⟩
  case round =>
    obtain ⟨i, m, rfl, rfl, P1, P2, P3, P4, P5⟩ := hrel
    cases gk with
    | zero => exact absurd P2.out (by omega)
    | succ k1 =>
    have hp1 := P1.out
    have hll := HL.out
    have HG := Aside0.mk ((P5.out.block g (blk_lt H1.out)).trans H1.out)
    clear c0 c1
    have d0 : wr.cell? ⟨g, 0, none⟩ = some (.slice A L.length n) := (blk_cell HG.out 0).trans rfl
    have d1 : wr.cell? ⟨g, 1, none⟩ = some (.int .i64 op) := (blk_cell HG.out 1).trans rfl
    have hm : m ≤ 1000000000000 := by rw [P4.out]; exact Nat.le_trans (rCnt_le _ _) (by rw [List.length_take]; omega)
    by_cases hlt : i < L.length
    · obtain ⟨b, o, c, hv, _, _, hcell, _⟩ := (H2.out.below P5.out).open_ (by omega)
      injection hv with e1 e2 e3
      subst e1; subst e3
      clear e2
      obtain ⟨g0, g1, g2⟩ := triC_get L i hlt
      have x0 := hcell _ _ g0
      have x2 := hcell _ _ g2
      have HTK := Aside0.mk (List.take_succ_eq_append_getElem hlt)
      generalize L[i] = y at x0 x2 HTK
      rw [← Nat.add_assoc] at x2
      have t1 : decide ((i : Int) < (L.length : Int)) = true := decide_eq_true (by omega)
      have t2 : decide (i < L.length) = true := decide_eq_true hlt
      have tw : wrap64 ((i : Int) + 1) = (i : Int) + 1 := w64 (by omega) (by omega)
      have tm : wrap64 ((m : Int) + 1) = (m : Int) + 1 := w64 (by omega) (by omega)
      have y3 : (0 : Int) ≤ (i : Int) := by omega
      have y4 : (i : Int) < (L.length : Int) := by omega
      clear g0 g1 g2 hcell hp1 hll hm
      by_cases hq : y.2.2 = op
      · rw [hq] at x2
        have u1 : (op == op) = true := beq_self_eq_true _
        go_wp2
        go_quiet (fail)
        have DB := Aside0.mk (pw_below_drewN (Below.refl wr.heap.size wr) nq)
        have d0 : (wr.drewN nq).cell? ⟨g, 0, none⟩ = some (.slice (some ⟨b, o, none⟩) L.length n) := d0
        have x0 : (wr.drewN nq).cell? ⟨b, o + i * 3, none⟩ = some (.string y.1) := x0
        generalize wr.drewN nq = w3 at DB d0 x0 ⊢
        have B3 := Aside0.mk (P5.out.trans (DB.out.mono P5.out.size))
        by_cases hqp : y.1 = p
        · have HD6 := Aside0.mk (show rBindG L op p = 6 by unfold rBindG; rw [rDup_more (i + 1) (by rw [HTK.out, rDup_snoc]; simp [hq, hqp]), if_pos rfl])
          rw [hqp] at x0
          clear hq hqp
          go_wp2
          go_ret
          unfold RBindPost
          rw [HD6.out, if_neg (by decide)]
          exact ⟨rfl, H.out.below B3.out, Hp.Ch.of_below B3.out⟩
        · have HDN := Aside0.mk (show rDup (L.take (i + 1)) op p = false by rw [HTK.out, rDup_snoc, P3.out]; simp [hqp])
          have HCN := Aside0.mk (show m + 1 = rCnt (L.take (i + 1)) op by rw [HTK.out, rCnt_snoc, if_pos hq, ← P4.out])
          have hq1 := ne_str hqp
          have hq2 : (y.1.toList == p.toList) = false := by rw [beq_str]; exact decide_eq_false hqp
          clear hq hqp
          go_wp2
          go_roundg k1
          case measure => have := P2.out; omega
          case rel => exact ⟨i + 1, m + 1, by go_num, by go_num, ⟨by omega⟩, ⟨by have := P2.out; omega⟩, HDN, HCN, B3⟩
      · have HDN := Aside0.mk (show rDup (L.take (i + 1)) op p = false by rw [HTK.out, rDup_snoc, P3.out]; simp [hq])
        have HCN := Aside0.mk (show m = rCnt (L.take (i + 1)) op by rw [HTK.out, rCnt_snoc, if_neg hq, ← P4.out])
        have u1 : (y.2.2 == op) = false := by rw [beq_eq_false_iff_ne]; exact hq
        have u2 : decide (y.2.2 = op) = false := decide_eq_false hq
        clear hq
        go_wp2
        go_quiet (fail)
        have DB := Aside0.mk (pw_below_drewN (Below.refl wr.heap.size wr) nq)
        have B3 := Aside0.mk (P5.out.trans (DB.out.mono P5.out.size))
        go_wp2
        go_roundg k1
        case measure => have := P2.out; omega
        case rel => exact ⟨i + 1, m, rfl, by go_num, ⟨by omega⟩, ⟨by have := P2.out; omega⟩, HDN, HCN, B3⟩
    have hi : i = L.length := by omega
    have t1 : decide ((i : Int) < (L.length : Int)) = false := decide_eq_false (by omega)
    have t2 : decide (i < L.length) = false := decide_eq_false (by omega)
    have HDUP := Aside0.mk (show rDup L op p = false by have h := P3.out; rw [hi, List.take_length] at h; exact h)
    have HCM := Aside0.mk (show m = rCnt L op by have h := P4.out; rw [hi, List.take_length] at h; exact h)
    clear hi hp1 hll hlt hm
    by_cases h10 : 10 ≤ m
    · have r1 : decide ((10 : Int) ≤ (m : Int)) = true := decide_eq_true (by omega)
      have r2 : decide (10 ≤ m) = true := decide_eq_true h10
      have HG7 := Aside0.mk (show rBindG L op p = 7 by unfold rBindG; rw [HDUP.out, if_neg (by decide), if_pos (by rw [← HCM.out]; exact h10)])
      clear h10
      go_wp2
      go_ret
      unfold RBindPost
      rw [HG7.out, if_neg (by decide)]
      exact ⟨rfl, H.out.below P5.out, Hp.Ch.of_below P5.out⟩
    have r1 : decide ((10 : Int) ≤ (m : Int)) = false := decide_eq_false (by omega)
    have r2 : decide (10 ≤ m) = false := decide_eq_false h10
    have HCN := Aside0.mk (show ¬ 10 ≤ rCnt L op by rw [← HCM.out]; exact h10)
    clear h10
    go_wp2_with fail
    refine start_ (n := 17) (S := (fun w' => w'.heap[g]? = some (.cells #[.slice A L.length n, .int .i64 op] 35 (0, 0)))) (ds := [13, 14, 15, 16]) #[false, false, false, false, false, false, false, false, false, false, false, false, false, false, false, false, false] (by kernel_rfl) rfl rfl HG.out (fun hHeld => ?_)
    have DB := Aside0.mk (below_drew (Below.refl wr.heap.size wr))
    generalize wr.drew = w6 at DB hHeld ⊢
    -- T80 := move (tmp 0) :32,
    refine pure_ (i := 0) (N := some 80) (v := ?_) (a' := ?_) #[true, false, false, false, false, false, false, false, false, false, false, false, false, false, false, false, false] rfl rfl (by kernel_rfl) (fun _ _ _ h => h) (Or.inl ⟨by rfl, ?_⟩) ?_ ?_
    rotate_left
    · intro w'
      go_simp
      with_reducible rfl
    rotate_left
    · simp only [Act.put, List.setIfInBounds_toArray, List.set_cons_zero, List.set_cons_succ]
      rfl
    -- T81 := move (tmp 0) :32,
    refine pure_ (i := 1) (N := some 81) (v := ?_) (a' := ?_) #[true, true, false, false, false, false, false, false, false, false, false, false, false, false, false, false, false] rfl rfl (by kernel_rfl) (fun _ _ _ h => h) (Or.inl ⟨by rfl, ?_⟩) ?_ ?_
    rotate_left
    · intro w'
      go_simp
      with_reducible rfl
    rotate_left
    · simp only [Act.put, List.setIfInBounds_toArray, List.set_cons_zero, List.set_cons_succ]
      rfl
    -- T82 := nilCheck (tmp 81) :0,
    refine pure_ (i := 2) (N := some 82) (v := ?_) (a' := ?_) #[true, true, true, false, false, false, false, false, false, false, false, false, false, false, false, false, false] rfl rfl (by kernel_rfl) (fun _ _ _ h => h) (Or.inl ⟨by rfl, ?_⟩) ?_ ?_
    rotate_left
    · intro w'
      go_simp
      with_reducible rfl
    rotate_left
    · simp only [Act.put, List.setIfInBounds_toArray, List.set_cons_zero, List.set_cons_succ]
      rfl
    -- T83 := fieldAddr 35 (tmp 82) 0 :0
    refine pure_ (i := 3) (N := some 83) (v := ?_) (a' := ?_) #[true, true, true, true, false, false, false, false, false, false, false, false, false, false, false, false, false] rfl rfl (by kernel_rfl) (fun _ _ _ h => h) (Or.inl ⟨by rfl, ?_⟩) ?_ ?_
    rotate_left
    · intro w'
      go_simp
      with_reducible rfl
    rotate_left
    · simp only [Act.put, List.setIfInBounds_toArray, List.set_cons_zero, List.set_cons_succ]
      rfl
    -- T84 := load 33 (tmp 83) :33,
    refine take_ (i := 4) (N := some 84) (v := ?_) (a' := ?_) #[true, true, true, true, true, false, false, false, false, false, false, false, false, false, false, false, false] rfl rfl (by kernel_rfl) (fun _ _ _ h => h) (Or.inl ⟨by rfl, ?_⟩) hHeld ?_ ?_
    rotate_left
    · intro w' hw'
      (have d0 := (blk_cell hw' 0).trans rfl; have d1 := (blk_cell hw' 1).trans rfl)
      go_simp
      with_reducible rfl
    rotate_left
    · simp only [Act.put, List.setIfInBounds_toArray, List.set_cons_zero, List.set_cons_succ]
      rfl
    -- T85 := move (tmp 1) :9,
    refine pure_ (i := 5) (N := some 85) (v := ?_) (a' := ?_) #[true, true, true, true, true, true, false, false, false, false, false, false, false, false, false, false, false] rfl rfl (by kernel_rfl) (fun _ _ _ h => h) (Or.inl ⟨by rfl, ?_⟩) ?_ ?_
    rotate_left
    · intro w'
      go_simp
      with_reducible rfl
    rotate_left
    · simp only [Act.put, List.setIfInBounds_toArray, List.set_cons_zero, List.set_cons_succ]
      rfl
    -- T86 := move (tmp 2) :9,
    refine pure_ (i := 6) (N := some 86) (v := ?_) (a' := ?_) #[true, true, true, true, true, true, true, false, false, false, false, false, false, false, false, false, false] rfl rfl (by kernel_rfl) (fun _ _ _ h => h) (Or.inl ⟨by rfl, ?_⟩) ?_ ?_
    rotate_left
    · intro w'
      go_simp
      with_reducible rfl
    rotate_left
    · simp only [Act.put, List.setIfInBounds_toArray, List.set_cons_zero, List.set_cons_succ]
      rfl
    -- T87 := move (tmp 0) :32,
    refine pure_ (i := 7) (N := some 87) (v := ?_) (a' := ?_) #[true, true, true, true, true, true, true, true, false, false, false, false, false, false, false, false, false] rfl rfl (by kernel_rfl) (fun _ _ _ h => h) (Or.inl ⟨by rfl, ?_⟩) ?_ ?_
    rotate_left
    · intro w'
      go_simp
      with_reducible rfl
    rotate_left
    · simp only [Act.put, List.setIfInBounds_toArray, List.set_cons_zero, List.set_cons_succ]
      rfl
    -- T88 := nilCheck (tmp 87) :0,
    refine pure_ (i := 8) (N := some 88) (v := ?_) (a' := ?_) #[true, true, true, true, true, true, true, true, true, false, false, false, false, false, false, false, false] rfl rfl (by kernel_rfl) (fun _ _ _ h => h) (Or.inl ⟨by rfl, ?_⟩) ?_ ?_
    rotate_left
    · intro w'
      go_simp
      with_reducible rfl
    rotate_left
    · simp only [Act.put, List.setIfInBounds_toArray, List.set_cons_zero, List.set_cons_succ]
      rfl
    -- T89 := fieldAddr 35 (tmp 88) 1 :0
    refine pure_ (i := 9) (N := some 89) (v := ?_) (a' := ?_) #[true, true, true, true, true, true, true, true, true, true, false, false, false, false, false, false, false] rfl rfl (by kernel_rfl) (fun _ _ _ h => h) (Or.inl ⟨by rfl, ?_⟩) ?_ ?_
    rotate_left
    · intro w'
      go_simp
      with_reducible rfl
    rotate_left
    · simp only [Act.put, List.setIfInBounds_toArray, List.set_cons_zero, List.set_cons_succ]
      rfl
    -- T90 := load 3 (tmp 89) :3,
    refine take_ (i := 10) (N := some 90) (v := ?_) (a' := ?_) #[true, true, true, true, true, true, true, true, true, true, true, false, false, false, false, false, false] rfl rfl (by kernel_rfl) (fun _ _ _ h => h) (Or.inl ⟨by rfl, ?_⟩) hHeld ?_ ?_
    rotate_left
    · intro w' hw'
      (have d0 := (blk_cell hw' 0).trans rfl; have d1 := (blk_cell hw' 1).trans rfl)
      go_simp
      with_reducible rfl
    rotate_left
    · simp only [Act.put, List.setIfInBounds_toArray, List.set_cons_zero, List.set_cons_succ]
      rfl
    -- T91 := build 62 #[(0, tmp 85), (1, tmp 86), (2, tmp 90)] :62,
    refine pure_ (i := 11) (N := some 91) (v := ?_) (a' := ?_) #[true, true, true, true, true, true, true, true, true, true, true, true, false, false, false, false, false] rfl rfl (by kernel_rfl) (fun _ _ _ h => h) (Or.inl ⟨by rfl, ?_⟩) ?_ ?_
    rotate_left
    · intro w'
      go_simp
      with_reducible rfl
    rotate_left
    · simp only [Act.put, List.setIfInBounds_toArray, List.set_cons_zero, List.set_cons_succ]
      rfl
    -- T92 := buildSlice 33 1 #[(0, tmp 91)] :33
    refine one_ (i := 12) (N := some 92) #[true, true, true, true, true, true, true, true, true, true, true, true, true, false, false, false, false] rfl rfl (by kernel_rfl) (by decide) (fun K hK => ?_)
    refine value_ (v := .slice (some ⟨w6.heap.size, 0, none⟩) 1 1) (w1 := w6.alloc (.cells #[.string p, .string s, .int .i64 op] 62)) rfl rfl (by go_simp) ?_
    refine hK _ _ ((Below.heap_alloc _ _ g (blk_lt hHeld)).trans hHeld) (fun hHeld3 => ?_)
    have HG6 := Aside0.mk hHeld
    clear hK hHeld hHeld3
    refine norm_ (a' := ?_) ?_ ?_
    rotate_left
    · simp only [Act.put, List.setIfInBounds_toArray, List.set_cons_zero, List.set_cons_succ]
      rfl
    refine tailI_ [13, 14, 15, 16] (by kernel_rfl) (by decide) rfl ?_
    simp only [List.filterMap_cons, List.filterMap_nil]
    have R6 := Aside0.mk ((H2.out.below P5.out).below DB.out)
    have B6 := Aside0.mk (P5.out.trans (DB.out.mono P5.out.size))
    refine Hp.row_append rfl (.tmp 84) (.tmp 92) 33 62 (.agg #[.string ⟨#[]⟩, .string ⟨#[]⟩, .int .i64 0]) 3 40 rfl Tryd.underlying33 infoPair rfl (by decide) _ L.length (triC L) [.string p, .string s, .int .i64 op] rfl rfl rfl (tri_cell (p, s, op)) R6.out (by have := HL.out; omega) (by have := HL.out; unfold maxLen; omega) ?_
    intro v7 w7 hr7 hc7
    have R7 := Aside0.mk hr7
    have C7 := Aside0.mk hc7
    have HG7 := Aside0.mk (hc7.blk HG6.out (fun hx => absurd hx.2 (by decide)))
    have d0 : w7.cell? ⟨g, 0, none⟩ = some (.slice A L.length n) := (blk_cell HG7.out 0).trans rfl
    have f0 := blk_frozen HG7.out 0
    obtain ⟨A7, n7, hv7, _, _⟩ := hr7.slice
    clear hr7 hc7
    subst hv7
    go_wp2
    go_ret
    unfold RBindPost
    have hg0 : rBindG L op p = 0 := by unfold rBindG; rw [HDUP.out, if_neg (by decide), if_neg (by have := HCN.out; omega)]
    rw [hg0, if_pos rfl]
    have hcs : Hp.Ch (fun t => t = some 35) F w7 (w7.setCell ⟨g, 0, none⟩ (.slice A7 (L.length + 1) n7)) := Hp.Ch.set (T := fun t => t = some 35) HG7.out H.out.fb rfl 0 _
    refine ⟨rfl, ⟨H.out.fb, ⟨_, blk_put (cs' := #[.slice A7 (L.length + 1) n7, .int .i64 op]) HG7.out 0 _ rfl, ?_⟩⟩, (Hp.Ch.of_below B6.out).trans (((C7.out.mono (fun t ht => .inr ht) (fun _ h => Hp.ext_of h))).trans (hcs.mono (fun t ht => .inl ht) (fun _ h => Hp.ext_of (Hp.ext_of h))))⟩
    rw [triC_app, tri_one, List.length_append, List.length_singleton]
    exact (R7.out.mono (fun k hk => by rcases hk with hk | hk; exact hk; exact HF.out k (Nat.le_trans B6.out.size hk))).ch hcs (by decide)
end Go.Proofs.YticlppojbbocbaaDoor.Nm

namespace Go.Proofs.YticlppojbbocbaaDoor.Nm
open Go Go.Lib Go.Shelf Go.RowKit Go.Proofs.YticlppojbbocbaaDoorW.PrintWords Go.Proofs.YticlppojbbocbaaDoorW.PrintLast Go.Proofs.YticlppojbbocbaaDoor.Own Go.Proofs.YticlppojbbocbaaDoor.Srcw Go.Proofs.YticlppojbbocbaaDoor.Tab Go.Proofs.YticlppojbbocbaaDoor.PNamesScopes
set_option linter.unusedVariables false
set_option linter.unusedSimpArgs false
def pickV (k : Int) : Int := if k < 0 then Int.tmod (wrap64 (-(wrap64 (k + 1)))) 4 else Int.tmod k 4
theorem pick_is (k : Int) : hexaplalaw04_pick.f k 4 = some (pickV k) := by
  unfold hexaplalaw04_pick.f pickV
  by_cases h : k < 0
  · rw [if_pos h, if_pos h, if_neg (by decide)]
  · rw [if_neg h, if_neg h, if_neg (by decide)]
theorem pick_in (k : Int) (h : -9223372036854775808 ≤ k ∧ k ≤ 9223372036854775807) : pickV k = 0 ∨ pickV k = 1 ∨ pickV k = 2 ∨ pickV k = 3 := by
  unfold pickV
  by_cases h0 : k < 0
  · rw [if_pos h0, w64 (x := k + 1) (by omega) (by omega), w64 (by omega) (by omega), Int.tmod_eq_emod_of_nonneg (by omega)]
    omega
  · rw [if_neg h0, Int.tmod_eq_emod_of_nonneg (by omega)]
    omega
/-- The reference changes nothing of the program's scopes. -/
theorem IsSc.rch {B g : Nat} {w w' : World} {st : List Sc} {F : Nat → Prop} (h : IsSc B w g st) (hc : Hp.Ch rT F w w') : IsSc B w' g st := by
  obtain ⟨h0, v, h1, h2, h3, h4⟩ := h
  have ho := Kd.own_of_R h2
  refine ⟨h0, v, hc.blk h1 (fun hx => absurd hx.2 (by unfold rT; decide)), Kd.R_of_own ⟨ho.1, ?_⟩ (fun g hg => h2.1 g hg), fun x hx => ?_, h4⟩
  · rcases ho.2 with h | ⟨g', cap, cur, rfl, hgb, hh, r⟩
    · exact .inl h
    · exact .inr ⟨g', cap, cur, rfl, hgb, hc.blk hh (fun hx => absurd hx.2 (by unfold rT; decide)), r⟩
  · obtain ⟨q1, q2, q3⟩ := h3 x hx
    obtain ⟨es, ck, hb⟩ := is_block q3
    exact ⟨q1, q2, q3.same ((hc.block x.b _ hb (fun hx => by rcases hx.2 with h | h <;> cases h)).trans hb.symm)⟩
/-- Both, side by side. -/
structure Bth (B : Nat) (w : World) (gS gR : Nat) (st : List Sc) (Ls : List Lvl) (m : Nat) : Prop where
  s : IsSc B w gS st
  r : RAt (fun k => B ≤ k) w gR (flatF 1 Ls) ((Ls.length : Nat) : Int)
  rel : RelS st Ls
  nd : ∀ l ∈ Ls, (l.map Prod.fst).Nodup
  len : st.length ≤ m ∧ (flatF 1 Ls).length ≤ m
theorem Bth.size {B gS gR m : Nat} {w : World} {st : List Sc} {Ls : List Lvl} (h : Bth B w gS gR st Ls m) : B ≤ w.heap.size := h.s.keys
theorem RAt.bl {B gR : Nat} {w : World} {L : List Tri} {op : Int} (h : RAt (fun k => B ≤ k) w gR L op) : B ≤ w.heap.size := by
  obtain ⟨lv, h1, _⟩ := h.core
  have := blk_lt h1
  have : B ≤ gR := h.fb
  omega
def DoesPost (B gS gR m : Nat) (w : World) (e : Ending) (w' : World) : Prop := ∃ st Ls, e = .returned (.bool true) ∧ Bth B w' gS gR st Ls (m + 1) ∧ Below B w w'
def Asked (B gS gR : Nat) (st : List Sc) (L : List Tri) (op : Int) (w : World) (e : Ending) (w' : World) : Prop := e = .returned (.bool true) ∧ IsSc B w' gS st ∧ RAt (fun k => B ≤ k) w' gR L op ∧ Below B w w'
set_option maxHeartbeats 8000000 in
set_option maxRecDepth 100000 in
theorem does_ask {B gS gR : Nat} {w : World} {k : Int} {n t : ByteArray} {st : List Sc} {L : List Tri} {op : Int} (hk : pickV k = 3) (hs : IsSc B w gS st) (hr : RAt (fun k => B ≤ k) w gR L op) (hq : rAsk L n = askS st n) (hsl : st.length < 17000000000000) (hrl : L.length ≤ 100000000000) (hn : n.size ≤ 1048576) :
    Calls Tryd.prog 19 #[.pointer (some ⟨gS, 0, none⟩), .pointer (some ⟨gR, 0, none⟩), .agg #[.int .i64 k, .string n, .string t]] w (Asked B gS gR st L op w) := by
  have HP := Aside0.mk (pick_is k)
  have HK := Aside0.mk hk
  clear hk
  obtain ⟨⟨xa, xb⟩, hx⟩ : ∃ y, askS st n = y := ⟨_, rfl⟩
  have HA := Aside0.mk hx
  have HRA := Aside0.mk (hq.trans hx)
  have S := Aside0.mk hs
  have R := Aside0.mk hr
  have HBL := Aside0.mk hr.bl
  have HSL := Aside0.mk hsl
  have HRL := Aside0.mk hrl
  have HN := Aside0.mk hn
  clear hs hr hq hsl hrl hn hx
  go_enter Tryd.func19, Tryd.ntmps19
  go_wp2_with (first
    | ((with_reducible refine gate_dst (N := 5) rfl ?_); refine box_event ?hg (N := 5) ?hd (cs := #[.int .i64 k, .string n, .string t]) (t := 38) ?hr ?_; (case hd => rfl); (case hg => rfl); (case hr => first | (go_simp; done) | (go_simp; rfl)); intro b hg w1 hbox hb; have HG := Aside0.mk hg; have H1 := Aside0.mk hbox; have B1 := Aside0.mk hb; have c0 := (blk_cell hbox 0).trans rfl; clear hg hbox hb)
    | (go_at_call 32; refine (hexaplalaw04_pick.calls k 4 _ _ HP.out).mono ?_; rintro e w2 ⟨rfl, hd⟩; rw [HK.out]; have B2 := Aside0.mk (B1.out.trans (hd.below.mono B1.out.size)); have H2 := Aside0.mk ((hd.below.block b (blk_lt H1.out)).trans H1.out); clear hd; have c1 : w2.cell? ⟨b, 1, none⟩ = some (.string n) := (blk_cell H2.out 1).trans rfl; have c2 : w2.cell? ⟨b, 2, none⟩ = some (.string t) := (blk_cell H2.out 2).trans rfl; have SX := Aside0.mk (S.out.below B2.out); have RX := Aside0.mk (R.out.below B2.out); have HX := H2; have BX := Aside0.mk (B2.out.mono HBL.out))
    | (go_at_call 20; refine (ask_calls SX.out HSL.out HN.out).mono ?_; rintro e wa ⟨rfl, hb⟩; rw [HA.out]; have BA := Aside0.mk (BX.out.trans (hb.mono (Nat.le_trans HBL.out BX.out.size))); have SA := Aside0.mk (SX.out.below hb); have RA := Aside0.mk (RX.out.below hb); have HA2 := Aside0.mk ((hb.block b (blk_lt HX.out)).trans HX.out); clear hb c1 c2; have c1 : wa.cell? ⟨b, 1, none⟩ = some (.string n) := (blk_cell HA2.out 1).trans rfl)
    | (go_at_call 24; refine (raskw_calls n RA.out HRL.out).mono ?_; rintro e wb ⟨rfl, rfl⟩; rw [HRA.out]))
  all_goals go_ret
  all_goals exact ⟨by simp, SA.out, RA.out, BA.out⟩
set_option maxHeartbeats 8000000 in
set_option maxRecDepth 100000 in
theorem does_open {B gS gR : Nat} {w : World} {k : Int} {n t : ByteArray} {st : List Sc} {L : List Tri} {op : Int} (hk : pickV k = 0) (hs : IsSc B w gS st) (hr : RAt (fun k => B ≤ k) w gR L op) (hop : 0 ≤ op ∧ op ≤ 1000000000000) (hq : ∀ b, rAsk L n = askS (st ++ [⟨b, 0, fun _ => none⟩]) n) (hsl : st.length < 16000000000000) (hrl : L.length ≤ 100000000000) (hn : n.size ≤ 1048576) :
    Calls Tryd.prog 19 #[.pointer (some ⟨gS, 0, none⟩), .pointer (some ⟨gR, 0, none⟩), .agg #[.int .i64 k, .string n, .string t]] w (fun e w' => ∃ b, Asked B gS gR (st ++ [⟨b, 0, fun _ => none⟩]) L (op + 1) w e w') := by
  have HP := Aside0.mk (pick_is k)
  have HK := Aside0.mk hk
  clear hk
  obtain ⟨⟨xa, xb⟩, hx⟩ : ∃ y, rAsk L n = y := ⟨_, rfl⟩
  have HA0 := Aside0.mk (fun b => (hq b).symm.trans hx)
  have HRA := Aside0.mk hx
  have S := Aside0.mk hs
  have R := Aside0.mk hr
  have HBL := Aside0.mk hr.bl
  have HSL := Aside0.mk (show st.length < 17000000000000 by omega)
  have HSL2 := Aside0.mk (show ∀ y : Sc, (st ++ [y]).length < 17000000000000 from fun y => by rw [List.length_append, List.length_singleton]; omega)
  have HRL := Aside0.mk hrl
  have HN := Aside0.mk hn
  have tw : wrap64 (op + 1) = op + 1 := w64 (by omega) (by omega)
  clear hs hr hq hsl hrl hn hx hop
  go_enter Tryd.func19, Tryd.ntmps19
  go_wp2_with (first
    | ((with_reducible refine gate_dst (N := 5) rfl ?_); refine box_event ?hg (N := 5) ?hd (cs := #[.int .i64 k, .string n, .string t]) (t := 38) ?hr ?_; (case hd => rfl); (case hg => rfl); (case hr => first | (go_simp; done) | (go_simp; rfl)); intro b hg w1 hbox hb; have HG := Aside0.mk hg; have H1 := Aside0.mk hbox; have B1 := Aside0.mk hb; have c0 := (blk_cell hbox 0).trans rfl; clear hg hbox hb)
    | (go_at_call 32; refine (hexaplalaw04_pick.calls k 4 _ _ HP.out).mono ?_; rintro e w2 ⟨rfl, hd⟩; rw [HK.out]; have B2 := Aside0.mk (B1.out.trans (hd.below.mono B1.out.size)); have H2 := Aside0.mk ((hd.below.block b (blk_lt H1.out)).trans H1.out); clear hd; have c1 : w2.cell? ⟨b, 1, none⟩ = some (.string n) := (blk_cell H2.out 1).trans rfl; have c2 : w2.cell? ⟨b, 2, none⟩ = some (.string t) := (blk_cell H2.out 2).trans rfl)
    | (go_at_call 21; refine (open_calls (S.out.below B2.out) (Nat.le_trans HBL.out B2.out.size) HSL.out).mono ?_; rintro e w3 ⟨⟨v, rfl⟩, ⟨b4, hb4, hsc⟩, hc⟩; have HB4 := Aside0.mk hb4; have R3 := (R.out.below B2.out).ch hc (by unfold scT; decide) (by unfold scT; decide); have H3 := hc.blk H2.out (fun hx => absurd hx.2 (by unfold scT; decide)); have B3 := Aside0.mk ((B2.out.mono HBL.out).trans (Chs.below hc (Nat.le_trans HBL.out B2.out.size))); obtain ⟨lv, hg3, hr3⟩ := R3.core; have r1 : w3.cell? ⟨gR, 1, none⟩ = some (.int .i64 op) := (blk_cell hg3 1).trans rfl; have f1 := blk_frozen hg3 1; have hcs : Hp.Ch (fun t => t = some 35) (fun k => B ≤ k) w3 (w3.setCell ⟨gR, 1, none⟩ (.int .i64 (op + 1))) := Hp.Ch.set (T := fun t => t = some 35) hg3 R.out.fb rfl 1 _; have SX := Aside0.mk (hsc.rch (hcs.mono (fun t h => .inl h) (fun _ h => h))); have RX := Aside0.mk (show RAt (fun k => B ≤ k) (w3.setCell ⟨gR, 1, none⟩ (.int .i64 (op + 1))) gR L (op + 1) from ⟨R.out.fb, ⟨lv, blk_put (cs' := #[lv, .int .i64 (op + 1)]) hg3 1 _ rfl, hr3.ch hcs (by decide)⟩⟩); have HX := Aside0.mk (hcs.blk H3 (fun hx => absurd hx.2 (by decide))); have BX := Aside0.mk (B3.out.trans (hcs.below (B := B) (fun _ h => h) (Nat.le_trans HBL.out B3.out.size))); clear c1 c2 hcs hr3 hg3 hsc hc R3 H3; have c1 : (w3.setCell ⟨gR, 1, none⟩ (.int .i64 (op + 1))).cell? ⟨b, 1, none⟩ = some (.string n) := (blk_cell HX.out 1).trans rfl)
    | (go_at_call 20; refine (ask_calls SX.out (HSL2.out _) HN.out).mono ?_; rintro e wa ⟨rfl, hb⟩; rw [HA0.out]; have BA := Aside0.mk (BX.out.trans (hb.mono (Nat.le_trans HBL.out BX.out.size))); have SA := Aside0.mk (SX.out.below hb); have RA := Aside0.mk (RX.out.below hb); have HA2 := Aside0.mk ((hb.block b (blk_lt HX.out)).trans HX.out); clear hb c1; have c1 : wa.cell? ⟨b, 1, none⟩ = some (.string n) := (blk_cell HA2.out 1).trans rfl)
    | (go_at_call 24; refine (raskw_calls n RA.out HRL.out).mono ?_; rintro e wb ⟨rfl, rfl⟩; rw [HRA.out]))
  all_goals go_ret
  all_goals exact ⟨b4, by simp, SA.out, RA.out, BA.out⟩
set_option maxHeartbeats 8000000 in
set_option maxRecDepth 100000 in
theorem does_close {B gS gR : Nat} {w : World} {k : Int} {n t : ByteArray} {st st' : List Sc} {L L' : List Tri} {op op' E : Int} (hk : pickV k = 2) (hs : IsSc B w gS st) (hr : RAt (fun k => B ≤ k) w gR L op) (hS : ∀ w1, IsSc B w1 gS st → Calls Tryd.prog 23 #[.pointer (some ⟨gS, 0, none⟩)] w1 fun e w' => e = .returned (.int .i64 E) ∧ IsSc B w' gS st' ∧ Chs B w1 w') (hR : ∀ w1, RAt (fun k => B ≤ k) w1 gR L op → Calls Tryd.prog 34 #[.pointer (some ⟨gR, 0, none⟩)] w1 fun e w' => e = .returned (.int .i64 E) ∧ RAt (fun k => B ≤ k) w' gR L' op' ∧ Hp.Ch rT (fun k => B ≤ k) w1 w') :
    Calls Tryd.prog 19 #[.pointer (some ⟨gS, 0, none⟩), .pointer (some ⟨gR, 0, none⟩), .agg #[.int .i64 k, .string n, .string t]] w (Asked B gS gR st' L' op' w) := by
  have HP := Aside0.mk (pick_is k)
  have HK := Aside0.mk hk
  clear hk
  have S := Aside0.mk hs
  have R := Aside0.mk hr
  have HBL := Aside0.mk hr.bl
  have HS := Aside0.mk hS
  have HR := Aside0.mk hR
  have ee : (E == E) = true := beq_self_eq_true _
  clear hs hr hS hR
  go_enter Tryd.func19, Tryd.ntmps19
  go_wp2_with (first
    | ((with_reducible refine gate_dst (N := 5) rfl ?_); refine box_event ?hg (N := 5) ?hd (cs := #[.int .i64 k, .string n, .string t]) (t := 38) ?hr ?_; (case hd => rfl); (case hg => rfl); (case hr => first | (go_simp; done) | (go_simp; rfl)); intro b hg w1 hbox hb; have HG := Aside0.mk hg; have H1 := Aside0.mk hbox; have B1 := Aside0.mk hb; have c0 := (blk_cell hbox 0).trans rfl; clear hg hbox hb)
    | (go_at_call 32; refine (hexaplalaw04_pick.calls k 4 _ _ HP.out).mono ?_; rintro e w2 ⟨rfl, hd⟩; rw [HK.out]; have B2 := Aside0.mk (B1.out.trans (hd.below.mono B1.out.size)); have H2 := Aside0.mk ((hd.below.block b (blk_lt H1.out)).trans H1.out); clear hd; have c1 : w2.cell? ⟨b, 1, none⟩ = some (.string n) := (blk_cell H2.out 1).trans rfl; have c2 : w2.cell? ⟨b, 2, none⟩ = some (.string t) := (blk_cell H2.out 2).trans rfl)
    | (go_at_call 23; refine (HS.out _ (S.out.below B2.out)).mono ?_; rintro e w3 ⟨rfl, hsc, hc⟩; have S3 := Aside0.mk hsc; have R3 := Aside0.mk ((R.out.below B2.out).ch hc (by unfold scT; decide) (by unfold scT; decide)); have B3 := Aside0.mk ((B2.out.mono HBL.out).trans (Chs.below hc (Nat.le_trans HBL.out B2.out.size))); clear hsc hc c1 c2)
    | (go_at_call 34; refine (HR.out _ R3.out).mono ?_; rintro e w4 ⟨rfl, hsc, hc⟩; have R4 := Aside0.mk hsc; have S4 := Aside0.mk (S3.out.rch hc); have B4 := Aside0.mk (B3.out.trans (hc.below (B := B) (fun _ h => h) R3.out.bl)); clear hsc hc))
  all_goals go_ret
  all_goals exact ⟨by simp, S4.out, R4.out, B4.out⟩
set_option maxHeartbeats 8000000 in
set_option maxRecDepth 100000 in
theorem does_bind {B gS gR : Nat} {w : World} {k : Int} {n t : ByteArray} {st st' : List Sc} {L L' : List Tri} {op E : Int} (hk : pickV k = 1) (hs : IsSc B w gS st) (hr : RAt (fun k => B ≤ k) w gR L op) (hS : ∀ w1, IsSc B w1 gS st → Below w.heap.size w w1 → Calls Tryd.prog 22 #[.pointer (some ⟨gS, 0, none⟩), .string n, .string t] w1 fun e w' => e = .returned (.int .i64 E) ∧ IsSc B w' gS st' ∧ Chs B w1 w') (hR : ∀ w1, RAt (fun k => B ≤ k) w1 gR L op → Calls Tryd.prog 33 #[.pointer (some ⟨gR, 0, none⟩), .string n, .string t] w1 fun e w' => e = .returned (.int .i64 E) ∧ RAt (fun k => B ≤ k) w' gR L' op ∧ Hp.Ch rT (fun k => B ≤ k) w1 w') :
    Calls Tryd.prog 19 #[.pointer (some ⟨gS, 0, none⟩), .pointer (some ⟨gR, 0, none⟩), .agg #[.int .i64 k, .string n, .string t]] w (Asked B gS gR st' L' op w) := by
  have HP := Aside0.mk (pick_is k)
  have HK := Aside0.mk hk
  clear hk
  have S := Aside0.mk hs
  have R := Aside0.mk hr
  have HBL := Aside0.mk hr.bl
  have HS := Aside0.mk hS
  have HR := Aside0.mk hR
  have ee : (E == E) = true := beq_self_eq_true _
  clear hs hr hS hR
  go_enter Tryd.func19, Tryd.ntmps19
  go_wp2_with (first
    | ((with_reducible refine gate_dst (N := 5) rfl ?_); refine box_event ?hg (N := 5) ?hd (cs := #[.int .i64 k, .string n, .string t]) (t := 38) ?hr ?_; (case hd => rfl); (case hg => rfl); (case hr => first | (go_simp; done) | (go_simp; rfl)); intro b hg w1 hbox hb; have HG := Aside0.mk hg; have H1 := Aside0.mk hbox; have B1 := Aside0.mk hb; have c0 := (blk_cell hbox 0).trans rfl; clear hg hbox hb)
    | (go_at_call 32; refine (hexaplalaw04_pick.calls k 4 _ _ HP.out).mono ?_; rintro e w2 ⟨rfl, hd⟩; rw [HK.out]; have B2 := Aside0.mk (B1.out.trans (hd.below.mono B1.out.size)); have H2 := Aside0.mk ((hd.below.block b (blk_lt H1.out)).trans H1.out); clear hd; have c1 : w2.cell? ⟨b, 1, none⟩ = some (.string n) := (blk_cell H2.out 1).trans rfl; have c2 : w2.cell? ⟨b, 2, none⟩ = some (.string t) := (blk_cell H2.out 2).trans rfl))
  refine start_ (n := 14) (S := (fun w' => w'.heap[b]? = some (.cells #[.int .i64 k, .string n, .string t] 38 (0, 0)))) (ds := [11, 12, 13]) #[false, false, false, false, false, false, false, false, false, false, false, false, false, false] (by kernel_rfl) rfl rfl (show w2.drew.heap[b]? = _ from H2.out) (fun hHeld => ?_)
  -- T27 := move (tmp 0) :30,
  refine pure_ (i := 0) (N := some 27) (v := ?_) (a' := ?_) #[true, false, false, false, false, false, false, false, false, false, false, false, false, false] rfl rfl (by kernel_rfl) (fun _ _ _ h => h) (Or.inl ⟨by rfl, ?_⟩) ?_ ?_
  rotate_left
  · intro w'
    go_simp
    with_reducible rfl
  rotate_left
  · simp only [Act.put, List.setIfInBounds_toArray, List.set_cons_zero, List.set_cons_succ]
    rfl
  -- T28 := fieldAddr 38 (tmp 5) 1 :0
  refine pure_ (i := 1) (N := some 28) (v := ?_) (a' := ?_) #[true, true, false, false, false, false, false, false, false, false, false, false, false, false] rfl rfl (by kernel_rfl) (fun _ _ _ h => h) (Or.inl ⟨by rfl, ?_⟩) ?_ ?_
  rotate_left
  · intro w'
    go_simp
    with_reducible rfl
  rotate_left
  · simp only [Act.put, List.setIfInBounds_toArray, List.set_cons_zero, List.set_cons_succ]
    rfl
  -- T30 := fieldAddr 38 (tmp 5) 2 :0
  refine pure_ (i := 3) (N := some 30) (v := ?_) (a' := ?_) #[true, true, false, true, false, false, false, false, false, false, false, false, false, false] rfl rfl (by kernel_rfl) (fun _ _ _ h => h) (Or.inl ⟨by rfl, ?_⟩) ?_ ?_
  rotate_left
  · intro w'
    go_simp
    with_reducible rfl
  rotate_left
  · simp only [Act.put, List.setIfInBounds_toArray, List.set_cons_zero, List.set_cons_succ]
    rfl
  -- T33 := move (tmp 1) :32,
  refine pure_ (i := 6) (N := some 33) (v := ?_) (a' := ?_) #[true, true, false, true, false, false, true, false, false, false, false, false, false, false] rfl rfl (by kernel_rfl) (fun _ _ _ h => h) (Or.inl ⟨by rfl, ?_⟩) ?_ ?_
  rotate_left
  · intro w'
    go_simp
    with_reducible rfl
  rotate_left
  · simp only [Act.put, List.setIfInBounds_toArray, List.set_cons_zero, List.set_cons_succ]
    rfl
  -- T34 := fieldAddr 38 (tmp 5) 1 :0
  refine pure_ (i := 7) (N := some 34) (v := ?_) (a' := ?_) #[true, true, false, true, false, false, true, true, false, false, false, false, false, false] rfl rfl (by kernel_rfl) (fun _ _ _ h => h) (Or.inl ⟨by rfl, ?_⟩) ?_ ?_
  rotate_left
  · intro w'
    go_simp
    with_reducible rfl
  rotate_left
  · simp only [Act.put, List.setIfInBounds_toArray, List.set_cons_zero, List.set_cons_succ]
    rfl
  -- T36 := fieldAddr 38 (tmp 5) 2 :0
  refine pure_ (i := 9) (N := some 36) (v := ?_) (a' := ?_) #[true, true, false, true, false, false, true, true, false, true, false, false, false, false] rfl rfl (by kernel_rfl) (fun _ _ _ h => h) (Or.inl ⟨by rfl, ?_⟩) ?_ ?_
  rotate_left
  · intro w'
    go_simp
    with_reducible rfl
  rotate_left
  · simp only [Act.put, List.setIfInBounds_toArray, List.set_cons_zero, List.set_cons_succ]
    rfl
  -- T29 := load 9 (tmp 28) :9,
  refine take_ (i := 2) (N := some 29) (v := ?_) (a' := ?_) #[true, true, true, true, false, false, true, true, false, true, false, false, false, false] rfl rfl (by kernel_rfl) (fun _ _ _ h => h) (Or.inl ⟨by rfl, ?_⟩) hHeld ?_ ?_
  rotate_left
  · intro w' hw'
    (have c1 := (blk_cell hw' 1).trans rfl; have c2 := (blk_cell hw' 2).trans rfl)
    go_simp
    with_reducible rfl
  rotate_left
  · simp only [Act.put, List.setIfInBounds_toArray, List.set_cons_zero, List.set_cons_succ]
    rfl
  -- T31 := load 9 (tmp 30) :9,
  refine take_ (i := 4) (N := some 31) (v := ?_) (a' := ?_) #[true, true, true, true, true, false, true, true, false, true, false, false, false, false] rfl rfl (by kernel_rfl) (fun _ _ _ h => h) (Or.inl ⟨by rfl, ?_⟩) hHeld ?_ ?_
  rotate_left
  · intro w' hw'
    (have c1 := (blk_cell hw' 1).trans rfl; have c2 := (blk_cell hw' 2).trans rfl)
    go_simp
    with_reducible rfl
  rotate_left
  · simp only [Act.put, List.setIfInBounds_toArray, List.set_cons_zero, List.set_cons_succ]
    rfl
  -- T35 := load 9 (tmp 34) :9,
  refine take_ (i := 8) (N := some 35) (v := ?_) (a' := ?_) #[true, true, true, true, true, false, true, true, true, true, false, false, false, false] rfl rfl (by kernel_rfl) (fun _ _ _ h => h) (Or.inl ⟨by rfl, ?_⟩) hHeld ?_ ?_
  rotate_left
  · intro w' hw'
    (have c1 := (blk_cell hw' 1).trans rfl; have c2 := (blk_cell hw' 2).trans rfl)
    go_simp
    with_reducible rfl
  rotate_left
  · simp only [Act.put, List.setIfInBounds_toArray, List.set_cons_zero, List.set_cons_succ]
    rfl
  -- T37 := load 9 (tmp 36) :9,
  refine take_ (i := 10) (N := some 37) (v := ?_) (a' := ?_) #[true, true, true, true, true, false, true, true, true, true, true, false, false, false] rfl rfl (by kernel_rfl) (fun _ _ _ h => h) (Or.inl ⟨by rfl, ?_⟩) hHeld ?_ ?_
  rotate_left
  · intro w' hw'
    (have c1 := (blk_cell hw' 1).trans rfl; have c2 := (blk_cell hw' 2).trans rfl)
    go_simp
    with_reducible rfl
  rotate_left
  · simp only [Act.put, List.setIfInBounds_toArray, List.set_cons_zero, List.set_cons_succ]
    rfl
  -- T32 := call { callee := value (func 22), args := #[tmp 27, tmp 29, tmp 31], argTypes := #[30, 9, 9] :41 },
  refine one_ (i := 5) (N := some 32) #[true, true, true, true, true, true, true, true, true, true, true, false, false, false] rfl rfl (by kernel_rfl) (by decide) (fun K hK => ?_)
  refine goes_ Tryd.func22 (by kernel_rfl) rfl #[.pointer (some ⟨gS, 0, none⟩), .string n, .string t] (by rfl) rfl rfl (by go_simp) ?_
  have DB := Aside0.mk (B2.out.trans ((below_drew (Below.refl w2.heap.size w2)).mono B2.out.size))
  refine (HS.out _ (S.out.below DB.out) DB.out).mono ?_
  rintro e w3 ⟨rfl, hsc, hc⟩
  refine ⟨_, rfl, hK _ _ (hc.blk hHeld (fun hx => absurd hx.2 (by unfold scT; decide))) (fun hHeld3 => ?_)⟩
  have HH3 := Aside0.mk hHeld3
  clear hK hHeld hHeld3
  have S3 := Aside0.mk hsc
  have R3 := Aside0.mk ((R.out.below DB.out).ch hc (by unfold scT; decide) (by unfold scT; decide))
  have B3 := Aside0.mk ((DB.out.mono HBL.out).trans (Chs.below hc (Nat.le_trans HBL.out DB.out.size)))
  clear hsc hc
  refine norm_ (a' := ?_) ?_ ?_
  rotate_left
  · simp only [Act.put, List.setIfInBounds_toArray, List.set_cons_zero, List.set_cons_succ]
    rfl
  refine tailI_ [11, 12, 13] (by kernel_rfl) (by decide) rfl ?_
  simp only [List.filterMap_cons, List.filterMap_nil]
  go_wp2_with (go_at_call 33; refine (HR.out _ R3.out).mono ?_; rintro e w4 ⟨rfl, hsc, hc⟩; have R4 := Aside0.mk hsc; have S4 := Aside0.mk (S3.out.rch hc); have B4 := Aside0.mk (B3.out.trans (hc.below (B := B) (fun _ h => h) R3.out.bl)); clear hsc hc)
  all_goals go_ret
  all_goals exact ⟨by simp, S4.out, R4.out, B4.out⟩
end Go.Proofs.YticlppojbbocbaaDoor.Nm

namespace Go.Proofs.YticlppojbbocbaaDoor.Nm
open Go Go.Lib Go.Shelf Go.RowKit Go.Proofs.YticlppojbbocbaaDoorW.PrintWords Go.Proofs.YticlppojbbocbaaDoorW.PrintLast Go.Proofs.YticlppojbbocbaaDoor.Own Go.Proofs.YticlppojbbocbaaDoor.Srcw Go.Proofs.YticlppojbbocbaaDoor.Tab Go.Proofs.YticlppojbbocbaaDoor.PNamesScopes
set_option linter.unusedVariables false
set_option linter.unusedSimpArgs false
theorem bind_bad {B g : Nat} {w : World} {init : List Sc} {x : Sc} {p s : ByteArray} (h : IsSc B w g (init ++ [x])) (hl : init.length < 17000000000000) (hps : p.size ≤ 1048576) (hss : s.size ≤ 1048576) (hm : x.m ≤ 10) (hT : Tabs w) (ha : argsOk p s = false) :
    Calls Tryd.prog 22 #[.pointer (some ⟨g, 0, none⟩), .string p, .string s] w (fun e w' => e = .returned (.int .i64 1) ∧ IsSc B w' g (init ++ [x]) ∧ Chs B w w') := by
  by_cases hp : p.size = 0
  · by_cases hs : s.size = 0
    · unfold argsOk at ha
      rw [decide_eq_true hp, decide_eq_true hs] at ha
      simp at ha
    · have hb : spaceL s.data.toList = false := by
        unfold argsOk at ha
        rw [decide_eq_true hp, decide_eq_false hs] at ha
        simpa using ha
      exact bind_s h hl hps hss hm hT hp hs hb
  · cases hb : localL p.data.toList with
    | false => exact bind_p h hl hps hss hm hT hp hb
    | true =>
      by_cases hs : s.size = 0
      · exact bind_pe h hl hps hss hm hT hp hb hs
      · have hb2 : spaceL s.data.toList = false := by
          unfold argsOk at ha
          rw [decide_eq_false hp, decide_eq_false hs, hb] at ha
          simpa using ha
        exact bind_ps h hl hps hss hm hT hp hb hs hb2
theorem args_good {p s : ByteArray} (ha : argsOk p s = true) : (p.size = 0 ∧ s.size = 0) ∨ (p.size = 0 ∧ ¬ s.size = 0 ∧ spaceL s.data.toList = true) ∨ (¬ p.size = 0 ∧ ¬ s.size = 0 ∧ localL p.data.toList = true ∧ spaceL s.data.toList = true) := by
  revert ha
  unfold argsOk
  generalize localL p.data.toList = a
  generalize spaceL s.data.toList = b
  generalize p.size = x
  generalize s.size = y
  intro h
  cases a <;> cases b <;> by_cases hx : x = 0 <;> by_cases hy : y = 0 <;> simp_all
theorem bind_good {B g : Nat} {w : World} {init : List Sc} {x : Sc} {p s : ByteArray} (h : IsSc B w g (init ++ [x])) (hl : init.length < 17000000000000) (hps : p.size ≤ 1048576) (hss : s.size ≤ 1048576) (hm : x.m ≤ 10) (hT : Tabs w) (ha : argsOk p s = true) :
    Calls Tryd.prog 22 #[.pointer (some ⟨g, 0, none⟩), .string p, .string s] w (BindPost B g init x p s w) := by
  rcases args_good ha with ⟨h1, h2⟩ | ⟨h1, h2, h3⟩ | ⟨h1, h2, h3, h4⟩
  · exact bind_a h hl hps hss hm hT h1 h2
  · exact bind_b h hl hps hss hm hT h1 h2 h3
  · exact bind_c h hl hps hss hm hT h1 h3 h2 h4
theorem rbind_good {F : Nat → Prop} {w : World} {g : Nat} {L : List Tri} {op : Int} (p s : ByteArray) (h : RAt F w g L op) (hF : ∀ k, w.heap.size ≤ k → F k) (hl : L.length ≤ 1000000000000) (hss : s.size ≤ 1048576) (h0 : op ≠ 0) (h0m : op ≤ 1000000000000) (ha : argsOk p s = true) :
    Calls Tryd.prog 33 #[.pointer (some ⟨g, 0, none⟩), .string p, .string s] w (RBindPost F w g L op p s) := by
  rcases args_good ha with ⟨h1, h2⟩ | ⟨h1, h2, h3⟩ | ⟨h1, h2, h3, h4⟩
  · exact rbind_a p s h hF hl hss ((nil_str p).2 h1) ((nil_str s).2 h2) h0 h0m
  · exact rbind_b p s h hF hl hss ((nil_str p).2 h1) (fun e => h2 ((nil_str s).1 e)) h3 h0 h0m
  · exact rbind_c p s h hF hl hss (fun e => h1 ((nil_str p).1 e)) (fun e => h2 ((nil_str s).1 e)) h3 h4 h0 h0m
theorem Asked.both {B gS gR m : Nat} {w w' : World} {st : List Sc} {Ls : List Lvl} {L : List Tri} {op : Int} {e : Ending} (h : Asked B gS gR st L op w e w') (hL : L = flatF 1 Ls) (hop : op = ((Ls.length : Nat) : Int)) (hrel : RelS st Ls) (hnd : ∀ l ∈ Ls, (l.map Prod.fst).Nodup) (hl : st.length ≤ m + 1 ∧ (flatF 1 Ls).length ≤ m + 1) : DoesPost B gS gR m w e w' := by
  subst hL; subst hop
  obtain ⟨h1, h2, h3, h4⟩ := h
  exact ⟨st, Ls, h1, ⟨h2, h3, hrel, hnd, hl⟩, h4⟩
theorem does_calls {B gS gR m : Nat} {w : World} {st : List Sc} {Ls : List Lvl} {k : Int} {n t : ByteArray} (h : Bth B w gS gR st Ls m) (hm : m ≤ 10000000) (hk : -9223372036854775808 ≤ k ∧ k ≤ 9223372036854775807) (hn : n.size ≤ 1048576) (ht : t.size ≤ 1048576) (hT : Tabs w) :
    Calls Tryd.prog 19 #[.pointer (some ⟨gS, 0, none⟩), .pointer (some ⟨gR, 0, none⟩), .agg #[.int .i64 k, .string n, .string t]] w (DoesPost B gS gR m w) := by
  obtain ⟨hs, hr, hrel, hnd, hl1, hl2⟩ := h
  have hlen := hrel.len
  rcases pick_in k hk with h0 | h0 | h0 | h0
  · have hf : flatF 1 (Ls ++ [[]]) = flatF 1 Ls := by rw [flat_snoc]; simp
    have hnd2 : ∀ l ∈ Ls ++ [[]], (l.map Prod.fst).Nodup := fun l hl => by
      rcases List.mem_append.1 hl with hl | hl
      · exact hnd l hl
      · rw [List.mem_singleton] at hl; subst hl; exact List.nodup_nil
    refine (does_open h0 hs hr (by omega) (fun b => by rw [← hf]; exact rAsk_is (hrel.snoc (RelL.new b)) hnd2 n) (by omega) (by omega) hn).mono ?_
    rintro e w' ⟨b, ha⟩
    exact ha.both hf.symm (by rw [List.length_append]; simp) (hrel.snoc (RelL.new b)) hnd2 ⟨by rw [List.length_append, List.length_singleton]; omega, by rw [hf]; omega⟩
  · rcases List.eq_nil_or_concat st with he | ⟨init, x, he⟩
    · subst he
      have hL0 := hrel.emp
      subst hL0
      refine (does_bind (E := 1) (L' := flatF 1 []) (st' := []) h0 hs hr (fun w1 hs1 _ => bind_none hs1) (fun w1 hr1 => (rbind_bad n t hr1 (fun k hk => Nat.le_trans hr1.bl hk) (by omega) ht (.inl rfl)).mono ?_)).mono ?_
      · rintro e w' ⟨rfl, hb⟩
        exact ⟨rfl, hr1.below hb, Hp.Ch.of_below hb⟩
      · intro e w' ha
        exact ha.both rfl rfl hrel hnd ⟨by omega, by omega⟩
    · rw [List.concat_eq_append] at he
      subst he
      obtain ⟨b, l, hb, hra, hrl⟩ := hrel.last
      subst hb
      have hx10 : x.m ≤ 10 := by rw [hrl.m]; exact hrl.ten
      have hil : init.length < 17000000000000 := by rw [List.length_append] at hl1; omega
      have hopn : (((b ++ [l]).length : Nat) : Int) ≠ 0 := by rw [List.length_append, List.length_singleton]; omega
      have hopm : (((b ++ [l]).length : Nat) : Int) ≤ 1000000000000 := by omega
      cases ha : argsOk n t with
      | false =>
        refine (does_bind (E := 1) (L' := flatF 1 (b ++ [l])) (st' := init ++ [x]) h0 hs hr (fun w1 hs1 hb1 => bind_bad hs1 hil hn ht hx10 (hT.below hb1) ha) (fun w1 hr1 => (rbind_bad n t hr1 (fun k hk => Nat.le_trans hr1.bl hk) (by omega) ht (.inr ha)).mono ?_)).mono ?_
        · rintro e w' ⟨rfl, hb⟩
          exact ⟨rfl, hr1.below hb, Hp.Ch.of_below hb⟩
        · intro e w' ha
          exact ha.both rfl rfl hrel hnd ⟨by omega, by omega⟩
      | true =>
        have hbe := rBind_is hra hrl n t ha
        have hbg : rBindG (flatF 1 (b ++ [l])) (((b ++ [l]).length : Nat) : Int) n = bindE x n := by
          rw [← hbe]
          symm
          unfold rBindE
          rw [if_neg (by rw [ha]; simp; omega)]
          rfl
        have hrc : ∀ w1, RAt (fun k => B ≤ k) w1 gR (flatF 1 (b ++ [l])) (((b ++ [l]).length : Nat) : Int) → Calls Tryd.prog 33 #[.pointer (some ⟨gR, 0, none⟩), .string n, .string t] w1 fun e w' => e = .returned (.int .i64 (bindE x n)) ∧ RAt (fun k => B ≤ k) w' gR (if bindE x n = 0 then flatF 1 (b ++ [l]) ++ [(n, t, (((b ++ [l]).length : Nat) : Int))] else flatF 1 (b ++ [l])) (((b ++ [l]).length : Nat) : Int) ∧ Hp.Ch rT (fun k => B ≤ k) w1 w' := fun w1 hr1 => by
          refine (rbind_good n t hr1 (fun k hk => Nat.le_trans hr1.bl hk) (by omega) ht hopn hopm ha).mono ?_
          intro e w' hp
          unfold RBindPost at hp
          rw [hbg] at hp
          exact hp
        refine (does_bind (E := bindE x n) (st' := init ++ [if bindE x n = 0 then bindF x n t else x]) h0 hs hr (fun w1 hs1 hb1 => bind_good hs1 hil hn ht hx10 (hT.below hb1) ha) hrc).mono ?_
        intro e w' hk2
        by_cases hz : bindE x n = 0
        · rw [if_pos hz, if_pos hz] at hk2
          have hf : flatF 1 (b ++ [l]) ++ [(n, t, (((b ++ [l]).length : Nat) : Int))] = flatF 1 (b ++ [l ++ [(n, t)]]) := by
            rw [flat_snoc, flat_snoc, List.map_append, List.append_assoc]
            congr 2
            show [_] = [tri (1 + b.length) (n, t)]
            unfold tri
            rw [List.length_append, List.length_singleton]
            congr 3
            omega
          refine hk2.both (Ls := b ++ [l ++ [(n, t)]]) hf (by rw [List.length_append, List.length_append]; rfl) (hra.snoc (hrl.bind hz)) (fun y hy => ?_) ⟨by rw [List.length_append] at hl1 ⊢; simp at hl1 ⊢; omega, by rw [← hf, List.length_append]; simp; omega⟩
          rcases List.mem_append.1 hy with hy | hy
          · exact hnd y (List.mem_append_left _ hy)
          · rw [List.mem_singleton] at hy; subst hy
            exact nodup_bind hrl (hnd l (by simp)) hz
        · rw [if_neg hz, if_neg hz] at hk2
          exact hk2.both rfl rfl hrel hnd ⟨by omega, by omega⟩
  · rcases List.eq_nil_or_concat st with he | ⟨init, x, he⟩
    · subst he
      have hL0 := hrel.emp
      subst hL0
      refine (does_close (E := 21) (L' := flatF 1 []) (st' := []) (op' := 0) h0 hs hr (fun w1 hs1 => close_none hs1) (fun w1 hr1 => (rclose_none hr1).mono ?_)).mono ?_
      · rintro e w' ⟨rfl, rfl⟩
        exact ⟨rfl, hr1, Hp.Ch.refl _ _ _⟩
      · intro e w' ha
        exact ha.both rfl rfl hrel hnd ⟨by omega, by omega⟩
    · rw [List.concat_eq_append] at he
      subst he
      obtain ⟨b, l, hb, hra, hrl⟩ := hrel.last
      subst hb
      have hil : init.length < 17000000000000 := by rw [List.length_append] at hl1; omega
      have hop0 : 0 < (((b ++ [l]).length : Nat) : Int) := by rw [List.length_append, List.length_singleton]; omega
      have hkp : kept (flatF 1 (b ++ [l])) (((b ++ [l]).length : Nat) : Int) = flatF 1 b := rClose_is b l
      refine (does_close (E := 0) (L' := flatF 1 b) (st' := init) (op' := (((b ++ [l]).length : Nat) : Int) - 1) h0 hs hr (fun w1 hs1 => close_some hs1 hil) (fun w1 hr1 => (rclose_some hr1 (fun k hk => Nat.le_trans hr1.bl hk) (by omega) hop0 (by omega)).mono ?_)).mono ?_
      · rintro e w' ⟨rfl, h2, h3⟩
        rw [hkp] at h2
        exact ⟨rfl, h2, h3⟩
      · intro e w' ha
        have hfl : (flatF 1 b).length ≤ (flatF 1 (b ++ [l])).length := by rw [flat_snoc, List.length_append]; omega
        exact ha.both rfl (by rw [List.length_append, List.length_singleton]; omega) hra (fun y hy => hnd y (List.mem_append_left _ hy)) ⟨by rw [List.length_append] at hl1; omega, by omega⟩
  · refine (does_ask h0 hs hr (rAsk_is hrel hnd n) (by omega) (by omega) hn).mono ?_
    intro e w' ha
    exact ha.both rfl rfl hrel hnd ⟨by omega, by omega⟩
set_option maxHeartbeats 8000000 in
set_option maxRecDepth 100000 in
theorem law_NamesScopes (a : Option Addr) (len cap : Nat) (D : Nat → Dd) {w : World} (hd : IsDeeds w a len D) (hsz : len ≤ 1048576 ∧ ∀ i, i < len → (D i).n.size ≤ 1048576 ∧ (D i).t.size ≤ 1048576) (hT : Tabs w) :
    Calls Tryd.prog 7 #[.slice a len cap] w fun e w' => e = .returned (.bool true) ∧ Below w.heap.size w w' := by
  obtain ⟨hd0, hs⟩ := hsz
  have HT := Aside0.mk hT
  have HD := Aside0.mk hd
  have HS := Aside0.mk hs
  have HL0 := Aside0.mk hd0
  clear hT hd hs
  go_enter Tryd.func7, Tryd.ntmps7
  go_wp2_with (first
    | (go_at_call 18; refine (new_calls w w (Below.refl _ _)).mono ?_; rintro e w1 ⟨g, rfl, he, hb⟩; have E1 := Aside0.mk he; have B1 := Aside0.mk hb; clear he hb)
    | ((with_reducible refine gate_dst (N := 9) rfl ?_); refine box_event ?hg (N := 9) ?hd (cs := #[.slice none 0 0, .int .i64 0]) (t := 35) ?hr ?_; (case hd => rfl); (case hg => rfl); (case hr => first | (go_simp; done) | (go_simp; rfl)); intro gr hg w2 hbox hb; have HG := Aside0.mk hg; have H1 := Aside0.mk hbox; have B2 := Aside0.mk hb; clear hg hbox hb))
  have HBO := Aside0.mk (show Bth w.heap.size w2 g gr [] [] 0 from ⟨E1.out.below B2.out, ⟨by have := HG.out; have := B1.out.size; omega, ⟨_, H1.out, Hp.Row.nil _ _ _ _⟩⟩, .nil, (fun l hl => by cases hl), ⟨Nat.le_refl _, Nat.le_refl _⟩⟩)
  have HBW := Aside0.mk (B1.out.trans (B2.out.mono B1.out.size))
  clear H1 B2 E1 HG
  go_loopg [5] (len + 1) (fun gk v5 wr => ∃ (i : Nat) (st : List Sc) (Ls : List Lvl), v5 = .int .i64 i ∧ Aside0 (i ≤ len) ∧ Aside0 (len - i < gk) ∧ Aside0 (Bth w.heap.size wr g gr st Ls i) ∧ Aside0 (Below w.heap.size w wr))
  case atStart => exact ⟨0, [], [], rfl, ⟨by omega⟩, ⟨by omega⟩, HBO, HBW⟩
  case round =>
    obtain ⟨i, st, Ls, rfl, P1, P2, P3, P4⟩ := hrel
    cases gk with
    | zero => exact absurd P2.out (by have := P1.out; omega)
    | succ k1 =>
    have hp1 := P1.out
    by_cases hlt : i < len
    · obtain ⟨x, rfl, d0, d1, d2, d3⟩ := (HD.out.below P4.out).2 i hlt
      have HK := Aside0.mk d3
      have HSI := Aside0.mk (HS.out i hlt)
      have t1 : decide ((i : Int) < (len : Int)) = true := decide_eq_true (by omega)
      have t2 : decide (i < len) = true := decide_eq_true (by omega)
      have tw : wrap64 ((i : Int) + 1) = (i : Int) + 1 := w64 (by omega) (by omega)
      clear d3
      go_wp2_with (go_at_call 19; refine (does_calls P3.out (by omega) HK.out HSI.out.1 HSI.out.2 (HT.out.below P4.out)).mono ?_; rintro e w4 ⟨st', Ls', rfl, hbo, hb⟩; have B4 := Aside0.mk (P4.out.trans hb); have BO4 := Aside0.mk hbo; clear hb hbo)
      go_roundg k1
      case measure => have := P2.out; omega
      case rel => exact ⟨i + 1, st', Ls', by go_num, ⟨by omega⟩, ⟨by have := P2.out; omega⟩, BO4, B4⟩
    · have hi : i = len := by omega
      have t1 : decide ((i : Int) < (len : Int)) = false := decide_eq_false (by omega)
      have t2 : decide (i < len) = false := decide_eq_false (by omega)
      clear hi
      go_wp2_with (go_at_call 15; refine (lives_calls wr (HT.out.below P4.out)).mono ?_; rintro e w4 ⟨rfl, hb⟩; have B4 := Aside0.mk (P4.out.trans (hb.mono P4.out.size)); clear hb)
      go_ret
      exact ⟨rfl, B4.out⟩
end Go.Proofs.YticlppojbbocbaaDoor.Nm
namespace Go.Proofs.YticlppojbbocbaaDoor.Own
open Go Go.RowKit
theorem bulk_mem {H : Type} {l : List (DataW H)} {x : DataW H} (hx : x ∈ l) : Rows.uptoBulk x ≤ Rows.uptoBulkAll l := by
  induction l with
  | nil => cases hx
  | cons d r ih =>
    simp only [Rows.uptoBulkAll]
    rcases List.mem_cons.1 hx with rfl | h
    · omega
    · have := ih h; omega
theorem deeds_bulk {H : Type} {len : Nat} {D : Nat → Dd} {d : DataW H} (u : len = 0 ∨ ∃ spare, d = .slice ((List.range len).map fun i => .agg [.lit (.int .i64 (D i).k), .lit (.string (D i).n.data.toList), .lit (.string (D i).t.data.toList)]) spare) {r : Nat} (h : Rows.uptoBulk d ≤ r) :
    len ≤ r ∧ ∀ i, i < len → (D i).n.size ≤ r ∧ (D i).t.size ≤ r := by
  rcases u with rfl | ⟨spare, rfl⟩
  · exact ⟨Nat.zero_le _, fun i hi => absurd hi (Nat.not_lt_zero _)⟩
  · simp only [Rows.uptoBulk] at h
    have h1 := bulk_length ((List.range len).map fun i => (DataW.agg [.lit (.int .i64 (D i).k), .lit (.string (D i).n.data.toList), .lit (.string (D i).t.data.toList)] : DataW H))
    rw [List.length_map, List.length_range] at h1
    refine ⟨by omega, fun i hi => ?_⟩
    have hmem : (DataW.agg [.lit (.int .i64 (D i).k), .lit (.string (D i).n.data.toList), .lit (.string (D i).t.data.toList)] : DataW H) ∈ ((List.range len).map fun i => (DataW.agg [.lit (.int .i64 (D i).k), .lit (.string (D i).n.data.toList), .lit (.string (D i).t.data.toList)] : DataW H)) := List.mem_map.2 ⟨i, List.mem_range.2 hi, rfl⟩
    have h2 := bulk_mem hmem
    simp only [Rows.uptoBulk, Rows.uptoBulkAll] at h2
    have e1 : (D i).n.data.toList.length = (D i).n.size := by simp
    have e2 : (D i).t.data.toList.length = (D i).t.size := by simp
    exact ⟨by omega, by omega⟩
end Go.Proofs.YticlppojbbocbaaDoor.Own
