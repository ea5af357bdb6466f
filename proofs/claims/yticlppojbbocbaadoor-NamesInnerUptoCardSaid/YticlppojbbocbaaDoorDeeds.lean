/- Arguments that are slices of structs (a whole number and two texts): their cells, as data. -/
import Derived.Test.YticlppojbbocbaaDoorOwn2
import Derived.Deep.Slices
import Derived.Deep.Fields
import Derived.ChangeSame
import Derived.OpenShut
namespace Go.Proofs.YticlppojbbocbaaDoor.Own
open Go Go.ChangeShapes Go.WideShapes Go.Deep Go.RowKit Go.Proofs.YticlppojbbocbaaDoorW.PrintWords
set_option linter.unusedVariables false
set_option linter.unusedSimpArgs false
section
variable {H : Type} {enc : TypeId × Value → H} {P : Program} {w : World} {base : Nat} {spare : Nat → Bool} {held : Bool}
theorem open_slice_fields {t e : TypeId} {fs : Array Field} {fuel : Nat} {cs : List Value} {x : DataW H × List MemPlace} (ht : P.underlying t = some (.slice e)) (he : P.underlying e = some (.struct fs))
    (hone : oneCellFields P fs = true) (hC : P.cellsOf e = fs.size) (h : DataW.trod enc P w base spare held fuel t cs = some x) :
    (cs = [.slice none 0 0] ∧ x = (.nil, [])) ∨
    ∃ (a : Addr) (len cap m : Nat) (D : Nat → DataW H) (Pl : Nat → List MemPlace), cs = [.slice (some a) len cap] ∧ base ≤ a.block ∧ len ≤ cap ∧ cap ≤ maxLen ∧ m = (if spare a.block then cap else len) ∧
      x = (.slice ((List.range len).map D) ((List.range (m - len)).map fun j => D (len + j)), MemPlace.row a (m * fs.size) ++ (List.range m).flatMap Pl) ∧
      ∀ i, i < m → ∃ (ys : List (DataW H × List MemPlace)) (n : Nat), D i = .agg (ys.map (·.1)) ∧ Pl i = ys.flatMap (·.2) ∧ ys.length = fs.size ∧
        ∀ (j : Nat) (f : Field), fs[j]? = some f → ∃ (v : Value) (y : DataW H × List MemPlace), w.cell? (a.add (i * fs.size + j)) = some v ∧ ys[j]? = some y ∧ DataW.trod enc P w base spare held n f.type [v] = some y := by
  rcases open_slice ht h with h0 | ⟨a, len, cap, m, n, D, Pl, hcs, hb, hl, hm, hmm, hx, hi⟩
  · exact .inl h0
  · refine .inr ⟨a, len, cap, m, D, Pl, hcs, hb, hl, hm, hmm, by rw [hC] at hx; exact hx, fun i him => ?_⟩
    obtain ⟨cs', hc, ht'⟩ := hi i him
    rw [hC] at hc
    obtain ⟨ys, n', hn', hy, hlen, hyl, hf⟩ := DataW.trod_struct he ht'
    obtain ⟨_, hcl, hat⟩ := World.cells?_some hc
    simp only [Prod.mk.injEq] at hy
    refine ⟨ys, n', hy.1, hy.2, hyl, fun j f hj => ?_⟩
    obtain ⟨ho, hk⟩ := hone_of hone j f hj
    have hjl : j < fs.size := (Array.getElem?_eq_some_iff.1 hj).1
    have hcell := hat j hjl
    have hv : cs'[j]? = some (cs'[j]'(by omega)) := List.getElem?_eq_getElem (by omega)
    have h1 := hf j f hj
    rw [ho, hk] at h1
    have hone' : (cs'.drop j).take 1 = [cs'[j]'(by omega)] := by
      rw [List.drop_eq_getElem_cons (by omega)]
      rfl
    rw [hone'] at h1
    have hys : ys[j]? = some (ys[j]'(by omega)) := List.getElem?_eq_getElem (by omega)
    refine ⟨_, _, ?_, hys, h1.trans hys⟩
    rw [← Go.Deep.add_add, hcell, hv]
end
/-- A deed as data. -/
structure Dd where
  k : Int
  n : ByteArray
  t : ByteArray
/-- A slice of deeds that came in. -/
def IsDeeds (w : World) (a : Option Addr) (len : Nat) (D : Nat → Dd) : Prop :=
  len ≤ 9223372036854775807 ∧ ∀ i, i < len → ∃ x, a = some x ∧ w.cell? (x.add (i * 3)) = some (.int .i64 (D i).k) ∧ w.cell? ⟨(x.add (i * 3)).block, (x.add (i * 3)).off + 1, none⟩ = some (.string (D i).n) ∧ w.cell? ⟨(x.add (i * 3)).block, (x.add (i * 3)).off + 2, none⟩ = some (.string (D i).t) ∧
    (-9223372036854775808 ≤ (D i).k ∧ (D i).k ≤ 9223372036854775807)
theorem IsDeeds.below {w w' : World} {a : Option Addr} {len : Nat} {D : Nat → Dd} (h : IsDeeds w a len D) (hb : Below w.heap.size w w') : IsDeeds w' a len D :=
  ⟨h.1, fun i hi => by
    obtain ⟨x, h1, h2, h3, h4, h5⟩ := h.2 i hi
    exact ⟨x, h1, below_cell hb h2, below_cell hb h3, below_cell hb h4, h5⟩⟩
theorem open_deeds {H : Type} {enc : TypeId × Value → H} {P : Program} {w : World} {base : Nat} {held : Bool} {t e : TypeId} {f0 f1 f2 : Field} {a : Option Addr} {len cap : Nat} {d : DataW H} {p : List MemPlace} (ht : P.underlying t = some (.slice e)) (he : P.underlying e = some (.struct #[f0, f1, f2]))
    (hone : oneCellFields P #[f0, f1, f2] = true) (hC : P.cellsOf e = 3) (h0 : P.underlying f0.type = some (.int .i64)) (h1 : P.underlying f1.type = some .string) (h2 : P.underlying f2.type = some .string)
    (h : DataW.Trod enc P w base (fun _ => true) held t (.slice a len cap) d p) :
    ∃ D : Nat → Dd, IsDeeds w a len D ∧ (len = 0 ∨ ∃ spare, d = .slice ((List.range len).map fun i => .agg [.lit (.int .i64 (D i).k), .lit (.string (D i).n.data.toList), .lit (.string (D i).t.data.toList)]) spare) := by
  obtain ⟨fuel, hf⟩ := h
  rcases open_slice_fields ht he hone hC hf with ⟨hcs, _⟩ | ⟨x, l, c, m, DD, Pl, hcs, hb, hl, hm, hmm, hx, hi⟩
  · simp [Value.cells] at hcs
    obtain ⟨rfl, rfl, rfl⟩ := hcs
    exact ⟨fun _ => ⟨0, ⟨#[]⟩, ⟨#[]⟩⟩, ⟨by omega, fun i hi => absurd hi (Nat.not_lt_zero _)⟩, .inl rfl⟩
  · simp [Value.cells] at hcs
    obtain ⟨rfl, rfl, rfl⟩ := hcs
    have hmc : m = cap := by rw [hmm]; simp
    have each : ∀ i, i < len → ∃ q : Dd, (w.cell? (x.add (i * 3)) = some (.int .i64 q.k) ∧ w.cell? ⟨(x.add (i * 3)).block, (x.add (i * 3)).off + 1, none⟩ = some (.string q.n) ∧ w.cell? ⟨(x.add (i * 3)).block, (x.add (i * 3)).off + 2, none⟩ = some (.string q.t) ∧
        (-9223372036854775808 ≤ q.k ∧ q.k ≤ 9223372036854775807)) ∧ DD i = .agg [.lit (.int .i64 q.k), .lit (.string q.n.data.toList), .lit (.string q.t.data.toList)] := by
      intro i hil
      obtain ⟨ys, n', hy, _, hyl, hff⟩ := hi i (by omega)
      obtain ⟨v0, y0, c0, e0, t0⟩ := hff 0 f0 rfl
      obtain ⟨v1, y1, c1, e1, t1⟩ := hff 1 f1 rfl
      obtain ⟨v2, y2, c2, e2, t2⟩ := hff 2 f2 rfl
      obtain ⟨k, hk1, rfl, hk3⟩ := DataW.trod_int h0 t0
      obtain ⟨s1, hs1, rfl, _⟩ := DataW.trod_string h1 t1
      obtain ⟨s2, hs2, rfl, _⟩ := DataW.trod_string h2 t2
      injection hk1 with hk1; subst hk1
      injection hs1 with hs1; subst hs1
      injection hs2 with hs2; subst hs2
      have hys : ys = [(.lit (.int .i64 k), []), (.lit (.string s1.data.toList), []), (.lit (.string s2.data.toList), [])] := by
        match ys, hyl with
        | [z0, z1, z2], _ =>
          injection e0 with e0; injection e1 with e1; injection e2 with e2
          rw [e0, e1, e2]
      refine ⟨⟨k, s1, s2⟩, ⟨by simpa using c0, ?_, ?_, bounds_i64 hk3⟩, by rw [hy, hys]; rfl⟩
      · rw [← add_field _ _ 1 (by omega)]; exact c1
      · rw [← add_field _ _ 2 (by omega)]; exact c2
    haveI : Inhabited Dd := ⟨⟨0, ⟨#[]⟩, ⟨#[]⟩⟩⟩
    obtain ⟨q, hq⟩ := choose_lt each
    refine ⟨q, ⟨by have hM : cap ≤ 9223372036854775807 := hm; omega, fun i hil => ⟨x, rfl, (hq i hil).1⟩⟩, .inr ⟨(List.range (m - len)).map fun j => DD (len + j), ?_⟩⟩
    · have hx1 := congrArg Prod.fst hx
      simp only at hx1
      rw [hx1]
      congr 1
      exact List.map_congr_left (fun i hir => (hq i (by simpa using hir)).2)
theorem weightsAll_mem {H : Type} {P : Program} {e : TypeId} {l : List (DataW H)} {x : DataW H} (hx : x ∈ l) {y : Nat} (hy : y ∈ x.weights P e) : y ∈ DataW.weightsAll P e l := by
  induction l with
  | nil => cases hx
  | cons d r ih =>
    simp only [DataW.weightsAll, List.mem_append]
    rcases List.mem_cons.1 hx with rfl | h
    · exact .inl hy
    · exact .inr (ih h)
theorem deeds_sized {H : Type} {P : Program} {t e : TypeId} {f0 f1 f2 : Field} {len : Nat} {D : Nat → Dd} {spare : List (DataW H)} (ht : P.underlying t = some (.slice e)) (he : P.underlying e = some (.struct #[f0, f1, f2])) {r : Nat}
    (h : ∀ y ∈ (DataW.slice ((List.range len).map fun i => (.agg [.lit (.int .i64 (D i).k), .lit (.string (D i).n.data.toList), .lit (.string (D i).t.data.toList)] : DataW H)) spare).weights P t, y ≤ r) :
    ∀ i, i < len → (D i).n.size ≤ r ∧ (D i).t.size ≤ r := by
  intro i hi
  simp only [DataW.weights, ht] at h
  have hm : ∀ y, y ∈ (DataW.agg [.lit (.int .i64 (D i).k), .lit (.string (D i).n.data.toList), .lit (.string (D i).t.data.toList)] : DataW H).weights P e → y ≤ r := fun y hy =>
    h y (List.mem_cons_of_mem _ (List.mem_append_left _ (weightsAll_mem (List.mem_map.2 ⟨i, List.mem_range.2 hi, rfl⟩) hy)))
  simp only [DataW.weights, he, List.map_cons, List.map_nil, DataW.weightsEach, List.nil_append, List.append_nil, List.mem_append, List.mem_singleton] at hm
  have e1 : (D i).n.data.toList.length = (D i).n.size := by simp
  have e2 : (D i).t.data.toList.length = (D i).t.size := by simp
  exact ⟨e1 ▸ hm _ (.inl rfl), e2 ▸ hm _ (.inr rfl)⟩
end Go.Proofs.YticlppojbbocbaaDoor.Own
