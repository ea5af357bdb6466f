/- A slice of bytes that came in: its bytes, parts of it, and 'string' of it. -/
import Derived.Test.YtohkioijdokegaaDoorOwn3
import Derived.Laws.IdiomStrings
namespace Go.Proofs.YtohkioijdokegaaDoor.Own
open Go Go.RowKit Go.Proofs.YtohkioijdokegaaDoorW.PrintWords Go.Proofs.YtohkioijdokegaaDoorW.PrintLast
set_option linter.unusedVariables false
set_option linter.unusedSimpArgs false
def IsBytes (w : World) (A : Option Addr) (tl : List UInt8) : Prop :=
  (A = none ∧ tl = []) ∨ ∃ x, A = some x ∧ ∀ j (hj : j < tl.length), w.cell? (x.add j) = some (.int .u8 (tl[j].toNat : Int))
theorem IsRow.bytes {w : World} {A : Option Addr} {len cap : Nat} {zs : List Int} (h : IsRow .u8 w A len cap zs) : ∃ tl : List UInt8, tl.length = len ∧ IsBytes w A tl := by
  rcases h with ⟨rfl, rfl, rfl, rfl⟩ | ⟨x, rfl, h1, h2, h3, h4, h5⟩
  · exact ⟨[], rfl, .inl ⟨rfl, rfl⟩⟩
  · refine ⟨(zs.take len).map (fun n => UInt8.ofNat n.toNat), by simp; omega, .inr ⟨x, rfl, fun j hj => ?_⟩⟩
    simp only [List.length_map, List.length_take] at hj
    rw [h4 j (by omega)]
    obtain ⟨u, hu⟩ := byte_of (h5 _ (List.getElem_mem (show j < zs.length by omega)))
    simp only [List.getElem_map, List.getElem_take, List.getD_eq_getElem?_getD, List.getElem?_eq_getElem (show j < zs.length by omega), Option.getD_some, hu]
    simp
theorem IsBytes.take {w : World} {A : Option Addr} {tl : List UInt8} (h : IsBytes w A tl) (k : Nat) : IsBytes w A (tl.take k) := by
  rcases h with ⟨rfl, rfl⟩ | ⟨x, rfl, h⟩
  · exact .inl ⟨rfl, by simp⟩
  · refine .inr ⟨x, rfl, fun j hj => ?_⟩
    simp only [List.length_take] at hj
    rw [h j (by omega)]
    simp
theorem IsBytes.at_ {w : World} {A : Option Addr} {tl : List UInt8} (h : IsBytes w A tl) (i : Nat) (hi : i < tl.length) : ∃ x, A = some x ∧ w.cell? (x.add i) = some (.int .u8 (tl[i].toNat : Int)) ∧ IsBytes w (some (x.add i)) [tl[i]] := by
  rcases h with ⟨rfl, rfl⟩ | ⟨x, rfl, h⟩
  · simp at hi
  · refine ⟨x, rfl, h i hi, .inr ⟨_, rfl, fun j hj => ?_⟩⟩
    obtain rfl : j = 0 := by simpa using hj
    have : (x.add i).add 0 = x.add i := by simp [Addr.add]
    rw [this, h i hi]
    rfl
theorem IsBytes.below {w w' : World} {A : Option Addr} {tl : List UInt8} (h : IsBytes w A tl) (hb : Below w.heap.size w w') : IsBytes w' A tl := by
  rcases h with h | ⟨x, rfl, h⟩
  · exact .inl h
  · exact .inr ⟨x, rfl, fun j hj => below_cell hb (h j hj)⟩
section
variable {P : Program} {ops : Array Oper} {rest : List Oper} {o : Oper} {a : Act} {Q : Exit → Act → World → Prop}
theorem arg_event {W : World} (hgd : o.guard = none) {src dst e : TypeId} {x : Operand} (hop : o.op = .convert src dst x) {A : Option Addr} {m c : Nat} {tl : List UInt8} (hx : a.eval x = .slice A m c) (hm : m = tl.length)
    (hs : P.underlying src = some (.slice e)) (he : P.underlying e = some (.int .u8)) (hd : P.underlying dst = some .string) (hB : IsBytes W A tl)
    (h : wpList P ops Q rest (a.put o.dst (.string ⟨tl.toArray⟩)) W) : wpList P ops Q (o :: rest) a W := by
  refine Kd.event_run hgd (v := .string ⟨tl.toArray⟩) (w1 := W) ?_ h
  subst hm
  have hr : (convert src dst (.slice A tl.length c)).run P W = .ok (.string ⟨tl.toArray⟩) W := by
    rcases hB with ⟨rfl, rfl⟩ | ⟨y, rfl, hc⟩
    · exact run_convert_bytes_nil W src e hs he _ _ dst hd
    · exact run_convert_bytes_back W src dst e y c tl hs he hd hc
  unfold execOp
  simp only [hop, hx]
  simp [hr]
end
end Go.Proofs.YtohkioijdokegaaDoor.Own
