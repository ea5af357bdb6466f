/- strings.Builder in this program: the shelf's contracts, laid by hand (the shelf's own laying asks for two types that no body here names). -/
import Derived.Test.YtohkioijdokegaaDoorProg
import Derived.Test.YtohkioijdokegaaDoorOwn2
import Derived.Shelf.Strings.Builder1
namespace Go.Proofs
open Go.Shelf
set_option linter.unusedVariables false
def Tryd.laysB_ren : Go.Shelf.Ren := ⟨fun | 166 => 22 | 169 => 23 | 240 => 33 | 276 => 37 | n => n,
  fun | 37 => 36 | 70 => 51 | 72 => 53 | 75 => 56 | 80 => 59 | 127 => 70 | 164 => 71 | n => n, fun | n => n⟩
theorem Tryd.laysB240 : Go.Proofs.Lays.n240 Tryd.prog Tryd.laysB_ren := {
  mixed := by kernel_rfl
  f240 := Tryd.func33.trans (congrArg some (by kernel_rfl))
  f276 := Tryd.func37.trans (congrArg some (by kernel_rfl))
  t0 := Tryd.underlying0
  a0 := Tryd.isAgg0
  z0 := Tryd.sizeOf0
  v0 := Tryd.zeroValue0
  t4 := Tryd.underlying4
  a4 := Tryd.isAgg4
  z4 := Tryd.sizeOf4
  v4 := Tryd.zeroValue4
  t9 := Tryd.underlying9
  a9 := Tryd.isAgg9
  z9 := Tryd.sizeOf9
  v9 := Tryd.zeroValue9
  t20 := Tryd.underlying20
  a20 := Tryd.isAgg20
  z20 := Tryd.sizeOf20
  v20 := Tryd.zeroValue20
  t70 := Tryd.underlying51
  a70 := Tryd.isAgg51
  z70 := Tryd.sizeOf51
  v70 := Tryd.zeroValue51
  t72 := Tryd.underlying53
  a72 := Tryd.isAgg53
  z72 := Tryd.sizeOf53
  v72 := Tryd.zeroValue53
  t164 := Tryd.underlying71
  a164 := Tryd.isAgg71
  z164 := Tryd.sizeOf71
  v164 := Tryd.zeroValue71
}
theorem Tryd.laysB166 : Go.Proofs.Lays.n166 Tryd.prog Tryd.laysB_ren := {
  mixed := by kernel_rfl
  f166 := Tryd.func22.trans (congrArg some (by kernel_rfl))
  f240 := Tryd.func33.trans (congrArg some (by kernel_rfl))
  f276 := Tryd.func37.trans (congrArg some (by kernel_rfl))
  t0 := Tryd.underlying0
  a0 := Tryd.isAgg0
  z0 := Tryd.sizeOf0
  v0 := Tryd.zeroValue0
  t3 := Tryd.underlying3
  a3 := Tryd.isAgg3
  z3 := Tryd.sizeOf3
  v3 := Tryd.zeroValue3
  t4 := Tryd.underlying4
  a4 := Tryd.isAgg4
  z4 := Tryd.sizeOf4
  v4 := Tryd.zeroValue4
  t9 := Tryd.underlying9
  a9 := Tryd.isAgg9
  z9 := Tryd.sizeOf9
  v9 := Tryd.zeroValue9
  t20 := Tryd.underlying20
  a20 := Tryd.isAgg20
  z20 := Tryd.sizeOf20
  v20 := Tryd.zeroValue20
  t37 := Tryd.underlying36
  a37 := Tryd.isAgg36
  z37 := Tryd.sizeOf36
  v37 := Tryd.zeroValue36
  t70 := Tryd.underlying51
  a70 := Tryd.isAgg51
  z70 := Tryd.sizeOf51
  v70 := Tryd.zeroValue51
  t72 := Tryd.underlying53
  a72 := Tryd.isAgg53
  z72 := Tryd.sizeOf53
  v72 := Tryd.zeroValue53
  t75 := Tryd.underlying56
  a75 := Tryd.isAgg56
  z75 := Tryd.sizeOf56
  v75 := Tryd.zeroValue56
  t164 := Tryd.underlying71
  a164 := Tryd.isAgg71
  z164 := Tryd.sizeOf71
  v164 := Tryd.zeroValue71
}
theorem Tryd.laysB169 : Go.Proofs.Lays.n169 Tryd.prog Tryd.laysB_ren := {
  mixed := by kernel_rfl
  f169 := Tryd.func23.trans (congrArg some (by kernel_rfl))
  t0 := Tryd.underlying0
  a0 := Tryd.isAgg0
  z0 := Tryd.sizeOf0
  v0 := Tryd.zeroValue0
  t3 := Tryd.underlying3
  a3 := Tryd.isAgg3
  z3 := Tryd.sizeOf3
  v3 := Tryd.zeroValue3
  t9 := Tryd.underlying9
  a9 := Tryd.isAgg9
  z9 := Tryd.sizeOf9
  v9 := Tryd.zeroValue9
  t37 := Tryd.underlying36
  a37 := Tryd.isAgg36
  z37 := Tryd.sizeOf36
  v37 := Tryd.zeroValue36
  t70 := Tryd.underlying51
  a70 := Tryd.isAgg51
  z70 := Tryd.sizeOf51
  v70 := Tryd.zeroValue51
  t72 := Tryd.underlying53
  a72 := Tryd.isAgg53
  z72 := Tryd.sizeOf53
  v72 := Tryd.zeroValue53
  t127 := Tryd.underlying70
  a127 := Tryd.isAgg70
  z127 := Tryd.sizeOf70
  v127 := Tryd.zeroValue70
}
theorem Tryd.laysBX : Builder.Extra Tryd.prog Tryd.laysB_ren := {
  sizeBuilder := by kernel_rfl
  liesBuilder := by kernel_rfl
  t5 := Tryd.underlying5
  a5 := Tryd.isAgg5
  z5 := Tryd.sizeOf5
  v5 := Tryd.zeroValue5
  infoByte := by kernel_rfl
  cellsByte := by kernel_rfl
  sizeByte := by kernel_rfl
  neB5 := by decide }
namespace YtohkioijdokegaaDoor.Bld
open Go.RowKit Go.Proofs.YtohkioijdokegaaDoorW.PrintWords Go.Proofs.YtohkioijdokegaaDoorW.PrintLast Go.Proofs.YtohkioijdokegaaDoor.Own
/-- Block b (from B on) is a builder that holds the bytes l. -/
def Is (B b : Nat) (l : List UInt8) (w : World) : Prop := Lib.IsBuilder 53 5 B b (Lib.byteCells l) w
theorem Is.lt {B b : Nat} {l : List UInt8} {w : World} (h : Is B b l w) : b < w.heap.size := by rcases h with h | h <;> exact h.lt
theorem Is.ge {B b : Nat} {l : List UInt8} {w : World} (h : Is B b l w) : B ≤ b := by rcases h with h | h <;> exact h.1
theorem at_keep {B b : Nat} {p : Value} {l : List Value} {w w' : World} (h : Lib.BuilderAt 53 5 B b p l w) (hk : ∀ k, B ≤ k → k < w.heap.size → w'.heap[k]? = w.heap[k]?) (hs : w.heap.size ≤ w'.heap.size) : Lib.BuilderAt 53 5 B b p l w' := by
  have hlt := h.lt
  obtain ⟨hB, v, hb, ⟨hl, ho⟩, hne⟩ := h
  refine ⟨hB, v, (hk b hB hlt).trans hb, ⟨hl, ?_⟩, hne⟩
  rcases ho with h0 | ⟨g, cap, cur, rfl, hg, hh, r⟩
  · exact .inl h0
  · refine .inr ⟨g, cap, cur, rfl, hg, ?_, r⟩
    have hgl : g < w.heap.size := (Array.getElem?_eq_some_iff.1 hh).1
    exact (hk g hg hgl).trans hh
theorem Is.keep {B b : Nat} {l : List UInt8} {w w' : World} (h : Is B b l w) (hk : ∀ k, B ≤ k → k < w.heap.size → w'.heap[k]? = w.heap[k]?) (hs : w.heap.size ≤ w'.heap.size) : Is B b l w' := by
  rcases h with h | h
  · exact .inl (at_keep h hk hs)
  · exact .inr (at_keep h hk hs)
theorem Is.below {B b : Nat} {l : List UInt8} {w w' : World} (h : Is B b l w) (hb : Below w.heap.size w w') : Is B b l w' := h.keep (fun k _ hk => hb.block k hk) hb.size
theorem Is.new (w : World) (w1 : World) (b : Nat) (hb : b = w.heap.size) (h : w1 = w.alloc (.cells #[.pointer none, .slice none 0 0] 53)) : Is w.heap.size b [] w1 := by
  subst hb h
  exact Lib.fresh_isBuilder _ 5 w
theorem Is.fresh {w1 : World} {b B : Nat} (hB : B ≤ b) (h : w1.heap[b]? = some (.cells #[.pointer none, .slice none 0 0] 53 (0, 0))) : Is B b [] w1 :=
  .inl ⟨hB, .slice none 0 0, h, World.ownsRow_nil _ _ _ _, by simp [Value.ownBlock]⟩
theorem write_calls (B b : Nat) (l : List UInt8) (s : ByteArray) (w : World) (h : Is B b l w) (hlen : l.length + s.size ≤ 140737488355328) (hBw : B ≤ w.heap.size) :
    Calls Tryd.prog 22 #[.pointer (some ⟨b, 0, none⟩), .string s] w fun e w' => e = .returned (.tuple #[.int .i64 s.size, .nilIface]) ∧ Is B b (l ++ s.data.toList) w' ∧ Below B w w' := by
  refine (Any.Builder_WriteString Tryd.laysB166 Tryd.laysBX B b (Lib.byteCells l) s w h (by rw [Lib.byteCells_length]; exact hlen) hBw).mono ?_
  rintro e w' ⟨he, hb, hw⟩
  refine ⟨he, .inr ?_, hw⟩
  rw [Lib.strCells_eq, ← Lib.byteCells_append] at hb
  exact hb
theorem string_calls (B b : Nat) (l : List UInt8) (w : World) (h : Is B b l w) (hBw : B ≤ w.heap.size) :
    Calls Tryd.prog 23 #[.pointer (some ⟨b, 0, none⟩)] w fun e w' => e = .returned (.string ⟨l.toArray⟩) ∧ Below B w w' :=
  Any.Builder_String_any Tryd.laysB169 Tryd.laysBX B b l w h hBw
end YtohkioijdokegaaDoor.Bld
end Go.Proofs
