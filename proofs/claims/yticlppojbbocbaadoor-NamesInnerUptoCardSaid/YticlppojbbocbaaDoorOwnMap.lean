/- A map of the call's own, as a function: what a key stands for, or nothing. -/
import Derived.Test.YticlppojbbocbaaDoorOwn2
import Derived.Maps.OwnSet
import Derived.Maps.StringElems
namespace Go.Proofs.YticlppojbbocbaaDoor.Own
open Go Go.RowKit Go.Proofs.YticlppojbbocbaaDoorW.PrintWords Go.Proofs.YticlppojbbocbaaDoorW.PrintLast
open Go.ChangeMaps Go.MapKept
open Go.Maps (Keyed)
set_option linter.unusedVariables false
set_option linter.unusedSimpArgs false

/-- How keys (α) and elements (β) of a map's type stand in the model. -/
structure MKind (P : Program) (t k e : TypeId) (α β : Type) where
  kv : α → Value
  kl : α → Lit
  vv : β → Value
  vl : β → Lit
  d : β
  okk : α → Prop
  okv : β → Prop
  ht : P.underlying t = some (.map k e)
  keyed : Keyed P k
  key : ∀ a, okk a → keyOf P k (kv a) = some (kl a)
  lit : ∀ a, WideAt.IsKeyLit (kl a)
  inj : ∀ a b, kl a = kl b → a = b
  val : ∀ b, okv b → plainElem (H := Unit) P e (vv b) = some (.lit (vl b), [])
  inv : ∀ v ps b, plainElem (H := Unit) P e v = some (.lit (vl b), ps) → v = vv b
  zero : ∀ w, (zeroValue e).run P w = .ok (vv d) w
  okd : okv d

namespace MKind
variable {P : Program} {t k e : TypeId} {α β : Type} (M : MKind P t k e α β)

/-- Block b is a map of m entries (at most n) that f tells. -/
def Is (w : World) (b n m : Nat) (f : α → Option β) : Prop :=
  ∃ D : DataW Unit, w.ownsMap P k (plainElem P e) b n D ∧ Maps.size D = m ∧ ∀ a, Maps.has D (M.kl a) = (f a).isSome ∧ ∀ z, D.atKey (M.kl a) z = ((f a).map fun x => DataW.lit (M.vl x)).getD z

variable {M} {w w' : World} {b n m : Nat} {f : α → Option β}

theorem Is.made (M : MKind P t k e α β) {w : World} {b : Nat} (h : w.heap[b]? = some (.map #[] 0)) : M.Is w b 0 0 (fun _ => none) := by
  refine ⟨.map [], ⟨#[], 0, h, ⟨by simp, stamped_empty 0, by simp⟩, Nat.le_refl _, rfl⟩, rfl, fun a => ⟨rfl, fun z => rfl⟩⟩
theorem Is.lt (h : M.Is w b n m f) : b < w.heap.size := by obtain ⟨D, h, _⟩ := h; exact h.lt
theorem Is.same (h : M.Is w b n m f) (hb : w'.heap[b]? = w.heap[b]?) : M.Is w' b n m f := by
  obtain ⟨D, ⟨es, clock, h1, r⟩, h2⟩ := h
  exact ⟨D, ⟨es, clock, hb.trans h1, r⟩, h2⟩
theorem Is.mono (h : M.Is w b n m f) {n' : Nat} (hn : n ≤ n') : M.Is w b n' m f := by
  obtain ⟨D, h1, h2⟩ := h
  exact ⟨D, h1.mono hn, h2⟩
theorem Is.below (h : M.Is w b n m f) (hb : Below w.heap.size w w') : M.Is w' b n m f := h.same (hb.block b h.lt)
theorem Is.grown (h : M.Is w b n m f) {row : Option Nat} (hg : w.grownBy w' row) (hne : some b ≠ row) : M.Is w' b n m f := h.same (hg.block b h.lt hne)
theorem Is.keepBut (h : M.Is w b n m f) {g : Nat} {row : Option Nat} (hk : KeepBut w w' g row) (hg : b ≠ g) (hr : some b ≠ row) : M.Is w' b n m f := h.same (hk.2 b h.lt hg hr)
theorem Is.set (h : M.Is w b n m f) {p : Addr} (hne : b ≠ p.block) (u : Value) : M.Is (w.setCell p u) b n m f := h.same (Below.heap_setCell _ _ _ _ hne)
theorem Is.ext (h : M.Is w b n m f) {f' : α → Option β} (hf : ∀ a, f a = f' a) : M.Is w b n m f' := by
  have : f = f' := funext hf
  rw [← this]; exact h

theorem Is.look (h : M.Is w b n m f) (a : α) (ha : M.okk a) : (Instr.lookup t (.map (some b)) (M.kv a) true).run P w = .ok (.tuple #[M.vv ((f a).getD M.d), .bool (f a).isSome]) w := by
  obtain ⟨D, h1, h2, h3⟩ := h
  obtain ⟨v, ps, hrun, hv⟩ := h1.look_ok M.keyed M.ht (M.zero w) (M.val M.d M.okd) (M.key a ha)
  rw [(h3 a).1] at hrun
  rw [(h3 a).2] at hv
  have hv' : plainElem (H := Unit) P e v = some (.lit (M.vl ((f a).getD M.d)), ps) := by
    rw [hv]; cases f a <;> rfl
  rw [M.inv v ps _ hv'] at hrun
  exact hrun
theorem Is.look1 (h : M.Is w b n m f) (a : α) (ha : M.okk a) : (Instr.lookup t (.map (some b)) (M.kv a) false).run P w = .ok (M.vv ((f a).getD M.d)) w := by
  obtain ⟨D, h1, h2, h3⟩ := h
  obtain ⟨v, ps, hrun, hv⟩ := h1.lookup M.keyed M.ht (M.zero w) (M.val M.d M.okd) (M.key a ha)
  rw [(h3 a).2] at hv
  have hv' : plainElem (H := Unit) P e v = some (.lit (M.vl ((f a).getD M.d)), ps) := by
    rw [hv]; cases f a <;> rfl
  rw [M.inv v ps _ hv'] at hrun
  exact hrun
theorem Is.len (h : M.Is w b n m f) (ty : TypeId) : (Builtin.len_ #[t] ty #[.map (some b)]).run P w = .ok (.int .i64 m) w := by
  obtain ⟨D, h1, h2, h3⟩ := h
  rw [← h2]
  exact h1.len M.ht ty
theorem Is.put [DecidableEq α] (h : M.Is w b n m f) (hn : n < maxLen) (a : α) (x : β) (ha : M.okk a) (hx : M.okv x) :
    ∃ w', (Instr.mapUpdate t (.map (some b)) (M.kv a) (M.vv x)).run P w = .ok () w' ∧ M.Is w' b (n + 1) (if (f a).isSome then m else m + 1) (fun y => if y = a then some x else f y) ∧ w.grownBy w' (some b) := by
  obtain ⟨D, h1, h2, h3⟩ := h
  have hty := h1.tidy M.keyed
  have him := h1.isMap
  obtain ⟨w', hrun, r1, r2⟩ := h1.update M.keyed M.ht hn (M.key a ha) (M.val x hx)
  refine ⟨w', hrun, ⟨_, r1, ?_, fun y => ?_⟩, r2⟩
  · rw [Maps.size_put hty, (h3 a).1, h2]
  · by_cases hy : y = a
    · subst hy
      simp only [if_true]
      exact ⟨Maps.has_put_same him (M.lit y) _, fun z => by rw [Maps.atKey_put_same him (M.lit y)]; rfl⟩
    · simp only [if_neg hy]
      have hne : M.kl y ≠ M.kl a := fun e => hy (M.inj _ _ e)
      exact ⟨by rw [Maps.has_put_other hne]; exact (h3 y).1, fun z => by rw [Maps.atKey_put_other hne]; exact (h3 y).2 z⟩
section
variable {ops : Array Oper} {rest : List Oper} {o : Oper} {a : Act} {Q : Exit → Act → World → Prop}
/-- 'make(map)' and a literal's first step, as one step of a walk. -/
theorem make_event (M : MKind P t k e α β) {W : World} (hgd : o.guard = none) {ty : TypeId} (hop : o.op = .makeMap ty none)
    (h : ∀ g, W.heap.size ≤ g → ∀ w1, M.Is w1 g 0 0 (fun _ => none) → Below W.heap.size W w1 → wpList P ops Q rest (a.put o.dst (.map (some g))) w1) : wpList P ops Q (o :: rest) a W := by
  refine Kd.event_run hgd (v := .map (some W.heap.size)) (w1 := W.alloc (.map #[] 0)) ?_ (h _ (Nat.le_refl _) _ (Is.made M (MapKept.heap_alloc W _).1) (below_alloc (Below.refl _ _) _))
  unfold execOp
  rw [hop]
  rfl
theorem put_event [DecidableEq α] {W : World} (hgd : o.guard = none) {mo ko vo : Operand} (hop : o.op = .insert t mo ko vo ∨ o.op = .mapUpdate t mo ko vo) (M : MKind P t k e α β) {b n m : Nat} {f : α → Option β} (hm : a.eval mo = .map (some b)) (x : α) (y : β) (hk : a.eval ko = M.kv x) (hv : a.eval vo = M.vv y)
    (hM : M.Is W b n m f) (hn : n < maxLen) (hx : M.okk x) (hy : M.okv y)
    (h : ∀ w1, M.Is w1 b (n + 1) (if (f x).isSome then m else m + 1) (fun z => if z = x then some y else f z) → W.grownBy w1 (some b) → wpList P ops Q rest (a.put o.dst undef) w1) : wpList P ops Q (o :: rest) a W := by
  refine wpList_plain hgd fun K' hK' => ?_
  obtain ⟨w', hrun, r1, r2⟩ := hM.put hn x y hx hy
  unfold Oper.wp
  rcases hop with hop | hop <;>
  · simp [execOp, hop, hm, hk, hv, hrun, Result.andThen]
    exact hK' _ _ (h w' r1 r2)
theorem look_event {W : World} (hgd : o.guard = none) {mo ko : Operand} (hop : o.op = .lookup t mo ko true) (M : MKind P t k e α β) {b n m : Nat} {f : α → Option β} (hm : a.eval mo = .map (some b)) (x : α) (hk : a.eval ko = M.kv x)
    (hM : M.Is W b n m f) (hx : M.okk x)
    (h : wpList P ops Q rest (a.put o.dst (.tuple #[M.vv ((f x).getD M.d), .bool (f x).isSome])) W) : wpList P ops Q (o :: rest) a W := by
  refine Kd.event_run hgd ?_ h
  unfold execOp
  rw [hop]
  simp [hm, hk, hM.look x hx, Result.andThen]
end
end MKind

def T8 (P : Program) (t k e : TypeId) : Prop := P.underlying t = some (.map k e) ∧ P.underlying k = some (.int .u8) ∧ P.underlying e = some (.int .u8) ∧ ∀ w, (zeroValue e).run P w = .ok (.int .u8 0) w
/-- Bytes to bytes. -/
def mk8 {P : Program} {t k e : TypeId} (h0 : T8 P t k e) : MKind P t k e Int Int where
  kv := fun x => .int .u8 x
  kl := fun x => .int .u8 x
  vv := fun x => .int .u8 x
  vl := fun x => .int .u8 x
  d := 0
  okk := fun x => 0 ≤ x ∧ x < 256
  okv := fun x => 0 ≤ x ∧ x < 256
  ht := h0.1
  keyed := Maps.int_keyed h0.2.1
  key := fun a h => Maps.keyOf_int_mk h0.2.1 (by have h0 := h.1; have h1 := h.2; simp [Lit.wf, IntKind.min, IntKind.max, IntKind.signed, IntKind.bits]; omega)
  lit := fun a => trivial
  inj := fun a b h => by injection h
  val := fun b h => plainElem_int h0.2.2.1 (by have h0 := h.1; have h1 := h.2; simp [Lit.wf, IntKind.min, IntKind.max, IntKind.signed, IntKind.bits]; omega)
  inv := fun v ps b h => by
    obtain ⟨a, rfl, hz, _⟩ := plainElem_int_inv h0.2.2.1 h
    injection hz with h1 _
    injection h1 with h1
    injection h1 with _ h1
    rw [h1]
  zero := h0.2.2.2
  okd := by omega

def TS (P : Program) (t k e : TypeId) : Prop := P.underlying t = some (.map k e) ∧ P.underlying k = some .string ∧ P.underlying e = some .string ∧ ∀ w, (zeroValue e).run P w = .ok (.string ⟨#[]⟩) w
/-- Texts to texts. -/
def mkS {P : Program} {t k e : TypeId} (h0 : TS P t k e) : MKind P t k e ByteArray ByteArray where
  kv := fun x => .string x
  kl := fun x => .string x.data.toList
  vv := fun x => .string x
  vl := fun x => .string x.data.toList
  d := ⟨#[]⟩
  okk := fun x => x.size ≤ maxLen
  okv := fun x => x.size ≤ maxLen
  ht := h0.1
  keyed := Maps.string_keyed h0.2.1
  key := fun a h => WideMaps.keyOf_string_mk h0.2.1 h
  lit := fun a => trivial
  inj := fun a b h => by
    injection h with h
    cases a; cases b
    simp at h
    rw [h]
  val := fun b h => plainElem_string h0.2.2.1 h
  inv := fun v ps b h => by
    obtain ⟨a, rfl, hz, _⟩ := plainElem_string_inv h0.2.2.1 h
    injection hz with h1 _
    injection h1 with h1
    injection h1 with h1
    cases a; cases b
    simp at h1
    rw [h1]
  zero := h0.2.2.2
  okd := by decide

end Go.Proofs.YticlppojbbocbaaDoor.Own
