/- Maps of texts to bools, told by owner. -/
import Derived.Test.YtalaedpiimdcbaaGreatDoorOwnMap
import Derived.Test.YtalaedpiimdcbaaGreatDoorEv
namespace Go.Proofs.YtalaedpiimdcbaaGreatDoor.Hp
open Go Go.RowKit Go.Proofs.YtalaedpiimdcbaaGreatDoorW.PrintWords Go.Proofs.YtalaedpiimdcbaaGreatDoorW.PrintLast Go.Proofs.YtalaedpiimdcbaaGreatDoor.Own
open Go.ChangeMaps Go.MapKept
open Go.Maps (Keyed)
set_option linter.unusedVariables false
set_option linter.unusedSimpArgs false
instance memText (x : ByteArray) (l : List ByteArray) : Decidable (x ∈ l) := decidable_of_iff (l.any (fun y => decide (x = y)) = true) (by simp)
theorem plainElem_bool_inv {H : Type} {P : Program} {e : TypeId} (he : P.underlying e = some .bool) {v : Value} {z : DataW H × List MemPlace} (h : plainElem P e v = some z) : ∃ b : Bool, v = .bool b ∧ z = (.lit (.bool b), []) := by
  unfold plainElem at h
  rw [he] at h
  cases v <;> simp at h
  exact ⟨_, rfl, h.symm⟩
def TB (P : Program) (t k e : TypeId) : Prop := P.underlying t = some (.map k e) ∧ P.underlying k = some .string ∧ P.underlying e = some .bool ∧ ∀ w, (zeroValue e).run P w = .ok (.bool false) w
/-- Texts to bools. -/
def mkB {P : Program} {t k e : TypeId} (h0 : TB P t k e) : MKind P t k e ByteArray Bool where
  kv := fun x => .string x
  kl := fun x => .string x.data.toList
  vv := fun x => .bool x
  vl := fun x => .bool x
  d := false
  okk := fun x => x.size ≤ maxLen
  okv := fun x => True
  ht := h0.1
  keyed := Maps.string_keyed h0.2.1
  key := fun a h => WideMaps.keyOf_string_mk h0.2.1 h
  lit := fun a => trivial
  inj := fun a b h => by
    injection h with h
    cases a; cases b
    simp at h
    rw [h]
  val := fun b h => plainElem_bool h0.2.2.1 b
  inv := fun v ps b h => by
    obtain ⟨a, rfl, hz⟩ := plainElem_bool_inv h0.2.2.1 h
    injection hz with h1 _
    injection h1 with h1
    injection h1 with h1
    rw [h1]
  zero := h0.2.2.2
  okd := trivial
section
variable {P : Program} {t k e : TypeId} {α β : Type} {M : MKind P t k e α β} {T : Option Nat → Prop} {F : Nat → Prop} {w w1 : World} {b n m : Nat} {f : α → Option β}
theorem is_block (h : M.Is w b n m f) : ∃ es clock, w.heap[b]? = some (.map es clock) := by
  obtain ⟨D, ⟨es, clock, h1, _⟩, _⟩ := h
  exact ⟨es, clock, h1⟩
theorem is_ch (h : M.Is w b n m f) (hc : Ch T F w w1) (hn : ¬ (F b ∧ T none)) : M.Is w1 b n m f := by
  obtain ⟨es, clock, h1⟩ := is_block h
  exact h.same ((hc.block b _ h1 hn).trans h1.symm)
theorem put_ch (h : M.Is w b n m f) (hF : F b) (hg : w.grownBy w1 (some b)) : Ch (fun t => t = none) F w w1 := by
  obtain ⟨es, clock, h1⟩ := is_block h
  refine ⟨hg.os, hg.tape, hg.output, hg.size, fun k o hk hne => ?_⟩
  by_cases hkb : k = b
  · subst hkb
    rw [h1] at hk
    injection hk with hk
    subst hk
    exact absurd ⟨hF, rfl⟩ hne
  · exact (hg.block k (blk_lt hk) (fun he => hkb (Option.some.inj he))).trans hk
end
/-- The keys that were put, as a map. -/
def hadF (l : List ByteArray) (y : ByteArray) : Option Bool := if y ∈ l then some true else none
theorem hadF_snoc (l : List ByteArray) (s y : ByteArray) : (if y = s then some true else hadF l y) = hadF (l ++ [s]) y := by
  unfold hadF
  by_cases h : y = s
  · rw [if_pos h, if_pos (by simp [h])]
  · rw [if_neg h]
    by_cases h2 : y ∈ l
    · rw [if_pos h2, if_pos (by simp [h2])]
    · rw [if_neg h2, if_neg (by simp [h, h2])]
section
variable {P : Program} {ops : Array Oper} {rest : List Oper} {o : Oper} {a : Act} {Q : Exit → Act → World → Prop} {t k e : TypeId} {α β : Type} {M : MKind P t k e α β}
/-- 'm[k]' without a second answer. -/
theorem look1_event {W : World} (hgd : o.guard = none) {mo ko : Operand} (hop : o.op = .lookup t mo ko false) (M : MKind P t k e α β) {b n m : Nat} {f : α → Option β} (hm : a.eval mo = .map (some b)) (x : α) (hk : a.eval ko = M.kv x)
    (hM : M.Is W b n m f) (hx : M.okk x) (h : wpList P ops Q rest (a.put o.dst (M.vv ((f x).getD M.d))) W) : wpList P ops Q (o :: rest) a W := by
  refine Kd.event_run hgd ?_ h
  unfold execOp
  rw [hop]
  simp [hm, hk, hM.look1 x hx, Result.andThen]
end
end Go.Proofs.YtalaedpiimdcbaaGreatDoor.Hp
