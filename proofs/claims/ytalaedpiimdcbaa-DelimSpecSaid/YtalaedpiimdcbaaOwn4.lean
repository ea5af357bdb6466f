/- More words of this hand: a region that leaves its order open: the rest by its numbers, once one order is left. -/
import Derived.Test.YtalaedpiimdcbaaOwn3
namespace Go.Proofs.Ytalaedpiimdcbaa.Own
open Go.RowKit Go.Proofs.YtalaedpiimdcbaaW.PrintWords Go.Proofs.YtalaedpiimdcbaaW.PrintLast
set_option linter.unusedVariables false
set_option linter.unusedSimpArgs false
section
variable {P : Program} {md : Region.Mode} {ops : Array Oper} {Q : Exit → Act → World → Prop} {S : World → Prop} {ds : List Nat}
/-- The operations of these numbers come up alone, one behind the other, and then none is left. -/
def chainI (md : Region.Mode) (ops : Array Oper) (ds : List Nat) : List Nat → Array Bool → Bool
  | [], l => Region.ready md ops l == []
  | k :: ks, l => Region.ready md ops l == [k] && decide (k < ops.size) && ds.contains k && chainI md ops ds ks (l.setIfInBounds k true)
theorem chainI_tail : ∀ (ks : List Nat) (l : Array Bool) (fuel : Nat) (a : Act) (w : World), chainI md ops ds ks l = true → ks.length ≤ fuel → wpList P ops Q (ks.filterMap (fun k => ops[k]?)) a w →
    wpAnyLast P md ops Q S ds fuel l a w := by
  intro ks
  induction ks with
  | nil =>
    intro l fuel a w hc _ h
    have hr : Region.ready md ops l = [] := by simpa [chainI] using hc
    have hq : Q .normal a w := h
    cases fuel with
    | zero => exact ⟨hr, hq⟩
    | succ fuel => exact ⟨fun _ => hq, (fun i hi => by rw [hr] at hi; cases hi)⟩
  | cons k ks ih =>
    intro l fuel a w hc hf h
    simp only [chainI, Bool.and_eq_true, beq_iff_eq, decide_eq_true_eq] at hc
    obtain ⟨⟨⟨hr, hlt⟩, hd⟩, hc⟩ := hc
    cases fuel with
    | zero => simp at hf
    | succ fuel =>
      refine ⟨(fun h0 => by rw [hr] at h0; cases h0), fun i hi => ?_⟩
      rw [hr] at hi
      obtain rfl : i = k := by simpa using hi
      have ho : ops[i]? = some ops[i] := Array.getElem?_eq_getElem hlt
      have hd' : i ∈ ds := by simpa using hd
      rw [List.filterMap_cons, ho] at h
      refine wpOp_mono (K := wpList P ops Q (ks.filterMap (fun k => ops[k]?))) (fun a' w' h' => ⟨fun hn => absurd hd' hn, ih _ fuel a' w' hc (by simp at hf; omega) h'⟩) ?_
      unfold wpOp
      rw [ho]
      exact h
/-- The rest in its one order, as a plain list. -/
theorem tailI_ {fuel : Nat} {l : Array Bool} {a : Act} {w : World} (ks : List Nat) {lst : List Oper} (hc : chainI md ops ds ks l = true) (hf : ks.length ≤ fuel) (hl : ks.filterMap (fun k => ops[k]?) = lst) (h : wpList P ops Q lst a w) :
    wpAnyLast P md ops Q S ds fuel l a w := chainI_tail ks l fuel a w hc hf (by rw [hl]; exact h)
end
end Go.Proofs.Ytalaedpiimdcbaa.Own
