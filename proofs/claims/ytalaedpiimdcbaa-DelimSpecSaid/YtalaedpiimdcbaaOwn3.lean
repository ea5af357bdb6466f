/- More words of this hand: a region that leaves its order open, from where only one order is left. -/
import Derived.Test.YtalaedpiimdcbaaOwn2
import Derived.Test.YtalaedpiimdcbaaWTab
namespace Go.Proofs.Ytalaedpiimdcbaa.Own
open Go.RowKit Go.Proofs.YtalaedpiimdcbaaW.PrintWords Go.Proofs.YtalaedpiimdcbaaW.PrintLast
set_option linter.unusedVariables false
set_option linter.unusedSimpArgs false
section
variable {P : Program} {md : Region.Mode} {ops : Array Oper} {Q : Exit → Act → World → Prop}
/-- From operation k on each of the d that are left comes up alone. -/
def chainB (md : Region.Mode) (ops : Array Oper) : Nat → Array Bool → Nat → Bool
  | 0, l, _ => Region.ready md ops l == []
  | d + 1, l, k => Region.ready md ops l == [k] && chainB md ops d (l.setIfInBounds k true) (k + 1)
theorem chain_tail : ∀ (d k : Nat) (l : Array Bool) (fuel : Nat) (a : Act) (w : World), chainB md ops d l k = true → d ≤ fuel → k + d = ops.size → wpList P ops Q (ops.toList.drop k) a w →
    wpAnyLast P md ops Q (fun _ => True) [] fuel l a w := by
  intro d
  induction d with
  | zero =>
    intro k l fuel a w hc _ hk h
    have hr : Region.ready md ops l = [] := by simpa [chainB] using hc
    have hnil : ops.toList.drop k = [] := List.drop_of_length_le (by simp; omega)
    rw [hnil] at h
    have hq : Q .normal a w := h
    cases fuel with
    | zero => exact ⟨hr, hq⟩
    | succ fuel => exact ⟨fun _ => hq, (fun i hi => by rw [hr] at hi; cases hi)⟩
  | succ d ih =>
    intro k l fuel a w hc hf hk h
    simp only [chainB, Bool.and_eq_true, beq_iff_eq] at hc
    obtain ⟨hr, hc⟩ := hc
    cases fuel with
    | zero => omega
    | succ fuel =>
      refine ⟨(fun h0 => by rw [hr] at h0; cases h0), fun i hi => ?_⟩
      rw [hr] at hi
      obtain rfl : i = k := by simpa using hi
      have hlt : i < ops.size := by omega
      have ho : ops[i]? = some ops[i] := Array.getElem?_eq_getElem hlt
      have hd : ops.toList.drop i = ops[i] :: ops.toList.drop (i + 1) := by
        have hl : i < ops.toList.length := by simpa using hlt
        rw [List.drop_eq_getElem_cons hl]
        simp
      rw [hd] at h
      refine wpOp_mono (K := wpList P ops Q (ops.toList.drop (i + 1))) (fun a' w' h' => ⟨fun _ _ => trivial, ih (i + 1) _ fuel a' w' hc (by omega) (by omega) h'⟩) ?_
      unfold wpOp
      rw [ho]
      exact h
/-- The rest in its one order, as a plain list. -/
theorem tail_ {fuel : Nat} {l : Array Bool} {a : Act} {w : World} (k d : Nat) {lst : List Oper} (hc : chainB md ops d l k = true) (hf : d ≤ fuel) (hk : k + d = ops.size) (hl : ops.toList.drop k = lst) (h : wpList P ops Q lst a w) :
    wpAnyLast P md ops Q (fun _ => True) [] fuel l a w := chain_tail d k l fuel a w hc hf hk (by rw [hl]; exact h)
end
section
variable {P : Program} {ops : Array Oper} {rest : List Oper} {o : Oper} {a : Act} {Q : Exit → Act → World → Prop}
/-- 'string(b)' of a row of the call's own. -/
theorem str_event {W : World} (hgd : o.guard = none) {src dst e e' : TypeId} {x : Operand} (hop : o.op = .convert src dst x) {v : Value} (hx : a.eval x = v)
    (hs : P.underlying src = some (.slice e)) (he : P.underlying e = some (.int .u8)) (hd : P.underlying dst = some .string) {base : Nat} {ok : Nat → Prop} {xs : List Int} (hR : (Kd.int .u8).R e' W base ok v xs)
    (h : wpList P ops Q rest (a.put o.dst (.string (strOfNums xs))) W) : wpList P ops Q (o :: rest) a W := by
  refine Kd.event_run hgd (v := .string (strOfNums xs)) (w1 := W) ?_ h
  have hr := own_string hs he hd (Kd.own_of_R hR)
  unfold execOp
  simp only [hop, hx]
  simp [hr]
end
end Go.Proofs.Ytalaedpiimdcbaa.Own
