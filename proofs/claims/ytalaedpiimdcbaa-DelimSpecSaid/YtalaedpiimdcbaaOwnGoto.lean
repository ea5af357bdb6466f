/- A scope in which the run jumps at most n times to a label: where it jumps it goes on behind the label. -/
import Derived.ScopeJumps
namespace Go.Proofs.Ytalaedpiimdcbaa.Own
open Go

/-- As Q; by a goto: behind its label, with at most n more jumps. -/
def fwd (P : Program) (c : Code) (Q : Exit → Act → World → Prop) : Nat → Exit → Act → World → Prop
  | 0, .goto _, _, _ => False
  | n + 1, .goto l, a, w => ∃ rest, findLabel c l = some rest ∧ rest.wp P (fwd P c Q n) a w
  | _, e, a, w => Q e a w

section
variable {P : Program} {a : Act} {w : World} {Q : Exit → Act → World → Prop}
theorem fwd_ret (c : Code) (n : Nat) : fwd P c Q n .ret a w = Q .ret a w := by cases n <;> rfl
theorem fwd_normal (c : Code) (n : Nat) : fwd P c Q n .normal a w = Q .normal a w := by cases n <;> rfl
theorem fwd_exit (c : Code) (n id : Nat) : fwd P c Q n (.exit id) a w = Q (.exit id) a w := by cases n <;> rfl

theorem wp_scope_fwd {c : Code} (n : Nat) (h : c.wp P (fwd P c Q n) a w) : (Code.scope c).wp P Q a w := by
  have key : ∀ (n : Nat) (d : Code) (a : Act) (w : World), d.wp P (fwd P c Q n) a w → ∀ b k cs, ∃ e a' w', Q e a' w' ∧ Arrives P (lone (b.at a (.code d :: .inScope c :: k)) cs w) b k cs e a' w' := by
    intro n
    induction n with
    | zero =>
      intro d a w h b k cs
      obtain ⟨e, a₁, w₁, hq, harr⟩ := h b (.inScope c :: k) cs
      cases e with
      | normal => exact ⟨.normal, a₁, w₁, hq, Steps.trans harr (.one step_inScope)⟩
      | exit id => exact ⟨.exit id, a₁, w₁, hq, fun k' hk => harr k' (by simp [exitTo, hk])⟩
      | goto l => exact hq.elim
      | ret => exact ⟨_, a₁, w₁, hq, harr⟩
      | panic ch => exact ⟨_, a₁, w₁, hq, harr⟩
      | outgrown => exact ⟨_, a₁, w₁, hq, harr⟩
    | succ n ih =>
      intro d a w h b k cs
      obtain ⟨e, a₁, w₁, hq, harr⟩ := h b (.inScope c :: k) cs
      cases e with
      | normal => exact ⟨.normal, a₁, w₁, hq, Steps.trans harr (.one step_inScope)⟩
      | exit id => exact ⟨.exit id, a₁, w₁, hq, fun k' hk => harr k' (by simp [exitTo, hk])⟩
      | goto l =>
        obtain ⟨rest, hf, hr⟩ := hq
        have hg : gotoIn l (.inScope c :: k) = some (.code rest :: .inScope c :: k) := by simp [gotoIn, hf]
        obtain ⟨e₂, a₂, w₂, hq₂, harr₂⟩ := ih rest a₁ w₁ hr b k cs
        exact ⟨e₂, a₂, w₂, hq₂, .of_steps (harr _ hg) harr₂⟩
      | ret => exact ⟨_, a₁, w₁, hq, harr⟩
      | panic ch => exact ⟨_, a₁, w₁, hq, harr⟩
      | outgrown => exact ⟨_, a₁, w₁, hq, harr⟩
  intro b k cs
  obtain ⟨e, a₁, w₁, hq, harr⟩ := key n c a w h b k cs
  cases e with
  | normal => exact ⟨_, a₁, w₁, hq, .head step_scope harr⟩
  | exit id => exact ⟨_, a₁, w₁, hq, fun k' hk => .head step_scope (harr k' hk)⟩
  | goto l => exact ⟨_, a₁, w₁, hq, fun k' hk => .head step_scope (harr k' hk)⟩
  | ret => exact ⟨_, a₁, w₁, hq, .of_steps (.one step_scope) harr⟩
  | panic ch => exact ⟨_, a₁, w₁, hq, .of_steps (.one step_scope) harr⟩
  | outgrown => exact ⟨_, a₁, w₁, hq, .of_steps (.one step_scope) harr⟩
end
end Go.Proofs.Ytalaedpiimdcbaa.Own
