/- What the bound on the bulk of the arguments gives. -/
import Derived.Test.YticlppojbbocbaaDoorRows
import Derived.Test.YticlppojbbocbaaDoorOwn2
namespace Go.Proofs.YticlppojbbocbaaDoor.Own
theorem bulk_one {H : Type} (d : DataW H) : 1 ≤ Rows.uptoBulk d := by
  cases d with
  | lit l => cases l <;> simp [Rows.uptoBulk]
  | nil => simp [Rows.uptoBulk]
  | ptr d => simp [Rows.uptoBulk]
  | slice elems spare => simp [Rows.uptoBulk]
  | agg parts => simp [Rows.uptoBulk]
  | iface t d => simp [Rows.uptoBulk]
  | map entries => simp [Rows.uptoBulk]
  | held h => simp [Rows.uptoBulk]
theorem bulk_length {H : Type} (l : List (DataW H)) : l.length ≤ Rows.uptoBulkAll l := by
  induction l with
  | nil => simp
  | cons x r ih => have := bulk_one x; simp only [Rows.uptoBulkAll, List.length_cons]; omega
theorem bulk_slice {H : Type} (d : DataW H) : sliceLen d ≤ Rows.uptoBulk d := by
  cases d with
  | slice elems spare =>
    simp only [sliceLen, Rows.uptoBulk]
    have := bulk_length elems
    omega
  | lit l => exact Nat.zero_le _
  | nil => exact Nat.zero_le _
  | ptr d => exact Nat.zero_le _
  | agg parts => exact Nat.zero_le _
  | iface t d => exact Nat.zero_le _
  | map entries => exact Nat.zero_le _
  | held h => exact Nat.zero_le _
end Go.Proofs.YticlppojbbocbaaDoor.Own
