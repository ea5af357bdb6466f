/- The law's own comparison of two lists, of one with itself. -/
import Derived.Test.YtapdipjcgjmdgaaDoorPSrcBackx1
import Derived.Test.YtapdipjcgjmdgaaDoorOwn
namespace Go.Proofs.YtapdipjcgjmdgaaDoor.PSrcBack
open Go.RowKit Go.Proofs.YtapdipjcgjmdgaaDoorW.PrintWords Go.Proofs.YtapdipjcgjmdgaaDoorW.PrintLast Go.Proofs.YtapdipjcgjmdgaaDoor.Own
set_option linter.unusedVariables false
set_option linter.unusedSimpArgs false
/-- A list is the same as itself. -/
theorem same_loop (l : List Int) (hl : l.length ≤ 9000000000000000000) : ∀ (d i : Nat), i + d = l.length → hexaplalaw01_same.l0 (d + 1) l l i = some true := by
  intro d
  induction d with
  | zero =>
    intro i hi
    conv => lhs; unfold hexaplalaw01_same.l0
    rw [if_neg (by omega)]
  | succ d ih =>
    intro i hi
    conv => lhs; unfold hexaplalaw01_same.l0
    rw [if_pos (by omega), if_pos (by omega), if_pos (by omega), if_pos rfl, w64 (by omega) (by omega)]
    have := ih (i + 1) (by omega)
    simpa using this
theorem same_self (l : List Int) (hl : l.length ≤ 9000000000000000000) : hexaplalaw01_same.f (l.length + 1) l l = some true := by
  unfold hexaplalaw01_same.f
  rw [if_pos rfl]
  exact same_loop l hl l.length 0 (by omega)

end Go.Proofs.YtapdipjcgjmdgaaDoor.PSrcBack
