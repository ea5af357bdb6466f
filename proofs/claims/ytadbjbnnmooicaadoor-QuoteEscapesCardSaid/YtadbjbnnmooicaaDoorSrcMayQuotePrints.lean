/- The reference's May and Long in plain words. -/
import Derived.Test.YtadbjbnnmooicaaDoorPQuotePrintsx1
namespace Go.Proofs.YtadbjbnnmooicaaDoor.PQuotePrints
open Go.RowKit Go.Proofs.YtadbjbnnmooicaaDoorW.PrintWords Go.Proofs.YtadbjbnnmooicaaDoorW.PrintLast
set_option linter.unusedVariables false
set_option linter.unusedSimpArgs false
theorem may_is (v : Int) : hexaplaref01_May.f v = some (decide (0 ≤ v ∧ v ≤ 1114111 ∧ (v < 55296 ∨ 57343 < v))) := by
  unfold hexaplaref01_May.f
  by_cases h0 : v ≥ 0
  · rw [if_pos h0]
    by_cases h1 : v ≤ 1114111
    · rw [if_pos h1]
      by_cases h2 : v < 55296
      · rw [if_pos h2]; simp; omega
      · rw [if_neg h2]; congr 1; apply decide_eq_decide.2; omega
    · rw [if_neg h1]; simp; omega
  · rw [if_neg h0]; simp; omega
def longN (v : Int) : Int := if v < 128 then 1 else if v < 2048 then 2 else if v < 65536 then 3 else 4
theorem long_is (v : Int) : hexaplaref01_Long.f v = some (longN v) := by
  unfold hexaplaref01_Long.f longN
  repeat' split
  all_goals first | rfl | omega
end Go.Proofs.YtadbjbnnmooicaaDoor.PQuotePrints
