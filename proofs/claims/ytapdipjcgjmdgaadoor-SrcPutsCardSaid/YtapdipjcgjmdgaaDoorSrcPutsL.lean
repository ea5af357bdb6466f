/- The law SrcPuts, walked: it returns true at every number, in every world that holds utf8's two tables. -/
import Derived.Test.YtapdipjcgjmdgaaDoorSrcLives
import Derived.Test.YtapdipjcgjmdgaaDoorSrcRefPutW
namespace Go.Proofs.YtapdipjcgjmdgaaDoor.Srcw
open Go.RowKit Go.Proofs.YtapdipjcgjmdgaaDoorW.PrintWords Go.Proofs.YtapdipjcgjmdgaaDoorW.PrintLast Go.Proofs.YtapdipjcgjmdgaaDoor.Own Go.Proofs.YtapdipjcgjmdgaaDoor.Tab
set_option linter.unusedVariables false
set_option linter.unusedSimpArgs false
set_option maxHeartbeats 2000000 in
set_option maxRecDepth 100000 in
theorem law_SrcPuts (r : Int) (hr : -9223372036854775808 ≤ r ∧ r ≤ 9223372036854775807) (w : World) (hT : Tabs w) :
    Calls Tryd.prog 5 #[.int .i64 r] w fun e w' => e = .returned (.bool true) ∧ Below w.heap.size w w' := by
  have HT := Aside0.mk hT
  clear hT hr
  go_enter Tryd.func5, Tryd.ntmps5
  go_wp2_with fail
  refine (put_calls r w).mono ?_
  rintro e w1 ⟨rfl, hb1⟩
  have B1 := Aside0.mk hb1
  clear hb1
  go_wp2_with fail
  refine (refput_calls r w1).mono ?_
  rintro e w2 ⟨rfl, hb2⟩
  have B2 : Aside0 (Below w.heap.size w w2) := Aside0.mk (below_step B1.out hb2)
  clear hb2
  generalize putS r = S
  generalize mayN r = M
  have e1 : (S.toList == S.toList) = true := by simp
  have e2 : (M == M) = true := by simp
  go_wp2_with (go_at_call 15; refine (lives_calls w2 (HT.out.below B2.out)).mono ?_; rintro e w3 ⟨rfl, hb3⟩)
  go_ret
  exact ⟨rfl, below_step B2.out hb3⟩
end Go.Proofs.YtapdipjcgjmdgaaDoor.Srcw
