/- The law QuotePrints, walked. -/
import Derived.Test.YtadbjbnnmooicaaDoorQuoteRefPrint
import Derived.Test.YtadbjbnnmooicaaDoorQuoteLives
import Derived.Test.YtadbjbnnmooicaaDoorOwnStr
namespace Go.Proofs.YtadbjbnnmooicaaDoor.Qw
open Go.RowKit Go.Proofs.YtadbjbnnmooicaaDoorW.PrintWords Go.Proofs.YtadbjbnnmooicaaDoorW.PrintLast Go.Proofs.YtadbjbnnmooicaaDoor.Own Go.Proofs.YtadbjbnnmooicaaDoor.Srcw Go.Proofs.YtadbjbnnmooicaaDoor.Tab
set_option linter.unusedVariables false
set_option linter.unusedSimpArgs false

set_option maxHeartbeats 4000000 in
set_option maxRecDepth 100000 in
theorem law_QuotePrints (s : ByteArray) (hs : s.size ≤ 1048576) (w : World) (hT : Tabs w) :
    Calls Tryd.prog 5 #[.string s] w fun e w' => e = .returned (.bool true) ∧ Below w.heap.size w w' := by
  have HT := Aside0.mk hT
  have HC := Aside0.mk (print_calls s w (by omega) hT)
  have HS := Aside0.mk hs
  clear hT hs
  go_enter Tryd.func5, Tryd.ntmps5
  go_wp2_with fail
  refine HC.out.mono ?_
  rintro e w1 ⟨p, f, rfl, ⟨h1, h2⟩, hb⟩
  have B1 := Aside0.mk hb
  have H1 := Aside0.mk h1
  have H2 := Aside0.mk h2
  clear hb h1 h2
  go_wp2_with fail
  refine (refprint_calls s w1 (by have := HS.out; omega)).mono ?_
  rintro e w2 ⟨p2, f2, rfl, ⟨h3, h4⟩, hb⟩
  obtain rfl : p2 = p := h3.trans H1.out.symm
  obtain rfl : f2 = f := h4.trans H2.out.symm
  have B2 := Aside0.mk (B1.out.trans (below_mono hb B1.out.size))
  clear hb h3 h4
  have t1 := seq_true (rfl : p2 = p2)
  go_wp2_with fail
  refine (lives_calls w2 (HT.out.below B2.out)).mono ?_
  rintro e w3 ⟨rfl, hb⟩
  have B3 := Aside0.mk (B2.out.trans (below_mono hb B2.out.size))
  clear hb
  go_wp2
  go_ret
  exact ⟨rfl, B3.out⟩
end Go.Proofs.YtadbjbnnmooicaaDoor.Qw
