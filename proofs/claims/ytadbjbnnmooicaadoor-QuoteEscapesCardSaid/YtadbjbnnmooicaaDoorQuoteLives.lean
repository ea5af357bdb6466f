/- The document's examples (chapter 03), walked. -/
import Derived.Test.YtadbjbnnmooicaaDoorQuotePrint
namespace Go.Proofs.YtadbjbnnmooicaaDoor.Qw
open Go.RowKit Go.Proofs.YtadbjbnnmooicaaDoorW.PrintWords Go.Proofs.YtadbjbnnmooicaaDoorW.PrintLast Go.Proofs.YtadbjbnnmooicaaDoor.Own Go.Proofs.YtadbjbnnmooicaaDoor.Srcw Go.Proofs.YtadbjbnnmooicaaDoor.Tab
set_option linter.unusedVariables false
set_option linter.unusedSimpArgs false
def ex1 : ByteArray := ⟨#[97, 92, 117, 48, 48, 101, 57, 34]⟩
def ex2 : ByteArray := ⟨#[97, 34, 10, 1]⟩
def ex3 : ByteArray := ⟨#[92, 120]⟩
theorem ex1_is : (strOfNums (allS ex1).1.l, (allS ex1).2) = (⟨#[97, 195, 169]⟩, 7, true, 0) := by decide +kernel
theorem ex2_is : prtS ex2 = (⟨#[34, 97, 92, 34, 92, 110, 92, 117, 48, 48, 48, 49, 34]⟩, 0) := by decide +kernel
theorem ex3_is : (allS ex3).2 = (1, false, 9) := by decide +kernel

set_option maxHeartbeats 2000000 in
set_option maxRecDepth 100000 in
theorem lives_calls (w : World) (hT : Tabs w) : Calls Tryd.prog 11 #[] w fun e w' => e = .returned (.bool true) ∧ Below w.heap.size w w' := by
  have HT := Aside0.mk hT
  clear hT
  have e1 := ex1_is
  simp only [Prod.ext_iff] at e1
  have e2 := ex2_is
  rw [Prod.ext_iff] at e2
  have e3 := ex3_is
  simp only [Prod.ext_iff] at e3
  have E1 := Aside0.mk e1
  have E2 := Aside0.mk e2
  have E3 := Aside0.mk e3
  clear e1 e2 e3
  go_enter Tryd.func11, Tryd.ntmps11
  go_wp2_with fail
  refine (all_calls ex1 (by decide) w).mono ?_
  rintro e w1 ⟨t, n, d, f, rfl, ⟨h1, h2, h3, h4⟩, hb⟩
  rw [E1.out.1] at h1
  rw [E1.out.2.1] at h2
  rw [E1.out.2.2.1] at h3
  rw [E1.out.2.2.2] at h4
  subst h1 h2 h3 h4
  have B1 := Aside0.mk hb
  clear hb
  go_wp2_with fail
  refine (print_calls ex2 w1 (by decide) (HT.out.below B1.out)).mono ?_
  rintro e w2 ⟨t, f, rfl, ⟨h1, h2⟩, hb⟩
  rw [E2.out.1] at h1
  rw [E2.out.2] at h2
  subst h1 h2
  have B2 := Aside0.mk (B1.out.trans (below_mono hb B1.out.size))
  clear hb
  go_wp2_with fail
  refine (all_calls ex3 (by decide) w2).mono ?_
  rintro e w3 ⟨t, n, d, f, rfl, ⟨h1, h2, h3, h4⟩, hb⟩
  rw [E3.out.1] at h2
  rw [E3.out.2.1] at h3
  rw [E3.out.2.2] at h4
  subst h2 h3 h4
  have B3 := Aside0.mk (B2.out.trans (below_mono hb B2.out.size))
  clear hb h1
  go_wp2
  go_ret
  exact ⟨rfl, B3.out⟩
end Go.Proofs.YtadbjbnnmooicaaDoor.Qw
