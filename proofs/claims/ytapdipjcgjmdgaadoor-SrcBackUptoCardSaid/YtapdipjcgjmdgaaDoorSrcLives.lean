/- The document's examples of chapter 1 hold, in every world that holds utf8's two tables. -/
import Derived.Test.YtapdipjcgjmdgaaDoorPSrcStepsx3
import Derived.Test.YtapdipjcgjmdgaaDoorSrcStep
import Derived.Test.YtapdipjcgjmdgaaDoorSrcRunesW
import Derived.Test.YtapdipjcgjmdgaaDoorSrcPutW
import Derived.Test.YtapdipjcgjmdgaaDoorSrcPlaceW
import Derived.Test.YtapdipjcgjmdgaaDoorTabs
import Derived.Laws.Pointers
namespace Go.Proofs.YtapdipjcgjmdgaaDoor.Srcw
open Go.RowKit Go.Proofs.YtapdipjcgjmdgaaDoorW.PrintWords Go.Proofs.YtapdipjcgjmdgaaDoorW.PrintLast Go.Proofs.YtapdipjcgjmdgaaDoor.Own Go.Proofs.YtapdipjcgjmdgaaDoor.PSrcSteps Go.Proofs.YtapdipjcgjmdgaaDoor.Tab
set_option linter.unusedVariables false
set_option linter.unusedSimpArgs false

set_option maxHeartbeats 2000000 in
set_option maxRecDepth 100000 in
theorem lives_calls (w : World) (hT : Tabs w) : Calls Tryd.prog 15 #[] w fun e w' => e = .returned (.bool true) ∧ Below w.heap.size w w' := by
  have HT := Aside0.mk hT
  clear hT
  go_enter Tryd.func15, Tryd.ntmps15
  go_wp2_with fail
  refine (src_New.calls 0 128 191 w w (Below.refl _ _) rfl).mono ?_
  rintro e w1 ⟨g, rfl, ⟨hg1, hg0⟩, hb1, _⟩
  have G1 : Aside0 (ScanAt w1 g 0 128 191) := Aside0.mk hg1
  have G0 := Aside0.mk hg0
  have B1 := Aside0.mk hb1
  clear hg1 hg0 hb1
  go_wp2_with fail
  refine (step_calls g 0 128 191 195 w w1 G1.out B1.out G0.out (by decide) (by decide) (by decide)).mono ?_
  rintro e w2 ⟨rfl, hg2, hb2, hk2⟩
  have G2 : Aside0 (ScanAt w2 g 1 128 191) := Aside0.mk hg2
  have B2 := Aside0.mk hb2
  clear hg2 hb2 hk2
  simp only [show (stepF 0 128 191 195).1 = true from by decide]
  go_wp2_with fail
  refine (src_Scan_Whole.calls g 1 128 191 false 1 128 191 w w2 ⟨G2.out, G0.out⟩ B2.out rfl).mono ?_
  rintro e w3 ⟨rfl, ⟨hg3, _⟩, hb3, _⟩
  have G3 : Aside0 (ScanAt w3 g 1 128 191) := Aside0.mk hg3
  have B3 := Aside0.mk hb3
  clear hg3 hb3
  go_wp2_with fail
  refine (step_calls g 1 128 191 169 w w3 G3.out B3.out G0.out (by decide) (by decide) (by decide)).mono ?_
  rintro e w4 ⟨rfl, hg4, hb4, hk4⟩
  have G4 : Aside0 (ScanAt w4 g 0 128 191) := Aside0.mk hg4
  have B4 := Aside0.mk hb4
  clear hg4 hb4 hk4
  simp only [show (stepF 1 128 191 169).1 = true from by decide]
  go_wp2_with fail
  refine (runes_calls ⟨#[195, 169]⟩ w4 (by decide) (valid_calls _ w4 (by decide) (HT.out.below B4.out))).mono ?_
  rintro e w5 ⟨v5, rfl, ho5, hb5⟩
  have hval : Lib.validD (⟨#[195, 169]⟩ : ByteArray).data.toList = true := by decide
  have hch : charsL (⟨#[195, 169]⟩ : ByteArray).data.toList = [233] := by decide
  rw [hch] at ho5
  simp only [hval]
  obtain ⟨gb, c5, rfl, hgb, _, hcel0⟩ := own_ints ho5
  have hcel : w5.cell? ⟨gb, 0, none⟩ = some (.int .i64 233) := hcel0 0 (by decide)
  have HGB := Aside0.mk (show gb ≠ g by have := blk_lt G4.out; omega)
  clear hgb hcel0
  have G5 : Aside0 (ScanAt w5 g 0 128 191) := Aside0.mk (blk_below G4.out hb5)
  have B5 : Aside0 (Below w.heap.size w w5) := Aside0.mk (below_step B4.out hb5)
  have C5 := Aside0.mk hcel
  clear ho5 hb5 hcel hval hch
  go_wp2_with fail
  refine (put_calls 233 w5).mono ?_
  rintro e w6 ⟨rfl, hb6⟩
  have hp : putS 233 = ⟨#[195, 169]⟩ := by decide
  have hq : mayN 233 = true := by decide
  simp only [hp, hq]
  clear hp hq
  have G6 : Aside0 (ScanAt w6 g 0 128 191) := Aside0.mk (blk_below G5.out hb6)
  have B6 : Aside0 (Below w.heap.size w w6) := Aside0.mk (below_step B5.out hb6)
  have C6 := Aside0.mk (below_cell hb6 C5.out)
  clear hb6
  go_wp2_with fail
  refine (place_in ⟨#[97, 10, 195, 169, 98]⟩ 4 w6 (by decide) (by decide)).mono ?_
  rintro e w7 ⟨rfl, hb7⟩
  have hp : placeL (List.take 4 (⟨#[97, 10, 195, 169, 98]⟩ : ByteArray).data.toList) = (2, 2) := by decide
  simp only [hp]
  clear hp
  have G7 : Aside0 (ScanAt w7 g 0 128 191) := Aside0.mk (blk_below G6.out hb7)
  have B7 : Aside0 (Below w.heap.size w w7) := Aside0.mk (below_step B6.out hb7)
  have C7 := Aside0.mk (below_cell hb7 C6.out)
  clear hb7
  go_wp2_with fail
  refine (src_Scan_Whole.calls g 0 128 191 true 0 128 191 w w7 ⟨G7.out, G0.out⟩ B7.out rfl).mono ?_
  rintro e w8 ⟨rfl, _, hb8, hk8⟩
  have C8 : w8.cell? ⟨gb, 0, none⟩ = some (.int .i64 233) := keep_cell hk8 C7.out HGB.out
  have B8 := Aside0.mk hb8
  clear hb8 hk8
  go_wp2
  go_ret
  exact ⟨rfl, B8.out⟩
end Go.Proofs.YtapdipjcgjmdgaaDoor.Srcw
