/- The document's examples (chapter 04), walked. -/
import Derived.Test.YticlppojbbocbaaDoorScopeM
namespace Go.Proofs.YticlppojbbocbaaDoor.Nm
open Go Go.Lib Go.Shelf Go.RowKit Go.Proofs.YticlppojbbocbaaDoorW.PrintWords Go.Proofs.YticlppojbbocbaaDoorW.PrintLast Go.Proofs.YticlppojbbocbaaDoor.Own Go.Proofs.YticlppojbbocbaaDoor.Srcw Go.Proofs.YticlppojbbocbaaDoor.Tab
set_option linter.unusedVariables false
set_option linter.unusedSimpArgs false
theorem lv1 : cutL [123, 117, 125, 97] = ([117], [97], true) := by decide +kernel
theorem lv2 : joinL [117] [97] = ([123, 117, 125, 97], true) := by decide +kernel
theorem lv3 : localL [112] = true := by decide +kernel
theorem lv4 : spaceL [117] = true := by decide +kernel
theorem lv5 : localL [97] = true := by decide +kernel

set_option maxHeartbeats 4000000 in
set_option maxRecDepth 100000 in
theorem lives_calls (w : World) (hT : Tabs w) : Calls Tryd.prog 15 #[] w fun e w' => e = .returned (.bool true) ∧ Below w.heap.size w w' := by
  have HT := Aside0.mk hT
  have L1 := Aside0.mk lv1
  have L2 := Aside0.mk lv2
  have L3 := Aside0.mk lv3
  have L4 := Aside0.mk lv4
  have L5 := Aside0.mk lv5
  clear hT
  go_enter Tryd.func15, Tryd.ntmps15
  go_wp2_with fail
  refine (cut_calls ⟨#[123, 117, 125, 97]⟩ w (by decide) HT.out).mono ?_
  rintro e w1 ⟨a, b, c, rfl, ⟨h1, h2, h3⟩, hb⟩
  rw [show (⟨#[123, 117, 125, 97]⟩ : ByteArray).data.toList = [123, 117, 125, 97] from rfl, L1.out] at h1 h2 h3
  subst h1 h2 h3
  have B1 := Aside0.mk hb
  clear hb
  simp only [str]
  go_wp2_with fail
  refine (join_calls ⟨#[117]⟩ ⟨#[97]⟩ w1 (by decide) (by decide) (HT.out.below B1.out)).mono ?_
  rintro e w2 ⟨s, c, rfl, ⟨h1, h2⟩, hb⟩
  rw [show (⟨#[117]⟩ : ByteArray).data.toList = [117] from rfl, show (⟨#[97]⟩ : ByteArray).data.toList = [97] from rfl, L2.out] at h1 h2
  subst h1 h2
  have B2 := Aside0.mk (B1.out.trans (below_mono hb B1.out.size))
  clear hb
  simp only [str]
  go_wp2_with fail
  refine (new_calls w w2 B2.out).mono ?_
  rintro e w3 ⟨g, rfl, hsc, hb⟩
  have S3 := Aside0.mk hsc
  have B3 := Aside0.mk hb
  clear hsc hb
  go_wp2_with fail
  refine (open_calls S3.out B3.out.size (by decide)).mono ?_
  rintro e w4 ⟨⟨v, rfl⟩, ⟨b4, _, hsc⟩, hb⟩
  have S4 := Aside0.mk hsc
  have B4 := Aside0.mk (B3.out.trans (Chs.below hb B3.out.size))
  clear hsc hb
  go_wp2_with fail
  refine (bind_c (p := ⟨#[112]⟩) (s := ⟨#[117]⟩) S4.out (by simp) (by decide) (by decide) (by simp) (HT.out.below B4.out) (by decide) L3.out (by decide) L4.out).mono ?_
  rintro e w5 ⟨rfl, hsc, hb⟩
  rw [show bindE ⟨b4, 0, fun _ => none⟩ ⟨#[112]⟩ = 0 from rfl] at hsc
  rw [show bindE ⟨b4, 0, fun _ => none⟩ ⟨#[112]⟩ = 0 from rfl]
  rw [if_pos rfl] at hsc
  have S5 := Aside0.mk hsc
  have B5 := Aside0.mk (B4.out.trans (Chs.below hb B4.out.size))
  clear hsc hb
  go_wp2_with fail
  refine (ask_calls (p := ⟨#[112]⟩) S5.out (by simp) (by decide)).mono ?_
  rintro e w6 ⟨rfl, hb⟩
  rw [show askS ([] ++ [bindF ⟨b4, 0, fun _ => none⟩ ⟨#[112]⟩ ⟨#[117]⟩]) ⟨#[112]⟩ = (⟨#[117]⟩, true) from rfl]
  have B6 := Aside0.mk (B5.out.trans (below_mono hb B5.out.size))
  clear hb
  go_wp2_with fail
  refine (local_calls ⟨#[97]⟩ w6).mono ?_
  rintro e w7 ⟨rfl, hb⟩
  rw [show (⟨#[97]⟩ : ByteArray).data.toList = [97] from rfl, L5.out]
  have B7 := Aside0.mk (B6.out.trans (below_mono hb B6.out.size))
  clear hb
  go_wp2_with fail
  refine (space_calls ⟨#[117]⟩ w7 (by decide) (HT.out.below B7.out)).mono ?_
  rintro e w8 ⟨rfl, hb⟩
  rw [show (⟨#[117]⟩ : ByteArray).data.toList = [117] from rfl, L4.out]
  have B8 := Aside0.mk (B7.out.trans (below_mono hb B7.out.size))
  clear hb
  go_wp2
  go_ret
  exact ⟨rfl, B8.out⟩
end Go.Proofs.YticlppojbbocbaaDoor.Nm
