/- entities: the document's examples. -/
import Derived.Test.YtohkioijdokegaaDoorEntFill
namespace Go.Proofs.YtohkioijdokegaaDoor.En
open Go Go.Lib Go.RowKit Go.Proofs.YtohkioijdokegaaDoorW.PrintWords Go.Proofs.YtohkioijdokegaaDoorW.PrintLast Go.Proofs.YtohkioijdokegaaDoor.Own Go.Proofs.YtohkioijdokegaaDoor.Nm Go.Proofs.YtohkioijdokegaaDoor.Srcw Go.Proofs.YtohkioijdokegaaDoor.Tab
set_option linter.unusedVariables false
set_option linter.unusedSimpArgs false

theorem lives_def : (defE ES.new ⟨#[97]⟩ ⟨#[120]⟩).1 = 0 := by decide +kernel
theorem lives_fill : fillE (defE ES.new ⟨#[97]⟩ ⟨#[120]⟩).2 [49, 38, 97, 59, 38, 108, 116, 59, 50] = ([49, 120, 60, 50], 0, 9, (fillE (defE ES.new ⟨#[97]⟩ ⟨#[120]⟩).2 [49, 38, 97, 59, 38, 108, 116, 59, 50]).2.2.2) := by
  have h : (fillE (defE ES.new ⟨#[97]⟩ ⟨#[120]⟩).2 [49, 38, 97, 59, 38, 108, 116, 59, 50]).1 = [49, 120, 60, 50] ∧ (fillE (defE ES.new ⟨#[97]⟩ ⟨#[120]⟩).2 [49, 38, 97, 59, 38, 108, 116, 59, 50]).2.1 = 0 ∧ (fillE (defE ES.new ⟨#[97]⟩ ⟨#[120]⟩).2 [49, 38, 97, 59, 38, 108, 116, 59, 50]).2.2.1 = 9 := by decide +kernel
  generalize fillE (defE ES.new ⟨#[97]⟩ ⟨#[120]⟩).2 [49, 38, 97, 59, 38, 108, 116, 59, 50] = x at h ⊢
  obtain ⟨a, b, c, d⟩ := x
  obtain ⟨h1, h2, h3⟩ := h
  simp only at h1 h2 h3
  rw [h1, h2, h3]
theorem lives_told : (fillE (defE ES.new ⟨#[97]⟩ ⟨#[120]⟩).2 [49, 38, 97, 59, 38, 108, 116, 59, 50]).2.2.2.told = 1 ∧ (fillE (defE ES.new ⟨#[97]⟩ ⟨#[120]⟩).2 [49, 38, 97, 59, 38, 108, 116, 59, 50]).2.2.2.size = 2 := by decide +kernel
theorem SI.def {s : ES} (h : SI s) {n t : ByteArray} (ht : t.size ≤ 1048576) : SI (defE s n t).2 := by
  unfold defE
  by_cases h1 : localL n.data.toList = false
  · rw [if_pos h1]; exact h
  by_cases h2 : validD t.data.toList = false
  · rw [if_neg h1, if_pos h2]; exact h
  by_cases h3 : ((fourN n).isSome || (s.f n).isSome) = true
  · rw [if_neg h1, if_neg h2, if_pos h3]; exact h
  by_cases h4 : 200 < s.size + n.size + t.size
  · rw [if_neg h1, if_neg h2, if_neg h3, if_pos h4]; exact h
  · rw [if_neg h1, if_neg h2, if_neg h3, if_neg h4]
    refine ⟨h.1, fun m x hx => ?_⟩
    simp only at hx
    split at hx
    · injection hx with hx; subst hx; exact ht
    · exact h.2 m x hx

set_option maxHeartbeats 4000000 in
set_option maxRecDepth 100000 in
theorem lives_calls (w : World) (hT : Tabs w) : Calls Tryd.prog 13 #[] w fun e w' => e = .returned (.bool true) ∧ Below w.heap.size w w' := by
  have HT := Aside0.mk hT
  have HD := Aside0.mk lives_def
  have HF := Aside0.mk lives_fill
  have HO := Aside0.mk lives_told
  have HS := Aside0.mk (SI.def SI.new (n := ⟨#[97]⟩) (t := ⟨#[120]⟩) (by decide))
  have q1 : (str [49, 120, 60, 50]).toList = [49, 120, 60, 50] := by rw [ByteArray.toList_eq]; rfl
  clear hT
  go_enter Tryd.func13, Tryd.ntmps13
  go_wp2_with (first
    | (go_at_call 7; refine (new_calls _).mono ?_; rintro e w1 ⟨g, rfl, he, hb⟩; have E1 := Aside0.mk he; have B1 := Aside0.mk hb; clear he hb)
    | (go_at_call 15; refine (def_calls E1.out (by decide) (by decide) (by decide) (by decide) (HT.out.below B1.out)).mono ?_; rintro e w2 ⟨x, rfl, hx, he, hb, ha⟩; rw [HD.out] at hx; subst hx; have E2 := Aside0.mk he; have B2 := Aside0.mk (B1.out.trans hb); clear he hb ha)
    | (go_at_call 14; refine (fill_calls E2.out (by decide) HS.out).mono ?_; rintro e w3 ⟨t, x, p, rfl, ht, hs, he, hf⟩; rw [HF.out] at ht; (have ht1 : t = str [49, 120, 60, 50] := ht.1); (have ht2 : x = 0 := ht.2.1); (have ht3 : p = 9 := ht.2.2); rw [ht1, ht2, ht3]; have E3 := Aside0.mk he; have B3 := Aside0.mk (B2.out.trans hf.1); clear ht ht1 ht2 ht3 hs he hf)
    | (go_at_call 12; refine (told_calls E3.out).mono ?_; rintro e w4 ⟨rfl, rfl⟩; rw [HO.out.1])
    | (go_at_call 10; refine (size_calls E3.out).mono ?_; rintro e w4 ⟨rfl, rfl⟩; rw [HO.out.2]))
  go_ret
  exact ⟨rfl, B3.out⟩
end Go.Proofs.YtohkioijdokegaaDoor.En
