/- Printed contracts of hexaplaref04_Local, hexaplaref04_Space, hexaplaref04_Cut: each says that the Go function answers what the Lean function beside it computes. -/
import Derived.Test.YticlppojbbocbaaDoorPNamesKindsx0
import Derived.Test.YticlppojbbocbaaDoorRefOne
namespace Go.Proofs.YticlppojbbocbaaDoor.PNamesKinds
open Go.RowKit Go.Proofs.YticlppojbbocbaaDoorW.PrintWords Go.Proofs.YticlppojbbocbaaDoorW.PrintLast Go.Proofs.YticlppojbbocbaaDoorW.PrintMore
attribute [local go_sem] max2_int min2_int max_two min_two max_three min_three max_four min_four   -- for this text's walks alone
set_option linter.unusedVariables false
set_option linter.unusedSimpArgs false

/-! ### hexaplaref04_Local: function 12 -/
mutual
def hexaplaref04_Local.j0 : Nat → ByteArray → Bool → Option (Bool)
  | 0, _, _ => none
  | k + 1, x0, x14 => if x14 = true then (some false) else (hexaplaref04_Local.l0 k x0 0)
def hexaplaref04_Local.l0 : Nat → ByteArray → Int → Option (Bool)
  | 0, _, _ => none
  | k + 1, x0, x3 => if x3 < (x0.size : Int) then (if 0 ≤ x3 then (if (bt x0 x3) ≥ 97 then (if (bt x0 x3) ≤ 122 then (if (bt x0 x3) ≥ 48 then (if (bt x0 x3) ≤ 57 then (hexaplaref04_Local.l0 k x0 (wrap64 (x3 + 1))) else (if (bt x0 x3) = 45 then (hexaplaref04_Local.l0 k x0 (wrap64 (x3 + 1))) else (hexaplaref04_Local.l0 k x0 (wrap64 (x3 + 1))))) else (if (bt x0 x3) = 45 then (hexaplaref04_Local.l0 k x0 (wrap64 (x3 + 1))) else (hexaplaref04_Local.l0 k x0 (wrap64 (x3 + 1))))) else (if (bt x0 x3) ≥ 65 then (if (bt x0 x3) ≤ 90 then (if (bt x0 x3) ≥ 48 then (if (bt x0 x3) ≤ 57 then (hexaplaref04_Local.l0 k x0 (wrap64 (x3 + 1))) else (if (bt x0 x3) = 45 then (hexaplaref04_Local.l0 k x0 (wrap64 (x3 + 1))) else (hexaplaref04_Local.l0 k x0 (wrap64 (x3 + 1))))) else (if (bt x0 x3) = 45 then (hexaplaref04_Local.l0 k x0 (wrap64 (x3 + 1))) else (hexaplaref04_Local.l0 k x0 (wrap64 (x3 + 1))))) else (if (bt x0 x3) ≥ 48 then (if (bt x0 x3) ≤ 57 then (if ((bt x0 x3) = 95) then (hexaplaref04_Local.l0 k x0 (wrap64 (x3 + 1))) else (if x3 > 0 then (hexaplaref04_Local.l0 k x0 (wrap64 (x3 + 1))) else (some false))) else (if (bt x0 x3) = 45 then (if ((bt x0 x3) = 95) then (hexaplaref04_Local.l0 k x0 (wrap64 (x3 + 1))) else (if x3 > 0 then (hexaplaref04_Local.l0 k x0 (wrap64 (x3 + 1))) else (some false))) else (if ((bt x0 x3) = 95) then (hexaplaref04_Local.l0 k x0 (wrap64 (x3 + 1))) else (if (bt x0 x3) = 46 then (if x3 > 0 then (hexaplaref04_Local.l0 k x0 (wrap64 (x3 + 1))) else (some false)) else (some false))))) else (if (bt x0 x3) = 45 then (if ((bt x0 x3) = 95) then (hexaplaref04_Local.l0 k x0 (wrap64 (x3 + 1))) else (if x3 > 0 then (hexaplaref04_Local.l0 k x0 (wrap64 (x3 + 1))) else (some false))) else (if ((bt x0 x3) = 95) then (hexaplaref04_Local.l0 k x0 (wrap64 (x3 + 1))) else (if (bt x0 x3) = 46 then (if x3 > 0 then (hexaplaref04_Local.l0 k x0 (wrap64 (x3 + 1))) else (some false)) else (some false)))))) else (if (bt x0 x3) ≥ 48 then (if (bt x0 x3) ≤ 57 then (if ((bt x0 x3) = 95) then (hexaplaref04_Local.l0 k x0 (wrap64 (x3 + 1))) else (if x3 > 0 then (hexaplaref04_Local.l0 k x0 (wrap64 (x3 + 1))) else (some false))) else (if (bt x0 x3) = 45 then (if ((bt x0 x3) = 95) then (hexaplaref04_Local.l0 k x0 (wrap64 (x3 + 1))) else (if x3 > 0 then (hexaplaref04_Local.l0 k x0 (wrap64 (x3 + 1))) else (some false))) else (if ((bt x0 x3) = 95) then (hexaplaref04_Local.l0 k x0 (wrap64 (x3 + 1))) else (if (bt x0 x3) = 46 then (if x3 > 0 then (hexaplaref04_Local.l0 k x0 (wrap64 (x3 + 1))) else (some false)) else (some false))))) else (if (bt x0 x3) = 45 then (if ((bt x0 x3) = 95) then (hexaplaref04_Local.l0 k x0 (wrap64 (x3 + 1))) else (if x3 > 0 then (hexaplaref04_Local.l0 k x0 (wrap64 (x3 + 1))) else (some false))) else (if ((bt x0 x3) = 95) then (hexaplaref04_Local.l0 k x0 (wrap64 (x3 + 1))) else (if (bt x0 x3) = 46 then (if x3 > 0 then (hexaplaref04_Local.l0 k x0 (wrap64 (x3 + 1))) else (some false)) else (some false))))))) else (if (bt x0 x3) ≥ 65 then (if (bt x0 x3) ≤ 90 then (if (bt x0 x3) ≥ 48 then (if (bt x0 x3) ≤ 57 then (hexaplaref04_Local.l0 k x0 (wrap64 (x3 + 1))) else (if (bt x0 x3) = 45 then (hexaplaref04_Local.l0 k x0 (wrap64 (x3 + 1))) else (hexaplaref04_Local.l0 k x0 (wrap64 (x3 + 1))))) else (if (bt x0 x3) = 45 then (hexaplaref04_Local.l0 k x0 (wrap64 (x3 + 1))) else (hexaplaref04_Local.l0 k x0 (wrap64 (x3 + 1))))) else (if (bt x0 x3) ≥ 48 then (if (bt x0 x3) ≤ 57 then (if ((bt x0 x3) = 95) then (hexaplaref04_Local.l0 k x0 (wrap64 (x3 + 1))) else (if x3 > 0 then (hexaplaref04_Local.l0 k x0 (wrap64 (x3 + 1))) else (some false))) else (if (bt x0 x3) = 45 then (if ((bt x0 x3) = 95) then (hexaplaref04_Local.l0 k x0 (wrap64 (x3 + 1))) else (if x3 > 0 then (hexaplaref04_Local.l0 k x0 (wrap64 (x3 + 1))) else (some false))) else (if ((bt x0 x3) = 95) then (hexaplaref04_Local.l0 k x0 (wrap64 (x3 + 1))) else (if (bt x0 x3) = 46 then (if x3 > 0 then (hexaplaref04_Local.l0 k x0 (wrap64 (x3 + 1))) else (some false)) else (some false))))) else (if (bt x0 x3) = 45 then (if ((bt x0 x3) = 95) then (hexaplaref04_Local.l0 k x0 (wrap64 (x3 + 1))) else (if x3 > 0 then (hexaplaref04_Local.l0 k x0 (wrap64 (x3 + 1))) else (some false))) else (if ((bt x0 x3) = 95) then (hexaplaref04_Local.l0 k x0 (wrap64 (x3 + 1))) else (if (bt x0 x3) = 46 then (if x3 > 0 then (hexaplaref04_Local.l0 k x0 (wrap64 (x3 + 1))) else (some false)) else (some false)))))) else (if (bt x0 x3) ≥ 48 then (if (bt x0 x3) ≤ 57 then (if ((bt x0 x3) = 95) then (hexaplaref04_Local.l0 k x0 (wrap64 (x3 + 1))) else (if x3 > 0 then (hexaplaref04_Local.l0 k x0 (wrap64 (x3 + 1))) else (some false))) else (if (bt x0 x3) = 45 then (if ((bt x0 x3) = 95) then (hexaplaref04_Local.l0 k x0 (wrap64 (x3 + 1))) else (if x3 > 0 then (hexaplaref04_Local.l0 k x0 (wrap64 (x3 + 1))) else (some false))) else (if ((bt x0 x3) = 95) then (hexaplaref04_Local.l0 k x0 (wrap64 (x3 + 1))) else (if (bt x0 x3) = 46 then (if x3 > 0 then (hexaplaref04_Local.l0 k x0 (wrap64 (x3 + 1))) else (some false)) else (some false))))) else (if (bt x0 x3) = 45 then (if ((bt x0 x3) = 95) then (hexaplaref04_Local.l0 k x0 (wrap64 (x3 + 1))) else (if x3 > 0 then (hexaplaref04_Local.l0 k x0 (wrap64 (x3 + 1))) else (some false))) else (if ((bt x0 x3) = 95) then (hexaplaref04_Local.l0 k x0 (wrap64 (x3 + 1))) else (if (bt x0 x3) = 46 then (if x3 > 0 then (hexaplaref04_Local.l0 k x0 (wrap64 (x3 + 1))) else (some false)) else (some false))))))) else (none)) else (some true)
end
def hexaplaref04_Local.f (k : Nat) (a0 : ByteArray) : Option (Bool) := if (a0.size : Int) < 1 then (hexaplaref04_Local.j0 k a0 true) else (hexaplaref04_Local.j0 k a0 (decide ((a0.size : Int) > 16)))
theorem hexaplaref04_Local.mono_l : ∀ k, (∀ y0 y1, LeO (hexaplaref04_Local.j0 k y0 y1) (hexaplaref04_Local.j0 (k + 1) y0 y1)) ∧ (∀ y0 y1, LeO (hexaplaref04_Local.l0 k y0 y1) (hexaplaref04_Local.l0 (k + 1) y0 y1))
  | 0 => ⟨fun _ _ r h => by simp [hexaplaref04_Local.j0] at h, fun _ _ r h => by simp [hexaplaref04_Local.l0] at h⟩
  | k + 1 => by
    obtain ⟨ih0, ih1⟩ := hexaplaref04_Local.mono_l k
    refine ⟨?_, ?_⟩
    · intro y0 y1
      unfold hexaplaref04_Local.j0
      repeat' first
      | (with_reducible exact ih0 _ _)
      | (with_reducible exact ih1 _ _)
      | (with_reducible exact LeO.refl _)
      | (with_reducible exact LeO.none _)
      | (with_reducible refine LeO.ite ?_ ?_)
      | (with_reducible refine LeO.bind ?_ (fun _ => ?_))
      | exact ih0 _ _
      | exact ih1 _ _
      | exact LeO.none _
      | refine LeO.ite ?_ ?_
      | refine LeO.bind ?_ (fun _ => ?_)
    · intro y0 y1
      unfold hexaplaref04_Local.l0
      repeat' first
      | (with_reducible exact ih0 _ _)
      | (with_reducible exact ih1 _ _)
      | (with_reducible exact LeO.refl _)
      | (with_reducible exact LeO.none _)
      | (with_reducible refine LeO.ite ?_ ?_)
      | (with_reducible refine LeO.bind ?_ (fun _ => ?_))
      | exact ih0 _ _
      | exact ih1 _ _
      | exact LeO.none _
      | refine LeO.ite ?_ ?_
      | refine LeO.bind ?_ (fun _ => ?_)
theorem hexaplaref04_Local.mono : ∀ a0 k, LeO (hexaplaref04_Local.f k a0) (hexaplaref04_Local.f (k + 1) a0) := by
  intro a0 k
  obtain ⟨ih0, ih1⟩ := hexaplaref04_Local.mono_l k
  unfold hexaplaref04_Local.f
  repeat' first
      | (with_reducible exact ih0 _ _)
      | (with_reducible exact ih1 _ _)
      | (with_reducible exact LeO.refl _)
      | (with_reducible exact LeO.none _)
      | (with_reducible refine LeO.ite ?_ ?_)
      | (with_reducible refine LeO.bind ?_ (fun _ => ?_))
      | exact ih0 _ _
      | exact ih1 _ _
      | exact LeO.none _
      | refine LeO.ite ?_ ?_
      | refine LeO.bind ?_ (fun _ => ?_)
set_option maxHeartbeats 8000000 in
set_option maxRecDepth 100000 in
theorem hexaplaref04_Local.calls (k : Nat) (a0 : ByteArray) (r : Bool) (w : World) (h : hexaplaref04_Local.f k a0 = some r) :
    Calls Tryd.prog 12 #[.string a0] w fun e w' => e = .returned (.bool r) ∧ Drawn0 w w' := by
  have H : (if (a0.size : Int) < 1 then (hexaplaref04_Local.j0 k a0 true) else (hexaplaref04_Local.j0 k a0 (decide ((a0.size : Int) > 16)))) = some r := h
  clear h
  have HC2 := Aside0.mk H
  clear H
  go_enter Tryd.func12, Tryd.ntmps12
  go_upto_region 1 with (fail)
  go_cut [14] (fun v14 wc => ∃ (kq : Nat) (x14_1 : Bool), v14 = .bool x14_1 ∧ Aside0 (hexaplaref04_Local.j0 kq a0 x14_1 = some r) ∧ Aside0 (kq ≤ k) ∧ Drawn0 w wc)
  case first =>
    have H := HC2.out
    clear HC2
    by_cases c3 : (a0.size : Int) < 1
    · rw [if_pos c3] at H
      have c3b0 : decide ((a0.size : Int) < 1) = true := decide_eq_true c3
      have c3b1 : decide (a0.size < 1) = true := decide_eq_true (by omega)
      clear c3
      (first | rw [c3b0] | (simp only [i64_w, i32_w]; rw [c3b0]) | skip)
      have H' := Aside0.mk H
      clear H
      go_wp2
      go_meet
      case rel => exact ⟨_, (true), (by first | rfl | (simp; done) | (simp [*]; done)), H', ⟨by first | omega | exact Nat.le_refl _⟩, by repeat (first | exact Drawn0.refl _ | apply Drawn0.step)⟩
    · rw [if_neg c3] at H
      have c3b0 : decide ((a0.size : Int) < 1) = false := decide_eq_false c3
      have c3b1 : decide (a0.size < 1) = false := decide_eq_false (by omega)
      clear c3
      (first | rw [c3b0] | (simp only [i64_w, i32_w]; rw [c3b0]) | skip)
      have H' := Aside0.mk H
      clear H
      go_wp2
      go_meet
      case rel => exact ⟨_, (decide ((a0.size : Int) > 16)), (by first | rfl | (simp; done) | (simp [*]; done)), H', ⟨by first | omega | exact Nat.le_refl _⟩, by repeat (first | exact Drawn0.refl _ | apply Drawn0.step)⟩
  case rest =>
    clear HC2
    try clear c1
    try clear p2
    try clear c3
    try clear c3b0
    try clear c3b1
    obtain ⟨kq, x14_1, rfl, HA, HJ1, ⟨mc1, rfl⟩⟩ := hcut
    cases kq with
    | zero => exact absurd HA.out (by simp [hexaplaref04_Local.j0])
    | succ kj1 =>
      have H := HA.out
      clear HA
      simp only [hexaplaref04_Local.j0] at H
      by_cases c4 : x14_1 = true
      · subst c4
        have H1 : (some false) = some r := by rw [if_pos rfl] at H; exact H
        clear H
        have H := H1
        clear H1
        obtain rfl := Option.some.inj H
        go_wp2
        go_ret
        exact ⟨by first | rfl | (simp; done) | (simp [*]; done), by repeat (first | exact Drawn0.refl _ | apply Drawn0.step)⟩
      · replace c4 := Bool.eq_false_iff.mpr c4
        subst c4
        have H1 : (hexaplaref04_Local.l0 kj1 a0 0) = some r := by rw [if_neg (show ¬ (false = true) by decide)] at H; exact H
        clear H
        have H := H1
        clear H1
        have H' := Aside0.mk H
        clear H
        go_wp2
        go_loopg [3] kj1 (fun kq v3 w' => ∃ (x3_2 : Int), v3 = .int .i64 x3_2 ∧ Aside0 (hexaplaref04_Local.l0 kq a0 x3_2 = some r) ∧ Aside0 (kq ≤ kj1) ∧ Drawn0 w w')
        case atStart => exact ⟨(0), (by first | rfl | (simp; done) | (simp [*]; done)), H', ⟨Nat.le_refl _⟩, by repeat (first | exact Drawn0.refl _ | apply Drawn0.step)⟩
        case round =>
          clear H'
          try clear c1
          try clear p2
          try clear c3
          try clear c3b0
          try clear c3b1
          try clear c4
          try clear p2
          obtain ⟨x3_2, rfl, HA, HK2, ⟨m2, rfl⟩⟩ := hrel
          cases gk with
          | zero => exact absurd HA.out (by simp [hexaplaref04_Local.l0])
          | succ k2 =>
            have H := HA.out
            clear HA
            simp only [hexaplaref04_Local.l0] at H
            by_cases c5 : x3_2 < (a0.size : Int)
            · rw [if_pos c5] at H
              have c5b0 : decide (x3_2 < (a0.size : Int)) = true := decide_eq_true c5
              clear c5
              by_cases c6 : 0 ≤ x3_2
              · rw [if_pos c6] at H
                have c6b0 : decide (0 ≤ x3_2) = true := decide_eq_true c6
                clear c6
                by_cases c8 : (bt a0 x3_2) ≥ 97
                · rw [if_pos c8] at H
                  have c8b0 : decide (97 ≤ (bt a0 x3_2)) = true := decide_eq_true c8
                  clear c8
                  by_cases c9 : (bt a0 x3_2) ≤ 122
                  · rw [if_pos c9] at H
                    have c9b0 : decide ((bt a0 x3_2) ≤ 122) = true := decide_eq_true c9
                    clear c9
                    by_cases c10 : (bt a0 x3_2) ≥ 48
                    · rw [if_pos c10] at H
                      have c10b0 : decide (48 ≤ (bt a0 x3_2)) = true := decide_eq_true c10
                      clear c10
                      by_cases c11 : (bt a0 x3_2) ≤ 57
                      · rw [if_pos c11] at H
                        have c11b0 : decide ((bt a0 x3_2) ≤ 57) = true := decide_eq_true c11
                        clear c11
                        have H' := Aside0.mk H
                        clear H
                        have p7 : 0 ≤ (x3_2 : Int) := of_decide_eq_true (by first | (with_reducible assumption) | assumption)
                        have q7 : x3_2 < (a0.size : Int) := of_decide_eq_true (by first | (with_reducible assumption) | assumption)
                        have hx7 := bt_at a0 x3_2
                        replace p7 := eq_true p7
                        replace q7 := eq_true q7
                        go_wp2
                        go_roundg k2
                        case measure => have := HJ1.out; have := HK2.out; omega
                        case rel => exact ⟨(wrap64 (x3_2 + 1)), (by first | rfl | (simp; done) | (simp [*]; done)), H', ⟨by have := HJ1.out; have := HK2.out; omega⟩, by repeat (first | exact Drawn0.refl _ | apply Drawn0.step)⟩
                      · rw [if_neg c11] at H
                        have c11b0 : decide ((bt a0 x3_2) ≤ 57) = false := decide_eq_false c11
                        clear c11
                        by_cases c12 : (bt a0 x3_2) = 45
                        · rw [if_pos c12] at H
                          have c12b0 : ((bt a0 x3_2) == 45) = true := beq_iff_eq.mpr c12
                          have c12b1 : ((bt a0 x3_2) != 45) = false := bne_eq_false_iff_eq.mpr c12
                          clear c12
                          have H' := Aside0.mk H
                          clear H
                          have p7 : 0 ≤ (x3_2 : Int) := of_decide_eq_true (by first | (with_reducible assumption) | assumption)
                          have q7 : x3_2 < (a0.size : Int) := of_decide_eq_true (by first | (with_reducible assumption) | assumption)
                          have hx7 := bt_at a0 x3_2
                          replace p7 := eq_true p7
                          replace q7 := eq_true q7
                          go_wp2
                          go_roundg k2
                          case measure => have := HJ1.out; have := HK2.out; omega
                          case rel => exact ⟨(wrap64 (x3_2 + 1)), (by first | rfl | (simp; done) | (simp [*]; done)), H', ⟨by have := HJ1.out; have := HK2.out; omega⟩, by repeat (first | exact Drawn0.refl _ | apply Drawn0.step)⟩
                        · rw [if_neg c12] at H
                          have c12b0 : ((bt a0 x3_2) == 45) = false := beq_eq_false_iff_ne.mpr c12
                          have c12b1 : ((bt a0 x3_2) != 45) = true := bne_iff_ne.mpr c12
                          have H' := Aside0.mk H
                          clear H
                          have p7 : 0 ≤ (x3_2 : Int) := of_decide_eq_true (by first | (with_reducible assumption) | assumption)
                          have q7 : x3_2 < (a0.size : Int) := of_decide_eq_true (by first | (with_reducible assumption) | assumption)
                          have hx7 := bt_at a0 x3_2
                          replace p7 := eq_true p7
                          replace q7 := eq_true q7
                          go_wp2
                          go_roundg k2
                          case measure => have := HJ1.out; have := HK2.out; omega
                          case rel => exact ⟨(wrap64 (x3_2 + 1)), (by first | rfl | (simp; done) | (simp [*]; done)), H', ⟨by have := HJ1.out; have := HK2.out; omega⟩, by repeat (first | exact Drawn0.refl _ | apply Drawn0.step)⟩
                    · rw [if_neg c10] at H
                      have c10b0 : decide (48 ≤ (bt a0 x3_2)) = false := decide_eq_false c10
                      clear c10
                      by_cases c13 : (bt a0 x3_2) = 45
                      · rw [if_pos c13] at H
                        have c13b0 : ((bt a0 x3_2) == 45) = true := beq_iff_eq.mpr c13
                        have c13b1 : ((bt a0 x3_2) != 45) = false := bne_eq_false_iff_eq.mpr c13
                        clear c13
                        have H' := Aside0.mk H
                        clear H
                        have p7 : 0 ≤ (x3_2 : Int) := of_decide_eq_true (by first | (with_reducible assumption) | assumption)
                        have q7 : x3_2 < (a0.size : Int) := of_decide_eq_true (by first | (with_reducible assumption) | assumption)
                        have hx7 := bt_at a0 x3_2
                        replace p7 := eq_true p7
                        replace q7 := eq_true q7
                        go_wp2
                        go_roundg k2
                        case measure => have := HJ1.out; have := HK2.out; omega
                        case rel => exact ⟨(wrap64 (x3_2 + 1)), (by first | rfl | (simp; done) | (simp [*]; done)), H', ⟨by have := HJ1.out; have := HK2.out; omega⟩, by repeat (first | exact Drawn0.refl _ | apply Drawn0.step)⟩
                      · rw [if_neg c13] at H
                        have c13b0 : ((bt a0 x3_2) == 45) = false := beq_eq_false_iff_ne.mpr c13
                        have c13b1 : ((bt a0 x3_2) != 45) = true := bne_iff_ne.mpr c13
                        have H' := Aside0.mk H
                        clear H
                        have p7 : 0 ≤ (x3_2 : Int) := of_decide_eq_true (by first | (with_reducible assumption) | assumption)
                        have q7 : x3_2 < (a0.size : Int) := of_decide_eq_true (by first | (with_reducible assumption) | assumption)
                        have hx7 := bt_at a0 x3_2
                        replace p7 := eq_true p7
                        replace q7 := eq_true q7
                        go_wp2
                        go_roundg k2
                        case measure => have := HJ1.out; have := HK2.out; omega
                        case rel => exact ⟨(wrap64 (x3_2 + 1)), (by first | rfl | (simp; done) | (simp [*]; done)), H', ⟨by have := HJ1.out; have := HK2.out; omega⟩, by repeat (first | exact Drawn0.refl _ | apply Drawn0.step)⟩
                  · rw [if_neg c9] at H
                    have c9b0 : decide ((bt a0 x3_2) ≤ 122) = false := decide_eq_false c9
                    clear c9
                    by_cases c14 : (bt a0 x3_2) ≥ 65
                    · rw [if_pos c14] at H
                      have c14b0 : decide (65 ≤ (bt a0 x3_2)) = true := decide_eq_true c14
                      clear c14
                      by_cases c15 : (bt a0 x3_2) ≤ 90
                      · rw [if_pos c15] at H
                        have c15b0 : decide ((bt a0 x3_2) ≤ 90) = true := decide_eq_true c15
                        clear c15
                        by_cases c16 : (bt a0 x3_2) ≥ 48
                        · rw [if_pos c16] at H
                          have c16b0 : decide (48 ≤ (bt a0 x3_2)) = true := decide_eq_true c16
                          clear c16
                          by_cases c17 : (bt a0 x3_2) ≤ 57
                          · rw [if_pos c17] at H
                            have c17b0 : decide ((bt a0 x3_2) ≤ 57) = true := decide_eq_true c17
                            clear c17
                            have H' := Aside0.mk H
                            clear H
                            have p7 : 0 ≤ (x3_2 : Int) := of_decide_eq_true (by first | (with_reducible assumption) | assumption)
                            have q7 : x3_2 < (a0.size : Int) := of_decide_eq_true (by first | (with_reducible assumption) | assumption)
                            have hx7 := bt_at a0 x3_2
                            replace p7 := eq_true p7
                            replace q7 := eq_true q7
                            go_wp2
                            go_roundg k2
                            case measure => have := HJ1.out; have := HK2.out; omega
                            case rel => exact ⟨(wrap64 (x3_2 + 1)), (by first | rfl | (simp; done) | (simp [*]; done)), H', ⟨by have := HJ1.out; have := HK2.out; omega⟩, by repeat (first | exact Drawn0.refl _ | apply Drawn0.step)⟩
                          · rw [if_neg c17] at H
                            have c17b0 : decide ((bt a0 x3_2) ≤ 57) = false := decide_eq_false c17
                            clear c17
                            by_cases c18 : (bt a0 x3_2) = 45
                            · rw [if_pos c18] at H
                              have c18b0 : ((bt a0 x3_2) == 45) = true := beq_iff_eq.mpr c18
                              have c18b1 : ((bt a0 x3_2) != 45) = false := bne_eq_false_iff_eq.mpr c18
                              clear c18
                              have H' := Aside0.mk H
                              clear H
                              have p7 : 0 ≤ (x3_2 : Int) := of_decide_eq_true (by first | (with_reducible assumption) | assumption)
                              have q7 : x3_2 < (a0.size : Int) := of_decide_eq_true (by first | (with_reducible assumption) | assumption)
                              have hx7 := bt_at a0 x3_2
                              replace p7 := eq_true p7
                              replace q7 := eq_true q7
                              go_wp2
                              go_roundg k2
                              case measure => have := HJ1.out; have := HK2.out; omega
                              case rel => exact ⟨(wrap64 (x3_2 + 1)), (by first | rfl | (simp; done) | (simp [*]; done)), H', ⟨by have := HJ1.out; have := HK2.out; omega⟩, by repeat (first | exact Drawn0.refl _ | apply Drawn0.step)⟩
                            · rw [if_neg c18] at H
                              have c18b0 : ((bt a0 x3_2) == 45) = false := beq_eq_false_iff_ne.mpr c18
                              have c18b1 : ((bt a0 x3_2) != 45) = true := bne_iff_ne.mpr c18
                              have H' := Aside0.mk H
                              clear H
                              have p7 : 0 ≤ (x3_2 : Int) := of_decide_eq_true (by first | (with_reducible assumption) | assumption)
                              have q7 : x3_2 < (a0.size : Int) := of_decide_eq_true (by first | (with_reducible assumption) | assumption)
                              have hx7 := bt_at a0 x3_2
                              replace p7 := eq_true p7
                              replace q7 := eq_true q7
                              go_wp2
                              go_roundg k2
                              case measure => have := HJ1.out; have := HK2.out; omega
                              case rel => exact ⟨(wrap64 (x3_2 + 1)), (by first | rfl | (simp; done) | (simp [*]; done)), H', ⟨by have := HJ1.out; have := HK2.out; omega⟩, by repeat (first | exact Drawn0.refl _ | apply Drawn0.step)⟩
                        · rw [if_neg c16] at H
                          have c16b0 : decide (48 ≤ (bt a0 x3_2)) = false := decide_eq_false c16
                          clear c16
                          by_cases c19 : (bt a0 x3_2) = 45
                          · rw [if_pos c19] at H
                            have c19b0 : ((bt a0 x3_2) == 45) = true := beq_iff_eq.mpr c19
                            have c19b1 : ((bt a0 x3_2) != 45) = false := bne_eq_false_iff_eq.mpr c19
                            clear c19
                            have H' := Aside0.mk H
                            clear H
                            have p7 : 0 ≤ (x3_2 : Int) := of_decide_eq_true (by first | (with_reducible assumption) | assumption)
                            have q7 : x3_2 < (a0.size : Int) := of_decide_eq_true (by first | (with_reducible assumption) | assumption)
                            have hx7 := bt_at a0 x3_2
                            replace p7 := eq_true p7
                            replace q7 := eq_true q7
                            go_wp2
                            go_roundg k2
                            case measure => have := HJ1.out; have := HK2.out; omega
                            case rel => exact ⟨(wrap64 (x3_2 + 1)), (by first | rfl | (simp; done) | (simp [*]; done)), H', ⟨by have := HJ1.out; have := HK2.out; omega⟩, by repeat (first | exact Drawn0.refl _ | apply Drawn0.step)⟩
                          · rw [if_neg c19] at H
                            have c19b0 : ((bt a0 x3_2) == 45) = false := beq_eq_false_iff_ne.mpr c19
                            have c19b1 : ((bt a0 x3_2) != 45) = true := bne_iff_ne.mpr c19
                            have H' := Aside0.mk H
                            clear H
                            have p7 : 0 ≤ (x3_2 : Int) := of_decide_eq_true (by first | (with_reducible assumption) | assumption)
                            have q7 : x3_2 < (a0.size : Int) := of_decide_eq_true (by first | (with_reducible assumption) | assumption)
                            have hx7 := bt_at a0 x3_2
                            replace p7 := eq_true p7
                            replace q7 := eq_true q7
                            go_wp2
                            go_roundg k2
                            case measure => have := HJ1.out; have := HK2.out; omega
                            case rel => exact ⟨(wrap64 (x3_2 + 1)), (by first | rfl | (simp; done) | (simp [*]; done)), H', ⟨by have := HJ1.out; have := HK2.out; omega⟩, by repeat (first | exact Drawn0.refl _ | apply Drawn0.step)⟩
                      · rw [if_neg c15] at H
                        have c15b0 : decide ((bt a0 x3_2) ≤ 90) = false := decide_eq_false c15
                        clear c15
                        by_cases c20 : (bt a0 x3_2) ≥ 48
                        · rw [if_pos c20] at H
                          have c20b0 : decide (48 ≤ (bt a0 x3_2)) = true := decide_eq_true c20
                          clear c20
                          by_cases c21 : (bt a0 x3_2) ≤ 57
                          · rw [if_pos c21] at H
                            have c21b0 : decide ((bt a0 x3_2) ≤ 57) = true := decide_eq_true c21
                            clear c21
                            by_cases c22 : ((bt a0 x3_2) = 95)
                            · rw [if_pos c22] at H
                              have c22b0 : ((bt a0 x3_2) == 95) = true := beq_iff_eq.mpr c22
                              have c22b1 : ((bt a0 x3_2) != 95) = false := bne_eq_false_iff_eq.mpr c22
                              clear c22
                              have H' := Aside0.mk H
                              clear H
                              have p7 : 0 ≤ (x3_2 : Int) := of_decide_eq_true (by first | (with_reducible assumption) | assumption)
                              have q7 : x3_2 < (a0.size : Int) := of_decide_eq_true (by first | (with_reducible assumption) | assumption)
                              have hx7 := bt_at a0 x3_2
                              replace p7 := eq_true p7
                              replace q7 := eq_true q7
                              go_wp2
                              go_roundg k2
                              case measure => have := HJ1.out; have := HK2.out; omega
                              case rel => exact ⟨(wrap64 (x3_2 + 1)), (by first | rfl | (simp; done) | (simp [*]; done)), H', ⟨by have := HJ1.out; have := HK2.out; omega⟩, by repeat (first | exact Drawn0.refl _ | apply Drawn0.step)⟩
                            · rw [if_neg c22] at H
                              have c22b0 : ((bt a0 x3_2) == 95) = false := beq_eq_false_iff_ne.mpr c22
                              have c22b1 : ((bt a0 x3_2) != 95) = true := bne_iff_ne.mpr c22
                              by_cases c23 : x3_2 > 0
                              · rw [if_pos c23] at H
                                have c23b0 : decide (0 < x3_2) = true := decide_eq_true c23
                                clear c23
                                have H' := Aside0.mk H
                                clear H
                                have p7 : 0 ≤ (x3_2 : Int) := of_decide_eq_true (by first | (with_reducible assumption) | assumption)
                                have q7 : x3_2 < (a0.size : Int) := of_decide_eq_true (by first | (with_reducible assumption) | assumption)
                                have hx7 := bt_at a0 x3_2
                                replace p7 := eq_true p7
                                replace q7 := eq_true q7
                                go_wp2
                                go_roundg k2
                                case measure => have := HJ1.out; have := HK2.out; omega
                                case rel => exact ⟨(wrap64 (x3_2 + 1)), (by first | rfl | (simp; done) | (simp [*]; done)), H', ⟨by have := HJ1.out; have := HK2.out; omega⟩, by repeat (first | exact Drawn0.refl _ | apply Drawn0.step)⟩
                              · rw [if_neg c23] at H
                                have c23b0 : decide (0 < x3_2) = false := decide_eq_false c23
                                clear c23
                                obtain rfl := Option.some.inj H
                                have p7 : 0 ≤ (x3_2 : Int) := of_decide_eq_true (by first | (with_reducible assumption) | assumption)
                                have q7 : x3_2 < (a0.size : Int) := of_decide_eq_true (by first | (with_reducible assumption) | assumption)
                                have hx7 := bt_at a0 x3_2
                                replace p7 := eq_true p7
                                replace q7 := eq_true q7
                                go_wp2
                                go_ret
                                exact ⟨by first | rfl | (simp; done) | (simp [*]; done), by repeat (first | exact Drawn0.refl _ | apply Drawn0.step)⟩
                          · rw [if_neg c21] at H
                            have c21b0 : decide ((bt a0 x3_2) ≤ 57) = false := decide_eq_false c21
                            clear c21
                            by_cases c24 : (bt a0 x3_2) = 45
                            · rw [if_pos c24] at H
                              have c24b0 : ((bt a0 x3_2) == 45) = true := beq_iff_eq.mpr c24
                              have c24b1 : ((bt a0 x3_2) != 45) = false := bne_eq_false_iff_eq.mpr c24
                              clear c24
                              by_cases c25 : ((bt a0 x3_2) = 95)
                              · rw [if_pos c25] at H
                                have c25b0 : ((bt a0 x3_2) == 95) = true := beq_iff_eq.mpr c25
                                have c25b1 : ((bt a0 x3_2) != 95) = false := bne_eq_false_iff_eq.mpr c25
                                clear c25
                                have H' := Aside0.mk H
                                clear H
                                have p7 : 0 ≤ (x3_2 : Int) := of_decide_eq_true (by first | (with_reducible assumption) | assumption)
                                have q7 : x3_2 < (a0.size : Int) := of_decide_eq_true (by first | (with_reducible assumption) | assumption)
                                have hx7 := bt_at a0 x3_2
                                replace p7 := eq_true p7
                                replace q7 := eq_true q7
                                go_wp2
                                go_roundg k2
                                case measure => have := HJ1.out; have := HK2.out; omega
                                case rel => exact ⟨(wrap64 (x3_2 + 1)), (by first | rfl | (simp; done) | (simp [*]; done)), H', ⟨by have := HJ1.out; have := HK2.out; omega⟩, by repeat (first | exact Drawn0.refl _ | apply Drawn0.step)⟩
                              · rw [if_neg c25] at H
                                have c25b0 : ((bt a0 x3_2) == 95) = false := beq_eq_false_iff_ne.mpr c25
                                have c25b1 : ((bt a0 x3_2) != 95) = true := bne_iff_ne.mpr c25
                                by_cases c26 : x3_2 > 0
                                · rw [if_pos c26] at H
                                  have c26b0 : decide (0 < x3_2) = true := decide_eq_true c26
                                  clear c26
                                  have H' := Aside0.mk H
                                  clear H
                                  have p7 : 0 ≤ (x3_2 : Int) := of_decide_eq_true (by first | (with_reducible assumption) | assumption)
                                  have q7 : x3_2 < (a0.size : Int) := of_decide_eq_true (by first | (with_reducible assumption) | assumption)
                                  have hx7 := bt_at a0 x3_2
                                  replace p7 := eq_true p7
                                  replace q7 := eq_true q7
                                  go_wp2
                                  go_roundg k2
                                  case measure => have := HJ1.out; have := HK2.out; omega
                                  case rel => exact ⟨(wrap64 (x3_2 + 1)), (by first | rfl | (simp; done) | (simp [*]; done)), H', ⟨by have := HJ1.out; have := HK2.out; omega⟩, by repeat (first | exact Drawn0.refl _ | apply Drawn0.step)⟩
                                · rw [if_neg c26] at H
                                  have c26b0 : decide (0 < x3_2) = false := decide_eq_false c26
                                  clear c26
                                  obtain rfl := Option.some.inj H
                                  have p7 : 0 ≤ (x3_2 : Int) := of_decide_eq_true (by first | (with_reducible assumption) | assumption)
                                  have q7 : x3_2 < (a0.size : Int) := of_decide_eq_true (by first | (with_reducible assumption) | assumption)
                                  have hx7 := bt_at a0 x3_2
                                  replace p7 := eq_true p7
                                  replace q7 := eq_true q7
                                  go_wp2
                                  go_ret
                                  exact ⟨by first | rfl | (simp; done) | (simp [*]; done), by repeat (first | exact Drawn0.refl _ | apply Drawn0.step)⟩
                            · rw [if_neg c24] at H
                              have c24b0 : ((bt a0 x3_2) == 45) = false := beq_eq_false_iff_ne.mpr c24
                              have c24b1 : ((bt a0 x3_2) != 45) = true := bne_iff_ne.mpr c24
                              by_cases c27 : ((bt a0 x3_2) = 95)
                              · rw [if_pos c27] at H
                                have c27b0 : ((bt a0 x3_2) == 95) = true := beq_iff_eq.mpr c27
                                have c27b1 : ((bt a0 x3_2) != 95) = false := bne_eq_false_iff_eq.mpr c27
                                clear c27
                                have H' := Aside0.mk H
                                clear H
                                have p7 : 0 ≤ (x3_2 : Int) := of_decide_eq_true (by first | (with_reducible assumption) | assumption)
                                have q7 : x3_2 < (a0.size : Int) := of_decide_eq_true (by first | (with_reducible assumption) | assumption)
                                have hx7 := bt_at a0 x3_2
                                replace p7 := eq_true p7
                                replace q7 := eq_true q7
                                go_wp2
                                go_roundg k2
                                case measure => have := HJ1.out; have := HK2.out; omega
                                case rel => exact ⟨(wrap64 (x3_2 + 1)), (by first | rfl | (simp; done) | (simp [*]; done)), H', ⟨by have := HJ1.out; have := HK2.out; omega⟩, by repeat (first | exact Drawn0.refl _ | apply Drawn0.step)⟩
                              · rw [if_neg c27] at H
                                have c27b0 : ((bt a0 x3_2) == 95) = false := beq_eq_false_iff_ne.mpr c27
                                have c27b1 : ((bt a0 x3_2) != 95) = true := bne_iff_ne.mpr c27
                                by_cases c28 : (bt a0 x3_2) = 46
                                · rw [if_pos c28] at H
                                  have c28b0 : ((bt a0 x3_2) == 46) = true := beq_iff_eq.mpr c28
                                  have c28b1 : ((bt a0 x3_2) != 46) = false := bne_eq_false_iff_eq.mpr c28
                                  clear c28
                                  by_cases c29 : x3_2 > 0
                                  · rw [if_pos c29] at H
                                    have c29b0 : decide (0 < x3_2) = true := decide_eq_true c29
                                    clear c29
                                    have H' := Aside0.mk H
                                    clear H
                                    have p7 : 0 ≤ (x3_2 : Int) := of_decide_eq_true (by first | (with_reducible assumption) | assumption)
                                    have q7 : x3_2 < (a0.size : Int) := of_decide_eq_true (by first | (with_reducible assumption) | assumption)
                                    have hx7 := bt_at a0 x3_2
                                    replace p7 := eq_true p7
                                    replace q7 := eq_true q7
                                    go_wp2
                                    go_roundg k2
                                    case measure => have := HJ1.out; have := HK2.out; omega
                                    case rel => exact ⟨(wrap64 (x3_2 + 1)), (by first | rfl | (simp; done) | (simp [*]; done)), H', ⟨by have := HJ1.out; have := HK2.out; omega⟩, by repeat (first | exact Drawn0.refl _ | apply Drawn0.step)⟩
                                  · rw [if_neg c29] at H
                                    have c29b0 : decide (0 < x3_2) = false := decide_eq_false c29
                                    clear c29
                                    obtain rfl := Option.some.inj H
                                    have p7 : 0 ≤ (x3_2 : Int) := of_decide_eq_true (by first | (with_reducible assumption) | assumption)
                                    have q7 : x3_2 < (a0.size : Int) := of_decide_eq_true (by first | (with_reducible assumption) | assumption)
                                    have hx7 := bt_at a0 x3_2
                                    replace p7 := eq_true p7
                                    replace q7 := eq_true q7
                                    go_wp2
                                    go_ret
                                    exact ⟨by first | rfl | (simp; done) | (simp [*]; done), by repeat (first | exact Drawn0.refl _ | apply Drawn0.step)⟩
                                · rw [if_neg c28] at H
                                  have c28b0 : ((bt a0 x3_2) == 46) = false := beq_eq_false_iff_ne.mpr c28
                                  have c28b1 : ((bt a0 x3_2) != 46) = true := bne_iff_ne.mpr c28
                                  obtain rfl := Option.some.inj H
                                  have p7 : 0 ≤ (x3_2 : Int) := of_decide_eq_true (by first | (with_reducible assumption) | assumption)
                                  have q7 : x3_2 < (a0.size : Int) := of_decide_eq_true (by first | (with_reducible assumption) | assumption)
                                  have hx7 := bt_at a0 x3_2
                                  replace p7 := eq_true p7
                                  replace q7 := eq_true q7
                                  go_wp2
                                  go_ret
                                  exact ⟨by first | rfl | (simp; done) | (simp [*]; done), by repeat (first | exact Drawn0.refl _ | apply Drawn0.step)⟩
                        · rw [if_neg c20] at H
                          have c20b0 : decide (48 ≤ (bt a0 x3_2)) = false := decide_eq_false c20
                          clear c20
                          by_cases c30 : (bt a0 x3_2) = 45
                          · rw [if_pos c30] at H
                            have c30b0 : ((bt a0 x3_2) == 45) = true := beq_iff_eq.mpr c30
                            have c30b1 : ((bt a0 x3_2) != 45) = false := bne_eq_false_iff_eq.mpr c30
                            clear c30
                            by_cases c31 : ((bt a0 x3_2) = 95)
                            · rw [if_pos c31] at H
                              have c31b0 : ((bt a0 x3_2) == 95) = true := beq_iff_eq.mpr c31
                              have c31b1 : ((bt a0 x3_2) != 95) = false := bne_eq_false_iff_eq.mpr c31
                              clear c31
                              have H' := Aside0.mk H
                              clear H
                              have p7 : 0 ≤ (x3_2 : Int) := of_decide_eq_true (by first | (with_reducible assumption) | assumption)
                              have q7 : x3_2 < (a0.size : Int) := of_decide_eq_true (by first | (with_reducible assumption) | assumption)
                              have hx7 := bt_at a0 x3_2
                              replace p7 := eq_true p7
                              replace q7 := eq_true q7
                              go_wp2
                              go_roundg k2
                              case measure => have := HJ1.out; have := HK2.out; omega
                              case rel => exact ⟨(wrap64 (x3_2 + 1)), (by first | rfl | (simp; done) | (simp [*]; done)), H', ⟨by have := HJ1.out; have := HK2.out; omega⟩, by repeat (first | exact Drawn0.refl _ | apply Drawn0.step)⟩
                            · rw [if_neg c31] at H
                              have c31b0 : ((bt a0 x3_2) == 95) = false := beq_eq_false_iff_ne.mpr c31
                              have c31b1 : ((bt a0 x3_2) != 95) = true := bne_iff_ne.mpr c31
                              by_cases c32 : x3_2 > 0
                              · rw [if_pos c32] at H
                                have c32b0 : decide (0 < x3_2) = true := decide_eq_true c32
                                clear c32
                                have H' := Aside0.mk H
                                clear H
                                have p7 : 0 ≤ (x3_2 : Int) := of_decide_eq_true (by first | (with_reducible assumption) | assumption)
                                have q7 : x3_2 < (a0.size : Int) := of_decide_eq_true (by first | (with_reducible assumption) | assumption)
                                have hx7 := bt_at a0 x3_2
                                replace p7 := eq_true p7
                                replace q7 := eq_true q7
                                go_wp2
                                go_roundg k2
                                case measure => have := HJ1.out; have := HK2.out; omega
                                case rel => exact ⟨(wrap64 (x3_2 + 1)), (by first | rfl | (simp; done) | (simp [*]; done)), H', ⟨by have := HJ1.out; have := HK2.out; omega⟩, by repeat (first | exact Drawn0.refl _ | apply Drawn0.step)⟩
                              · rw [if_neg c32] at H
                                have c32b0 : decide (0 < x3_2) = false := decide_eq_false c32
                                clear c32
                                obtain rfl := Option.some.inj H
                                have p7 : 0 ≤ (x3_2 : Int) := of_decide_eq_true (by first | (with_reducible assumption) | assumption)
                                have q7 : x3_2 < (a0.size : Int) := of_decide_eq_true (by first | (with_reducible assumption) | assumption)
                                have hx7 := bt_at a0 x3_2
                                replace p7 := eq_true p7
                                replace q7 := eq_true q7
                                go_wp2
                                go_ret
                                exact ⟨by first | rfl | (simp; done) | (simp [*]; done), by repeat (first | exact Drawn0.refl _ | apply Drawn0.step)⟩
                          · rw [if_neg c30] at H
                            have c30b0 : ((bt a0 x3_2) == 45) = false := beq_eq_false_iff_ne.mpr c30
                            have c30b1 : ((bt a0 x3_2) != 45) = true := bne_iff_ne.mpr c30
                            by_cases c33 : ((bt a0 x3_2) = 95)
                            · rw [if_pos c33] at H
                              have c33b0 : ((bt a0 x3_2) == 95) = true := beq_iff_eq.mpr c33
                              have c33b1 : ((bt a0 x3_2) != 95) = false := bne_eq_false_iff_eq.mpr c33
                              clear c33
                              have H' := Aside0.mk H
                              clear H
                              have p7 : 0 ≤ (x3_2 : Int) := of_decide_eq_true (by first | (with_reducible assumption) | assumption)
                              have q7 : x3_2 < (a0.size : Int) := of_decide_eq_true (by first | (with_reducible assumption) | assumption)
                              have hx7 := bt_at a0 x3_2
                              replace p7 := eq_true p7
                              replace q7 := eq_true q7
                              go_wp2
                              go_roundg k2
                              case measure => have := HJ1.out; have := HK2.out; omega
                              case rel => exact ⟨(wrap64 (x3_2 + 1)), (by first | rfl | (simp; done) | (simp [*]; done)), H', ⟨by have := HJ1.out; have := HK2.out; omega⟩, by repeat (first | exact Drawn0.refl _ | apply Drawn0.step)⟩
                            · rw [if_neg c33] at H
                              have c33b0 : ((bt a0 x3_2) == 95) = false := beq_eq_false_iff_ne.mpr c33
                              have c33b1 : ((bt a0 x3_2) != 95) = true := bne_iff_ne.mpr c33
                              by_cases c34 : (bt a0 x3_2) = 46
                              · rw [if_pos c34] at H
                                have c34b0 : ((bt a0 x3_2) == 46) = true := beq_iff_eq.mpr c34
                                have c34b1 : ((bt a0 x3_2) != 46) = false := bne_eq_false_iff_eq.mpr c34
                                clear c34
                                by_cases c35 : x3_2 > 0
                                · rw [if_pos c35] at H
                                  have c35b0 : decide (0 < x3_2) = true := decide_eq_true c35
                                  clear c35
                                  have H' := Aside0.mk H
                                  clear H
                                  have p7 : 0 ≤ (x3_2 : Int) := of_decide_eq_true (by first | (with_reducible assumption) | assumption)
                                  have q7 : x3_2 < (a0.size : Int) := of_decide_eq_true (by first | (with_reducible assumption) | assumption)
                                  have hx7 := bt_at a0 x3_2
                                  replace p7 := eq_true p7
                                  replace q7 := eq_true q7
                                  go_wp2
                                  go_roundg k2
                                  case measure => have := HJ1.out; have := HK2.out; omega
                                  case rel => exact ⟨(wrap64 (x3_2 + 1)), (by first | rfl | (simp; done) | (simp [*]; done)), H', ⟨by have := HJ1.out; have := HK2.out; omega⟩, by repeat (first | exact Drawn0.refl _ | apply Drawn0.step)⟩
                                · rw [if_neg c35] at H
                                  have c35b0 : decide (0 < x3_2) = false := decide_eq_false c35
                                  clear c35
                                  obtain rfl := Option.some.inj H
                                  have p7 : 0 ≤ (x3_2 : Int) := of_decide_eq_true (by first | (with_reducible assumption) | assumption)
                                  have q7 : x3_2 < (a0.size : Int) := of_decide_eq_true (by first | (with_reducible assumption) | assumption)
                                  have hx7 := bt_at a0 x3_2
                                  replace p7 := eq_true p7
                                  replace q7 := eq_true q7
                                  go_wp2
                                  go_ret
                                  exact ⟨by first | rfl | (simp; done) | (simp [*]; done), by repeat (first | exact Drawn0.refl _ | apply Drawn0.step)⟩
                              · rw [if_neg c34] at H
                                have c34b0 : ((bt a0 x3_2) == 46) = false := beq_eq_false_iff_ne.mpr c34
                                have c34b1 : ((bt a0 x3_2) != 46) = true := bne_iff_ne.mpr c34
                                obtain rfl := Option.some.inj H
                                have p7 : 0 ≤ (x3_2 : Int) := of_decide_eq_true (by first | (with_reducible assumption) | assumption)
                                have q7 : x3_2 < (a0.size : Int) := of_decide_eq_true (by first | (with_reducible assumption) | assumption)
                                have hx7 := bt_at a0 x3_2
                                replace p7 := eq_true p7
                                replace q7 := eq_true q7
                                go_wp2
                                go_ret
                                exact ⟨by first | rfl | (simp; done) | (simp [*]; done), by repeat (first | exact Drawn0.refl _ | apply Drawn0.step)⟩
                    · rw [if_neg c14] at H
                      have c14b0 : decide (65 ≤ (bt a0 x3_2)) = false := decide_eq_false c14
                      clear c14
                      by_cases c36 : (bt a0 x3_2) ≥ 48
                      · rw [if_pos c36] at H
                        have c36b0 : decide (48 ≤ (bt a0 x3_2)) = true := decide_eq_true c36
                        clear c36
                        by_cases c37 : (bt a0 x3_2) ≤ 57
                        · rw [if_pos c37] at H
                          have c37b0 : decide ((bt a0 x3_2) ≤ 57) = true := decide_eq_true c37
                          clear c37
                          by_cases c38 : ((bt a0 x3_2) = 95)
                          · rw [if_pos c38] at H
                            have c38b0 : ((bt a0 x3_2) == 95) = true := beq_iff_eq.mpr c38
                            have c38b1 : ((bt a0 x3_2) != 95) = false := bne_eq_false_iff_eq.mpr c38
                            clear c38
                            have H' := Aside0.mk H
                            clear H
                            have p7 : 0 ≤ (x3_2 : Int) := of_decide_eq_true (by first | (with_reducible assumption) | assumption)
                            have q7 : x3_2 < (a0.size : Int) := of_decide_eq_true (by first | (with_reducible assumption) | assumption)
                            have hx7 := bt_at a0 x3_2
                            replace p7 := eq_true p7
                            replace q7 := eq_true q7
                            go_wp2
                            go_roundg k2
                            case measure => have := HJ1.out; have := HK2.out; omega
                            case rel => exact ⟨(wrap64 (x3_2 + 1)), (by first | rfl | (simp; done) | (simp [*]; done)), H', ⟨by have := HJ1.out; have := HK2.out; omega⟩, by repeat (first | exact Drawn0.refl _ | apply Drawn0.step)⟩
                          · rw [if_neg c38] at H
                            have c38b0 : ((bt a0 x3_2) == 95) = false := beq_eq_false_iff_ne.mpr c38
                            have c38b1 : ((bt a0 x3_2) != 95) = true := bne_iff_ne.mpr c38
                            by_cases c39 : x3_2 > 0
                            · rw [if_pos c39] at H
                              have c39b0 : decide (0 < x3_2) = true := decide_eq_true c39
                              clear c39
                              have H' := Aside0.mk H
                              clear H
                              have p7 : 0 ≤ (x3_2 : Int) := of_decide_eq_true (by first | (with_reducible assumption) | assumption)
                              have q7 : x3_2 < (a0.size : Int) := of_decide_eq_true (by first | (with_reducible assumption) | assumption)
                              have hx7 := bt_at a0 x3_2
                              replace p7 := eq_true p7
                              replace q7 := eq_true q7
                              go_wp2
                              go_roundg k2
                              case measure => have := HJ1.out; have := HK2.out; omega
                              case rel => exact ⟨(wrap64 (x3_2 + 1)), (by first | rfl | (simp; done) | (simp [*]; done)), H', ⟨by have := HJ1.out; have := HK2.out; omega⟩, by repeat (first | exact Drawn0.refl _ | apply Drawn0.step)⟩
                            · rw [if_neg c39] at H
                              have c39b0 : decide (0 < x3_2) = false := decide_eq_false c39
                              clear c39
                              obtain rfl := Option.some.inj H
                              have p7 : 0 ≤ (x3_2 : Int) := of_decide_eq_true (by first | (with_reducible assumption) | assumption)
                              have q7 : x3_2 < (a0.size : Int) := of_decide_eq_true (by first | (with_reducible assumption) | assumption)
                              have hx7 := bt_at a0 x3_2
                              replace p7 := eq_true p7
                              replace q7 := eq_true q7
                              go_wp2
                              go_ret
                              exact ⟨by first | rfl | (simp; done) | (simp [*]; done), by repeat (first | exact Drawn0.refl _ | apply Drawn0.step)⟩
                        · rw [if_neg c37] at H
                          have c37b0 : decide ((bt a0 x3_2) ≤ 57) = false := decide_eq_false c37
                          clear c37
                          by_cases c40 : (bt a0 x3_2) = 45
                          · rw [if_pos c40] at H
                            have c40b0 : ((bt a0 x3_2) == 45) = true := beq_iff_eq.mpr c40
                            have c40b1 : ((bt a0 x3_2) != 45) = false := bne_eq_false_iff_eq.mpr c40
                            clear c40
                            by_cases c41 : ((bt a0 x3_2) = 95)
                            · rw [if_pos c41] at H
                              have c41b0 : ((bt a0 x3_2) == 95) = true := beq_iff_eq.mpr c41
                              have c41b1 : ((bt a0 x3_2) != 95) = false := bne_eq_false_iff_eq.mpr c41
                              clear c41
                              have H' := Aside0.mk H
                              clear H
                              have p7 : 0 ≤ (x3_2 : Int) := of_decide_eq_true (by first | (with_reducible assumption) | assumption)
                              have q7 : x3_2 < (a0.size : Int) := of_decide_eq_true (by first | (with_reducible assumption) | assumption)
                              have hx7 := bt_at a0 x3_2
                              replace p7 := eq_true p7
                              replace q7 := eq_true q7
                              go_wp2
                              go_roundg k2
                              case measure => have := HJ1.out; have := HK2.out; omega
                              case rel => exact ⟨(wrap64 (x3_2 + 1)), (by first | rfl | (simp; done) | (simp [*]; done)), H', ⟨by have := HJ1.out; have := HK2.out; omega⟩, by repeat (first | exact Drawn0.refl _ | apply Drawn0.step)⟩
                            · rw [if_neg c41] at H
                              have c41b0 : ((bt a0 x3_2) == 95) = false := beq_eq_false_iff_ne.mpr c41
                              have c41b1 : ((bt a0 x3_2) != 95) = true := bne_iff_ne.mpr c41
                              by_cases c42 : x3_2 > 0
                              · rw [if_pos c42] at H
                                have c42b0 : decide (0 < x3_2) = true := decide_eq_true c42
                                clear c42
                                have H' := Aside0.mk H
                                clear H
                                have p7 : 0 ≤ (x3_2 : Int) := of_decide_eq_true (by first | (with_reducible assumption) | assumption)
                                have q7 : x3_2 < (a0.size : Int) := of_decide_eq_true (by first | (with_reducible assumption) | assumption)
                                have hx7 := bt_at a0 x3_2
                                replace p7 := eq_true p7
                                replace q7 := eq_true q7
                                go_wp2
                                go_roundg k2
                                case measure => have := HJ1.out; have := HK2.out; omega
                                case rel => exact ⟨(wrap64 (x3_2 + 1)), (by first | rfl | (simp; done) | (simp [*]; done)), H', ⟨by have := HJ1.out; have := HK2.out; omega⟩, by repeat (first | exact Drawn0.refl _ | apply Drawn0.step)⟩
                              · rw [if_neg c42] at H
                                have c42b0 : decide (0 < x3_2) = false := decide_eq_false c42
                                clear c42
                                obtain rfl := Option.some.inj H
                                have p7 : 0 ≤ (x3_2 : Int) := of_decide_eq_true (by first | (with_reducible assumption) | assumption)
                                have q7 : x3_2 < (a0.size : Int) := of_decide_eq_true (by first | (with_reducible assumption) | assumption)
                                have hx7 := bt_at a0 x3_2
                                replace p7 := eq_true p7
                                replace q7 := eq_true q7
                                go_wp2
                                go_ret
                                exact ⟨by first | rfl | (simp; done) | (simp [*]; done), by repeat (first | exact Drawn0.refl _ | apply Drawn0.step)⟩
                          · rw [if_neg c40] at H
                            have c40b0 : ((bt a0 x3_2) == 45) = false := beq_eq_false_iff_ne.mpr c40
                            have c40b1 : ((bt a0 x3_2) != 45) = true := bne_iff_ne.mpr c40
                            by_cases c43 : ((bt a0 x3_2) = 95)
                            · rw [if_pos c43] at H
                              have c43b0 : ((bt a0 x3_2) == 95) = true := beq_iff_eq.mpr c43
                              have c43b1 : ((bt a0 x3_2) != 95) = false := bne_eq_false_iff_eq.mpr c43
                              clear c43
                              have H' := Aside0.mk H
                              clear H
                              have p7 : 0 ≤ (x3_2 : Int) := of_decide_eq_true (by first | (with_reducible assumption) | assumption)
                              have q7 : x3_2 < (a0.size : Int) := of_decide_eq_true (by first | (with_reducible assumption) | assumption)
                              have hx7 := bt_at a0 x3_2
                              replace p7 := eq_true p7
                              replace q7 := eq_true q7
                              go_wp2
                              go_roundg k2
                              case measure => have := HJ1.out; have := HK2.out; omega
                              case rel => exact ⟨(wrap64 (x3_2 + 1)), (by first | rfl | (simp; done) | (simp [*]; done)), H', ⟨by have := HJ1.out; have := HK2.out; omega⟩, by repeat (first | exact Drawn0.refl _ | apply Drawn0.step)⟩
                            · rw [if_neg c43] at H
                              have c43b0 : ((bt a0 x3_2) == 95) = false := beq_eq_false_iff_ne.mpr c43
                              have c43b1 : ((bt a0 x3_2) != 95) = true := bne_iff_ne.mpr c43
                              by_cases c44 : (bt a0 x3_2) = 46
                              · rw [if_pos c44] at H
                                have c44b0 : ((bt a0 x3_2) == 46) = true := beq_iff_eq.mpr c44
                                have c44b1 : ((bt a0 x3_2) != 46) = false := bne_eq_false_iff_eq.mpr c44
                                clear c44
                                by_cases c45 : x3_2 > 0
                                · rw [if_pos c45] at H
                                  have c45b0 : decide (0 < x3_2) = true := decide_eq_true c45
                                  clear c45
                                  have H' := Aside0.mk H
                                  clear H
                                  have p7 : 0 ≤ (x3_2 : Int) := of_decide_eq_true (by first | (with_reducible assumption) | assumption)
                                  have q7 : x3_2 < (a0.size : Int) := of_decide_eq_true (by first | (with_reducible assumption) | assumption)
                                  have hx7 := bt_at a0 x3_2
                                  replace p7 := eq_true p7
                                  replace q7 := eq_true q7
                                  go_wp2
                                  go_roundg k2
                                  case measure => have := HJ1.out; have := HK2.out; omega
                                  case rel => exact ⟨(wrap64 (x3_2 + 1)), (by first | rfl | (simp; done) | (simp [*]; done)), H', ⟨by have := HJ1.out; have := HK2.out; omega⟩, by repeat (first | exact Drawn0.refl _ | apply Drawn0.step)⟩
                                · rw [if_neg c45] at H
                                  have c45b0 : decide (0 < x3_2) = false := decide_eq_false c45
                                  clear c45
                                  obtain rfl := Option.some.inj H
                                  have p7 : 0 ≤ (x3_2 : Int) := of_decide_eq_true (by first | (with_reducible assumption) | assumption)
                                  have q7 : x3_2 < (a0.size : Int) := of_decide_eq_true (by first | (with_reducible assumption) | assumption)
                                  have hx7 := bt_at a0 x3_2
                                  replace p7 := eq_true p7
                                  replace q7 := eq_true q7
                                  go_wp2
                                  go_ret
                                  exact ⟨by first | rfl | (simp; done) | (simp [*]; done), by repeat (first | exact Drawn0.refl _ | apply Drawn0.step)⟩
                              · rw [if_neg c44] at H
                                have c44b0 : ((bt a0 x3_2) == 46) = false := beq_eq_false_iff_ne.mpr c44
                                have c44b1 : ((bt a0 x3_2) != 46) = true := bne_iff_ne.mpr c44
                                obtain rfl := Option.some.inj H
                                have p7 : 0 ≤ (x3_2 : Int) := of_decide_eq_true (by first | (with_reducible assumption) | assumption)
                                have q7 : x3_2 < (a0.size : Int) := of_decide_eq_true (by first | (with_reducible assumption) | assumption)
                                have hx7 := bt_at a0 x3_2
                                replace p7 := eq_true p7
                                replace q7 := eq_true q7
                                go_wp2
                                go_ret
                                exact ⟨by first | rfl | (simp; done) | (simp [*]; done), by repeat (first | exact Drawn0.refl _ | apply Drawn0.step)⟩
                      · rw [if_neg c36] at H
                        have c36b0 : decide (48 ≤ (bt a0 x3_2)) = false := decide_eq_false c36
                        clear c36
                        by_cases c46 : (bt a0 x3_2) = 45
                        · rw [if_pos c46] at H
                          have c46b0 : ((bt a0 x3_2) == 45) = true := beq_iff_eq.mpr c46
                          have c46b1 : ((bt a0 x3_2) != 45) = false := bne_eq_false_iff_eq.mpr c46
                          clear c46
                          by_cases c47 : ((bt a0 x3_2) = 95)
                          · rw [if_pos c47] at H
                            have c47b0 : ((bt a0 x3_2) == 95) = true := beq_iff_eq.mpr c47
                            have c47b1 : ((bt a0 x3_2) != 95) = false := bne_eq_false_iff_eq.mpr c47
                            clear c47
                            have H' := Aside0.mk H
                            clear H
                            have p7 : 0 ≤ (x3_2 : Int) := of_decide_eq_true (by first | (with_reducible assumption) | assumption)
                            have q7 : x3_2 < (a0.size : Int) := of_decide_eq_true (by first | (with_reducible assumption) | assumption)
                            have hx7 := bt_at a0 x3_2
                            replace p7 := eq_true p7
                            replace q7 := eq_true q7
                            go_wp2
                            go_roundg k2
                            case measure => have := HJ1.out; have := HK2.out; omega
                            case rel => exact ⟨(wrap64 (x3_2 + 1)), (by first | rfl | (simp; done) | (simp [*]; done)), H', ⟨by have := HJ1.out; have := HK2.out; omega⟩, by repeat (first | exact Drawn0.refl _ | apply Drawn0.step)⟩
                          · rw [if_neg c47] at H
                            have c47b0 : ((bt a0 x3_2) == 95) = false := beq_eq_false_iff_ne.mpr c47
                            have c47b1 : ((bt a0 x3_2) != 95) = true := bne_iff_ne.mpr c47
                            by_cases c48 : x3_2 > 0
                            · rw [if_pos c48] at H
                              have c48b0 : decide (0 < x3_2) = true := decide_eq_true c48
                              clear c48
                              have H' := Aside0.mk H
                              clear H
                              have p7 : 0 ≤ (x3_2 : Int) := of_decide_eq_true (by first | (with_reducible assumption) | assumption)
                              have q7 : x3_2 < (a0.size : Int) := of_decide_eq_true (by first | (with_reducible assumption) | assumption)
                              have hx7 := bt_at a0 x3_2
                              replace p7 := eq_true p7
                              replace q7 := eq_true q7
                              go_wp2
                              go_roundg k2
                              case measure => have := HJ1.out; have := HK2.out; omega
                              case rel => exact ⟨(wrap64 (x3_2 + 1)), (by first | rfl | (simp; done) | (simp [*]; done)), H', ⟨by have := HJ1.out; have := HK2.out; omega⟩, by repeat (first | exact Drawn0.refl _ | apply Drawn0.step)⟩
                            · rw [if_neg c48] at H
                              have c48b0 : decide (0 < x3_2) = false := decide_eq_false c48
                              clear c48
                              obtain rfl := Option.some.inj H
                              have p7 : 0 ≤ (x3_2 : Int) := of_decide_eq_true (by first | (with_reducible assumption) | assumption)
                              have q7 : x3_2 < (a0.size : Int) := of_decide_eq_true (by first | (with_reducible assumption) | assumption)
                              have hx7 := bt_at a0 x3_2
                              replace p7 := eq_true p7
                              replace q7 := eq_true q7
                              go_wp2
                              go_ret
                              exact ⟨by first | rfl | (simp; done) | (simp [*]; done), by repeat (first | exact Drawn0.refl _ | apply Drawn0.step)⟩
                        · rw [if_neg c46] at H
                          have c46b0 : ((bt a0 x3_2) == 45) = false := beq_eq_false_iff_ne.mpr c46
                          have c46b1 : ((bt a0 x3_2) != 45) = true := bne_iff_ne.mpr c46
                          by_cases c49 : ((bt a0 x3_2) = 95)
                          · rw [if_pos c49] at H
                            have c49b0 : ((bt a0 x3_2) == 95) = true := beq_iff_eq.mpr c49
                            have c49b1 : ((bt a0 x3_2) != 95) = false := bne_eq_false_iff_eq.mpr c49
                            clear c49
                            have H' := Aside0.mk H
                            clear H
                            have p7 : 0 ≤ (x3_2 : Int) := of_decide_eq_true (by first | (with_reducible assumption) | assumption)
                            have q7 : x3_2 < (a0.size : Int) := of_decide_eq_true (by first | (with_reducible assumption) | assumption)
                            have hx7 := bt_at a0 x3_2
                            replace p7 := eq_true p7
                            replace q7 := eq_true q7
                            go_wp2
                            go_roundg k2
                            case measure => have := HJ1.out; have := HK2.out; omega
                            case rel => exact ⟨(wrap64 (x3_2 + 1)), (by first | rfl | (simp; done) | (simp [*]; done)), H', ⟨by have := HJ1.out; have := HK2.out; omega⟩, by repeat (first | exact Drawn0.refl _ | apply Drawn0.step)⟩
                          · rw [if_neg c49] at H
                            have c49b0 : ((bt a0 x3_2) == 95) = false := beq_eq_false_iff_ne.mpr c49
                            have c49b1 : ((bt a0 x3_2) != 95) = true := bne_iff_ne.mpr c49
                            by_cases c50 : (bt a0 x3_2) = 46
                            · rw [if_pos c50] at H
                              have c50b0 : ((bt a0 x3_2) == 46) = true := beq_iff_eq.mpr c50
                              have c50b1 : ((bt a0 x3_2) != 46) = false := bne_eq_false_iff_eq.mpr c50
                              clear c50
                              by_cases c51 : x3_2 > 0
                              · rw [if_pos c51] at H
                                have c51b0 : decide (0 < x3_2) = true := decide_eq_true c51
                                clear c51
                                have H' := Aside0.mk H
                                clear H
                                have p7 : 0 ≤ (x3_2 : Int) := of_decide_eq_true (by first | (with_reducible assumption) | assumption)
                                have q7 : x3_2 < (a0.size : Int) := of_decide_eq_true (by first | (with_reducible assumption) | assumption)
                                have hx7 := bt_at a0 x3_2
                                replace p7 := eq_true p7
                                replace q7 := eq_true q7
                                go_wp2
                                go_roundg k2
                                case measure => have := HJ1.out; have := HK2.out; omega
                                case rel => exact ⟨(wrap64 (x3_2 + 1)), (by first | rfl | (simp; done) | (simp [*]; done)), H', ⟨by have := HJ1.out; have := HK2.out; omega⟩, by repeat (first | exact Drawn0.refl _ | apply Drawn0.step)⟩
                              · rw [if_neg c51] at H
                                have c51b0 : decide (0 < x3_2) = false := decide_eq_false c51
                                clear c51
                                obtain rfl := Option.some.inj H
                                have p7 : 0 ≤ (x3_2 : Int) := of_decide_eq_true (by first | (with_reducible assumption) | assumption)
                                have q7 : x3_2 < (a0.size : Int) := of_decide_eq_true (by first | (with_reducible assumption) | assumption)
                                have hx7 := bt_at a0 x3_2
                                replace p7 := eq_true p7
                                replace q7 := eq_true q7
                                go_wp2
                                go_ret
                                exact ⟨by first | rfl | (simp; done) | (simp [*]; done), by repeat (first | exact Drawn0.refl _ | apply Drawn0.step)⟩
                            · rw [if_neg c50] at H
                              have c50b0 : ((bt a0 x3_2) == 46) = false := beq_eq_false_iff_ne.mpr c50
                              have c50b1 : ((bt a0 x3_2) != 46) = true := bne_iff_ne.mpr c50
                              obtain rfl := Option.some.inj H
                              have p7 : 0 ≤ (x3_2 : Int) := of_decide_eq_true (by first | (with_reducible assumption) | assumption)
                              have q7 : x3_2 < (a0.size : Int) := of_decide_eq_true (by first | (with_reducible assumption) | assumption)
                              have hx7 := bt_at a0 x3_2
                              replace p7 := eq_true p7
                              replace q7 := eq_true q7
                              go_wp2
                              go_ret
                              exact ⟨by first | rfl | (simp; done) | (simp [*]; done), by repeat (first | exact Drawn0.refl _ | apply Drawn0.step)⟩
                · rw [if_neg c8] at H
                  have c8b0 : decide (97 ≤ (bt a0 x3_2)) = false := decide_eq_false c8
                  clear c8
                  by_cases c52 : (bt a0 x3_2) ≥ 65
                  · rw [if_pos c52] at H
                    have c52b0 : decide (65 ≤ (bt a0 x3_2)) = true := decide_eq_true c52
                    clear c52
                    by_cases c53 : (bt a0 x3_2) ≤ 90
                    · rw [if_pos c53] at H
                      have c53b0 : decide ((bt a0 x3_2) ≤ 90) = true := decide_eq_true c53
                      clear c53
                      by_cases c54 : (bt a0 x3_2) ≥ 48
                      · rw [if_pos c54] at H
                        have c54b0 : decide (48 ≤ (bt a0 x3_2)) = true := decide_eq_true c54
                        clear c54
                        by_cases c55 : (bt a0 x3_2) ≤ 57
                        · rw [if_pos c55] at H
                          have c55b0 : decide ((bt a0 x3_2) ≤ 57) = true := decide_eq_true c55
                          clear c55
                          have H' := Aside0.mk H
                          clear H
                          have p7 : 0 ≤ (x3_2 : Int) := of_decide_eq_true (by first | (with_reducible assumption) | assumption)
                          have q7 : x3_2 < (a0.size : Int) := of_decide_eq_true (by first | (with_reducible assumption) | assumption)
                          have hx7 := bt_at a0 x3_2
                          replace p7 := eq_true p7
                          replace q7 := eq_true q7
                          go_wp2
                          go_roundg k2
                          case measure => have := HJ1.out; have := HK2.out; omega
                          case rel => exact ⟨(wrap64 (x3_2 + 1)), (by first | rfl | (simp; done) | (simp [*]; done)), H', ⟨by have := HJ1.out; have := HK2.out; omega⟩, by repeat (first | exact Drawn0.refl _ | apply Drawn0.step)⟩
                        · rw [if_neg c55] at H
                          have c55b0 : decide ((bt a0 x3_2) ≤ 57) = false := decide_eq_false c55
                          clear c55
                          by_cases c56 : (bt a0 x3_2) = 45
                          · rw [if_pos c56] at H
                            have c56b0 : ((bt a0 x3_2) == 45) = true := beq_iff_eq.mpr c56
                            have c56b1 : ((bt a0 x3_2) != 45) = false := bne_eq_false_iff_eq.mpr c56
                            clear c56
                            have H' := Aside0.mk H
                            clear H
                            have p7 : 0 ≤ (x3_2 : Int) := of_decide_eq_true (by first | (with_reducible assumption) | assumption)
                            have q7 : x3_2 < (a0.size : Int) := of_decide_eq_true (by first | (with_reducible assumption) | assumption)
                            have hx7 := bt_at a0 x3_2
                            replace p7 := eq_true p7
                            replace q7 := eq_true q7
                            go_wp2
                            go_roundg k2
                            case measure => have := HJ1.out; have := HK2.out; omega
                            case rel => exact ⟨(wrap64 (x3_2 + 1)), (by first | rfl | (simp; done) | (simp [*]; done)), H', ⟨by have := HJ1.out; have := HK2.out; omega⟩, by repeat (first | exact Drawn0.refl _ | apply Drawn0.step)⟩
                          · rw [if_neg c56] at H
                            have c56b0 : ((bt a0 x3_2) == 45) = false := beq_eq_false_iff_ne.mpr c56
                            have c56b1 : ((bt a0 x3_2) != 45) = true := bne_iff_ne.mpr c56
                            have H' := Aside0.mk H
                            clear H
                            have p7 : 0 ≤ (x3_2 : Int) := of_decide_eq_true (by first | (with_reducible assumption) | assumption)
                            have q7 : x3_2 < (a0.size : Int) := of_decide_eq_true (by first | (with_reducible assumption) | assumption)
                            have hx7 := bt_at a0 x3_2
                            replace p7 := eq_true p7
                            replace q7 := eq_true q7
                            go_wp2
                            go_roundg k2
                            case measure => have := HJ1.out; have := HK2.out; omega
                            case rel => exact ⟨(wrap64 (x3_2 + 1)), (by first | rfl | (simp; done) | (simp [*]; done)), H', ⟨by have := HJ1.out; have := HK2.out; omega⟩, by repeat (first | exact Drawn0.refl _ | apply Drawn0.step)⟩
                      · rw [if_neg c54] at H
                        have c54b0 : decide (48 ≤ (bt a0 x3_2)) = false := decide_eq_false c54
                        clear c54
                        by_cases c57 : (bt a0 x3_2) = 45
                        · rw [if_pos c57] at H
                          have c57b0 : ((bt a0 x3_2) == 45) = true := beq_iff_eq.mpr c57
                          have c57b1 : ((bt a0 x3_2) != 45) = false := bne_eq_false_iff_eq.mpr c57
                          clear c57
                          have H' := Aside0.mk H
                          clear H
                          have p7 : 0 ≤ (x3_2 : Int) := of_decide_eq_true (by first | (with_reducible assumption) | assumption)
                          have q7 : x3_2 < (a0.size : Int) := of_decide_eq_true (by first | (with_reducible assumption) | assumption)
                          have hx7 := bt_at a0 x3_2
                          replace p7 := eq_true p7
                          replace q7 := eq_true q7
                          go_wp2
                          go_roundg k2
                          case measure => have := HJ1.out; have := HK2.out; omega
                          case rel => exact ⟨(wrap64 (x3_2 + 1)), (by first | rfl | (simp; done) | (simp [*]; done)), H', ⟨by have := HJ1.out; have := HK2.out; omega⟩, by repeat (first | exact Drawn0.refl _ | apply Drawn0.step)⟩
                        · rw [if_neg c57] at H
                          have c57b0 : ((bt a0 x3_2) == 45) = false := beq_eq_false_iff_ne.mpr c57
                          have c57b1 : ((bt a0 x3_2) != 45) = true := bne_iff_ne.mpr c57
                          have H' := Aside0.mk H
                          clear H
                          have p7 : 0 ≤ (x3_2 : Int) := of_decide_eq_true (by first | (with_reducible assumption) | assumption)
                          have q7 : x3_2 < (a0.size : Int) := of_decide_eq_true (by first | (with_reducible assumption) | assumption)
                          have hx7 := bt_at a0 x3_2
                          replace p7 := eq_true p7
                          replace q7 := eq_true q7
                          go_wp2
                          go_roundg k2
                          case measure => have := HJ1.out; have := HK2.out; omega
                          case rel => exact ⟨(wrap64 (x3_2 + 1)), (by first | rfl | (simp; done) | (simp [*]; done)), H', ⟨by have := HJ1.out; have := HK2.out; omega⟩, by repeat (first | exact Drawn0.refl _ | apply Drawn0.step)⟩
                    · rw [if_neg c53] at H
                      have c53b0 : decide ((bt a0 x3_2) ≤ 90) = false := decide_eq_false c53
                      clear c53
                      by_cases c58 : (bt a0 x3_2) ≥ 48
                      · rw [if_pos c58] at H
                        have c58b0 : decide (48 ≤ (bt a0 x3_2)) = true := decide_eq_true c58
                        clear c58
                        by_cases c59 : (bt a0 x3_2) ≤ 57
                        · rw [if_pos c59] at H
                          have c59b0 : decide ((bt a0 x3_2) ≤ 57) = true := decide_eq_true c59
                          clear c59
                          by_cases c60 : ((bt a0 x3_2) = 95)
                          · rw [if_pos c60] at H
                            have c60b0 : ((bt a0 x3_2) == 95) = true := beq_iff_eq.mpr c60
                            have c60b1 : ((bt a0 x3_2) != 95) = false := bne_eq_false_iff_eq.mpr c60
                            clear c60
                            have H' := Aside0.mk H
                            clear H
                            have p7 : 0 ≤ (x3_2 : Int) := of_decide_eq_true (by first | (with_reducible assumption) | assumption)
                            have q7 : x3_2 < (a0.size : Int) := of_decide_eq_true (by first | (with_reducible assumption) | assumption)
                            have hx7 := bt_at a0 x3_2
                            replace p7 := eq_true p7
                            replace q7 := eq_true q7
                            go_wp2
                            go_roundg k2
                            case measure => have := HJ1.out; have := HK2.out; omega
                            case rel => exact ⟨(wrap64 (x3_2 + 1)), (by first | rfl | (simp; done) | (simp [*]; done)), H', ⟨by have := HJ1.out; have := HK2.out; omega⟩, by repeat (first | exact Drawn0.refl _ | apply Drawn0.step)⟩
                          · rw [if_neg c60] at H
                            have c60b0 : ((bt a0 x3_2) == 95) = false := beq_eq_false_iff_ne.mpr c60
                            have c60b1 : ((bt a0 x3_2) != 95) = true := bne_iff_ne.mpr c60
                            by_cases c61 : x3_2 > 0
                            · rw [if_pos c61] at H
                              have c61b0 : decide (0 < x3_2) = true := decide_eq_true c61
                              clear c61
                              have H' := Aside0.mk H
                              clear H
                              have p7 : 0 ≤ (x3_2 : Int) := of_decide_eq_true (by first | (with_reducible assumption) | assumption)
                              have q7 : x3_2 < (a0.size : Int) := of_decide_eq_true (by first | (with_reducible assumption) | assumption)
                              have hx7 := bt_at a0 x3_2
                              replace p7 := eq_true p7
                              replace q7 := eq_true q7
                              go_wp2
                              go_roundg k2
                              case measure => have := HJ1.out; have := HK2.out; omega
                              case rel => exact ⟨(wrap64 (x3_2 + 1)), (by first | rfl | (simp; done) | (simp [*]; done)), H', ⟨by have := HJ1.out; have := HK2.out; omega⟩, by repeat (first | exact Drawn0.refl _ | apply Drawn0.step)⟩
                            · rw [if_neg c61] at H
                              have c61b0 : decide (0 < x3_2) = false := decide_eq_false c61
                              clear c61
                              obtain rfl := Option.some.inj H
                              have p7 : 0 ≤ (x3_2 : Int) := of_decide_eq_true (by first | (with_reducible assumption) | assumption)
                              have q7 : x3_2 < (a0.size : Int) := of_decide_eq_true (by first | (with_reducible assumption) | assumption)
                              have hx7 := bt_at a0 x3_2
                              replace p7 := eq_true p7
                              replace q7 := eq_true q7
                              go_wp2
                              go_ret
                              exact ⟨by first | rfl | (simp; done) | (simp [*]; done), by repeat (first | exact Drawn0.refl _ | apply Drawn0.step)⟩
                        · rw [if_neg c59] at H
                          have c59b0 : decide ((bt a0 x3_2) ≤ 57) = false := decide_eq_false c59
                          clear c59
                          by_cases c62 : (bt a0 x3_2) = 45
                          · rw [if_pos c62] at H
                            have c62b0 : ((bt a0 x3_2) == 45) = true := beq_iff_eq.mpr c62
                            have c62b1 : ((bt a0 x3_2) != 45) = false := bne_eq_false_iff_eq.mpr c62
                            clear c62
                            by_cases c63 : ((bt a0 x3_2) = 95)
                            · rw [if_pos c63] at H
                              have c63b0 : ((bt a0 x3_2) == 95) = true := beq_iff_eq.mpr c63
                              have c63b1 : ((bt a0 x3_2) != 95) = false := bne_eq_false_iff_eq.mpr c63
                              clear c63
                              have H' := Aside0.mk H
                              clear H
                              have p7 : 0 ≤ (x3_2 : Int) := of_decide_eq_true (by first | (with_reducible assumption) | assumption)
                              have q7 : x3_2 < (a0.size : Int) := of_decide_eq_true (by first | (with_reducible assumption) | assumption)
                              have hx7 := bt_at a0 x3_2
                              replace p7 := eq_true p7
                              replace q7 := eq_true q7
                              go_wp2
                              go_roundg k2
                              case measure => have := HJ1.out; have := HK2.out; omega
                              case rel => exact ⟨(wrap64 (x3_2 + 1)), (by first | rfl | (simp; done) | (simp [*]; done)), H', ⟨by have := HJ1.out; have := HK2.out; omega⟩, by repeat (first | exact Drawn0.refl _ | apply Drawn0.step)⟩
                            · rw [if_neg c63] at H
                              have c63b0 : ((bt a0 x3_2) == 95) = false := beq_eq_false_iff_ne.mpr c63
                              have c63b1 : ((bt a0 x3_2) != 95) = true := bne_iff_ne.mpr c63
                              by_cases c64 : x3_2 > 0
                              · rw [if_pos c64] at H
                                have c64b0 : decide (0 < x3_2) = true := decide_eq_true c64
                                clear c64
                                have H' := Aside0.mk H
                                clear H
                                have p7 : 0 ≤ (x3_2 : Int) := of_decide_eq_true (by first | (with_reducible assumption) | assumption)
                                have q7 : x3_2 < (a0.size : Int) := of_decide_eq_true (by first | (with_reducible assumption) | assumption)
                                have hx7 := bt_at a0 x3_2
                                replace p7 := eq_true p7
                                replace q7 := eq_true q7
                                go_wp2
                                go_roundg k2
                                case measure => have := HJ1.out; have := HK2.out; omega
                                case rel => exact ⟨(wrap64 (x3_2 + 1)), (by first | rfl | (simp; done) | (simp [*]; done)), H', ⟨by have := HJ1.out; have := HK2.out; omega⟩, by repeat (first | exact Drawn0.refl _ | apply Drawn0.step)⟩
                              · rw [if_neg c64] at H
                                have c64b0 : decide (0 < x3_2) = false := decide_eq_false c64
                                clear c64
                                obtain rfl := Option.some.inj H
                                have p7 : 0 ≤ (x3_2 : Int) := of_decide_eq_true (by first | (with_reducible assumption) | assumption)
                                have q7 : x3_2 < (a0.size : Int) := of_decide_eq_true (by first | (with_reducible assumption) | assumption)
                                have hx7 := bt_at a0 x3_2
                                replace p7 := eq_true p7
                                replace q7 := eq_true q7
                                go_wp2
                                go_ret
                                exact ⟨by first | rfl | (simp; done) | (simp [*]; done), by repeat (first | exact Drawn0.refl _ | apply Drawn0.step)⟩
                          · rw [if_neg c62] at H
                            have c62b0 : ((bt a0 x3_2) == 45) = false := beq_eq_false_iff_ne.mpr c62
                            have c62b1 : ((bt a0 x3_2) != 45) = true := bne_iff_ne.mpr c62
                            by_cases c65 : ((bt a0 x3_2) = 95)
                            · rw [if_pos c65] at H
                              have c65b0 : ((bt a0 x3_2) == 95) = true := beq_iff_eq.mpr c65
                              have c65b1 : ((bt a0 x3_2) != 95) = false := bne_eq_false_iff_eq.mpr c65
                              clear c65
                              have H' := Aside0.mk H
                              clear H
                              have p7 : 0 ≤ (x3_2 : Int) := of_decide_eq_true (by first | (with_reducible assumption) | assumption)
                              have q7 : x3_2 < (a0.size : Int) := of_decide_eq_true (by first | (with_reducible assumption) | assumption)
                              have hx7 := bt_at a0 x3_2
                              replace p7 := eq_true p7
                              replace q7 := eq_true q7
                              go_wp2
                              go_roundg k2
                              case measure => have := HJ1.out; have := HK2.out; omega
                              case rel => exact ⟨(wrap64 (x3_2 + 1)), (by first | rfl | (simp; done) | (simp [*]; done)), H', ⟨by have := HJ1.out; have := HK2.out; omega⟩, by repeat (first | exact Drawn0.refl _ | apply Drawn0.step)⟩
                            · rw [if_neg c65] at H
                              have c65b0 : ((bt a0 x3_2) == 95) = false := beq_eq_false_iff_ne.mpr c65
                              have c65b1 : ((bt a0 x3_2) != 95) = true := bne_iff_ne.mpr c65
                              by_cases c66 : (bt a0 x3_2) = 46
                              · rw [if_pos c66] at H
                                have c66b0 : ((bt a0 x3_2) == 46) = true := beq_iff_eq.mpr c66
                                have c66b1 : ((bt a0 x3_2) != 46) = false := bne_eq_false_iff_eq.mpr c66
                                clear c66
                                by_cases c67 : x3_2 > 0
                                · rw [if_pos c67] at H
                                  have c67b0 : decide (0 < x3_2) = true := decide_eq_true c67
                                  clear c67
                                  have H' := Aside0.mk H
                                  clear H
                                  have p7 : 0 ≤ (x3_2 : Int) := of_decide_eq_true (by first | (with_reducible assumption) | assumption)
                                  have q7 : x3_2 < (a0.size : Int) := of_decide_eq_true (by first | (with_reducible assumption) | assumption)
                                  have hx7 := bt_at a0 x3_2
                                  replace p7 := eq_true p7
                                  replace q7 := eq_true q7
                                  go_wp2
                                  go_roundg k2
                                  case measure => have := HJ1.out; have := HK2.out; omega
                                  case rel => exact ⟨(wrap64 (x3_2 + 1)), (by first | rfl | (simp; done) | (simp [*]; done)), H', ⟨by have := HJ1.out; have := HK2.out; omega⟩, by repeat (first | exact Drawn0.refl _ | apply Drawn0.step)⟩
                                · rw [if_neg c67] at H
                                  have c67b0 : decide (0 < x3_2) = false := decide_eq_false c67
                                  clear c67
                                  obtain rfl := Option.some.inj H
                                  have p7 : 0 ≤ (x3_2 : Int) := of_decide_eq_true (by first | (with_reducible assumption) | assumption)
                                  have q7 : x3_2 < (a0.size : Int) := of_decide_eq_true (by first | (with_reducible assumption) | assumption)
                                  have hx7 := bt_at a0 x3_2
                                  replace p7 := eq_true p7
                                  replace q7 := eq_true q7
                                  go_wp2
                                  go_ret
                                  exact ⟨by first | rfl | (simp; done) | (simp [*]; done), by repeat (first | exact Drawn0.refl _ | apply Drawn0.step)⟩
                              · rw [if_neg c66] at H
                                have c66b0 : ((bt a0 x3_2) == 46) = false := beq_eq_false_iff_ne.mpr c66
                                have c66b1 : ((bt a0 x3_2) != 46) = true := bne_iff_ne.mpr c66
                                obtain rfl := Option.some.inj H
                                have p7 : 0 ≤ (x3_2 : Int) := of_decide_eq_true (by first | (with_reducible assumption) | assumption)
                                have q7 : x3_2 < (a0.size : Int) := of_decide_eq_true (by first | (with_reducible assumption) | assumption)
                                have hx7 := bt_at a0 x3_2
                                replace p7 := eq_true p7
                                replace q7 := eq_true q7
                                go_wp2
                                go_ret
                                exact ⟨by first | rfl | (simp; done) | (simp [*]; done), by repeat (first | exact Drawn0.refl _ | apply Drawn0.step)⟩
                      · rw [if_neg c58] at H
                        have c58b0 : decide (48 ≤ (bt a0 x3_2)) = false := decide_eq_false c58
                        clear c58
                        by_cases c68 : (bt a0 x3_2) = 45
                        · rw [if_pos c68] at H
                          have c68b0 : ((bt a0 x3_2) == 45) = true := beq_iff_eq.mpr c68
                          have c68b1 : ((bt a0 x3_2) != 45) = false := bne_eq_false_iff_eq.mpr c68
                          clear c68
                          by_cases c69 : ((bt a0 x3_2) = 95)
                          · rw [if_pos c69] at H
                            have c69b0 : ((bt a0 x3_2) == 95) = true := beq_iff_eq.mpr c69
                            have c69b1 : ((bt a0 x3_2) != 95) = false := bne_eq_false_iff_eq.mpr c69
                            clear c69
                            have H' := Aside0.mk H
                            clear H
                            have p7 : 0 ≤ (x3_2 : Int) := of_decide_eq_true (by first | (with_reducible assumption) | assumption)
                            have q7 : x3_2 < (a0.size : Int) := of_decide_eq_true (by first | (with_reducible assumption) | assumption)
                            have hx7 := bt_at a0 x3_2
                            replace p7 := eq_true p7
                            replace q7 := eq_true q7
                            go_wp2
                            go_roundg k2
                            case measure => have := HJ1.out; have := HK2.out; omega
                            case rel => exact ⟨(wrap64 (x3_2 + 1)), (by first | rfl | (simp; done) | (simp [*]; done)), H', ⟨by have := HJ1.out; have := HK2.out; omega⟩, by repeat (first | exact Drawn0.refl _ | apply Drawn0.step)⟩
                          · rw [if_neg c69] at H
                            have c69b0 : ((bt a0 x3_2) == 95) = false := beq_eq_false_iff_ne.mpr c69
                            have c69b1 : ((bt a0 x3_2) != 95) = true := bne_iff_ne.mpr c69
                            by_cases c70 : x3_2 > 0
                            · rw [if_pos c70] at H
                              have c70b0 : decide (0 < x3_2) = true := decide_eq_true c70
                              clear c70
                              have H' := Aside0.mk H
                              clear H
                              have p7 : 0 ≤ (x3_2 : Int) := of_decide_eq_true (by first | (with_reducible assumption) | assumption)
                              have q7 : x3_2 < (a0.size : Int) := of_decide_eq_true (by first | (with_reducible assumption) | assumption)
                              have hx7 := bt_at a0 x3_2
                              replace p7 := eq_true p7
                              replace q7 := eq_true q7
                              go_wp2
                              go_roundg k2
                              case measure => have := HJ1.out; have := HK2.out; omega
                              case rel => exact ⟨(wrap64 (x3_2 + 1)), (by first | rfl | (simp; done) | (simp [*]; done)), H', ⟨by have := HJ1.out; have := HK2.out; omega⟩, by repeat (first | exact Drawn0.refl _ | apply Drawn0.step)⟩
                            · rw [if_neg c70] at H
                              have c70b0 : decide (0 < x3_2) = false := decide_eq_false c70
                              clear c70
                              obtain rfl := Option.some.inj H
                              have p7 : 0 ≤ (x3_2 : Int) := of_decide_eq_true (by first | (with_reducible assumption) | assumption)
                              have q7 : x3_2 < (a0.size : Int) := of_decide_eq_true (by first | (with_reducible assumption) | assumption)
                              have hx7 := bt_at a0 x3_2
                              replace p7 := eq_true p7
                              replace q7 := eq_true q7
                              go_wp2
                              go_ret
                              exact ⟨by first | rfl | (simp; done) | (simp [*]; done), by repeat (first | exact Drawn0.refl _ | apply Drawn0.step)⟩
                        · rw [if_neg c68] at H
                          have c68b0 : ((bt a0 x3_2) == 45) = false := beq_eq_false_iff_ne.mpr c68
                          have c68b1 : ((bt a0 x3_2) != 45) = true := bne_iff_ne.mpr c68
                          by_cases c71 : ((bt a0 x3_2) = 95)
                          · rw [if_pos c71] at H
                            have c71b0 : ((bt a0 x3_2) == 95) = true := beq_iff_eq.mpr c71
                            have c71b1 : ((bt a0 x3_2) != 95) = false := bne_eq_false_iff_eq.mpr c71
                            clear c71
                            have H' := Aside0.mk H
                            clear H
                            have p7 : 0 ≤ (x3_2 : Int) := of_decide_eq_true (by first | (with_reducible assumption) | assumption)
                            have q7 : x3_2 < (a0.size : Int) := of_decide_eq_true (by first | (with_reducible assumption) | assumption)
                            have hx7 := bt_at a0 x3_2
                            replace p7 := eq_true p7
                            replace q7 := eq_true q7
                            go_wp2
                            go_roundg k2
                            case measure => have := HJ1.out; have := HK2.out; omega
                            case rel => exact ⟨(wrap64 (x3_2 + 1)), (by first | rfl | (simp; done) | (simp [*]; done)), H', ⟨by have := HJ1.out; have := HK2.out; omega⟩, by repeat (first | exact Drawn0.refl _ | apply Drawn0.step)⟩
                          · rw [if_neg c71] at H
                            have c71b0 : ((bt a0 x3_2) == 95) = false := beq_eq_false_iff_ne.mpr c71
                            have c71b1 : ((bt a0 x3_2) != 95) = true := bne_iff_ne.mpr c71
                            by_cases c72 : (bt a0 x3_2) = 46
                            · rw [if_pos c72] at H
                              have c72b0 : ((bt a0 x3_2) == 46) = true := beq_iff_eq.mpr c72
                              have c72b1 : ((bt a0 x3_2) != 46) = false := bne_eq_false_iff_eq.mpr c72
                              clear c72
                              by_cases c73 : x3_2 > 0
                              · rw [if_pos c73] at H
                                have c73b0 : decide (0 < x3_2) = true := decide_eq_true c73
                                clear c73
                                have H' := Aside0.mk H
                                clear H
                                have p7 : 0 ≤ (x3_2 : Int) := of_decide_eq_true (by first | (with_reducible assumption) | assumption)
                                have q7 : x3_2 < (a0.size : Int) := of_decide_eq_true (by first | (with_reducible assumption) | assumption)
                                have hx7 := bt_at a0 x3_2
                                replace p7 := eq_true p7
                                replace q7 := eq_true q7
                                go_wp2
                                go_roundg k2
                                case measure => have := HJ1.out; have := HK2.out; omega
                                case rel => exact ⟨(wrap64 (x3_2 + 1)), (by first | rfl | (simp; done) | (simp [*]; done)), H', ⟨by have := HJ1.out; have := HK2.out; omega⟩, by repeat (first | exact Drawn0.refl _ | apply Drawn0.step)⟩
                              · rw [if_neg c73] at H
                                have c73b0 : decide (0 < x3_2) = false := decide_eq_false c73
                                clear c73
                                obtain rfl := Option.some.inj H
                                have p7 : 0 ≤ (x3_2 : Int) := of_decide_eq_true (by first | (with_reducible assumption) | assumption)
                                have q7 : x3_2 < (a0.size : Int) := of_decide_eq_true (by first | (with_reducible assumption) | assumption)
                                have hx7 := bt_at a0 x3_2
                                replace p7 := eq_true p7
                                replace q7 := eq_true q7
                                go_wp2
                                go_ret
                                exact ⟨by first | rfl | (simp; done) | (simp [*]; done), by repeat (first | exact Drawn0.refl _ | apply Drawn0.step)⟩
                            · rw [if_neg c72] at H
                              have c72b0 : ((bt a0 x3_2) == 46) = false := beq_eq_false_iff_ne.mpr c72
                              have c72b1 : ((bt a0 x3_2) != 46) = true := bne_iff_ne.mpr c72
                              obtain rfl := Option.some.inj H
                              have p7 : 0 ≤ (x3_2 : Int) := of_decide_eq_true (by first | (with_reducible assumption) | assumption)
                              have q7 : x3_2 < (a0.size : Int) := of_decide_eq_true (by first | (with_reducible assumption) | assumption)
                              have hx7 := bt_at a0 x3_2
                              replace p7 := eq_true p7
                              replace q7 := eq_true q7
                              go_wp2
                              go_ret
                              exact ⟨by first | rfl | (simp; done) | (simp [*]; done), by repeat (first | exact Drawn0.refl _ | apply Drawn0.step)⟩
                  · rw [if_neg c52] at H
                    have c52b0 : decide (65 ≤ (bt a0 x3_2)) = false := decide_eq_false c52
                    clear c52
                    by_cases c74 : (bt a0 x3_2) ≥ 48
                    · rw [if_pos c74] at H
                      have c74b0 : decide (48 ≤ (bt a0 x3_2)) = true := decide_eq_true c74
                      clear c74
                      by_cases c75 : (bt a0 x3_2) ≤ 57
                      · rw [if_pos c75] at H
                        have c75b0 : decide ((bt a0 x3_2) ≤ 57) = true := decide_eq_true c75
                        clear c75
                        by_cases c76 : ((bt a0 x3_2) = 95)
                        · rw [if_pos c76] at H
                          have c76b0 : ((bt a0 x3_2) == 95) = true := beq_iff_eq.mpr c76
                          have c76b1 : ((bt a0 x3_2) != 95) = false := bne_eq_false_iff_eq.mpr c76
                          clear c76
                          have H' := Aside0.mk H
                          clear H
                          have p7 : 0 ≤ (x3_2 : Int) := of_decide_eq_true (by first | (with_reducible assumption) | assumption)
                          have q7 : x3_2 < (a0.size : Int) := of_decide_eq_true (by first | (with_reducible assumption) | assumption)
                          have hx7 := bt_at a0 x3_2
                          replace p7 := eq_true p7
                          replace q7 := eq_true q7
                          go_wp2
                          go_roundg k2
                          case measure => have := HJ1.out; have := HK2.out; omega
                          case rel => exact ⟨(wrap64 (x3_2 + 1)), (by first | rfl | (simp; done) | (simp [*]; done)), H', ⟨by have := HJ1.out; have := HK2.out; omega⟩, by repeat (first | exact Drawn0.refl _ | apply Drawn0.step)⟩
                        · rw [if_neg c76] at H
                          have c76b0 : ((bt a0 x3_2) == 95) = false := beq_eq_false_iff_ne.mpr c76
                          have c76b1 : ((bt a0 x3_2) != 95) = true := bne_iff_ne.mpr c76
                          by_cases c77 : x3_2 > 0
                          · rw [if_pos c77] at H
                            have c77b0 : decide (0 < x3_2) = true := decide_eq_true c77
                            clear c77
                            have H' := Aside0.mk H
                            clear H
                            have p7 : 0 ≤ (x3_2 : Int) := of_decide_eq_true (by first | (with_reducible assumption) | assumption)
                            have q7 : x3_2 < (a0.size : Int) := of_decide_eq_true (by first | (with_reducible assumption) | assumption)
                            have hx7 := bt_at a0 x3_2
                            replace p7 := eq_true p7
                            replace q7 := eq_true q7
                            go_wp2
                            go_roundg k2
                            case measure => have := HJ1.out; have := HK2.out; omega
                            case rel => exact ⟨(wrap64 (x3_2 + 1)), (by first | rfl | (simp; done) | (simp [*]; done)), H', ⟨by have := HJ1.out; have := HK2.out; omega⟩, by repeat (first | exact Drawn0.refl _ | apply Drawn0.step)⟩
                          · rw [if_neg c77] at H
                            have c77b0 : decide (0 < x3_2) = false := decide_eq_false c77
                            clear c77
                            obtain rfl := Option.some.inj H
                            have p7 : 0 ≤ (x3_2 : Int) := of_decide_eq_true (by first | (with_reducible assumption) | assumption)
                            have q7 : x3_2 < (a0.size : Int) := of_decide_eq_true (by first | (with_reducible assumption) | assumption)
                            have hx7 := bt_at a0 x3_2
                            replace p7 := eq_true p7
                            replace q7 := eq_true q7
                            go_wp2
                            go_ret
                            exact ⟨by first | rfl | (simp; done) | (simp [*]; done), by repeat (first | exact Drawn0.refl _ | apply Drawn0.step)⟩
                      · rw [if_neg c75] at H
                        have c75b0 : decide ((bt a0 x3_2) ≤ 57) = false := decide_eq_false c75
                        clear c75
                        by_cases c78 : (bt a0 x3_2) = 45
                        · rw [if_pos c78] at H
                          have c78b0 : ((bt a0 x3_2) == 45) = true := beq_iff_eq.mpr c78
                          have c78b1 : ((bt a0 x3_2) != 45) = false := bne_eq_false_iff_eq.mpr c78
                          clear c78
                          by_cases c79 : ((bt a0 x3_2) = 95)
                          · rw [if_pos c79] at H
                            have c79b0 : ((bt a0 x3_2) == 95) = true := beq_iff_eq.mpr c79
                            have c79b1 : ((bt a0 x3_2) != 95) = false := bne_eq_false_iff_eq.mpr c79
                            clear c79
                            have H' := Aside0.mk H
                            clear H
                            have p7 : 0 ≤ (x3_2 : Int) := of_decide_eq_true (by first | (with_reducible assumption) | assumption)
                            have q7 : x3_2 < (a0.size : Int) := of_decide_eq_true (by first | (with_reducible assumption) | assumption)
                            have hx7 := bt_at a0 x3_2
                            replace p7 := eq_true p7
                            replace q7 := eq_true q7
                            go_wp2
                            go_roundg k2
                            case measure => have := HJ1.out; have := HK2.out; omega
                            case rel => exact ⟨(wrap64 (x3_2 + 1)), (by first | rfl | (simp; done) | (simp [*]; done)), H', ⟨by have := HJ1.out; have := HK2.out; omega⟩, by repeat (first | exact Drawn0.refl _ | apply Drawn0.step)⟩
                          · rw [if_neg c79] at H
                            have c79b0 : ((bt a0 x3_2) == 95) = false := beq_eq_false_iff_ne.mpr c79
                            have c79b1 : ((bt a0 x3_2) != 95) = true := bne_iff_ne.mpr c79
                            by_cases c80 : x3_2 > 0
                            · rw [if_pos c80] at H
                              have c80b0 : decide (0 < x3_2) = true := decide_eq_true c80
                              clear c80
                              have H' := Aside0.mk H
                              clear H
                              have p7 : 0 ≤ (x3_2 : Int) := of_decide_eq_true (by first | (with_reducible assumption) | assumption)
                              have q7 : x3_2 < (a0.size : Int) := of_decide_eq_true (by first | (with_reducible assumption) | assumption)
                              have hx7 := bt_at a0 x3_2
                              replace p7 := eq_true p7
                              replace q7 := eq_true q7
                              go_wp2
                              go_roundg k2
                              case measure => have := HJ1.out; have := HK2.out; omega
                              case rel => exact ⟨(wrap64 (x3_2 + 1)), (by first | rfl | (simp; done) | (simp [*]; done)), H', ⟨by have := HJ1.out; have := HK2.out; omega⟩, by repeat (first | exact Drawn0.refl _ | apply Drawn0.step)⟩
                            · rw [if_neg c80] at H
                              have c80b0 : decide (0 < x3_2) = false := decide_eq_false c80
                              clear c80
                              obtain rfl := Option.some.inj H
                              have p7 : 0 ≤ (x3_2 : Int) := of_decide_eq_true (by first | (with_reducible assumption) | assumption)
                              have q7 : x3_2 < (a0.size : Int) := of_decide_eq_true (by first | (with_reducible assumption) | assumption)
                              have hx7 := bt_at a0 x3_2
                              replace p7 := eq_true p7
                              replace q7 := eq_true q7
                              go_wp2
                              go_ret
                              exact ⟨by first | rfl | (simp; done) | (simp [*]; done), by repeat (first | exact Drawn0.refl _ | apply Drawn0.step)⟩
                        · rw [if_neg c78] at H
                          have c78b0 : ((bt a0 x3_2) == 45) = false := beq_eq_false_iff_ne.mpr c78
                          have c78b1 : ((bt a0 x3_2) != 45) = true := bne_iff_ne.mpr c78
                          by_cases c81 : ((bt a0 x3_2) = 95)
                          · rw [if_pos c81] at H
                            have c81b0 : ((bt a0 x3_2) == 95) = true := beq_iff_eq.mpr c81
                            have c81b1 : ((bt a0 x3_2) != 95) = false := bne_eq_false_iff_eq.mpr c81
                            clear c81
                            have H' := Aside0.mk H
                            clear H
                            have p7 : 0 ≤ (x3_2 : Int) := of_decide_eq_true (by first | (with_reducible assumption) | assumption)
                            have q7 : x3_2 < (a0.size : Int) := of_decide_eq_true (by first | (with_reducible assumption) | assumption)
                            have hx7 := bt_at a0 x3_2
                            replace p7 := eq_true p7
                            replace q7 := eq_true q7
                            go_wp2
                            go_roundg k2
                            case measure => have := HJ1.out; have := HK2.out; omega
                            case rel => exact ⟨(wrap64 (x3_2 + 1)), (by first | rfl | (simp; done) | (simp [*]; done)), H', ⟨by have := HJ1.out; have := HK2.out; omega⟩, by repeat (first | exact Drawn0.refl _ | apply Drawn0.step)⟩
                          · rw [if_neg c81] at H
                            have c81b0 : ((bt a0 x3_2) == 95) = false := beq_eq_false_iff_ne.mpr c81
                            have c81b1 : ((bt a0 x3_2) != 95) = true := bne_iff_ne.mpr c81
                            by_cases c82 : (bt a0 x3_2) = 46
                            · rw [if_pos c82] at H
                              have c82b0 : ((bt a0 x3_2) == 46) = true := beq_iff_eq.mpr c82
                              have c82b1 : ((bt a0 x3_2) != 46) = false := bne_eq_false_iff_eq.mpr c82
                              clear c82
                              by_cases c83 : x3_2 > 0
                              · rw [if_pos c83] at H
                                have c83b0 : decide (0 < x3_2) = true := decide_eq_true c83
                                clear c83
                                have H' := Aside0.mk H
                                clear H
                                have p7 : 0 ≤ (x3_2 : Int) := of_decide_eq_true (by first | (with_reducible assumption) | assumption)
                                have q7 : x3_2 < (a0.size : Int) := of_decide_eq_true (by first | (with_reducible assumption) | assumption)
                                have hx7 := bt_at a0 x3_2
                                replace p7 := eq_true p7
                                replace q7 := eq_true q7
                                go_wp2
                                go_roundg k2
                                case measure => have := HJ1.out; have := HK2.out; omega
                                case rel => exact ⟨(wrap64 (x3_2 + 1)), (by first | rfl | (simp; done) | (simp [*]; done)), H', ⟨by have := HJ1.out; have := HK2.out; omega⟩, by repeat (first | exact Drawn0.refl _ | apply Drawn0.step)⟩
                              · rw [if_neg c83] at H
                                have c83b0 : decide (0 < x3_2) = false := decide_eq_false c83
                                clear c83
                                obtain rfl := Option.some.inj H
                                have p7 : 0 ≤ (x3_2 : Int) := of_decide_eq_true (by first | (with_reducible assumption) | assumption)
                                have q7 : x3_2 < (a0.size : Int) := of_decide_eq_true (by first | (with_reducible assumption) | assumption)
                                have hx7 := bt_at a0 x3_2
                                replace p7 := eq_true p7
                                replace q7 := eq_true q7
                                go_wp2
                                go_ret
                                exact ⟨by first | rfl | (simp; done) | (simp [*]; done), by repeat (first | exact Drawn0.refl _ | apply Drawn0.step)⟩
                            · rw [if_neg c82] at H
                              have c82b0 : ((bt a0 x3_2) == 46) = false := beq_eq_false_iff_ne.mpr c82
                              have c82b1 : ((bt a0 x3_2) != 46) = true := bne_iff_ne.mpr c82
                              obtain rfl := Option.some.inj H
                              have p7 : 0 ≤ (x3_2 : Int) := of_decide_eq_true (by first | (with_reducible assumption) | assumption)
                              have q7 : x3_2 < (a0.size : Int) := of_decide_eq_true (by first | (with_reducible assumption) | assumption)
                              have hx7 := bt_at a0 x3_2
                              replace p7 := eq_true p7
                              replace q7 := eq_true q7
                              go_wp2
                              go_ret
                              exact ⟨by first | rfl | (simp; done) | (simp [*]; done), by repeat (first | exact Drawn0.refl _ | apply Drawn0.step)⟩
                    · rw [if_neg c74] at H
                      have c74b0 : decide (48 ≤ (bt a0 x3_2)) = false := decide_eq_false c74
                      clear c74
                      by_cases c84 : (bt a0 x3_2) = 45
                      · rw [if_pos c84] at H
                        have c84b0 : ((bt a0 x3_2) == 45) = true := beq_iff_eq.mpr c84
                        have c84b1 : ((bt a0 x3_2) != 45) = false := bne_eq_false_iff_eq.mpr c84
                        clear c84
                        by_cases c85 : ((bt a0 x3_2) = 95)
                        · rw [if_pos c85] at H
                          have c85b0 : ((bt a0 x3_2) == 95) = true := beq_iff_eq.mpr c85
                          have c85b1 : ((bt a0 x3_2) != 95) = false := bne_eq_false_iff_eq.mpr c85
                          clear c85
                          have H' := Aside0.mk H
                          clear H
                          have p7 : 0 ≤ (x3_2 : Int) := of_decide_eq_true (by first | (with_reducible assumption) | assumption)
                          have q7 : x3_2 < (a0.size : Int) := of_decide_eq_true (by first | (with_reducible assumption) | assumption)
                          have hx7 := bt_at a0 x3_2
                          replace p7 := eq_true p7
                          replace q7 := eq_true q7
                          go_wp2
                          go_roundg k2
                          case measure => have := HJ1.out; have := HK2.out; omega
                          case rel => exact ⟨(wrap64 (x3_2 + 1)), (by first | rfl | (simp; done) | (simp [*]; done)), H', ⟨by have := HJ1.out; have := HK2.out; omega⟩, by repeat (first | exact Drawn0.refl _ | apply Drawn0.step)⟩
                        · rw [if_neg c85] at H
                          have c85b0 : ((bt a0 x3_2) == 95) = false := beq_eq_false_iff_ne.mpr c85
                          have c85b1 : ((bt a0 x3_2) != 95) = true := bne_iff_ne.mpr c85
                          by_cases c86 : x3_2 > 0
                          · rw [if_pos c86] at H
                            have c86b0 : decide (0 < x3_2) = true := decide_eq_true c86
                            clear c86
                            have H' := Aside0.mk H
                            clear H
                            have p7 : 0 ≤ (x3_2 : Int) := of_decide_eq_true (by first | (with_reducible assumption) | assumption)
                            have q7 : x3_2 < (a0.size : Int) := of_decide_eq_true (by first | (with_reducible assumption) | assumption)
                            have hx7 := bt_at a0 x3_2
                            replace p7 := eq_true p7
                            replace q7 := eq_true q7
                            go_wp2
                            go_roundg k2
                            case measure => have := HJ1.out; have := HK2.out; omega
                            case rel => exact ⟨(wrap64 (x3_2 + 1)), (by first | rfl | (simp; done) | (simp [*]; done)), H', ⟨by have := HJ1.out; have := HK2.out; omega⟩, by repeat (first | exact Drawn0.refl _ | apply Drawn0.step)⟩
                          · rw [if_neg c86] at H
                            have c86b0 : decide (0 < x3_2) = false := decide_eq_false c86
                            clear c86
                            obtain rfl := Option.some.inj H
                            have p7 : 0 ≤ (x3_2 : Int) := of_decide_eq_true (by first | (with_reducible assumption) | assumption)
                            have q7 : x3_2 < (a0.size : Int) := of_decide_eq_true (by first | (with_reducible assumption) | assumption)
                            have hx7 := bt_at a0 x3_2
                            replace p7 := eq_true p7
                            replace q7 := eq_true q7
                            go_wp2
                            go_ret
                            exact ⟨by first | rfl | (simp; done) | (simp [*]; done), by repeat (first | exact Drawn0.refl _ | apply Drawn0.step)⟩
                      · rw [if_neg c84] at H
                        have c84b0 : ((bt a0 x3_2) == 45) = false := beq_eq_false_iff_ne.mpr c84
                        have c84b1 : ((bt a0 x3_2) != 45) = true := bne_iff_ne.mpr c84
                        by_cases c87 : ((bt a0 x3_2) = 95)
                        · rw [if_pos c87] at H
                          have c87b0 : ((bt a0 x3_2) == 95) = true := beq_iff_eq.mpr c87
                          have c87b1 : ((bt a0 x3_2) != 95) = false := bne_eq_false_iff_eq.mpr c87
                          clear c87
                          have H' := Aside0.mk H
                          clear H
                          have p7 : 0 ≤ (x3_2 : Int) := of_decide_eq_true (by first | (with_reducible assumption) | assumption)
                          have q7 : x3_2 < (a0.size : Int) := of_decide_eq_true (by first | (with_reducible assumption) | assumption)
                          have hx7 := bt_at a0 x3_2
                          replace p7 := eq_true p7
                          replace q7 := eq_true q7
                          go_wp2
                          go_roundg k2
                          case measure => have := HJ1.out; have := HK2.out; omega
                          case rel => exact ⟨(wrap64 (x3_2 + 1)), (by first | rfl | (simp; done) | (simp [*]; done)), H', ⟨by have := HJ1.out; have := HK2.out; omega⟩, by repeat (first | exact Drawn0.refl _ | apply Drawn0.step)⟩
                        · rw [if_neg c87] at H
                          have c87b0 : ((bt a0 x3_2) == 95) = false := beq_eq_false_iff_ne.mpr c87
                          have c87b1 : ((bt a0 x3_2) != 95) = true := bne_iff_ne.mpr c87
                          by_cases c88 : (bt a0 x3_2) = 46
                          · rw [if_pos c88] at H
                            have c88b0 : ((bt a0 x3_2) == 46) = true := beq_iff_eq.mpr c88
                            have c88b1 : ((bt a0 x3_2) != 46) = false := bne_eq_false_iff_eq.mpr c88
                            clear c88
                            by_cases c89 : x3_2 > 0
                            · rw [if_pos c89] at H
                              have c89b0 : decide (0 < x3_2) = true := decide_eq_true c89
                              clear c89
                              have H' := Aside0.mk H
                              clear H
                              have p7 : 0 ≤ (x3_2 : Int) := of_decide_eq_true (by first | (with_reducible assumption) | assumption)
                              have q7 : x3_2 < (a0.size : Int) := of_decide_eq_true (by first | (with_reducible assumption) | assumption)
                              have hx7 := bt_at a0 x3_2
                              replace p7 := eq_true p7
                              replace q7 := eq_true q7
                              go_wp2
                              go_roundg k2
                              case measure => have := HJ1.out; have := HK2.out; omega
                              case rel => exact ⟨(wrap64 (x3_2 + 1)), (by first | rfl | (simp; done) | (simp [*]; done)), H', ⟨by have := HJ1.out; have := HK2.out; omega⟩, by repeat (first | exact Drawn0.refl _ | apply Drawn0.step)⟩
                            · rw [if_neg c89] at H
                              have c89b0 : decide (0 < x3_2) = false := decide_eq_false c89
                              clear c89
                              obtain rfl := Option.some.inj H
                              have p7 : 0 ≤ (x3_2 : Int) := of_decide_eq_true (by first | (with_reducible assumption) | assumption)
                              have q7 : x3_2 < (a0.size : Int) := of_decide_eq_true (by first | (with_reducible assumption) | assumption)
                              have hx7 := bt_at a0 x3_2
                              replace p7 := eq_true p7
                              replace q7 := eq_true q7
                              go_wp2
                              go_ret
                              exact ⟨by first | rfl | (simp; done) | (simp [*]; done), by repeat (first | exact Drawn0.refl _ | apply Drawn0.step)⟩
                          · rw [if_neg c88] at H
                            have c88b0 : ((bt a0 x3_2) == 46) = false := beq_eq_false_iff_ne.mpr c88
                            have c88b1 : ((bt a0 x3_2) != 46) = true := bne_iff_ne.mpr c88
                            obtain rfl := Option.some.inj H
                            have p7 : 0 ≤ (x3_2 : Int) := of_decide_eq_true (by first | (with_reducible assumption) | assumption)
                            have q7 : x3_2 < (a0.size : Int) := of_decide_eq_true (by first | (with_reducible assumption) | assumption)
                            have hx7 := bt_at a0 x3_2
                            replace p7 := eq_true p7
                            replace q7 := eq_true q7
                            go_wp2
                            go_ret
                            exact ⟨by first | rfl | (simp; done) | (simp [*]; done), by repeat (first | exact Drawn0.refl _ | apply Drawn0.step)⟩
              · rw [if_neg c6] at H
                exact absurd H (by simp)
            · rw [if_neg c5] at H
              have c5b0 : decide (x3_2 < (a0.size : Int)) = false := decide_eq_false c5
              clear c5
              obtain rfl := Option.some.inj H
              go_wp2
              go_ret
              exact ⟨by first | rfl | (simp; done) | (simp [*]; done), by repeat (first | exact Drawn0.refl _ | apply Drawn0.step)⟩

/-! ### hexaplaref04_Space: function 14 -/
mutual
def hexaplaref04_Space.j0 : Nat → ByteArray → Bool → Option (Bool)
  | 0, _, _ => none
  | k + 1, x0, x19 => if x19 = true then (some false) else (hexaplaref04_Space.l0 k x0 0)
def hexaplaref04_Space.l0 : Nat → ByteArray → Int → Option (Bool)
  | 0, _, _ => none
  | k + 1, x0, x4 => if x4 < (x0.size : Int) then (if 0 ≤ x4 then (if (bt x0 x4) < 33 then (some false) else (if (bt x0 x4) = 123 then (some false) else (if (bt x0 x4) = 125 then (some false) else (if (bt x0 x4) = 34 then (some false) else (if (bt x0 x4) = 60 then (some false) else (if (bt x0 x4) = 62 then (some false) else (if (bt x0 x4) = 38 then (some false) else (if (bt x0 x4) = 92 then (some false) else (hexaplaref04_Space.l0 k x0 (wrap64 (x4 + 1))))))))))) else (none)) else (some true)
end
def hexaplaref04_Space.f (k : Nat) (a0 : ByteArray) : Option (Bool) := (hexaplaref01_Valid.f k a0).bind fun t126 => (if t126 = true then (if (a0.size : Int) < 1 then (hexaplaref04_Space.j0 k a0 true) else (hexaplaref04_Space.j0 k a0 (decide ((a0.size : Int) > 48)))) else (hexaplaref04_Space.j0 k a0 true))
theorem hexaplaref04_Space.mono_l : ∀ k, (∀ y0 y1, LeO (hexaplaref04_Space.j0 k y0 y1) (hexaplaref04_Space.j0 (k + 1) y0 y1)) ∧ (∀ y0 y1, LeO (hexaplaref04_Space.l0 k y0 y1) (hexaplaref04_Space.l0 (k + 1) y0 y1))
  | 0 => ⟨fun _ _ r h => by simp [hexaplaref04_Space.j0] at h, fun _ _ r h => by simp [hexaplaref04_Space.l0] at h⟩
  | k + 1 => by
    obtain ⟨ih0, ih1⟩ := hexaplaref04_Space.mono_l k
    refine ⟨?_, ?_⟩
    · intro y0 y1
      unfold hexaplaref04_Space.j0
      repeat' first
      | (with_reducible exact ih0 _ _)
      | (with_reducible exact ih1 _ _)
      | (with_reducible exact hexaplaref01_Valid.mono _ _)
      | (with_reducible exact LeO.refl _)
      | (with_reducible exact LeO.none _)
      | (with_reducible refine LeO.ite ?_ ?_)
      | (with_reducible refine LeO.bind ?_ (fun _ => ?_))
      | exact ih0 _ _
      | exact ih1 _ _
      | exact hexaplaref01_Valid.mono _ _
      | exact LeO.none _
      | refine LeO.ite ?_ ?_
      | refine LeO.bind ?_ (fun _ => ?_)
    · intro y0 y1
      unfold hexaplaref04_Space.l0
      repeat' first
      | (with_reducible exact ih0 _ _)
      | (with_reducible exact ih1 _ _)
      | (with_reducible exact hexaplaref01_Valid.mono _ _)
      | (with_reducible exact LeO.refl _)
      | (with_reducible exact LeO.none _)
      | (with_reducible refine LeO.ite ?_ ?_)
      | (with_reducible refine LeO.bind ?_ (fun _ => ?_))
      | exact ih0 _ _
      | exact ih1 _ _
      | exact hexaplaref01_Valid.mono _ _
      | exact LeO.none _
      | refine LeO.ite ?_ ?_
      | refine LeO.bind ?_ (fun _ => ?_)
theorem hexaplaref04_Space.mono : ∀ a0 k, LeO (hexaplaref04_Space.f k a0) (hexaplaref04_Space.f (k + 1) a0) := by
  intro a0 k
  obtain ⟨ih0, ih1⟩ := hexaplaref04_Space.mono_l k
  unfold hexaplaref04_Space.f
  repeat' first
      | (with_reducible exact ih0 _ _)
      | (with_reducible exact ih1 _ _)
      | (with_reducible exact hexaplaref01_Valid.mono _ _)
      | (with_reducible exact LeO.refl _)
      | (with_reducible exact LeO.none _)
      | (with_reducible refine LeO.ite ?_ ?_)
      | (with_reducible refine LeO.bind ?_ (fun _ => ?_))
      | exact ih0 _ _
      | exact ih1 _ _
      | exact hexaplaref01_Valid.mono _ _
      | exact LeO.none _
      | refine LeO.ite ?_ ?_
      | refine LeO.bind ?_ (fun _ => ?_)
set_option maxHeartbeats 8000000 in
set_option maxRecDepth 100000 in
theorem hexaplaref04_Space.calls (k : Nat) (a0 : ByteArray) (r : Bool) (w : World) (h : hexaplaref04_Space.f k a0 = some r) :
    Calls Tryd.prog 14 #[.string a0] w fun e w' => e = .returned (.bool r) ∧ Below w.heap.size w w' := by
  have HB := Aside0.mk (Below.refl w.heap.size w)
  have H : ((hexaplaref01_Valid.f k a0).bind fun t126 => (if t126 = true then (if (a0.size : Int) < 1 then (hexaplaref04_Space.j0 k a0 true) else (hexaplaref04_Space.j0 k a0 (decide ((a0.size : Int) > 48)))) else (hexaplaref04_Space.j0 k a0 true))) = some r := h
  clear h
  replace H := Option.bind_eq_some_iff.mp H
  obtain ⟨t126, A20, H⟩ := H
  replace H : (if t126 = true then (if (a0.size : Int) < 1 then (hexaplaref04_Space.j0 k a0 true) else (hexaplaref04_Space.j0 k a0 (decide ((a0.size : Int) > 48)))) else (hexaplaref04_Space.j0 k a0 true)) = some r := H
  have A2 := Aside0.mk A20
  clear A20
  have HC3 := Aside0.mk H
  clear H
  go_enter Tryd.func14, Tryd.ntmps14
  go_upto_region 2 with (first | ((with_reducible refine gate_callee (f := 31) rfl ?_); refine goesL_ (some 7) rfl rfl Tryd.func31 (by kernel_rfl) rfl #[.string a0] rfl (by (try simp only [List.map_toArray, List.map_cons, List.map_nil]); first | done | rfl | (simp only [List.length_drop, List.length_take]; rfl)) ?_; (with_reducible refine (hexaplaref01_Valid.calls k a0 t126 _ A2.out).mono ?_); rintro e w4 ⟨rfl, hb⟩; refine ⟨_, rfl, ?_⟩; have n0_ := Aside0.mk (below_step (by repeat (first | (with_reducible first | exact HB.out | apply below_alloc | apply pw_below_drewN | apply below_drew1) | exact HB.out)) hb); clear HB; have HB := n0_; clear n0_; (try clear hb); (try clear hb2); (try clear hk); (try clear hi)))
  (try simp only [Act.put, List.setIfInBounds_toArray, List.set_cons_zero, List.set_cons_succ])
  go_cut [19] (fun v19 wc => ∃ (kq : Nat) (x19_2 : Bool), v19 = .bool x19_2 ∧ Aside0 (hexaplaref04_Space.j0 kq a0 x19_2 = some r) ∧ Aside0 (kq ≤ k) ∧ Aside0 (Below w.heap.size w wc))
  case first =>
    have H := HC3.out
    clear HC3
    by_cases c5 : t126 = true
    · subst c5
      have H1 : (if (a0.size : Int) < 1 then (hexaplaref04_Space.j0 k a0 true) else (hexaplaref04_Space.j0 k a0 (decide ((a0.size : Int) > 48)))) = some r := by rw [if_pos rfl] at H; exact H
      clear H
      have H := H1
      clear H1
      by_cases c6 : (a0.size : Int) < 1
      · rw [if_pos c6] at H
        have c6b0 : decide ((a0.size : Int) < 1) = true := decide_eq_true c6
        have c6b1 : decide (a0.size < 1) = true := decide_eq_true (by omega)
        clear c6
        (first | rw [c6b0] | (simp only [i64_w, i32_w]; rw [c6b0]) | skip)
        have H' := Aside0.mk H
        clear H
        go_wp2
        go_meet
        case rel => exact ⟨_, (true), (by first | rfl | (simp; done) | (simp [*]; done)), H', ⟨by first | omega | exact Nat.le_refl _⟩, ⟨by repeat (first | (with_reducible first | exact HB.out | apply below_alloc | apply pw_below_drewN | apply below_drew1) | exact HB.out)⟩⟩
      · rw [if_neg c6] at H
        have c6b0 : decide ((a0.size : Int) < 1) = false := decide_eq_false c6
        have c6b1 : decide (a0.size < 1) = false := decide_eq_false (by omega)
        clear c6
        (first | rw [c6b0] | (simp only [i64_w, i32_w]; rw [c6b0]) | skip)
        have H' := Aside0.mk H
        clear H
        go_wp2
        go_meet
        case rel => exact ⟨_, (decide ((a0.size : Int) > 48)), (by first | rfl | (simp; done) | (simp [*]; done)), H', ⟨by first | omega | exact Nat.le_refl _⟩, ⟨by repeat (first | (with_reducible first | exact HB.out | apply below_alloc | apply pw_below_drewN | apply below_drew1) | exact HB.out)⟩⟩
    · replace c5 := Bool.eq_false_iff.mpr c5
      subst c5
      have H1 : (hexaplaref04_Space.j0 k a0 true) = some r := by rw [if_neg (show ¬ (false = true) by decide)] at H; exact H
      clear H
      have H := H1
      clear H1
      have H' := Aside0.mk H
      clear H
      go_wp2
      go_meet
      case rel => exact ⟨_, (true), (by first | rfl | (simp; done) | (simp [*]; done)), H', ⟨by first | omega | exact Nat.le_refl _⟩, ⟨by repeat (first | (with_reducible first | exact HB.out | apply below_alloc | apply pw_below_drewN | apply below_drew1) | exact HB.out)⟩⟩
  case rest =>
    clear HC3
    try clear c1
    try clear p2
    try clear c3
    try clear c5
    try clear c6
    try clear c6b0
    try clear c6b1
    obtain ⟨kq, x19_2, rfl, HA, HJ2, HB⟩ := hcut
    cases kq with
    | zero => exact absurd HA.out (by simp [hexaplaref04_Space.j0])
    | succ kj2 =>
      have H := HA.out
      clear HA
      simp only [hexaplaref04_Space.j0] at H
      by_cases c7 : x19_2 = true
      · subst c7
        have H1 : (some false) = some r := by rw [if_pos rfl] at H; exact H
        clear H
        have H := H1
        clear H1
        obtain rfl := Option.some.inj H
        go_wp2
        go_ret
        exact ⟨by first | rfl | (simp [errW_none, errW_some] <;> rfl) | (simp [*, errW_none, errW_some] <;> rfl), by repeat (first | (with_reducible first | exact HB.out | apply below_alloc | apply pw_below_drewN | apply below_drew1) | exact HB.out)⟩
      · replace c7 := Bool.eq_false_iff.mpr c7
        subst c7
        have H1 : (hexaplaref04_Space.l0 kj2 a0 0) = some r := by rw [if_neg (show ¬ (false = true) by decide)] at H; exact H
        clear H
        have H := H1
        clear H1
        have H' := Aside0.mk H
        clear H
        go_wp2
        go_loopg [4] kj2 (fun kq v4 w' => ∃ (x4_2 : Int), v4 = .int .i64 x4_2 ∧ Aside0 (hexaplaref04_Space.l0 kq a0 x4_2 = some r) ∧ Aside0 (kq ≤ kj2) ∧ Aside0 (Below w.heap.size w w'))
        case atStart => exact ⟨(0), (by first | rfl | (simp; done) | (simp [*]; done)), H', ⟨Nat.le_refl _⟩, ⟨by repeat (first | (with_reducible first | exact HB.out | apply below_alloc | apply pw_below_drewN | apply below_drew1) | exact HB.out)⟩⟩
        case round =>
          clear H'
          try clear c1
          try clear p2
          try clear c3
          try clear c5
          try clear c6
          try clear c6b0
          try clear c6b1
          try clear c7
          try clear p2
          obtain ⟨x4_2, rfl, HA, HK2, HB⟩ := hrel
          cases gk with
          | zero => exact absurd HA.out (by simp [hexaplaref04_Space.l0])
          | succ k2 =>
            have H := HA.out
            clear HA
            simp only [hexaplaref04_Space.l0] at H
            by_cases c8 : x4_2 < (a0.size : Int)
            · rw [if_pos c8] at H
              have c8b0 : decide (x4_2 < (a0.size : Int)) = true := decide_eq_true c8
              clear c8
              by_cases c9 : 0 ≤ x4_2
              · rw [if_pos c9] at H
                have c9b0 : decide (0 ≤ x4_2) = true := decide_eq_true c9
                clear c9
                by_cases c11 : (bt a0 x4_2) < 33
                · rw [if_pos c11] at H
                  have c11b0 : decide ((bt a0 x4_2) < 33) = true := decide_eq_true c11
                  clear c11
                  obtain rfl := Option.some.inj H
                  have p10 : 0 ≤ (x4_2 : Int) := of_decide_eq_true (by first | (with_reducible assumption) | assumption)
                  have q10 : x4_2 < (a0.size : Int) := of_decide_eq_true (by first | (with_reducible assumption) | assumption)
                  have hx10 := bt_at a0 x4_2
                  replace p10 := eq_true p10
                  replace q10 := eq_true q10
                  go_wp2
                  go_ret
                  exact ⟨by first | rfl | (simp [errW_none, errW_some] <;> rfl) | (simp [*, errW_none, errW_some] <;> rfl), by repeat (first | (with_reducible first | exact HB.out | apply below_alloc | apply pw_below_drewN | apply below_drew1) | exact HB.out)⟩
                · rw [if_neg c11] at H
                  have c11b0 : decide ((bt a0 x4_2) < 33) = false := decide_eq_false c11
                  clear c11
                  by_cases c12 : (bt a0 x4_2) = 123
                  · rw [if_pos c12] at H
                    have c12b0 : ((bt a0 x4_2) == 123) = true := beq_iff_eq.mpr c12
                    have c12b1 : ((bt a0 x4_2) != 123) = false := bne_eq_false_iff_eq.mpr c12
                    clear c12
                    obtain rfl := Option.some.inj H
                    have p10 : 0 ≤ (x4_2 : Int) := of_decide_eq_true (by first | (with_reducible assumption) | assumption)
                    have q10 : x4_2 < (a0.size : Int) := of_decide_eq_true (by first | (with_reducible assumption) | assumption)
                    have hx10 := bt_at a0 x4_2
                    replace p10 := eq_true p10
                    replace q10 := eq_true q10
                    go_wp2
                    go_ret
                    exact ⟨by first | rfl | (simp [errW_none, errW_some] <;> rfl) | (simp [*, errW_none, errW_some] <;> rfl), by repeat (first | (with_reducible first | exact HB.out | apply below_alloc | apply pw_below_drewN | apply below_drew1) | exact HB.out)⟩
                  · rw [if_neg c12] at H
                    have c12b0 : ((bt a0 x4_2) == 123) = false := beq_eq_false_iff_ne.mpr c12
                    have c12b1 : ((bt a0 x4_2) != 123) = true := bne_iff_ne.mpr c12
                    by_cases c13 : (bt a0 x4_2) = 125
                    · rw [if_pos c13] at H
                      have c13b0 : ((bt a0 x4_2) == 125) = true := beq_iff_eq.mpr c13
                      have c13b1 : ((bt a0 x4_2) != 125) = false := bne_eq_false_iff_eq.mpr c13
                      clear c13
                      obtain rfl := Option.some.inj H
                      have p10 : 0 ≤ (x4_2 : Int) := of_decide_eq_true (by first | (with_reducible assumption) | assumption)
                      have q10 : x4_2 < (a0.size : Int) := of_decide_eq_true (by first | (with_reducible assumption) | assumption)
                      have hx10 := bt_at a0 x4_2
                      replace p10 := eq_true p10
                      replace q10 := eq_true q10
                      go_wp2
                      go_ret
                      exact ⟨by first | rfl | (simp [errW_none, errW_some] <;> rfl) | (simp [*, errW_none, errW_some] <;> rfl), by repeat (first | (with_reducible first | exact HB.out | apply below_alloc | apply pw_below_drewN | apply below_drew1) | exact HB.out)⟩
                    · rw [if_neg c13] at H
                      have c13b0 : ((bt a0 x4_2) == 125) = false := beq_eq_false_iff_ne.mpr c13
                      have c13b1 : ((bt a0 x4_2) != 125) = true := bne_iff_ne.mpr c13
                      by_cases c14 : (bt a0 x4_2) = 34
                      · rw [if_pos c14] at H
                        have c14b0 : ((bt a0 x4_2) == 34) = true := beq_iff_eq.mpr c14
                        have c14b1 : ((bt a0 x4_2) != 34) = false := bne_eq_false_iff_eq.mpr c14
                        clear c14
                        obtain rfl := Option.some.inj H
                        have p10 : 0 ≤ (x4_2 : Int) := of_decide_eq_true (by first | (with_reducible assumption) | assumption)
                        have q10 : x4_2 < (a0.size : Int) := of_decide_eq_true (by first | (with_reducible assumption) | assumption)
                        have hx10 := bt_at a0 x4_2
                        replace p10 := eq_true p10
                        replace q10 := eq_true q10
                        go_wp2
                        go_ret
                        exact ⟨by first | rfl | (simp [errW_none, errW_some] <;> rfl) | (simp [*, errW_none, errW_some] <;> rfl), by repeat (first | (with_reducible first | exact HB.out | apply below_alloc | apply pw_below_drewN | apply below_drew1) | exact HB.out)⟩
                      · rw [if_neg c14] at H
                        have c14b0 : ((bt a0 x4_2) == 34) = false := beq_eq_false_iff_ne.mpr c14
                        have c14b1 : ((bt a0 x4_2) != 34) = true := bne_iff_ne.mpr c14
                        by_cases c15 : (bt a0 x4_2) = 60
                        · rw [if_pos c15] at H
                          have c15b0 : ((bt a0 x4_2) == 60) = true := beq_iff_eq.mpr c15
                          have c15b1 : ((bt a0 x4_2) != 60) = false := bne_eq_false_iff_eq.mpr c15
                          clear c15
                          obtain rfl := Option.some.inj H
                          have p10 : 0 ≤ (x4_2 : Int) := of_decide_eq_true (by first | (with_reducible assumption) | assumption)
                          have q10 : x4_2 < (a0.size : Int) := of_decide_eq_true (by first | (with_reducible assumption) | assumption)
                          have hx10 := bt_at a0 x4_2
                          replace p10 := eq_true p10
                          replace q10 := eq_true q10
                          go_wp2
                          go_ret
                          exact ⟨by first | rfl | (simp [errW_none, errW_some] <;> rfl) | (simp [*, errW_none, errW_some] <;> rfl), by repeat (first | (with_reducible first | exact HB.out | apply below_alloc | apply pw_below_drewN | apply below_drew1) | exact HB.out)⟩
                        · rw [if_neg c15] at H
                          have c15b0 : ((bt a0 x4_2) == 60) = false := beq_eq_false_iff_ne.mpr c15
                          have c15b1 : ((bt a0 x4_2) != 60) = true := bne_iff_ne.mpr c15
                          by_cases c16 : (bt a0 x4_2) = 62
                          · rw [if_pos c16] at H
                            have c16b0 : ((bt a0 x4_2) == 62) = true := beq_iff_eq.mpr c16
                            have c16b1 : ((bt a0 x4_2) != 62) = false := bne_eq_false_iff_eq.mpr c16
                            clear c16
                            obtain rfl := Option.some.inj H
                            have p10 : 0 ≤ (x4_2 : Int) := of_decide_eq_true (by first | (with_reducible assumption) | assumption)
                            have q10 : x4_2 < (a0.size : Int) := of_decide_eq_true (by first | (with_reducible assumption) | assumption)
                            have hx10 := bt_at a0 x4_2
                            replace p10 := eq_true p10
                            replace q10 := eq_true q10
                            go_wp2
                            go_ret
                            exact ⟨by first | rfl | (simp [errW_none, errW_some] <;> rfl) | (simp [*, errW_none, errW_some] <;> rfl), by repeat (first | (with_reducible first | exact HB.out | apply below_alloc | apply pw_below_drewN | apply below_drew1) | exact HB.out)⟩
                          · rw [if_neg c16] at H
                            have c16b0 : ((bt a0 x4_2) == 62) = false := beq_eq_false_iff_ne.mpr c16
                            have c16b1 : ((bt a0 x4_2) != 62) = true := bne_iff_ne.mpr c16
                            by_cases c17 : (bt a0 x4_2) = 38
                            · rw [if_pos c17] at H
                              have c17b0 : ((bt a0 x4_2) == 38) = true := beq_iff_eq.mpr c17
                              have c17b1 : ((bt a0 x4_2) != 38) = false := bne_eq_false_iff_eq.mpr c17
                              clear c17
                              obtain rfl := Option.some.inj H
                              have p10 : 0 ≤ (x4_2 : Int) := of_decide_eq_true (by first | (with_reducible assumption) | assumption)
                              have q10 : x4_2 < (a0.size : Int) := of_decide_eq_true (by first | (with_reducible assumption) | assumption)
                              have hx10 := bt_at a0 x4_2
                              replace p10 := eq_true p10
                              replace q10 := eq_true q10
                              go_wp2
                              go_ret
                              exact ⟨by first | rfl | (simp [errW_none, errW_some] <;> rfl) | (simp [*, errW_none, errW_some] <;> rfl), by repeat (first | (with_reducible first | exact HB.out | apply below_alloc | apply pw_below_drewN | apply below_drew1) | exact HB.out)⟩
                            · rw [if_neg c17] at H
                              have c17b0 : ((bt a0 x4_2) == 38) = false := beq_eq_false_iff_ne.mpr c17
                              have c17b1 : ((bt a0 x4_2) != 38) = true := bne_iff_ne.mpr c17
                              by_cases c18 : (bt a0 x4_2) = 92
                              · rw [if_pos c18] at H
                                have c18b0 : ((bt a0 x4_2) == 92) = true := beq_iff_eq.mpr c18
                                have c18b1 : ((bt a0 x4_2) != 92) = false := bne_eq_false_iff_eq.mpr c18
                                clear c18
                                obtain rfl := Option.some.inj H
                                have p10 : 0 ≤ (x4_2 : Int) := of_decide_eq_true (by first | (with_reducible assumption) | assumption)
                                have q10 : x4_2 < (a0.size : Int) := of_decide_eq_true (by first | (with_reducible assumption) | assumption)
                                have hx10 := bt_at a0 x4_2
                                replace p10 := eq_true p10
                                replace q10 := eq_true q10
                                go_wp2
                                go_ret
                                exact ⟨by first | rfl | (simp [errW_none, errW_some] <;> rfl) | (simp [*, errW_none, errW_some] <;> rfl), by repeat (first | (with_reducible first | exact HB.out | apply below_alloc | apply pw_below_drewN | apply below_drew1) | exact HB.out)⟩
                              · rw [if_neg c18] at H
                                have c18b0 : ((bt a0 x4_2) == 92) = false := beq_eq_false_iff_ne.mpr c18
                                have c18b1 : ((bt a0 x4_2) != 92) = true := bne_iff_ne.mpr c18
                                have H' := Aside0.mk H
                                clear H
                                have p10 : 0 ≤ (x4_2 : Int) := of_decide_eq_true (by first | (with_reducible assumption) | assumption)
                                have q10 : x4_2 < (a0.size : Int) := of_decide_eq_true (by first | (with_reducible assumption) | assumption)
                                have hx10 := bt_at a0 x4_2
                                replace p10 := eq_true p10
                                replace q10 := eq_true q10
                                go_wp2
                                go_roundg k2
                                case measure => have := HJ2.out; have := HK2.out; omega
                                case rel => exact ⟨(wrap64 (x4_2 + 1)), (by first | rfl | (simp; done) | (simp [*]; done)), H', ⟨by have := HJ2.out; have := HK2.out; omega⟩, ⟨by repeat (first | (with_reducible first | exact HB.out | apply below_alloc | apply pw_below_drewN | apply below_drew1) | exact HB.out)⟩⟩
              · rw [if_neg c9] at H
                exact absurd H (by simp)
            · rw [if_neg c8] at H
              have c8b0 : decide (x4_2 < (a0.size : Int)) = false := decide_eq_false c8
              clear c8
              obtain rfl := Option.some.inj H
              go_wp2
              go_ret
              exact ⟨by first | rfl | (simp [errW_none, errW_some] <;> rfl) | (simp [*, errW_none, errW_some] <;> rfl), by repeat (first | (with_reducible first | exact HB.out | apply below_alloc | apply pw_below_drewN | apply below_drew1) | exact HB.out)⟩

/-! ### hexaplaref04_Cut: function 10 -/
mutual
def hexaplaref04_Cut.j0 : Nat → ByteArray → Bool → Option (ByteArray × ByteArray × Bool)
  | 0, _, _ => none
  | k + 1, x0, x19 => if x19 = true then ((hexaplaref04_Local.f k x0).bind fun t127 => (if t127 = true then (some ((⟨#[]⟩ : ByteArray), x0, true)) else (some ((⟨#[]⟩ : ByteArray), (⟨#[]⟩ : ByteArray), false)))) else (hexaplaref04_Cut.l0 k x0 1)
def hexaplaref04_Cut.l0 : Nat → ByteArray → Int → Option (ByteArray × ByteArray × Bool)
  | 0, _, _ => none
  | k + 1, x0, x6 => if x6 < (x0.size : Int) then (if 0 ≤ x6 then (if (bt x0 x6) = 125 then (if 1 ≤ x6 then (if x6 ≤ (x0.size : Int) then ((hexaplaref04_Space.f k (x0.extract 1 (x6 : Int).toNat)).bind fun t128 => (if 0 ≤ (wrap64 (x6 + 1)) then (if (wrap64 (x6 + 1)) ≤ (x0.size : Int) then ((hexaplaref04_Local.f k (x0.extract ((wrap64 (x6 + 1)) : Int).toNat x0.size)).bind fun t129 => (if t128 = true then (if t129 = true then (some (x0.extract 1 (x6 : Int).toNat, x0.extract ((wrap64 (x6 + 1)) : Int).toNat x0.size, true)) else (some ((⟨#[]⟩ : ByteArray), (⟨#[]⟩ : ByteArray), false))) else (some ((⟨#[]⟩ : ByteArray), (⟨#[]⟩ : ByteArray), false)))) else (none)) else (none))) else (none)) else (none)) else (hexaplaref04_Cut.l0 k x0 (wrap64 (x6 + 1)))) else (none)) else (some ((⟨#[]⟩ : ByteArray), (⟨#[]⟩ : ByteArray), false))
end
def hexaplaref04_Cut.f (k : Nat) (a0 : ByteArray) : Option (ByteArray × ByteArray × Bool) := if (a0.size : Int) > 48 then (some ((⟨#[]⟩ : ByteArray), (⟨#[]⟩ : ByteArray), false)) else (if (a0.size : Int) = 0 then (hexaplaref04_Cut.j0 k a0 true) else (if 0 < (a0.size : Int) then (hexaplaref04_Cut.j0 k a0 ((bt a0 0) != 123)) else (none)))
theorem hexaplaref04_Cut.mono_l : ∀ k, (∀ y0 y1, LeO (hexaplaref04_Cut.j0 k y0 y1) (hexaplaref04_Cut.j0 (k + 1) y0 y1)) ∧ (∀ y0 y1, LeO (hexaplaref04_Cut.l0 k y0 y1) (hexaplaref04_Cut.l0 (k + 1) y0 y1))
  | 0 => ⟨fun _ _ r h => by simp [hexaplaref04_Cut.j0] at h, fun _ _ r h => by simp [hexaplaref04_Cut.l0] at h⟩
  | k + 1 => by
    obtain ⟨ih0, ih1⟩ := hexaplaref04_Cut.mono_l k
    refine ⟨?_, ?_⟩
    · intro y0 y1
      unfold hexaplaref04_Cut.j0
      repeat' first
      | (with_reducible exact ih0 _ _)
      | (with_reducible exact ih1 _ _)
      | (with_reducible exact hexaplaref04_Local.mono _ _)
      | (with_reducible exact hexaplaref04_Space.mono _ _)
      | (with_reducible exact LeO.refl _)
      | (with_reducible exact LeO.none _)
      | (with_reducible refine LeO.ite ?_ ?_)
      | (with_reducible refine LeO.bind ?_ (fun _ => ?_))
      | exact ih0 _ _
      | exact ih1 _ _
      | exact hexaplaref04_Local.mono _ _
      | exact hexaplaref04_Space.mono _ _
      | exact LeO.none _
      | refine LeO.ite ?_ ?_
      | refine LeO.bind ?_ (fun _ => ?_)
    · intro y0 y1
      unfold hexaplaref04_Cut.l0
      repeat' first
      | (with_reducible exact ih0 _ _)
      | (with_reducible exact ih1 _ _)
      | (with_reducible exact hexaplaref04_Local.mono _ _)
      | (with_reducible exact hexaplaref04_Space.mono _ _)
      | (with_reducible exact LeO.refl _)
      | (with_reducible exact LeO.none _)
      | (with_reducible refine LeO.ite ?_ ?_)
      | (with_reducible refine LeO.bind ?_ (fun _ => ?_))
      | exact ih0 _ _
      | exact ih1 _ _
      | exact hexaplaref04_Local.mono _ _
      | exact hexaplaref04_Space.mono _ _
      | exact LeO.none _
      | refine LeO.ite ?_ ?_
      | refine LeO.bind ?_ (fun _ => ?_)
theorem hexaplaref04_Cut.mono : ∀ a0 k, LeO (hexaplaref04_Cut.f k a0) (hexaplaref04_Cut.f (k + 1) a0) := by
  intro a0 k
  obtain ⟨ih0, ih1⟩ := hexaplaref04_Cut.mono_l k
  unfold hexaplaref04_Cut.f
  repeat' first
      | (with_reducible exact ih0 _ _)
      | (with_reducible exact ih1 _ _)
      | (with_reducible exact hexaplaref04_Local.mono _ _)
      | (with_reducible exact hexaplaref04_Space.mono _ _)
      | (with_reducible exact LeO.refl _)
      | (with_reducible exact LeO.none _)
      | (with_reducible refine LeO.ite ?_ ?_)
      | (with_reducible refine LeO.bind ?_ (fun _ => ?_))
      | exact ih0 _ _
      | exact ih1 _ _
      | exact hexaplaref04_Local.mono _ _
      | exact hexaplaref04_Space.mono _ _
      | exact LeO.none _
      | refine LeO.ite ?_ ?_
      | refine LeO.bind ?_ (fun _ => ?_)
set_option maxHeartbeats 8000000 in
set_option maxRecDepth 100000 in
theorem hexaplaref04_Cut.calls (k : Nat) (a0 : ByteArray) (r1 : ByteArray) (r2 : ByteArray) (r3 : Bool) (w : World) (h : hexaplaref04_Cut.f k a0 = some (r1, r2, r3)) :
    Calls Tryd.prog 10 #[.string a0] w fun e w' => e = .returned (.tuple #[.string r1, .string r2, .bool r3]) ∧ Below w.heap.size w w' := by
  have HB := Aside0.mk (Below.refl w.heap.size w)
  have H : (if (a0.size : Int) > 48 then (some ((⟨#[]⟩ : ByteArray), (⟨#[]⟩ : ByteArray), false)) else (if (a0.size : Int) = 0 then (hexaplaref04_Cut.j0 k a0 true) else (if 0 < (a0.size : Int) then (hexaplaref04_Cut.j0 k a0 ((bt a0 0) != 123)) else (none)))) = some (r1, r2, r3) := h
  clear h
  by_cases c2 : (a0.size : Int) > 48
  · rw [if_pos c2] at H
    have c2b0 : decide (48 < (a0.size : Int)) = true := decide_eq_true c2
    have c2b1 : decide (48 < a0.size) = true := decide_eq_true (by omega)
    clear c2
    simp only [Option.some.injEq, Prod.mk.injEq] at H
    obtain ⟨rfl, rfl, rfl⟩ := H
    go_enter Tryd.func10, Tryd.ntmps10
    go_wp2
    repeat (go_quiet (fail); try go_wp2)
    go_ret3
    exact ⟨by first | rfl | (simp [errW_none, errW_some] <;> rfl) | (simp [*, errW_none, errW_some] <;> rfl), by repeat (first | (with_reducible first | exact HB.out | apply below_alloc | apply pw_below_drewN | apply below_drew1) | exact HB.out)⟩
  · rw [if_neg c2] at H
    have c2b0 : decide (48 < (a0.size : Int)) = false := decide_eq_false c2
    have c2b1 : decide (48 < a0.size) = false := decide_eq_false (by omega)
    clear c2
    have HC3 := Aside0.mk H
    clear H
    go_enter Tryd.func10, Tryd.ntmps10
    go_upto_region 3 with (fail)
    repeat (go_quiet (fail); go_upto_region 3 with (fail))
    go_cut [19] (fun v19 wc => ∃ (kq : Nat) (x19_2 : Bool), v19 = .bool x19_2 ∧ Aside0 (hexaplaref04_Cut.j0 kq a0 x19_2 = some (r1, r2, r3)) ∧ Aside0 (kq ≤ k) ∧ Aside0 (Below w.heap.size w wc))
    case first =>
      have H := HC3.out
      clear HC3
      by_cases c4 : (a0.size : Int) = 0
      · rw [if_pos c4] at H
        have c4b0 : ((a0.size : Int) == 0) = true := beq_iff_eq.mpr c4
        have c4b1 : ((a0.size : Int) != 0) = false := bne_eq_false_iff_eq.mpr c4
        clear c4
        (first | rw [c4b0] | (simp only [i64_w, i32_w]; rw [c4b0]) | skip)
        have H' := Aside0.mk H
        clear H
        go_wp2
        repeat (go_quiet (fail); try go_wp2)
        go_meet
        case rel => exact ⟨_, (true), (by first | rfl | (simp; done) | (simp [*]; done)), H', ⟨by first | omega | exact Nat.le_refl _⟩, ⟨by repeat (first | (with_reducible first | exact HB.out | apply below_alloc | apply pw_below_drewN | apply below_drew1) | exact HB.out)⟩⟩
      · rw [if_neg c4] at H
        have c4b0 : ((a0.size : Int) == 0) = false := beq_eq_false_iff_ne.mpr c4
        have c4b1 : ((a0.size : Int) != 0) = true := bne_iff_ne.mpr c4
        (first | rw [c4b0] | (simp only [i64_w, i32_w]; rw [c4b0]) | skip)
        by_cases c5 : 0 < (a0.size : Int)
        · rw [if_pos c5] at H
          have c5b0 : decide (0 < (a0.size : Int)) = true := decide_eq_true c5
          have c5b1 : decide (0 < a0.size) = true := decide_eq_true (by omega)
          clear c5
          have H' := Aside0.mk H
          clear H
          have p6 : 0 ≤ (0 : Int) := (by omega)
          have q6 : 0 < a0.size := (by have : (0 : Int) < (a0.size : Int) := of_decide_eq_true (by first | (with_reducible assumption) | assumption); omega)
          have hx6 : ∀ h : 0 < a0.size, ((a0[0]'h).toNat : Int) = bt a0 0 := bt_at a0 0
          clear p6
          have qi6 : (0 < (a0.size : Int)) = True := eq_true (of_decide_eq_true (by first | (with_reducible assumption) | assumption))
          replace q6 := eq_true q6
          go_wp2
          repeat (go_quiet (fail); try go_wp2)
          go_meet
          case rel => exact ⟨_, (((bt a0 0) != 123)), (by first | rfl | (simp; done) | (simp [*]; done)), H', ⟨by first | omega | exact Nat.le_refl _⟩, ⟨by repeat (first | (with_reducible first | exact HB.out | apply below_alloc | apply pw_below_drewN | apply below_drew1) | exact HB.out)⟩⟩
        · rw [if_neg c5] at H
          exact absurd H (by simp)
    case rest =>
      clear HC3
      try clear c1
      try clear c2
      try clear c2b0
      try clear c2b1
      try clear p2
      try clear c4
      try clear c4b0
      try clear c4b1
      try clear c5
      try clear c5b0
      try clear c5b1
      try clear p6
      try clear q6
      try clear hx6
      try clear qi6
      try clear p6
      try clear q6
      obtain ⟨kq, x19_2, rfl, HA, HJ2, HB⟩ := hcut
      cases kq with
      | zero => exact absurd HA.out (by simp [hexaplaref04_Cut.j0])
      | succ kj2 =>
        have H := HA.out
        clear HA
        simp only [hexaplaref04_Cut.j0] at H
        by_cases c7 : x19_2 = true
        · subst c7
          have H1 : ((hexaplaref04_Local.f kj2 a0).bind fun t127 => (if t127 = true then (some ((⟨#[]⟩ : ByteArray), a0, true)) else (some ((⟨#[]⟩ : ByteArray), (⟨#[]⟩ : ByteArray), false)))) = some (r1, r2, r3) := by rw [if_pos rfl] at H; exact H
          clear H
          have H := H1
          clear H1
          replace H := Option.bind_eq_some_iff.mp H
          obtain ⟨t127, A80, H⟩ := H
          replace H : (if t127 = true then (some ((⟨#[]⟩ : ByteArray), a0, true)) else (some ((⟨#[]⟩ : ByteArray), (⟨#[]⟩ : ByteArray), false))) = some (r1, r2, r3) := H
          have A8 := Aside0.mk A80
          clear A80
          by_cases c9 : t127 = true
          · subst c9
            have H1 : (some ((⟨#[]⟩ : ByteArray), a0, true)) = some (r1, r2, r3) := by rw [if_pos rfl] at H; exact H
            clear H
            have H := H1
            clear H1
            simp only [Option.some.injEq, Prod.mk.injEq] at H
            obtain ⟨rfl, rfl, rfl⟩ := H
            go_wp2_with (first | (go_at_call 12; (with_reducible refine (hexaplaref04_Local.calls kj2 a0 true _ A8.out).mono ?_); rintro e w' ⟨rfl, ⟨nd, rfl⟩⟩; (try first | exact ⟨rfl, _, World.drewN_drewN _ _ _⟩ | exact ⟨rfl, _, Eq.trans (World.drewN_drewN _ _ _) (congrArg (World.drewN _) (Nat.add_assoc _ _ _))⟩)))
            repeat (go_quiet (first | (go_at_call 12; (with_reducible refine (hexaplaref04_Local.calls kj2 a0 true _ A8.out).mono ?_); rintro e w' ⟨rfl, ⟨nd, rfl⟩⟩; (try first | exact ⟨rfl, _, World.drewN_drewN _ _ _⟩ | exact ⟨rfl, _, Eq.trans (World.drewN_drewN _ _ _) (congrArg (World.drewN _) (Nat.add_assoc _ _ _))⟩))); try go_wp2_with (first | (go_at_call 12; (with_reducible refine (hexaplaref04_Local.calls kj2 a0 true _ A8.out).mono ?_); rintro e w' ⟨rfl, ⟨nd, rfl⟩⟩; (try first | exact ⟨rfl, _, World.drewN_drewN _ _ _⟩ | exact ⟨rfl, _, Eq.trans (World.drewN_drewN _ _ _) (congrArg (World.drewN _) (Nat.add_assoc _ _ _))⟩))))
            go_ret3
            exact ⟨by first | rfl | (simp [errW_none, errW_some] <;> rfl) | (simp [*, errW_none, errW_some] <;> rfl), by repeat (first | (with_reducible first | exact HB.out | apply below_alloc | apply pw_below_drewN | apply below_drew1) | exact HB.out)⟩
          · replace c9 := Bool.eq_false_iff.mpr c9
            subst c9
            have H1 : (some ((⟨#[]⟩ : ByteArray), (⟨#[]⟩ : ByteArray), false)) = some (r1, r2, r3) := by rw [if_neg (show ¬ (false = true) by decide)] at H; exact H
            clear H
            have H := H1
            clear H1
            simp only [Option.some.injEq, Prod.mk.injEq] at H
            obtain ⟨rfl, rfl, rfl⟩ := H
            go_wp2_with (first | (go_at_call 12; (with_reducible refine (hexaplaref04_Local.calls kj2 a0 false _ A8.out).mono ?_); rintro e w' ⟨rfl, ⟨nd, rfl⟩⟩; (try first | exact ⟨rfl, _, World.drewN_drewN _ _ _⟩ | exact ⟨rfl, _, Eq.trans (World.drewN_drewN _ _ _) (congrArg (World.drewN _) (Nat.add_assoc _ _ _))⟩)))
            repeat (go_quiet (first | (go_at_call 12; (with_reducible refine (hexaplaref04_Local.calls kj2 a0 false _ A8.out).mono ?_); rintro e w' ⟨rfl, ⟨nd, rfl⟩⟩; (try first | exact ⟨rfl, _, World.drewN_drewN _ _ _⟩ | exact ⟨rfl, _, Eq.trans (World.drewN_drewN _ _ _) (congrArg (World.drewN _) (Nat.add_assoc _ _ _))⟩))); try go_wp2_with (first | (go_at_call 12; (with_reducible refine (hexaplaref04_Local.calls kj2 a0 false _ A8.out).mono ?_); rintro e w' ⟨rfl, ⟨nd, rfl⟩⟩; (try first | exact ⟨rfl, _, World.drewN_drewN _ _ _⟩ | exact ⟨rfl, _, Eq.trans (World.drewN_drewN _ _ _) (congrArg (World.drewN _) (Nat.add_assoc _ _ _))⟩))))
            go_ret3
            exact ⟨by first | rfl | (simp [errW_none, errW_some] <;> rfl) | (simp [*, errW_none, errW_some] <;> rfl), by repeat (first | (with_reducible first | exact HB.out | apply below_alloc | apply pw_below_drewN | apply below_drew1) | exact HB.out)⟩
        · replace c7 := Bool.eq_false_iff.mpr c7
          subst c7
          have H1 : (hexaplaref04_Cut.l0 kj2 a0 1) = some (r1, r2, r3) := by rw [if_neg (show ¬ (false = true) by decide)] at H; exact H
          clear H
          have H := H1
          clear H1
          have H' := Aside0.mk H
          clear H
          go_wp2
          repeat (go_quiet (fail); try go_wp2)
          go_loopg [6] kj2 (fun kq v6 w' => ∃ (x6_2 : Int), v6 = .int .i64 x6_2 ∧ Aside0 (hexaplaref04_Cut.l0 kq a0 x6_2 = some (r1, r2, r3)) ∧ Aside0 (kq ≤ kj2) ∧ Aside0 (Below w.heap.size w w'))
          case atStart => exact ⟨(1), (by first | rfl | (simp; done) | (simp [*]; done)), H', ⟨Nat.le_refl _⟩, ⟨by repeat (first | (with_reducible first | exact HB.out | apply below_alloc | apply pw_below_drewN | apply below_drew1) | exact HB.out)⟩⟩
          case round =>
            clear H'
            try clear c1
            try clear c2
            try clear c2b0
            try clear c2b1
            try clear p2
            try clear c4
            try clear c4b0
            try clear c4b1
            try clear c5
            try clear c5b0
            try clear c5b1
            try clear p6
            try clear q6
            try clear hx6
            try clear qi6
            try clear c7
            try clear c9
            try clear p2
            try clear p6
            try clear q6
            obtain ⟨x6_2, rfl, HA, HK2, HB⟩ := hrel
            cases gk with
            | zero => exact absurd HA.out (by simp [hexaplaref04_Cut.l0])
            | succ k2 =>
              have H := HA.out
              clear HA
              simp only [hexaplaref04_Cut.l0] at H
              by_cases c10 : x6_2 < (a0.size : Int)
              · rw [if_pos c10] at H
                have c10b0 : decide (x6_2 < (a0.size : Int)) = true := decide_eq_true c10
                clear c10
                by_cases c11 : 0 ≤ x6_2
                · rw [if_pos c11] at H
                  have c11b0 : decide (0 ≤ x6_2) = true := decide_eq_true c11
                  clear c11
                  by_cases c13 : (bt a0 x6_2) = 125
                  · rw [if_pos c13] at H
                    have c13b0 : ((bt a0 x6_2) == 125) = true := beq_iff_eq.mpr c13
                    have c13b1 : ((bt a0 x6_2) != 125) = false := bne_eq_false_iff_eq.mpr c13
                    clear c13
                    by_cases c14 : 1 ≤ x6_2
                    · rw [if_pos c14] at H
                      have c14b0 := eq_true c14
                      have c14b1 : decide (1 ≤ x6_2) = true := decide_eq_true c14
                      clear c14
                      by_cases c15 : x6_2 ≤ (a0.size : Int)
                      · rw [if_pos c15] at H
                        have c15b0 := eq_true c15
                        have c15b1 : decide (x6_2 ≤ (a0.size : Int)) = true := decide_eq_true c15
                        clear c15
                        replace H := Option.bind_eq_some_iff.mp H
                        obtain ⟨t128, A160, H⟩ := H
                        replace H : (if 0 ≤ (wrap64 (x6_2 + 1)) then (if (wrap64 (x6_2 + 1)) ≤ (a0.size : Int) then ((hexaplaref04_Local.f k2 (a0.extract ((wrap64 (x6_2 + 1)) : Int).toNat a0.size)).bind fun t129 => (if t128 = true then (if t129 = true then (some (a0.extract 1 (x6_2 : Int).toNat, a0.extract ((wrap64 (x6_2 + 1)) : Int).toNat a0.size, true)) else (some ((⟨#[]⟩ : ByteArray), (⟨#[]⟩ : ByteArray), false))) else (some ((⟨#[]⟩ : ByteArray), (⟨#[]⟩ : ByteArray), false)))) else (none)) else (none)) = some (r1, r2, r3) := H
                        have A16 := Aside0.mk A160
                        clear A160
                        obtain ⟨ji17, hji17⟩ : ∃ j_ : Int, (wrap64 (x6_2 + 1)) = j_ := ⟨_, rfl⟩
                        replace H : (if 0 ≤ (ji17) then (if (ji17) ≤ (a0.size : Int) then ((hexaplaref04_Local.f k2 (a0.extract ((ji17) : Int).toNat a0.size)).bind fun t129 => (if t128 = true then (if t129 = true then (some (a0.extract 1 (x6_2 : Int).toNat, a0.extract ((ji17) : Int).toNat a0.size, true)) else (some ((⟨#[]⟩ : ByteArray), (⟨#[]⟩ : ByteArray), false))) else (some ((⟨#[]⟩ : ByteArray), (⟨#[]⟩ : ByteArray), false)))) else (none)) else (none)) = some (r1, r2, r3) := by first | (rw [hji17] at H; exact H) | (simp only [hji17] at H ⊢; exact H)
                        (try rw [hji17] at A16)
                        have hji17w : (IntKind.i64.wrap (x6_2 + 1)) = ji17 := (i64_w _).trans hji17
                        by_cases c18 : 0 ≤ (ji17)
                        · rw [if_pos c18] at H
                          have c18b0 := eq_true c18
                          have c18b1 : decide (0 ≤ (ji17)) = true := decide_eq_true c18
                          clear c18
                          by_cases c19 : (ji17) ≤ (a0.size : Int)
                          · rw [if_pos c19] at H
                            have c19b0 := eq_true c19
                            have c19b1 : decide ((ji17) ≤ (a0.size : Int)) = true := decide_eq_true c19
                            clear c19
                            replace H := Option.bind_eq_some_iff.mp H
                            obtain ⟨t129, A200, H⟩ := H
                            replace H : (if t128 = true then (if t129 = true then (some (a0.extract 1 (x6_2 : Int).toNat, a0.extract ((ji17) : Int).toNat a0.size, true)) else (some ((⟨#[]⟩ : ByteArray), (⟨#[]⟩ : ByteArray), false))) else (some ((⟨#[]⟩ : ByteArray), (⟨#[]⟩ : ByteArray), false))) = some (r1, r2, r3) := H
                            have A20 := Aside0.mk A200
                            clear A200
                            by_cases c21 : t128 = true
                            · subst c21
                              have H1 : (if t129 = true then (some (a0.extract 1 (x6_2 : Int).toNat, a0.extract ((ji17) : Int).toNat a0.size, true)) else (some ((⟨#[]⟩ : ByteArray), (⟨#[]⟩ : ByteArray), false))) = some (r1, r2, r3) := by rw [if_pos rfl] at H; exact H
                              clear H
                              have H := H1
                              clear H1
                              by_cases c22 : t129 = true
                              · subst c22
                                have H1 : (some (a0.extract 1 (x6_2 : Int).toNat, a0.extract ((ji17) : Int).toNat a0.size, true)) = some (r1, r2, r3) := by rw [if_pos rfl] at H; exact H
                                clear H
                                have H := H1
                                clear H1
                                have c23b0 := eq_true (of_decide_eq_true (by first | (with_reducible assumption) | assumption) : 1 ≤ x6_2)
                                have c24b0 := eq_true (of_decide_eq_true (by first | (with_reducible assumption) | assumption) : x6_2 ≤ (a0.size : Int))
                                have c25b0 := eq_true (of_decide_eq_true (by first | (with_reducible assumption) | assumption) : 0 ≤ (ji17))
                                have c26b0 := eq_true (of_decide_eq_true (by first | (with_reducible assumption) | assumption) : (ji17) ≤ (a0.size : Int))
                                simp only [Option.some.injEq, Prod.mk.injEq] at H
                                obtain ⟨rfl, rfl, rfl⟩ := H
                                have p12 : 0 ≤ (x6_2 : Int) := of_decide_eq_true (by first | (with_reducible assumption) | assumption)
                                have q12 : x6_2 < (a0.size : Int) := of_decide_eq_true (by first | (with_reducible assumption) | assumption)
                                have hx12 := bt_at a0 x6_2
                                replace p12 := eq_true p12
                                replace q12 := eq_true q12
                                go_wp2_with (first | (go_at_call 14; (with_reducible refine (hexaplaref04_Space.calls k2 (a0.extract 1 (x6_2 : Int).toNat) true _ A16.out).mono ?_); rintro e w27 ⟨rfl, hb⟩; have n0_ := Aside0.mk (below_step (by repeat (first | (with_reducible first | exact HB.out | apply below_alloc | apply pw_below_drewN | apply below_drew1) | exact HB.out)) hb); clear HB; have HB := n0_; clear n0_; (try clear hb); (try clear hb2); (try clear hk); (try clear hi)) | (go_at_call 12; (with_reducible refine (hexaplaref04_Local.calls k2 (a0.extract ((ji17) : Int).toNat a0.size) true _ A20.out).mono ?_); rintro e w' ⟨rfl, ⟨nd, rfl⟩⟩; (try first | exact ⟨rfl, _, World.drewN_drewN _ _ _⟩ | exact ⟨rfl, _, Eq.trans (World.drewN_drewN _ _ _) (congrArg (World.drewN _) (Nat.add_assoc _ _ _))⟩)))
                                repeat (go_quiet (first | (go_at_call 14; (with_reducible refine (hexaplaref04_Space.calls k2 (a0.extract 1 (x6_2 : Int).toNat) true _ A16.out).mono ?_); rintro e w27 ⟨rfl, hb⟩; have n0_ := Aside0.mk (below_step (by repeat (first | (with_reducible first | exact HB.out | apply below_alloc | apply pw_below_drewN | apply below_drew1) | exact HB.out)) hb); clear HB; have HB := n0_; clear n0_; (try clear hb); (try clear hb2); (try clear hk); (try clear hi)) | (go_at_call 12; (with_reducible refine (hexaplaref04_Local.calls k2 (a0.extract ((ji17) : Int).toNat a0.size) true _ A20.out).mono ?_); rintro e w' ⟨rfl, ⟨nd, rfl⟩⟩; (try first | exact ⟨rfl, _, World.drewN_drewN _ _ _⟩ | exact ⟨rfl, _, Eq.trans (World.drewN_drewN _ _ _) (congrArg (World.drewN _) (Nat.add_assoc _ _ _))⟩))); try go_wp2_with (first | (go_at_call 14; (with_reducible refine (hexaplaref04_Space.calls k2 (a0.extract 1 (x6_2 : Int).toNat) true _ A16.out).mono ?_); rintro e w27 ⟨rfl, hb⟩; have n0_ := Aside0.mk (below_step (by repeat (first | (with_reducible first | exact HB.out | apply below_alloc | apply pw_below_drewN | apply below_drew1) | exact HB.out)) hb); clear HB; have HB := n0_; clear n0_; (try clear hb); (try clear hb2); (try clear hk); (try clear hi)) | (go_at_call 12; (with_reducible refine (hexaplaref04_Local.calls k2 (a0.extract ((ji17) : Int).toNat a0.size) true _ A20.out).mono ?_); rintro e w' ⟨rfl, ⟨nd, rfl⟩⟩; (try first | exact ⟨rfl, _, World.drewN_drewN _ _ _⟩ | exact ⟨rfl, _, Eq.trans (World.drewN_drewN _ _ _) (congrArg (World.drewN _) (Nat.add_assoc _ _ _))⟩))))
                                go_ret3
                                exact ⟨by first | rfl | (simp [errW_none, errW_some] <;> rfl) | (simp only [← hji17]; first | rfl | (simp [errW_none, errW_some] <;> rfl)) | (simp [*, errW_none, errW_some] <;> rfl), by repeat (first | (with_reducible first | exact HB.out | apply below_alloc | apply pw_below_drewN | apply below_drew1) | exact HB.out)⟩
                              · replace c22 := Bool.eq_false_iff.mpr c22
                                subst c22
                                have H1 : (some ((⟨#[]⟩ : ByteArray), (⟨#[]⟩ : ByteArray), false)) = some (r1, r2, r3) := by rw [if_neg (show ¬ (false = true) by decide)] at H; exact H
                                clear H
                                have H := H1
                                clear H1
                                simp only [Option.some.injEq, Prod.mk.injEq] at H
                                obtain ⟨rfl, rfl, rfl⟩ := H
                                have p12 : 0 ≤ (x6_2 : Int) := of_decide_eq_true (by first | (with_reducible assumption) | assumption)
                                have q12 : x6_2 < (a0.size : Int) := of_decide_eq_true (by first | (with_reducible assumption) | assumption)
                                have hx12 := bt_at a0 x6_2
                                replace p12 := eq_true p12
                                replace q12 := eq_true q12
                                go_wp2_with (first | (go_at_call 14; (with_reducible refine (hexaplaref04_Space.calls k2 (a0.extract 1 (x6_2 : Int).toNat) true _ A16.out).mono ?_); rintro e w28 ⟨rfl, hb⟩; have n0_ := Aside0.mk (below_step (by repeat (first | (with_reducible first | exact HB.out | apply below_alloc | apply pw_below_drewN | apply below_drew1) | exact HB.out)) hb); clear HB; have HB := n0_; clear n0_; (try clear hb); (try clear hb2); (try clear hk); (try clear hi)) | (go_at_call 12; (with_reducible refine (hexaplaref04_Local.calls k2 (a0.extract ((ji17) : Int).toNat a0.size) false _ A20.out).mono ?_); rintro e w' ⟨rfl, ⟨nd, rfl⟩⟩; (try first | exact ⟨rfl, _, World.drewN_drewN _ _ _⟩ | exact ⟨rfl, _, Eq.trans (World.drewN_drewN _ _ _) (congrArg (World.drewN _) (Nat.add_assoc _ _ _))⟩)))
                                repeat (go_quiet (first | (go_at_call 14; (with_reducible refine (hexaplaref04_Space.calls k2 (a0.extract 1 (x6_2 : Int).toNat) true _ A16.out).mono ?_); rintro e w28 ⟨rfl, hb⟩; have n0_ := Aside0.mk (below_step (by repeat (first | (with_reducible first | exact HB.out | apply below_alloc | apply pw_below_drewN | apply below_drew1) | exact HB.out)) hb); clear HB; have HB := n0_; clear n0_; (try clear hb); (try clear hb2); (try clear hk); (try clear hi)) | (go_at_call 12; (with_reducible refine (hexaplaref04_Local.calls k2 (a0.extract ((ji17) : Int).toNat a0.size) false _ A20.out).mono ?_); rintro e w' ⟨rfl, ⟨nd, rfl⟩⟩; (try first | exact ⟨rfl, _, World.drewN_drewN _ _ _⟩ | exact ⟨rfl, _, Eq.trans (World.drewN_drewN _ _ _) (congrArg (World.drewN _) (Nat.add_assoc _ _ _))⟩))); try go_wp2_with (first | (go_at_call 14; (with_reducible refine (hexaplaref04_Space.calls k2 (a0.extract 1 (x6_2 : Int).toNat) true _ A16.out).mono ?_); rintro e w28 ⟨rfl, hb⟩; have n0_ := Aside0.mk (below_step (by repeat (first | (with_reducible first | exact HB.out | apply below_alloc | apply pw_below_drewN | apply below_drew1) | exact HB.out)) hb); clear HB; have HB := n0_; clear n0_; (try clear hb); (try clear hb2); (try clear hk); (try clear hi)) | (go_at_call 12; (with_reducible refine (hexaplaref04_Local.calls k2 (a0.extract ((ji17) : Int).toNat a0.size) false _ A20.out).mono ?_); rintro e w' ⟨rfl, ⟨nd, rfl⟩⟩; (try first | exact ⟨rfl, _, World.drewN_drewN _ _ _⟩ | exact ⟨rfl, _, Eq.trans (World.drewN_drewN _ _ _) (congrArg (World.drewN _) (Nat.add_assoc _ _ _))⟩))))
                                go_ret3
                                exact ⟨by first | rfl | (simp [errW_none, errW_some] <;> rfl) | (simp only [← hji17]; first | rfl | (simp [errW_none, errW_some] <;> rfl)) | (simp [*, errW_none, errW_some] <;> rfl), by repeat (first | (with_reducible first | exact HB.out | apply below_alloc | apply pw_below_drewN | apply below_drew1) | exact HB.out)⟩
                            · replace c21 := Bool.eq_false_iff.mpr c21
                              subst c21
                              have H1 : (some ((⟨#[]⟩ : ByteArray), (⟨#[]⟩ : ByteArray), false)) = some (r1, r2, r3) := by rw [if_neg (show ¬ (false = true) by decide)] at H; exact H
                              clear H
                              have H := H1
                              clear H1
                              simp only [Option.some.injEq, Prod.mk.injEq] at H
                              obtain ⟨rfl, rfl, rfl⟩ := H
                              have p12 : 0 ≤ (x6_2 : Int) := of_decide_eq_true (by first | (with_reducible assumption) | assumption)
                              have q12 : x6_2 < (a0.size : Int) := of_decide_eq_true (by first | (with_reducible assumption) | assumption)
                              have hx12 := bt_at a0 x6_2
                              replace p12 := eq_true p12
                              replace q12 := eq_true q12
                              go_wp2_with (first | (go_at_call 14; (with_reducible refine (hexaplaref04_Space.calls k2 (a0.extract 1 (x6_2 : Int).toNat) false _ A16.out).mono ?_); rintro e w29 ⟨rfl, hb⟩; have n0_ := Aside0.mk (below_step (by repeat (first | (with_reducible first | exact HB.out | apply below_alloc | apply pw_below_drewN | apply below_drew1) | exact HB.out)) hb); clear HB; have HB := n0_; clear n0_; (try clear hb); (try clear hb2); (try clear hk); (try clear hi)) | (go_at_call 12; (with_reducible refine (hexaplaref04_Local.calls k2 (a0.extract ((ji17) : Int).toNat a0.size) t129 _ A20.out).mono ?_); rintro e w' ⟨rfl, ⟨nd, rfl⟩⟩; (try first | exact ⟨rfl, _, World.drewN_drewN _ _ _⟩ | exact ⟨rfl, _, Eq.trans (World.drewN_drewN _ _ _) (congrArg (World.drewN _) (Nat.add_assoc _ _ _))⟩)))
                              repeat (go_quiet (first | (go_at_call 14; (with_reducible refine (hexaplaref04_Space.calls k2 (a0.extract 1 (x6_2 : Int).toNat) false _ A16.out).mono ?_); rintro e w29 ⟨rfl, hb⟩; have n0_ := Aside0.mk (below_step (by repeat (first | (with_reducible first | exact HB.out | apply below_alloc | apply pw_below_drewN | apply below_drew1) | exact HB.out)) hb); clear HB; have HB := n0_; clear n0_; (try clear hb); (try clear hb2); (try clear hk); (try clear hi)) | (go_at_call 12; (with_reducible refine (hexaplaref04_Local.calls k2 (a0.extract ((ji17) : Int).toNat a0.size) t129 _ A20.out).mono ?_); rintro e w' ⟨rfl, ⟨nd, rfl⟩⟩; (try first | exact ⟨rfl, _, World.drewN_drewN _ _ _⟩ | exact ⟨rfl, _, Eq.trans (World.drewN_drewN _ _ _) (congrArg (World.drewN _) (Nat.add_assoc _ _ _))⟩))); try go_wp2_with (first | (go_at_call 14; (with_reducible refine (hexaplaref04_Space.calls k2 (a0.extract 1 (x6_2 : Int).toNat) false _ A16.out).mono ?_); rintro e w29 ⟨rfl, hb⟩; have n0_ := Aside0.mk (below_step (by repeat (first | (with_reducible first | exact HB.out | apply below_alloc | apply pw_below_drewN | apply below_drew1) | exact HB.out)) hb); clear HB; have HB := n0_; clear n0_; (try clear hb); (try clear hb2); (try clear hk); (try clear hi)) | (go_at_call 12; (with_reducible refine (hexaplaref04_Local.calls k2 (a0.extract ((ji17) : Int).toNat a0.size) t129 _ A20.out).mono ?_); rintro e w' ⟨rfl, ⟨nd, rfl⟩⟩; (try first | exact ⟨rfl, _, World.drewN_drewN _ _ _⟩ | exact ⟨rfl, _, Eq.trans (World.drewN_drewN _ _ _) (congrArg (World.drewN _) (Nat.add_assoc _ _ _))⟩))))
                              go_ret3
                              exact ⟨by first | rfl | (simp [errW_none, errW_some] <;> rfl) | (simp only [← hji17]; first | rfl | (simp [errW_none, errW_some] <;> rfl)) | (simp [*, errW_none, errW_some] <;> rfl), by repeat (first | (with_reducible first | exact HB.out | apply below_alloc | apply pw_below_drewN | apply below_drew1) | exact HB.out)⟩
                          · rw [if_neg c19] at H
                            exact absurd H (by simp)
                        · rw [if_neg c18] at H
                          exact absurd H (by simp)
                      · rw [if_neg c15] at H
                        exact absurd H (by simp)
                    · rw [if_neg c14] at H
                      exact absurd H (by simp)
                  · rw [if_neg c13] at H
                    have c13b0 : ((bt a0 x6_2) == 125) = false := beq_eq_false_iff_ne.mpr c13
                    have c13b1 : ((bt a0 x6_2) != 125) = true := bne_iff_ne.mpr c13
                    have H' := Aside0.mk H
                    clear H
                    have p12 : 0 ≤ (x6_2 : Int) := of_decide_eq_true (by first | (with_reducible assumption) | assumption)
                    have q12 : x6_2 < (a0.size : Int) := of_decide_eq_true (by first | (with_reducible assumption) | assumption)
                    have hx12 := bt_at a0 x6_2
                    replace p12 := eq_true p12
                    replace q12 := eq_true q12
                    go_wp2
                    repeat (go_quiet (fail); try go_wp2)
                    go_roundg k2
                    case measure => have := HJ2.out; have := HK2.out; omega
                    case rel => exact ⟨(wrap64 (x6_2 + 1)), (by first | rfl | (simp; done) | (simp [*]; done)), H', ⟨by have := HJ2.out; have := HK2.out; omega⟩, ⟨by repeat (first | (with_reducible first | exact HB.out | apply below_alloc | apply pw_below_drewN | apply below_drew1) | exact HB.out)⟩⟩
                · rw [if_neg c11] at H
                  exact absurd H (by simp)
              · rw [if_neg c10] at H
                have c10b0 : decide (x6_2 < (a0.size : Int)) = false := decide_eq_false c10
                clear c10
                simp only [Option.some.injEq, Prod.mk.injEq] at H
                obtain ⟨rfl, rfl, rfl⟩ := H
                go_wp2
                repeat (go_quiet (fail); try go_wp2)
                go_ret3
                exact ⟨by first | rfl | (simp [errW_none, errW_some] <;> rfl) | (simp [*, errW_none, errW_some] <;> rfl), by repeat (first | (with_reducible first | exact HB.out | apply below_alloc | apply pw_below_drewN | apply below_drew1) | exact HB.out)⟩

end Go.Proofs.YticlppojbbocbaaDoor.PNamesKinds
