-- PRINTED BY print.sh 35421559b90ae4d0a3588c463048766b98c2df88dd9212a6774a882060cdf62d: not written by this session
import Derived.Test.YtohkioijdokegaaDoorPEntitiesPlaysx0
import Derived.Test.YtohkioijdokegaaDoorPEntitiesPlaysx1
import Derived.Test.YtohkioijdokegaaDoorPEntitiesPlaysx2
import Derived.Test.YtohkioijdokegaaDoorPEntitiesPlaysx4
namespace Go.Proofs.YtohkioijdokegaaDoor.PEntitiesPlays
open Go.RowKit Go.Proofs.YtohkioijdokegaaDoorW.PrintWords Go.Proofs.YtohkioijdokegaaDoorW.PrintLast Go.Proofs.YtohkioijdokegaaDoorW.PrintMore
attribute [local go_sem] max2_int min2_int max_two min_two max_three min_three max_four min_four   -- for this text's walks alone
set_option linter.unusedVariables false
set_option linter.unusedSimpArgs false

/-! ### hexaplaref01_Runes: function 35 -/
def hexaplaref01_Runes.l0 : Nat → ByteArray → List Int → Option (List Int × Bool)
  | 0, _, _ => none
  | k + 1, x0, x4 => if (x0.size : Int) > 0 then ((hexaplaref01_One.f k x0).bind fun bt112 => (if bt112.2 = 0 then (some (([] : List Int), false)) else (if x4.length < 17592186044416 then (if 0 ≤ bt112.2 then (if bt112.2 ≤ (x0.size : Int) then (hexaplaref01_Runes.l0 k (x0.extract (bt112.2 : Int).toNat x0.size) (x4 ++ [bt112.1])) else (none)) else (none)) else (none)))) else (some (x4, true))
def hexaplaref01_Runes.f (k : Nat) (a0 : ByteArray) : Option (List Int × Bool) := hexaplaref01_Runes.l0 k a0 ([] : List Int)
theorem hexaplaref01_Runes.mono_l : ∀ k, (∀ y0 y1, LeO (hexaplaref01_Runes.l0 k y0 y1) (hexaplaref01_Runes.l0 (k + 1) y0 y1))
  | 0 => fun _ _ r h => by simp [hexaplaref01_Runes.l0] at h
  | k + 1 => by
    have ih0 := hexaplaref01_Runes.mono_l k
    · intro y0 y1
      unfold hexaplaref01_Runes.l0
      repeat' first
      | (with_reducible exact ih0 _ _)
      | (with_reducible exact hexaplaref01_One.mono _ _)
      | (with_reducible exact LeO.refl _)
      | (with_reducible exact LeO.none _)
      | (with_reducible refine LeO.ite ?_ ?_)
      | (with_reducible refine LeO.bind ?_ (fun _ => ?_))
      | exact ih0 _ _
      | exact hexaplaref01_One.mono _ _
      | exact LeO.none _
      | refine LeO.ite ?_ ?_
      | refine LeO.bind ?_ (fun _ => ?_)
theorem hexaplaref01_Runes.mono : ∀ a0 k, LeO (hexaplaref01_Runes.f k a0) (hexaplaref01_Runes.f (k + 1) a0) := by
  intro a0 k
  have ih0 := hexaplaref01_Runes.mono_l k
  unfold hexaplaref01_Runes.f
  repeat' first
      | (with_reducible exact ih0 _ _)
      | (with_reducible exact hexaplaref01_One.mono _ _)
      | (with_reducible exact LeO.refl _)
      | (with_reducible exact LeO.none _)
      | (with_reducible refine LeO.ite ?_ ?_)
      | (with_reducible refine LeO.bind ?_ (fun _ => ?_))
      | exact ih0 _ _
      | exact hexaplaref01_One.mono _ _
      | exact LeO.none _
      | refine LeO.ite ?_ ?_
      | refine LeO.bind ?_ (fun _ => ?_)
set_option maxHeartbeats 8000000 in
set_option maxRecDepth 100000 in
theorem hexaplaref01_Runes.calls (k : Nat) (a0 : ByteArray) (r1 : List Int) (r2 : Bool) (w : World) (h : hexaplaref01_Runes.f k a0 = some (r1, r2)) :
    Calls Tryd.prog 35 #[.string a0] w fun e w' => ∃ v0_ : Value, e = .returned (.tuple #[v0_, .bool r2]) ∧ Kd.R (Kd.int .i64) 3 w' w.heap.size (fun _ => True) v0_ r1 ∧ Below w.heap.size w w' := by
  have HB := Aside0.mk (Below.refl w.heap.size w)
  have H : (hexaplaref01_Runes.l0 k a0 ([] : List Int)) = some (r1, r2) := h
  clear h
  have H' := Aside0.mk H
  clear H
  go_enter Tryd.func35, Tryd.ntmps35
  go_wp2
  go_loopg [0, 4] k (fun kq v0 v4 w' => ∃ (x0_1 : ByteArray) (x4_1 : List Int), v0 = .string x0_1 ∧ Aside0 (hexaplaref01_Runes.l0 kq x0_1 x4_1 = some (r1, r2)) ∧ Aside0 (kq ≤ k) ∧ Aside0 (Kd.R (Kd.int .i64) 3 w' w.heap.size (fun _ => True) v4 x4_1) ∧ Aside0 (Below w.heap.size w w'))
  case atStart => exact ⟨(a0), (([] : List Int)), (by first | rfl | (simp; done) | (simp [*]; done)), H', ⟨Nat.le_refl _⟩, ⟨by first | exact Kd.R_nil _ _ _ _ _ | exact Kd.N_nil _ _ _ _ _ | exact Kd.V_nil _ _ _ _ _ | exact Kd.Q_nil _ _ _ _ _ | exact Kd.S_nil _ _ _ _ _⟩, ⟨by repeat (first | (with_reducible first | exact HB.out | apply below_alloc | apply pw_below_drewN | apply below_drew1) | exact HB.out)⟩⟩
  case round =>
    clear H'
    obtain ⟨x0_1, x4_1, rfl, HA, HK1, HO_4, HB⟩ := hrel
    cases gk with
    | zero => exact absurd HA.out (by simp [hexaplaref01_Runes.l0])
    | succ k1 =>
      have H := HA.out
      clear HA
      simp only [hexaplaref01_Runes.l0] at H
      by_cases c2 : (x0_1.size : Int) > 0
      · rw [if_pos c2] at H
        have c2b0 : decide (0 < (x0_1.size : Int)) = true := decide_eq_true c2
        have c2b1 : decide (0 < x0_1.size) = true := decide_eq_true (by omega)
        clear c2
        replace H := Option.bind_eq_some_iff.mp H
        obtain ⟨⟨t112, t113⟩, A30, H⟩ := H
        replace H : (if t113 = 0 then (some (([] : List Int), false)) else (if x4_1.length < 17592186044416 then (if 0 ≤ t113 then (if t113 ≤ (x0_1.size : Int) then (hexaplaref01_Runes.l0 k1 (x0_1.extract (t113 : Int).toNat x0_1.size) (x4_1 ++ [t112])) else (none)) else (none)) else (none))) = some (r1, r2) := H
        have A3 := Aside0.mk A30
        clear A30
        by_cases c4 : t113 = 0
        · rw [if_pos c4] at H
          have c4b0 : (t113 == 0) = true := beq_iff_eq.mpr c4
          have c4b1 : (t113 != 0) = false := bne_eq_false_iff_eq.mpr c4
          clear c4
          simp only [Option.some.injEq, Prod.mk.injEq] at H
          obtain ⟨rfl, rfl⟩ := H
          go_wp2_with (first | ((with_reducible refine gate_callee (f := 39) rfl ?_); refine goesL_ (some 12) rfl rfl Tryd.func39 (by kernel_rfl) rfl #[.string x0_1] rfl (by (try simp only [List.map_toArray, List.map_cons, List.map_nil]); first | done | rfl | (simp only [List.length_drop, List.length_take]; rfl)) ?_; (with_reducible refine (hexaplaref01_One.calls k1 x0_1 t112 t113 _ A3.out).mono ?_); rintro e w' ⟨rfl, ⟨nd, rfl⟩⟩; refine ⟨_, rfl, ?_⟩))
          go_ret2
          exact ⟨_, by first | rfl | (simp [errW_none, errW_some] <;> rfl) | (simp [*, errW_none, errW_some] <;> rfl), by first | exact Kd.R_nil _ _ _ _ _ | exact Kd.N_nil _ _ _ _ _ | exact Kd.V_nil _ _ _ _ _ | exact Kd.Q_nil _ _ _ _ _ | exact Kd.S_nil _ _ _ _ _, by repeat (first | (with_reducible first | exact HB.out | apply below_alloc | apply pw_below_drewN | apply below_drew1) | exact HB.out)⟩
        · rw [if_neg c4] at H
          have c4b0 : (t113 == 0) = false := beq_eq_false_iff_ne.mpr c4
          have c4b1 : (t113 != 0) = true := bne_iff_ne.mpr c4
          by_cases c5 : x4_1.length < 17592186044416
          · rw [if_pos c5] at H
            have LMc5 := Aside0.mk c5
            clear c5
            obtain ⟨y114, hy114⟩ : ∃ y_ : List Int, y_ = (x4_1 ++ [t112]) := ⟨_, rfl⟩
            replace H : (if 0 ≤ t113 then (if t113 ≤ (x0_1.size : Int) then (hexaplaref01_Runes.l0 k1 (x0_1.extract (t113 : Int).toNat x0_1.size) y114) else (none)) else (none)) = some (r1, r2) := by first | (rw [hy114]; with_reducible exact H) | (have H2_ := (Option.bind_some _ _).symm.trans H; rw [hy114]; with_reducible exact H2_) | (have H2_ := (Option.bind_some _ _).symm.trans H; with_reducible exact H2_) | with_reducible exact H | (rw [hy114]; exact H) | exact H
            have Ny114 := Aside0.mk hy114
            clear hy114
            by_cases c6 : 0 ≤ t113
            · rw [if_pos c6] at H
              have c6b0 := eq_true c6
              have c6b1 : decide (0 ≤ t113) = true := decide_eq_true c6
              clear c6
              by_cases c7 : t113 ≤ (x0_1.size : Int)
              · rw [if_pos c7] at H
                have c7b0 := eq_true c7
                have c7b1 : decide (t113 ≤ (x0_1.size : Int)) = true := decide_eq_true c7
                clear c7
                have H' := Aside0.mk H
                clear H
                go_wp2_with (first | ((with_reducible refine gate_callee (f := 39) rfl ?_); refine goesL_ (some 12) rfl rfl Tryd.func39 (by kernel_rfl) rfl #[.string x0_1] rfl (by (try simp only [List.map_toArray, List.map_cons, List.map_nil]); first | done | rfl | (simp only [List.length_drop, List.length_take]; rfl)) ?_; (with_reducible refine (hexaplaref01_One.calls k1 x0_1 t112 t113 _ A3.out).mono ?_); rintro e w' ⟨rfl, ⟨nd, rfl⟩⟩; refine ⟨_, rfl, ?_⟩) | ((with_reducible refine gate_builtin (b := .append) (xs := #[.tmp 17, .tmp 19]) rfl ?_); at_builtin; refine Kd.R_append (Kd.int .i64) (w0 := w) w.heap.size rfl (.tmp 17) (.tmp 19) 63 3 (.int .i64 0) 8 rfl Tryd.underlying63 info3 rfl (by decide) (by omega) u4 x4_1 t112 [.int .i64 t112] (fun _ => True) (fun _ => False) rfl rfl ?aP (fun _ hk => hk.elim) ?aF ?aO ?aB ?aS ?aL ?_; (case aP => exact rfl); (case aB => exact (by repeat (first | (with_reducible first | exact HB.out | apply below_alloc | apply pw_below_drewN | apply below_drew1) | exact HB.out))); (case aF => exact (fun _ _ => trivial)); (case aO => exact (by (with_reducible repeat (first | apply Kd.R_alloc | apply Kd.R_drewN | apply Kd.R_drew)); exact HO_4.out)); (case aS => exact (below_size (by repeat (first | (with_reducible first | exact HB.out | apply below_alloc | apply pw_below_drewN | apply below_drew1) | exact HB.out)))); (case aL => have := LMc5.out; omega); intro v115 w8 ho hb hg hat; rw [← Ny114.out] at ho; have n0_ := Aside0.mk (hb); have n1_ := Aside0.mk (ho); clear HB; clear HO_4; have HB := n0_; have HO116 := n1_; clear n0_ n1_; clear ho hb hg hat))
                go_roundg k1
                case measure => have := HK1.out; omega
                case rel => exact ⟨(x0_1.extract (t113 : Int).toNat x0_1.size), (y114), (by first | rfl | (simp; done) | (simp [*]; done)), H', ⟨by have := HK1.out; omega⟩, ⟨by (with_reducible repeat (first | apply Kd.R_alloc | apply Kd.R_drewN | apply Kd.R_drew)); exact HO116.out⟩, ⟨by repeat (first | (with_reducible first | exact HB.out | apply below_alloc | apply pw_below_drewN | apply below_drew1) | exact HB.out)⟩⟩
              · rw [if_neg c7] at H
                exact absurd H (by simp)
            · rw [if_neg c6] at H
              exact absurd H (by simp)
          · rw [if_neg c5] at H
            exact absurd H (by simp)
      · rw [if_neg c2] at H
        have c2b0 : decide (0 < (x0_1.size : Int)) = false := decide_eq_false c2
        have c2b1 : decide (0 < x0_1.size) = false := decide_eq_false (by omega)
        clear c2
        simp only [Option.some.injEq, Prod.mk.injEq] at H
        obtain ⟨rfl, rfl⟩ := H
        go_wp2
        go_ret2
        exact ⟨_, by first | rfl | (simp [errW_none, errW_some] <;> rfl) | (simp [*, errW_none, errW_some] <;> rfl), by (with_reducible repeat (first | apply Kd.R_alloc | apply Kd.R_drewN | apply Kd.R_drew)); exact HO_4.out, by repeat (first | (with_reducible first | exact HB.out | apply below_alloc | apply pw_below_drewN | apply below_drew1) | exact HB.out)⟩

/-! ### hexaplaref01_Valid: function 28 -/
def hexaplaref01_Valid.f (k : Nat) (a0 : ByteArray) : Option (Bool) := (hexaplaref01_Runes.f k a0).bind fun bt117 => (some bt117.2)
theorem hexaplaref01_Valid.mono : ∀ a0 k, LeO (hexaplaref01_Valid.f k a0) (hexaplaref01_Valid.f (k + 1) a0) := by
  intro a0 k
  unfold hexaplaref01_Valid.f
  repeat' first
      | (with_reducible exact hexaplaref01_Runes.mono _ _)
      | (with_reducible exact LeO.refl _)
      | (with_reducible exact LeO.none _)
      | (with_reducible refine LeO.ite ?_ ?_)
      | (with_reducible refine LeO.bind ?_ (fun _ => ?_))
      | exact hexaplaref01_Runes.mono _ _
      | exact LeO.none _
      | refine LeO.ite ?_ ?_
      | refine LeO.bind ?_ (fun _ => ?_)
set_option maxHeartbeats 8000000 in
set_option maxRecDepth 100000 in
theorem hexaplaref01_Valid.calls (k : Nat) (a0 : ByteArray) (r : Bool) (w : World) (h : hexaplaref01_Valid.f k a0 = some r) :
    Calls Tryd.prog 28 #[.string a0] w fun e w' => e = .returned (.bool r) ∧ Below w.heap.size w w' := by
  have HB := Aside0.mk (Below.refl w.heap.size w)
  have H : ((hexaplaref01_Runes.f k a0).bind fun bt117 => (some bt117.2)) = some r := h
  clear h
  replace H := Option.bind_eq_some_iff.mp H
  obtain ⟨⟨t117, t118⟩, A20, H⟩ := H
  replace H : (some t118) = some r := H
  have A2 := Aside0.mk A20
  clear A20
  obtain rfl := Option.some.inj H
  go_enter Tryd.func28, Tryd.ntmps28
  go_wp2_with (first | ((with_reducible refine gate_callee (f := 35) rfl ?_); refine goesL_ (some 7) rfl rfl Tryd.func35 (by kernel_rfl) rfl #[.string a0] rfl (by (try simp only [List.map_toArray, List.map_cons, List.map_nil]); first | done | rfl | (simp only [List.length_drop, List.length_take]; rfl)) ?_; (with_reducible refine (hexaplaref01_Runes.calls k a0 t117 t118 _ A2.out).mono ?_); rintro e w3 ⟨v119, rfl, ho0, hb⟩; refine ⟨_, rfl, ?_⟩; have n0_ := Aside0.mk (Kd.R_lower ho0 (below_size (by repeat (first | (with_reducible first | exact HB.out | apply below_alloc | apply pw_below_drewN | apply below_drew1) | exact HB.out)))); have n1_ := Aside0.mk (below_step (by repeat (first | (with_reducible first | exact HB.out | apply below_alloc | apply pw_below_drewN | apply below_drew1) | exact HB.out)) hb); clear HB; have HO120 := n0_; have HB := n1_; clear n0_ n1_; (try clear hb); (try clear hb2); (try clear hk); (try clear hi); (try clear ho0)))
  go_ret
  exact ⟨by first | rfl | (simp [errW_none, errW_some] <;> rfl) | (simp [*, errW_none, errW_some] <;> rfl), by repeat (first | (with_reducible first | exact HB.out | apply below_alloc | apply pw_below_drewN | apply below_drew1) | exact HB.out)⟩

/-! ### hexaplaref13_four: function 29 -/
def hexaplaref13_four.f (a0 : ByteArray) : Option (ByteArray × Bool) := if a0.toList = ([108, 116] : List UInt8) then (some ((⟨#[60]⟩ : ByteArray), true)) else (if a0.toList = ([103, 116] : List UInt8) then (some ((⟨#[62]⟩ : ByteArray), true)) else (if a0.toList = ([97, 109, 112] : List UInt8) then (some ((⟨#[38]⟩ : ByteArray), true)) else (if a0.toList = ([113, 117, 111, 116] : List UInt8) then (some (strOfNums (([34] : List Int)), true)) else (some ((⟨#[]⟩ : ByteArray), false)))))
set_option maxHeartbeats 8000000 in
set_option maxRecDepth 100000 in
theorem hexaplaref13_four.calls (a0 : ByteArray) (r1 : ByteArray) (r2 : Bool) (w : World) (h : hexaplaref13_four.f a0 = some (r1, r2)) :
    Calls Tryd.prog 29 #[.string a0] w fun e w' => e = .returned (.tuple #[.string r1, .bool r2]) ∧ Below w.heap.size w w' := by
  have HB := Aside0.mk (Below.refl w.heap.size w)
  have H : (if a0.toList = ([108, 116] : List UInt8) then (some ((⟨#[60]⟩ : ByteArray), true)) else (if a0.toList = ([103, 116] : List UInt8) then (some ((⟨#[62]⟩ : ByteArray), true)) else (if a0.toList = ([97, 109, 112] : List UInt8) then (some ((⟨#[38]⟩ : ByteArray), true)) else (if a0.toList = ([113, 117, 111, 116] : List UInt8) then (some (strOfNums (([34] : List Int)), true)) else (some ((⟨#[]⟩ : ByteArray), false)))))) = some (r1, r2) := h
  clear h
  by_cases c2 : a0.toList = ([108, 116] : List UInt8)
  · rw [if_pos c2] at H
    have c2b0 : (a0.toList == ([108, 116] : List UInt8)) = true := beq_iff_eq.mpr c2
    have c2b1 : (a0.toList != ([108, 116] : List UInt8)) = false := bne_eq_false_iff_eq.mpr c2
    clear c2
    simp only [Option.some.injEq, Prod.mk.injEq] at H
    obtain ⟨rfl, rfl⟩ := H
    go_enter Tryd.func29, Tryd.ntmps29
    go_wp2
    go_ret2
    exact ⟨by first | rfl | (simp [errW_none, errW_some] <;> rfl) | (simp [*, errW_none, errW_some] <;> rfl), by repeat (first | (with_reducible first | exact HB.out | apply below_alloc | apply pw_below_drewN | apply below_drew1) | exact HB.out)⟩
  · rw [if_neg c2] at H
    have c2b0 : (a0.toList == ([108, 116] : List UInt8)) = false := beq_eq_false_iff_ne.mpr c2
    have c2b1 : (a0.toList != ([108, 116] : List UInt8)) = true := bne_iff_ne.mpr c2
    by_cases c3 : a0.toList = ([103, 116] : List UInt8)
    · rw [if_pos c3] at H
      have c3b0 : (a0.toList == ([103, 116] : List UInt8)) = true := beq_iff_eq.mpr c3
      have c3b1 : (a0.toList != ([103, 116] : List UInt8)) = false := bne_eq_false_iff_eq.mpr c3
      clear c3
      simp only [Option.some.injEq, Prod.mk.injEq] at H
      obtain ⟨rfl, rfl⟩ := H
      go_enter Tryd.func29, Tryd.ntmps29
      go_wp2
      go_ret2
      exact ⟨by first | rfl | (simp [errW_none, errW_some] <;> rfl) | (simp [*, errW_none, errW_some] <;> rfl), by repeat (first | (with_reducible first | exact HB.out | apply below_alloc | apply pw_below_drewN | apply below_drew1) | exact HB.out)⟩
    · rw [if_neg c3] at H
      have c3b0 : (a0.toList == ([103, 116] : List UInt8)) = false := beq_eq_false_iff_ne.mpr c3
      have c3b1 : (a0.toList != ([103, 116] : List UInt8)) = true := bne_iff_ne.mpr c3
      by_cases c4 : a0.toList = ([97, 109, 112] : List UInt8)
      · rw [if_pos c4] at H
        have c4b0 : (a0.toList == ([97, 109, 112] : List UInt8)) = true := beq_iff_eq.mpr c4
        have c4b1 : (a0.toList != ([97, 109, 112] : List UInt8)) = false := bne_eq_false_iff_eq.mpr c4
        clear c4
        simp only [Option.some.injEq, Prod.mk.injEq] at H
        obtain ⟨rfl, rfl⟩ := H
        go_enter Tryd.func29, Tryd.ntmps29
        go_wp2
        go_ret2
        exact ⟨by first | rfl | (simp [errW_none, errW_some] <;> rfl) | (simp [*, errW_none, errW_some] <;> rfl), by repeat (first | (with_reducible first | exact HB.out | apply below_alloc | apply pw_below_drewN | apply below_drew1) | exact HB.out)⟩
      · rw [if_neg c4] at H
        have c4b0 : (a0.toList == ([97, 109, 112] : List UInt8)) = false := beq_eq_false_iff_ne.mpr c4
        have c4b1 : (a0.toList != ([97, 109, 112] : List UInt8)) = true := bne_iff_ne.mpr c4
        by_cases c5 : a0.toList = ([113, 117, 111, 116] : List UInt8)
        · rw [if_pos c5] at H
          have c5b0 : (a0.toList == ([113, 117, 111, 116] : List UInt8)) = true := beq_iff_eq.mpr c5
          have c5b1 : (a0.toList != ([113, 117, 111, 116] : List UInt8)) = false := bne_eq_false_iff_eq.mpr c5
          clear c5
          obtain ⟨y121, hy121⟩ : ∃ y_ : List Int, y_ = (([34] : List Int)) := ⟨_, rfl⟩
          replace H : (some (strOfNums y121, true)) = some (r1, r2) := by first | (rw [hy121]; with_reducible exact H) | (have H2_ := (Option.bind_some _ _).symm.trans H; rw [hy121]; with_reducible exact H2_) | (have H2_ := (Option.bind_some _ _).symm.trans H; with_reducible exact H2_) | with_reducible exact H | (rw [hy121]; exact H) | exact H
          have Ny121 := Aside0.mk hy121
          clear hy121
          simp only [Option.some.injEq, Prod.mk.injEq] at H
          obtain ⟨rfl, rfl⟩ := H
          go_enter Tryd.func29, Tryd.ntmps29
          go_wp2_with (first | ((with_reducible refine gate_dst (N := 13) rfl ?_); refine Kd.R_lit (Kd.int .u8) _ 5 ?hg (N := 13) ?hd (xs := ([34] : List Int)) (inner := [.int .u8 34]) (ok := fun _ => True) (okp := fun _ => True) ?hr ?hp (fun _ hk => hk) trivial (Below.refl _ _) (Nat.le_refl _) (by simp) ?_; (case hd => rfl); (case hg => rfl); (case hr => first | (go_simp; done) | (go_simp; rfl)); (case hp => exact (Reps.one (show Kd.M (Kd.int .u8) _ _ _ 34 [.int .u8 34] from rfl) (Reps.none _ _))); intro v122 w6 ho7 hb hg_ hnew_; clear hg_ hnew_; (first | rw [← Ny121.out] at ho7 | (simp only [Int.reduceToNat] at ho7; rw [← Ny121.out] at ho7)); have n0_ := Aside0.mk (Kd.R_lower ho7 (below_size (by repeat (first | (with_reducible first | exact HB.out | apply below_alloc | apply pw_below_drewN | apply below_drew1) | exact HB.out)))); have n1_ := Aside0.mk (below_step (by repeat (first | (with_reducible first | exact HB.out | apply below_alloc | apply pw_below_drewN | apply below_drew1) | exact HB.out)) hb); clear HB; have HO123 := n0_; have HB := n1_; clear n0_ n1_; clear hb ho7; have hcv8 := own_string (P := Tryd.prog) Tryd.underlying36 Tryd.underlying5 Tryd.underlying9 (Kd.own_of_R HO123.out)))
          go_ret2
          exact ⟨by first | rfl | (simp [errW_none, errW_some] <;> rfl) | (simp [*, errW_none, errW_some] <;> rfl), by repeat (first | (with_reducible first | exact HB.out | apply below_alloc | apply pw_below_drewN | apply below_drew1) | exact HB.out)⟩
        · rw [if_neg c5] at H
          have c5b0 : (a0.toList == ([113, 117, 111, 116] : List UInt8)) = false := beq_eq_false_iff_ne.mpr c5
          have c5b1 : (a0.toList != ([113, 117, 111, 116] : List UInt8)) = true := bne_iff_ne.mpr c5
          simp only [Option.some.injEq, Prod.mk.injEq] at H
          obtain ⟨rfl, rfl⟩ := H
          go_enter Tryd.func29, Tryd.ntmps29
          go_wp2
          go_ret2
          exact ⟨by first | rfl | (simp [errW_none, errW_some] <;> rfl) | (simp [*, errW_none, errW_some] <;> rfl), by repeat (first | (with_reducible first | exact HB.out | apply below_alloc | apply pw_below_drewN | apply below_drew1) | exact HB.out)⟩

/-! ### hexaplaref13_Entities_find: function 30 -/
def hexaplaref13_Entities_find.l0 : Nat → ByteArray → Int → List (S50) → Int → Option (Int × Int)
  | 0, _, _, _, _ => none
  | k + 1, x1, x5, x1000, x1001 => if x5 < (x1000.length : Int) then (if 0 ≤ x5 then (if ((rd_T50 x1000 x5).f0).toList = x1.toList then (some (x5, x1001)) else (hexaplaref13_Entities_find.l0 k x1 (wrap64 (x5 + 1)) x1000 x1001)) else (none)) else (some ((-1), x1001))
def hexaplaref13_Entities_find.f (k : Nat) (s0_0 : List (S50)) (s0_1 : Int) (a1 : ByteArray) : Option (Int × Int) := hexaplaref13_Entities_find.l0 k a1 0 s0_0 s0_1
theorem hexaplaref13_Entities_find.mono_l : ∀ k, (∀ y0 y1 y2 y3, LeO (hexaplaref13_Entities_find.l0 k y0 y1 y2 y3) (hexaplaref13_Entities_find.l0 (k + 1) y0 y1 y2 y3))
  | 0 => fun _ _ _ _ r h => by simp [hexaplaref13_Entities_find.l0] at h
  | k + 1 => by
    have ih0 := hexaplaref13_Entities_find.mono_l k
    · intro y0 y1 y2 y3
      unfold hexaplaref13_Entities_find.l0
      repeat' first
      | (with_reducible exact ih0 _ _ _ _)
      | (with_reducible exact LeO.refl _)
      | (with_reducible exact LeO.none _)
      | (with_reducible refine LeO.ite ?_ ?_)
      | (with_reducible refine LeO.bind ?_ (fun _ => ?_))
      | exact ih0 _ _ _ _
      | exact LeO.none _
      | refine LeO.ite ?_ ?_
      | refine LeO.bind ?_ (fun _ => ?_)
theorem hexaplaref13_Entities_find.mono : ∀ a0 a1 a2 k, LeO (hexaplaref13_Entities_find.f k a0 a1 a2) (hexaplaref13_Entities_find.f (k + 1) a0 a1 a2) := by
  intro a0 a1 a2 k
  have ih0 := hexaplaref13_Entities_find.mono_l k
  unfold hexaplaref13_Entities_find.f
  repeat' first
      | (with_reducible exact ih0 _ _ _ _)
      | (with_reducible exact LeO.refl _)
      | (with_reducible exact LeO.none _)
      | (with_reducible refine LeO.ite ?_ ?_)
      | (with_reducible refine LeO.bind ?_ (fun _ => ?_))
      | exact ih0 _ _ _ _
      | exact LeO.none _
      | refine LeO.ite ?_ ?_
      | refine LeO.bind ?_ (fun _ => ?_)
set_option maxHeartbeats 8000000 in
set_option maxRecDepth 100000 in
theorem hexaplaref13_Entities_find.calls (k : Nat) (g : Nat) (s0_0 : List (S50)) (s0_1 : Int) (a1 : ByteArray) (r1 : Int) (r2 : Int) (w0 w : World) (hI : IsS28 w0 w g s0_0 s0_1) (hB : Below w0.heap.size w0 w) (h : hexaplaref13_Entities_find.f k s0_0 s0_1 a1 = some (r1, r2)) :
    Calls Tryd.prog 30 #[.pointer (some ⟨g, 0, none⟩), .string a1] w fun e w' => e = .returned (.int .i64 r1) ∧ IsS28 w0 w' g s0_0 r2 ∧ Below w0.heap.size w0 w' ∧ KeepBut w w' g none := by
  have HI0 := Aside0.mk hI
  have HK := Aside0.mk (KeepBut.refl w g none)
  have HL := Aside0.mk hB.size
  clear hI
  have HW0 := Aside0.mk hB.size
  have HB := Aside0.mk hB
  clear hB
  have H : (hexaplaref13_Entities_find.l0 k a1 0 s0_0 s0_1) = some (r1, r2) := h
  clear h
  have H' := Aside0.mk H
  clear H
  go_enter Tryd.func30, Tryd.ntmps30
  go_wp2
  go_loopg [5] k (fun kq v5 w' => ∃ (x5_1 : Int), v5 = .int .i64 x5_1 ∧ Aside0 (hexaplaref13_Entities_find.l0 kq a1 x5_1 s0_0 s0_1 = some (r1, r2)) ∧ Aside0 (kq ≤ k) ∧ Aside0 (IsS28 w0 w' g s0_0 s0_1) ∧ Aside0 (KeepBut w w' g none) ∧ Aside0 (Below w0.heap.size w0 w'))
  case atStart => exact ⟨(0), (by first | rfl | (simp; done) | (simp [*]; done)), H', ⟨Nat.le_refl _⟩, ⟨by repeat (first | (with_reducible first | exact HI0.out | apply IsS28.alloc | apply IsS28.drewN | apply IsS28.drew | apply IsS28.set_1) | exact HI0.out)⟩, ⟨by repeat (first | (with_reducible first | exact HK.out | apply KeepBut.set_ | apply keep_drewN | apply keep_drew | apply keep_alloc) | exact HK.out)⟩, ⟨by repeat (first | (with_reducible first | exact HB.out | apply below_alloc | apply pw_below_drewN | apply below_drew1 | refine below_set ?_ (IsS28.ge HI0.out)) | exact HB.out)⟩⟩
  case round =>
    clear H'
    try clear p2
    obtain ⟨x5_1, rfl, HA, HK1, HI0, HK, HB⟩ := hrel
    cases gk with
    | zero => exact absurd HA.out (by simp [hexaplaref13_Entities_find.l0])
    | succ k1 =>
      have H := HA.out
      clear HA
      simp only [hexaplaref13_Entities_find.l0] at H
      by_cases c3 : x5_1 < (s0_0.length : Int)
      · rw [if_pos c3] at H
        have c3b0 : decide (x5_1 < (s0_0.length : Int)) = true := decide_eq_true c3
        clear c3
        by_cases c4 : 0 ≤ x5_1
        · rw [if_pos c4] at H
          have c4b0 : decide (0 ≤ x5_1) = true := decide_eq_true c4
          clear c4
          by_cases c5 : ((rd_T50 s0_0 x5_1).f0).toList = a1.toList
          · rw [if_pos c5] at H
            have c5b0 : (((rd_T50 s0_0 x5_1).f0).toList == a1.toList) = true := beq_iff_eq.mpr c5
            have c5b1 : (((rd_T50 s0_0 x5_1).f0).toList != a1.toList) = false := bne_eq_false_iff_eq.mpr c5
            clear c5
            simp only [Option.some.injEq, Prod.mk.injEq] at H
            obtain ⟨rfl, rfl⟩ := H
            obtain ⟨ASz6_0, cSz6_0, HGz6, hgz6, HSz6_0⟩ := HI0.out
            have hcz6_0 := cellS28_0 HGz6
            have hcz6_1 := cellS28_1 HGz6
            have hfz6_1 := blk_frozen HGz6 1
            clear HGz6 hgz6
            have p124 : 0 ≤ (x5_1 : Int) := of_decide_eq_true (by first | (with_reducible assumption) | assumption)
            have q124 : x5_1 < (s0_0.length : Int) := of_decide_eq_true (by first | (with_reducible assumption) | assumption)
            obtain ⟨ad124, e124, hx124_0, hx124_1⟩ := at_T50 HSz6_0 x5_1 p124 q124
            cases e124
            replace hx124_0 := pw_cell_below HB.out hx124_0
            replace hx124_1 := pw_cell_below HB.out hx124_1
            replace p124 := eq_true p124
            replace q124 := eq_true q124
            go_wp2
            go_ret
            exact ⟨by first | rfl | (simp [errW_none, errW_some] <;> rfl) | (simp [*, errW_none, errW_some] <;> rfl), by repeat (first | (with_reducible first | exact HI0.out | apply IsS28.alloc | apply IsS28.drewN | apply IsS28.drew | apply IsS28.set_1) | exact HI0.out), by repeat (first | (with_reducible first | exact HB.out | apply below_alloc | apply pw_below_drewN | apply below_drew1 | refine below_set ?_ (IsS28.ge HI0.out)) | exact HB.out), by repeat (first | (with_reducible first | exact HK.out | apply KeepBut.set_ | apply keep_drewN | apply keep_drew | apply keep_alloc) | exact HK.out)⟩
          · rw [if_neg c5] at H
            have c5b0 : (((rd_T50 s0_0 x5_1).f0).toList == a1.toList) = false := beq_eq_false_iff_ne.mpr c5
            have c5b1 : (((rd_T50 s0_0 x5_1).f0).toList != a1.toList) = true := bne_iff_ne.mpr c5
            have H' := Aside0.mk H
            clear H
            obtain ⟨ASz7_0, cSz7_0, HGz7, hgz7, HSz7_0⟩ := HI0.out
            have hcz7_0 := cellS28_0 HGz7
            have hcz7_1 := cellS28_1 HGz7
            have hfz7_1 := blk_frozen HGz7 1
            clear HGz7 hgz7
            have p124 : 0 ≤ (x5_1 : Int) := of_decide_eq_true (by first | (with_reducible assumption) | assumption)
            have q124 : x5_1 < (s0_0.length : Int) := of_decide_eq_true (by first | (with_reducible assumption) | assumption)
            obtain ⟨ad124, e124, hx124_0, hx124_1⟩ := at_T50 HSz7_0 x5_1 p124 q124
            cases e124
            replace hx124_0 := pw_cell_below HB.out hx124_0
            replace hx124_1 := pw_cell_below HB.out hx124_1
            replace p124 := eq_true p124
            replace q124 := eq_true q124
            go_wp2
            go_roundg k1
            case measure => have := HK1.out; omega
            case rel => exact ⟨(wrap64 (x5_1 + 1)), (by first | rfl | (simp; done) | (simp [*]; done)), H', ⟨by have := HK1.out; omega⟩, ⟨by repeat (first | (with_reducible first | exact HI0.out | apply IsS28.alloc | apply IsS28.drewN | apply IsS28.drew | apply IsS28.set_1) | exact HI0.out)⟩, ⟨by repeat (first | (with_reducible first | exact HK.out | apply KeepBut.set_ | apply keep_drewN | apply keep_drew | apply keep_alloc) | exact HK.out)⟩, ⟨by repeat (first | (with_reducible first | exact HB.out | apply below_alloc | apply pw_below_drewN | apply below_drew1 | refine below_set ?_ (IsS28.ge HI0.out)) | exact HB.out)⟩⟩
        · rw [if_neg c4] at H
          exact absurd H (by simp)
      · rw [if_neg c3] at H
        have c3b0 : decide (x5_1 < (s0_0.length : Int)) = false := decide_eq_false c3
        clear c3
        simp only [Option.some.injEq, Prod.mk.injEq] at H
        obtain ⟨rfl, rfl⟩ := H
        obtain ⟨ASz8_0, cSz8_0, HGz8, hgz8, HSz8_0⟩ := HI0.out
        have hcz8_0 := cellS28_0 HGz8
        have hcz8_1 := cellS28_1 HGz8
        have hfz8_1 := blk_frozen HGz8 1
        clear HGz8 hgz8
        go_wp2
        go_ret
        exact ⟨by first | rfl | (simp [errW_none, errW_some] <;> rfl) | (simp [*, errW_none, errW_some] <;> rfl), by repeat (first | (with_reducible first | exact HI0.out | apply IsS28.alloc | apply IsS28.drewN | apply IsS28.drew | apply IsS28.set_1) | exact HI0.out), by repeat (first | (with_reducible first | exact HB.out | apply below_alloc | apply pw_below_drewN | apply below_drew1 | refine below_set ?_ (IsS28.ge HI0.out)) | exact HB.out), by repeat (first | (with_reducible first | exact HK.out | apply KeepBut.set_ | apply keep_drewN | apply keep_drew | apply keep_alloc) | exact HK.out)⟩

-- NOT PRINTED: function 18 (hexaplaref13_Entities_Define)

/-! ### hexaplaref13_Entities_Get: function 19 -/
def hexaplaref13_Entities_Get.f (k : Nat) (s0_0 : List (S50)) (s0_1 : Int) (a1 : ByteArray) : Option (ByteArray × Int × Int) := (hexaplaref13_four.f a1).bind fun bt133 => (if bt133.2 = true then (some (bt133.1, 0, s0_1)) else ((hexaplaref13_Entities_find.f k s0_0 s0_1 a1).bind fun bt135 => (if bt135.1 < 0 then (some ((⟨#[]⟩ : ByteArray), 14, bt135.2)) else (if bt135.2 ≥ 40 then (some ((⟨#[]⟩ : ByteArray), 13, bt135.2)) else (if 0 ≤ bt135.1 then (if bt135.1 < (s0_0.length : Int) then (some ((rd_T50 s0_0 bt135.1).f1, 0, wrap64 (bt135.2 + 1))) else (none)) else (none))))))
theorem hexaplaref13_Entities_Get.mono : ∀ a0 a1 a2 k, LeO (hexaplaref13_Entities_Get.f k a0 a1 a2) (hexaplaref13_Entities_Get.f (k + 1) a0 a1 a2) := by
  intro a0 a1 a2 k
  unfold hexaplaref13_Entities_Get.f
  repeat' first
      | (with_reducible exact hexaplaref13_Entities_find.mono _ _ _ _)
      | (with_reducible exact LeO.refl _)
      | (with_reducible exact LeO.none _)
      | (with_reducible refine LeO.ite ?_ ?_)
      | (with_reducible refine LeO.bind ?_ (fun _ => ?_))
      | exact hexaplaref13_Entities_find.mono _ _ _ _
      | exact LeO.none _
      | refine LeO.ite ?_ ?_
      | refine LeO.bind ?_ (fun _ => ?_)
set_option maxHeartbeats 8000000 in
set_option maxRecDepth 100000 in
theorem hexaplaref13_Entities_Get.calls (k : Nat) (g : Nat) (s0_0 : List (S50)) (s0_1 : Int) (a1 : ByteArray) (r1 : ByteArray) (r2 : Int) (r3 : Int) (w0 w : World) (hI : IsS28 w0 w g s0_0 s0_1) (hB : Below w0.heap.size w0 w) (h : hexaplaref13_Entities_Get.f k s0_0 s0_1 a1 = some (r1, r2, r3)) :
    Calls Tryd.prog 19 #[.pointer (some ⟨g, 0, none⟩), .string a1] w fun e w' => e = .returned (.tuple #[.string r1, .int .i64 r2]) ∧ IsS28 w0 w' g s0_0 r3 ∧ Below w0.heap.size w0 w' ∧ KeepBut w w' g none := by
  have HI0 := Aside0.mk hI
  have HK := Aside0.mk (KeepBut.refl w g none)
  have HL := Aside0.mk hB.size
  clear hI
  have HW0 := Aside0.mk hB.size
  have HB := Aside0.mk hB
  clear hB
  have H : ((hexaplaref13_four.f a1).bind fun bt133 => (if bt133.2 = true then (some (bt133.1, 0, s0_1)) else ((hexaplaref13_Entities_find.f k s0_0 s0_1 a1).bind fun bt135 => (if bt135.1 < 0 then (some ((⟨#[]⟩ : ByteArray), 14, bt135.2)) else (if bt135.2 ≥ 40 then (some ((⟨#[]⟩ : ByteArray), 13, bt135.2)) else (if 0 ≤ bt135.1 then (if bt135.1 < (s0_0.length : Int) then (some ((rd_T50 s0_0 bt135.1).f1, 0, wrap64 (bt135.2 + 1))) else (none)) else (none))))))) = some (r1, r2, r3) := h
  clear h
  replace H := Option.bind_eq_some_iff.mp H
  obtain ⟨⟨t133, t134⟩, A30, H⟩ := H
  replace H : (if t134 = true then (some (t133, 0, s0_1)) else ((hexaplaref13_Entities_find.f k s0_0 s0_1 a1).bind fun bt135 => (if bt135.1 < 0 then (some ((⟨#[]⟩ : ByteArray), 14, bt135.2)) else (if bt135.2 ≥ 40 then (some ((⟨#[]⟩ : ByteArray), 13, bt135.2)) else (if 0 ≤ bt135.1 then (if bt135.1 < (s0_0.length : Int) then (some ((rd_T50 s0_0 bt135.1).f1, 0, wrap64 (bt135.2 + 1))) else (none)) else (none)))))) = some (r1, r2, r3) := H
  have A3 := Aside0.mk A30
  clear A30
  by_cases c4 : t134 = true
  · subst c4
    have H1 : (some (t133, 0, s0_1)) = some (r1, r2, r3) := by rw [if_pos rfl] at H; exact H
    clear H
    have H := H1
    clear H1
    simp only [Option.some.injEq, Prod.mk.injEq] at H
    obtain ⟨rfl, rfl, rfl⟩ := H
    go_enter Tryd.func19, Tryd.ntmps19
    go_wp2_with (first | ((with_reducible refine gate_callee (f := 29) rfl ?_); refine goesL_ (some 11) rfl rfl Tryd.func29 (by kernel_rfl) rfl #[.string a1] rfl (by (try simp only [List.map_toArray, List.map_cons, List.map_nil]); first | done | rfl | (simp only [List.length_drop, List.length_take]; rfl)) ?_; (with_reducible refine (hexaplaref13_four.calls a1 t133 true _ A3.out).mono ?_); rintro e w5 ⟨rfl, hb⟩; refine ⟨_, rfl, ?_⟩; have n0_ := Aside0.mk (IsS28.below (by repeat (first | (with_reducible first | exact HI0.out | apply IsS28.alloc | apply IsS28.drewN | apply IsS28.drew | apply IsS28.set_1) | exact HI0.out)) hb); have n1_ := Aside0.mk (KeepBut.trans (by repeat (first | (with_reducible first | exact HK.out | apply KeepBut.set_ | apply keep_drewN | apply keep_drew | apply keep_alloc) | exact HK.out)) (KeepBut.of_below hb g none) (.inl rfl)); have n2_ := Aside0.mk (below_step (by repeat (first | (with_reducible first | exact HB.out | apply below_alloc | apply pw_below_drewN | apply below_drew1 | refine below_set ?_ (IsS28.ge HI0.out)) | exact HB.out)) hb); clear HI0; clear HK; clear HB; have HI0 := n0_; have HK := n1_; have HB := n2_; clear n0_ n1_ n2_; (try clear hb); (try clear hb2); (try clear hk); (try clear hi)))
    go_ret2
    exact ⟨by first | rfl | (simp [errW_none, errW_some] <;> rfl) | (simp [*, errW_none, errW_some] <;> rfl), by repeat (first | (with_reducible first | exact HI0.out | apply IsS28.alloc | apply IsS28.drewN | apply IsS28.drew | apply IsS28.set_1) | exact HI0.out), by repeat (first | (with_reducible first | exact HB.out | apply below_alloc | apply pw_below_drewN | apply below_drew1 | refine below_set ?_ (IsS28.ge HI0.out)) | exact HB.out), by repeat (first | (with_reducible first | exact HK.out | apply KeepBut.set_ | apply keep_drewN | apply keep_drew | apply keep_alloc) | exact HK.out)⟩
  · replace c4 := Bool.eq_false_iff.mpr c4
    subst c4
    have H1 : ((hexaplaref13_Entities_find.f k s0_0 s0_1 a1).bind fun bt135 => (if bt135.1 < 0 then (some ((⟨#[]⟩ : ByteArray), 14, bt135.2)) else (if bt135.2 ≥ 40 then (some ((⟨#[]⟩ : ByteArray), 13, bt135.2)) else (if 0 ≤ bt135.1 then (if bt135.1 < (s0_0.length : Int) then (some ((rd_T50 s0_0 bt135.1).f1, 0, wrap64 (bt135.2 + 1))) else (none)) else (none))))) = some (r1, r2, r3) := by rw [if_neg (show ¬ (false = true) by decide)] at H; exact H
    clear H
    have H := H1
    clear H1
    replace H := Option.bind_eq_some_iff.mp H
    obtain ⟨⟨t135, t136⟩, A60, H⟩ := H
    replace H : (if t135 < 0 then (some ((⟨#[]⟩ : ByteArray), 14, t136)) else (if t136 ≥ 40 then (some ((⟨#[]⟩ : ByteArray), 13, t136)) else (if 0 ≤ t135 then (if t135 < (s0_0.length : Int) then (some ((rd_T50 s0_0 t135).f1, 0, wrap64 (t136 + 1))) else (none)) else (none)))) = some (r1, r2, r3) := H
    have A6 := Aside0.mk A60
    clear A60
    by_cases c7 : t135 < 0
    · rw [if_pos c7] at H
      have c7b0 : decide (t135 < 0) = true := decide_eq_true c7
      clear c7
      simp only [Option.some.injEq, Prod.mk.injEq] at H
      obtain ⟨rfl, rfl, rfl⟩ := H
      go_enter Tryd.func19, Tryd.ntmps19
      go_wp2_with (first | ((with_reducible refine gate_callee (f := 29) rfl ?_); refine goesL_ (some 11) rfl rfl Tryd.func29 (by kernel_rfl) rfl #[.string a1] rfl (by (try simp only [List.map_toArray, List.map_cons, List.map_nil]); first | done | rfl | (simp only [List.length_drop, List.length_take]; rfl)) ?_; (with_reducible refine (hexaplaref13_four.calls a1 t133 false _ A3.out).mono ?_); rintro e w8 ⟨rfl, hb⟩; refine ⟨_, rfl, ?_⟩; have n0_ := Aside0.mk (IsS28.below (by repeat (first | (with_reducible first | exact HI0.out | apply IsS28.alloc | apply IsS28.drewN | apply IsS28.drew | apply IsS28.set_1) | exact HI0.out)) hb); have n1_ := Aside0.mk (KeepBut.trans (by repeat (first | (with_reducible first | exact HK.out | apply KeepBut.set_ | apply keep_drewN | apply keep_drew | apply keep_alloc) | exact HK.out)) (KeepBut.of_below hb g none) (.inl rfl)); have n2_ := Aside0.mk (below_step (by repeat (first | (with_reducible first | exact HB.out | apply below_alloc | apply pw_below_drewN | apply below_drew1 | refine below_set ?_ (IsS28.ge HI0.out)) | exact HB.out)) hb); clear HI0; clear HK; clear HB; have HI0 := n0_; have HK := n1_; have HB := n2_; clear n0_ n1_ n2_; (try clear hb); (try clear hb2); (try clear hk); (try clear hi)) | ((with_reducible refine gate_callee (f := 30) rfl ?_); refine goesL_ (some 18) rfl rfl Tryd.func30 (by kernel_rfl) rfl #[.pointer (some ⟨g, 0, none⟩), .string a1] rfl (by (try simp only [List.map_toArray, List.map_cons, List.map_nil]); first | done | rfl | (simp only [List.length_drop, List.length_take]; rfl)) ?_; (with_reducible refine (hexaplaref13_Entities_find.calls k g s0_0 s0_1 a1 t135 t136 w0 _ ?side1 ?side2 A6.out).mono ?_); (case side1 => repeat (first | (with_reducible first | exact HI0.out | apply IsS28.alloc | apply IsS28.drewN | apply IsS28.drew | apply IsS28.set_1) | exact HI0.out)); (case side2 => repeat (first | (with_reducible first | exact HB.out | apply below_alloc | apply pw_below_drewN | apply below_drew1 | refine below_set ?_ (IsS28.ge HI0.out)) | exact HB.out)); rintro e w9 ⟨rfl, hi, hb, hk⟩; refine ⟨_, rfl, ?_⟩; have n0_ := Aside0.mk (KeepBut.trans (by repeat (first | (with_reducible first | exact HK.out | apply KeepBut.set_ | apply keep_drewN | apply keep_drew | apply keep_alloc) | exact HK.out)) hk (.inl rfl)); have n1_ := Aside0.mk (hb); have n2_ := Aside0.mk (hi); clear HK; clear HB; clear HI0; have HK := n0_; have HB := n1_; have HI0 := n2_; clear n0_ n1_ n2_; (try clear hb); (try clear hb2); (try clear hk); (try clear hi)))
      go_ret2
      exact ⟨by first | rfl | (simp [errW_none, errW_some] <;> rfl) | (simp [*, errW_none, errW_some] <;> rfl), by repeat (first | (with_reducible first | exact HI0.out | apply IsS28.alloc | apply IsS28.drewN | apply IsS28.drew | apply IsS28.set_1) | exact HI0.out), by repeat (first | (with_reducible first | exact HB.out | apply below_alloc | apply pw_below_drewN | apply below_drew1 | refine below_set ?_ (IsS28.ge HI0.out)) | exact HB.out), by repeat (first | (with_reducible first | exact HK.out | apply KeepBut.set_ | apply keep_drewN | apply keep_drew | apply keep_alloc) | exact HK.out)⟩
    · rw [if_neg c7] at H
      have c7b0 : decide (t135 < 0) = false := decide_eq_false c7
      clear c7
      by_cases c10 : t136 ≥ 40
      · rw [if_pos c10] at H
        have c10b0 : decide (40 ≤ t136) = true := decide_eq_true c10
        clear c10
        simp only [Option.some.injEq, Prod.mk.injEq] at H
        obtain ⟨rfl, rfl, rfl⟩ := H
        go_enter Tryd.func19, Tryd.ntmps19
        go_wp2_with (first | ((with_reducible refine gate_callee (f := 29) rfl ?_); refine goesL_ (some 11) rfl rfl Tryd.func29 (by kernel_rfl) rfl #[.string a1] rfl (by (try simp only [List.map_toArray, List.map_cons, List.map_nil]); first | done | rfl | (simp only [List.length_drop, List.length_take]; rfl)) ?_; (with_reducible refine (hexaplaref13_four.calls a1 t133 false _ A3.out).mono ?_); rintro e w11 ⟨rfl, hb⟩; refine ⟨_, rfl, ?_⟩; have n0_ := Aside0.mk (IsS28.below (by repeat (first | (with_reducible first | exact HI0.out | apply IsS28.alloc | apply IsS28.drewN | apply IsS28.drew | apply IsS28.set_1) | exact HI0.out)) hb); have n1_ := Aside0.mk (KeepBut.trans (by repeat (first | (with_reducible first | exact HK.out | apply KeepBut.set_ | apply keep_drewN | apply keep_drew | apply keep_alloc) | exact HK.out)) (KeepBut.of_below hb g none) (.inl rfl)); have n2_ := Aside0.mk (below_step (by repeat (first | (with_reducible first | exact HB.out | apply below_alloc | apply pw_below_drewN | apply below_drew1 | refine below_set ?_ (IsS28.ge HI0.out)) | exact HB.out)) hb); clear HI0; clear HK; clear HB; have HI0 := n0_; have HK := n1_; have HB := n2_; clear n0_ n1_ n2_; (try clear hb); (try clear hb2); (try clear hk); (try clear hi)) | ((with_reducible refine gate_callee (f := 30) rfl ?_); refine goesL_ (some 18) rfl rfl Tryd.func30 (by kernel_rfl) rfl #[.pointer (some ⟨g, 0, none⟩), .string a1] rfl (by (try simp only [List.map_toArray, List.map_cons, List.map_nil]); first | done | rfl | (simp only [List.length_drop, List.length_take]; rfl)) ?_; (with_reducible refine (hexaplaref13_Entities_find.calls k g s0_0 s0_1 a1 t135 t136 w0 _ ?side1 ?side2 A6.out).mono ?_); (case side1 => repeat (first | (with_reducible first | exact HI0.out | apply IsS28.alloc | apply IsS28.drewN | apply IsS28.drew | apply IsS28.set_1) | exact HI0.out)); (case side2 => repeat (first | (with_reducible first | exact HB.out | apply below_alloc | apply pw_below_drewN | apply below_drew1 | refine below_set ?_ (IsS28.ge HI0.out)) | exact HB.out)); rintro e w12 ⟨rfl, hi, hb, hk⟩; refine ⟨_, rfl, ?_⟩; have n0_ := Aside0.mk (KeepBut.trans (by repeat (first | (with_reducible first | exact HK.out | apply KeepBut.set_ | apply keep_drewN | apply keep_drew | apply keep_alloc) | exact HK.out)) hk (.inl rfl)); have n1_ := Aside0.mk (hb); have n2_ := Aside0.mk (hi); clear HK; clear HB; clear HI0; have HK := n0_; have HB := n1_; have HI0 := n2_; clear n0_ n1_ n2_; (try clear hb); (try clear hb2); (try clear hk); (try clear hi); obtain ⟨ASz13_0, cSz13_0, HGz13, hgz13, HSz13_0⟩ := HI0.out; have hcz13_0 := cellS28_0 HGz13; have hcz13_1 := cellS28_1 HGz13; have hfz13_1 := blk_frozen HGz13 1; clear HGz13 hgz13))
        go_ret2
        exact ⟨by first | rfl | (simp [errW_none, errW_some] <;> rfl) | (simp [*, errW_none, errW_some] <;> rfl), by repeat (first | (with_reducible first | exact HI0.out | apply IsS28.alloc | apply IsS28.drewN | apply IsS28.drew | apply IsS28.set_1) | exact HI0.out), by repeat (first | (with_reducible first | exact HB.out | apply below_alloc | apply pw_below_drewN | apply below_drew1 | refine below_set ?_ (IsS28.ge HI0.out)) | exact HB.out), by repeat (first | (with_reducible first | exact HK.out | apply KeepBut.set_ | apply keep_drewN | apply keep_drew | apply keep_alloc) | exact HK.out)⟩
      · rw [if_neg c10] at H
        have c10b0 : decide (40 ≤ t136) = false := decide_eq_false c10
        clear c10
        by_cases c14 : 0 ≤ t135
        · rw [if_pos c14] at H
          have c14b0 : decide (0 ≤ t135) = true := decide_eq_true c14
          clear c14
          by_cases c15 : t135 < (s0_0.length : Int)
          · rw [if_pos c15] at H
            have c15b0 : decide (t135 < (s0_0.length : Int)) = true := decide_eq_true c15
            clear c15
            simp only [Option.some.injEq, Prod.mk.injEq] at H
            obtain ⟨rfl, rfl, rfl⟩ := H
            go_enter Tryd.func19, Tryd.ntmps19
            go_wp2_with (first | ((with_reducible refine gate_callee (f := 29) rfl ?_); refine goesL_ (some 11) rfl rfl Tryd.func29 (by kernel_rfl) rfl #[.string a1] rfl (by (try simp only [List.map_toArray, List.map_cons, List.map_nil]); first | done | rfl | (simp only [List.length_drop, List.length_take]; rfl)) ?_; (with_reducible refine (hexaplaref13_four.calls a1 t133 false _ A3.out).mono ?_); rintro e w16 ⟨rfl, hb⟩; refine ⟨_, rfl, ?_⟩; have n0_ := Aside0.mk (IsS28.below (by repeat (first | (with_reducible first | exact HI0.out | apply IsS28.alloc | apply IsS28.drewN | apply IsS28.drew | apply IsS28.set_1) | exact HI0.out)) hb); have n1_ := Aside0.mk (KeepBut.trans (by repeat (first | (with_reducible first | exact HK.out | apply KeepBut.set_ | apply keep_drewN | apply keep_drew | apply keep_alloc) | exact HK.out)) (KeepBut.of_below hb g none) (.inl rfl)); have n2_ := Aside0.mk (below_step (by repeat (first | (with_reducible first | exact HB.out | apply below_alloc | apply pw_below_drewN | apply below_drew1 | refine below_set ?_ (IsS28.ge HI0.out)) | exact HB.out)) hb); clear HI0; clear HK; clear HB; have HI0 := n0_; have HK := n1_; have HB := n2_; clear n0_ n1_ n2_; (try clear hb); (try clear hb2); (try clear hk); (try clear hi)) | ((with_reducible refine gate_callee (f := 30) rfl ?_); refine goesL_ (some 18) rfl rfl Tryd.func30 (by kernel_rfl) rfl #[.pointer (some ⟨g, 0, none⟩), .string a1] rfl (by (try simp only [List.map_toArray, List.map_cons, List.map_nil]); first | done | rfl | (simp only [List.length_drop, List.length_take]; rfl)) ?_; (with_reducible refine (hexaplaref13_Entities_find.calls k g s0_0 s0_1 a1 t135 t136 w0 _ ?side1 ?side2 A6.out).mono ?_); (case side1 => repeat (first | (with_reducible first | exact HI0.out | apply IsS28.alloc | apply IsS28.drewN | apply IsS28.drew | apply IsS28.set_1) | exact HI0.out)); (case side2 => repeat (first | (with_reducible first | exact HB.out | apply below_alloc | apply pw_below_drewN | apply below_drew1 | refine below_set ?_ (IsS28.ge HI0.out)) | exact HB.out)); rintro e w17 ⟨rfl, hi, hb, hk⟩; refine ⟨_, rfl, ?_⟩; have n0_ := Aside0.mk (KeepBut.trans (by repeat (first | (with_reducible first | exact HK.out | apply KeepBut.set_ | apply keep_drewN | apply keep_drew | apply keep_alloc) | exact HK.out)) hk (.inl rfl)); have n1_ := Aside0.mk (hb); have n2_ := Aside0.mk (hi); clear HK; clear HB; clear HI0; have HK := n0_; have HB := n1_; have HI0 := n2_; clear n0_ n1_ n2_; (try clear hb); (try clear hb2); (try clear hk); (try clear hi); obtain ⟨ASz18_0, cSz18_0, HGz18, hgz18, HSz18_0⟩ := HI0.out; have hcz18_0 := cellS28_0 HGz18; have hcz18_1 := cellS28_1 HGz18; have hfz18_1 := blk_frozen HGz18 1; clear HGz18 hgz18; have p137 : 0 ≤ (t135 : Int) := of_decide_eq_true (by first | (with_reducible assumption) | assumption); have q137 : t135 < (s0_0.length : Int) := of_decide_eq_true (by first | (with_reducible assumption) | assumption); obtain ⟨ad137, e137, hx137_0, hx137_1⟩ := at_T50 HSz18_0 t135 p137 q137; cases e137; have hn137_0 : ad137.block ≠ g := Nat.ne_of_lt (Nat.lt_of_lt_of_le (by have := World.block_lt_of_cell? _ _ hx137_0; first | rwa [add_block] at this | exact this) (IsS28.ge HI0.out)); replace hx137_0 := pw_cell_below HB.out hx137_0; replace hx137_1 := pw_cell_below HB.out hx137_1; replace hx137_0 := (cell_far (p := ⟨g, 1, none⟩) (by first | (rw [add_block]; exact hn137_0) | (show (Addr.add _ _).block ≠ _; rw [add_block]; exact hn137_0) | exact hn137_0) (.int .i64 (wrap64 (t136 + 1)))).trans hx137_0; replace hx137_1 := (cell_far (p := ⟨g, 1, none⟩) (by first | (rw [add_block]; exact hn137_0) | (show (Addr.add _ _).block ≠ _; rw [add_block]; exact hn137_0) | exact hn137_0) (.int .i64 (wrap64 (t136 + 1)))).trans hx137_1; clear hn137_0; replace p137 := eq_true p137; replace q137 := eq_true q137))
            go_ret2
            exact ⟨by first | rfl | (simp [errW_none, errW_some] <;> rfl) | (simp [*, errW_none, errW_some] <;> rfl), by repeat (first | (with_reducible first | exact HI0.out | apply IsS28.alloc | apply IsS28.drewN | apply IsS28.drew | apply IsS28.set_1) | exact HI0.out), by repeat (first | (with_reducible first | exact HB.out | apply below_alloc | apply pw_below_drewN | apply below_drew1 | refine below_set ?_ (IsS28.ge HI0.out)) | exact HB.out), by repeat (first | (with_reducible first | exact HK.out | apply KeepBut.set_ | apply keep_drewN | apply keep_drew | apply keep_alloc) | exact HK.out)⟩
          · rw [if_neg c15] at H
            exact absurd H (by simp)
        · rw [if_neg c14] at H
          exact absurd H (by simp)

/-! ### hexaplaref13_Ref: function 31 -/
mutual
def hexaplaref13_Ref.l0 : Nat → ByteArray → Int → Int → Option (ByteArray × Int × Int)
  | 0, _, _, _ => none
  | k + 1, x0, x1, x7 => if x7 < (x0.size : Int) then (if 0 ≤ x7 then (if (bt x0 x7) = 59 then (hexaplaref13_Ref.j1 k x0 x1 x7 (decide (x7 > x1))) else (hexaplaref13_Ref.j1 k x0 x1 x7 false)) else (none)) else (some ((⟨#[]⟩ : ByteArray), (-1), (x0.size : Int)))
def hexaplaref13_Ref.j1 : Nat → ByteArray → Int → Int → Bool → Option (ByteArray × Int × Int)
  | 0, _, _, _, _ => none
  | k + 1, x0, x1, x7, x24 => if x24 = true then (if 0 ≤ x1 then (if x1 ≤ x7 then (if x7 ≤ (x0.size : Int) then (some (x0.extract (x1 : Int).toNat (x7 : Int).toNat, x7, 0)) else (none)) else (none)) else (none)) else (if 0 ≤ x1 then (if x1 ≤ (wrap64 (x7 + 1)) then (if (wrap64 (x7 + 1)) ≤ (x0.size : Int) then ((hexaplaref04_Local.f k (x0.extract (x1 : Int).toNat ((wrap64 (x7 + 1)) : Int).toNat)).bind fun t138 => (if t138 = true then (hexaplaref13_Ref.l0 k x0 x1 (wrap64 (x7 + 1))) else (some ((⟨#[]⟩ : ByteArray), (-1), x7)))) else (none)) else (none)) else (none))
end
def hexaplaref13_Ref.f (k : Nat) (a0 : ByteArray) (a1 : Int) : Option (ByteArray × Int × Int) := hexaplaref13_Ref.l0 k a0 a1 a1
theorem hexaplaref13_Ref.mono_l : ∀ k, (∀ y0 y1 y2, LeO (hexaplaref13_Ref.l0 k y0 y1 y2) (hexaplaref13_Ref.l0 (k + 1) y0 y1 y2)) ∧ (∀ y0 y1 y2 y3, LeO (hexaplaref13_Ref.j1 k y0 y1 y2 y3) (hexaplaref13_Ref.j1 (k + 1) y0 y1 y2 y3))
  | 0 => ⟨fun _ _ _ r h => by simp [hexaplaref13_Ref.l0] at h, fun _ _ _ _ r h => by simp [hexaplaref13_Ref.j1] at h⟩
  | k + 1 => by
    obtain ⟨ih0, ih1⟩ := hexaplaref13_Ref.mono_l k
    refine ⟨?_, ?_⟩
    · intro y0 y1 y2
      unfold hexaplaref13_Ref.l0
      repeat' first
      | (with_reducible exact ih0 _ _ _)
      | (with_reducible exact ih1 _ _ _ _)
      | (with_reducible exact hexaplaref04_Local.mono _ _)
      | (with_reducible exact LeO.refl _)
      | (with_reducible exact LeO.none _)
      | (with_reducible refine LeO.ite ?_ ?_)
      | (with_reducible refine LeO.bind ?_ (fun _ => ?_))
      | exact ih0 _ _ _
      | exact ih1 _ _ _ _
      | exact hexaplaref04_Local.mono _ _
      | exact LeO.none _
      | refine LeO.ite ?_ ?_
      | refine LeO.bind ?_ (fun _ => ?_)
    · intro y0 y1 y2 y3
      unfold hexaplaref13_Ref.j1
      repeat' first
      | (with_reducible exact ih0 _ _ _)
      | (with_reducible exact ih1 _ _ _ _)
      | (with_reducible exact hexaplaref04_Local.mono _ _)
      | (with_reducible exact LeO.refl _)
      | (with_reducible exact LeO.none _)
      | (with_reducible refine LeO.ite ?_ ?_)
      | (with_reducible refine LeO.bind ?_ (fun _ => ?_))
      | exact ih0 _ _ _
      | exact ih1 _ _ _ _
      | exact hexaplaref04_Local.mono _ _
      | exact LeO.none _
      | refine LeO.ite ?_ ?_
      | refine LeO.bind ?_ (fun _ => ?_)
theorem hexaplaref13_Ref.mono : ∀ a0 a1 k, LeO (hexaplaref13_Ref.f k a0 a1) (hexaplaref13_Ref.f (k + 1) a0 a1) := by
  intro a0 a1 k
  obtain ⟨ih0, ih1⟩ := hexaplaref13_Ref.mono_l k
  unfold hexaplaref13_Ref.f
  repeat' first
      | (with_reducible exact ih0 _ _ _)
      | (with_reducible exact ih1 _ _ _ _)
      | (with_reducible exact hexaplaref04_Local.mono _ _)
      | (with_reducible exact LeO.refl _)
      | (with_reducible exact LeO.none _)
      | (with_reducible refine LeO.ite ?_ ?_)
      | (with_reducible refine LeO.bind ?_ (fun _ => ?_))
      | exact ih0 _ _ _
      | exact ih1 _ _ _ _
      | exact hexaplaref04_Local.mono _ _
      | exact LeO.none _
      | refine LeO.ite ?_ ?_
      | refine LeO.bind ?_ (fun _ => ?_)
set_option maxHeartbeats 8000000 in
set_option maxRecDepth 100000 in
theorem hexaplaref13_Ref.calls (k : Nat) (a0 : ByteArray) (a1 : Int) (r1 : ByteArray) (r2 : Int) (r3 : Int) (w : World) (h : hexaplaref13_Ref.f k a0 a1 = some (r1, r2, r3)) :
    Calls Tryd.prog 31 #[.string a0, .int .i64 a1] w fun e w' => e = .returned (.tuple #[.string r1, .int .i64 r2, .int .i64 r3]) ∧ Drawn0 w w' := by
  have H : (hexaplaref13_Ref.l0 k a0 a1 a1) = some (r1, r2, r3) := h
  clear h
  have H' := Aside0.mk H
  clear H
  go_enter Tryd.func31, Tryd.ntmps31
  go_wp2
  go_loopg [7] k (fun kq v7 w' => ∃ (x7_1 : Int), v7 = .int .i64 x7_1 ∧ Aside0 (hexaplaref13_Ref.l0 kq a0 a1 x7_1 = some (r1, r2, r3)) ∧ Aside0 (kq ≤ k) ∧ Drawn0 w w')
  case atStart => exact ⟨(a1), (by first | rfl | (simp; done) | (simp [*]; done)), H', ⟨Nat.le_refl _⟩, by repeat (first | exact Drawn0.refl _ | apply Drawn0.step)⟩
  case round =>
    clear H'
    try clear p2
    obtain ⟨x7_1, rfl, HA, HK1, ⟨m1, rfl⟩⟩ := hrel
    cases gk with
    | zero => exact absurd HA.out (by simp [hexaplaref13_Ref.l0])
    | succ k1 =>
      have H := HA.out
      clear HA
      simp only [hexaplaref13_Ref.l0] at H
      by_cases c3 : x7_1 < (a0.size : Int)
      · rw [if_pos c3] at H
        have c3b0 : decide (x7_1 < (a0.size : Int)) = true := decide_eq_true c3
        clear c3
        have HC4 := Aside0.mk H
        clear H
        go_upto_region 4 with (fail)
        go_cut [24] (fun v24 wc => ∃ (kq : Nat) (x24_3 : Bool), v24 = .bool x24_3 ∧ Aside0 (hexaplaref13_Ref.j1 kq a0 a1 x7_1 x24_3 = some (r1, r2, r3)) ∧ Aside0 (kq ≤ k1) ∧ Drawn0 w wc)
        case first =>
          have H := HC4.out
          clear HC4
          by_cases c5 : 0 ≤ x7_1
          · rw [if_pos c5] at H
            have c5b0 : decide (0 ≤ x7_1) = true := decide_eq_true c5
            clear c5
            (first | rw [c5b0] | (simp only [i64_w, i32_w]; rw [c5b0]) | skip)
            by_cases c7 : (bt a0 x7_1) = 59
            · rw [if_pos c7] at H
              have c7b0 : ((bt a0 x7_1) == 59) = true := beq_iff_eq.mpr c7
              have c7b1 : ((bt a0 x7_1) != 59) = false := bne_eq_false_iff_eq.mpr c7
              clear c7
              have H' := Aside0.mk H
              clear H
              have p6 : 0 ≤ (x7_1 : Int) := of_decide_eq_true (by first | (with_reducible assumption) | assumption)
              have q6 : x7_1 < (a0.size : Int) := of_decide_eq_true (by first | (with_reducible assumption) | assumption)
              have hx6 := bt_at a0 x7_1
              replace p6 := eq_true p6
              replace q6 := eq_true q6
              go_wp2
              go_meet
              case rel => exact ⟨_, (decide (x7_1 > a1)), (by first | rfl | (simp; done) | (simp [*]; done)), H', ⟨by have := HK1.out; first | omega | exact Nat.le_refl _⟩, by repeat (first | exact Drawn0.refl _ | apply Drawn0.step)⟩
            · rw [if_neg c7] at H
              have c7b0 : ((bt a0 x7_1) == 59) = false := beq_eq_false_iff_ne.mpr c7
              have c7b1 : ((bt a0 x7_1) != 59) = true := bne_iff_ne.mpr c7
              have H' := Aside0.mk H
              clear H
              have p6 : 0 ≤ (x7_1 : Int) := of_decide_eq_true (by first | (with_reducible assumption) | assumption)
              have q6 : x7_1 < (a0.size : Int) := of_decide_eq_true (by first | (with_reducible assumption) | assumption)
              have hx6 := bt_at a0 x7_1
              replace p6 := eq_true p6
              replace q6 := eq_true q6
              go_wp2
              go_meet
              case rel => exact ⟨_, (false), (by first | rfl | (simp; done) | (simp [*]; done)), H', ⟨by have := HK1.out; first | omega | exact Nat.le_refl _⟩, by repeat (first | exact Drawn0.refl _ | apply Drawn0.step)⟩
          · rw [if_neg c5] at H
            exact absurd H (by simp)
        case rest =>
          clear HC4
          try clear p2
          try clear c3
          try clear c3b0
          try clear c5
          try clear c5b0
          try clear p6
          try clear q6
          try clear hx6
          try clear c7
          try clear c7b0
          try clear c7b1
          try clear p2
          try clear p6
          try clear q6
          obtain ⟨kq, x24_3, rfl, HA, HJ3, ⟨mc3, rfl⟩⟩ := hcut
          cases kq with
          | zero => exact absurd HA.out (by simp [hexaplaref13_Ref.j1])
          | succ kj3 =>
            have H := HA.out
            clear HA
            simp only [hexaplaref13_Ref.j1] at H
            by_cases c8 : x24_3 = true
            · subst c8
              have H1 : (if 0 ≤ a1 then (if a1 ≤ x7_1 then (if x7_1 ≤ (a0.size : Int) then (some (a0.extract (a1 : Int).toNat (x7_1 : Int).toNat, x7_1, 0)) else (none)) else (none)) else (none)) = some (r1, r2, r3) := by rw [if_pos rfl] at H; exact H
              clear H
              have H := H1
              clear H1
              by_cases c9 : 0 ≤ a1
              · rw [if_pos c9] at H
                have c9b0 := eq_true c9
                have c9b1 : decide (0 ≤ a1) = true := decide_eq_true c9
                clear c9
                by_cases c10 : a1 ≤ x7_1
                · rw [if_pos c10] at H
                  have c10b0 := eq_true c10
                  have c10b1 : decide (a1 ≤ x7_1) = true := decide_eq_true c10
                  clear c10
                  by_cases c11 : x7_1 ≤ (a0.size : Int)
                  · rw [if_pos c11] at H
                    have c11b0 := eq_true c11
                    have c11b1 : decide (x7_1 ≤ (a0.size : Int)) = true := decide_eq_true c11
                    clear c11
                    simp only [Option.some.injEq, Prod.mk.injEq] at H
                    obtain ⟨rfl, rfl, rfl⟩ := H
                    go_wp2
                    go_ret3
                    exact ⟨by first | rfl | (simp; done) | (simp [*]; done), by repeat (first | exact Drawn0.refl _ | apply Drawn0.step)⟩
                  · rw [if_neg c11] at H
                    exact absurd H (by simp)
                · rw [if_neg c10] at H
                  exact absurd H (by simp)
              · rw [if_neg c9] at H
                exact absurd H (by simp)
            · replace c8 := Bool.eq_false_iff.mpr c8
              subst c8
              have H1 : (if 0 ≤ a1 then (if a1 ≤ (wrap64 (x7_1 + 1)) then (if (wrap64 (x7_1 + 1)) ≤ (a0.size : Int) then ((hexaplaref04_Local.f kj3 (a0.extract (a1 : Int).toNat ((wrap64 (x7_1 + 1)) : Int).toNat)).bind fun t138 => (if t138 = true then (hexaplaref13_Ref.l0 kj3 a0 a1 (wrap64 (x7_1 + 1))) else (some ((⟨#[]⟩ : ByteArray), (-1), x7_1)))) else (none)) else (none)) else (none)) = some (r1, r2, r3) := by rw [if_neg (show ¬ (false = true) by decide)] at H; exact H
              clear H
              have H := H1
              clear H1
              by_cases c12 : 0 ≤ a1
              · rw [if_pos c12] at H
                have c12b0 := eq_true c12
                have c12b1 : decide (0 ≤ a1) = true := decide_eq_true c12
                clear c12
                by_cases c13 : a1 ≤ (wrap64 (x7_1 + 1))
                · rw [if_pos c13] at H
                  have c13b0 := eq_true c13
                  have c13b1 : decide (a1 ≤ (wrap64 (x7_1 + 1))) = true := decide_eq_true c13
                  by_cases c14 : (wrap64 (x7_1 + 1)) ≤ (a0.size : Int)
                  · rw [if_pos c14] at H
                    have c14b0 := eq_true c14
                    have c14b1 : decide ((wrap64 (x7_1 + 1)) ≤ (a0.size : Int)) = true := decide_eq_true c14
                    replace H := Option.bind_eq_some_iff.mp H
                    obtain ⟨t138, A150, H⟩ := H
                    replace H : (if t138 = true then (hexaplaref13_Ref.l0 kj3 a0 a1 (wrap64 (x7_1 + 1))) else (some ((⟨#[]⟩ : ByteArray), (-1), x7_1))) = some (r1, r2, r3) := H
                    have A15 := Aside0.mk A150
                    clear A150
                    by_cases c16 : t138 = true
                    · subst c16
                      have H1 : (hexaplaref13_Ref.l0 kj3 a0 a1 (wrap64 (x7_1 + 1))) = some (r1, r2, r3) := by rw [if_pos rfl] at H; exact H
                      clear H
                      have H := H1
                      clear H1
                      have H' := Aside0.mk H
                      clear H
                      go_wp2_with (first | ((with_reducible refine gate_callee (f := 27) rfl ?_); refine goesL_ (some 35) rfl rfl Tryd.func27 (by kernel_rfl) rfl #[.string (a0.extract (a1 : Int).toNat ((wrap64 (x7_1 + 1)) : Int).toNat)] rfl (by (try simp only [List.map_toArray, List.map_cons, List.map_nil]); first | done | rfl | (simp only [List.length_drop, List.length_take]; rfl)) ?_; (with_reducible refine (hexaplaref04_Local.calls kj3 (a0.extract (a1 : Int).toNat ((wrap64 (x7_1 + 1)) : Int).toNat) true _ A15.out).mono ?_); rintro e w' ⟨rfl, ⟨nd, rfl⟩⟩; refine ⟨_, rfl, ?_⟩))
                      go_roundg kj3
                      case measure => have := HK1.out; have := HJ3.out; omega
                      case rel => exact ⟨(wrap64 (x7_1 + 1)), (by first | rfl | (simp; done) | (simp [*]; done)), H', ⟨by have := HK1.out; have := HJ3.out; omega⟩, by repeat (first | exact Drawn0.refl _ | apply Drawn0.step)⟩
                    · replace c16 := Bool.eq_false_iff.mpr c16
                      subst c16
                      have H1 : (some ((⟨#[]⟩ : ByteArray), (-1), x7_1)) = some (r1, r2, r3) := by rw [if_neg (show ¬ (false = true) by decide)] at H; exact H
                      clear H
                      have H := H1
                      clear H1
                      simp only [Option.some.injEq, Prod.mk.injEq] at H
                      obtain ⟨rfl, rfl, rfl⟩ := H
                      go_wp2_with (first | ((with_reducible refine gate_callee (f := 27) rfl ?_); refine goesL_ (some 35) rfl rfl Tryd.func27 (by kernel_rfl) rfl #[.string (a0.extract (a1 : Int).toNat ((wrap64 (x7_1 + 1)) : Int).toNat)] rfl (by (try simp only [List.map_toArray, List.map_cons, List.map_nil]); first | done | rfl | (simp only [List.length_drop, List.length_take]; rfl)) ?_; (with_reducible refine (hexaplaref04_Local.calls kj3 (a0.extract (a1 : Int).toNat ((wrap64 (x7_1 + 1)) : Int).toNat) false _ A15.out).mono ?_); rintro e w' ⟨rfl, ⟨nd, rfl⟩⟩; refine ⟨_, rfl, ?_⟩))
                      go_ret3
                      exact ⟨by first | rfl | (simp; done) | (simp [*]; done), by repeat (first | exact Drawn0.refl _ | apply Drawn0.step)⟩
                  · rw [if_neg c14] at H
                    exact absurd H (by simp)
                · rw [if_neg c13] at H
                  exact absurd H (by simp)
              · rw [if_neg c12] at H
                exact absurd H (by simp)
      · rw [if_neg c3] at H
        have c3b0 : decide (x7_1 < (a0.size : Int)) = false := decide_eq_false c3
        clear c3
        simp only [Option.some.injEq, Prod.mk.injEq] at H
        obtain ⟨rfl, rfl, rfl⟩ := H
        go_wp2
        go_ret3
        exact ⟨by first | rfl | (simp; done) | (simp [*]; done), by repeat (first | exact Drawn0.refl _ | apply Drawn0.step)⟩

end Go.Proofs.YtohkioijdokegaaDoor.PEntitiesPlays
