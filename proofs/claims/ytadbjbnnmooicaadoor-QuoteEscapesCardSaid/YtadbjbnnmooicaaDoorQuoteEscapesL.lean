/- The law QuoteEscapes, walked. -/
import Derived.Test.YtadbjbnnmooicaaDoorQuoteReadW
import Derived.Test.YtadbjbnnmooicaaDoorQuoteLives
import Derived.Test.YtadbjbnnmooicaaDoorOwnStr
import Derived.Test.YtadbjbnnmooicaaDoorOwn3
import Derived.IntWalk
namespace Go.Proofs.YtadbjbnnmooicaaDoor.Qw
open Go.RowKit Go.Proofs.YtadbjbnnmooicaaDoorW.PrintWords Go.Proofs.YtadbjbnnmooicaaDoorW.PrintLast Go.Proofs.YtadbjbnnmooicaaDoor.Own Go.Proofs.YtadbjbnnmooicaaDoor.Srcw Go.Proofs.YtadbjbnnmooicaaDoor.Tab
set_option linter.unusedVariables false
set_option linter.unusedSimpArgs false
/-- A digit's letter, great. -/
def letU (d : Int) : Int := if d < 10 then 48 + d else 55 + d
theorem letU_fin : ∀ n : Fin 16, (((⟨#[48, 49, 50, 51, 52, 53, 54, 55, 56, 57, 65, 66, 67, 68, 69, 70]⟩ : ByteArray)[n.val]'(n.isLt)).toNat : Int) = letU (n.val : Int) := by decide +kernel
theorem letU_all (c : Int) (h0 : 0 ≤ c) (h1 : c < 16) : (((⟨#[48, 49, 50, 51, 52, 53, 54, 55, 56, 57, 65, 66, 67, 68, 69, 70]⟩ : ByteArray)[c.toNat]'(by show c.toNat < 16; omega)).toNat : Int) = letU c := by
  have h := letU_fin ⟨c.toNat, by omega⟩
  simp only at h
  rw [h, Int.toNat_of_nonneg h0]
theorem hex_letU (d : Int) (h0 : 0 ≤ d) (h1 : d < 16) : hexN (letU d) = d := by
  unfold hexN letU
  (repeat' split) <;> omega
/-- A number's four digits, told. -/
theorem esc_all {a b c d q : Int} (h0 : 0 ≤ q) (h1 : q < 65536) (ha : hexN a = q / 4096) (hb : hexN b = q / 256 % 16) (hc : hexN c = q / 16 % 16) (hd : hexN d = q % 16) :
    (mayN q = true → allI [92, 117, a, b, c, d, 34] QS.new 0 = (⟨bnums (putS q).data.toList, false, 0, q, true⟩, 6, true, 0)) ∧ (mayN q = false → allI [92, 117, a, b, c, d, 34] QS.new 0 = (⟨[], false, 0, q, false⟩, 5, false, 9)) := by
  have e1 : allI [92, 117, a, b, c, d, 34] QS.new 0 = allI [d, 34] ⟨[], false, 1, 16 * (16 * (16 * 0 + hexN a) + hexN b) + hexN c, false⟩ 5 := by
    rw [show QS.new = ⟨[], false, 0, 0, false⟩ from rfl, allI_step step_back, allI_step step_four, allI_step (step_dig (by omega) (by omega)), allI_step (step_dig (by omega) (by omega)), allI_step (step_dig (by omega) (by omega))]
    rfl
  have eq : 16 * (16 * (16 * (16 * 0 + hexN a) + hexN b) + hexN c) + hexN d = q := by rw [ha, hb, hc, hd]; omega
  generalize hn : 16 * (16 * (16 * 0 + hexN a) + hexN b) + hexN c = n at e1 eq
  have hs : stepQ ⟨[], false, 1, n, false⟩ d = (false, digQ ⟨[], false, 1, n, false⟩ d) := by
    unfold stepQ
    simp only [Bool.false_eq_true, if_false, if_pos (by omega : (0 : Int) < 1)]
  have hdq : digQ ⟨[], false, 1, n, false⟩ d = if mayN q then addQ ⟨[], false, 0, q, false⟩ (bnums (putS q).data.toList) else (9, ⟨[], false, 0, q, false⟩) := by
    unfold digQ
    simp only [if_neg (by omega : ¬ hexN d < 0), if_neg (by omega : ¬ (1 : Int) < 1), eq]
  rw [hdq] at hs
  have hlen : (bnums (putS q).data.toList).length = (putS q).size := (bnums_len _).trans (size_data _)
  have h4 := putS_size q
  constructor
  · intro hm
    rw [if_pos hm] at hs
    unfold addQ at hs
    rw [if_neg (by simp only [List.length_nil]; omega)] at hs
    rw [e1, allI_step hs, allI_stop stop_end (.inl rfl)]
    rfl
  · intro hm
    rw [if_neg (by simp [hm])] at hs
    rw [e1, allI_stop hs (.inr (by decide))]
theorem esc_str (x1 x2 x3 x4 : Int) (h1 : 0 ≤ x1 ∧ x1 < 256) (h2 : 0 ≤ x2 ∧ x2 < 256) (h3 : 0 ≤ x3 ∧ x3 < 256) (h4 : 0 ≤ x4 ∧ x4 < 256) :
    allS (⟨#[92, 117]⟩ ++ strOfNums [x1, x2, x3, x4] ++ ⟨#[34]⟩) = allI [92, 117, x1, x2, x3, x4, 34] QS.new 0 := by
  unfold allS
  rw [allL_eq]
  congr 1
  simp [bnums, ByteArray.data_append, strOfNums_data]
  omega

theorem neg_mod {r : Int} (h0 : r < 0) : 0 ≤ -((r + 1).tmod 65536) ∧ -((r + 1).tmod 65536) < 65536 := by
  rw [← Int.neg_tmod, Int.tmod_eq_emod_of_nonneg (by omega)]
  omega
theorem pos_mod {r : Int} (h0 : 0 ≤ r) : 0 ≤ r % 65536 ∧ r % 65536 < 65536 := by omega
theorem let_byte (d : Int) (h0 : 0 ≤ d) (h1 : d < 16) : 0 ≤ letN d ∧ letN d < 256 := by unfold letN; split <;> omega
theorem letU_byte (d : Int) (h0 : 0 ≤ d) (h1 : d < 16) : 0 ≤ letU d ∧ letU d < 256 := by unfold letU; split <;> omega
theorem i32_in (q : Int) (h0 : 0 ≤ q) (h1 : q < 65536) : IntKind.i32.wrap q = q := by simp [IntKind.wrap, IntKind.signed, IntKind.bits]; omega

set_option maxHeartbeats 4000000 in
set_option maxRecDepth 100000 in
theorem law_QuoteEscapes (r : Int) (hr : -9223372036854775808 ≤ r ∧ r ≤ 9223372036854775807) (big : Bool) (w : World) (hT : Tabs w) :
    Calls Tryd.prog 8 #[.int .i64 r, .bool big] w fun e w' => e = .returned (.bool true) ∧ Below w.heap.size w w' := by
  have HT := Aside0.mk hT
  clear hT
  by_cases h0 : r < 0
  · have t1 : decide (r < 0) = true := decide_eq_true h0
    have t2 : wrap64 (r + 1) = r + 1 := w64 (by omega) (by omega)
    have t3 : wrap64 (-(r + 1)) = -(r + 1) := w64 (by omega) (by omega)
    go_enter Tryd.func8, Tryd.ntmps8
    cases big
    · skip
      go_wp2_with fail
      have hq := neg_mod h0
      generalize -((r + 1).tmod 65536) = q at *
      clear t1 t2 t3 h0 hr
      obtain ⟨q0, q1⟩ := hq
      have a1 : 0 ≤ q / 4096 := by omega
      have b1 : q / 4096 < 16 := by omega
      have X1 := Aside0.mk (let_all (q / 4096) a1 b1)
      have Y1 := Aside0.mk (let_byte (q / 4096) a1 b1)
      have Z1 := Aside0.mk (hex_let (q / 4096) a1 b1)
      have a2 : 0 ≤ q / 256 % 16 := by omega
      have b2 : q / 256 % 16 < 16 := by omega
      have X2 := Aside0.mk (let_all (q / 256 % 16) a2 b2)
      have Y2 := Aside0.mk (let_byte (q / 256 % 16) a2 b2)
      have Z2 := Aside0.mk (hex_let (q / 256 % 16) a2 b2)
      have a3 : 0 ≤ q / 16 % 16 := by omega
      have b3 : q / 16 % 16 < 16 := by omega
      have X3 := Aside0.mk (let_all (q / 16 % 16) a3 b3)
      have Y3 := Aside0.mk (let_byte (q / 16 % 16) a3 b3)
      have Z3 := Aside0.mk (hex_let (q / 16 % 16) a3 b3)
      have a4 : 0 ≤ q % 16 := by omega
      have b4 : q % 16 < 16 := by omega
      have X4 := Aside0.mk (let_all (q % 16) a4 b4)
      have Y4 := Aside0.mk (let_byte (q % 16) a4 b4)
      have Z4 := Aside0.mk (hex_let (q % 16) a4 b4)
      have e1 : q.tdiv 4096 = q / 4096 := Int.tdiv_eq_ediv_of_nonneg q0
      have e2 : q.tdiv 256 = q / 256 := Int.tdiv_eq_ediv_of_nonneg q0
      have e3 : q.tdiv 16 = q / 16 := Int.tdiv_eq_ediv_of_nonneg q0
      have v1 : IntKind.i64.wrap (q / 4096) = q / 4096 := Go.IntWalk.i64_in _ (by omega)
      have v2 : IntKind.i64.wrap (q / 256) = q / 256 := Go.IntWalk.i64_in _ (by omega)
      have v3 : IntKind.i64.wrap (q / 16) = q / 16 := Go.IntWalk.i64_in _ (by omega)
      have e4 : q.tmod 16 = q % 16 := Int.tmod_eq_emod_of_nonneg q0
      have e5 : (q / 256).tmod 16 = q / 256 % 16 := Int.tmod_eq_emod_of_nonneg (by omega)
      have e6 : (q / 16).tmod 16 = q / 16 % 16 := Int.tmod_eq_emod_of_nonneg (by omega)
      refine start_ (n := 23) (S := fun w' => True) (ds := []) #[false, false, false, false, false, false, false, false, false, false, false, false, false, false, false, false, false, false, false, false, false, false, false] (by kernel_rfl) rfl rfl trivial (fun hHeld => ?_)
      refine pure_ (i := 0) (N := some 19) (v := ?_) (a' := ?_) #[true, false, false, false, false, false, false, false, false, false, false, false, false, false, false, false, false, false, false, false, false, false, false] rfl rfl (by kernel_rfl) (fun _ _ _ h => h) (Or.inl ⟨by rfl, ?_⟩) ?_ ?_
      rotate_left
      · intro w'
        go_simp
        with_reducible rfl
      rotate_left
      · simp only [Act.put, List.setIfInBounds_toArray, List.set_cons_zero, List.set_cons_succ]
        rfl
      refine pure_ (i := 1) (N := some 20) (v := ?_) (a' := ?_) #[true, true, false, false, false, false, false, false, false, false, false, false, false, false, false, false, false, false, false, false, false, false, false] rfl rfl (by kernel_rfl) (fun _ _ _ h => h) (Or.inl ⟨by rfl, ?_⟩) ?_ ?_
      rotate_left
      · intro w'
        go_simp
        with_reducible rfl
      rotate_left
      · simp only [Act.put, List.setIfInBounds_toArray, List.set_cons_zero, List.set_cons_succ]
        rfl
      refine pure_ (i := 2) (N := some 21) (v := ?_) (a' := ?_) #[true, true, true, false, false, false, false, false, false, false, false, false, false, false, false, false, false, false, false, false, false, false, false] rfl rfl (by kernel_rfl) (fun _ _ _ h => h) (Or.inl ⟨by rfl, ?_⟩) ?_ ?_
      rotate_left
      · intro w'
        go_simp
        with_reducible rfl
      rotate_left
      · simp only [Act.put, List.setIfInBounds_toArray, List.set_cons_zero, List.set_cons_succ]
        rfl
      refine pure_ (i := 3) (N := some 22) (v := ?_) (a' := ?_) #[true, true, true, true, false, false, false, false, false, false, false, false, false, false, false, false, false, false, false, false, false, false, false] rfl rfl (by kernel_rfl) (fun _ _ _ h => h) (Or.inl ⟨by rfl, ?_⟩) ?_ ?_
      rotate_left
      · intro w'
        go_simp
        with_reducible rfl
      rotate_left
      · simp only [Act.put, List.setIfInBounds_toArray, List.set_cons_zero, List.set_cons_succ]
        rfl
      refine pure_ (i := 4) (N := some 23) (v := ?_) (a' := ?_) #[true, true, true, true, true, false, false, false, false, false, false, false, false, false, false, false, false, false, false, false, false, false, false] rfl rfl (by kernel_rfl) (fun _ _ _ h => h) (Or.inl ⟨by rfl, ?_⟩) ?_ ?_
      rotate_left
      · intro w'
        go_simp
        with_reducible rfl
      rotate_left
      · simp only [Act.put, List.setIfInBounds_toArray, List.set_cons_zero, List.set_cons_succ]
        rfl
      refine pure_ (i := 5) (N := some 24) (v := ?_) (a' := ?_) #[true, true, true, true, true, true, false, false, false, false, false, false, false, false, false, false, false, false, false, false, false, false, false] rfl rfl (by kernel_rfl) (fun _ _ _ h => h) (Or.inl ⟨by rfl, ?_⟩) ?_ ?_
      rotate_left
      · intro w'
        go_simp
        with_reducible rfl
      rotate_left
      · simp only [Act.put, List.setIfInBounds_toArray, List.set_cons_zero, List.set_cons_succ]
        rfl
      refine pure_ (i := 6) (N := some 25) (v := ?_) (a' := ?_) #[true, true, true, true, true, true, true, false, false, false, false, false, false, false, false, false, false, false, false, false, false, false, false] rfl rfl (by kernel_rfl) (fun _ _ _ h => h) (Or.inl ⟨by rfl, ?_⟩) ?_ ?_
      rotate_left
      · intro w'
        go_simp
        with_reducible rfl
      rotate_left
      · simp only [Act.put, List.setIfInBounds_toArray, List.set_cons_zero, List.set_cons_succ]
        rfl
      refine pure_ (i := 7) (N := some 26) (v := ?_) (a' := ?_) #[true, true, true, true, true, true, true, true, false, false, false, false, false, false, false, false, false, false, false, false, false, false, false] rfl rfl (by kernel_rfl) (fun _ _ _ h => h) (Or.inl ⟨by rfl, ?_⟩) ?_ ?_
      rotate_left
      · intro w'
        go_simp
        with_reducible rfl
      rotate_left
      · simp only [Act.put, List.setIfInBounds_toArray, List.set_cons_zero, List.set_cons_succ]
        rfl
      refine pure_ (i := 8) (N := some 27) (v := ?_) (a' := ?_) #[true, true, true, true, true, true, true, true, true, false, false, false, false, false, false, false, false, false, false, false, false, false, false] rfl rfl (by kernel_rfl) (fun _ _ _ h => h) (Or.inl ⟨by rfl, ?_⟩) ?_ ?_
      rotate_left
      · intro w'
        go_simp
        with_reducible rfl
      rotate_left
      · simp only [Act.put, List.setIfInBounds_toArray, List.set_cons_zero, List.set_cons_succ]
        rfl
      refine pure_ (i := 9) (N := some 28) (v := ?_) (a' := ?_) #[true, true, true, true, true, true, true, true, true, true, false, false, false, false, false, false, false, false, false, false, false, false, false] rfl rfl (by kernel_rfl) (fun _ _ _ h => h) (Or.inl ⟨by rfl, ?_⟩) ?_ ?_
      rotate_left
      · intro w'
        go_simp
        with_reducible rfl
      rotate_left
      · simp only [Act.put, List.setIfInBounds_toArray, List.set_cons_zero, List.set_cons_succ]
        rfl
      refine pure_ (i := 10) (N := some 29) (v := ?_) (a' := ?_) #[true, true, true, true, true, true, true, true, true, true, true, false, false, false, false, false, false, false, false, false, false, false, false] rfl rfl (by kernel_rfl) (fun _ _ _ h => h) (Or.inl ⟨by rfl, ?_⟩) ?_ ?_
      rotate_left
      · intro w'
        go_simp
        with_reducible rfl
      rotate_left
      · simp only [Act.put, List.setIfInBounds_toArray, List.set_cons_zero, List.set_cons_succ]
        rfl
      refine pure_ (i := 11) (N := some 30) (v := ?_) (a' := ?_) #[true, true, true, true, true, true, true, true, true, true, true, true, false, false, false, false, false, false, false, false, false, false, false] rfl rfl (by kernel_rfl) (fun _ _ _ h => h) (Or.inl ⟨by rfl, ?_⟩) ?_ ?_
      rotate_left
      · intro w'
        go_simp
        with_reducible rfl
      rotate_left
      · simp only [Act.put, List.setIfInBounds_toArray, List.set_cons_zero, List.set_cons_succ]
        rfl
      refine pure_ (i := 12) (N := some 31) (v := ?_) (a' := ?_) #[true, true, true, true, true, true, true, true, true, true, true, true, true, false, false, false, false, false, false, false, false, false, false] rfl rfl (by kernel_rfl) (fun _ _ _ h => h) (Or.inl ⟨by rfl, ?_⟩) ?_ ?_
      rotate_left
      · intro w'
        go_simp
        with_reducible rfl
      rotate_left
      · simp only [Act.put, List.setIfInBounds_toArray, List.set_cons_zero, List.set_cons_succ]
        rfl
      refine pure_ (i := 13) (N := some 32) (v := ?_) (a' := ?_) #[true, true, true, true, true, true, true, true, true, true, true, true, true, true, false, false, false, false, false, false, false, false, false] rfl rfl (by kernel_rfl) (fun _ _ _ h => h) (Or.inl ⟨by rfl, ?_⟩) ?_ ?_
      rotate_left
      · intro w'
        go_simp
        with_reducible rfl
      rotate_left
      · simp only [Act.put, List.setIfInBounds_toArray, List.set_cons_zero, List.set_cons_succ]
        rfl
      refine pure_ (i := 14) (N := some 33) (v := ?_) (a' := ?_) #[true, true, true, true, true, true, true, true, true, true, true, true, true, true, true, false, false, false, false, false, false, false, false] rfl rfl (by kernel_rfl) (fun _ _ _ h => h) (Or.inl ⟨by rfl, ?_⟩) ?_ ?_
      rotate_left
      · intro w'
        go_simp
        with_reducible rfl
      rotate_left
      · simp only [Act.put, List.setIfInBounds_toArray, List.set_cons_zero, List.set_cons_succ]
        rfl
      refine pure_ (i := 15) (N := some 34) (v := ?_) (a' := ?_) #[true, true, true, true, true, true, true, true, true, true, true, true, true, true, true, true, false, false, false, false, false, false, false] rfl rfl (by kernel_rfl) (fun _ _ _ h => h) (Or.inl ⟨by rfl, ?_⟩) ?_ ?_
      rotate_left
      · intro w'
        go_simp
        with_reducible rfl
      rotate_left
      · simp only [Act.put, List.setIfInBounds_toArray, List.set_cons_zero, List.set_cons_succ]
        rfl
      refine pure_ (i := 16) (N := some 35) (v := ?_) (a' := ?_) #[true, true, true, true, true, true, true, true, true, true, true, true, true, true, true, true, true, false, false, false, false, false, false] rfl rfl (by kernel_rfl) (fun _ _ _ h => h) (Or.inl ⟨by rfl, ?_⟩) ?_ ?_
      rotate_left
      · intro w'
        go_simp
        with_reducible rfl
      rotate_left
      · simp only [Act.put, List.setIfInBounds_toArray, List.set_cons_zero, List.set_cons_succ]
        rfl
      refine pure_ (i := 17) (N := some 36) (v := ?_) (a' := ?_) #[true, true, true, true, true, true, true, true, true, true, true, true, true, true, true, true, true, true, false, false, false, false, false] rfl rfl (by kernel_rfl) (fun _ _ _ h => h) (Or.inl ⟨by rfl, ?_⟩) ?_ ?_
      rotate_left
      · intro w'
        go_simp
        with_reducible rfl
      rotate_left
      · simp only [Act.put, List.setIfInBounds_toArray, List.set_cons_zero, List.set_cons_succ]
        rfl
      refine tail_ 18 5 (by kernel_rfl) (by decide) (by kernel_rfl) rfl ?_
      rw [X1.out, X2.out, X3.out, X4.out]
      have E := Aside0.mk (esc_all q0 q1 Z1.out Z2.out Z3.out Z4.out)
      have S := Aside0.mk (esc_str (letN (q / 4096)) (letN (q / 256 % 16)) (letN (q / 16 % 16)) (letN (q % 16)) Y1.out Y2.out Y3.out Y4.out)
      clear v1 v2 v3 X1 X2 X3 X4 Y1 Y2 Y3 Y4 Z1 Z2 Z3 Z4 e1 e2 e3 e4 e5 e6 a1 b1 a2 b2 a3 b3 a4 b4
      generalize letN (q / 4096) = x1 at E S ⊢
      generalize letN (q / 256 % 16) = x2 at E S ⊢
      generalize letN (q / 16 % 16) = x3 at E S ⊢
      generalize letN (q % 16) = x4 at E S ⊢
      rw [← S.out] at E
      generalize hst : (⟨#[92, 117]⟩ ++ strOfNums [x1, x2, x3, x4] ++ ⟨#[34]⟩ : ByteArray) = st at E
      have HSZ := Aside0.mk (show st.size ≤ 100 by rw [← hst]; simp [ByteArray.size_append, strOfNums_size]; decide)
      have HD := Aside0.mk (below_drew (Below.refl w.heap.size w))
      generalize wd : w.drew = w1 at HD ⊢
      simp only [List.drop_succ_cons, List.drop_zero]
      have HR := Aside0.mk (Kd.R_of_own (enc := Value.int .u8) (h1 := fun _ => rfl) (ok := fun _ => True) (own_lit w1 w.heap.size 5 .u8 [x1, x2, x3, x4] HD.out.size (by simp)) (fun _ _ => trivial))
      go_wp2_with (refine str_event rfl rfl rfl Tryd.underlying34 Tryd.underlying5 Tryd.underlying9 HR.out ?_)
      clear hst S wd
      refine (all_calls st (by have := HSZ.out; omega) _).mono ?_
      rintro e w2 ⟨t, n, d, f, rfl, ⟨h1, h2, h3, h4⟩, hb⟩
      have B1 := Aside0.mk (below_alloc HD.out (.cells #[Value.int IntKind.u8 x1, Value.int IntKind.u8 x2, Value.int IntKind.u8 x3, Value.int IntKind.u8 x4] 5))
      have B2 := Aside0.mk (B1.out.trans (below_mono hb B1.out.size))
      have HL := Aside0.mk (lives_calls w2 (HT.out.below B2.out))
      clear hb
      cases hm : mayN q
      · rw [E.out.2 hm] at h1 h2 h3 h4
        have hm' : 55296 ≤ q ∧ q ≤ 57343 := by
          unfold mayN at hm
          simp at hm
          omega
        have t1 : decide (55296 ≤ q) = true := decide_eq_true hm'.1
        have t2 : decide (q ≤ 57343) = true := decide_eq_true hm'.2
        subst h1 h2 h3 h4
        clear hm hm' E
        go_wp2_with fail
        refine HL.out.mono ?_
        rintro e w3 ⟨rfl, hb⟩
        have B3 := Aside0.mk (B2.out.trans (below_mono hb B2.out.size))
        clear hb
        go_wp2
        go_ret
        exact ⟨rfl, B3.out⟩
      · rw [E.out.1 hm] at h1 h2 h3 h4
        have hs : strOfNums (bnums (putS q).data.toList) = Utf8.encode q := by
          rw [← putS_yes hm]
          have := bnums_str (putS q).data.toList
          cases h5 : strOfNums (bnums (putS q).data.toList)
          cases h6 : putS q
          simp_all
        rw [hs] at h1
        have hm' : q < 55296 ∨ 57343 < q := by
          unfold mayN at hm
          simp at hm
          omega
        have v4 := i32_in q q0 q1
        have s1 := seq_true (rfl : Utf8.encode q = Utf8.encode q)
        subst h1 h2 h3 h4
        rcases hm' with hm' | hm'
        · have t1 : decide (55296 ≤ q) = false := decide_eq_false (by omega)
          clear hm hm' hs E
          go_wp2_with fail
          refine HL.out.mono ?_
          rintro e w3 ⟨rfl, hb⟩
          have B3 := Aside0.mk (B2.out.trans (below_mono hb B2.out.size))
          clear hb
          go_wp2
          go_ret
          exact ⟨rfl, B3.out⟩
        · have t1 : decide (55296 ≤ q) = true := decide_eq_true (by omega)
          have t2 : decide (q ≤ 57343) = false := decide_eq_false (by omega)
          clear hm hm' hs E
          go_wp2_with fail
          refine HL.out.mono ?_
          rintro e w3 ⟨rfl, hb⟩
          have B3 := Aside0.mk (B2.out.trans (below_mono hb B2.out.size))
          clear hb
          go_wp2
          go_ret
          exact ⟨rfl, B3.out⟩
    · skip
      go_wp2_with fail
      have hq := neg_mod h0
      generalize -((r + 1).tmod 65536) = q at *
      clear t1 t2 t3 h0 hr
      obtain ⟨q0, q1⟩ := hq
      have a1 : 0 ≤ q / 4096 := by omega
      have b1 : q / 4096 < 16 := by omega
      have X1 := Aside0.mk (letU_all (q / 4096) a1 b1)
      have Y1 := Aside0.mk (letU_byte (q / 4096) a1 b1)
      have Z1 := Aside0.mk (hex_letU (q / 4096) a1 b1)
      have a2 : 0 ≤ q / 256 % 16 := by omega
      have b2 : q / 256 % 16 < 16 := by omega
      have X2 := Aside0.mk (letU_all (q / 256 % 16) a2 b2)
      have Y2 := Aside0.mk (letU_byte (q / 256 % 16) a2 b2)
      have Z2 := Aside0.mk (hex_letU (q / 256 % 16) a2 b2)
      have a3 : 0 ≤ q / 16 % 16 := by omega
      have b3 : q / 16 % 16 < 16 := by omega
      have X3 := Aside0.mk (letU_all (q / 16 % 16) a3 b3)
      have Y3 := Aside0.mk (letU_byte (q / 16 % 16) a3 b3)
      have Z3 := Aside0.mk (hex_letU (q / 16 % 16) a3 b3)
      have a4 : 0 ≤ q % 16 := by omega
      have b4 : q % 16 < 16 := by omega
      have X4 := Aside0.mk (letU_all (q % 16) a4 b4)
      have Y4 := Aside0.mk (letU_byte (q % 16) a4 b4)
      have Z4 := Aside0.mk (hex_letU (q % 16) a4 b4)
      have e1 : q.tdiv 4096 = q / 4096 := Int.tdiv_eq_ediv_of_nonneg q0
      have e2 : q.tdiv 256 = q / 256 := Int.tdiv_eq_ediv_of_nonneg q0
      have e3 : q.tdiv 16 = q / 16 := Int.tdiv_eq_ediv_of_nonneg q0
      have v1 : IntKind.i64.wrap (q / 4096) = q / 4096 := Go.IntWalk.i64_in _ (by omega)
      have v2 : IntKind.i64.wrap (q / 256) = q / 256 := Go.IntWalk.i64_in _ (by omega)
      have v3 : IntKind.i64.wrap (q / 16) = q / 16 := Go.IntWalk.i64_in _ (by omega)
      have e4 : q.tmod 16 = q % 16 := Int.tmod_eq_emod_of_nonneg q0
      have e5 : (q / 256).tmod 16 = q / 256 % 16 := Int.tmod_eq_emod_of_nonneg (by omega)
      have e6 : (q / 16).tmod 16 = q / 16 % 16 := Int.tmod_eq_emod_of_nonneg (by omega)
      refine start_ (n := 23) (S := fun w' => True) (ds := []) #[false, false, false, false, false, false, false, false, false, false, false, false, false, false, false, false, false, false, false, false, false, false, false] (by kernel_rfl) rfl rfl trivial (fun hHeld => ?_)
      refine pure_ (i := 0) (N := some 19) (v := ?_) (a' := ?_) #[true, false, false, false, false, false, false, false, false, false, false, false, false, false, false, false, false, false, false, false, false, false, false] rfl rfl (by kernel_rfl) (fun _ _ _ h => h) (Or.inl ⟨by rfl, ?_⟩) ?_ ?_
      rotate_left
      · intro w'
        go_simp
        with_reducible rfl
      rotate_left
      · simp only [Act.put, List.setIfInBounds_toArray, List.set_cons_zero, List.set_cons_succ]
        rfl
      refine pure_ (i := 1) (N := some 20) (v := ?_) (a' := ?_) #[true, true, false, false, false, false, false, false, false, false, false, false, false, false, false, false, false, false, false, false, false, false, false] rfl rfl (by kernel_rfl) (fun _ _ _ h => h) (Or.inl ⟨by rfl, ?_⟩) ?_ ?_
      rotate_left
      · intro w'
        go_simp
        with_reducible rfl
      rotate_left
      · simp only [Act.put, List.setIfInBounds_toArray, List.set_cons_zero, List.set_cons_succ]
        rfl
      refine pure_ (i := 2) (N := some 21) (v := ?_) (a' := ?_) #[true, true, true, false, false, false, false, false, false, false, false, false, false, false, false, false, false, false, false, false, false, false, false] rfl rfl (by kernel_rfl) (fun _ _ _ h => h) (Or.inl ⟨by rfl, ?_⟩) ?_ ?_
      rotate_left
      · intro w'
        go_simp
        with_reducible rfl
      rotate_left
      · simp only [Act.put, List.setIfInBounds_toArray, List.set_cons_zero, List.set_cons_succ]
        rfl
      refine pure_ (i := 3) (N := some 22) (v := ?_) (a' := ?_) #[true, true, true, true, false, false, false, false, false, false, false, false, false, false, false, false, false, false, false, false, false, false, false] rfl rfl (by kernel_rfl) (fun _ _ _ h => h) (Or.inl ⟨by rfl, ?_⟩) ?_ ?_
      rotate_left
      · intro w'
        go_simp
        with_reducible rfl
      rotate_left
      · simp only [Act.put, List.setIfInBounds_toArray, List.set_cons_zero, List.set_cons_succ]
        rfl
      refine pure_ (i := 4) (N := some 23) (v := ?_) (a' := ?_) #[true, true, true, true, true, false, false, false, false, false, false, false, false, false, false, false, false, false, false, false, false, false, false] rfl rfl (by kernel_rfl) (fun _ _ _ h => h) (Or.inl ⟨by rfl, ?_⟩) ?_ ?_
      rotate_left
      · intro w'
        go_simp
        with_reducible rfl
      rotate_left
      · simp only [Act.put, List.setIfInBounds_toArray, List.set_cons_zero, List.set_cons_succ]
        rfl
      refine pure_ (i := 5) (N := some 24) (v := ?_) (a' := ?_) #[true, true, true, true, true, true, false, false, false, false, false, false, false, false, false, false, false, false, false, false, false, false, false] rfl rfl (by kernel_rfl) (fun _ _ _ h => h) (Or.inl ⟨by rfl, ?_⟩) ?_ ?_
      rotate_left
      · intro w'
        go_simp
        with_reducible rfl
      rotate_left
      · simp only [Act.put, List.setIfInBounds_toArray, List.set_cons_zero, List.set_cons_succ]
        rfl
      refine pure_ (i := 6) (N := some 25) (v := ?_) (a' := ?_) #[true, true, true, true, true, true, true, false, false, false, false, false, false, false, false, false, false, false, false, false, false, false, false] rfl rfl (by kernel_rfl) (fun _ _ _ h => h) (Or.inl ⟨by rfl, ?_⟩) ?_ ?_
      rotate_left
      · intro w'
        go_simp
        with_reducible rfl
      rotate_left
      · simp only [Act.put, List.setIfInBounds_toArray, List.set_cons_zero, List.set_cons_succ]
        rfl
      refine pure_ (i := 7) (N := some 26) (v := ?_) (a' := ?_) #[true, true, true, true, true, true, true, true, false, false, false, false, false, false, false, false, false, false, false, false, false, false, false] rfl rfl (by kernel_rfl) (fun _ _ _ h => h) (Or.inl ⟨by rfl, ?_⟩) ?_ ?_
      rotate_left
      · intro w'
        go_simp
        with_reducible rfl
      rotate_left
      · simp only [Act.put, List.setIfInBounds_toArray, List.set_cons_zero, List.set_cons_succ]
        rfl
      refine pure_ (i := 8) (N := some 27) (v := ?_) (a' := ?_) #[true, true, true, true, true, true, true, true, true, false, false, false, false, false, false, false, false, false, false, false, false, false, false] rfl rfl (by kernel_rfl) (fun _ _ _ h => h) (Or.inl ⟨by rfl, ?_⟩) ?_ ?_
      rotate_left
      · intro w'
        go_simp
        with_reducible rfl
      rotate_left
      · simp only [Act.put, List.setIfInBounds_toArray, List.set_cons_zero, List.set_cons_succ]
        rfl
      refine pure_ (i := 9) (N := some 28) (v := ?_) (a' := ?_) #[true, true, true, true, true, true, true, true, true, true, false, false, false, false, false, false, false, false, false, false, false, false, false] rfl rfl (by kernel_rfl) (fun _ _ _ h => h) (Or.inl ⟨by rfl, ?_⟩) ?_ ?_
      rotate_left
      · intro w'
        go_simp
        with_reducible rfl
      rotate_left
      · simp only [Act.put, List.setIfInBounds_toArray, List.set_cons_zero, List.set_cons_succ]
        rfl
      refine pure_ (i := 10) (N := some 29) (v := ?_) (a' := ?_) #[true, true, true, true, true, true, true, true, true, true, true, false, false, false, false, false, false, false, false, false, false, false, false] rfl rfl (by kernel_rfl) (fun _ _ _ h => h) (Or.inl ⟨by rfl, ?_⟩) ?_ ?_
      rotate_left
      · intro w'
        go_simp
        with_reducible rfl
      rotate_left
      · simp only [Act.put, List.setIfInBounds_toArray, List.set_cons_zero, List.set_cons_succ]
        rfl
      refine pure_ (i := 11) (N := some 30) (v := ?_) (a' := ?_) #[true, true, true, true, true, true, true, true, true, true, true, true, false, false, false, false, false, false, false, false, false, false, false] rfl rfl (by kernel_rfl) (fun _ _ _ h => h) (Or.inl ⟨by rfl, ?_⟩) ?_ ?_
      rotate_left
      · intro w'
        go_simp
        with_reducible rfl
      rotate_left
      · simp only [Act.put, List.setIfInBounds_toArray, List.set_cons_zero, List.set_cons_succ]
        rfl
      refine pure_ (i := 12) (N := some 31) (v := ?_) (a' := ?_) #[true, true, true, true, true, true, true, true, true, true, true, true, true, false, false, false, false, false, false, false, false, false, false] rfl rfl (by kernel_rfl) (fun _ _ _ h => h) (Or.inl ⟨by rfl, ?_⟩) ?_ ?_
      rotate_left
      · intro w'
        go_simp
        with_reducible rfl
      rotate_left
      · simp only [Act.put, List.setIfInBounds_toArray, List.set_cons_zero, List.set_cons_succ]
        rfl
      refine pure_ (i := 13) (N := some 32) (v := ?_) (a' := ?_) #[true, true, true, true, true, true, true, true, true, true, true, true, true, true, false, false, false, false, false, false, false, false, false] rfl rfl (by kernel_rfl) (fun _ _ _ h => h) (Or.inl ⟨by rfl, ?_⟩) ?_ ?_
      rotate_left
      · intro w'
        go_simp
        with_reducible rfl
      rotate_left
      · simp only [Act.put, List.setIfInBounds_toArray, List.set_cons_zero, List.set_cons_succ]
        rfl
      refine pure_ (i := 14) (N := some 33) (v := ?_) (a' := ?_) #[true, true, true, true, true, true, true, true, true, true, true, true, true, true, true, false, false, false, false, false, false, false, false] rfl rfl (by kernel_rfl) (fun _ _ _ h => h) (Or.inl ⟨by rfl, ?_⟩) ?_ ?_
      rotate_left
      · intro w'
        go_simp
        with_reducible rfl
      rotate_left
      · simp only [Act.put, List.setIfInBounds_toArray, List.set_cons_zero, List.set_cons_succ]
        rfl
      refine pure_ (i := 15) (N := some 34) (v := ?_) (a' := ?_) #[true, true, true, true, true, true, true, true, true, true, true, true, true, true, true, true, false, false, false, false, false, false, false] rfl rfl (by kernel_rfl) (fun _ _ _ h => h) (Or.inl ⟨by rfl, ?_⟩) ?_ ?_
      rotate_left
      · intro w'
        go_simp
        with_reducible rfl
      rotate_left
      · simp only [Act.put, List.setIfInBounds_toArray, List.set_cons_zero, List.set_cons_succ]
        rfl
      refine pure_ (i := 16) (N := some 35) (v := ?_) (a' := ?_) #[true, true, true, true, true, true, true, true, true, true, true, true, true, true, true, true, true, false, false, false, false, false, false] rfl rfl (by kernel_rfl) (fun _ _ _ h => h) (Or.inl ⟨by rfl, ?_⟩) ?_ ?_
      rotate_left
      · intro w'
        go_simp
        with_reducible rfl
      rotate_left
      · simp only [Act.put, List.setIfInBounds_toArray, List.set_cons_zero, List.set_cons_succ]
        rfl
      refine pure_ (i := 17) (N := some 36) (v := ?_) (a' := ?_) #[true, true, true, true, true, true, true, true, true, true, true, true, true, true, true, true, true, true, false, false, false, false, false] rfl rfl (by kernel_rfl) (fun _ _ _ h => h) (Or.inl ⟨by rfl, ?_⟩) ?_ ?_
      rotate_left
      · intro w'
        go_simp
        with_reducible rfl
      rotate_left
      · simp only [Act.put, List.setIfInBounds_toArray, List.set_cons_zero, List.set_cons_succ]
        rfl
      refine tail_ 18 5 (by kernel_rfl) (by decide) (by kernel_rfl) rfl ?_
      rw [X1.out, X2.out, X3.out, X4.out]
      have E := Aside0.mk (esc_all q0 q1 Z1.out Z2.out Z3.out Z4.out)
      have S := Aside0.mk (esc_str (letU (q / 4096)) (letU (q / 256 % 16)) (letU (q / 16 % 16)) (letU (q % 16)) Y1.out Y2.out Y3.out Y4.out)
      clear v1 v2 v3 X1 X2 X3 X4 Y1 Y2 Y3 Y4 Z1 Z2 Z3 Z4 e1 e2 e3 e4 e5 e6 a1 b1 a2 b2 a3 b3 a4 b4
      generalize letU (q / 4096) = x1 at E S ⊢
      generalize letU (q / 256 % 16) = x2 at E S ⊢
      generalize letU (q / 16 % 16) = x3 at E S ⊢
      generalize letU (q % 16) = x4 at E S ⊢
      rw [← S.out] at E
      generalize hst : (⟨#[92, 117]⟩ ++ strOfNums [x1, x2, x3, x4] ++ ⟨#[34]⟩ : ByteArray) = st at E
      have HSZ := Aside0.mk (show st.size ≤ 100 by rw [← hst]; simp [ByteArray.size_append, strOfNums_size]; decide)
      have HD := Aside0.mk (below_drew (Below.refl w.heap.size w))
      generalize wd : w.drew = w1 at HD ⊢
      simp only [List.drop_succ_cons, List.drop_zero]
      have HR := Aside0.mk (Kd.R_of_own (enc := Value.int .u8) (h1 := fun _ => rfl) (ok := fun _ => True) (own_lit w1 w.heap.size 5 .u8 [x1, x2, x3, x4] HD.out.size (by simp)) (fun _ _ => trivial))
      go_wp2_with (refine str_event rfl rfl rfl Tryd.underlying34 Tryd.underlying5 Tryd.underlying9 HR.out ?_)
      clear hst S wd
      refine (all_calls st (by have := HSZ.out; omega) _).mono ?_
      rintro e w2 ⟨t, n, d, f, rfl, ⟨h1, h2, h3, h4⟩, hb⟩
      have B1 := Aside0.mk (below_alloc HD.out (.cells #[Value.int IntKind.u8 x1, Value.int IntKind.u8 x2, Value.int IntKind.u8 x3, Value.int IntKind.u8 x4] 5))
      have B2 := Aside0.mk (B1.out.trans (below_mono hb B1.out.size))
      have HL := Aside0.mk (lives_calls w2 (HT.out.below B2.out))
      clear hb
      cases hm : mayN q
      · rw [E.out.2 hm] at h1 h2 h3 h4
        have hm' : 55296 ≤ q ∧ q ≤ 57343 := by
          unfold mayN at hm
          simp at hm
          omega
        have t1 : decide (55296 ≤ q) = true := decide_eq_true hm'.1
        have t2 : decide (q ≤ 57343) = true := decide_eq_true hm'.2
        subst h1 h2 h3 h4
        clear hm hm' E
        go_wp2_with fail
        refine HL.out.mono ?_
        rintro e w3 ⟨rfl, hb⟩
        have B3 := Aside0.mk (B2.out.trans (below_mono hb B2.out.size))
        clear hb
        go_wp2
        go_ret
        exact ⟨rfl, B3.out⟩
      · rw [E.out.1 hm] at h1 h2 h3 h4
        have hs : strOfNums (bnums (putS q).data.toList) = Utf8.encode q := by
          rw [← putS_yes hm]
          have := bnums_str (putS q).data.toList
          cases h5 : strOfNums (bnums (putS q).data.toList)
          cases h6 : putS q
          simp_all
        rw [hs] at h1
        have hm' : q < 55296 ∨ 57343 < q := by
          unfold mayN at hm
          simp at hm
          omega
        have v4 := i32_in q q0 q1
        have s1 := seq_true (rfl : Utf8.encode q = Utf8.encode q)
        subst h1 h2 h3 h4
        rcases hm' with hm' | hm'
        · have t1 : decide (55296 ≤ q) = false := decide_eq_false (by omega)
          clear hm hm' hs E
          go_wp2_with fail
          refine HL.out.mono ?_
          rintro e w3 ⟨rfl, hb⟩
          have B3 := Aside0.mk (B2.out.trans (below_mono hb B2.out.size))
          clear hb
          go_wp2
          go_ret
          exact ⟨rfl, B3.out⟩
        · have t1 : decide (55296 ≤ q) = true := decide_eq_true (by omega)
          have t2 : decide (q ≤ 57343) = false := decide_eq_false (by omega)
          clear hm hm' hs E
          go_wp2_with fail
          refine HL.out.mono ?_
          rintro e w3 ⟨rfl, hb⟩
          have B3 := Aside0.mk (B2.out.trans (below_mono hb B2.out.size))
          clear hb
          go_wp2
          go_ret
          exact ⟨rfl, B3.out⟩
  · replace h0 : 0 ≤ r := by omega
    have t1 : decide (r < 0) = false := decide_eq_false (by omega)
    go_enter Tryd.func8, Tryd.ntmps8
    cases big
    · skip
      go_wp2_with fail
      have hq := pos_mod h0
      generalize r % 65536 = q at *
      clear t1 h0 hr
      obtain ⟨q0, q1⟩ := hq
      have a1 : 0 ≤ q / 4096 := by omega
      have b1 : q / 4096 < 16 := by omega
      have X1 := Aside0.mk (let_all (q / 4096) a1 b1)
      have Y1 := Aside0.mk (let_byte (q / 4096) a1 b1)
      have Z1 := Aside0.mk (hex_let (q / 4096) a1 b1)
      have a2 : 0 ≤ q / 256 % 16 := by omega
      have b2 : q / 256 % 16 < 16 := by omega
      have X2 := Aside0.mk (let_all (q / 256 % 16) a2 b2)
      have Y2 := Aside0.mk (let_byte (q / 256 % 16) a2 b2)
      have Z2 := Aside0.mk (hex_let (q / 256 % 16) a2 b2)
      have a3 : 0 ≤ q / 16 % 16 := by omega
      have b3 : q / 16 % 16 < 16 := by omega
      have X3 := Aside0.mk (let_all (q / 16 % 16) a3 b3)
      have Y3 := Aside0.mk (let_byte (q / 16 % 16) a3 b3)
      have Z3 := Aside0.mk (hex_let (q / 16 % 16) a3 b3)
      have a4 : 0 ≤ q % 16 := by omega
      have b4 : q % 16 < 16 := by omega
      have X4 := Aside0.mk (let_all (q % 16) a4 b4)
      have Y4 := Aside0.mk (let_byte (q % 16) a4 b4)
      have Z4 := Aside0.mk (hex_let (q % 16) a4 b4)
      have e1 : q.tdiv 4096 = q / 4096 := Int.tdiv_eq_ediv_of_nonneg q0
      have e2 : q.tdiv 256 = q / 256 := Int.tdiv_eq_ediv_of_nonneg q0
      have e3 : q.tdiv 16 = q / 16 := Int.tdiv_eq_ediv_of_nonneg q0
      have v1 : IntKind.i64.wrap (q / 4096) = q / 4096 := Go.IntWalk.i64_in _ (by omega)
      have v2 : IntKind.i64.wrap (q / 256) = q / 256 := Go.IntWalk.i64_in _ (by omega)
      have v3 : IntKind.i64.wrap (q / 16) = q / 16 := Go.IntWalk.i64_in _ (by omega)
      have e4 : q.tmod 16 = q % 16 := Int.tmod_eq_emod_of_nonneg q0
      have e5 : (q / 256).tmod 16 = q / 256 % 16 := Int.tmod_eq_emod_of_nonneg (by omega)
      have e6 : (q / 16).tmod 16 = q / 16 % 16 := Int.tmod_eq_emod_of_nonneg (by omega)
      refine start_ (n := 23) (S := fun w' => True) (ds := []) #[false, false, false, false, false, false, false, false, false, false, false, false, false, false, false, false, false, false, false, false, false, false, false] (by kernel_rfl) rfl rfl trivial (fun hHeld => ?_)
      refine pure_ (i := 0) (N := some 19) (v := ?_) (a' := ?_) #[true, false, false, false, false, false, false, false, false, false, false, false, false, false, false, false, false, false, false, false, false, false, false] rfl rfl (by kernel_rfl) (fun _ _ _ h => h) (Or.inl ⟨by rfl, ?_⟩) ?_ ?_
      rotate_left
      · intro w'
        go_simp
        with_reducible rfl
      rotate_left
      · simp only [Act.put, List.setIfInBounds_toArray, List.set_cons_zero, List.set_cons_succ]
        rfl
      refine pure_ (i := 1) (N := some 20) (v := ?_) (a' := ?_) #[true, true, false, false, false, false, false, false, false, false, false, false, false, false, false, false, false, false, false, false, false, false, false] rfl rfl (by kernel_rfl) (fun _ _ _ h => h) (Or.inl ⟨by rfl, ?_⟩) ?_ ?_
      rotate_left
      · intro w'
        go_simp
        with_reducible rfl
      rotate_left
      · simp only [Act.put, List.setIfInBounds_toArray, List.set_cons_zero, List.set_cons_succ]
        rfl
      refine pure_ (i := 2) (N := some 21) (v := ?_) (a' := ?_) #[true, true, true, false, false, false, false, false, false, false, false, false, false, false, false, false, false, false, false, false, false, false, false] rfl rfl (by kernel_rfl) (fun _ _ _ h => h) (Or.inl ⟨by rfl, ?_⟩) ?_ ?_
      rotate_left
      · intro w'
        go_simp
        with_reducible rfl
      rotate_left
      · simp only [Act.put, List.setIfInBounds_toArray, List.set_cons_zero, List.set_cons_succ]
        rfl
      refine pure_ (i := 3) (N := some 22) (v := ?_) (a' := ?_) #[true, true, true, true, false, false, false, false, false, false, false, false, false, false, false, false, false, false, false, false, false, false, false] rfl rfl (by kernel_rfl) (fun _ _ _ h => h) (Or.inl ⟨by rfl, ?_⟩) ?_ ?_
      rotate_left
      · intro w'
        go_simp
        with_reducible rfl
      rotate_left
      · simp only [Act.put, List.setIfInBounds_toArray, List.set_cons_zero, List.set_cons_succ]
        rfl
      refine pure_ (i := 4) (N := some 23) (v := ?_) (a' := ?_) #[true, true, true, true, true, false, false, false, false, false, false, false, false, false, false, false, false, false, false, false, false, false, false] rfl rfl (by kernel_rfl) (fun _ _ _ h => h) (Or.inl ⟨by rfl, ?_⟩) ?_ ?_
      rotate_left
      · intro w'
        go_simp
        with_reducible rfl
      rotate_left
      · simp only [Act.put, List.setIfInBounds_toArray, List.set_cons_zero, List.set_cons_succ]
        rfl
      refine pure_ (i := 5) (N := some 24) (v := ?_) (a' := ?_) #[true, true, true, true, true, true, false, false, false, false, false, false, false, false, false, false, false, false, false, false, false, false, false] rfl rfl (by kernel_rfl) (fun _ _ _ h => h) (Or.inl ⟨by rfl, ?_⟩) ?_ ?_
      rotate_left
      · intro w'
        go_simp
        with_reducible rfl
      rotate_left
      · simp only [Act.put, List.setIfInBounds_toArray, List.set_cons_zero, List.set_cons_succ]
        rfl
      refine pure_ (i := 6) (N := some 25) (v := ?_) (a' := ?_) #[true, true, true, true, true, true, true, false, false, false, false, false, false, false, false, false, false, false, false, false, false, false, false] rfl rfl (by kernel_rfl) (fun _ _ _ h => h) (Or.inl ⟨by rfl, ?_⟩) ?_ ?_
      rotate_left
      · intro w'
        go_simp
        with_reducible rfl
      rotate_left
      · simp only [Act.put, List.setIfInBounds_toArray, List.set_cons_zero, List.set_cons_succ]
        rfl
      refine pure_ (i := 7) (N := some 26) (v := ?_) (a' := ?_) #[true, true, true, true, true, true, true, true, false, false, false, false, false, false, false, false, false, false, false, false, false, false, false] rfl rfl (by kernel_rfl) (fun _ _ _ h => h) (Or.inl ⟨by rfl, ?_⟩) ?_ ?_
      rotate_left
      · intro w'
        go_simp
        with_reducible rfl
      rotate_left
      · simp only [Act.put, List.setIfInBounds_toArray, List.set_cons_zero, List.set_cons_succ]
        rfl
      refine pure_ (i := 8) (N := some 27) (v := ?_) (a' := ?_) #[true, true, true, true, true, true, true, true, true, false, false, false, false, false, false, false, false, false, false, false, false, false, false] rfl rfl (by kernel_rfl) (fun _ _ _ h => h) (Or.inl ⟨by rfl, ?_⟩) ?_ ?_
      rotate_left
      · intro w'
        go_simp
        with_reducible rfl
      rotate_left
      · simp only [Act.put, List.setIfInBounds_toArray, List.set_cons_zero, List.set_cons_succ]
        rfl
      refine pure_ (i := 9) (N := some 28) (v := ?_) (a' := ?_) #[true, true, true, true, true, true, true, true, true, true, false, false, false, false, false, false, false, false, false, false, false, false, false] rfl rfl (by kernel_rfl) (fun _ _ _ h => h) (Or.inl ⟨by rfl, ?_⟩) ?_ ?_
      rotate_left
      · intro w'
        go_simp
        with_reducible rfl
      rotate_left
      · simp only [Act.put, List.setIfInBounds_toArray, List.set_cons_zero, List.set_cons_succ]
        rfl
      refine pure_ (i := 10) (N := some 29) (v := ?_) (a' := ?_) #[true, true, true, true, true, true, true, true, true, true, true, false, false, false, false, false, false, false, false, false, false, false, false] rfl rfl (by kernel_rfl) (fun _ _ _ h => h) (Or.inl ⟨by rfl, ?_⟩) ?_ ?_
      rotate_left
      · intro w'
        go_simp
        with_reducible rfl
      rotate_left
      · simp only [Act.put, List.setIfInBounds_toArray, List.set_cons_zero, List.set_cons_succ]
        rfl
      refine pure_ (i := 11) (N := some 30) (v := ?_) (a' := ?_) #[true, true, true, true, true, true, true, true, true, true, true, true, false, false, false, false, false, false, false, false, false, false, false] rfl rfl (by kernel_rfl) (fun _ _ _ h => h) (Or.inl ⟨by rfl, ?_⟩) ?_ ?_
      rotate_left
      · intro w'
        go_simp
        with_reducible rfl
      rotate_left
      · simp only [Act.put, List.setIfInBounds_toArray, List.set_cons_zero, List.set_cons_succ]
        rfl
      refine pure_ (i := 12) (N := some 31) (v := ?_) (a' := ?_) #[true, true, true, true, true, true, true, true, true, true, true, true, true, false, false, false, false, false, false, false, false, false, false] rfl rfl (by kernel_rfl) (fun _ _ _ h => h) (Or.inl ⟨by rfl, ?_⟩) ?_ ?_
      rotate_left
      · intro w'
        go_simp
        with_reducible rfl
      rotate_left
      · simp only [Act.put, List.setIfInBounds_toArray, List.set_cons_zero, List.set_cons_succ]
        rfl
      refine pure_ (i := 13) (N := some 32) (v := ?_) (a' := ?_) #[true, true, true, true, true, true, true, true, true, true, true, true, true, true, false, false, false, false, false, false, false, false, false] rfl rfl (by kernel_rfl) (fun _ _ _ h => h) (Or.inl ⟨by rfl, ?_⟩) ?_ ?_
      rotate_left
      · intro w'
        go_simp
        with_reducible rfl
      rotate_left
      · simp only [Act.put, List.setIfInBounds_toArray, List.set_cons_zero, List.set_cons_succ]
        rfl
      refine pure_ (i := 14) (N := some 33) (v := ?_) (a' := ?_) #[true, true, true, true, true, true, true, true, true, true, true, true, true, true, true, false, false, false, false, false, false, false, false] rfl rfl (by kernel_rfl) (fun _ _ _ h => h) (Or.inl ⟨by rfl, ?_⟩) ?_ ?_
      rotate_left
      · intro w'
        go_simp
        with_reducible rfl
      rotate_left
      · simp only [Act.put, List.setIfInBounds_toArray, List.set_cons_zero, List.set_cons_succ]
        rfl
      refine pure_ (i := 15) (N := some 34) (v := ?_) (a' := ?_) #[true, true, true, true, true, true, true, true, true, true, true, true, true, true, true, true, false, false, false, false, false, false, false] rfl rfl (by kernel_rfl) (fun _ _ _ h => h) (Or.inl ⟨by rfl, ?_⟩) ?_ ?_
      rotate_left
      · intro w'
        go_simp
        with_reducible rfl
      rotate_left
      · simp only [Act.put, List.setIfInBounds_toArray, List.set_cons_zero, List.set_cons_succ]
        rfl
      refine pure_ (i := 16) (N := some 35) (v := ?_) (a' := ?_) #[true, true, true, true, true, true, true, true, true, true, true, true, true, true, true, true, true, false, false, false, false, false, false] rfl rfl (by kernel_rfl) (fun _ _ _ h => h) (Or.inl ⟨by rfl, ?_⟩) ?_ ?_
      rotate_left
      · intro w'
        go_simp
        with_reducible rfl
      rotate_left
      · simp only [Act.put, List.setIfInBounds_toArray, List.set_cons_zero, List.set_cons_succ]
        rfl
      refine pure_ (i := 17) (N := some 36) (v := ?_) (a' := ?_) #[true, true, true, true, true, true, true, true, true, true, true, true, true, true, true, true, true, true, false, false, false, false, false] rfl rfl (by kernel_rfl) (fun _ _ _ h => h) (Or.inl ⟨by rfl, ?_⟩) ?_ ?_
      rotate_left
      · intro w'
        go_simp
        with_reducible rfl
      rotate_left
      · simp only [Act.put, List.setIfInBounds_toArray, List.set_cons_zero, List.set_cons_succ]
        rfl
      refine tail_ 18 5 (by kernel_rfl) (by decide) (by kernel_rfl) rfl ?_
      rw [X1.out, X2.out, X3.out, X4.out]
      have E := Aside0.mk (esc_all q0 q1 Z1.out Z2.out Z3.out Z4.out)
      have S := Aside0.mk (esc_str (letN (q / 4096)) (letN (q / 256 % 16)) (letN (q / 16 % 16)) (letN (q % 16)) Y1.out Y2.out Y3.out Y4.out)
      clear v1 v2 v3 X1 X2 X3 X4 Y1 Y2 Y3 Y4 Z1 Z2 Z3 Z4 e1 e2 e3 e4 e5 e6 a1 b1 a2 b2 a3 b3 a4 b4
      generalize letN (q / 4096) = x1 at E S ⊢
      generalize letN (q / 256 % 16) = x2 at E S ⊢
      generalize letN (q / 16 % 16) = x3 at E S ⊢
      generalize letN (q % 16) = x4 at E S ⊢
      rw [← S.out] at E
      generalize hst : (⟨#[92, 117]⟩ ++ strOfNums [x1, x2, x3, x4] ++ ⟨#[34]⟩ : ByteArray) = st at E
      have HSZ := Aside0.mk (show st.size ≤ 100 by rw [← hst]; simp [ByteArray.size_append, strOfNums_size]; decide)
      have HD := Aside0.mk (below_drew (Below.refl w.heap.size w))
      generalize wd : w.drew = w1 at HD ⊢
      simp only [List.drop_succ_cons, List.drop_zero]
      have HR := Aside0.mk (Kd.R_of_own (enc := Value.int .u8) (h1 := fun _ => rfl) (ok := fun _ => True) (own_lit w1 w.heap.size 5 .u8 [x1, x2, x3, x4] HD.out.size (by simp)) (fun _ _ => trivial))
      go_wp2_with (refine str_event rfl rfl rfl Tryd.underlying34 Tryd.underlying5 Tryd.underlying9 HR.out ?_)
      clear hst S wd
      refine (all_calls st (by have := HSZ.out; omega) _).mono ?_
      rintro e w2 ⟨t, n, d, f, rfl, ⟨h1, h2, h3, h4⟩, hb⟩
      have B1 := Aside0.mk (below_alloc HD.out (.cells #[Value.int IntKind.u8 x1, Value.int IntKind.u8 x2, Value.int IntKind.u8 x3, Value.int IntKind.u8 x4] 5))
      have B2 := Aside0.mk (B1.out.trans (below_mono hb B1.out.size))
      have HL := Aside0.mk (lives_calls w2 (HT.out.below B2.out))
      clear hb
      cases hm : mayN q
      · rw [E.out.2 hm] at h1 h2 h3 h4
        have hm' : 55296 ≤ q ∧ q ≤ 57343 := by
          unfold mayN at hm
          simp at hm
          omega
        have t1 : decide (55296 ≤ q) = true := decide_eq_true hm'.1
        have t2 : decide (q ≤ 57343) = true := decide_eq_true hm'.2
        subst h1 h2 h3 h4
        clear hm hm' E
        go_wp2_with fail
        refine HL.out.mono ?_
        rintro e w3 ⟨rfl, hb⟩
        have B3 := Aside0.mk (B2.out.trans (below_mono hb B2.out.size))
        clear hb
        go_wp2
        go_ret
        exact ⟨rfl, B3.out⟩
      · rw [E.out.1 hm] at h1 h2 h3 h4
        have hs : strOfNums (bnums (putS q).data.toList) = Utf8.encode q := by
          rw [← putS_yes hm]
          have := bnums_str (putS q).data.toList
          cases h5 : strOfNums (bnums (putS q).data.toList)
          cases h6 : putS q
          simp_all
        rw [hs] at h1
        have hm' : q < 55296 ∨ 57343 < q := by
          unfold mayN at hm
          simp at hm
          omega
        have v4 := i32_in q q0 q1
        have s1 := seq_true (rfl : Utf8.encode q = Utf8.encode q)
        subst h1 h2 h3 h4
        rcases hm' with hm' | hm'
        · have t1 : decide (55296 ≤ q) = false := decide_eq_false (by omega)
          clear hm hm' hs E
          go_wp2_with fail
          refine HL.out.mono ?_
          rintro e w3 ⟨rfl, hb⟩
          have B3 := Aside0.mk (B2.out.trans (below_mono hb B2.out.size))
          clear hb
          go_wp2
          go_ret
          exact ⟨rfl, B3.out⟩
        · have t1 : decide (55296 ≤ q) = true := decide_eq_true (by omega)
          have t2 : decide (q ≤ 57343) = false := decide_eq_false (by omega)
          clear hm hm' hs E
          go_wp2_with fail
          refine HL.out.mono ?_
          rintro e w3 ⟨rfl, hb⟩
          have B3 := Aside0.mk (B2.out.trans (below_mono hb B2.out.size))
          clear hb
          go_wp2
          go_ret
          exact ⟨rfl, B3.out⟩
    · skip
      go_wp2_with fail
      have hq := pos_mod h0
      generalize r % 65536 = q at *
      clear t1 h0 hr
      obtain ⟨q0, q1⟩ := hq
      have a1 : 0 ≤ q / 4096 := by omega
      have b1 : q / 4096 < 16 := by omega
      have X1 := Aside0.mk (letU_all (q / 4096) a1 b1)
      have Y1 := Aside0.mk (letU_byte (q / 4096) a1 b1)
      have Z1 := Aside0.mk (hex_letU (q / 4096) a1 b1)
      have a2 : 0 ≤ q / 256 % 16 := by omega
      have b2 : q / 256 % 16 < 16 := by omega
      have X2 := Aside0.mk (letU_all (q / 256 % 16) a2 b2)
      have Y2 := Aside0.mk (letU_byte (q / 256 % 16) a2 b2)
      have Z2 := Aside0.mk (hex_letU (q / 256 % 16) a2 b2)
      have a3 : 0 ≤ q / 16 % 16 := by omega
      have b3 : q / 16 % 16 < 16 := by omega
      have X3 := Aside0.mk (letU_all (q / 16 % 16) a3 b3)
      have Y3 := Aside0.mk (letU_byte (q / 16 % 16) a3 b3)
      have Z3 := Aside0.mk (hex_letU (q / 16 % 16) a3 b3)
      have a4 : 0 ≤ q % 16 := by omega
      have b4 : q % 16 < 16 := by omega
      have X4 := Aside0.mk (letU_all (q % 16) a4 b4)
      have Y4 := Aside0.mk (letU_byte (q % 16) a4 b4)
      have Z4 := Aside0.mk (hex_letU (q % 16) a4 b4)
      have e1 : q.tdiv 4096 = q / 4096 := Int.tdiv_eq_ediv_of_nonneg q0
      have e2 : q.tdiv 256 = q / 256 := Int.tdiv_eq_ediv_of_nonneg q0
      have e3 : q.tdiv 16 = q / 16 := Int.tdiv_eq_ediv_of_nonneg q0
      have v1 : IntKind.i64.wrap (q / 4096) = q / 4096 := Go.IntWalk.i64_in _ (by omega)
      have v2 : IntKind.i64.wrap (q / 256) = q / 256 := Go.IntWalk.i64_in _ (by omega)
      have v3 : IntKind.i64.wrap (q / 16) = q / 16 := Go.IntWalk.i64_in _ (by omega)
      have e4 : q.tmod 16 = q % 16 := Int.tmod_eq_emod_of_nonneg q0
      have e5 : (q / 256).tmod 16 = q / 256 % 16 := Int.tmod_eq_emod_of_nonneg (by omega)
      have e6 : (q / 16).tmod 16 = q / 16 % 16 := Int.tmod_eq_emod_of_nonneg (by omega)
      refine start_ (n := 23) (S := fun w' => True) (ds := []) #[false, false, false, false, false, false, false, false, false, false, false, false, false, false, false, false, false, false, false, false, false, false, false] (by kernel_rfl) rfl rfl trivial (fun hHeld => ?_)
      refine pure_ (i := 0) (N := some 19) (v := ?_) (a' := ?_) #[true, false, false, false, false, false, false, false, false, false, false, false, false, false, false, false, false, false, false, false, false, false, false] rfl rfl (by kernel_rfl) (fun _ _ _ h => h) (Or.inl ⟨by rfl, ?_⟩) ?_ ?_
      rotate_left
      · intro w'
        go_simp
        with_reducible rfl
      rotate_left
      · simp only [Act.put, List.setIfInBounds_toArray, List.set_cons_zero, List.set_cons_succ]
        rfl
      refine pure_ (i := 1) (N := some 20) (v := ?_) (a' := ?_) #[true, true, false, false, false, false, false, false, false, false, false, false, false, false, false, false, false, false, false, false, false, false, false] rfl rfl (by kernel_rfl) (fun _ _ _ h => h) (Or.inl ⟨by rfl, ?_⟩) ?_ ?_
      rotate_left
      · intro w'
        go_simp
        with_reducible rfl
      rotate_left
      · simp only [Act.put, List.setIfInBounds_toArray, List.set_cons_zero, List.set_cons_succ]
        rfl
      refine pure_ (i := 2) (N := some 21) (v := ?_) (a' := ?_) #[true, true, true, false, false, false, false, false, false, false, false, false, false, false, false, false, false, false, false, false, false, false, false] rfl rfl (by kernel_rfl) (fun _ _ _ h => h) (Or.inl ⟨by rfl, ?_⟩) ?_ ?_
      rotate_left
      · intro w'
        go_simp
        with_reducible rfl
      rotate_left
      · simp only [Act.put, List.setIfInBounds_toArray, List.set_cons_zero, List.set_cons_succ]
        rfl
      refine pure_ (i := 3) (N := some 22) (v := ?_) (a' := ?_) #[true, true, true, true, false, false, false, false, false, false, false, false, false, false, false, false, false, false, false, false, false, false, false] rfl rfl (by kernel_rfl) (fun _ _ _ h => h) (Or.inl ⟨by rfl, ?_⟩) ?_ ?_
      rotate_left
      · intro w'
        go_simp
        with_reducible rfl
      rotate_left
      · simp only [Act.put, List.setIfInBounds_toArray, List.set_cons_zero, List.set_cons_succ]
        rfl
      refine pure_ (i := 4) (N := some 23) (v := ?_) (a' := ?_) #[true, true, true, true, true, false, false, false, false, false, false, false, false, false, false, false, false, false, false, false, false, false, false] rfl rfl (by kernel_rfl) (fun _ _ _ h => h) (Or.inl ⟨by rfl, ?_⟩) ?_ ?_
      rotate_left
      · intro w'
        go_simp
        with_reducible rfl
      rotate_left
      · simp only [Act.put, List.setIfInBounds_toArray, List.set_cons_zero, List.set_cons_succ]
        rfl
      refine pure_ (i := 5) (N := some 24) (v := ?_) (a' := ?_) #[true, true, true, true, true, true, false, false, false, false, false, false, false, false, false, false, false, false, false, false, false, false, false] rfl rfl (by kernel_rfl) (fun _ _ _ h => h) (Or.inl ⟨by rfl, ?_⟩) ?_ ?_
      rotate_left
      · intro w'
        go_simp
        with_reducible rfl
      rotate_left
      · simp only [Act.put, List.setIfInBounds_toArray, List.set_cons_zero, List.set_cons_succ]
        rfl
      refine pure_ (i := 6) (N := some 25) (v := ?_) (a' := ?_) #[true, true, true, true, true, true, true, false, false, false, false, false, false, false, false, false, false, false, false, false, false, false, false] rfl rfl (by kernel_rfl) (fun _ _ _ h => h) (Or.inl ⟨by rfl, ?_⟩) ?_ ?_
      rotate_left
      · intro w'
        go_simp
        with_reducible rfl
      rotate_left
      · simp only [Act.put, List.setIfInBounds_toArray, List.set_cons_zero, List.set_cons_succ]
        rfl
      refine pure_ (i := 7) (N := some 26) (v := ?_) (a' := ?_) #[true, true, true, true, true, true, true, true, false, false, false, false, false, false, false, false, false, false, false, false, false, false, false] rfl rfl (by kernel_rfl) (fun _ _ _ h => h) (Or.inl ⟨by rfl, ?_⟩) ?_ ?_
      rotate_left
      · intro w'
        go_simp
        with_reducible rfl
      rotate_left
      · simp only [Act.put, List.setIfInBounds_toArray, List.set_cons_zero, List.set_cons_succ]
        rfl
      refine pure_ (i := 8) (N := some 27) (v := ?_) (a' := ?_) #[true, true, true, true, true, true, true, true, true, false, false, false, false, false, false, false, false, false, false, false, false, false, false] rfl rfl (by kernel_rfl) (fun _ _ _ h => h) (Or.inl ⟨by rfl, ?_⟩) ?_ ?_
      rotate_left
      · intro w'
        go_simp
        with_reducible rfl
      rotate_left
      · simp only [Act.put, List.setIfInBounds_toArray, List.set_cons_zero, List.set_cons_succ]
        rfl
      refine pure_ (i := 9) (N := some 28) (v := ?_) (a' := ?_) #[true, true, true, true, true, true, true, true, true, true, false, false, false, false, false, false, false, false, false, false, false, false, false] rfl rfl (by kernel_rfl) (fun _ _ _ h => h) (Or.inl ⟨by rfl, ?_⟩) ?_ ?_
      rotate_left
      · intro w'
        go_simp
        with_reducible rfl
      rotate_left
      · simp only [Act.put, List.setIfInBounds_toArray, List.set_cons_zero, List.set_cons_succ]
        rfl
      refine pure_ (i := 10) (N := some 29) (v := ?_) (a' := ?_) #[true, true, true, true, true, true, true, true, true, true, true, false, false, false, false, false, false, false, false, false, false, false, false] rfl rfl (by kernel_rfl) (fun _ _ _ h => h) (Or.inl ⟨by rfl, ?_⟩) ?_ ?_
      rotate_left
      · intro w'
        go_simp
        with_reducible rfl
      rotate_left
      · simp only [Act.put, List.setIfInBounds_toArray, List.set_cons_zero, List.set_cons_succ]
        rfl
      refine pure_ (i := 11) (N := some 30) (v := ?_) (a' := ?_) #[true, true, true, true, true, true, true, true, true, true, true, true, false, false, false, false, false, false, false, false, false, false, false] rfl rfl (by kernel_rfl) (fun _ _ _ h => h) (Or.inl ⟨by rfl, ?_⟩) ?_ ?_
      rotate_left
      · intro w'
        go_simp
        with_reducible rfl
      rotate_left
      · simp only [Act.put, List.setIfInBounds_toArray, List.set_cons_zero, List.set_cons_succ]
        rfl
      refine pure_ (i := 12) (N := some 31) (v := ?_) (a' := ?_) #[true, true, true, true, true, true, true, true, true, true, true, true, true, false, false, false, false, false, false, false, false, false, false] rfl rfl (by kernel_rfl) (fun _ _ _ h => h) (Or.inl ⟨by rfl, ?_⟩) ?_ ?_
      rotate_left
      · intro w'
        go_simp
        with_reducible rfl
      rotate_left
      · simp only [Act.put, List.setIfInBounds_toArray, List.set_cons_zero, List.set_cons_succ]
        rfl
      refine pure_ (i := 13) (N := some 32) (v := ?_) (a' := ?_) #[true, true, true, true, true, true, true, true, true, true, true, true, true, true, false, false, false, false, false, false, false, false, false] rfl rfl (by kernel_rfl) (fun _ _ _ h => h) (Or.inl ⟨by rfl, ?_⟩) ?_ ?_
      rotate_left
      · intro w'
        go_simp
        with_reducible rfl
      rotate_left
      · simp only [Act.put, List.setIfInBounds_toArray, List.set_cons_zero, List.set_cons_succ]
        rfl
      refine pure_ (i := 14) (N := some 33) (v := ?_) (a' := ?_) #[true, true, true, true, true, true, true, true, true, true, true, true, true, true, true, false, false, false, false, false, false, false, false] rfl rfl (by kernel_rfl) (fun _ _ _ h => h) (Or.inl ⟨by rfl, ?_⟩) ?_ ?_
      rotate_left
      · intro w'
        go_simp
        with_reducible rfl
      rotate_left
      · simp only [Act.put, List.setIfInBounds_toArray, List.set_cons_zero, List.set_cons_succ]
        rfl
      refine pure_ (i := 15) (N := some 34) (v := ?_) (a' := ?_) #[true, true, true, true, true, true, true, true, true, true, true, true, true, true, true, true, false, false, false, false, false, false, false] rfl rfl (by kernel_rfl) (fun _ _ _ h => h) (Or.inl ⟨by rfl, ?_⟩) ?_ ?_
      rotate_left
      · intro w'
        go_simp
        with_reducible rfl
      rotate_left
      · simp only [Act.put, List.setIfInBounds_toArray, List.set_cons_zero, List.set_cons_succ]
        rfl
      refine pure_ (i := 16) (N := some 35) (v := ?_) (a' := ?_) #[true, true, true, true, true, true, true, true, true, true, true, true, true, true, true, true, true, false, false, false, false, false, false] rfl rfl (by kernel_rfl) (fun _ _ _ h => h) (Or.inl ⟨by rfl, ?_⟩) ?_ ?_
      rotate_left
      · intro w'
        go_simp
        with_reducible rfl
      rotate_left
      · simp only [Act.put, List.setIfInBounds_toArray, List.set_cons_zero, List.set_cons_succ]
        rfl
      refine pure_ (i := 17) (N := some 36) (v := ?_) (a' := ?_) #[true, true, true, true, true, true, true, true, true, true, true, true, true, true, true, true, true, true, false, false, false, false, false] rfl rfl (by kernel_rfl) (fun _ _ _ h => h) (Or.inl ⟨by rfl, ?_⟩) ?_ ?_
      rotate_left
      · intro w'
        go_simp
        with_reducible rfl
      rotate_left
      · simp only [Act.put, List.setIfInBounds_toArray, List.set_cons_zero, List.set_cons_succ]
        rfl
      refine tail_ 18 5 (by kernel_rfl) (by decide) (by kernel_rfl) rfl ?_
      rw [X1.out, X2.out, X3.out, X4.out]
      have E := Aside0.mk (esc_all q0 q1 Z1.out Z2.out Z3.out Z4.out)
      have S := Aside0.mk (esc_str (letU (q / 4096)) (letU (q / 256 % 16)) (letU (q / 16 % 16)) (letU (q % 16)) Y1.out Y2.out Y3.out Y4.out)
      clear v1 v2 v3 X1 X2 X3 X4 Y1 Y2 Y3 Y4 Z1 Z2 Z3 Z4 e1 e2 e3 e4 e5 e6 a1 b1 a2 b2 a3 b3 a4 b4
      generalize letU (q / 4096) = x1 at E S ⊢
      generalize letU (q / 256 % 16) = x2 at E S ⊢
      generalize letU (q / 16 % 16) = x3 at E S ⊢
      generalize letU (q % 16) = x4 at E S ⊢
      rw [← S.out] at E
      generalize hst : (⟨#[92, 117]⟩ ++ strOfNums [x1, x2, x3, x4] ++ ⟨#[34]⟩ : ByteArray) = st at E
      have HSZ := Aside0.mk (show st.size ≤ 100 by rw [← hst]; simp [ByteArray.size_append, strOfNums_size]; decide)
      have HD := Aside0.mk (below_drew (Below.refl w.heap.size w))
      generalize wd : w.drew = w1 at HD ⊢
      simp only [List.drop_succ_cons, List.drop_zero]
      have HR := Aside0.mk (Kd.R_of_own (enc := Value.int .u8) (h1 := fun _ => rfl) (ok := fun _ => True) (own_lit w1 w.heap.size 5 .u8 [x1, x2, x3, x4] HD.out.size (by simp)) (fun _ _ => trivial))
      go_wp2_with (refine str_event rfl rfl rfl Tryd.underlying34 Tryd.underlying5 Tryd.underlying9 HR.out ?_)
      clear hst S wd
      refine (all_calls st (by have := HSZ.out; omega) _).mono ?_
      rintro e w2 ⟨t, n, d, f, rfl, ⟨h1, h2, h3, h4⟩, hb⟩
      have B1 := Aside0.mk (below_alloc HD.out (.cells #[Value.int IntKind.u8 x1, Value.int IntKind.u8 x2, Value.int IntKind.u8 x3, Value.int IntKind.u8 x4] 5))
      have B2 := Aside0.mk (B1.out.trans (below_mono hb B1.out.size))
      have HL := Aside0.mk (lives_calls w2 (HT.out.below B2.out))
      clear hb
      cases hm : mayN q
      · rw [E.out.2 hm] at h1 h2 h3 h4
        have hm' : 55296 ≤ q ∧ q ≤ 57343 := by
          unfold mayN at hm
          simp at hm
          omega
        have t1 : decide (55296 ≤ q) = true := decide_eq_true hm'.1
        have t2 : decide (q ≤ 57343) = true := decide_eq_true hm'.2
        subst h1 h2 h3 h4
        clear hm hm' E
        go_wp2_with fail
        refine HL.out.mono ?_
        rintro e w3 ⟨rfl, hb⟩
        have B3 := Aside0.mk (B2.out.trans (below_mono hb B2.out.size))
        clear hb
        go_wp2
        go_ret
        exact ⟨rfl, B3.out⟩
      · rw [E.out.1 hm] at h1 h2 h3 h4
        have hs : strOfNums (bnums (putS q).data.toList) = Utf8.encode q := by
          rw [← putS_yes hm]
          have := bnums_str (putS q).data.toList
          cases h5 : strOfNums (bnums (putS q).data.toList)
          cases h6 : putS q
          simp_all
        rw [hs] at h1
        have hm' : q < 55296 ∨ 57343 < q := by
          unfold mayN at hm
          simp at hm
          omega
        have v4 := i32_in q q0 q1
        have s1 := seq_true (rfl : Utf8.encode q = Utf8.encode q)
        subst h1 h2 h3 h4
        rcases hm' with hm' | hm'
        · have t1 : decide (55296 ≤ q) = false := decide_eq_false (by omega)
          clear hm hm' hs E
          go_wp2_with fail
          refine HL.out.mono ?_
          rintro e w3 ⟨rfl, hb⟩
          have B3 := Aside0.mk (B2.out.trans (below_mono hb B2.out.size))
          clear hb
          go_wp2
          go_ret
          exact ⟨rfl, B3.out⟩
        · have t1 : decide (55296 ≤ q) = true := decide_eq_true (by omega)
          have t2 : decide (q ≤ 57343) = false := decide_eq_false (by omega)
          clear hm hm' hs E
          go_wp2_with fail
          refine HL.out.mono ?_
          rintro e w3 ⟨rfl, hb⟩
          have B3 := Aside0.mk (B2.out.trans (below_mono hb B2.out.size))
          clear hb
          go_wp2
          go_ret
          exact ⟨rfl, B3.out⟩
end Go.Proofs.YtadbjbnnmooicaaDoor.Qw
