/- What the reference's Put computes, for every number: the character's bytes, or none. -/
import Derived.Test.YtadbjbnnmooicaaDoorSrcPutW
import Derived.Test.YtadbjbnnmooicaaDoorSrcMayQuotePrints
namespace Go.Proofs.YtadbjbnnmooicaaDoor.Srcw
open Go.RowKit Go.Proofs.YtadbjbnnmooicaaDoorW.PrintWords Go.Proofs.YtadbjbnnmooicaaDoorW.PrintLast Go.Proofs.YtadbjbnnmooicaaDoor.Own Go.Proofs.YtadbjbnnmooicaaDoor.PQuotePrints
set_option linter.unusedVariables false
set_option linter.unusedSimpArgs false

theorem infoByte : (Tryd.prog.info? 5).map (fun i => (i.zero, i.size, i.bytes)) = some (some (.int .u8 0), 1, 1) := by kernel_rfl

theorem enc_nat (n : Nat) : (n < 128 → Utf8.encode n = strOfNums [(n : Int)]) ∧ (128 ≤ n → n < 2048 → Utf8.encode n = strOfNums [192 + (n : Int) / 64, 128 + (n : Int) % 64]) ∧
    (2048 ≤ n → n < 65536 → (n < 55296 ∨ 57343 < n) → Utf8.encode n = strOfNums [224 + (n : Int) / 4096, 128 + (n : Int) / 64 % 64, 128 + (n : Int) % 64]) ∧
    (65536 ≤ n → n ≤ 1114111 → Utf8.encode n = strOfNums [240 + (n : Int) / 262144, 128 + (n : Int) / 4096 % 64, 128 + (n : Int) / 64 % 64, 128 + (n : Int) % 64]) := by
  have hv : (n < 55296 ∨ 57343 < n) → n ≤ 1114111 → Utf8.valid (n : Int) = true := by
    intro h1 h2; unfold Utf8.valid; simp; omega
  have cn : ∀ m : Nat, ∀ x : Int, x = (m : Int) → UInt8.ofNat x.toNat = UInt8.ofNat m := by intro m x h; rw [h]; rfl
  refine ⟨fun h => ?_, fun h1 h2 => ?_, fun h1 h2 h3 => ?_, fun h1 h2 => ?_⟩
  · unfold Utf8.encode strOfNums
    simp only [hv (by omega) (by omega), if_true, Int.toNat_natCast, List.map_cons, List.map_nil]
    rw [if_pos (by omega)]
  · unfold Utf8.encode strOfNums
    simp only [hv (by omega) (by omega), if_true, Int.toNat_natCast, List.map_cons, List.map_nil]
    rw [if_neg (by omega), if_pos (by omega), cn (192 + n / 64) _ (by omega), cn (128 + n % 64) _ (by omega)]
  · unfold Utf8.encode strOfNums
    simp only [hv h3 (by omega), if_true, Int.toNat_natCast, List.map_cons, List.map_nil]
    rw [if_neg (by omega), if_neg (by omega), if_pos (by omega), cn (224 + n / 4096) _ (by omega), cn (128 + n / 64 % 64) _ (by omega), cn (128 + n % 64) _ (by omega)]
  · unfold Utf8.encode strOfNums
    simp only [hv (by omega) (by omega), if_true, Int.toNat_natCast, List.map_cons, List.map_nil]
    rw [if_neg (by omega), if_neg (by omega), if_neg (by omega), cn (240 + n / 262144) _ (by omega), cn (128 + n / 4096 % 64) _ (by omega), cn (128 + n / 64 % 64) _ (by omega), cn (128 + n % 64) _ (by omega)]

set_option maxHeartbeats 1000000 in
set_option maxRecDepth 100000 in
theorem refput_no (r : Int) (w : World) (h : mayN r = false) : Calls Tryd.prog 19 #[.int .i64 r] w (PutPost r w) := by
  unfold PutPost
  rw [putS_no h, h]
  have HM := Aside0.mk (show hexaplaref01_May.f r = some false by rw [may_is]; rw [← h]; rfl)
  clear h
  go_enter Tryd.func19, Tryd.ntmps19
  go_wp2_with (go_at_call 28; refine (hexaplaref01_May.calls _ _ _ HM.out).mono ?_; rintro e w1 ⟨rfl, ⟨nd, rfl⟩⟩)
  go_ret2
  exact ⟨rfl, pw_below_drewN (Below.refl _ _) _⟩

set_option maxHeartbeats 1000000 in
set_option maxRecDepth 100000 in
theorem refput_1 (r : Int) (w : World) (h0 : 0 ≤ r) (h1 : r < 128) : Calls Tryd.prog 19 #[.int .i64 r] w (PutPost r w) := by
  have h : mayN r = true := by unfold mayN; simp; omega
  unfold PutPost
  rw [putS_yes h, h]
  have HM := Aside0.mk (show hexaplaref01_May.f r = some true by rw [may_is]; rw [← h]; rfl)
  have HL := Aside0.mk (show hexaplaref01_Long.f r = some 1 by rw [long_is]; unfold longN; congr 1; repeat' split <;> omega)
  have HE := Aside0.mk (show Utf8.encode r = strOfNums [r] by obtain ⟨n, rfl⟩ := Int.eq_ofNat_of_zero_le (show 0 ≤ r by omega); exact (enc_nat n).1 (by omega))
  clear h
  go_enter Tryd.func19, Tryd.ntmps19
  go_wp2_with (first | (go_at_call 28; refine (hexaplaref01_May.calls _ _ _ HM.out).mono ?_; rintro e w1 ⟨rfl, ⟨nd, rfl⟩⟩) | (go_at_call 29; refine (hexaplaref01_Long.calls _ _ _ HL.out).mono ?_; rintro e w1 ⟨rfl, ⟨nd2, rfl⟩⟩) | ((with_reducible refine gate_builtin (b := .append) (xs := #[.tmp 14, .tmp 17]) rfl ?_); at_builtin; refine append_lit (w0 := w) .u8 w.heap.size rfl (.tmp 14) (.tmp 17) 34 5 (.int .u8 0) 1 rfl Tryd.underlying34 infoByte rfl (by decide) (.slice none 0 0) [] [r] 1 rfl (fun _ => True) rfl rfl (fun _ _ => trivial) (Kd.R_nil _ _ _ _ _) (pw_below_drewN (Below.refl _ _) _) (Nat.le_refl _) (by decide) _ rfl ?_; intro v2 w2 ho hb; have hcv := own_string (P := Tryd.prog) Tryd.underlying34 Tryd.underlying5 Tryd.underlying9 (Kd.own_of_R ho); have HB2 := Aside0.mk hb; clear ho hb))
  go_ret2
  exact ⟨by rw [HE.out]; rfl, HB2.out⟩

set_option maxHeartbeats 1000000 in
set_option maxRecDepth 100000 in
theorem refput_2 (r : Int) (w : World) (h0 : 128 ≤ r) (h1 : r < 2048) : Calls Tryd.prog 19 #[.int .i64 r] w (PutPost r w) := by
  have h : mayN r = true := by unfold mayN; simp; omega
  unfold PutPost
  rw [putS_yes h, h]
  have HM := Aside0.mk (show hexaplaref01_May.f r = some true by rw [may_is]; rw [← h]; rfl)
  have HL := Aside0.mk (show hexaplaref01_Long.f r = some 2 by rw [long_is]; unfold longN; congr 1; repeat' split <;> omega)
  have HE := Aside0.mk (show Utf8.encode r = strOfNums [192 + r / 64, 128 + r % 64] by obtain ⟨n, rfl⟩ := Int.eq_ofNat_of_zero_le (show 0 ≤ r by omega); exact (enc_nat n).2.1 (by omega) (by omega))
  clear h
  go_enter Tryd.func19, Tryd.ntmps19
  go_wp2_with (first | (go_at_call 28; refine (hexaplaref01_May.calls _ _ _ HM.out).mono ?_; rintro e w1 ⟨rfl, ⟨nd, rfl⟩⟩) | (go_at_call 29; refine (hexaplaref01_Long.calls _ _ _ HL.out).mono ?_; rintro e w1 ⟨rfl, ⟨nd2, rfl⟩⟩) | ((with_reducible refine gate_builtin (b := .append) (xs := #[.tmp 21, .tmp 30]) rfl ?_); at_builtin; refine append_lit (w0 := w) .u8 w.heap.size rfl (.tmp 21) (.tmp 30) 34 5 (.int .u8 0) 1 rfl Tryd.underlying34 infoByte rfl (by decide) (.slice none 0 0) [] [192 + r / 64, 128 + r % 64] 2 rfl (fun _ => True) rfl rfl (fun _ _ => trivial) (Kd.R_nil _ _ _ _ _) (pw_below_drewN (Below.refl _ _) _) (Nat.le_refl _) (by decide) _ rfl ?_; intro v2 w2 ho hb; have hcv := own_string (P := Tryd.prog) Tryd.underlying34 Tryd.underlying5 Tryd.underlying9 (Kd.own_of_R ho); have HB2 := Aside0.mk hb; clear ho hb))
  go_ret2
  exact ⟨by rw [HE.out]; rfl, HB2.out⟩

set_option maxHeartbeats 1000000 in
set_option maxRecDepth 100000 in
theorem refput_3 (r : Int) (w : World) (h0 : 2048 ≤ r) (h1 : r < 65536) (h3 : r < 55296 ∨ 57343 < r) : Calls Tryd.prog 19 #[.int .i64 r] w (PutPost r w) := by
  have h : mayN r = true := by unfold mayN; simp; omega
  unfold PutPost
  rw [putS_yes h, h]
  have HM := Aside0.mk (show hexaplaref01_May.f r = some true by rw [may_is]; rw [← h]; rfl)
  have HL := Aside0.mk (show hexaplaref01_Long.f r = some 3 by rw [long_is]; unfold longN; congr 1; repeat' split <;> omega)
  have HE := Aside0.mk (show Utf8.encode r = strOfNums [224 + r / 4096, 128 + r / 64 % 64, 128 + r % 64] by obtain ⟨n, rfl⟩ := Int.eq_ofNat_of_zero_le (show 0 ≤ r by omega); exact (enc_nat n).2.2.1 (by omega) (by omega) (by omega))
  clear h
  go_enter Tryd.func19, Tryd.ntmps19
  go_wp2_with (first | (go_at_call 28; refine (hexaplaref01_May.calls _ _ _ HM.out).mono ?_; rintro e w1 ⟨rfl, ⟨nd, rfl⟩⟩) | (go_at_call 29; refine (hexaplaref01_Long.calls _ _ _ HL.out).mono ?_; rintro e w1 ⟨rfl, ⟨nd2, rfl⟩⟩) | ((with_reducible refine gate_builtin (b := .append) (xs := #[.tmp 34, .tmp 48]) rfl ?_); at_builtin; refine append_lit (w0 := w) .u8 w.heap.size rfl (.tmp 34) (.tmp 48) 34 5 (.int .u8 0) 1 rfl Tryd.underlying34 infoByte rfl (by decide) (.slice none 0 0) [] [224 + r / 4096, 128 + r / 64 % 64, 128 + r % 64] 3 rfl (fun _ => True) rfl rfl (fun _ _ => trivial) (Kd.R_nil _ _ _ _ _) (pw_below_drewN (Below.refl _ _) _) (Nat.le_refl _) (by decide) _ rfl ?_; intro v2 w2 ho hb; have hcv := own_string (P := Tryd.prog) Tryd.underlying34 Tryd.underlying5 Tryd.underlying9 (Kd.own_of_R ho); have HB2 := Aside0.mk hb; clear ho hb))
  go_ret2
  exact ⟨by rw [HE.out]; rfl, HB2.out⟩

set_option maxHeartbeats 1000000 in
set_option maxRecDepth 100000 in
theorem refput_4 (r : Int) (w : World) (h0 : 65536 ≤ r) (h1 : r ≤ 1114111) : Calls Tryd.prog 19 #[.int .i64 r] w (PutPost r w) := by
  have h : mayN r = true := by unfold mayN; simp; omega
  unfold PutPost
  rw [putS_yes h, h]
  have HM := Aside0.mk (show hexaplaref01_May.f r = some true by rw [may_is]; rw [← h]; rfl)
  have HL := Aside0.mk (show hexaplaref01_Long.f r = some 4 by rw [long_is]; unfold longN; congr 1; repeat' split <;> omega)
  have HE := Aside0.mk (show Utf8.encode r = strOfNums [240 + r / 262144, 128 + r / 4096 % 64, 128 + r / 64 % 64, 128 + r % 64] by obtain ⟨n, rfl⟩ := Int.eq_ofNat_of_zero_le (show 0 ≤ r by omega); exact (enc_nat n).2.2.2 (by omega) (by omega))
  clear h
  go_enter Tryd.func19, Tryd.ntmps19
  go_wp2_with (first | (go_at_call 28; refine (hexaplaref01_May.calls _ _ _ HM.out).mono ?_; rintro e w1 ⟨rfl, ⟨nd, rfl⟩⟩) | (go_at_call 29; refine (hexaplaref01_Long.calls _ _ _ HL.out).mono ?_; rintro e w1 ⟨rfl, ⟨nd2, rfl⟩⟩) | ((with_reducible refine gate_builtin (b := .append) (xs := #[.tmp 52, .tmp 71]) rfl ?_); at_builtin; refine append_lit (w0 := w) .u8 w.heap.size rfl (.tmp 52) (.tmp 71) 34 5 (.int .u8 0) 1 rfl Tryd.underlying34 infoByte rfl (by decide) (.slice none 0 0) [] [240 + r / 262144, 128 + r / 4096 % 64, 128 + r / 64 % 64, 128 + r % 64] 4 rfl (fun _ => True) rfl rfl (fun _ _ => trivial) (Kd.R_nil _ _ _ _ _) (pw_below_drewN (Below.refl _ _) _) (Nat.le_refl _) (by decide) _ rfl ?_; intro v2 w2 ho hb; have hcv := own_string (P := Tryd.prog) Tryd.underlying34 Tryd.underlying5 Tryd.underlying9 (Kd.own_of_R ho); have HB2 := Aside0.mk hb; clear ho hb))
  go_ret2
  exact ⟨by rw [HE.out]; rfl, HB2.out⟩

/-- The reference's Put, for every number. -/
theorem refput_calls (r : Int) (w : World) : Calls Tryd.prog 19 #[.int .i64 r] w (PutPost r w) := by
  cases hm : mayN r
  · exact refput_no r w hm
  · have hm' : 0 ≤ r ∧ r ≤ 1114111 ∧ (r < 55296 ∨ 57343 < r) := by simpa [mayN] using hm
    by_cases h1 : r < 128
    · exact refput_1 r w (by omega) h1
    by_cases h2 : r < 2048
    · exact refput_2 r w (by omega) h2
    by_cases h3 : r < 65536
    · exact refput_3 r w (by omega) h3 hm'.2.2
    · exact refput_4 r w (by omega) hm'.2.1
end Go.Proofs.YtadbjbnnmooicaaDoor.Srcw
