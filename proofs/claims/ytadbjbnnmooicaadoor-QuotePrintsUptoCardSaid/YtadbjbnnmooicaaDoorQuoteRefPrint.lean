/- The reference's Print, walked. -/
import Derived.Test.YtadbjbnnmooicaaDoorQuotePrint
import Derived.Test.YtadbjbnnmooicaaDoorOwn3
import Derived.Test.YtadbjbnnmooicaaDoorSrcRefRunesQuotePrints
namespace Go.Proofs.YtadbjbnnmooicaaDoor.Qw
open Go.RowKit Go.Proofs.YtadbjbnnmooicaaDoorW.PrintWords Go.Proofs.YtadbjbnnmooicaaDoorW.PrintLast Go.Proofs.YtadbjbnnmooicaaDoor.Own Go.Proofs.YtadbjbnnmooicaaDoor.Srcw Go.Proofs.YtadbjbnnmooicaaDoor.Tab Go.Proofs.YtadbjbnnmooicaaDoor.PQuotePrints
set_option linter.unusedVariables false
set_option linter.unusedSimpArgs false

set_option maxHeartbeats 2000000 in
set_option maxRecDepth 100000 in
theorem refprint_none (s : ByteArray) (w : World) (hs : s.size < 17592186044416) (hv : Lib.validD s.data.toList = false) :
    Calls Tryd.prog 16 #[.string s] w fun e w' => e = .returned (.tuple #[.string ⟨#[]⟩, .int .i64 3]) ∧ Below w.heap.size w w' := by
  have HC := Aside0.mk (refvalid_calls s hs w)
  have HV := Aside0.mk hv
  clear hv hs
  go_enter Tryd.func16, Tryd.ntmps16
  go_wp2_with fail
  refine HC.out.mono ?_
  rintro e w1 ⟨rfl, hb⟩
  rw [HV.out]
  go_wp2
  go_ret2
  exact ⟨rfl, hb⟩

set_option maxHeartbeats 2000000 in
set_option maxRecDepth 100000 in
theorem refprint_long (s : ByteArray) (w : World) (hs : s.size < 17592186044416) (hv : Lib.validD s.data.toList = true) (hl : 48 < s.size) :
    Calls Tryd.prog 16 #[.string s] w fun e w' => e = .returned (.tuple #[.string ⟨#[]⟩, .int .i64 4]) ∧ Below w.heap.size w w' := by
  have HC := Aside0.mk (refvalid_calls s hs w)
  have HV := Aside0.mk hv
  have t1 : decide (48 < (s.size : Int)) = true := decide_eq_true (by omega)
  have t2 : decide (48 < s.size) = true := decide_eq_true (by omega)
  clear hv hs hl
  go_enter Tryd.func16, Tryd.ntmps16
  go_wp2_with fail
  refine HC.out.mono ?_
  rintro e w1 ⟨rfl, hb⟩
  rw [HV.out]
  go_wp2
  go_ret2
  exact ⟨rfl, hb⟩

def outL (s : ByteArray) (i : Nat) : List Int := [34] ++ prtL (bnums (s.data.toList.take i))
theorem outL_snoc (s : ByteArray) (i : Nat) (h : i < s.size) (q : List Int) (hq : prtN (s[i].toNat : Int) = q) : outL s (i + 1) = outL s i ++ q := by
  have hget : ((s.data.toList.getD i 0).toNat : Int) = (s[i].toNat : Int) := by
    have h1 := bt_get s i h
    rw [← h1]; unfold bt; simp only [Int.toNat_natCast]; rw [dif_pos h]
  exact prt_snoc s i h q (by rw [hget]; exact hq)
theorem outL_len (s : ByteArray) (i : Nat) (hi : i ≤ s.size) : (outL s i).length ≤ 1 + 6 * i := by
  have := prt_len (s.data.toList.take i) i (by simp; omega)
  unfold outL
  rw [List.length_append]
  show 1 + _ ≤ _
  omega
theorem outL_all (s : ByteArray) : outL s s.size = [34] ++ prtL (bnums s.data.toList) := by
  unfold outL
  rw [List.take_of_length_le (by rw [size_data]; exact Nat.le_refl _)]

set_option maxHeartbeats 4000000 in
set_option maxRecDepth 100000 in
theorem refprint_text (s : ByteArray) (w : World) (hv : Lib.validD s.data.toList = true) (hl : s.size ≤ 48) :
    Calls Tryd.prog 16 #[.string s] w fun e w' => e = .returned (.tuple #[.string (strOfNums ([34] ++ prtL (bnums s.data.toList) ++ [34])), .int .i64 0]) ∧ Below w.heap.size w w' := by
  have HC := Aside0.mk (refvalid_calls s (by omega) w)
  have HV := Aside0.mk hv
  have HS := Aside0.mk hl
  have t1 : decide (48 < (s.size : Int)) = false := decide_eq_false (by omega)
  have t2 : decide (48 < s.size) = false := decide_eq_false (by omega)
  clear hv hl
  go_enter Tryd.func16, Tryd.ntmps16
  go_wp2_with fail
  refine HC.out.mono ?_
  rintro e w1 ⟨rfl, hb⟩
  rw [HV.out]
  have HB := Aside0.mk hb
  clear hb
  go_wp2_with ((with_reducible refine gate_builtin (b := .append) (xs := #[.tmp 15, .tmp 16]) rfl ?_); at_builtin; refine append_lit (w0 := w) .u8 w.heap.size rfl (.tmp 15) (.tmp 16) 34 5 (.int .u8 0) 1 rfl Tryd.underlying34 infoByte rfl (by decide) (.slice none 0 0) [] [34] 1 rfl (fun _ => True) rfl rfl (fun _ _ => trivial) (Kd.R_nil _ _ _ _ _) HB.out HB.out.size (by decide) _ rfl ?_; intro v2 w2 ho hb; obtain ⟨A2, n2, hv2⟩ := Kd.R_slice ho; have R2 := Aside0.mk ho; have B2 := Aside0.mk hb; clear ho hb; subst hv2)
  go_loopg [5, 6] (s.size + 1) (fun gk v5 v6 wr => ∃ (i : Nat) (A : Option Addr) (c : Nat), v6 = .int .i64 i ∧ v5 = .slice A (outL s i).length c ∧ Aside0 (i ≤ s.size) ∧ Aside0 (s.size - i < gk) ∧ Aside0 ((Kd.int .u8).R 5 wr w.heap.size (fun _ => True) (.slice A (outL s i).length c) (outL s i)) ∧ Aside0 (Below w.heap.size w wr))
  case atStart => exact ⟨0, A2, n2, rfl, rfl, ⟨Nat.zero_le _⟩, ⟨by omega⟩, R2, B2⟩
  case round =>
    obtain ⟨i, A, c, rfl, rfl, P1, P2, P3, P4⟩ := hrel
    cases gk with
    | zero => exact absurd P2.out (by omega)
    | succ k1 =>
    by_cases hlt : i < s.size
    · have HLN := outL_len s i (by omega)
      have tw : wrap64 ((i : Int) + 1) = (i : Int) + 1 := by have := HS.out; exact w64 (by omega) (by omega)
      have HLE := Aside0.mk (show ∀ m, m ≤ 100 → ((outL s i).length + m) * 1 ≤ 140737488355328 from fun m hm => by
        have h1 := HS.out
        omega)
      clear HLN
      have hc1 : (s[i].toNat : Int) < 256 := by have := s[i].toNat_lt; omega
      by_cases h34 : (s[i].toNat : Int) = 34
      · have q34 : (s[i].toNat == 34) = true := by simp; omega
        have r34 : ((s[i].toNat : Int) == 34) = true := by simp; omega
        have HO := Aside0.mk (outL_snoc s i hlt [92, 34] (by rw [h34]; rfl))
        go_wp2_with ((with_reducible refine gate_builtin (b := .append) (xs := #[.tmp 38, .tmp 40]) rfl ?_); at_builtin; refine append_lit (w0 := w) .u8 w.heap.size rfl (.tmp 38) (.tmp 40) 34 5 (.int .u8 0) 1 rfl Tryd.underlying34 infoByte rfl (by decide) _ (outL s i) [92, 34] 2 rfl (fun _ => True) rfl rfl (fun _ _ => trivial) P3.out P4.out P4.out.size (HLE.out _ (by decide)) _ rfl ?_; intro v2 w2 ho hb; obtain ⟨A3, n3, hv2⟩ := Kd.R_slice ho; have R3 := Aside0.mk ho; have B3 := Aside0.mk hb; clear ho hb; subst hv2)
        go_roundg k1
        case measure => have := P2.out; omega
        case rel => exact ⟨i + 1, A3, n3, by go_num, by simp [HO.out], ⟨by omega⟩, ⟨by have := P2.out; omega⟩, ⟨by rw [HO.out]; exact R3.out⟩, B3⟩
      have q34 : (s[i].toNat == 34) = false := by simp; omega
      have r34 : ((s[i].toNat : Int) == 34) = false := by simp; omega
      by_cases h92 : (s[i].toNat : Int) = 92
      · have q92 : (s[i].toNat == 92) = true := by simp; omega
        have r92 : ((s[i].toNat : Int) == 92) = true := by simp; omega
        have HO := Aside0.mk (outL_snoc s i hlt [92, 92] (by rw [h92]; rfl))
        go_wp2_with ((with_reducible refine gate_builtin (b := .append) (xs := #[.tmp 38, .tmp 40]) rfl ?_); at_builtin; refine append_lit (w0 := w) .u8 w.heap.size rfl (.tmp 38) (.tmp 40) 34 5 (.int .u8 0) 1 rfl Tryd.underlying34 infoByte rfl (by decide) _ (outL s i) [92, 92] 2 rfl (fun _ => True) rfl rfl (fun _ _ => trivial) P3.out P4.out P4.out.size (HLE.out _ (by decide)) _ rfl ?_; intro v2 w2 ho hb; obtain ⟨A3, n3, hv2⟩ := Kd.R_slice ho; have R3 := Aside0.mk ho; have B3 := Aside0.mk hb; clear ho hb; subst hv2)
        go_roundg k1
        case measure => have := P2.out; omega
        case rel => exact ⟨i + 1, A3, n3, by go_num, by simp [HO.out], ⟨by omega⟩, ⟨by have := P2.out; omega⟩, ⟨by rw [HO.out]; exact R3.out⟩, B3⟩
      have q92 : (s[i].toNat == 92) = false := by simp; omega
      have r92 : ((s[i].toNat : Int) == 92) = false := by simp; omega
      by_cases h10 : (s[i].toNat : Int) = 10
      · have q10 : (s[i].toNat == 10) = true := by simp; omega
        have r10 : ((s[i].toNat : Int) == 10) = true := by simp; omega
        have HO := Aside0.mk (outL_snoc s i hlt [92, 110] (by rw [h10]; rfl))
        go_wp2_with ((with_reducible refine gate_builtin (b := .append) (xs := #[.tmp 45, .tmp 46]) rfl ?_); at_builtin; refine append_lit (w0 := w) .u8 w.heap.size rfl (.tmp 45) (.tmp 46) 34 5 (.int .u8 0) 1 rfl Tryd.underlying34 infoByte rfl (by decide) _ (outL s i) [92, 110] 2 rfl (fun _ => True) rfl rfl (fun _ _ => trivial) P3.out P4.out P4.out.size (HLE.out _ (by decide)) _ rfl ?_; intro v2 w2 ho hb; obtain ⟨A3, n3, hv2⟩ := Kd.R_slice ho; have R3 := Aside0.mk ho; have B3 := Aside0.mk hb; clear ho hb; subst hv2)
        go_roundg k1
        case measure => have := P2.out; omega
        case rel => exact ⟨i + 1, A3, n3, by go_num, by simp [HO.out], ⟨by omega⟩, ⟨by have := P2.out; omega⟩, ⟨by rw [HO.out]; exact R3.out⟩, B3⟩
      have q10 : (s[i].toNat == 10) = false := by simp; omega
      have r10 : ((s[i].toNat : Int) == 10) = false := by simp; omega
      by_cases h9 : (s[i].toNat : Int) = 9
      · have q9 : (s[i].toNat == 9) = true := by simp; omega
        have r9 : ((s[i].toNat : Int) == 9) = true := by simp; omega
        have HO := Aside0.mk (outL_snoc s i hlt [92, 116] (by rw [h9]; rfl))
        go_wp2_with ((with_reducible refine gate_builtin (b := .append) (xs := #[.tmp 51, .tmp 52]) rfl ?_); at_builtin; refine append_lit (w0 := w) .u8 w.heap.size rfl (.tmp 51) (.tmp 52) 34 5 (.int .u8 0) 1 rfl Tryd.underlying34 infoByte rfl (by decide) _ (outL s i) [92, 116] 2 rfl (fun _ => True) rfl rfl (fun _ _ => trivial) P3.out P4.out P4.out.size (HLE.out _ (by decide)) _ rfl ?_; intro v2 w2 ho hb; obtain ⟨A3, n3, hv2⟩ := Kd.R_slice ho; have R3 := Aside0.mk ho; have B3 := Aside0.mk hb; clear ho hb; subst hv2)
        go_roundg k1
        case measure => have := P2.out; omega
        case rel => exact ⟨i + 1, A3, n3, by go_num, by simp [HO.out], ⟨by omega⟩, ⟨by have := P2.out; omega⟩, ⟨by rw [HO.out]; exact R3.out⟩, B3⟩
      have q9 : (s[i].toNat == 9) = false := by simp; omega
      have r9 : ((s[i].toNat : Int) == 9) = false := by simp; omega
      by_cases h13 : (s[i].toNat : Int) = 13
      · have q13 : (s[i].toNat == 13) = true := by simp; omega
        have r13 : ((s[i].toNat : Int) == 13) = true := by simp; omega
        have HO := Aside0.mk (outL_snoc s i hlt [92, 114] (by rw [h13]; rfl))
        go_wp2_with ((with_reducible refine gate_builtin (b := .append) (xs := #[.tmp 57, .tmp 58]) rfl ?_); at_builtin; refine append_lit (w0 := w) .u8 w.heap.size rfl (.tmp 57) (.tmp 58) 34 5 (.int .u8 0) 1 rfl Tryd.underlying34 infoByte rfl (by decide) _ (outL s i) [92, 114] 2 rfl (fun _ => True) rfl rfl (fun _ _ => trivial) P3.out P4.out P4.out.size (HLE.out _ (by decide)) _ rfl ?_; intro v2 w2 ho hb; obtain ⟨A3, n3, hv2⟩ := Kd.R_slice ho; have R3 := Aside0.mk ho; have B3 := Aside0.mk hb; clear ho hb; subst hv2)
        go_roundg k1
        case measure => have := P2.out; omega
        case rel => exact ⟨i + 1, A3, n3, by go_num, by simp [HO.out], ⟨by omega⟩, ⟨by have := P2.out; omega⟩, ⟨by rw [HO.out]; exact R3.out⟩, B3⟩
      have q13 : (s[i].toNat == 13) = false := by simp; omega
      have r13 : ((s[i].toNat : Int) == 13) = false := by simp; omega
      by_cases h32 : (s[i].toNat : Int) < 32
      · have q32 : decide (s[i].toNat < 32) = true := by simp; omega
        have r32 : decide ((s[i].toNat : Int) < 32) = true := by simp; omega
        have HP := Aside0.mk (show prtN (s[i].toNat : Int) = [92, 117, 48, 48, letN ((s[i].toNat : Int) / 16), letN ((s[i].toNat : Int) % 16)] by unfold prtN; rw [if_neg (by omega), if_neg h10, if_neg h9, if_neg h13, if_pos h32])
        have HO := Aside0.mk (outL_snoc s i hlt _ HP.out)
        go_wp2_with fail
        have h0c : 0 ≤ (s[i].toNat : Int) := by omega
        generalize (s[i].toNat : Int) = cc at *
        clear q34 q92 q10 q9 q13 q32
        have g1 : 0 ≤ cc / 16 := by omega
        have g2 : cc / 16 < 16 := by omega
        have g3 : 0 ≤ cc % 16 := by omega
        have g4 : cc % 16 < 16 := by omega
        have HX := Aside0.mk (let_all (cc / 16) g1 g2)
        have HY := Aside0.mk (let_all (cc % 16) g3 g4)
        have e1 : IntKind.u8.wrap (cc.tdiv 16) = cc / 16 := by rw [Int.tdiv_eq_ediv_of_nonneg h0c]; simp [IntKind.wrap, IntKind.signed, IntKind.bits]; omega
        have e2 : cc.tmod 16 = cc % 16 := Int.tmod_eq_emod_of_nonneg h0c
        refine start_ (n := 10) (S := fun w' => True) (ds := []) #[false, false, false, false, false, false, false, false, false, false] (by kernel_rfl) rfl rfl trivial (fun hHeld => ?_)
        refine pure_ (i := 0) (N := some 63) (v := ?_) (a' := ?_) #[true, false, false, false, false, false, false, false, false, false] rfl rfl (by kernel_rfl) (fun _ _ _ h => h) (Or.inl ⟨by rfl, ?_⟩) ?_ ?_
        rotate_left
        · intro w'
          go_simp
          with_reducible rfl
        rotate_left
        · simp only [Act.put, List.setIfInBounds_toArray, List.set_cons_zero, List.set_cons_succ]
          rfl
        refine pure_ (i := 1) (N := some 64) (v := ?_) (a' := ?_) #[true, true, false, false, false, false, false, false, false, false] rfl rfl (by kernel_rfl) (fun _ _ _ h => h) (Or.inl ⟨by rfl, ?_⟩) ?_ ?_
        rotate_left
        · intro w'
          go_simp
          with_reducible rfl
        rotate_left
        · simp only [Act.put, List.setIfInBounds_toArray, List.set_cons_zero, List.set_cons_succ]
          rfl
        refine pure_ (i := 2) (N := some 65) (v := ?_) (a' := ?_) #[true, true, true, false, false, false, false, false, false, false] rfl rfl (by kernel_rfl) (fun _ _ _ h => h) (Or.inl ⟨by rfl, ?_⟩) ?_ ?_
        rotate_left
        · intro w'
          go_simp
          with_reducible rfl
        rotate_left
        · simp only [Act.put, List.setIfInBounds_toArray, List.set_cons_zero, List.set_cons_succ]
          rfl
        refine pure_ (i := 3) (N := some 66) (v := ?_) (a' := ?_) #[true, true, true, true, false, false, false, false, false, false] rfl rfl (by kernel_rfl) (fun _ _ _ h => h) (Or.inl ⟨by rfl, ?_⟩) ?_ ?_
        rotate_left
        · intro w'
          go_simp
          with_reducible rfl
        rotate_left
        · simp only [Act.put, List.setIfInBounds_toArray, List.set_cons_zero, List.set_cons_succ]
          rfl
        refine pure_ (i := 4) (N := some 67) (v := ?_) (a' := ?_) #[true, true, true, true, true, false, false, false, false, false] rfl rfl (by kernel_rfl) (fun _ _ _ h => h) (Or.inl ⟨by rfl, ?_⟩) ?_ ?_
        rotate_left
        · intro w'
          go_simp
          with_reducible rfl
        rotate_left
        · simp only [Act.put, List.setIfInBounds_toArray, List.set_cons_zero, List.set_cons_succ]
          rfl
        refine pure_ (i := 5) (N := some 68) (v := ?_) (a' := ?_) #[true, true, true, true, true, true, false, false, false, false] rfl rfl (by kernel_rfl) (fun _ _ _ h => h) (Or.inl ⟨by rfl, ?_⟩) ?_ ?_
        rotate_left
        · intro w'
          go_simp
          with_reducible rfl
        rotate_left
        · simp only [Act.put, List.setIfInBounds_toArray, List.set_cons_zero, List.set_cons_succ]
          rfl
        refine pure_ (i := 6) (N := some 69) (v := ?_) (a' := ?_) #[true, true, true, true, true, true, true, false, false, false] rfl rfl (by kernel_rfl) (fun _ _ _ h => h) (Or.inl ⟨by rfl, ?_⟩) ?_ ?_
        rotate_left
        · intro w'
          go_simp
          with_reducible rfl
        rotate_left
        · simp only [Act.put, List.setIfInBounds_toArray, List.set_cons_zero, List.set_cons_succ]
          rfl
        refine tail_ 7 3 (by kernel_rfl) (by decide) (by kernel_rfl) rfl ?_
        rw [HX.out, HY.out]
        have D3 := Aside0.mk (Kd.R_drew P3.out)
        have D4 := Aside0.mk (below_drew1 P4.out)
        clear e1 e2 g1 g2 g3 g4 HX HY HP
        generalize letN (cc / 16) = x1 at HO ⊢
        generalize letN (cc % 16) = x2 at HO ⊢
        generalize wr.drew = w5 at D3 D4 ⊢
        simp only [List.drop_succ_cons, List.drop_zero]
        go_wp2_with ((with_reducible refine gate_builtin (b := .append) (xs := #[.tmp 63, .tmp 70]) rfl ?_); at_builtin; refine append_lit (w0 := w) .u8 w.heap.size rfl (.tmp 63) (.tmp 70) 34 5 (.int .u8 0) 1 rfl Tryd.underlying34 infoByte rfl (by decide) _ (outL s i) [92, 117, 48, 48, x1, x2] 6 rfl (fun _ => True) rfl rfl (fun _ _ => trivial) D3.out D4.out D4.out.size (HLE.out _ (by decide)) _ rfl ?_; intro v2 w2 ho hb; obtain ⟨A3, n3, hv2⟩ := Kd.R_slice ho; have R3 := Aside0.mk ho; have B3 := Aside0.mk hb; clear ho hb; subst hv2)
        go_roundg k1
        case measure => have := P2.out; omega
        case rel => exact ⟨i + 1, A3, n3, by go_num, by simp [HO.out], ⟨by omega⟩, ⟨by have := P2.out; omega⟩, ⟨by rw [HO.out]; exact R3.out⟩, B3⟩
      · have q32 : decide (s[i].toNat < 32) = false := by simp; omega
        have r32 : decide ((s[i].toNat : Int) < 32) = false := by simp; omega
        have HO := Aside0.mk (outL_snoc s i hlt [(s[i].toNat : Int)] (by unfold prtN; rw [if_neg (by omega), if_neg h10, if_neg h9, if_neg h13, if_neg h32]))
        go_wp2_with ((with_reducible refine gate_builtin (b := .append) (xs := #[.tmp 27, .tmp 29]) rfl ?_); at_builtin; refine append_lit (w0 := w) .u8 w.heap.size rfl (.tmp 27) (.tmp 29) 34 5 (.int .u8 0) 1 rfl Tryd.underlying34 infoByte rfl (by decide) _ (outL s i) [(s[i].toNat : Int)] 1 rfl (fun _ => True) rfl rfl (fun _ _ => trivial) P3.out P4.out P4.out.size (HLE.out _ (by decide)) _ rfl ?_; intro v2 w2 ho hb; obtain ⟨A3, n3, hv2⟩ := Kd.R_slice ho; have R3 := Aside0.mk ho; have B3 := Aside0.mk hb; clear ho hb; subst hv2)
        go_roundg k1
        case measure => have := P2.out; omega
        case rel => exact ⟨i + 1, A3, n3, by go_num, by simp [HO.out], ⟨by omega⟩, ⟨by have := P2.out; omega⟩, ⟨by rw [HO.out]; exact R3.out⟩, B3⟩
    · have hi : i = s.size := by have := P1.out; omega
      have HLE := Aside0.mk (show ∀ m, m ≤ 100 → ((outL s i).length + m) * 1 ≤ 140737488355328 from fun m hm => by
        have h1 := HS.out
        have := outL_len s i P1.out
        omega)
      have HO := Aside0.mk (show outL s i = [34] ++ prtL (bnums s.data.toList) by rw [hi]; exact outL_all s)
      clear hi
      go_wp2_with (first
        | ((with_reducible refine gate_builtin (b := .append) (xs := #[.tmp 72, .tmp 73]) rfl ?_); at_builtin; refine append_lit (w0 := w) .u8 w.heap.size rfl (.tmp 72) (.tmp 73) 34 5 (.int .u8 0) 1 rfl Tryd.underlying34 infoByte rfl (by decide) _ (outL s i) [34] 1 rfl (fun _ => True) rfl rfl (fun _ _ => trivial) P3.out P4.out P4.out.size (HLE.out _ (by decide)) _ rfl ?_; intro v2 w2 ho hb; obtain ⟨A3, n3, hv2⟩ := Kd.R_slice ho; subst hv2; have R3 := Aside0.mk (show (Kd.int .u8).R 5 w2 w.heap.size (fun _ => True) (.slice A3 ((outL s i).length + 1) n3) (outL s i ++ [34]) by rw [List.length_append] at ho; exact ho); have B3 := Aside0.mk hb; clear ho hb)
        | (refine str_event rfl rfl rfl Tryd.underlying34 Tryd.underlying5 Tryd.underlying9 R3.out ?_))
      go_ret2
      exact ⟨by rw [HO.out]; rfl, B3.out⟩

theorem refprint_calls (s : ByteArray) (w : World) (hs : s.size < 17592186044416) :
    Calls Tryd.prog 16 #[.string s] w fun e w' => ∃ (t : ByteArray) (f : Int), e = .returned (.tuple #[.string t, .int .i64 f]) ∧ (t = (prtS s).1 ∧ f = (prtS s).2) ∧ Below w.heap.size w w' := by
  unfold prtS
  cases hv : Lib.validD s.data.toList
  · refine (refprint_none s w hs hv).mono ?_
    rintro e w' ⟨he, hb⟩
    exact ⟨_, _, he, ⟨rfl, rfl⟩, hb⟩
  · by_cases hl : 48 < s.size
    · refine (refprint_long s w hs hv hl).mono ?_
      rintro e w' ⟨he, hb⟩
      exact ⟨_, _, he, by rw [if_neg (by simp), if_pos hl]; exact ⟨rfl, rfl⟩, hb⟩
    · refine (refprint_text s w hv (by omega)).mono ?_
      rintro e w' ⟨he, hb⟩
      exact ⟨_, _, he, by rw [if_neg (by simp), if_neg hl]; exact ⟨rfl, rfl⟩, hb⟩
end Go.Proofs.YtadbjbnnmooicaaDoor.Qw
