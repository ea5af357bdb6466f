/- What src.Place computes, for every text and place: the line and the column of plain words, or an error. -/
import Derived.Test.YtapdipjcgjmdgaaDoorPSrcPlacesx0
import Derived.Test.YtapdipjcgjmdgaaDoorSrcPlaceF
import Derived.Test.YtapdipjcgjmdgaaDoorOwn
import Derived.Outline
namespace Go.Proofs.YtapdipjcgjmdgaaDoor.Srcw
open Go.RowKit Go.Proofs.YtapdipjcgjmdgaaDoorW.PrintWords Go.Proofs.YtapdipjcgjmdgaaDoorW.PrintLast Go.Proofs.YtapdipjcgjmdgaaDoor.Own Go.Proofs.YtapdipjcgjmdgaaDoor.Flt

def PlacePost (l c e : Int) (w : World) (en : Ending) (w' : World) : Prop := en = .returned (.tuple #[.int .i64 l, .int .i64 c, .int .i64 e]) ∧ Below w.heap.size w w'

set_option maxHeartbeats 1000000 in
set_option maxRecDepth 100000 in
theorem place_low (s : ByteArray) (off : Int) (w : World) (h : off < 0) : Calls Tryd.prog 22 #[.string s, .int .i64 off] w (PlacePost 0 0 1 w) := by
  have t1 : decide (off < 0) = true := decide_eq_true h
  clear h
  go_enter Tryd.func22, Tryd.ntmps22
  go_wp2
  go_ret3
  exact ⟨rfl, Below.refl _ _⟩

set_option maxHeartbeats 1000000 in
set_option maxRecDepth 100000 in
theorem place_high (s : ByteArray) (off : Int) (w : World) (h0 : 0 ≤ off) (h : (s.size : Int) < off) : Calls Tryd.prog 22 #[.string s, .int .i64 off] w (PlacePost 0 0 1 w) := by
  have t1 : decide (off < 0) = false := decide_eq_false (by omega)
  have t2 : decide ((s.size : Int) < off) = true := decide_eq_true h
  go_enter Tryd.func22, Tryd.ntmps22
  go_wp2
  go_ret3
  exact ⟨rfl, Below.refl _ _⟩

set_option maxHeartbeats 2000000 in
set_option maxRecDepth 100000 in
theorem place_in (s : ByteArray) (off : Nat) (w : World) (h : off ≤ s.size) (hs : s.size ≤ 140737488351232) :
    Calls Tryd.prog 22 #[.string s, .int .i64 off] w (PlacePost (placeL (s.data.toList.take off)).1 (placeL (s.data.toList.take off)).2 0 w) := by
  have t1 : decide ((off : Int) < 0) = false := decide_eq_false (by omega)
  have t2 : decide ((s.size : Int) < off) = false := decide_eq_false (by omega)
  have t3 : decide ((s.size : Nat) < off) = false := decide_eq_false (by omega)
  go_enter Tryd.func22, Tryd.ntmps22
  go_wp2_with ((with_reducible refine gate_dst (N := 21) rfl ?_); refine conv_event rfl rfl rfl rfl Tryd.underlying9 Tryd.underlying22 Tryd.underlying5 ?_; intro gb cb w1 hgb hcb hb1)
  have hcell : ∀ j, j < off → w1.cell? ⟨gb, j, none⟩ = some (.int .u8 (s.data.toList.getD j 0).toNat) := fun j hj => by
    have hz : (s.extract 0 off).size = off := by simp; omega
    have hd := extract_get s 0 off j h (by omega)
    rw [Nat.zero_add] at hd
    have := hcb j (by omega)
    rw [hd] at this; exact this
  have HB1 := Aside0.mk hb1
  have HC := Aside0.mk hcell
  clear hcb hb1 hcell hgb
  go_loop [7, 9, 23] (fun at_ _ i => ∃ k : Nat, k ≤ off ∧ i = .int .i64 k ∧ at_ = .complex .f64 (flt (placeL (s.data.toList.take k)).1) (flt (placeL (s.data.toList.take k)).2)) (fun _ _ i => off - (intOf i).toNat)
  case atStart => exact ⟨0, by omega, rfl, by rw [← flt_one]; rfl⟩
  case round =>
    obtain ⟨k, hk, rfl, rfl⟩ := hrel
    obtain ⟨e1, e2, e3, e4⟩ := placeL_le (s.data.toList.take k)
    have e5 : (s.data.toList.take k).length ≤ k := List.length_take_le _ _
    generalize hL : (placeL (s.data.toList.take k)).1 = L at e1 e2 e3 e4 ⊢
    generalize hC : (placeL (s.data.toList.take k)).2 = C at e1 e2 e3 e4 ⊢
    have HL := Aside0.mk hL
    have HCc := Aside0.mk hC
    clear hL hC
    have bL : L < 9007199254740991 := by omega
    have bC : C < 9007199254740991 := by omega
    clear e1 e2 e3 e4 e5
    by_cases hlt : k < off
    · have hsn := take_snoc s k (by omega)
      have hst := placeL_snoc (s.data.toList.take k) (s.data.toList.getD k 0)
      rw [← hsn] at hst
      have HST := Aside0.mk hst
      clear hst hsn
      have hc := HC.out k hlt
      obtain ⟨b, hb⟩ : ∃ b : UInt8, b = s.data.toList.getD k 0 := ⟨_, rfl⟩
      rw [← hb] at hc HST
      have HBb := Aside0.mk hb
      clear hb
      have hadd : ∀ t w, (binOp .add t (.float .f64 (flt L)) (.float .f64 4607182418800017408)).run Tryd.prog w = .ok (.float .f64 (flt (L + 1))) w := fun t w => run_float_arith w .add t .f64 _ _ _ (add_one L bL)
      have hcol : ∀ t w, (binOp .add t (.complex .f64 (flt L) (flt C)) (.complex .f64 0 4607182418800017408)).run Tryd.prog w = .ok (.complex .f64 (flt L) (flt (C + 1))) w := fun t w => run_complex_sum w .add (.inl rfl) t .f64 _ _ _ _ _ _ (sum_col L C bL bC)
      have hbl := b.toNat_lt
      by_cases c1 : b.toNat = 10
      · have d1 : (((b.toNat : Nat) : Int) == 10) = true := by simp [c1]
        have HC1 := Aside0.mk c1
        clear c1
        go_wp2
        go_round
        case rel => exact ⟨k + 1, by omega, by go_num, by rw [HST.out]; unfold placeStep; rw [if_pos HC1.out, HL.out, ← flt_one]⟩
        case measure => simp [intOf]; omega
      · have d1 : (((b.toNat : Nat) : Int) == 10) = false := by rw [beq_eq_false_iff_ne]; omega
        by_cases c2 : b.toNat < 128
        · have d2 : decide (((b.toNat : Nat) : Int) < 128) = true := by simp; omega
          have HC1 := Aside0.mk c1
          have HC2 := Aside0.mk c2
          clear c1 c2
          go_wp2
          go_round
          case rel => exact ⟨k + 1, by omega, by go_num, by rw [HST.out]; unfold placeStep; rw [if_neg HC1.out, if_pos (.inl HC2.out), HL.out, HCc.out]⟩
          case measure => simp [intOf]; omega
        · have d2 : decide (((b.toNat : Nat) : Int) < 128) = false := by simp; omega
          by_cases c3 : 191 < b.toNat
          · have d3 : decide ((191 : Int) < ((b.toNat : Nat) : Int)) = true := by simp; omega
            have HC1 := Aside0.mk c1
            have HC3 := Aside0.mk c3
            clear c1 c2 c3
            go_wp2
            go_round
            case rel => exact ⟨k + 1, by omega, by go_num, by rw [HST.out]; unfold placeStep; rw [if_neg HC1.out, if_pos (.inr HC3.out), HL.out, HCc.out]⟩
            case measure => simp [intOf]; omega
          · have d3 : decide ((191 : Int) < ((b.toNat : Nat) : Int)) = false := by simp; omega
            have HC1 := Aside0.mk c1
            have HC2 := Aside0.mk c2
            have HC3 := Aside0.mk c3
            clear c1 c2 c3
            go_wp2
            go_round
            case rel => exact ⟨k + 1, by omega, by go_num, by rw [HST.out]; unfold placeStep; rw [if_neg HC1.out, if_neg (fun h => h.elim HC2.out HC3.out), HL.out, HCc.out]⟩
            case measure => simp [intOf]; omega
    · have hke : off = k := by omega
      have HKE := Aside0.mk hke
      clear hke
      have hi1 : ∀ w, (convert 49 3 (.float .f64 (flt L))).run Tryd.prog w = .ok (.int .i64 L) w := fun w => run_convert_float_int w _ _ _ _ _ _ (by rw [Tryd.underlying49]; rfl) Tryd.underlying3 (int_of L bL)
      have hi2 : ∀ w, (convert 49 3 (.float .f64 (flt C))).run Tryd.prog w = .ok (.int .i64 C) w := fun w => run_convert_float_int w _ _ _ _ _ _ (by rw [Tryd.underlying49]; rfl) Tryd.underlying3 (int_of C bC)
      go_wp2
      go_ret3
      exact ⟨ret_ints3 (by rw [HKE.out, HL.out]) (by rw [HKE.out, HCc.out]) rfl, HB1.out⟩
end Go.Proofs.YtapdipjcgjmdgaaDoor.Srcw
