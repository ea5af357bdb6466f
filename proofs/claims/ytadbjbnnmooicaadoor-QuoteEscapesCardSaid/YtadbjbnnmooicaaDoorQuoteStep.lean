/- quote: one Step. -/
import Derived.Test.YtadbjbnnmooicaaDoorQuoteW
import Derived.Test.YtadbjbnnmooicaaDoorSrcPutW
import Derived.Test.YtadbjbnnmooicaaDoorLays
namespace Go.Proofs.YtadbjbnnmooicaaDoor.Qw
open Go.RowKit Go.Proofs.YtadbjbnnmooicaaDoorW.PrintWords Go.Proofs.YtadbjbnnmooicaaDoorW.PrintLast Go.Proofs.YtadbjbnnmooicaaDoor.Own Go.Proofs.YtadbjbnnmooicaaDoor.Srcw
set_option linter.unusedVariables false
set_option linter.unusedSimpArgs false

/-- A digit's value; below 0: it is none. -/
def hexN (b : Int) : Int := if 48 ≤ b ∧ b ≤ 57 then b - 48 else if 97 ≤ b ∧ b ≤ 102 then b - 87 else if 65 ≤ b ∧ b ≤ 70 then b - 55 else -1
def digitIx (b : Int) : Int := Lib.indexByte [48, 49, 50, 51, 52, 53, 54, 55, 56, 57, 97, 98, 99, 100, 101, 102] (bits BinOp.or IntKind.u8 b 32).toNat.toUInt8
def digitOk (n : Fin 256) : Bool :=
  if hexN (n.val : Int) < 0 then decide ((n.val : Int) < 48) || decide (digitIx (n.val : Int) < 0) || (decide (digitIx (n.val : Int) < 10) && decide (57 < (n.val : Int)))
  else decide (digitIx (n.val : Int) = hexN (n.val : Int)) && decide (48 ≤ (n.val : Int)) && (decide (10 ≤ digitIx (n.val : Int)) || decide ((n.val : Int) ≤ 57)) && decide (hexN (n.val : Int) < 16)
theorem digit_all : ∀ n : Fin 256, digitOk n = true := by decide +kernel
theorem digit_of (b : Int) (h0 : 0 ≤ b) (h1 : b < 256) :
    (hexN b < 0 → b < 48 ∨ digitIx b < 0 ∨ (digitIx b < 10 ∧ 57 < b)) ∧ (0 ≤ hexN b → digitIx b = hexN b ∧ 48 ≤ b ∧ (10 ≤ digitIx b ∨ b ≤ 57) ∧ hexN b < 16) := by
  obtain ⟨n, rfl⟩ := Int.eq_ofNat_of_zero_le h0
  have h := digit_all ⟨n, by omega⟩
  unfold digitOk at h
  simp only at h
  constructor
  · intro hx
    rw [if_pos hx] at h
    simp only [Bool.or_eq_true, Bool.and_eq_true, decide_eq_true_eq] at h
    omega
  · intro hx
    rw [if_neg (by omega)] at h
    simp only [Bool.or_eq_true, Bool.and_eq_true, decide_eq_true_eq] at h
    omega
theorem digix_calls (b : Int) (w : World) : Calls Tryd.prog 30 #[.string ⟨#[48, 49, 50, 51, 52, 53, 54, 55, 56, 57, 97, 98, 99, 100, 101, 102]⟩, .int .u8 (bits BinOp.or IntKind.u8 b 32)] w fun e w' => e = .returned (.int .i64 (digitIx b)) ∧ w' = w :=
  Tryd.strings_IndexByte _ _ _

set_option maxHeartbeats 2000000 in
set_option maxRecDepth 100000 in
theorem digit_bad {g : Nat} {w : World} {b : Int} (h0 : 0 ≤ b) (h1 : b < 256) (hx : hexN b < 0) :
    Calls Tryd.prog 20 #[.pointer (some ⟨g, 0, none⟩), .int .u8 b] w fun e w' => e = .returned (.int .i64 9) ∧ w' = w := by
  have hd := (digit_of b h0 h1).1 hx
  have hcall := digix_calls b
  generalize digitIx b = d at hd hcall
  rcases (by omega : b < 48 ∨ (48 ≤ b ∧ d < 0) ∨ (48 ≤ b ∧ 0 ≤ d ∧ d < 10 ∧ 57 < b)) with c | c | c
  · have t1 : decide (b < 48) = true := decide_eq_true (by omega)
    clear hd hx h0 h1
    go_enter Tryd.func20, Tryd.ntmps20
    go_wp2_with (go_at_call 30; refine (hcall _).mono ?_; rintro e w1 ⟨rfl, rfl⟩)
    go_ret
    exact ⟨rfl, rfl⟩
  · have t1 : decide (b < 48) = false := decide_eq_false (by omega)
    have t2 : decide (d < 0) = true := decide_eq_true (by omega)
    clear hd hx h0 h1
    go_enter Tryd.func20, Tryd.ntmps20
    go_wp2_with (go_at_call 30; refine (hcall _).mono ?_; rintro e w1 ⟨rfl, rfl⟩)
    go_ret
    exact ⟨rfl, rfl⟩
  · have t1 : decide (b < 48) = false := decide_eq_false (by omega)
    have t2 : decide (d < 0) = false := decide_eq_false (by omega)
    have t3 : decide (d < 10) = true := decide_eq_true (by omega)
    have t4 : decide (57 < b) = true := decide_eq_true (by omega)
    clear hd hx h0 h1
    go_enter Tryd.func20, Tryd.ntmps20
    go_wp2_with (go_at_call 30; refine (hcall _).mono ?_; rintro e w1 ⟨rfl, rfl⟩)
    go_ret
    exact ⟨rfl, rfl⟩

set_option maxHeartbeats 2000000 in
set_option maxRecDepth 100000 in
theorem digit_more {B g : Nat} {w : World} {l : List Int} {esc : Bool} {left num b : Int} {over : Bool} (h : IsQ B w g l esc left num over) (hB : B ≤ w.heap.size) (h0 : 0 ≤ b) (h1 : b < 256) (hx : 0 ≤ hexN b) (hl : 2 ≤ left) (hl4 : left ≤ 4) (hn : 0 ≤ num) (hn1 : num < 65536) :
    Calls Tryd.prog 20 #[.pointer (some ⟨g, 0, none⟩), .int .u8 b] w fun e w' => e = .returned (.int .i64 0) ∧ IsQ B w' g l esc (left - 1) (16 * num + hexN b) over ∧ Below B w w' := by
  have hd := (digit_of b h0 h1).2 hx
  have hcall := digix_calls b
  have hi := hd.1
  rw [hi] at hd hcall
  clear hi
  generalize hexN b = v at hd hx hcall ⊢
  have HQ := Aside0.mk h
  have H0 := Aside0.mk h.1
  have HW := Aside0.mk hB
  obtain ⟨hg0, x, hb1, hr⟩ := h
  have c2 := (blk_cell hb1 2).trans rfl
  have c3 := (blk_cell hb1 3).trans rfl
  have f2 := blk_frozen hb1 2
  have f3 := blk_frozen hb1 3
  have hgs : g < w.heap.size := blk_lt hb1
  have t1 : decide (b < 48) = false := decide_eq_false (by omega)
  have t2 : decide (v < 0) = false := decide_eq_false (by omega)
  have t5 : wrap64 (16 * num) = 16 * num := w64 (by omega) (by omega)
  have t6 : wrap64 (16 * num + v) = 16 * num + v := w64 (by omega) (by omega)
  have t7 : wrap64 (left - 1) = left - 1 := w64 (by omega) (by omega)
  have t8 : decide (1 < left) = true := decide_eq_true (by omega)
  have t9 : (decide (v < 10) && decide (57 < b)) = false := by simp; omega
  clear hb1 hr hg0 hB
  rcases (by omega : 10 ≤ v ∨ (v < 10 ∧ b ≤ 57)) with c | c
  all_goals
    (first | have t3 : decide (v < 10) = false := decide_eq_false (by omega) | (have t3 : decide (v < 10) = true := decide_eq_true (by omega); have t4 : decide (57 < b) = false := decide_eq_false (by omega)))
    clear hd hx h0 h1 c hl hl4 hn hn1
    go_enter Tryd.func20, Tryd.ntmps20
    go_wp2_with (go_at_call 30; refine (hcall _).mono ?_; rintro e w1 ⟨rfl, rfl⟩)
    go_ret
    exact ⟨rfl, (HQ.out.num _).left _, ((Below.refl _ _).setCell (p := ⟨g, 3, none⟩) H0.out _).setCell (p := ⟨g, 2, none⟩) H0.out _⟩

theorem add_calls {B g : Nat} {w : World} {l ys : List Int} {esc : Bool} {left num : Int} {over : Bool} {A : Option Addr} {c m : Nat} (h : IsQ B w g l esc left num over) (hB : B ≤ w.heap.size) (hl : l.length ≤ 1000) (hm : ys.length = m) (hy : m ≤ 1000) (hC : (Kd.int .u8).C w A ys.length ys) :
    Calls Tryd.prog 22 #[.pointer (some ⟨g, 0, none⟩), .slice A m c] w (AddPost B g l ys esc left num over w) := by
  subst hm
  by_cases hf : 48 < l.length + ys.length
  · exact add_full h hl hy hf
  · exact add_fits h hB hl hy hC hf
theorem C_bytes {w : World} {g : Nat} {s : ByteArray} (hs : s.size ≤ 1000) (h : ∀ j, j < s.size → w.cell? ⟨g, j, none⟩ = some (.int .u8 (s.data.toList.getD j 0).toNat)) : (Kd.int .u8).C w (some ⟨g, 0, none⟩) (bnums s.data.toList).length (bnums s.data.toList) := by
  have hsz : s.data.size = s.size := rfl
  refine Kd.C_of_reads (d := (0 : Int)) ⟨rfl, by simp [bnums]; omega, fun _ => ⟨_, rfl, fun j hj => ?_⟩⟩
  have hj' : j < s.size := by simpa [bnums] using hj
  have ha : (⟨g, 0, none⟩ : Addr).add j = ⟨g, j, none⟩ := by unfold Addr.add; simp; intro h; exact h.symm
  rw [ha, h j hj']
  have hl : j < s.data.toList.length := by simpa using hj'
  simp only [bnums, List.getD, List.getElem?_map]
  rw [List.getElem?_eq_getElem hl]
  rfl

theorem putS_size (r : Int) : (putS r).size ≤ 4 := by
  unfold putS
  split
  · unfold Utf8.encode
    simp only
    repeat' split
    all_goals simp [ByteArray.size]
  · decide
theorem below_mono {B : Nat} {w1 w2 : World} (h : Below w1.heap.size w1 w2) (hB : B ≤ w1.heap.size) : Below B w1 w2 := ⟨h.os, h.tape, h.output, h.size, fun k hk => h.block k (by omega)⟩
set_option maxHeartbeats 2000000 in
set_option maxRecDepth 100000 in
theorem digit_last_false {B g : Nat} {w : World} {l : List Int} {esc : Bool} {num b : Int} {over : Bool} (h : IsQ B w g l esc 1 num over) (hB : B ≤ w.heap.size) (hll : l.length ≤ 1000) (h0 : 0 ≤ b) (h1 : b < 256) (hx : 0 ≤ hexN b) (hn : 0 ≤ num) (hn1 : num < 65536) (hm : mayN (16 * num + hexN b) = false) :
    Calls Tryd.prog 20 #[.pointer (some ⟨g, 0, none⟩), .int .u8 b] w (fun e w' => e = .returned (.int .i64 9) ∧ IsQ B w' g l esc 0 (16 * num + hexN b) over ∧ Below B w w') := by
  have hd := (digit_of b h0 h1).2 hx
  have hcall := digix_calls b
  have hi := hd.1
  rw [hi] at hd hcall
  clear hi
  generalize hexN b = v at hd hx hcall hm ⊢
  have HQ := Aside0.mk h
  have H0 := Aside0.mk h.1
  have HW := Aside0.mk hB
  obtain ⟨hg0, x, hb1, hr⟩ := h
  have c2 := (blk_cell hb1 2).trans rfl
  have c3 := (blk_cell hb1 3).trans rfl
  have f2 := blk_frozen hb1 2
  have f3 := blk_frozen hb1 3
  have hgs : g < w.heap.size := blk_lt hb1
  have t1 : decide (b < 48) = false := decide_eq_false (by omega)
  have t2 : decide (v < 0) = false := decide_eq_false (by omega)
  have t5 : wrap64 (16 * num) = 16 * num := w64 (by omega) (by omega)
  have t6 : wrap64 (16 * num + v) = 16 * num + v := w64 (by omega) (by omega)
  have t9 : (decide (v < 10) && decide (57 < b)) = false := by simp; omega
  clear hb1 hr hg0 hB
  rcases (by omega : 10 ≤ v ∨ (v < 10 ∧ b ≤ 57)) with c | c
  all_goals
    (first | have t3 : decide (v < 10) = false := decide_eq_false (by omega) | (have t3 : decide (v < 10) = true := decide_eq_true (by omega); have t4 : decide (57 < b) = false := decide_eq_false (by omega)))
    clear hd hx h0 h1 c hn hn1
    go_enter Tryd.func20, Tryd.ntmps20
    go_wp2_with (go_at_call 30; refine (hcall _).mono ?_; rintro e w1 ⟨rfl, rfl⟩)
    have Q2 := Aside0.mk ((HQ.out.num (16 * num + v)).left 0)
    have B2 := Aside0.mk (((Below.refl B w1).setCell (p := ⟨g, 3, none⟩) H0.out (.int .i64 (16 * num + v))).setCell (p := ⟨g, 2, none⟩) H0.out (.int .i64 0))
    have S2 : w1.heap.size ≤ ((w1.setCell ⟨g, 3, none⟩ (.int .i64 (16 * num + v))).setCell ⟨g, 2, none⟩ (.int .i64 0)).heap.size := B2.out.size
    generalize ((w1.setCell ⟨g, 3, none⟩ (.int .i64 (16 * num + v))).setCell ⟨g, 2, none⟩ (.int .i64 0)) = w2 at Q2 B2 S2 ⊢
    refine (put_calls (16 * num + v) w2).mono ?_
    rintro e w3 ⟨rfl, hb3⟩
    have Q3 := Aside0.mk (Q2.out.below hb3)
    have B3 := Aside0.mk (B2.out.trans (below_mono hb3 (Nat.le_trans HW.out S2)))
    have W3 := Aside0.mk (Nat.le_trans HW.out (Nat.le_trans S2 hb3.size))
    have hs4 := putS_size (16 * num + v)
    have c3' := (blk_cell Q3.out.2.choose_spec.1 3).trans rfl
    clear Q2 B2 S2 hb3 c2 c3 f2 f3 HW HQ
    go_wp2
    go_ret
    exact ⟨rfl, Q3.out, B3.out⟩
set_option maxHeartbeats 2000000 in
set_option maxRecDepth 100000 in
theorem digit_last_true {B g : Nat} {w : World} {l : List Int} {esc : Bool} {num b : Int} {over : Bool} (h : IsQ B w g l esc 1 num over) (hB : B ≤ w.heap.size) (hll : l.length ≤ 1000) (h0 : 0 ≤ b) (h1 : b < 256) (hx : 0 ≤ hexN b) (hn : 0 ≤ num) (hn1 : num < 65536) (hm : mayN (16 * num + hexN b) = true) :
    Calls Tryd.prog 20 #[.pointer (some ⟨g, 0, none⟩), .int .u8 b] w (AddPost B g l (bnums (putS (16 * num + hexN b)).data.toList) esc 0 (16 * num + hexN b) over w) := by
  have hd := (digit_of b h0 h1).2 hx
  have hcall := digix_calls b
  have hi := hd.1
  rw [hi] at hd hcall
  clear hi
  generalize hexN b = v at hd hx hcall hm ⊢
  have HQ := Aside0.mk h
  have H0 := Aside0.mk h.1
  have HW := Aside0.mk hB
  obtain ⟨hg0, x, hb1, hr⟩ := h
  have c2 := (blk_cell hb1 2).trans rfl
  have c3 := (blk_cell hb1 3).trans rfl
  have f2 := blk_frozen hb1 2
  have f3 := blk_frozen hb1 3
  have hgs : g < w.heap.size := blk_lt hb1
  have t1 : decide (b < 48) = false := decide_eq_false (by omega)
  have t2 : decide (v < 0) = false := decide_eq_false (by omega)
  have t5 : wrap64 (16 * num) = 16 * num := w64 (by omega) (by omega)
  have t6 : wrap64 (16 * num + v) = 16 * num + v := w64 (by omega) (by omega)
  have t9 : (decide (v < 10) && decide (57 < b)) = false := by simp; omega
  clear hb1 hr hg0 hB
  rcases (by omega : 10 ≤ v ∨ (v < 10 ∧ b ≤ 57)) with c | c
  all_goals
    (first | have t3 : decide (v < 10) = false := decide_eq_false (by omega) | (have t3 : decide (v < 10) = true := decide_eq_true (by omega); have t4 : decide (57 < b) = false := decide_eq_false (by omega)))
    clear hd hx h0 h1 c hn hn1
    go_enter Tryd.func20, Tryd.ntmps20
    go_wp2_with (go_at_call 30; refine (hcall _).mono ?_; rintro e w1 ⟨rfl, rfl⟩)
    have Q2 := Aside0.mk ((HQ.out.num (16 * num + v)).left 0)
    have B2 := Aside0.mk (((Below.refl B w1).setCell (p := ⟨g, 3, none⟩) H0.out (.int .i64 (16 * num + v))).setCell (p := ⟨g, 2, none⟩) H0.out (.int .i64 0))
    have S2 : w1.heap.size ≤ ((w1.setCell ⟨g, 3, none⟩ (.int .i64 (16 * num + v))).setCell ⟨g, 2, none⟩ (.int .i64 0)).heap.size := B2.out.size
    generalize ((w1.setCell ⟨g, 3, none⟩ (.int .i64 (16 * num + v))).setCell ⟨g, 2, none⟩ (.int .i64 0)) = w2 at Q2 B2 S2 ⊢
    refine (put_calls (16 * num + v) w2).mono ?_
    rintro e w3 ⟨rfl, hb3⟩
    have Q3 := Aside0.mk (Q2.out.below hb3)
    have B3 := Aside0.mk (B2.out.trans (below_mono hb3 (Nat.le_trans HW.out S2)))
    have W3 := Aside0.mk (Nat.le_trans HW.out (Nat.le_trans S2 hb3.size))
    have hs4 := putS_size (16 * num + v)
    have c3' := (blk_cell Q3.out.2.choose_spec.1 3).trans rfl
    clear Q2 B2 S2 hb3 c2 c3 f2 f3 HW HQ
    go_wp2_with (first
      | (refine conv_event rfl (N := 61) rfl (s := putS (16 * num + v)) rfl rfl Tryd.underlying9 Tryd.underlying34 Tryd.underlying5 ?_; intro gc cc w4 hgc hcc hb4; have Q4 := Aside0.mk (Q3.out.below hb4); have C4 := Aside0.mk (C_bytes (by omega) hcc); have B4 := Aside0.mk (B3.out.trans (below_mono hb4 W3.out)); have W4 := Aside0.mk (Nat.le_trans W3.out hb4.size); clear hgc hcc hb4)
      | (go_at_call 22; refine (add_calls Q4.out W4.out hll ((bnums_len _).trans (size_data _)) (by omega) C4.out).mono ?_; rintro e w5 ⟨r5, rfl, hr5, hq5, hb5⟩; have R5 := Aside0.mk hr5; clear hr5))
    go_ret
    exact ⟨r5, rfl, R5.out, hq5, B4.out.trans hb5⟩
end Go.Proofs.YtadbjbnnmooicaaDoor.Qw
