/- The law SrcRises, walked: it returns true at every input, in every world that holds utf8's two tables. -/
import Derived.Test.YtapdipjcgjmdgaaDoorSrcPlacesL
import Derived.Outline
namespace Go.Proofs.YtapdipjcgjmdgaaDoor.Srcw
open Go.RowKit Go.Proofs.YtapdipjcgjmdgaaDoorW.PrintWords Go.Proofs.YtapdipjcgjmdgaaDoorW.PrintLast Go.Proofs.YtapdipjcgjmdgaaDoor.Own Go.Proofs.YtapdipjcgjmdgaaDoor.Tab
set_option linter.unusedVariables false
set_option linter.unusedSimpArgs false

theorem foldl_rises (l : List UInt8) : ∀ p : Nat × Nat, p.1 ≤ (l.foldl placeStep p).1 ∧ (p.1 < (l.foldl placeStep p).1 ∨ p.2 ≤ (l.foldl placeStep p).2) := by
  induction l with
  | nil => intro p; simp
  | cons b t ih =>
    intro p
    have h := ih (placeStep p b)
    have hs : p.1 ≤ (placeStep p b).1 ∧ (p.1 < (placeStep p b).1 ∨ p.2 ≤ (placeStep p b).2) := by
      unfold placeStep; repeat' split
      all_goals omega
    simp only [List.foldl_cons]
    omega
theorem place_rises (l : List UInt8) (x y : Nat) (h : x ≤ y) : (placeL (l.take x)).1 ≤ (placeL (l.take y)).1 ∧ ((placeL (l.take x)).1 < (placeL (l.take y)).1 ∨ (placeL (l.take x)).2 ≤ (placeL (l.take y)).2) := by
  have e : l.take y = l.take x ++ (l.take y).drop x := by
    have h1 := List.take_append_drop x (l.take y)
    rw [List.take_take, Nat.min_eq_left h] at h1
    exact h1.symm
  rw [e]
  unfold placeL
  rw [List.foldl_append]
  exact foldl_rises _ _

theorem rises_of {l : List UInt8} {x y : Nat} {P Q : Nat × Nat} (hP : Aside0 (placeL (l.take x) = P)) (hQ : Aside0 (placeL (l.take y) = Q)) (h : x ≤ y) : 1 ≤ P.1 ∧ 1 ≤ P.2 ∧ P.1 ≤ Q.1 ∧ (P.1 < Q.1 ∨ P.2 ≤ Q.2) := by
  obtain ⟨rfl⟩ := hP
  obtain ⟨rfl⟩ := hQ
  exact ⟨(placeL_le _).1, (placeL_le _).2.1, place_rises l x y h⟩

theorem place_any (s : ByteArray) (off : Int) (w : World) (hs : s.size ≤ 140737488351232) (h0 : 0 ≤ off) (h1 : off ≤ s.size) :
    Calls Tryd.prog 22 #[.string s, .int .i64 off] w fun e w' => ∃ P : Nat × Nat, Aside0 (placeL (s.data.toList.take off.toNat) = P) ∧ e = .returned (.tuple #[.int .i64 (P.1 : Int), .int .i64 (P.2 : Int), .int .i64 0]) ∧ Below w.heap.size w w' := by
  obtain ⟨n, rfl⟩ := Int.eq_ofNat_of_zero_le h0
  exact (place_in s n w (by omega) hs).mono fun e w' ⟨h1, h2⟩ => ⟨_, ⟨rfl⟩, h1, h2⟩

theorem tmod_low (x n : Int) (hx : x ≤ 0) (hn : 0 < n) : 0 ≤ -(x.tmod n) ∧ -(x.tmod n) ≤ n - 1 := by
  have h := Int.neg_tmod (-x) n
  rw [Int.neg_neg, Int.tmod_eq_emod_of_nonneg (by omega : 0 ≤ -x)] at h
  have h1 := Int.emod_nonneg (-x) (show n ≠ 0 by omega)
  have h2 := Int.emod_lt_of_pos (-x) hn
  omega

set_option maxHeartbeats 4000000 in
set_option maxRecDepth 100000 in
theorem rises_nn (s : ByteArray) (hs : s.size ≤ 140737488351232) (a b : Int) (ha1 : -9223372036854775808 ≤ a) (ha2 : a ≤ 9223372036854775807) (hb1 : -9223372036854775808 ≤ b) (hb2 : b ≤ 9223372036854775807) (ca : a < 0) (cb : b < 0) (m1 : 0 ≤ -((a + 1).tmod ((s.size : Int) + 1))) (m2 : -((a + 1).tmod ((s.size : Int) + 1)) ≤ s.size) (m3 : 0 ≤ -((b + 1).tmod ((s.size : Int) + 1))) (m4 : -((b + 1).tmod ((s.size : Int) + 1)) ≤ s.size) (w : World) (hT : Tabs w) :
    Calls Tryd.prog 9 #[.string s, .int .i64 a, .int .i64 b] w fun e w' => e = .returned (.bool true) ∧ Below w.heap.size w w' := by
  have HT := Aside0.mk hT
  clear hT
  go_enter Tryd.func9, Tryd.ntmps9
  go_wp2_with fail
  all_goals
    refine (place_any s _ w hs (by omega) (by omega)).mono ?_
    rintro en w1 ⟨P, HP, rfl, hb1⟩
    have B1 := Aside0.mk hb1
    clear hb1
    go_wp2_with fail
    refine (place_any s _ w1 hs (by omega) (by omega)).mono ?_
    rintro en w2 ⟨Q, HQ, rfl, hb2⟩
    have B2 : Aside0 (Below w.heap.size w w2) := Aside0.mk (below_step B1.out hb2)
    clear hb2
    obtain ⟨r1, r2, r3, r4⟩ := rises_of HP HQ (by omega)
    have t1 : decide ((1 : Int) ≤ (P.1 : Int)) = true := decide_eq_true (by omega)
    have t2 : decide ((1 : Int) ≤ (P.2 : Int)) = true := decide_eq_true (by omega)
    have t3 : decide ((P.1 : Int) ≤ (Q.1 : Int)) = true := decide_eq_true (by omega)
    have t3' : decide (P.1 ≤ Q.1) = true := decide_eq_true (by omega)
    clear HP HQ m1 m2 m3 m4
    by_cases c1 : P.1 < Q.1
    · have t4 : decide (P.1 < Q.1) = true := decide_eq_true c1
      have t4' : decide ((P.1 : Int) < (Q.1 : Int)) = true := decide_eq_true (by omega)
      go_wp2_with (go_at_call 15; refine (lives_calls w2 (HT.out.below B2.out)).mono ?_; rintro en w3 ⟨rfl, hb3⟩)
      go_ret
      exact ⟨rfl, below_step B2.out hb3⟩
    · have t4 : decide (P.1 < Q.1) = false := decide_eq_false c1
      have t4' : decide ((P.1 : Int) < (Q.1 : Int)) = false := decide_eq_false (by omega)
      have t5 : decide (P.2 ≤ Q.2) = true := decide_eq_true (by omega)
      have t5' : decide ((P.2 : Int) ≤ (Q.2 : Int)) = true := decide_eq_true (by omega)
      go_wp2_with (go_at_call 15; refine (lives_calls w2 (HT.out.below B2.out)).mono ?_; rintro en w3 ⟨rfl, hb3⟩)
      go_ret
      exact ⟨rfl, below_step B2.out hb3⟩

set_option maxHeartbeats 4000000 in
set_option maxRecDepth 100000 in
theorem rises_np (s : ByteArray) (hs : s.size ≤ 140737488351232) (a b : Int) (ha1 : -9223372036854775808 ≤ a) (ha2 : a ≤ 9223372036854775807) (hb1 : -9223372036854775808 ≤ b) (hb2 : b ≤ 9223372036854775807) (ca : a < 0) (cb : ¬ b < 0) (m1 : 0 ≤ -((a + 1).tmod ((s.size : Int) + 1))) (m2 : -((a + 1).tmod ((s.size : Int) + 1)) ≤ s.size) (m3 : 0 ≤ b % ((s.size : Int) + 1)) (m4 : b % ((s.size : Int) + 1) ≤ s.size) (w : World) (hT : Tabs w) :
    Calls Tryd.prog 9 #[.string s, .int .i64 a, .int .i64 b] w fun e w' => e = .returned (.bool true) ∧ Below w.heap.size w w' := by
  have HT := Aside0.mk hT
  clear hT
  go_enter Tryd.func9, Tryd.ntmps9
  go_wp2_with fail
  all_goals
    refine (place_any s _ w hs (by omega) (by omega)).mono ?_
    rintro en w1 ⟨P, HP, rfl, hb1⟩
    have B1 := Aside0.mk hb1
    clear hb1
    go_wp2_with fail
    refine (place_any s _ w1 hs (by omega) (by omega)).mono ?_
    rintro en w2 ⟨Q, HQ, rfl, hb2⟩
    have B2 : Aside0 (Below w.heap.size w w2) := Aside0.mk (below_step B1.out hb2)
    clear hb2
    obtain ⟨r1, r2, r3, r4⟩ := rises_of HP HQ (by omega)
    have t1 : decide ((1 : Int) ≤ (P.1 : Int)) = true := decide_eq_true (by omega)
    have t2 : decide ((1 : Int) ≤ (P.2 : Int)) = true := decide_eq_true (by omega)
    have t3 : decide ((P.1 : Int) ≤ (Q.1 : Int)) = true := decide_eq_true (by omega)
    have t3' : decide (P.1 ≤ Q.1) = true := decide_eq_true (by omega)
    clear HP HQ m1 m2 m3 m4
    by_cases c1 : P.1 < Q.1
    · have t4 : decide (P.1 < Q.1) = true := decide_eq_true c1
      have t4' : decide ((P.1 : Int) < (Q.1 : Int)) = true := decide_eq_true (by omega)
      go_wp2_with (go_at_call 15; refine (lives_calls w2 (HT.out.below B2.out)).mono ?_; rintro en w3 ⟨rfl, hb3⟩)
      go_ret
      exact ⟨rfl, below_step B2.out hb3⟩
    · have t4 : decide (P.1 < Q.1) = false := decide_eq_false c1
      have t4' : decide ((P.1 : Int) < (Q.1 : Int)) = false := decide_eq_false (by omega)
      have t5 : decide (P.2 ≤ Q.2) = true := decide_eq_true (by omega)
      have t5' : decide ((P.2 : Int) ≤ (Q.2 : Int)) = true := decide_eq_true (by omega)
      go_wp2_with (go_at_call 15; refine (lives_calls w2 (HT.out.below B2.out)).mono ?_; rintro en w3 ⟨rfl, hb3⟩)
      go_ret
      exact ⟨rfl, below_step B2.out hb3⟩

set_option maxHeartbeats 4000000 in
set_option maxRecDepth 100000 in
theorem rises_pn (s : ByteArray) (hs : s.size ≤ 140737488351232) (a b : Int) (ha1 : -9223372036854775808 ≤ a) (ha2 : a ≤ 9223372036854775807) (hb1 : -9223372036854775808 ≤ b) (hb2 : b ≤ 9223372036854775807) (ca : ¬ a < 0) (cb : b < 0) (m1 : 0 ≤ a % ((s.size : Int) + 1)) (m2 : a % ((s.size : Int) + 1) ≤ s.size) (m3 : 0 ≤ -((b + 1).tmod ((s.size : Int) + 1))) (m4 : -((b + 1).tmod ((s.size : Int) + 1)) ≤ s.size) (w : World) (hT : Tabs w) :
    Calls Tryd.prog 9 #[.string s, .int .i64 a, .int .i64 b] w fun e w' => e = .returned (.bool true) ∧ Below w.heap.size w w' := by
  have HT := Aside0.mk hT
  clear hT
  go_enter Tryd.func9, Tryd.ntmps9
  go_wp2_with fail
  all_goals
    refine (place_any s _ w hs (by omega) (by omega)).mono ?_
    rintro en w1 ⟨P, HP, rfl, hb1⟩
    have B1 := Aside0.mk hb1
    clear hb1
    go_wp2_with fail
    refine (place_any s _ w1 hs (by omega) (by omega)).mono ?_
    rintro en w2 ⟨Q, HQ, rfl, hb2⟩
    have B2 : Aside0 (Below w.heap.size w w2) := Aside0.mk (below_step B1.out hb2)
    clear hb2
    obtain ⟨r1, r2, r3, r4⟩ := rises_of HP HQ (by omega)
    have t1 : decide ((1 : Int) ≤ (P.1 : Int)) = true := decide_eq_true (by omega)
    have t2 : decide ((1 : Int) ≤ (P.2 : Int)) = true := decide_eq_true (by omega)
    have t3 : decide ((P.1 : Int) ≤ (Q.1 : Int)) = true := decide_eq_true (by omega)
    have t3' : decide (P.1 ≤ Q.1) = true := decide_eq_true (by omega)
    clear HP HQ m1 m2 m3 m4
    by_cases c1 : P.1 < Q.1
    · have t4 : decide (P.1 < Q.1) = true := decide_eq_true c1
      have t4' : decide ((P.1 : Int) < (Q.1 : Int)) = true := decide_eq_true (by omega)
      go_wp2_with (go_at_call 15; refine (lives_calls w2 (HT.out.below B2.out)).mono ?_; rintro en w3 ⟨rfl, hb3⟩)
      go_ret
      exact ⟨rfl, below_step B2.out hb3⟩
    · have t4 : decide (P.1 < Q.1) = false := decide_eq_false c1
      have t4' : decide ((P.1 : Int) < (Q.1 : Int)) = false := decide_eq_false (by omega)
      have t5 : decide (P.2 ≤ Q.2) = true := decide_eq_true (by omega)
      have t5' : decide ((P.2 : Int) ≤ (Q.2 : Int)) = true := decide_eq_true (by omega)
      go_wp2_with (go_at_call 15; refine (lives_calls w2 (HT.out.below B2.out)).mono ?_; rintro en w3 ⟨rfl, hb3⟩)
      go_ret
      exact ⟨rfl, below_step B2.out hb3⟩

set_option maxHeartbeats 4000000 in
set_option maxRecDepth 100000 in
theorem rises_pp (s : ByteArray) (hs : s.size ≤ 140737488351232) (a b : Int) (ha1 : -9223372036854775808 ≤ a) (ha2 : a ≤ 9223372036854775807) (hb1 : -9223372036854775808 ≤ b) (hb2 : b ≤ 9223372036854775807) (ca : ¬ a < 0) (cb : ¬ b < 0) (m1 : 0 ≤ a % ((s.size : Int) + 1)) (m2 : a % ((s.size : Int) + 1) ≤ s.size) (m3 : 0 ≤ b % ((s.size : Int) + 1)) (m4 : b % ((s.size : Int) + 1) ≤ s.size) (w : World) (hT : Tabs w) :
    Calls Tryd.prog 9 #[.string s, .int .i64 a, .int .i64 b] w fun e w' => e = .returned (.bool true) ∧ Below w.heap.size w w' := by
  have HT := Aside0.mk hT
  clear hT
  go_enter Tryd.func9, Tryd.ntmps9
  go_wp2_with fail
  all_goals
    refine (place_any s _ w hs (by omega) (by omega)).mono ?_
    rintro en w1 ⟨P, HP, rfl, hb1⟩
    have B1 := Aside0.mk hb1
    clear hb1
    go_wp2_with fail
    refine (place_any s _ w1 hs (by omega) (by omega)).mono ?_
    rintro en w2 ⟨Q, HQ, rfl, hb2⟩
    have B2 : Aside0 (Below w.heap.size w w2) := Aside0.mk (below_step B1.out hb2)
    clear hb2
    obtain ⟨r1, r2, r3, r4⟩ := rises_of HP HQ (by omega)
    have t1 : decide ((1 : Int) ≤ (P.1 : Int)) = true := decide_eq_true (by omega)
    have t2 : decide ((1 : Int) ≤ (P.2 : Int)) = true := decide_eq_true (by omega)
    have t3 : decide ((P.1 : Int) ≤ (Q.1 : Int)) = true := decide_eq_true (by omega)
    have t3' : decide (P.1 ≤ Q.1) = true := decide_eq_true (by omega)
    clear HP HQ m1 m2 m3 m4
    by_cases c1 : P.1 < Q.1
    · have t4 : decide (P.1 < Q.1) = true := decide_eq_true c1
      have t4' : decide ((P.1 : Int) < (Q.1 : Int)) = true := decide_eq_true (by omega)
      go_wp2_with (go_at_call 15; refine (lives_calls w2 (HT.out.below B2.out)).mono ?_; rintro en w3 ⟨rfl, hb3⟩)
      go_ret
      exact ⟨rfl, below_step B2.out hb3⟩
    · have t4 : decide (P.1 < Q.1) = false := decide_eq_false c1
      have t4' : decide ((P.1 : Int) < (Q.1 : Int)) = false := decide_eq_false (by omega)
      have t5 : decide (P.2 ≤ Q.2) = true := decide_eq_true (by omega)
      have t5' : decide ((P.2 : Int) ≤ (Q.2 : Int)) = true := decide_eq_true (by omega)
      go_wp2_with (go_at_call 15; refine (lives_calls w2 (HT.out.below B2.out)).mono ?_; rintro en w3 ⟨rfl, hb3⟩)
      go_ret
      exact ⟨rfl, below_step B2.out hb3⟩

set_option maxHeartbeats 4000000 in
set_option maxRecDepth 100000 in
theorem law_SrcRises (s : ByteArray) (hs : s.size ≤ 140737488351232) (a : Int) (ha : -9223372036854775808 ≤ a ∧ a ≤ 9223372036854775807) (b : Int) (hb : -9223372036854775808 ≤ b ∧ b ≤ 9223372036854775807) (w : World) (hT : Tabs w) :
    Calls Tryd.prog 9 #[.string s, .int .i64 a, .int .i64 b] w fun e w' => e = .returned (.bool true) ∧ Below w.heap.size w w' := by
  have HT := Aside0.mk hT
  clear hT
  obtain ⟨ha1, ha2⟩ := ha
  obtain ⟨hb1, hb2⟩ := hb
  by_cases ca : a < 0
  · have zm1 := tmod_low (a + 1) (s.size + 1) (by omega) (by omega)
    have m1 : 0 ≤ -((a + 1).tmod ((s.size : Int) + 1)) := zm1.1
    have m2 : -((a + 1).tmod ((s.size : Int) + 1)) ≤ s.size := by have := zm1.2; omega
    clear zm1
    by_cases cb : b < 0
    · have zm3 := tmod_low (b + 1) (s.size + 1) (by omega) (by omega)
      have m3 : 0 ≤ -((b + 1).tmod ((s.size : Int) + 1)) := zm3.1
      have m4 : -((b + 1).tmod ((s.size : Int) + 1)) ≤ s.size := by have := zm3.2; omega
      clear zm3
      exact rises_nn s hs a b ha1 ha2 hb1 hb2 ca cb m1 m2 m3 m4 w HT.out
    · have zm3 := Int.emod_nonneg b (show (s.size : Int) + 1 ≠ 0 by omega)
      have m3 : 0 ≤ b % ((s.size : Int) + 1) := zm3
      have m4 : b % ((s.size : Int) + 1) ≤ s.size := by have := Int.emod_lt_of_pos b (show (0 : Int) < s.size + 1 by omega); omega
      clear zm3
      exact rises_np s hs a b ha1 ha2 hb1 hb2 ca cb m1 m2 m3 m4 w HT.out
  · have zm1 := Int.emod_nonneg a (show (s.size : Int) + 1 ≠ 0 by omega)
    have m1 : 0 ≤ a % ((s.size : Int) + 1) := zm1
    have m2 : a % ((s.size : Int) + 1) ≤ s.size := by have := Int.emod_lt_of_pos a (show (0 : Int) < s.size + 1 by omega); omega
    clear zm1
    by_cases cb : b < 0
    · have zm3 := tmod_low (b + 1) (s.size + 1) (by omega) (by omega)
      have m3 : 0 ≤ -((b + 1).tmod ((s.size : Int) + 1)) := zm3.1
      have m4 : -((b + 1).tmod ((s.size : Int) + 1)) ≤ s.size := by have := zm3.2; omega
      clear zm3
      exact rises_pn s hs a b ha1 ha2 hb1 hb2 ca cb m1 m2 m3 m4 w HT.out
    · have zm3 := Int.emod_nonneg b (show (s.size : Int) + 1 ≠ 0 by omega)
      have m3 : 0 ≤ b % ((s.size : Int) + 1) := zm3
      have m4 : b % ((s.size : Int) + 1) ≤ s.size := by have := Int.emod_lt_of_pos b (show (0 : Int) < s.size + 1 by omega); omega
      clear zm3
      exact rises_pp s hs a b ha1 ha2 hb1 hb2 ca cb m1 m2 m3 m4 w HT.out
end Go.Proofs.YtapdipjcgjmdgaaDoor.Srcw
