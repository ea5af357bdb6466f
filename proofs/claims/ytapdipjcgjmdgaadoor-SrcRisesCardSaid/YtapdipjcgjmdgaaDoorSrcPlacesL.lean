/- The laws SrcPlaces and SrcRises, walked: they return true at every input, in every world that holds utf8's two tables. -/
import Derived.Test.YtapdipjcgjmdgaaDoorSrcLives
import Derived.Test.YtapdipjcgjmdgaaDoorPSrcPlacesx1
namespace Go.Proofs.YtapdipjcgjmdgaaDoor.Srcw
open Go.RowKit Go.Proofs.YtapdipjcgjmdgaaDoorW.PrintWords Go.Proofs.YtapdipjcgjmdgaaDoorW.PrintLast Go.Proofs.YtapdipjcgjmdgaaDoor.Own Go.Proofs.YtapdipjcgjmdgaaDoor.Tab Go.Proofs.YtapdipjcgjmdgaaDoor.PSrcPlaces
set_option linter.unusedVariables false
set_option linter.unusedSimpArgs false

theorem refplace_loop (s : ByteArray) (off : Nat) (ho : off ≤ s.size) (hs : s.size ≤ 140737488351232) : ∀ (d i : Nat), i + d = off →
    hexaplaref01_Place.l0 (d + 1) s off ((placeL (s.data.toList.take i)).1 : Int) ((placeL (s.data.toList.take i)).2 : Int) (i : Int) = some (((placeL (s.data.toList.take off)).1 : Int), ((placeL (s.data.toList.take off)).2 : Int), 0) := by
  intro d
  induction d with
  | zero =>
    intro i hi
    obtain rfl : i = off := by omega
    conv => lhs; unfold hexaplaref01_Place.l0
    rw [if_neg (by omega)]
  | succ d ih =>
    intro i hi
    have hlt : i < s.size := by omega
    have hn := ih (i + 1) (by omega)
    rw [take_snoc s i hlt, placeL_snoc] at hn
    obtain ⟨e1, e2, e3, e4⟩ := placeL_le (s.data.toList.take i)
    have e5 : (s.data.toList.take i).length ≤ i := List.length_take_le _ _
    generalize placeL (s.data.toList.take i) = p at *
    have hb := (s.data.toList.getD i 0).toNat_lt
    conv => lhs; unfold hexaplaref01_Place.l0
    rw [if_pos (by omega), if_pos (by omega), if_pos (by omega), bt_get s i hlt]
    generalize s.data.toList.getD i 0 = b at *
    have hi1 : wrap64 ((i : Int) + 1) = ((i + 1 : Nat) : Int) := by rw [w64 (by omega) (by omega)]; omega
    have hp1 : wrap64 ((p.1 : Int) + 1) = ((p.1 + 1 : Nat) : Int) := by rw [w64 (by omega) (by omega)]; omega
    have hp2 : wrap64 ((p.2 : Int) + 1) = ((p.2 + 1 : Nat) : Int) := by rw [w64 (by omega) (by omega)]; omega
    rw [hi1, hp1, hp2]
    unfold placeStep at hn
    by_cases c1 : b.toNat = 10
    · rw [if_pos c1] at hn
      rw [if_pos (by omega)]; exact hn
    · rw [if_neg c1] at hn
      rw [if_neg (by omega)]
      by_cases c2 : b.toNat < 128
      · rw [if_pos (.inl c2)] at hn
        rw [if_pos (by omega)]; exact hn
      · rw [if_neg (by omega)]
        by_cases c3 : 191 < b.toNat
        · rw [if_pos (.inr c3)] at hn
          rw [if_pos (by omega)]; exact hn
        · rw [if_neg (by omega)] at hn
          rw [if_neg (by omega)]; exact hn

theorem refplace_in (s : ByteArray) (off : Nat) (ho : off ≤ s.size) (hs : s.size ≤ 140737488351232) :
    hexaplaref01_Place.f (off + 2) s off = some (((placeL (s.data.toList.take off)).1 : Int), ((placeL (s.data.toList.take off)).2 : Int), 0) := by
  unfold hexaplaref01_Place.f
  rw [if_neg (by omega)]
  have hd : decide ((off : Int) > (s.size : Int)) = false := decide_eq_false (by omega)
  rw [hd]
  simp only [hexaplaref01_Place.j0, Bool.false_eq_true, if_false]
  have := refplace_loop s off ho hs off 0 (by omega)
  simpa [placeL] using this
theorem refplace_out (s : ByteArray) (off : Int) (h : off < 0 ∨ (s.size : Int) < off) : hexaplaref01_Place.f 1 s off = some (0, 0, 1) := by
  unfold hexaplaref01_Place.f
  by_cases h0 : off < 0
  · rw [if_pos h0]; simp only [hexaplaref01_Place.j0, if_true]
  · have hd : decide (off > (s.size : Int)) = true := decide_eq_true (by omega)
    rw [if_neg h0, hd]; simp only [hexaplaref01_Place.j0, if_true]

set_option maxHeartbeats 2000000 in
set_option maxRecDepth 100000 in
/-- Both places answer alike: what follows. -/
theorem places_of (s : ByteArray) (off l c e : Int) (k : Nat) (w : World) (hT : Tabs w)
    (h1 : Calls Tryd.prog 22 #[.string s, .int .i64 off] w (PlacePost l c e w)) (h2 : hexaplaref01_Place.f k s off = some (l, c, e)) :
    Calls Tryd.prog 8 #[.string s, .int .i64 off] w fun e w' => e = .returned (.bool true) ∧ Below w.heap.size w w' := by
  have HT := Aside0.mk hT
  have H1 := Aside0.mk h1
  have H2 := Aside0.mk h2
  have t1 : (l == l) = true := by simp
  have t2 : (c == c) = true := by simp
  have t3 : (e == e) = true := by simp
  clear hT h1 h2
  go_enter Tryd.func8, Tryd.ntmps8
  go_wp2_with fail
  refine H1.out.mono ?_
  rintro en w1 ⟨rfl, hb1⟩
  have B1 := Aside0.mk hb1
  clear hb1
  go_wp2_with fail
  refine (hexaplaref01_Place.calls k s off l c e w1 H2.out).mono ?_
  rintro en w2 ⟨rfl, ⟨nd, rfl⟩⟩
  have B2 : Aside0 (Below w.heap.size w (w1.drewN nd)) := Aside0.mk (pw_below_drewN B1.out nd)
  go_wp2_with (go_at_call 15; refine (lives_calls (w1.drewN nd) (HT.out.below B2.out)).mono ?_; rintro en w3 ⟨rfl, hb3⟩)
  go_ret
  exact ⟨rfl, below_step B2.out hb3⟩

theorem law_SrcPlaces (s : ByteArray) (hs : s.size ≤ 140737488351232) (off : Int) (ho : -9223372036854775808 ≤ off ∧ off ≤ 9223372036854775807) (w : World) (hT : Tabs w) :
    Calls Tryd.prog 8 #[.string s, .int .i64 off] w fun e w' => e = .returned (.bool true) ∧ Below w.heap.size w w' := by
  by_cases h0 : off < 0
  · exact places_of s off 0 0 1 1 w hT (place_low s off w h0) (refplace_out s off (.inl h0))
  · by_cases h1 : (s.size : Int) < off
    · exact places_of s off 0 0 1 1 w hT (place_high s off w (by omega) h1) (refplace_out s off (.inr h1))
    · obtain ⟨n, rfl⟩ := Int.eq_ofNat_of_zero_le (show 0 ≤ off by omega)
      exact places_of s n _ _ 0 (n + 2) w hT (place_in s n w (by omega) hs) (refplace_in s n (by omega) hs)
end Go.Proofs.YtapdipjcgjmdgaaDoor.Srcw
