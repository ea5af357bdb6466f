/- entities: Define, walked. -/
import Derived.Test.YtohkioijdokegaaDoorEntW
namespace Go.Proofs.YtohkioijdokegaaDoor.En
open Go Go.Lib Go.RowKit Go.Proofs.YtohkioijdokegaaDoorW.PrintWords Go.Proofs.YtohkioijdokegaaDoorW.PrintLast Go.Proofs.YtohkioijdokegaaDoor.Own Go.Proofs.YtohkioijdokegaaDoor.Nm Go.Proofs.YtohkioijdokegaaDoor.Srcw Go.Proofs.YtohkioijdokegaaDoor.Tab
set_option linter.unusedVariables false
set_option linter.unusedSimpArgs false

/-- What Define answers, and what stands then. -/
def defE (s : ES) (n t : ByteArray) : Int × ES :=
  if localL n.data.toList = false then (1, s)
  else if validD t.data.toList = false then (3, s)
  else if ((fourN n).isSome || (s.f n).isSome) = true then (6, s)
  else if 200 < s.size + n.size + t.size then (15, s)
  else (0, { s with f := fun y => if y = n then some t else s.f y, n := s.n + 1, size := s.size + (n.size + t.size) })
def Abv (g : Nat) (w w' : World) : Prop := ∀ k, g < k → k < w.heap.size → w'.heap[k]? = w.heap[k]?
theorem abv_below {g : Nat} {w w' : World} (h : Below w.heap.size w w') : Abv g w w' := fun k _ hk => h.block k hk
theorem Just.abv {g : Nat} {w w' : World} (h : Just g w w') : Abv g w w' := fun k h1 h2 => h.2 k h2 (by omega)
def DefPost (B g : Nat) (s : ES) (n t : ByteArray) (w : World) (e : Ending) (w' : World) : Prop :=
  ∃ x, e = .returned (.int .i64 x) ∧ x = (defE s n t).1 ∧ IsE B w' g (defE s n t).2 ∧ Below B w w' ∧ Abv g w w'
theorem def_post {B g : Nat} {s s' : ES} {n t : ByteArray} {x : Int} {w w' : World} (h : defE s n t = (x, s')) (h1 : IsE B w' g s') (h2 : Below B w w') (h3 : Abv g w w') : DefPost B g s n t w (.returned (.int .i64 x)) w' :=
  ⟨x, rfl, by rw [h], by rw [h]; exact h1, h2, h3⟩

set_option maxHeartbeats 8000000 in
set_option maxRecDepth 100000 in
theorem def_calls {B g : Nat} {w : World} {s : ES} {n t : ByteArray} (h : IsE B w g s) (hn : n.size ≤ 140737488351232) (ht : t.size ≤ 1048576) (hs : 0 ≤ s.size ∧ s.size ≤ 1000000000) (hc : s.n ≤ 1000000) (hT : Tabs w) :
    Calls Tryd.prog 15 #[.pointer (some ⟨g, 0, none⟩), .string n, .string t] w (DefPost B g s n t w) := by
  have H := Aside0.mk h
  have HB := Aside0.mk (show B ≤ w.heap.size by have := h.lt; have := h.1; omega)
  have PK := Aside0.mk (show (mkS tS).okk n from by show n.size ≤ maxLen; unfold maxLen; omega)
  have PV := Aside0.mk (show (mkS tS).okv t from by show t.size ≤ maxLen; unfold maxLen; omega)
  have HC := Aside0.mk (show s.n < maxLen by unfold maxLen; omega)
  have HT := Aside0.mk hT
  have u1 : wrap64 (s.size + n.size) = s.size + n.size := w64 (by omega) (by omega)
  have u2 : wrap64 (s.size + n.size + t.size) = s.size + n.size + t.size := w64 (by omega) (by omega)
  have u3 : wrap64 ((n.size : Int) + t.size) = (n.size : Int) + t.size := w64 (by omega) (by omega)
  have u4 : wrap64 (s.size + ((n.size : Int) + t.size)) = s.size + ((n.size : Int) + t.size) := w64 (by omega) (by omega)
  obtain ⟨q4, hq4⟩ : ∃ q, (fourN n).isSome = q := ⟨_, rfl⟩
  obtain ⟨qh, hqh⟩ : ∃ q, (s.f n).isSome = q := ⟨_, rfl⟩
  obtain ⟨qv, hqv⟩ : ∃ q, validD t.data.toList = q := ⟨_, rfl⟩
  obtain ⟨ql, hql⟩ : ∃ q, localL n.data.toList = q := ⟨_, rfl⟩
  have Q4 := Aside0.mk hq4
  have QH := Aside0.mk hqh
  have QV := Aside0.mk hqv
  have QL := Aside0.mk hql
  clear h hc hT hq4 hqh hqv hql
  have hall : ql = false ∨ (ql = true ∧ qv = false) ∨ (ql = true ∧ qv = true ∧ q4 = true) ∨ (ql = true ∧ qv = true ∧ q4 = false ∧ qh = true) ∨ (ql = true ∧ qv = true ∧ q4 = false ∧ qh = false ∧ 200 < s.size + n.size + t.size) ∨ (ql = true ∧ qv = true ∧ q4 = false ∧ qh = false ∧ ¬ 200 < s.size + n.size + t.size) := by
    cases ql <;> cases qv <;> cases q4 <;> cases qh <;> simp <;> omega
  rcases hall with rfl | ⟨rfl, rfl⟩ | ⟨rfl, rfl, rfl⟩ | ⟨rfl, rfl, rfl, rfl⟩ | ⟨rfl, rfl, rfl, rfl, h5⟩ | ⟨rfl, rfl, rfl, rfl, h5⟩
  · have HG := Aside0.mk (show defE s n t = (1, s) by unfold defE; rw [if_pos QL.out])
    go_enter Tryd.func15, Tryd.ntmps15
    go_wp2_with (first
      | (go_at_call 25; refine (four_calls _).mono ?_; rintro e w1 ⟨mb, mm, rfl, hm, hmb, hb⟩; have M1 := Aside0.mk hm; have B1 := Aside0.mk hb; have E1 := Aside0.mk (H.out.below hb); obtain ⟨q0, b, q1, q2, q3, q4'⟩ := H.out.below hb; have c0 := (blk_cell q1 0).trans rfl; have X1 := Aside0.mk q4'; clear hm hb hmb q0 q1 q2 q3 q4')
      | ((with_reducible refine gate_dst (N := 16) rfl ?_); at_lookup; refine MKind.look_event rfl rfl (mkS tS) rfl n rfl M1.out PK.out ?_; rw [vvS, Q4.out])
      | ((with_reducible refine gate_dst (N := 25) rfl ?_); at_lookup; refine MKind.look_event rfl rfl (mkS tS) rfl n rfl X1.out PK.out ?_; rw [vvS, QH.out]; clear c0)
      | (go_at_call 26; refine (runes_calls t _ (by omega) (valid_calls t _ (by omega) (HT.out.below B1.out))).mono ?_; rintro e w2 ⟨rv, rfl, hr, hb⟩; rw [QV.out]; have B2 := Aside0.mk (B1.out.trans (hb.mono B1.out.size)); have E2 := Aside0.mk (E1.out.below hb); clear hb hr)
      | (go_at_call 24; refine (local_calls n _).mono ?_; rintro e w3 ⟨rfl, hb⟩; rw [QL.out]; have B3 := Aside0.mk (B2.out.trans (hb.mono B2.out.size)); have E3 := Aside0.mk (E2.out.below hb); obtain ⟨q0, b3, q1, q2, q3, q4'⟩ := E2.out.below hb; have c0 := (blk_cell q1 0).trans rfl; have c1 := (blk_cell q1 1).trans rfl; have X3 := Aside0.mk q4'; have Q13 := Aside0.mk q1; have Q2 := Aside0.mk q2; have Q3 := Aside0.mk q3; clear hb q0 q1 q2 q3 q4')
      | (refine MKind.put_event rfl (.inr rfl) (mkS tS) rfl n t rfl rfl X3.out HC.out PK.out PV.out ?_; intro w4 h4 g4; rw [QH.out] at h4; have X4 := Aside0.mk h4; have G4 := Aside0.mk g4; have q5 := (g4.block g E3.out.lt (by have := Q3.out; intro e; injection e; omega)).trans Q13.out; clear c1; have c1 := (blk_cell q5 1).trans rfl; have f1 := blk_frozen q5 1; have Q5 := Aside0.mk q5; clear h4 g4 q5))
    go_ret
    exact def_post HG.out E3.out (below_mono B3.out HB.out) (abv_below B3.out)
  · have HG := Aside0.mk (show defE s n t = (3, s) by unfold defE; rw [if_neg (by rw [QL.out]; decide), if_pos QV.out])
    go_enter Tryd.func15, Tryd.ntmps15
    go_wp2_with (first
      | (go_at_call 25; refine (four_calls _).mono ?_; rintro e w1 ⟨mb, mm, rfl, hm, hmb, hb⟩; have M1 := Aside0.mk hm; have B1 := Aside0.mk hb; have E1 := Aside0.mk (H.out.below hb); obtain ⟨q0, b, q1, q2, q3, q4'⟩ := H.out.below hb; have c0 := (blk_cell q1 0).trans rfl; have X1 := Aside0.mk q4'; clear hm hb hmb q0 q1 q2 q3 q4')
      | ((with_reducible refine gate_dst (N := 16) rfl ?_); at_lookup; refine MKind.look_event rfl rfl (mkS tS) rfl n rfl M1.out PK.out ?_; rw [vvS, Q4.out])
      | ((with_reducible refine gate_dst (N := 25) rfl ?_); at_lookup; refine MKind.look_event rfl rfl (mkS tS) rfl n rfl X1.out PK.out ?_; rw [vvS, QH.out]; clear c0)
      | (go_at_call 26; refine (runes_calls t _ (by omega) (valid_calls t _ (by omega) (HT.out.below B1.out))).mono ?_; rintro e w2 ⟨rv, rfl, hr, hb⟩; rw [QV.out]; have B2 := Aside0.mk (B1.out.trans (hb.mono B1.out.size)); have E2 := Aside0.mk (E1.out.below hb); clear hb hr)
      | (go_at_call 24; refine (local_calls n _).mono ?_; rintro e w3 ⟨rfl, hb⟩; rw [QL.out]; have B3 := Aside0.mk (B2.out.trans (hb.mono B2.out.size)); have E3 := Aside0.mk (E2.out.below hb); obtain ⟨q0, b3, q1, q2, q3, q4'⟩ := E2.out.below hb; have c0 := (blk_cell q1 0).trans rfl; have c1 := (blk_cell q1 1).trans rfl; have X3 := Aside0.mk q4'; have Q13 := Aside0.mk q1; have Q2 := Aside0.mk q2; have Q3 := Aside0.mk q3; clear hb q0 q1 q2 q3 q4')
      | (refine MKind.put_event rfl (.inr rfl) (mkS tS) rfl n t rfl rfl X3.out HC.out PK.out PV.out ?_; intro w4 h4 g4; rw [QH.out] at h4; have X4 := Aside0.mk h4; have G4 := Aside0.mk g4; have q5 := (g4.block g E3.out.lt (by have := Q3.out; intro e; injection e; omega)).trans Q13.out; clear c1; have c1 := (blk_cell q5 1).trans rfl; have f1 := blk_frozen q5 1; have Q5 := Aside0.mk q5; clear h4 g4 q5))
    go_ret
    exact def_post HG.out E3.out (below_mono B3.out HB.out) (abv_below B3.out)
  · have HG := Aside0.mk (show defE s n t = (6, s) by unfold defE; rw [if_neg (by rw [QL.out]; decide), if_neg (by rw [QV.out]; decide), if_pos (by rw [Q4.out]; rfl)])
    go_enter Tryd.func15, Tryd.ntmps15
    go_wp2_with (first
      | (go_at_call 25; refine (four_calls _).mono ?_; rintro e w1 ⟨mb, mm, rfl, hm, hmb, hb⟩; have M1 := Aside0.mk hm; have B1 := Aside0.mk hb; have E1 := Aside0.mk (H.out.below hb); obtain ⟨q0, b, q1, q2, q3, q4'⟩ := H.out.below hb; have c0 := (blk_cell q1 0).trans rfl; have X1 := Aside0.mk q4'; clear hm hb hmb q0 q1 q2 q3 q4')
      | ((with_reducible refine gate_dst (N := 16) rfl ?_); at_lookup; refine MKind.look_event rfl rfl (mkS tS) rfl n rfl M1.out PK.out ?_; rw [vvS, Q4.out])
      | ((with_reducible refine gate_dst (N := 25) rfl ?_); at_lookup; refine MKind.look_event rfl rfl (mkS tS) rfl n rfl X1.out PK.out ?_; rw [vvS, QH.out]; clear c0)
      | (go_at_call 26; refine (runes_calls t _ (by omega) (valid_calls t _ (by omega) (HT.out.below B1.out))).mono ?_; rintro e w2 ⟨rv, rfl, hr, hb⟩; rw [QV.out]; have B2 := Aside0.mk (B1.out.trans (hb.mono B1.out.size)); have E2 := Aside0.mk (E1.out.below hb); clear hb hr)
      | (go_at_call 24; refine (local_calls n _).mono ?_; rintro e w3 ⟨rfl, hb⟩; rw [QL.out]; have B3 := Aside0.mk (B2.out.trans (hb.mono B2.out.size)); have E3 := Aside0.mk (E2.out.below hb); obtain ⟨q0, b3, q1, q2, q3, q4'⟩ := E2.out.below hb; have c0 := (blk_cell q1 0).trans rfl; have c1 := (blk_cell q1 1).trans rfl; have X3 := Aside0.mk q4'; have Q13 := Aside0.mk q1; have Q2 := Aside0.mk q2; have Q3 := Aside0.mk q3; clear hb q0 q1 q2 q3 q4')
      | (refine MKind.put_event rfl (.inr rfl) (mkS tS) rfl n t rfl rfl X3.out HC.out PK.out PV.out ?_; intro w4 h4 g4; rw [QH.out] at h4; have X4 := Aside0.mk h4; have G4 := Aside0.mk g4; have q5 := (g4.block g E3.out.lt (by have := Q3.out; intro e; injection e; omega)).trans Q13.out; clear c1; have c1 := (blk_cell q5 1).trans rfl; have f1 := blk_frozen q5 1; have Q5 := Aside0.mk q5; clear h4 g4 q5))
    go_ret
    exact def_post HG.out E3.out (below_mono B3.out HB.out) (abv_below B3.out)
  · have HG := Aside0.mk (show defE s n t = (6, s) by unfold defE; rw [if_neg (by rw [QL.out]; decide), if_neg (by rw [QV.out]; decide), if_pos (by rw [Q4.out, QH.out]; rfl)])
    go_enter Tryd.func15, Tryd.ntmps15
    go_wp2_with (first
      | (go_at_call 25; refine (four_calls _).mono ?_; rintro e w1 ⟨mb, mm, rfl, hm, hmb, hb⟩; have M1 := Aside0.mk hm; have B1 := Aside0.mk hb; have E1 := Aside0.mk (H.out.below hb); obtain ⟨q0, b, q1, q2, q3, q4'⟩ := H.out.below hb; have c0 := (blk_cell q1 0).trans rfl; have X1 := Aside0.mk q4'; clear hm hb hmb q0 q1 q2 q3 q4')
      | ((with_reducible refine gate_dst (N := 16) rfl ?_); at_lookup; refine MKind.look_event rfl rfl (mkS tS) rfl n rfl M1.out PK.out ?_; rw [vvS, Q4.out])
      | ((with_reducible refine gate_dst (N := 25) rfl ?_); at_lookup; refine MKind.look_event rfl rfl (mkS tS) rfl n rfl X1.out PK.out ?_; rw [vvS, QH.out]; clear c0)
      | (go_at_call 26; refine (runes_calls t _ (by omega) (valid_calls t _ (by omega) (HT.out.below B1.out))).mono ?_; rintro e w2 ⟨rv, rfl, hr, hb⟩; rw [QV.out]; have B2 := Aside0.mk (B1.out.trans (hb.mono B1.out.size)); have E2 := Aside0.mk (E1.out.below hb); clear hb hr)
      | (go_at_call 24; refine (local_calls n _).mono ?_; rintro e w3 ⟨rfl, hb⟩; rw [QL.out]; have B3 := Aside0.mk (B2.out.trans (hb.mono B2.out.size)); have E3 := Aside0.mk (E2.out.below hb); obtain ⟨q0, b3, q1, q2, q3, q4'⟩ := E2.out.below hb; have c0 := (blk_cell q1 0).trans rfl; have c1 := (blk_cell q1 1).trans rfl; have X3 := Aside0.mk q4'; have Q13 := Aside0.mk q1; have Q2 := Aside0.mk q2; have Q3 := Aside0.mk q3; clear hb q0 q1 q2 q3 q4')
      | (refine MKind.put_event rfl (.inr rfl) (mkS tS) rfl n t rfl rfl X3.out HC.out PK.out PV.out ?_; intro w4 h4 g4; rw [QH.out] at h4; have X4 := Aside0.mk h4; have G4 := Aside0.mk g4; have q5 := (g4.block g E3.out.lt (by have := Q3.out; intro e; injection e; omega)).trans Q13.out; clear c1; have c1 := (blk_cell q5 1).trans rfl; have f1 := blk_frozen q5 1; have Q5 := Aside0.mk q5; clear h4 g4 q5))
    go_ret
    exact def_post HG.out E3.out (below_mono B3.out HB.out) (abv_below B3.out)
  · have HG := Aside0.mk (show defE s n t = (15, s) by unfold defE; rw [if_neg (by rw [QL.out]; decide), if_neg (by rw [QV.out]; decide), if_neg (by rw [Q4.out, QH.out]; decide), if_pos h5])
    have t5 : decide (200 < s.size + n.size + t.size) = true := decide_eq_true h5
    clear h5
    go_enter Tryd.func15, Tryd.ntmps15
    go_wp2_with (first
      | (go_at_call 25; refine (four_calls _).mono ?_; rintro e w1 ⟨mb, mm, rfl, hm, hmb, hb⟩; have M1 := Aside0.mk hm; have B1 := Aside0.mk hb; have E1 := Aside0.mk (H.out.below hb); obtain ⟨q0, b, q1, q2, q3, q4'⟩ := H.out.below hb; have c0 := (blk_cell q1 0).trans rfl; have X1 := Aside0.mk q4'; clear hm hb hmb q0 q1 q2 q3 q4')
      | ((with_reducible refine gate_dst (N := 16) rfl ?_); at_lookup; refine MKind.look_event rfl rfl (mkS tS) rfl n rfl M1.out PK.out ?_; rw [vvS, Q4.out])
      | ((with_reducible refine gate_dst (N := 25) rfl ?_); at_lookup; refine MKind.look_event rfl rfl (mkS tS) rfl n rfl X1.out PK.out ?_; rw [vvS, QH.out]; clear c0)
      | (go_at_call 26; refine (runes_calls t _ (by omega) (valid_calls t _ (by omega) (HT.out.below B1.out))).mono ?_; rintro e w2 ⟨rv, rfl, hr, hb⟩; rw [QV.out]; have B2 := Aside0.mk (B1.out.trans (hb.mono B1.out.size)); have E2 := Aside0.mk (E1.out.below hb); clear hb hr)
      | (go_at_call 24; refine (local_calls n _).mono ?_; rintro e w3 ⟨rfl, hb⟩; rw [QL.out]; have B3 := Aside0.mk (B2.out.trans (hb.mono B2.out.size)); have E3 := Aside0.mk (E2.out.below hb); obtain ⟨q0, b3, q1, q2, q3, q4'⟩ := E2.out.below hb; have c0 := (blk_cell q1 0).trans rfl; have c1 := (blk_cell q1 1).trans rfl; have X3 := Aside0.mk q4'; have Q13 := Aside0.mk q1; have Q2 := Aside0.mk q2; have Q3 := Aside0.mk q3; clear hb q0 q1 q2 q3 q4')
      | (refine MKind.put_event rfl (.inr rfl) (mkS tS) rfl n t rfl rfl X3.out HC.out PK.out PV.out ?_; intro w4 h4 g4; rw [QH.out] at h4; have X4 := Aside0.mk h4; have G4 := Aside0.mk g4; have q5 := (g4.block g E3.out.lt (by have := Q3.out; intro e; injection e; omega)).trans Q13.out; clear c1; have c1 := (blk_cell q5 1).trans rfl; have f1 := blk_frozen q5 1; have Q5 := Aside0.mk q5; clear h4 g4 q5))
    go_ret
    exact def_post HG.out E3.out (below_mono B3.out HB.out) (abv_below B3.out)
  · have HG := Aside0.mk (show defE s n t = (0, { s with f := fun y => if y = n then some t else s.f y, n := s.n + 1, size := s.size + (n.size + t.size) }) by unfold defE; rw [if_neg (by rw [QL.out]; decide), if_neg (by rw [QV.out]; decide), if_neg (by rw [Q4.out, QH.out]; decide), if_neg h5])
    have t5 : decide (200 < s.size + n.size + t.size) = false := decide_eq_false h5
    clear h5
    go_enter Tryd.func15, Tryd.ntmps15
    go_wp2_with (first
      | (go_at_call 25; refine (four_calls _).mono ?_; rintro e w1 ⟨mb, mm, rfl, hm, hmb, hb⟩; have M1 := Aside0.mk hm; have B1 := Aside0.mk hb; have E1 := Aside0.mk (H.out.below hb); obtain ⟨q0, b, q1, q2, q3, q4'⟩ := H.out.below hb; have c0 := (blk_cell q1 0).trans rfl; have X1 := Aside0.mk q4'; clear hm hb hmb q0 q1 q2 q3 q4')
      | ((with_reducible refine gate_dst (N := 16) rfl ?_); at_lookup; refine MKind.look_event rfl rfl (mkS tS) rfl n rfl M1.out PK.out ?_; rw [vvS, Q4.out])
      | ((with_reducible refine gate_dst (N := 25) rfl ?_); at_lookup; refine MKind.look_event rfl rfl (mkS tS) rfl n rfl X1.out PK.out ?_; rw [vvS, QH.out]; clear c0)
      | (go_at_call 26; refine (runes_calls t _ (by omega) (valid_calls t _ (by omega) (HT.out.below B1.out))).mono ?_; rintro e w2 ⟨rv, rfl, hr, hb⟩; rw [QV.out]; have B2 := Aside0.mk (B1.out.trans (hb.mono B1.out.size)); have E2 := Aside0.mk (E1.out.below hb); clear hb hr)
      | (go_at_call 24; refine (local_calls n _).mono ?_; rintro e w3 ⟨rfl, hb⟩; rw [QL.out]; have B3 := Aside0.mk (B2.out.trans (hb.mono B2.out.size)); have E3 := Aside0.mk (E2.out.below hb); obtain ⟨q0, b3, q1, q2, q3, q4'⟩ := E2.out.below hb; have c0 := (blk_cell q1 0).trans rfl; have c1 := (blk_cell q1 1).trans rfl; have X3 := Aside0.mk q4'; have Q13 := Aside0.mk q1; have Q2 := Aside0.mk q2; have Q3 := Aside0.mk q3; clear hb q0 q1 q2 q3 q4')
      | (refine MKind.put_event rfl (.inr rfl) (mkS tS) rfl n t rfl rfl X3.out HC.out PK.out PV.out ?_; intro w4 h4 g4; rw [QH.out] at h4; have X4 := Aside0.mk h4; have G4 := Aside0.mk g4; have q5 := (g4.block g E3.out.lt (by have := Q3.out; intro e; injection e; omega)).trans Q13.out; clear c1; have c1 := (blk_cell q5 1).trans rfl; have f1 := blk_frozen q5 1; have Q5 := Aside0.mk q5; clear h4 g4 q5))
    go_ret
    refine def_post HG.out ⟨H.out.1, b3, blk_put (cs' := #[.map (some b3), .int .i64 (s.size + (n.size + t.size)), .int .i64 s.told]) Q5.out 1 _ rfl, Q2.out, Q3.out, X4.out.set (p := ⟨g, 1, none⟩) (by show b3 ≠ g; have := Q3.out; omega) _⟩ ?_ ?_
    · exact ((below_mono B3.out HB.out).grown G4.out (by have := B3.out.size; have := HB.out; omega) (fun k hk => by injection hk with hk; have := Q2.out; omega)).setCell (p := ⟨g, 1, none⟩) H.out.1 _
    · intro k h1 h2
      rw [Below.heap_setCell _ _ _ _ (by show k ≠ g; omega)]
      exact (G4.out.block k (by have := B3.out.size; omega) (by have := Q3.out; intro e; injection e; omega)).trans (B3.out.block k h2)
end Go.Proofs.YtohkioijdokegaaDoor.En
