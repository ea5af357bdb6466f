/- The laws NamesKinds, NamesJoins, NamesCuts and NamesApart, walked. -/
import Derived.Test.YticlppojbbocbaaDoorNameLives
import Derived.Test.YticlppojbbocbaaDoorNameRJoin
namespace Go.Proofs.YticlppojbbocbaaDoor.Nm
open Go Go.Lib Go.Shelf Go.RowKit Go.Proofs.YticlppojbbocbaaDoorW.PrintWords Go.Proofs.YticlppojbbocbaaDoorW.PrintLast Go.Proofs.YticlppojbbocbaaDoor.Own Go.Proofs.YticlppojbbocbaaDoor.Srcw Go.Proofs.YticlppojbbocbaaDoor.Tab
set_option linter.unusedVariables false
set_option linter.unusedSimpArgs false
theorem sbeq {b : Bool} : (b == b) = true := by simp

set_option maxHeartbeats 4000000 in
set_option maxRecDepth 100000 in
theorem law_NamesKinds (s : ByteArray) (hs : s.size ≤ 1048576) (w : World) (hT : Tabs w) :
    Calls Tryd.prog 3 #[.string s] w fun e w' => e = .returned (.bool true) ∧ Below w.heap.size w w' := by
  have HT := Aside0.mk hT
  have HS := Aside0.mk hs
  clear hT hs
  go_enter Tryd.func3, Tryd.ntmps3
  go_wp2_with fail
  refine (cut_calls s w (by have := HS.out; omega) HT.out).mono ?_
  rintro e w1 ⟨a, b, c, rfl, ⟨h1, h2, h3⟩, hb⟩
  have B1 := Aside0.mk hb
  have H1 := Aside0.mk h1
  have H2 := Aside0.mk h2
  have H3 := Aside0.mk h3
  clear hb h1 h2 h3
  go_wp2_with fail
  refine (rcut_calls s w1).mono ?_
  rintro e w2 ⟨a2, b2, c2, rfl, ⟨h1, h2, h3⟩, hb⟩
  obtain rfl : a2 = a := h1.trans H1.out.symm
  obtain rfl : b2 = b := h2.trans H2.out.symm
  obtain rfl : c2 = c := h3.trans H3.out.symm
  have B2 := Aside0.mk (B1.out.trans (below_mono hb B1.out.size))
  clear hb h1 h2 h3
  go_wp2_with fail
  refine (local_calls s w2).mono ?_
  rintro e w3 ⟨rfl, hb⟩
  have B3 := Aside0.mk (B2.out.trans (below_mono hb B2.out.size))
  clear hb
  go_wp2_with fail
  refine (rlocal_calls s w3).mono ?_
  rintro e w4 ⟨rfl, hb⟩
  have B4 := Aside0.mk (B3.out.trans (below_mono hb B3.out.size))
  clear hb
  generalize localL s.data.toList = lo
  have t1 : (lo == lo) = true := by simp
  go_wp2_with fail
  refine (space_calls s w4 (by have := HS.out; omega) (HT.out.below B4.out)).mono ?_
  rintro e w5 ⟨rfl, hb⟩
  have B5 := Aside0.mk (B4.out.trans (below_mono hb B4.out.size))
  clear hb
  go_wp2_with fail
  refine (rspace_calls s (by have := HS.out; omega) w5).mono ?_
  rintro e w6 ⟨rfl, hb⟩
  have B6 := Aside0.mk (B5.out.trans (below_mono hb B5.out.size))
  clear hb
  generalize spaceL s.data.toList = sp
  have t2 : (sp == sp) = true := by simp
  have t3 : (c2 == c2) = true := by simp
  have t4 := seq_true (rfl : a2 = a2)
  have t5 := seq_true (rfl : b2 = b2)
  go_wp2_with fail
  refine (lives_calls w6 (HT.out.below B6.out)).mono ?_
  rintro e w7 ⟨rfl, hb⟩
  have B7 := Aside0.mk (B6.out.trans (below_mono hb B6.out.size))
  clear hb
  go_wp2
  go_ret
  exact ⟨rfl, B7.out⟩

set_option maxHeartbeats 4000000 in
set_option maxRecDepth 100000 in
theorem law_NamesCuts (s : ByteArray) (hs : s.size ≤ 1048576) (w : World) (hT : Tabs w) :
    Calls Tryd.prog 5 #[.string s] w fun e w' => e = .returned (.bool true) ∧ Below w.heap.size w w' := by
  have HT := Aside0.mk hT
  have HS := Aside0.mk hs
  have HSS := Aside0.mk (str_of s)
  clear hT hs
  go_enter Tryd.func5, Tryd.ntmps5
  go_wp2_with fail
  refine (cut_calls s w (by have := HS.out; omega) HT.out).mono ?_
  rintro e w1 ⟨a, b, c, rfl, ⟨h1, h2, h3⟩, hb⟩
  have B1 := Aside0.mk hb
  clear hb
  cases c
  · rw [cut_none h3.symm] at h1 h2
    subst h1 h2
    clear h3
    simp only [str]
    go_wp2_with fail
    refine (lives_calls w1 (HT.out.below B1.out)).mono ?_
    rintro e w2 ⟨rfl, hb⟩
    have B2 := Aside0.mk (B1.out.trans (below_mono hb B1.out.size))
    clear hb
    go_wp2
    go_ret
    exact ⟨rfl, B2.out⟩
  · have hc : cutL s.data.toList = (a.data.toList, b.data.toList, true) := by
      refine Prod.ext ?_ (Prod.ext ?_ h3.symm)
      · rw [h1, str_list]
      · rw [h2, str_list]
    have HJ := Aside0.mk (join_cut hc)
    have hps := cut_some hc
    have HA := Aside0.mk (show a.size ≤ 1048576 by
      rcases hps.1 with h | h
      · rw [← size_data, h]; decide
      · have := (space_parts h).2.2.1; rw [size_data] at this; omega)
    have HB := Aside0.mk (show b.size ≤ 1048576 by have := (local_parts hps.2.1).2.1; rw [size_data] at this; omega)
    clear h1 h2 h3 hc hps
    go_wp2_with fail
    refine (join_calls a b w1 HA.out HB.out (HT.out.below B1.out)).mono ?_
    rintro e w2 ⟨j, c, rfl, ⟨h1, h2⟩, hb⟩
    rw [HJ.out] at h1 h2
    simp only at h1 h2
    rw [HSS.out] at h1
    subst h1 h2
    have B2 := Aside0.mk (B1.out.trans (below_mono hb B1.out.size))
    clear hb
    have t1 := seq_true (rfl : j = j)
    go_wp2_with fail
    refine (lives_calls w2 (HT.out.below B2.out)).mono ?_
    rintro e w3 ⟨rfl, hb⟩
    have B3 := Aside0.mk (B2.out.trans (below_mono hb B2.out.size))
    clear hb
    go_wp2
    go_ret
    exact ⟨rfl, B3.out⟩

set_option maxHeartbeats 4000000 in
set_option maxRecDepth 100000 in
theorem law_NamesJoins (a : ByteArray) (ha : a.size ≤ 1048576) (b : ByteArray) (hbs : b.size ≤ 1048576) (w : World) (hT : Tabs w) :
    Calls Tryd.prog 4 #[.string a, .string b] w fun e w' => e = .returned (.bool true) ∧ Below w.heap.size w w' := by
  have HT := Aside0.mk hT
  have HA := Aside0.mk ha
  have HB := Aside0.mk hbs
  have HSA := Aside0.mk (str_of a)
  have HSB := Aside0.mk (str_of b)
  clear hT ha hbs
  go_enter Tryd.func4, Tryd.ntmps4
  go_wp2_with fail
  refine (join_calls a b w HA.out HB.out HT.out).mono ?_
  rintro e w1 ⟨s, c, rfl, ⟨h1, h2⟩, hb⟩
  have B1 := Aside0.mk hb
  have H1 := Aside0.mk h1
  have H2 := Aside0.mk h2
  clear hb h1 h2
  go_wp2_with fail
  refine (rjoin_calls a b w1 HA.out HB.out).mono ?_
  rintro e w2 ⟨s2, c2, rfl, ⟨h1, h2⟩, hb⟩
  obtain rfl : s2 = s := h1.trans H1.out.symm
  obtain rfl : c2 = c := h2.trans H2.out.symm
  have B2 := Aside0.mk (B1.out.trans (below_mono hb B1.out.size))
  have t1 := seq_true (rfl : s2 = s2)
  have t2 := sne_false (rfl : s2 = s2)
  have t3 := sbne_false (rfl : s2 = s2)
  clear hb h1 h2
  cases c2
  · go_wp2_with fail
    refine (lives_calls w2 (HT.out.below B2.out)).mono ?_
    rintro e w3 ⟨rfl, hb⟩
    have B3 := Aside0.mk (B2.out.trans (below_mono hb B2.out.size))
    clear hb
    go_wp2
    go_ret
    exact ⟨rfl, B3.out⟩
  · have hj : joinL a.data.toList b.data.toList = (s2.data.toList, true) := by
      refine Prod.ext ?_ H2.out.symm
      rw [H1.out, str_list]
    have HC := Aside0.mk (join_some hj).1
    have HZ := Aside0.mk (show s2.size < 17592186044416 by have := (cut_some HC.out).2.2.2; rw [size_data] at this; omega)
    clear hj
    go_wp2_with fail
    refine (cut_calls s2 w2 HZ.out (HT.out.below B2.out)).mono ?_
    rintro e w3 ⟨x, y, c, rfl, ⟨h1, h2, h3⟩, hb⟩
    rw [HC.out] at h1 h2 h3
    simp only at h1 h2 h3
    rw [HSA.out] at h1
    rw [HSB.out] at h2
    subst h1 h2 h3
    have B3 := Aside0.mk (B2.out.trans (below_mono hb B2.out.size))
    have t4 := seq_true (rfl : x = x)
    have t5 := seq_true (rfl : y = y)
    clear hb
    go_wp2_with fail
    refine (lives_calls w3 (HT.out.below B3.out)).mono ?_
    rintro e w4 ⟨rfl, hb⟩
    have B4 := Aside0.mk (B3.out.trans (below_mono hb B3.out.size))
    clear hb
    go_wp2
    go_ret
    exact ⟨rfl, B4.out⟩

set_option maxHeartbeats 4000000 in
set_option maxRecDepth 100000 in
theorem law_NamesApart (a : ByteArray) (ha : a.size ≤ 1048576) (b : ByteArray) (hbs : b.size ≤ 1048576) (w : World) (hT : Tabs w) :
    Calls Tryd.prog 6 #[.string a, .string b] w fun e w' => e = .returned (.bool true) ∧ Below w.heap.size w w' := by
  have HT := Aside0.mk hT
  have HA := Aside0.mk ha
  have HB := Aside0.mk hbs
  clear hT ha hbs
  go_enter Tryd.func6, Tryd.ntmps6
  go_wp2_with fail
  refine (cut_calls a w (by have := HA.out; omega) HT.out).mono ?_
  rintro e w1 ⟨p, q, c, rfl, ⟨h1, h2, h3⟩, hb⟩
  have B1 := Aside0.mk hb
  have H1 := Aside0.mk h1
  have H2 := Aside0.mk h2
  have H3 := Aside0.mk h3
  clear hb h1 h2 h3
  go_wp2_with fail
  refine (cut_calls b w1 (by have := HB.out; omega) (HT.out.below B1.out)).mono ?_
  rintro e w2 ⟨r, s, c2, rfl, ⟨h1, h2, h3⟩, hb⟩
  have B2 := Aside0.mk (B1.out.trans (below_mono hb B1.out.size))
  have H4 := Aside0.mk h1
  have H5 := Aside0.mk h2
  have H6 := Aside0.mk h3
  clear hb h1 h2 h3
  have HL := Aside0.mk (lives_calls w2 (HT.out.below B2.out))
  by_cases hcc : c = true ∧ c2 = true
  · obtain ⟨rfl, rfl⟩ := hcc
    have ha : cutL a.data.toList = (p.data.toList, q.data.toList, true) := Prod.ext (by rw [H1.out, str_list]) (Prod.ext (by rw [H2.out, str_list]) H3.out.symm)
    have hb' : cutL b.data.toList = (r.data.toList, s.data.toList, true) := Prod.ext (by rw [H4.out, str_list]) (Prod.ext (by rw [H5.out, str_list]) H6.out.symm)
    have hap := apart ha hb'
    have inj : ∀ {x y : ByteArray}, x.data.toList = y.data.toList → x = y := fun {x y} h => by rw [← str_of x, h, str_of]
    have hap2 : a = b ↔ (p = r ∧ q = s) := ⟨fun e => by subst e; have := hap.1 rfl; exact ⟨inj this.1, inj this.2⟩, fun h => inj (hap.2 ⟨by rw [h.1], by rw [h.2]⟩)⟩
    clear ha hb' hap
    by_cases e1 : p = r
    · by_cases e2 : q = s
      · have e3 : a = b := hap2.2 ⟨e1, e2⟩
        have t1 := seq_true e1
        have t2 := seq_true e2
        have t3 := seq_true e3
        clear hap2 e1 e2 e3
        go_wp2_with fail
        refine HL.out.mono ?_
        rintro e w3 ⟨rfl, hb⟩
        have B3 := Aside0.mk (B2.out.trans (below_mono hb B2.out.size))
        clear hb
        go_wp2
        go_ret
        exact ⟨rfl, B3.out⟩
      · have e3 : ¬ a = b := fun h => e2 (hap2.1 h).2
        have t1 := seq_true e1
        have t2 := seq_false e2
        have t3 := seq_false e3
        clear hap2 e1 e2 e3
        go_wp2_with fail
        refine HL.out.mono ?_
        rintro e w3 ⟨rfl, hb⟩
        have B3 := Aside0.mk (B2.out.trans (below_mono hb B2.out.size))
        clear hb
        go_wp2
        go_ret
        exact ⟨rfl, B3.out⟩
    · have e3 : ¬ a = b := fun h => e1 (hap2.1 h).1
      have t1 := seq_false e1
      have t3 := seq_false e3
      clear hap2 e1 e3
      go_wp2_with fail
      refine HL.out.mono ?_
      rintro e w3 ⟨rfl, hb⟩
      have B3 := Aside0.mk (B2.out.trans (below_mono hb B2.out.size))
      clear hb
      go_wp2
      go_ret
      exact ⟨rfl, B3.out⟩
  · have hcc' : (c = false) ∨ (c = true ∧ c2 = false) := by cases c <;> cases c2 <;> simp_all
    clear hcc
    rcases hcc' with rfl | ⟨rfl, rfl⟩
    all_goals
      go_wp2_with fail
      refine HL.out.mono ?_
      rintro e w3 ⟨rfl, hb⟩
      have B3 := Aside0.mk (B2.out.trans (below_mono hb B2.out.size))
      clear hb
      go_wp2
      go_ret
      exact ⟨rfl, B3.out⟩
end Go.Proofs.YticlppojbbocbaaDoor.Nm
