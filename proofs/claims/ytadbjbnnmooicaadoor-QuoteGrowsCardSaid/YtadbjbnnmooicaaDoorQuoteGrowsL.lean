/- The law QuoteGrows, walked. -/
import Derived.Test.YtadbjbnnmooicaaDoorQuoteLives
import Derived.Test.YtadbjbnnmooicaaDoorOwnStr
namespace Go.Proofs.YtadbjbnnmooicaaDoor.Qw
open Go.RowKit Go.Proofs.YtadbjbnnmooicaaDoorW.PrintWords Go.Proofs.YtadbjbnnmooicaaDoorW.PrintLast Go.Proofs.YtadbjbnnmooicaaDoor.Own Go.Proofs.YtadbjbnnmooicaaDoor.Srcw Go.Proofs.YtadbjbnnmooicaaDoor.Tab
set_option linter.unusedVariables false
set_option linter.unusedSimpArgs false
theorem addQ_grows (s : QS) (ys : List Int) : ∃ t, (addQ s ys).2.l = s.l ++ t := by
  unfold addQ
  split
  · exact ⟨[], by simp⟩
  · exact ⟨ys, rfl⟩
theorem stepQ_grows (s : QS) (b : Int) : ∃ t, (stepQ s b).2.2.l = s.l ++ t ∧ ((stepQ s b).1 = true → t = [] ∧ (stepQ s b).2.2.over = true) := by
  unfold stepQ
  split
  · exact ⟨[], by simp, by simp⟩
  split
  · unfold digQ
    split
    · exact ⟨[], by simp, by simp⟩
    split
    · exact ⟨[], by simp, by simp⟩
    split
    · obtain ⟨t, ht⟩ := addQ_grows { s with num := 16 * s.num + hexN b, left := 0 } (bnums (putS (16 * s.num + hexN b)).data.toList)
      exact ⟨t, ht, by simp⟩
    · exact ⟨[], by simp, by simp⟩
  split
  · split
    · exact ⟨[], by simp, by simp⟩
    split
    · obtain ⟨t, ht⟩ := addQ_grows { s with esc := false } [(escN b).getD 0]
      exact ⟨t, ht, by simp⟩
    · exact ⟨[], by simp, by simp⟩
  split
  · exact ⟨[], by simp, by simp⟩
  split
  · exact ⟨[], by simp, by simp⟩
  split
  · exact ⟨[], by simp, by simp⟩
  · obtain ⟨t, ht⟩ := addQ_grows s [b]
    exact ⟨t, ht, by simp⟩
theorem str_pre (l t : List Int) : (strOfNums (l ++ t)).extract 0 (strOfNums l).size = strOfNums l := by
  apply ByteArray.ext
  rw [ByteArray.data_extract, strOfNums_size]
  apply Array.ext'
  rw [Array.toList_extract, strOfNums_data, strOfNums_data]
  simp [List.extract]

/-- What is known of a step's text. -/
def GrowsAt (was now : ByteArray) (d : Bool) : Prop := was.size ≤ now.size ∧ now.size ≤ 48 ∧ now.extract 0 was.size = was ∧ (d = true → now = was)
theorem grows_at {s : QS} (h : s.Ok) (b : Int) : GrowsAt (strOfNums s.l) (strOfNums (stepQ s b).2.2.l) (stepQ s b).1 := by
  obtain ⟨t, h1, h2⟩ := stepQ_grows s b
  have h3 := (stepQ_ok h b).1
  rw [h1] at h3 ⊢
  refine ⟨by rw [strOfNums_size, strOfNums_size]; simp, by rw [strOfNums_size]; exact h3, str_pre _ _, fun hd => ?_⟩
  rw [(h2 hd).1, List.append_nil]

set_option maxHeartbeats 4000000 in
set_option maxRecDepth 100000 in
theorem law_QuoteGrows (s : ByteArray) (hs : s.size ≤ 140737488351232) (w : World) (hT : Tabs w) :
    Calls Tryd.prog 4 #[.string s] w fun e w' => e = .returned (.bool true) ∧ Below w.heap.size w w' := by
  have HT := Aside0.mk hT
  clear hT
  go_enter Tryd.func4, Tryd.ntmps4
  go_wp2_with fail
  refine (new_calls w w (Below.refl _ _)).mono ?_
  rintro e w1 ⟨g, rfl, hq, hb⟩
  have Q1 := Aside0.mk hq
  have B1 := Aside0.mk hb
  clear hq hb
  go_wp2_with fail
  go_loopg [4, 5] (s.size + 1) (fun gk v4 v5 wr => ∃ (i : Nat) (st : QS) (was : ByteArray), v5 = .int .i64 i ∧ v4 = .string was ∧ Aside0 (was = strOfNums st.l) ∧ Aside0 (i ≤ s.size) ∧ Aside0 (s.size - i < gk) ∧ Aside0 st.Ok ∧ Aside0 (QAt w.heap.size wr g st) ∧ Aside0 (Below w.heap.size w wr))
  case atStart => exact ⟨0, QS.new, _, rfl, rfl, ⟨rfl⟩, ⟨Nat.zero_le _⟩, ⟨by omega⟩, ⟨QS.ok_new⟩, Q1, B1⟩
  case round =>
    obtain ⟨i, st, was, rfl, rfl, P0, P1, P2, P4, P5, P6⟩ := hrel
    cases gk with
    | zero => exact absurd P2.out (by omega)
    | succ k1 =>
    by_cases hlt : i < s.size
    · go_wp2_with fail
      refine (step_calls (b := (s[i].toNat : Int)) P5.out P6.out.size P4.out (by omega) (by have := s[i].toNat_lt; omega)).mono ?_
      rintro e w2 ⟨x, y, rfl, hx, hy, hq, hb⟩
      have hga := grows_at P4.out (s[i].toNat : Int)
      rw [← P0.out, ← hx] at hga
      have H3 := Aside0.mk hq
      have H4 := Aside0.mk (P6.out.trans hb)
      have H5 := Aside0.mk (stepQ_ok P4.out (s[i].toNat : Int))
      have H6 := Aside0.mk (fun h : x = true => (stepQ_grows st (s[i].toNat : Int)).choose_spec.2 (by rw [← hx]; exact h) |>.2)
      clear hx hy hq hb
      generalize (stepQ st (s[i].toNat : Int)).2.2 = st2 at hga H3 H5 H6
      by_cases hy : y = 0
      · subst hy
        have HG := Aside0.mk hga
        clear hga
        go_wp2_with fail
        refine (text_calls H3.out).mono ?_
        rintro e w3 ⟨rfl, rfl⟩
        have hga := HG.out
        generalize hnow : strOfNums st2.l = now at hga HG ⊢
        have HN := Aside0.mk hnow
        clear hnow
        obtain ⟨g1, g2, g3, g4⟩ := hga
        have t1 : decide ((now.size : Int) < was.size) = false := decide_eq_false (by omega)
        have t2 : decide (48 < (now.size : Int)) = false := decide_eq_false (by omega)
        have t3 := sdec_true g3
        have t4 := seq_true g3
        have t5 : was.size ≤ now.size := g1
        clear g1 g2 g3
        cases x
        · clear g4
          go_wp2
          go_roundg k1
          case measure => have := P2.out; omega
          case rel => exact ⟨i + 1, st2, now, by go_num, rfl, ⟨HN.out.symm⟩, ⟨by omega⟩, ⟨by have := P2.out; omega⟩, H5, H3, H4⟩
        · have t6 := g4 rfl
          subst t6
          clear g4
          go_wp2_with fail
          refine (step_over (b := 97) H3.out (by first | exact H6.out rfl | exact H6.out trivial)).mono ?_
          rintro e w4 ⟨x, y, rfl, hx, hy, hq, hb⟩
          have B4 := Aside0.mk (H4.out.trans hb)
          subst hx hy
          clear hq hb
          go_wp2_with fail
          refine (lives_calls w4 (HT.out.below B4.out)).mono ?_
          rintro e w5 ⟨rfl, hb⟩
          have B5 := Aside0.mk (B4.out.trans (below_mono hb B4.out.size))
          clear hb
          go_wp2
          go_ret
          exact ⟨rfl, B5.out⟩
      · have t1 : (y == 0) = false := by simpa using hy
        clear hga hy
        go_wp2_with fail
        refine (lives_calls w2 (HT.out.below H4.out)).mono ?_
        rintro e w3 ⟨rfl, hb⟩
        have B3 := Aside0.mk (H4.out.trans (below_mono hb H4.out.size))
        clear hb
        go_wp2
        go_ret
        exact ⟨rfl, B3.out⟩
    · go_wp2_with fail
      refine (lives_calls wr (HT.out.below P6.out)).mono ?_
      rintro e w3 ⟨rfl, hb⟩
      have B3 := Aside0.mk (P6.out.trans (below_mono hb P6.out.size))
      clear hb
      go_wp2
      go_ret
      exact ⟨rfl, B3.out⟩
end Go.Proofs.YtadbjbnnmooicaaDoor.Qw
