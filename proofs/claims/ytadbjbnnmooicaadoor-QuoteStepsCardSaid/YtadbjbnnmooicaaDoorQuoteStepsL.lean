/- The law QuoteSteps, walked. -/
import Derived.Test.YtadbjbnnmooicaaDoorQuoteRead
import Derived.Test.YtadbjbnnmooicaaDoorQuoteLives
import Derived.Test.YtadbjbnnmooicaaDoorOwnStr
namespace Go.Proofs.YtadbjbnnmooicaaDoor.Qw
open Go.RowKit Go.Proofs.YtadbjbnnmooicaaDoorW.PrintWords Go.Proofs.YtadbjbnnmooicaaDoorW.PrintLast Go.Proofs.YtadbjbnnmooicaaDoor.Own Go.Proofs.YtadbjbnnmooicaaDoor.Srcw Go.Proofs.YtadbjbnnmooicaaDoor.Tab
set_option linter.unusedVariables false
set_option linter.unusedSimpArgs false
theorem allL_end : ∀ (l : List UInt8) (s : QS) (i : Nat), (allL l s i).2.2.1 = false → (allL l s i).2.2.2 = 0 → (allL l s i).2.1 = i + l.length := by
  intro l
  induction l with
  | nil => intro s i _ _; rfl
  | cons b r ih =>
    intro s i h1 h2
    unfold allL at h1 h2 ⊢
    split
    · rename_i h
      rw [if_pos h] at h1 h2
      simp only at h1 h2
      rcases h with h | h
      · rw [h] at h1; cases h1
      · exact absurd h2 h
    · rename_i h
      rw [if_neg h] at h1 h2
      rw [ih _ _ h1 h2]
      simp [Nat.add_comm, Nat.add_left_comm]

theorem allL_le : ∀ (l : List UInt8) (s : QS) (i : Nat), (allL l s i).2.1 ≤ i + l.length := by
  intro l
  induction l with
  | nil => intro s i; exact Nat.le_refl _
  | cons b r ih =>
    intro s i
    unfold allL
    split
    · simp
    · have := ih (stepQ s (b.toNat : Int)).2.2 (i + 1)
      simp only [List.length_cons]
      omega

set_option maxHeartbeats 4000000 in
set_option maxRecDepth 100000 in
theorem law_QuoteSteps (s : ByteArray) (hs : s.size ≤ 140737488351232) (w : World) (hT : Tabs w) :
    Calls Tryd.prog 3 #[.string s] w fun e w' => e = .returned (.bool true) ∧ Below w.heap.size w w' := by
  have HT := Aside0.mk hT
  have HS := Aside0.mk hs
  have HE := Aside0.mk (show (allS s).2.2.1 = false → (allS s).2.2.2 = 0 → (allS s).2.1 = s.size from fun h1 h2 => by
    have := allL_end s.data.toList QS.new 0 h1 h2
    rw [size_data, Nat.zero_add] at this
    exact this)
  clear hT hs
  go_enter Tryd.func3, Tryd.ntmps3
  go_wp2_with fail
  refine (all_calls s (by have := HS.out; omega) w).mono ?_
  rintro e w1 ⟨t, n, d, f, rfl, ⟨h1, h2, h3, h4⟩, hb⟩
  have B1 := Aside0.mk hb
  have H1 := Aside0.mk h1
  have H2 := Aside0.mk h2
  have H3 := Aside0.mk h3
  have H4 := Aside0.mk h4
  clear hb h1 h2 h3 h4
  go_wp2_with fail
  refine (read_calls s (by have := HS.out; omega) w1).mono ?_
  rintro e w2 ⟨t2, n2, f2, k2, rfl, ⟨r1, r2, r3⟩, hb⟩
  have B2 := Aside0.mk (B1.out.trans (below_mono hb B1.out.size))
  rw [← H4.out] at r1
  rw [← H2.out, ← H3.out] at r2
  rw [← H1.out, ← H2.out, ← H3.out] at r3
  obtain rfl : f2 = f := r1
  clear hb
  have HL := Aside0.mk (lives_calls w2 (HT.out.below B2.out))
  have hn1 : 0 ≤ n ∧ n ≤ 140737488351232 := by
    have h1 := allL_le s.data.toList QS.new 0
    rw [size_data, Nat.zero_add] at h1
    have h2 := H2.out
    have h3 := HS.out
    unfold allS at h2
    omega
  have tw : wrap64 (n + 1 - 1) = n := by unfold wrap64; omega
  by_cases hf : f2 = 0
  · subst hf
    have r4 := r3 rfl
    clear r3 r2
    obtain ⟨rfl, r5⟩ := r4
    rcases r5 with ⟨rfl, rfl⟩ | ⟨rfl, rfl⟩
    · have t3 : decide (n + 1 < 0) = false := decide_eq_false (by omega)
      go_wp2_with fail
      refine HL.out.mono ?_
      rintro e w3 ⟨rfl, hb⟩
      have B3 := Aside0.mk (B2.out.trans (below_mono hb B2.out.size))
      clear hb
      go_wp2
      go_ret
      exact ⟨rfl, B3.out⟩
    · have hn : n = (s.size : Int) := by rw [H2.out, HE.out H3.out.symm H4.out.symm]
      subst hn
      go_wp2_with fail
      refine HL.out.mono ?_
      rintro e w3 ⟨rfl, hb⟩
      have B3 := Aside0.mk (B2.out.trans (below_mono hb B2.out.size))
      clear hb
      go_wp2
      go_ret
      exact ⟨rfl, B3.out⟩
  · obtain ⟨rfl, rfl⟩ := r2 hf
    have t1 : (f2 == 0) = false := by simpa using hf
    have t2 : decide (f2 = 0) = false := by simpa using hf
    clear r2 r3 hf
    go_wp2_with fail
    refine HL.out.mono ?_
    rintro e w3 ⟨rfl, hb⟩
    have B3 := Aside0.mk (B2.out.trans (below_mono hb B2.out.size))
    clear hb
    go_wp2
    go_ret
    exact ⟨rfl, B3.out⟩
end Go.Proofs.YtadbjbnnmooicaaDoor.Qw
