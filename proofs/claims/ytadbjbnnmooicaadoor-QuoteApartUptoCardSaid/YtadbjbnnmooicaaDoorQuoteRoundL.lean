/- The law QuoteRound, walked. -/
import Derived.Test.YtadbjbnnmooicaaDoorQuoteRoundP
import Derived.Test.YtadbjbnnmooicaaDoorQuoteLives
namespace Go.Proofs.YtadbjbnnmooicaaDoor.Qw
open Go.RowKit Go.Proofs.YtadbjbnnmooicaaDoorW.PrintWords Go.Proofs.YtadbjbnnmooicaaDoorW.PrintLast Go.Proofs.YtadbjbnnmooicaaDoor.Own Go.Proofs.YtadbjbnnmooicaaDoor.Srcw Go.Proofs.YtadbjbnnmooicaaDoor.Tab
set_option linter.unusedVariables false
set_option linter.unusedSimpArgs false
theorem prtS_err {s : ByteArray} (h : (prtS s).2 ≠ 0) : (prtS s).1 = ⟨#[]⟩ := by
  unfold prtS at h ⊢
  split
  · rfl
  split
  · rfl
  · rename_i h1 h2; rw [if_neg h1, if_neg h2] at h; exact absurd rfl h
theorem prtS_size {s : ByteArray} : (prtS s).1.size ≤ 290 := by
  unfold prtS
  split
  · decide
  split
  · decide
  · rename_i h1 h2
    have h3 := prt_len s.data.toList s.size (by rw [size_data]; exact Nat.le_refl _)
    rw [strOfNums_size]
    simp only [List.length_append]
    show 1 + _ + 1 ≤ _
    omega

set_option maxHeartbeats 4000000 in
set_option maxRecDepth 100000 in
theorem law_QuoteRound (s : ByteArray) (hs : s.size ≤ 1048576) (w : World) (hT : Tabs w) :
    Calls Tryd.prog 6 #[.string s] w fun e w' => e = .returned (.bool true) ∧ Below w.heap.size w w' := by
  have HT := Aside0.mk hT
  have HC := Aside0.mk (print_calls s w (by omega) hT)
  clear hT hs
  go_enter Tryd.func6, Tryd.ntmps6
  go_wp2_with fail
  refine HC.out.mono ?_
  rintro e w1 ⟨p, f, rfl, ⟨h1, h2⟩, hb⟩
  have B1 := Aside0.mk hb
  clear hb
  by_cases hf : f = 0
  · have hp : prtS s = (p, 0) := by rw [← hf, h1, h2]
    obtain ⟨r1, r2, r3, r4⟩ := round_plain s p hp
    have hps : p.size ≤ 290 := by rw [h1]; exact prtS_size
    subst hf
    have R3 := Aside0.mk r3
    have R4 := Aside0.mk r4
    have HP := Aside0.mk hps
    have t1 : decide ((p.size : Int) < 2) = false := decide_eq_false (by omega)
    have t2 : 0 < p.size := by omega
    have t3 : (p[0]'t2).toNat = 34 := by
      have : p.data.toList.getD 0 0 = p[0]'t2 := by
        have hd : 0 < p.data.size := t2
        simp only [List.getD]
        rw [Array.getElem?_toList, Array.getElem?_eq_getElem hd]
        rfl
      rw [← this, r2]; rfl
    clear h1 h2 hp r2 r3 r4 hps
    go_wp2_with fail
    refine (all_calls (p.extract 1 p.size) (by rw [ByteArray.size_extract]; have := HP.out; omega) w1).mono ?_
    rintro e w2 ⟨t, n, d, f, rfl, ⟨h1, h2, h3, h4⟩, hb⟩
    rw [R3.out] at h1
    rw [R4.out] at h2 h3 h4
    subst h1 h2 h3 h4
    have B2 := Aside0.mk (B1.out.trans (below_mono hb B1.out.size))
    have t4 : (((p.size - 2 : Nat) : Int)) = (p.size : Int) - 2 := by omega
    have t5 : wrap64 ((p.size : Int) - 2) = (p.size : Int) - 2 := w64 (by omega) (by have := HP.out; omega)
    clear hb
    simp only
    rw [t4]
    go_wp2_with fail
    refine (lives_calls w2 (HT.out.below B2.out)).mono ?_
    rintro e w3 ⟨rfl, hb⟩
    have B3 := Aside0.mk (B2.out.trans (below_mono hb B2.out.size))
    clear hb
    go_wp2
    go_ret
    exact ⟨rfl, B3.out⟩
  · have hp : p = ⟨#[]⟩ := by rw [h1]; exact prtS_err (by rw [← h2]; exact hf)
    have t1 : (f == 0) = false := by simpa using hf
    have t2 : decide (f = 0) = false := by simpa using hf
    subst hp
    clear h1 h2 hf
    go_wp2_with fail
    refine (lives_calls w1 (HT.out.below B1.out)).mono ?_
    rintro e w3 ⟨rfl, hb⟩
    have B3 := Aside0.mk (B1.out.trans (below_mono hb B1.out.size))
    clear hb
    go_wp2
    go_ret
    exact ⟨rfl, B3.out⟩
end Go.Proofs.YtadbjbnnmooicaaDoor.Qw
