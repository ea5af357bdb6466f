/- The law QuoteApart, walked. -/
import Derived.Test.YtadbjbnnmooicaaDoorQuoteRoundL
import Derived.Test.YtadbjbnnmooicaaDoorOwnStr
namespace Go.Proofs.YtadbjbnnmooicaaDoor.Qw
open Go.RowKit Go.Proofs.YtadbjbnnmooicaaDoorW.PrintWords Go.Proofs.YtadbjbnnmooicaaDoorW.PrintLast Go.Proofs.YtadbjbnnmooicaaDoor.Own Go.Proofs.YtadbjbnnmooicaaDoor.Srcw Go.Proofs.YtadbjbnnmooicaaDoor.Tab
set_option linter.unusedVariables false
set_option linter.unusedSimpArgs false
theorem apart_plain {a b x y : ByteArray} (ha : prtS a = (x, 0)) (hb : prtS b = (y, 0)) : x = y ↔ a = b := by
  have h1 := (round_plain a x ha).2.2.1
  have h2 := (round_plain b y hb).2.2.1
  constructor
  · rintro rfl
    exact h1.symm.trans h2
  · rintro rfl
    rw [ha] at hb
    injection hb

set_option maxHeartbeats 4000000 in
set_option maxRecDepth 100000 in
theorem law_QuoteApart (a : ByteArray) (ha : a.size ≤ 1048576) (b : ByteArray) (hb : b.size ≤ 1048576) (w : World) (hT : Tabs w) :
    Calls Tryd.prog 7 #[.string a, .string b] w fun e w' => e = .returned (.bool true) ∧ Below w.heap.size w w' := by
  have HT := Aside0.mk hT
  have HC := Aside0.mk (print_calls a w (by omega) hT)
  have HB := Aside0.mk (show b.size < 17592186044416 by omega)
  clear hT ha hb
  go_enter Tryd.func7, Tryd.ntmps7
  go_wp2_with fail
  refine HC.out.mono ?_
  rintro e w1 ⟨x, f, rfl, ⟨h1, h2⟩, hb⟩
  have B1 := Aside0.mk hb
  have H1 := Aside0.mk h1
  have H2 := Aside0.mk h2
  clear hb h1 h2
  go_wp2_with fail
  refine (print_calls b w1 HB.out (HT.out.below B1.out)).mono ?_
  rintro e w2 ⟨y, g, rfl, ⟨h3, h4⟩, hb⟩
  have B2 := Aside0.mk (B1.out.trans (below_mono hb B1.out.size))
  clear hb
  have H3 := Aside0.mk h3
  have H4 := Aside0.mk h4
  clear h3 h4
  by_cases hf : f = 0
  · by_cases hg : g = 0
    · have hp := apart_plain (a := a) (b := b) (x := x) (y := y) (by rw [← hf, H1.out, H2.out]) (by rw [← hg, H3.out, H4.out])
      subst hf hg
      by_cases hab : a = b
      · have q1 := seq_true hab
        have q2 := seq_true (hp.2 hab)
        have q3 := sdec_true hab
        have q4 := sdec_true (hp.2 hab)
        clear hp hab
        go_wp2_with fail
        refine (lives_calls w2 (HT.out.below B2.out)).mono ?_
        rintro e w3 ⟨rfl, hb⟩
        have B3 := Aside0.mk (B2.out.trans (below_mono hb B2.out.size))
        clear hb
        go_wp2
        go_ret
        exact ⟨rfl, B3.out⟩
      · have q1 := seq_false hab
        have q2 := seq_false (fun e => hab (hp.1 e))
        have q3 := sdec_false hab
        have q4 := sdec_false (fun e => hab (hp.1 e))
        clear hp hab
        go_wp2_with fail
        refine (lives_calls w2 (HT.out.below B2.out)).mono ?_
        rintro e w3 ⟨rfl, hb⟩
        have B3 := Aside0.mk (B2.out.trans (below_mono hb B2.out.size))
        clear hb
        go_wp2
        go_ret
        exact ⟨rfl, B3.out⟩
    · have t1 : (g == 0) = false := by simpa using hg
      subst hf
      clear hg
      go_wp2_with fail
      refine (lives_calls w2 (HT.out.below B2.out)).mono ?_
      rintro e w3 ⟨rfl, hb⟩
      have B3 := Aside0.mk (B2.out.trans (below_mono hb B2.out.size))
      clear hb
      go_wp2
      go_ret
      exact ⟨rfl, B3.out⟩
  · have t1 : (f == 0) = false := by simpa using hf
    clear hf
    go_wp2_with fail
    refine (lives_calls w2 (HT.out.below B2.out)).mono ?_
    rintro e w3 ⟨rfl, hb⟩
    have B3 := Aside0.mk (B2.out.trans (below_mono hb B2.out.size))
    clear hb
    go_wp2
    go_ret
    exact ⟨rfl, B3.out⟩
end Go.Proofs.YtadbjbnnmooicaaDoor.Qw
