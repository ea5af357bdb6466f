/- What src.Put and the reference's Put compute, for every number: the character's bytes, or none. -/
import Derived.Test.YtadbjbnnmooicaaDoorPQuotePrintsx1
import Derived.Test.YtadbjbnnmooicaaDoorOwn
namespace Go.Proofs.YtadbjbnnmooicaaDoor.Srcw
open Go.RowKit Go.Proofs.YtadbjbnnmooicaaDoorW.PrintWords Go.Proofs.YtadbjbnnmooicaaDoorW.PrintLast Go.Proofs.YtadbjbnnmooicaaDoor.Own
set_option linter.unusedVariables false
set_option linter.unusedSimpArgs false

/-- Is a number a character's? -/
def mayN (r : Int) : Bool := decide (0 ≤ r ∧ r ≤ 1114111 ∧ (r < 55296 ∨ 57343 < r))
/-- A character's bytes; of what is none nothing. -/
def putS (r : Int) : ByteArray := if mayN r then Utf8.encode r else ⟨#[]⟩

def PutPost (r : Int) (w : World) (e : Ending) (w' : World) : Prop := e = .returned (.tuple #[.string (putS r), .bool (mayN r)]) ∧ Below w.heap.size w w'

theorem putS_yes {r : Int} (h : mayN r = true) : putS r = Utf8.encode r := by unfold putS; rw [if_pos h]
theorem putS_no {r : Int} (h : mayN r = false) : putS r = ⟨#[]⟩ := by unfold putS; rw [if_neg (by simp [h])]

set_option maxHeartbeats 1000000 in
set_option maxRecDepth 100000 in
theorem put_neg (r : Int) (w : World) (h : r < 0) : Calls Tryd.prog 31 #[.int .i64 r] w (PutPost r w) := by
  have hm : mayN r = false := by unfold mayN; simp; omega
  unfold PutPost
  rw [putS_no hm, hm]
  have t1 : decide (r < 0) = true := decide_eq_true h
  clear h hm
  go_enter Tryd.func31, Tryd.ntmps31
  go_wp2
  go_ret2
  exact ⟨rfl, Below.refl _ _⟩
set_option maxHeartbeats 1000000 in
set_option maxRecDepth 100000 in
theorem put_high (r : Int) (w : World) (h : 1114111 < r) : Calls Tryd.prog 31 #[.int .i64 r] w (PutPost r w) := by
  have hm : mayN r = false := by unfold mayN; simp; omega
  unfold PutPost
  rw [putS_no hm, hm]
  have t1 : decide (r < 0) = false := decide_eq_false (by omega)
  have t2 : decide (1114111 < r) = true := decide_eq_true h
  clear h hm
  go_enter Tryd.func31, Tryd.ntmps31
  go_wp2
  go_ret2
  exact ⟨rfl, Below.refl _ _⟩
set_option maxHeartbeats 1000000 in
set_option maxRecDepth 100000 in
theorem put_mid (r : Int) (w : World) (h0 : 0 ≤ r) (h1 : r ≤ 1114111) : Calls Tryd.prog 31 #[.int .i64 r] w (PutPost r w) := by
  have t1 : decide (r < 0) = false := decide_eq_false (by omega)
  have t2 : decide (1114111 < r) = false := decide_eq_false (by omega)
  have t3 : decide (0 ≤ r) = true := decide_eq_true h0
  have t4 : decide (r ≤ 1114111) = true := decide_eq_true h1
  by_cases c1 : r < 55296
  · have hm : mayN r = true := by unfold mayN; simp; omega
    unfold PutPost
    rw [putS_yes hm, hm]
    have t5 : decide (r < 55296) = true := decide_eq_true c1
    clear hm
    go_enter Tryd.func31, Tryd.ntmps31
    go_wp2
    go_ret2
    exact ⟨rfl, Below.refl _ _⟩
  · have t5 : decide (r < 55296) = false := decide_eq_false c1
    by_cases c2 : 57343 < r
    · have hm : mayN r = true := by unfold mayN; simp; omega
      unfold PutPost
      rw [putS_yes hm, hm]
      have t6 : decide (57343 < r) = true := decide_eq_true c2
      clear hm
      go_enter Tryd.func31, Tryd.ntmps31
      go_wp2
      go_ret2
      exact ⟨rfl, Below.refl _ _⟩
    · have hm : mayN r = false := by unfold mayN; simp; omega
      unfold PutPost
      rw [putS_no hm, hm]
      have t6 : decide (57343 < r) = false := decide_eq_false c2
      clear hm
      go_enter Tryd.func31, Tryd.ntmps31
      go_wp2
      go_ret2
      exact ⟨rfl, Below.refl _ _⟩
/-- src.Put, for every number. -/
theorem put_calls (r : Int) (w : World) : Calls Tryd.prog 31 #[.int .i64 r] w (PutPost r w) := by
  by_cases h0 : r < 0
  · exact put_neg r w h0
  · by_cases h1 : 1114111 < r
    · exact put_high r w h1
    · exact put_mid r w (by omega) (by omega)
end Go.Proofs.YtadbjbnnmooicaaDoor.Srcw
