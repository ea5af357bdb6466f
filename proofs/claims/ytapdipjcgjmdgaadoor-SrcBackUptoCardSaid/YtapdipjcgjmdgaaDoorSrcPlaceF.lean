/- A byte's line and column in plain words, and the complex numbers that src.Place counts them in. -/
import Derived.Test.YtapdipjcgjmdgaaDoorFloatNat
import Derived.Laws.ComplexArith
namespace Go.Proofs.YtapdipjcgjmdgaaDoor.Srcw
open Go.Proofs.YtapdipjcgjmdgaaDoor.Flt

/-- Line and column behind a byte. -/
def placeStep (p : Nat × Nat) (b : UInt8) : Nat × Nat :=
  if b.toNat = 10 then (p.1 + 1, 1) else if b.toNat < 128 ∨ 191 < b.toNat then (p.1, p.2 + 1) else p
/-- Line and column behind some bytes. -/
def placeL (l : List UInt8) : Nat × Nat := l.foldl placeStep (1, 1)

theorem placeL_snoc (l : List UInt8) (b : UInt8) : placeL (l ++ [b]) = placeStep (placeL l) b := by simp [placeL]

theorem placeL_le (l : List UInt8) : 1 ≤ (placeL l).1 ∧ 1 ≤ (placeL l).2 ∧ (placeL l).1 ≤ l.length + 1 ∧ (placeL l).2 ≤ l.length + 1 := by
  suffices h : ∀ (l : List UInt8) (p : Nat × Nat), 1 ≤ p.1 → 1 ≤ p.2 → 1 ≤ (l.foldl placeStep p).1 ∧ 1 ≤ (l.foldl placeStep p).2 ∧ (l.foldl placeStep p).1 ≤ l.length + p.1 ∧ (l.foldl placeStep p).2 ≤ l.length + p.2 from h l (1, 1) (by simp) (by simp)
  intro l
  induction l with
  | nil => intro p h1 h2; exact ⟨h1, h2, by simp, by simp⟩
  | cons b t ih =>
    intro p h1 h2
    have hs : 1 ≤ (placeStep p b).1 ∧ 1 ≤ (placeStep p b).2 ∧ (placeStep p b).1 ≤ p.1 + 1 ∧ (placeStep p b).2 ≤ p.2 + 1 := by
      unfold placeStep; repeat' split
      all_goals omega
    have := ih (placeStep p b) hs.1 hs.2.1
    simp only [List.foldl_cons, List.length_cons]
    omega

theorem flt_one : flt 1 = 4607182418800017408 := by decide

theorem add_one (n : Nat) (h : n < 9007199254740991) : floatBits .add .f64 (flt n) 4607182418800017408 = some (flt (n + 1)) := by
  rw [← flt_one]; exact add_flt n 1 (by rw [show (2 : Nat) ^ 53 = 9007199254740992 from rfl]; omega)
theorem add_nought (n : Nat) (h : n < 9007199254740991) : floatBits .add .f64 (flt n) 0 = some (flt n) := by
  have := add_flt n 0 (by rw [show (2 : Nat) ^ 53 = 9007199254740992 from rfl]; omega)
  rw [flt_zero] at this; exact this
theorem sum_col (l c : Nat) (hl : l < 9007199254740991) (hc : c < 9007199254740991) : cSumBits .add .f64 (flt l) (flt c) 0 4607182418800017408 = some (flt l, flt (c + 1)) := by
  unfold cSumBits; rw [add_nought l hl, add_one c hc]; rfl
theorem int_of (n : Nat) (h : n < 9007199254740991) : floatToIntVal .f64 (flt n) .i64 = some (n : Int) := by
  unfold floatToIntVal
  rw [show (FloatKind.f64.decode (flt n)).toInt .zero = some (n : Int) from toInt_flt n (by rw [show (2 : Nat) ^ 53 = 9007199254740992 from rfl]; omega)]
  simp only
  rw [if_pos]
  constructor
  · show (-9223372036854775808 : Int) ≤ n; omega
  · show (n : Int) ≤ 9223372036854775807; omega
end Go.Proofs.YtapdipjcgjmdgaaDoor.Srcw
