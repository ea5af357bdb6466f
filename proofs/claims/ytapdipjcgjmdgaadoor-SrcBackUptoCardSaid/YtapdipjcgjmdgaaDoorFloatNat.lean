/- Whole numbers below 2^53 as float64: their sum and the way back are exact. -/
import Derived.Laws.FloatArith
namespace Go.Proofs.YtapdipjcgjmdgaaDoor.Flt

/-- The bits of a whole number as a float64. -/
def flt (n : Nat) : Nat := Ieee.double.nearest false n 0

theorem cut_exact (way : Ieee.Toward) (x d : Nat) (hx : 1 ≤ x) : way.cut false (x * 2 ^ d) d = x := by
  have hl : d ≤ (x * 2 ^ d).log2 := by
    rw [Nat.le_log2 (by have := Nat.two_pow_pos d; exact Nat.ne_of_gt (Nat.mul_pos hx this))]
    exact Nat.le_mul_of_pos_left _ hx
  unfold Ieee.Toward.cut
  have hm : min d ((x * 2 ^ d).log2 + 2) = d := by omega
  rw [hm, Nat.one_shiftLeft]
  have hp := Nat.two_pow_pos d
  have h1 : x * 2 ^ d / 2 ^ d = x := Nat.mul_div_cancel _ hp
  have h2 : x * 2 ^ d % 2 ^ d = 0 := Nat.mul_mod_left _ _
  cases way <;> simp [h1, h2]

theorem log2_shift (x k : Nat) (hx : 1 ≤ x) : (x * 2 ^ k).log2 = x.log2 + k := by
  have hp := Nat.two_pow_pos k
  have h0 : x * 2 ^ k ≠ 0 := Nat.ne_of_gt (Nat.mul_pos hx hp)
  have hlo : 2 ^ x.log2 ≤ x := Nat.log2_self_le (by omega)
  have hhi : x < 2 ^ (x.log2 + 1) := Nat.lt_log2_self
  have a : x.log2 + k ≤ (x * 2 ^ k).log2 := by
    rw [Nat.le_log2 h0, Nat.pow_add]; exact Nat.mul_le_mul_right _ hlo
  have b : (x * 2 ^ k).log2 < x.log2 + k + 1 := by
    rw [Nat.log2_lt h0, show x.log2 + k + 1 = (x.log2 + 1) + k from by omega, Nat.pow_add]
    exact Nat.mul_lt_mul_of_pos_right hhi hp
  omega

theorem log2_le52 (x : Nat) (hx : 1 ≤ x) (h : x < 2 ^ 53) : x.log2 ≤ 52 := by
  have : x.log2 < 53 := (Nat.log2_lt (by omega)).2 h
  omega

/-- The rung of x times 2^k at place -k. -/
theorem nearest_shift (x k : Nat) (hx : 1 ≤ x) (h : x < 2 ^ 53) :
    Ieee.double.nearest false (x * 2 ^ k) (-(k : Int)) = (x.log2 + 1022) * 2 ^ 52 + x * 2 ^ (52 - x.log2) := by
  have hp := Nat.two_pow_pos k
  have h0 : x * 2 ^ k ≠ 0 := Nat.ne_of_gt (Nat.mul_pos hx hp)
  have hL := log2_le52 x hx h
  have hup : x * 2 ^ (52 - x.log2) < 2 ^ 53 := by
    have hhi : x < 2 ^ (x.log2 + 1) := Nat.lt_log2_self
    have := Nat.mul_lt_mul_of_pos_right hhi (Nat.two_pow_pos (52 - x.log2))
    rw [← Nat.pow_add, show x.log2 + 1 + (52 - x.log2) = 53 from by omega] at this
    exact this
  unfold Ieee.Format.nearest
  rw [if_neg h0]
  simp only [log2_shift x k hx, Ieee.double, Ieee.Format.leastPlace, Ieee.Format.word, Ieee.Format.binade, Ieee.Format.infRung]
  have hlast : max (-(k : Int) + ((x.log2 + k : Nat) : Int) - ((52 : Nat) : Int)) (2 - 2 ^ (11 - 1) - ((52 : Nat) : Int)) = (x.log2 : Int) - 52 := by
    rw [show (2 : Int) ^ (11 - 1) = 1024 from rfl]; omega
  rw [hlast]
  have hk : Ieee.Toward.even.cut false ((x * 2 ^ k) <<< (-(k : Int) - ((x.log2 : Int) - 52)).toNat) (((x.log2 : Int) - 52) - -(k : Int)).toNat = x * 2 ^ (52 - x.log2) := by
    by_cases hc : k ≤ 52 - x.log2
    · rw [show (((x.log2 : Int) - 52) - -(k : Int)).toNat = 0 from by omega, show (-(k : Int) - ((x.log2 : Int) - 52)).toNat = 52 - x.log2 - k from by omega, Nat.shiftLeft_eq, Nat.mul_assoc, ← Nat.pow_add, show k + (52 - x.log2 - k) = 52 - x.log2 from by omega]
      have := cut_exact .even (x * 2 ^ (52 - x.log2)) 0 (Nat.mul_pos hx (Nat.two_pow_pos _))
      simpa using this
    · rw [show (((x.log2 : Int) - 52) - -(k : Int)).toNat = k - (52 - x.log2) from by omega, show (-(k : Int) - ((x.log2 : Int) - 52)).toNat = 0 from by omega, Nat.shiftLeft_zero]
      have e : x * 2 ^ k = (x * 2 ^ (52 - x.log2)) * 2 ^ (k - (52 - x.log2)) := by
        rw [Nat.mul_assoc, ← Nat.pow_add, show 52 - x.log2 + (k - (52 - x.log2)) = k from by omega]
      rw [e]
      exact cut_exact .even _ _ (Nat.mul_pos hx (Nat.two_pow_pos _))
  rw [hk]
  have hz : ((x.log2 : Int) - 52 - (2 - 2 ^ (11 - 1) - ((52 : Nat) : Int))).toNat = x.log2 + 1022 := by
    rw [show (2 : Int) ^ (11 - 1) = 1024 from rfl]; omega
  rw [hz]
  simp only [Bool.false_eq_true, if_false]
  apply Nat.min_eq_left
  rw [show (2 ^ 53 : Nat) = 2 * 2 ^ 52 from rfl] at hup
  generalize x * 2 ^ (52 - x.log2) = y at *
  generalize x.log2 = L at *
  have : (2 ^ 11 - 1) * 2 ^ 52 = 2047 * 2 ^ 52 := rfl
  rw [this]
  have hLL : L + 1022 ≤ 1074 := by omega
  generalize (2 : Nat) ^ 52 = B at *
  have := Nat.mul_le_mul_right B hLL
  omega

theorem flt_pos (x : Nat) (hx : 1 ≤ x) (h : x < 2 ^ 53) : flt x = (x.log2 + 1022) * 2 ^ 52 + x * 2 ^ (52 - x.log2) := by
  have := nearest_shift x 0 hx h
  simpa [flt] using this

theorem flt_zero : flt 0 = 0 := by decide

theorem read_pos (x : Nat) (hx : 1 ≤ x) (h : x < 2 ^ 53) : Ieee.double.read (flt x) = .number false (x * 2 ^ (52 - x.log2)) ((x.log2 : Int) - 52) := by
  have hL := log2_le52 x hx h
  have hlo : 2 ^ x.log2 ≤ x := Nat.log2_self_le (by omega)
  have hhi : x < 2 ^ (x.log2 + 1) := Nat.lt_log2_self
  have hup : x * 2 ^ (52 - x.log2) < 2 ^ 53 := by
    have := Nat.mul_lt_mul_of_pos_right hhi (Nat.two_pow_pos (52 - x.log2))
    rw [← Nat.pow_add, show x.log2 + 1 + (52 - x.log2) = 53 from by omega] at this
    exact this
  have hdn : 2 ^ 52 ≤ x * 2 ^ (52 - x.log2) := by
    have := Nat.mul_le_mul_right (2 ^ (52 - x.log2)) hlo
    rw [← Nat.pow_add, show x.log2 + (52 - x.log2) = 52 from by omega] at this
    exact this
  rw [flt_pos x hx h]
  generalize x * 2 ^ (52 - x.log2) = y at *
  generalize x.log2 = L at *
  unfold Ieee.Format.read
  simp only [show Ieee.double.leastPlace = 2 - 2 ^ (11 - 1) - ((52 : Nat) : Int) from rfl, show Ieee.double.binade = 2 ^ 52 from rfl, show Ieee.double.infRung = (2 ^ 11 - 1) * 2 ^ 52 from rfl, show Ieee.double.signWeight = 2 ^ (11 + 52) from rfl]
  obtain ⟨z, rfl⟩ : ∃ z, y = 2 ^ 52 + z := ⟨y - 2 ^ 52, by omega⟩
  have hz : z < 2 ^ 52 := by omega
  have e : (L + 1022) * 2 ^ 52 + (2 ^ 52 + z) = (L + 1023) * 2 ^ 52 + z := by
    rw [show L + 1023 = L + 1022 + 1 from rfl, Nat.add_mul (L + 1022) 1, Nat.one_mul, Nat.add_assoc]
  rw [e]
  have hsw : (2 : Nat) ^ (11 + 52) = 2048 * 2 ^ 52 := rfl
  have hlt : (L + 1023) * 2 ^ 52 + z < 2 ^ (11 + 52) := by
    rw [hsw]
    have := Nat.mul_le_mul_right (2 ^ 52) (show L + 1023 ≤ 1075 by omega)
    generalize (2 : Nat) ^ 52 = B at *
    omega
  have hinf : (L + 1023) * 2 ^ 52 + z < (2 ^ 11 - 1) * 2 ^ 52 := by
    rw [show (2 ^ 11 - 1) * 2 ^ 52 = 2047 * 2 ^ 52 from rfl]
    have := Nat.mul_le_mul_right (2 ^ 52) (show L + 1023 ≤ 1075 by omega)
    generalize (2 : Nat) ^ 52 = B at *
    omega
  have hge : ¬ (L + 1023) * 2 ^ 52 + z < 2 ^ 52 := by
    have := Nat.mul_le_mul_right (2 ^ 52) (show 1 ≤ L + 1023 by omega)
    generalize (2 : Nat) ^ 52 = B at *
    omega
  have hdiv : ((L + 1023) * 2 ^ 52 + z) / 2 ^ 52 = L + 1023 := by
    rw [Nat.mul_comm, Nat.mul_add_div (Nat.two_pow_pos 52), Nat.div_eq_of_lt hz]
  have hmod : ((L + 1023) * 2 ^ 52 + z) % 2 ^ 52 = z := by
    rw [Nat.mul_comm, Nat.mul_add_mod, Nat.mod_eq_of_lt hz]
  rw [Nat.div_eq_of_lt hlt, Nat.mod_eq_of_lt hlt, if_neg hge, if_pos hinf, hdiv, hmod]
  have hp : (2 : Int) - 2 ^ (11 - 1) - ((52 : Nat) : Int) + ((L + 1023 - 1 : Nat) : Int) = (L : Int) - 52 := by
    rw [show (2 : Int) ^ (11 - 1) = 1024 from rfl]; omega
  rw [hp]
  rfl

set_option exponentiation.threshold 2000 in
theorem read_zero : Ieee.double.read (flt 0) = .number false 0 (-1074) := by decide

set_option exponentiation.threshold 2000 in
/-- What a whole number's bits read as, at some place at or below 0. -/
theorem read_flt (x : Nat) (h : x < 2 ^ 53) : ∃ k : Nat, ∃ m : Nat, Ieee.double.read (flt x) = .number false m (-(k : Int)) ∧ m = x * 2 ^ k := by
  by_cases hx : 1 ≤ x
  · have hL := log2_le52 x hx h
    refine ⟨52 - x.log2, _, ?_, rfl⟩
    rw [read_pos x hx h]
    congr 1
    omega
  · obtain rfl : x = 0 := by omega
    exact ⟨1074, 0, read_zero, (Nat.zero_mul _).symm⟩

theorem add_flt (x y : Nat) (h : x + y < 2 ^ 53) : Ieee.double.add (flt x) (flt y) = some (flt (x + y)) := by
  obtain ⟨k, m, hk, hm⟩ := read_flt x (by omega)
  obtain ⟨l, n, hl, hn⟩ := read_flt y (by omega)
  unfold Ieee.Format.add
  rw [hk, hl]
  simp only [Ieee.Datum.sum, Option.map_some, Ieee.Format.write, Option.some.injEq]
  have hb : min (-(k : Int)) (-(l : Int)) = -((max k l : Nat) : Int) := by omega
  rw [hb]
  have e1 : Ieee.signed false m (-(k : Int) - -((max k l : Nat) : Int)).toNat = ((x * 2 ^ max k l : Nat) : Int) := by
    rw [show (-(k : Int) - -((max k l : Nat) : Int)).toNat = max k l - k from by omega]
    simp only [Ieee.signed, Bool.false_eq_true, if_false, Nat.shiftLeft_eq]
    rw [hm, Nat.mul_assoc, ← Nat.pow_add, show k + (max k l - k) = max k l from by omega]
  have e2 : Ieee.signed false n (-(l : Int) - -((max k l : Nat) : Int)).toNat = ((y * 2 ^ max k l : Nat) : Int) := by
    rw [show (-(l : Int) - -((max k l : Nat) : Int)).toNat = max k l - l from by omega]
    simp only [Ieee.signed, Bool.false_eq_true, if_false, Nat.shiftLeft_eq]
    rw [hn, Nat.mul_assoc, ← Nat.pow_add, show l + (max k l - l) = max k l from by omega]
  rw [e1, e2]
  have e3 : ((x * 2 ^ max k l : Nat) : Int) + ((y * 2 ^ max k l : Nat) : Int) = (((x + y) * 2 ^ max k l : Nat) : Int) := by
    rw [Nat.add_mul]; omega
  rw [e3]
  have e4 : (if (((x + y) * 2 ^ max k l : Nat) : Int) = 0 then (false && false) else decide ((((x + y) * 2 ^ max k l : Nat) : Int) < 0)) = false := by
    split
    · rfl
    · have := Int.natCast_nonneg ((x + y) * 2 ^ max k l)
      simp only [decide_eq_false_iff_not]; omega
  rw [e4, Int.natAbs_natCast]
  by_cases hz : x + y = 0
  · obtain rfl : x = 0 := by omega
    obtain rfl : y = 0 := by omega
    simp [flt, Ieee.Format.nearest]
  · rw [nearest_shift (x + y) _ (by omega) h, flt_pos (x + y) (by omega) h]

theorem toInt_flt (x : Nat) (h : x < 2 ^ 53) : (Ieee.double.read (flt x)).toInt .zero = some (x : Int) := by
  obtain ⟨k, m, hk, hm⟩ := read_flt x h
  rw [hk, hm]
  simp only [Ieee.Datum.toInt, Ieee.Datum.integral]
  rw [show (-(k : Int)).toNat = 0 from by omega, show (-(-(k : Int))).toNat = k from by omega, Nat.shiftLeft_zero]
  by_cases hx : 1 ≤ x
  · rw [cut_exact .zero x k hx]; simp [Ieee.signed]
  · obtain rfl : x = 0 := by omega
    simp [Ieee.signed, Ieee.Toward.cut]

end Go.Proofs.YtapdipjcgjmdgaaDoor.Flt
