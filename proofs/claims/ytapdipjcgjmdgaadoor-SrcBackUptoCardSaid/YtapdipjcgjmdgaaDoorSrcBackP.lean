/- Characters put one behind the other are the text's characters; plain words. -/
import Derived.Test.YtapdipjcgjmdgaaDoorSrcDecF
import Derived.Test.YtapdipjcgjmdgaaDoorSrcRefPutW
namespace Go.Proofs.YtapdipjcgjmdgaaDoor.Srcw
open Go.RowKit Go.Lib
set_option linter.unusedVariables false
set_option linter.unusedSimpArgs false

def encL (r : Int) : List UInt8 := (Utf8.encode r).data.toList
def encs (l : List Int) : List UInt8 := l.flatMap encL

theorem oneL_of (a : UInt8) (t : List UInt8) : oneL (a :: t) = oneN (t.length + 1) a.toNat (t.getD 0 0).toNat (t.getD 1 0).toNat (t.getD 2 0).toNat := by
  simp only [oneL, List.cons_ne_nil, if_false, List.length_cons, List.getD_cons_zero, List.getD_cons_succ]

theorem u8_nat (n : Nat) (x : Int) (h : x = (n : Int)) (h2 : n < 256) : (UInt8.ofNat x.toNat).toNat = n := by
  rw [h]; simp; omega

set_option maxRecDepth 100000 in
/-- What begins with a character's bytes begins with the character. -/
theorem enc_head (r : Int) (t : List UInt8) (h : mayN r = true) : encL r ≠ [] ∧ oneL (encL r ++ t) = (r.toNat, (encL r).length) ∧ (encL r).length ≤ 4 := by
  have hm : 0 ≤ r ∧ r ≤ 1114111 ∧ (r < 55296 ∨ 57343 < r) := by simpa [mayN] using h
  obtain ⟨n, rfl⟩ := Int.eq_ofNat_of_zero_le hm.1
  obtain ⟨e1, e2, e3, e4⟩ := enc_nat n
  unfold encL
  by_cases c1 : n < 128
  · rw [e1 c1, strOfNums_data]
    refine ⟨by simp, ?_, by simp⟩
    simp only [List.map_cons, List.map_nil, List.cons_append, List.nil_append]
    rw [oneL_of, u8_nat n _ rfl (by omega)]
    unfold oneN
    rw [if_pos (by omega)]
    simp
  by_cases c2 : n < 2048
  · rw [e2 (by omega) c2, strOfNums_data]
    refine ⟨by simp, ?_, by simp⟩
    simp only [List.map_cons, List.map_nil, List.cons_append, List.nil_append]
    rw [oneL_of, u8_nat (192 + n / 64) _ (by omega) (by omega)]
    simp only [List.getD_cons_zero, List.getD_cons_succ, List.length_cons]
    rw [u8_nat (128 + n % 64) _ (by omega) (by omega)]
    unfold oneN
    rw [if_neg (by omega), if_pos (by omega)]
    refine Prod.ext ?_ ?_ <;> simp <;> omega
  by_cases c3 : n < 65536
  · rw [e3 (by omega) c3 (by omega), strOfNums_data]
    refine ⟨by simp, ?_, by simp⟩
    simp only [List.map_cons, List.map_nil, List.cons_append, List.nil_append]
    rw [oneL_of, u8_nat (224 + n / 4096) _ (by omega) (by omega)]
    simp only [List.getD_cons_zero, List.getD_cons_succ, List.length_cons]
    rw [u8_nat (128 + n / 64 % 64) _ (by omega) (by omega), u8_nat (128 + n % 64) _ (by omega) (by omega)]
    unfold oneN
    rw [if_neg (by omega), if_neg (by omega), if_pos (by omega)]
    refine Prod.ext ?_ ?_ <;> simp <;> omega
  · rw [e4 (by omega) (by omega), strOfNums_data]
    refine ⟨by simp, ?_, by simp⟩
    simp only [List.map_cons, List.map_nil, List.cons_append, List.nil_append]
    rw [oneL_of, u8_nat (240 + n / 262144) _ (by omega) (by omega)]
    simp only [List.getD_cons_zero, List.getD_cons_succ, List.length_cons]
    rw [u8_nat (128 + n / 4096 % 64) _ (by omega) (by omega), u8_nat (128 + n / 64 % 64) _ (by omega) (by omega), u8_nat (128 + n % 64) _ (by omega) (by omega)]
    unfold oneN
    rw [if_neg (by omega), if_neg (by omega), if_neg (by omega), if_pos (by omega)]
    refine Prod.ext ?_ ?_ <;> simp <;> omega

theorem encs_back (l : List Int) (h : ∀ r ∈ l, mayN r = true) : validD (encs l) = true ∧ runesR (encs l) = l := by
  induction l with
  | nil => exact ⟨rfl, rfl⟩
  | cons r t ih =>
    obtain ⟨h1, h2⟩ := ih (fun x hx => h x (List.mem_cons_of_mem _ hx))
    obtain ⟨hne, ho, _⟩ := enc_head r (encs t) (h r (List.mem_cons_self ..))
    have hr : 0 ≤ r := by
      have := h r (List.mem_cons_self ..)
      have hm : 0 ≤ r ∧ r ≤ 1114111 ∧ (r < 55296 ∨ 57343 < r) := by simpa [mayN] using this
      exact hm.1
    have hl : 0 < (encL r).length := List.length_pos_iff.2 hne
    have e : encs (r :: t) = encL r ++ encs t := rfl
    have hne2 : encL r ++ encs t ≠ [] := by simp [hne]
    have hdec := (decodeL_one _ hne2).2 (by rw [ho]; simp only; omega)
    rw [e]
    constructor
    · rw [validD_one _ hne2, ho, if_neg (by simp only; omega)]
      simpa using h1
    · rw [runesR_step _ hne2, ← hdec, ho]
      simp only [List.drop_left, h2]
      congr 1
      omega
theorem encs_snoc (l : List Int) (r : Int) : encs (l ++ [r]) = encs l ++ encL r := by simp [encs]
theorem charsL_encs (l : List Int) (h : ∀ r ∈ l, mayN r = true) : charsL (encs l) = l := by
  obtain ⟨h1, h2⟩ := encs_back l h
  unfold charsL
  rw [h1, if_pos rfl, h2]
end Go.Proofs.YtapdipjcgjmdgaaDoor.Srcw
