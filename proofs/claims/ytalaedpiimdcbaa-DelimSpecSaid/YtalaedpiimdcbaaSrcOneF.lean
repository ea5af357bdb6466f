/- The first character of some bytes, in plain words: by its lead byte. -/
import Derived.Lib.ValidLaws
namespace Go.Proofs.Ytalaedpiimdcbaa.Srcw
open Go.Lib

theorem dec1 (n b0 b1 b2 b3 : Nat) (h : b0 < 128) : decodeN n b0 b1 b2 b3 = (b0, 1) := by unfold decodeN; rw [if_pos h]
theorem dec2 (n b0 b1 b2 b3 : Nat) (h0 : 192 ≤ b0) (h1 : b0 < 224) :
    decodeN n b0 b1 b2 b3 = if 1 < n ∧ 128 ≤ b1 ∧ b1 < 192 ∧ 194 ≤ b0 then ((b0 - 192) * 64 + (b1 - 128), 2) else (65533, 1) := by
  unfold decodeN
  rw [if_neg (by omega)]
  by_cases c : 1 < n ∧ 128 ≤ b1 ∧ b1 < 192
  · rw [if_pos (by omega)]
    by_cases d : 194 ≤ b0
    · rw [if_pos (by omega), if_pos (by omega)]; exact Prod.ext (by simp only; omega) rfl
    · rw [if_neg (by omega), if_neg (by omega)]
  · rw [if_neg (by omega), if_neg (by omega), if_neg (by omega), if_neg (by omega)]
theorem dec3 (n b0 b1 b2 b3 : Nat) (h0 : 224 ≤ b0) (h1 : b0 < 240) :
    decodeN n b0 b1 b2 b3 = if 2 < n ∧ 128 ≤ b1 ∧ b1 < 192 ∧ 128 ≤ b2 ∧ b2 < 192 ∧ (b0 = 224 → 160 ≤ b1) ∧ (b0 = 237 → b1 < 160) then ((b0 - 224) * 4096 + (b1 - 128) * 64 + (b2 - 128), 3) else (65533, 1) := by
  unfold decodeN
  rw [if_neg (by omega), if_neg (by omega)]
  by_cases c : 2 < n ∧ 128 ≤ b1 ∧ b1 < 192 ∧ 128 ≤ b2 ∧ b2 < 192
  · rw [if_pos (by omega)]
    by_cases d : (b0 = 224 → 160 ≤ b1) ∧ (b0 = 237 → b1 < 160)
    · rw [if_pos (by omega), if_pos (by omega)]; exact Prod.ext (by simp only; omega) rfl
    · rw [if_neg (by omega), if_neg (by omega)]
  · rw [if_neg (by omega), if_neg (by omega), if_neg (by omega)]
theorem dec4 (n b0 b1 b2 b3 : Nat) (h0 : 240 ≤ b0) (h1 : b0 < 248) :
    decodeN n b0 b1 b2 b3 = if 3 < n ∧ 128 ≤ b1 ∧ b1 < 192 ∧ 128 ≤ b2 ∧ b2 < 192 ∧ 128 ≤ b3 ∧ b3 < 192 ∧ b0 ≤ 244 ∧ (b0 = 240 → 144 ≤ b1) ∧ (b0 = 244 → b1 < 144) then ((b0 - 240) * 262144 + (b1 - 128) * 4096 + (b2 - 128) * 64 + (b3 - 128), 4) else (65533, 1) := by
  unfold decodeN
  rw [if_neg (by omega), if_neg (by omega), if_neg (by omega)]
  by_cases c : 3 < n ∧ 128 ≤ b1 ∧ b1 < 192 ∧ 128 ≤ b2 ∧ b2 < 192 ∧ 128 ≤ b3 ∧ b3 < 192
  · rw [if_pos (by omega)]
    by_cases d : b0 ≤ 244 ∧ (b0 = 240 → 144 ≤ b1) ∧ (b0 = 244 → b1 < 144)
    · rw [if_pos (by omega), if_pos (by omega)]; exact Prod.ext (by simp only; omega) rfl
    · rw [if_neg (by omega), if_neg (by omega)]
  · rw [if_neg (by omega), if_neg (by omega)]
theorem decBad (n b0 b1 b2 b3 : Nat) (h : (128 ≤ b0 ∧ b0 < 194) ∨ (245 ≤ b0 ∧ b0 < 256)) : decodeN n b0 b1 b2 b3 = (65533, 1) := decodeN_bad n b0 b1 b2 b3 h

/-- The first character of some bytes: its number and how many bytes it has; none: 0 and 0. -/
def oneN (n b0 b1 b2 b3 : Nat) : Nat × Nat :=
  if b0 < 128 then (b0, 1)
  else if 194 ≤ b0 ∧ b0 < 224 ∧ 1 < n ∧ 128 ≤ b1 ∧ b1 < 192 then ((b0 - 192) * 64 + (b1 - 128), 2)
  else if 224 ≤ b0 ∧ b0 < 240 ∧ 2 < n ∧ 128 ≤ b1 ∧ b1 < 192 ∧ 128 ≤ b2 ∧ b2 < 192 ∧ (b0 = 224 → 160 ≤ b1) ∧ (b0 = 237 → b1 < 160) then ((b0 - 224) * 4096 + (b1 - 128) * 64 + (b2 - 128), 3)
  else if 240 ≤ b0 ∧ b0 ≤ 244 ∧ 3 < n ∧ 128 ≤ b1 ∧ b1 < 192 ∧ 128 ≤ b2 ∧ b2 < 192 ∧ 128 ≤ b3 ∧ b3 < 192 ∧ (b0 = 240 → 144 ≤ b1) ∧ (b0 = 244 → b1 < 144) then ((b0 - 240) * 262144 + (b1 - 128) * 4096 + (b2 - 128) * 64 + (b3 - 128), 4)
  else (0, 0)

/-- As the model's own decoder has it. -/
theorem oneN_decode (n b0 b1 b2 b3 : Nat) (hb : b0 < 256) : oneN n b0 b1 b2 b3 = if decodeN n b0 b1 b2 b3 = (65533, 1) then (0, 0) else decodeN n b0 b1 b2 b3 := by
  unfold oneN
  by_cases c1 : b0 < 128
  · rw [if_pos c1, dec1 _ _ _ _ _ c1, if_neg (by rw [Prod.mk.injEq]; omega)]
  rw [if_neg c1]
  by_cases c2 : b0 < 194 ∨ 245 ≤ b0
  · rw [decBad _ _ _ _ _ (by omega), if_pos rfl, if_neg (by omega), if_neg (by omega), if_neg (by omega)]
  have ne : ∀ a k : Nat, 2 ≤ k → ¬ ((a, k) = ((65533, 1) : Nat × Nat)) := by intro a k hk h; rw [Prod.mk.injEq] at h; omega
  by_cases c3 : b0 < 224
  · have e := dec2 n b0 b1 b2 b3 (by omega) c3
    by_cases d : 1 < n ∧ 128 ≤ b1 ∧ b1 < 192
    · rw [if_pos (show 1 < n ∧ 128 ≤ b1 ∧ b1 < 192 ∧ 194 ≤ b0 by omega)] at e
      rw [e, if_neg (ne _ 2 (by omega))]
      exact if_pos (by omega)
    · rw [if_neg (show ¬ (1 < n ∧ 128 ≤ b1 ∧ b1 < 192 ∧ 194 ≤ b0) by omega)] at e
      rw [e, if_pos rfl, if_neg (by omega), if_neg (by omega), if_neg (by omega)]
  by_cases c4 : b0 < 240
  · have e := dec3 n b0 b1 b2 b3 (by omega) c4
    rw [if_neg (show ¬ (194 ≤ b0 ∧ b0 < 224 ∧ 1 < n ∧ 128 ≤ b1 ∧ b1 < 192) by omega)]
    by_cases d : 2 < n ∧ 128 ≤ b1 ∧ b1 < 192 ∧ 128 ≤ b2 ∧ b2 < 192 ∧ (b0 = 224 → 160 ≤ b1) ∧ (b0 = 237 → b1 < 160)
    · rw [if_pos d] at e
      rw [e, if_neg (ne _ 3 (by omega))]
      exact if_pos (by omega)
    · rw [if_neg d] at e
      rw [e, if_pos rfl, if_neg (by omega), if_neg (by omega)]
  · have e := dec4 n b0 b1 b2 b3 (by omega) (by omega)
    rw [if_neg (show ¬ (194 ≤ b0 ∧ b0 < 224 ∧ 1 < n ∧ 128 ≤ b1 ∧ b1 < 192) by omega)]
    rw [if_neg (show ¬ (224 ≤ b0 ∧ b0 < 240 ∧ 2 < n ∧ 128 ≤ b1 ∧ b1 < 192 ∧ 128 ≤ b2 ∧ b2 < 192 ∧ (b0 = 224 → 160 ≤ b1) ∧ (b0 = 237 → b1 < 160)) by omega)]
    by_cases d : 3 < n ∧ 128 ≤ b1 ∧ b1 < 192 ∧ 128 ≤ b2 ∧ b2 < 192 ∧ 128 ≤ b3 ∧ b3 < 192 ∧ b0 ≤ 244 ∧ (b0 = 240 → 144 ≤ b1) ∧ (b0 = 244 → b1 < 144)
    · rw [if_pos d] at e
      rw [e, if_neg (ne _ 4 (by omega))]
      exact if_pos (by omega)
    · rw [if_neg d] at e
      rw [e, if_pos rfl, if_neg (by omega)]

/-- The first character of some bytes, as a list. -/
def oneL (l : List UInt8) : Nat × Nat := if l = [] then (0, 0) else oneN l.length (l.getD 0 0).toNat (l.getD 1 0).toNat (l.getD 2 0).toNat (l.getD 3 0).toNat
theorem oneL_decode (l : List UInt8) (h : l ≠ []) : oneL l = if decodeL l = (65533, 1) then (0, 0) else decodeL l := by
  unfold oneL; rw [if_neg h, oneN_decode _ _ _ _ _ (UInt8.toNat_lt _), decodeL_N]
theorem oneN_len (n b0 b1 b2 b3 : Nat) (hn : 1 ≤ n) : (oneN n b0 b1 b2 b3).2 ≤ n ∧ (oneN n b0 b1 b2 b3).2 ≤ 4 ∧ (oneN n b0 b1 b2 b3).1 ≤ 4000000 := by
  unfold oneN; repeat' split
  all_goals (refine ⟨?_, ?_, ?_⟩ <;> simp only <;> omega)
theorem oneL_len (l : List UInt8) : (oneL l).2 ≤ l.length ∧ (oneL l).2 ≤ 4 := by
  unfold oneL
  by_cases h : l = []
  · rw [if_pos h]; simp
  · rw [if_neg h]
    have := oneN_len l.length (l.getD 0 0).toNat (l.getD 1 0).toNat (l.getD 2 0).toNat (l.getD 3 0).toNat (List.length_pos_iff.2 h)
    exact ⟨this.1, this.2.1⟩
end Go.Proofs.Ytalaedpiimdcbaa.Srcw
