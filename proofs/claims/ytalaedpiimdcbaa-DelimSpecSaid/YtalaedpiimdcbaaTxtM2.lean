/- The reference's May, Long, One, as printed, in plain words. hexaplaref01.begins, as printed, in plain words. hexaplaref01.Bad, as printed, is the first place at which a scan stops. The decoder and the reference answer alike: plain law. The reference's Begin (hexaplaref07), walked. The reference's Spec (hexaplaref09), walked. -/
import Derived.Test.YtalaedpiimdcbaaPDelimSpecx4
import Derived.Test.YtalaedpiimdcbaaSrcOneF
import Derived.Test.YtalaedpiimdcbaaOwn
import Derived.Test.YtalaedpiimdcbaaScanP
import Derived.Test.YtalaedpiimdcbaaTxtM1
import Derived.Test.YtalaedpiimdcbaaCoreP
namespace Go.Proofs.Ytalaedpiimdcbaa.PDelimSpec
open Go.RowKit Go.Proofs.YtalaedpiimdcbaaW.PrintWords Go.Proofs.YtalaedpiimdcbaaW.PrintLast Go.Proofs.Ytalaedpiimdcbaa.Own Go.Proofs.Ytalaedpiimdcbaa.Srcw
set_option linter.unusedVariables false
set_option linter.unusedSimpArgs false
theorem may_is (v : Int) : hexaplaref01_May.f v = some (decide (0 ≤ v ∧ v ≤ 1114111 ∧ (v < 55296 ∨ 57343 < v))) := by
  unfold hexaplaref01_May.f
  by_cases h0 : v ≥ 0
  · rw [if_pos h0]
    by_cases h1 : v ≤ 1114111
    · rw [if_pos h1]
      by_cases h2 : v < 55296
      · rw [if_pos h2]; simp; omega
      · rw [if_neg h2]; congr 1; apply decide_eq_decide.2; omega
    · rw [if_neg h1]; simp; omega
  · rw [if_neg h0]; simp; omega
def longN (v : Int) : Int := if v < 128 then 1 else if v < 2048 then 2 else if v < 65536 then 3 else 4
theorem long_is (v : Int) : hexaplaref01_Long.f v = some (longN v) := by
  unfold hexaplaref01_Long.f longN
  repeat' split
  all_goals first | rfl | omega

/-- The loop's end: the number is a character's of so many bytes, or none. -/
theorem one_end (k : Nat) (s : ByteArray) (n v i : Int) (hi : ¬ i < n) :
    hexaplaref01_One.l0 (k + 1) s n v i = some (if (0 ≤ v ∧ v ≤ 1114111 ∧ (v < 55296 ∨ 57343 < v)) ∧ longN v = n then (v, n) else (0, 0)) := by
  simp only [hexaplaref01_One.l0]
  rw [if_neg hi, may_is, long_is]
  simp only [Option.bind_some, decide_eq_true_eq]
  by_cases h1 : 0 ≤ v ∧ v ≤ 1114111 ∧ (v < 55296 ∨ 57343 < v)
  · rw [if_pos h1]
    by_cases h2 : longN v = n
    · rw [if_pos h2, if_pos ⟨h1, h2⟩]
    · rw [if_neg h2, if_neg (fun h => h2 h.2)]
  · rw [if_neg h1, if_neg (fun h => h1 h.1)]

/-- A round of the loop. -/
theorem one_round (k : Nat) (s : ByteArray) (n v i b : Int) (hi : i < n) (h0 : 0 ≤ i) (hn : i < (s.size : Int)) (hb : bt s i = b) (hb0 : 0 ≤ b) (hb1 : b < 256) (hv0 : 0 ≤ v) (hv1 : v < 1000000000) (hi1 : i < 10) :
    hexaplaref01_One.l0 (k + 1) s n v i = if 128 ≤ b ∧ b < 192 then hexaplaref01_One.l0 k s n (64 * v + (b - 128)) (i + 1) else some (0, 0) := by
  conv => lhs; unfold hexaplaref01_One.l0
  rw [if_pos hi, if_pos h0, if_pos hn, hb, w64 (by omega) (by omega)]
  by_cases h1 : b < 128
  · rw [if_pos h1, if_neg (by omega)]
  · rw [if_neg h1]
    by_cases h2 : b ≥ 192
    · rw [if_pos h2, if_neg (by omega)]
    · rw [if_neg h2, if_pos (by omega)]
      rw [w64 (x := 64 * v) (by omega) (by omega), w64 (x := 64 * v + b) (by omega) (by omega), w64 (x := 64 * v + b - 128) (by omega) (by omega), w64 (x := i + 1) (by omega) (by omega)]
      congr 1; omega

theorem one_bad (k : Nat) (s : ByteArray) (b : Int) (hs : 0 < s.size) (hb : bt s 0 = b) (hb0 : 128 ≤ b) (hb1 : b < 256) (h : b < 192 ∨ 248 ≤ b) : hexaplaref01_One.f (k + 8) s = some (0, 0) := by
  have d0 : b < 192 → decide (b < 224) = true := fun h => decide_eq_true (by omega)
  unfold hexaplaref01_One.f
  rw [if_neg (by omega), if_pos (by omega), hb, w64 (by omega) (by omega), if_neg (by omega)]
  by_cases c1 : b ≥ 192
  · have d1 : decide (b < 224) = false := decide_eq_false (by omega)
    have d2 : decide (b < 240) = false := decide_eq_false (by omega)
    have d3 : decide (b < 248) = false := decide_eq_false (by omega)
    have c2 : b ≥ 224 := by omega
    have c3 : b ≥ 240 := by omega
    rw [if_pos c1]
    simp only [hexaplaref01_One.j0, hexaplaref01_One.j1, hexaplaref01_One.j2, hexaplaref01_One.j3, hexaplaref01_One.j4, hexaplaref01_One.j5, hexaplaref01_One.j6, d1, d2, d3, c2, c3, Bool.false_eq_true, if_false, if_true]
  · have c2 : ¬ b ≥ 224 := by omega
    have c3 : ¬ b ≥ 240 := by omega
    rw [if_neg c1]
    simp only [hexaplaref01_One.j0, hexaplaref01_One.j1, hexaplaref01_One.j2, hexaplaref01_One.j3, hexaplaref01_One.j4, hexaplaref01_One.j5, hexaplaref01_One.j6, c2, c3, Bool.false_eq_true, if_false, if_true]

theorem one_head2 (k : Nat) (s : ByteArray) (b : Int) (hs : 0 < s.size) (hb : bt s 0 = b) (hb0 : 192 ≤ b) (hb1 : b < 224) :
    hexaplaref01_One.f (k + 8) s = if (s.size : Int) < 2 then some (0, 0) else hexaplaref01_One.l0 (k + 1) s 2 (b - 192) 1 := by
  unfold hexaplaref01_One.f
  rw [if_neg (by omega), if_pos (by omega), hb, w64 (by omega) (by omega), if_neg (by omega), if_pos (by omega)]
  have d1 : decide (b < 224) = true := decide_eq_true hb1
  have c2 : ¬ b ≥ 224 := by omega
  have c3 : ¬ b ≥ 240 := by omega
  have hw : wrap64 (b - 192) = b - 192 := w64 (by omega) (by omega)
  simp only [hexaplaref01_One.j0, hexaplaref01_One.j1, hexaplaref01_One.j2, hexaplaref01_One.j3, hexaplaref01_One.j4, hexaplaref01_One.j5, d1, c2, c3, hw, Bool.false_eq_true, if_false, if_true]
  rw [if_neg (by omega)]
  simp only [hexaplaref01_One.j6, decide_eq_true_eq]
theorem one_head3 (k : Nat) (s : ByteArray) (b : Int) (hs : 0 < s.size) (hb : bt s 0 = b) (hb0 : 224 ≤ b) (hb1 : b < 240) :
    hexaplaref01_One.f (k + 8) s = if (s.size : Int) < 3 then some (0, 0) else hexaplaref01_One.l0 (k + 1) s 3 (b - 224) 1 := by
  unfold hexaplaref01_One.f
  rw [if_neg (by omega), if_pos (by omega), hb, w64 (by omega) (by omega), if_neg (by omega), if_pos (by omega)]
  have d1 : decide (b < 224) = false := decide_eq_false (by omega)
  have d2 : decide (b < 240) = true := decide_eq_true hb1
  have c2 : b ≥ 224 := by omega
  have c3 : ¬ b ≥ 240 := by omega
  have hw : wrap64 (b - 224) = b - 224 := w64 (by omega) (by omega)
  simp only [hexaplaref01_One.j0, hexaplaref01_One.j1, hexaplaref01_One.j2, hexaplaref01_One.j3, hexaplaref01_One.j4, hexaplaref01_One.j5, d1, d2, c2, c3, hw, Bool.false_eq_true, if_false, if_true]
  rw [if_neg (by omega)]
  simp only [hexaplaref01_One.j6, decide_eq_true_eq]
theorem one_head4 (k : Nat) (s : ByteArray) (b : Int) (hs : 0 < s.size) (hb : bt s 0 = b) (hb0 : 240 ≤ b) (hb1 : b < 248) :
    hexaplaref01_One.f (k + 8) s = if (s.size : Int) < 4 then some (0, 0) else hexaplaref01_One.l0 (k + 1) s 4 (b - 240) 1 := by
  unfold hexaplaref01_One.f
  rw [if_neg (by omega), if_pos (by omega), hb, w64 (by omega) (by omega), if_neg (by omega), if_pos (by omega)]
  have d1 : decide (b < 224) = false := decide_eq_false (by omega)
  have d2 : decide (b < 240) = false := decide_eq_false (by omega)
  have d3 : decide (b < 248) = true := decide_eq_true hb1
  have c2 : b ≥ 224 := by omega
  have c3 : b ≥ 240 := by omega
  have hw : wrap64 (b - 240) = b - 240 := w64 (by omega) (by omega)
  simp only [hexaplaref01_One.j0, hexaplaref01_One.j1, hexaplaref01_One.j2, hexaplaref01_One.j3, hexaplaref01_One.j4, hexaplaref01_One.j5, d1, d2, d3, c2, c3, hw, Bool.false_eq_true, if_false, if_true]
  rw [if_neg (by omega)]
  simp only [hexaplaref01_One.j6, decide_eq_true_eq]

/-- One: the first character. -/
theorem one_is (k : Nat) (s : ByteArray) : hexaplaref01_One.f (k + 12) s = some (((oneL s.data.toList).1 : Int), ((oneL s.data.toList).2 : Int)) := by
  have hlen : s.data.toList.length = s.size := size_data s
  by_cases h0 : s.size = 0
  · have hl : s.data.toList = [] := List.eq_nil_of_length_eq_zero (by omega)
    unfold hexaplaref01_One.f oneL; rw [if_pos (by omega), if_pos hl]; rfl
  have hne : s.data.toList ≠ [] := by intro h; rw [h] at hlen; simp at hlen; omega
  have g0 := bt_get s 0 (by omega)
  have g1 : 1 < s.size → bt s 1 = ((s.data.toList.getD 1 0).toNat : Int) := fun h => bt_get s 1 h
  have g2 : 2 < s.size → bt s 2 = ((s.data.toList.getD 2 0).toNat : Int) := fun h => bt_get s 2 h
  have g3 : 3 < s.size → bt s 3 = ((s.data.toList.getD 3 0).toNat : Int) := fun h => bt_get s 3 h
  have l0 := (s.data.toList.getD 0 0).toNat_lt
  have l1 := (s.data.toList.getD 1 0).toNat_lt
  have l2 := (s.data.toList.getD 2 0).toNat_lt
  have l3 := (s.data.toList.getD 3 0).toNat_lt
  unfold oneL
  rw [if_neg hne, hlen]
  generalize (s.data.toList.getD 0 0).toNat = b0 at *
  generalize (s.data.toList.getD 1 0).toNat = b1 at *
  generalize (s.data.toList.getD 2 0).toNat = b2 at *
  generalize (s.data.toList.getD 3 0).toNat = b3 at *
  have g0' : bt s 0 = (b0 : Int) := g0
  unfold oneN
  by_cases c1 : b0 < 128
  · rw [if_pos c1]
    unfold hexaplaref01_One.f
    rw [if_neg (by omega), if_pos (by omega), g0', w64 (by omega) (by omega), if_pos (by omega)]; rfl
  rw [if_neg c1]
  by_cases c2 : b0 < 192 ∨ 248 ≤ b0
  · rw [one_bad (k + 4) s b0 (by omega) g0' (by omega) (by omega) (by omega), if_neg (by omega), if_neg (by omega), if_neg (by omega)]; rfl
  by_cases c3 : b0 < 224
  · rw [one_head2 (k + 4) s b0 (by omega) g0' (by omega) (by omega)]
    by_cases e : s.size < 2
    · rw [if_pos (by omega), if_neg (by omega), if_neg (by omega), if_neg (by omega)]; rfl
    rw [if_neg (by omega), one_round (k + 4) s 2 _ 1 b1 (by omega) (by omega) (by omega) (g1 (by omega)) (by omega) (by omega) (by omega) (by omega) (by omega)]
    by_cases e1 : 128 ≤ b1 ∧ b1 < 192
    · rw [if_pos (by omega), one_end (k + 3) s 2 _ _ (by omega)]
      unfold longN
      by_cases e2 : 194 ≤ b0
      · rw [if_pos (by refine ⟨by omega, ?_⟩; rw [if_neg (by omega), if_pos (by omega)]), if_pos (by omega)]
        simp only [Option.some.injEq, Prod.mk.injEq]; omega
      · rw [if_neg (by rintro ⟨_, h⟩; rw [if_pos (by omega)] at h; omega), if_neg (by omega), if_neg (by omega), if_neg (by omega)]; rfl
    · rw [if_neg (by omega), if_neg (by omega), if_neg (by omega), if_neg (by omega)]; rfl
  by_cases c4 : b0 < 240
  · rw [one_head3 (k + 4) s b0 (by omega) g0' (by omega) (by omega), if_neg (show ¬ (194 ≤ b0 ∧ b0 < 224 ∧ 1 < s.size ∧ 128 ≤ b1 ∧ b1 < 192) by omega)]
    by_cases e : s.size < 3
    · rw [if_pos (by omega), if_neg (by omega), if_neg (by omega)]; rfl
    rw [if_neg (by omega), one_round (k + 4) s 3 _ 1 b1 (by omega) (by omega) (by omega) (g1 (by omega)) (by omega) (by omega) (by omega) (by omega) (by omega)]
    by_cases e1 : 128 ≤ b1 ∧ b1 < 192
    · rw [if_pos (by omega), show (1 : Int) + 1 = 2 from rfl, one_round (k + 3) s 3 _ 2 b2 (by omega) (by omega) (by omega) (g2 (by omega)) (by omega) (by omega) (by omega) (by omega) (by omega)]
      by_cases e2 : 128 ≤ b2 ∧ b2 < 192
      · rw [if_pos (by omega), one_end (k + 2) s 3 _ _ (by omega)]
        unfold longN
        by_cases e3 : (b0 = 224 → 160 ≤ b1) ∧ (b0 = 237 → b1 < 160)
        · rw [if_pos (by refine ⟨by omega, ?_⟩; rw [if_neg (by omega), if_neg (by omega), if_pos (by omega)]), if_pos (by omega)]
          simp only [Option.some.injEq, Prod.mk.injEq]; omega
        · rw [if_neg (by
            rintro ⟨h1, h⟩
            by_cases e4 : b0 = 224
            · by_cases e5 : (64 * (64 * ((b0 : Int) - 224) + ((b1 : Int) - 128)) + ((b2 : Int) - 128)) < 128
              · rw [if_pos e5] at h; omega
              · rw [if_neg e5, if_pos (by omega)] at h; omega
            · omega), if_neg (by omega), if_neg (by omega)]; rfl
      · rw [if_neg (by omega), if_neg (by omega), if_neg (by omega)]; rfl
    · rw [if_neg (by omega), if_neg (by omega), if_neg (by omega)]; rfl
  · rw [one_head4 (k + 4) s b0 (by omega) g0' (by omega) (by omega), if_neg (show ¬ (194 ≤ b0 ∧ b0 < 224 ∧ 1 < s.size ∧ 128 ≤ b1 ∧ b1 < 192) by omega),
      if_neg (show ¬ (224 ≤ b0 ∧ b0 < 240 ∧ 2 < s.size ∧ 128 ≤ b1 ∧ b1 < 192 ∧ 128 ≤ b2 ∧ b2 < 192 ∧ (b0 = 224 → 160 ≤ b1) ∧ (b0 = 237 → b1 < 160)) by omega)]
    by_cases e : s.size < 4
    · rw [if_pos (by omega), if_neg (by omega)]; rfl
    rw [if_neg (by omega), one_round (k + 4) s 4 _ 1 b1 (by omega) (by omega) (by omega) (g1 (by omega)) (by omega) (by omega) (by omega) (by omega) (by omega)]
    by_cases e1 : 128 ≤ b1 ∧ b1 < 192
    · rw [if_pos (by omega), show (1 : Int) + 1 = 2 from rfl, one_round (k + 3) s 4 _ 2 b2 (by omega) (by omega) (by omega) (g2 (by omega)) (by omega) (by omega) (by omega) (by omega) (by omega)]
      by_cases e2 : 128 ≤ b2 ∧ b2 < 192
      · rw [if_pos (by omega), show (2 : Int) + 1 = 3 from rfl, one_round (k + 2) s 4 _ 3 b3 (by omega) (by omega) (by omega) (g3 (by omega)) (by omega) (by omega) (by omega) (by omega) (by omega)]
        by_cases e3 : 128 ≤ b3 ∧ b3 < 192
        · rw [if_pos (by omega), one_end (k + 1) s 4 _ _ (by omega)]
          unfold longN
          by_cases e4 : b0 ≤ 244 ∧ (b0 = 240 → 144 ≤ b1) ∧ (b0 = 244 → b1 < 144)
          · rw [if_pos (by refine ⟨by omega, ?_⟩; rw [if_neg (by omega), if_neg (by omega), if_neg (by omega)]), if_pos (by omega)]
            simp only [Option.some.injEq, Prod.mk.injEq]; omega
          · rw [if_neg (by
              rintro ⟨h1, h⟩
              by_cases e6 : b0 = 240
              · by_cases e5 : (64 * (64 * (64 * ((b0 : Int) - 240) + ((b1 : Int) - 128)) + ((b2 : Int) - 128)) + ((b3 : Int) - 128)) < 128
                · rw [if_pos e5] at h; omega
                · rw [if_neg e5] at h
                  by_cases e7 : (64 * (64 * (64 * ((b0 : Int) - 240) + ((b1 : Int) - 128)) + ((b2 : Int) - 128)) + ((b3 : Int) - 128)) < 2048
                  · rw [if_pos e7] at h; omega
                  · rw [if_neg e7, if_pos (by omega)] at h; omega
              · omega), if_neg (by omega)]; rfl
        · rw [if_neg (by omega), if_neg (by omega)]; rfl
      · rw [if_neg (by omega), if_neg (by omega)]; rfl
    · rw [if_neg (by omega), if_neg (by omega)]; rfl
end Go.Proofs.Ytalaedpiimdcbaa.PDelimSpec

namespace Go.Proofs.Ytalaedpiimdcbaa.PDelimSpec
open Go.RowKit Go.Proofs.YtalaedpiimdcbaaW.PrintWords Go.Proofs.YtalaedpiimdcbaaW.PrintLast Go.Proofs.Ytalaedpiimdcbaa.Own Go.Proofs.Ytalaedpiimdcbaa.Srcw
set_option linter.unusedVariables false
set_option linter.unusedSimpArgs false
theorem app_toList (s : ByteArray) (x : Int) : (s ++ strOfNums [x % 256]).data.toList = s.data.toList ++ [UInt8.ofNat (x % 256).toNat] := by
  simp [strOfNums]
theorem app_size (s : ByteArray) (x : Int) : (strOfNums [x % 256]).size = 1 := by simp [strOfNums_size]

/-- The loop over one byte more: at one of them it can. -/
theorem loop_true (s : ByteArray) (K : Nat) (V : Nat → Bool) (hsz : s.size ≤ 4) (hV : ∀ k d : Nat, K ≤ k → 128 ≤ d → d < 192 → hexaplaref01_begins.f k (s ++ strOfNums [(d : Int) % 256]) = some (V d)) (d0 : Nat) (h0 : 128 ≤ d0) (h1 : d0 < 192) (ht : V d0 = true) :
    ∀ (n d k : Nat), d0 = d + n → 128 ≤ d → K + n + 1 ≤ k → hexaplaref01_begins.l0 k s d = some true := by
  intro n
  induction n with
  | zero =>
    intro d k hd h2 hk
    obtain ⟨k, rfl⟩ : ∃ m, k = m + 1 := ⟨k - 1, by omega⟩
    obtain rfl : d0 = d := by omega
    simp only [hexaplaref01_begins.l0, Option.bind_some]
    rw [if_pos (by omega), if_pos (by rw [app_size s]; omega), hV k d0 (by omega) h0 h1, ht]
    simp
  | succ n ih =>
    intro d k hd h2 hk
    obtain ⟨k, rfl⟩ : ∃ m, k = m + 1 := ⟨k - 1, by omega⟩
    simp only [hexaplaref01_begins.l0, Option.bind_some]
    rw [if_pos (by omega), if_pos (by rw [app_size s]; omega), hV k d (by omega) h2 (by omega)]
    simp only [Option.bind_some]
    cases hv : V d
    · rw [if_neg (by simp), w64 (by omega) (by omega)]
      have := ih (d + 1) k (by omega) (by omega) (by omega)
      simpa using this
    · rw [if_pos rfl]
/-- At none of them it can. -/
theorem loop_false (s : ByteArray) (K : Nat) (hsz : s.size ≤ 4) (hV : ∀ k d : Nat, K ≤ k → 128 ≤ d → d < 192 → hexaplaref01_begins.f k (s ++ strOfNums [(d : Int) % 256]) = some false) :
    ∀ (n d k : Nat), 192 = d + n → 128 ≤ d → K + n + 1 ≤ k → hexaplaref01_begins.l0 k s d = some false := by
  intro n
  induction n with
  | zero =>
    intro d k hd h2 hk
    obtain ⟨k, rfl⟩ : ∃ m, k = m + 1 := ⟨k - 1, by omega⟩
    simp only [hexaplaref01_begins.l0]
    rw [if_neg (by omega)]
  | succ n ih =>
    intro d k hd h2 hk
    obtain ⟨k, rfl⟩ : ∃ m, k = m + 1 := ⟨k - 1, by omega⟩
    simp only [hexaplaref01_begins.l0, Option.bind_some]
    rw [if_pos (by omega), if_pos (by rw [app_size s]; omega), hV k d (by omega) h2 (by omega)]
    simp only [Option.bind_some]
    rw [if_neg (by simp), w64 (by omega) (by omega)]
    have := ih (d + 1) k (by omega) (by omega) (by omega)
    simpa using this

/-- The bytes with one more behind. -/
theorem okL_app (l : List UInt8) (d : Nat) (hd : d < 256) : (l.length = 1 → okL (l ++ [UInt8.ofNat d]) = decide (okN 2 (l.getD 0 0).toNat d 0 0)) ∧
    (l.length = 2 → okL (l ++ [UInt8.ofNat d]) = decide (okN 3 (l.getD 0 0).toNat (l.getD 1 0).toNat d 0)) ∧
    (l.length = 3 → okL (l ++ [UInt8.ofNat d]) = decide (okN 4 (l.getD 0 0).toNat (l.getD 1 0).toNat (l.getD 2 0).toNat d)) := by
  have hu : (UInt8.ofNat d).toNat = d := by simp; omega
  refine ⟨fun h => ?_, fun h => ?_, fun h => ?_⟩
  · match l, h with
    | [a], _ => simp [okL, hu]
  · match l, h with
    | [a, b], _ => simp [okL, hu]
  · match l, h with
    | [a, b, c], _ => simp [okL, hu]

/-- What begins does ahead of its loop. -/
theorem begins_head (k : Nat) (s : ByteArray) (h1 : 1 ≤ s.size) (hk : 13 ≤ k) : hexaplaref01_begins.f (k + 2) s = if (oneL s.data.toList).2 = s.size then some true else if 4 ≤ s.size then some false else
    if (s.data.toList.getD 0 0).toNat < 192 then some false else hexaplaref01_begins.l0 k s 128 := by
  obtain ⟨j, rfl⟩ : ∃ j, k = j + 12 := ⟨k - 12, by omega⟩
  have hb := bt_get s 0 (by omega)
  simp only [hexaplaref01_begins.f]
  rw [show j + 12 + 1 = (j + 1) + 12 from by omega, one_is]
  simp only [Option.bind_some]
  by_cases c1 : (oneL s.data.toList).2 = s.size
  · rw [if_pos (by omega), if_pos c1]
  rw [if_neg (by omega), if_neg c1]
  by_cases c2 : 4 ≤ s.size
  · rw [if_pos (by omega), if_pos c2]
    simp only [hexaplaref01_begins.j0, if_true]
  rw [if_neg (by omega), if_neg c2, if_pos (by omega)]
  have hb' : bt s 0 = ((s.data.toList.getD 0 0).toNat : Int) := hb
  by_cases c3 : (s.data.toList.getD 0 0).toNat < 192
  · have d : decide (bt s 0 < 192) = true := decide_eq_true (by omega)
    rw [d, if_pos c3]; simp only [hexaplaref01_begins.j0, if_true]
  · have d : decide (bt s 0 < 192) = false := decide_eq_false (by omega)
    rw [d, if_neg c3]; simp only [hexaplaref01_begins.j0, Bool.false_eq_true, if_false]

theorem begins4 (k : Nat) (s : ByteArray) (h : s.size = 4) (hk : 15 ≤ k) : hexaplaref01_begins.f k s = some (okL s.data.toList) := by
  obtain ⟨k, rfl⟩ : ∃ m, k = m + 2 := ⟨k - 2, by omega⟩
  have hl := size_data s
  have hne : s.data.toList ≠ [] := by intro e; rw [e] at hl; simp at hl; omega
  rw [begins_head k s (by omega) (by omega)]
  unfold oneL okL
  rw [if_neg hne, hl, h, oneN_two]
  generalize (s.data.toList.getD 0 0).toNat = b0
  generalize (s.data.toList.getD 1 0).toNat = b1
  generalize (s.data.toList.getD 2 0).toNat = b2
  generalize (s.data.toList.getD 3 0).toNat = b3
  by_cases c : okN 4 b0 b1 b2 b3
  · have c' := c
    unfold okN lohi at c'
    rw [decide_eq_true c, if_pos (by (repeat' split) <;> omega)]
  · have c' := c
    unfold okN lohi at c'
    rw [decide_eq_false c, if_neg (by (repeat' split) <;> omega), if_pos (by omega)]

theorem begins3 (k : Nat) (s : ByteArray) (h : s.size = 3) (hk : 100 ≤ k) : hexaplaref01_begins.f k s = some (okL s.data.toList) := by
  obtain ⟨k, rfl⟩ : ∃ m, k = m + 2 := ⟨k - 2, by omega⟩
  have hl := size_data s
  have hne : s.data.toList ≠ [] := by intro e; rw [e] at hl; simp at hl; omega
  have hV : ∀ k d : Nat, 15 ≤ k → 128 ≤ d → d < 192 → hexaplaref01_begins.f k (s ++ strOfNums [(d : Int) % 256]) = some (decide (okN 4 (s.data.toList.getD 0 0).toNat (s.data.toList.getD 1 0).toNat (s.data.toList.getD 2 0).toNat d)) := by
    intro k d hk h1 h2
    rw [begins4 k _ (by simp [strOfNums_size, h]) hk, app_toList, ← (okL_app s.data.toList d (by omega)).2.2 (by omega), show ((d : Int) % 256).toNat = d from by omega]
  rw [begins_head k s (by omega) (by omega)]
  unfold oneL okL
  rw [if_neg hne, hl, h, oneN_two]
  generalize (s.data.toList.getD 0 0).toNat = b0 at *
  generalize (s.data.toList.getD 1 0).toNat = b1 at *
  generalize (s.data.toList.getD 2 0).toNat = b2 at *
  generalize (s.data.toList.getD 3 0).toNat = b3 at *
  by_cases c : okN 3 b0 b1 b2 b3
  · have c' := c
    unfold okN lohi at c'
    rw [decide_eq_true c]
    by_cases e : b0 < 240
    · rw [if_pos (by (repeat' split) <;> omega)]
    · rw [if_neg (by (repeat' split) <;> omega), if_neg (by omega), if_neg (by omega)]
      exact loop_true s 15 _ (by omega) hV 128 (by omega) (by omega) (decide_eq_true (by unfold okN lohi; omega)) 0 128 k (by omega) (by omega) (by omega)
  · have c' := c
    unfold okN lohi at c'
    rw [decide_eq_false c, if_neg (by (repeat' split) <;> omega), if_neg (by omega)]
    by_cases e : b0 < 192
    · rw [if_pos e]
    · rw [if_neg e]
      exact loop_false s 15 (by omega) (fun k d h1 h2 h3 => by rw [hV k d h1 h2 h3, decide_eq_false (by unfold okN lohi; omega)]) 64 128 k (by omega) (by omega) (by omega)

theorem begins2 (k : Nat) (s : ByteArray) (h : s.size = 2) (hk : 200 ≤ k) : hexaplaref01_begins.f k s = some (okL s.data.toList) := by
  obtain ⟨k, rfl⟩ : ∃ m, k = m + 2 := ⟨k - 2, by omega⟩
  have hl := size_data s
  have hne : s.data.toList ≠ [] := by intro e; rw [e] at hl; simp at hl; omega
  have hV : ∀ k d : Nat, 100 ≤ k → 128 ≤ d → d < 192 → hexaplaref01_begins.f k (s ++ strOfNums [(d : Int) % 256]) = some (decide (okN 3 (s.data.toList.getD 0 0).toNat (s.data.toList.getD 1 0).toNat d 0)) := by
    intro k d hk h1 h2
    rw [begins3 k _ (by simp [strOfNums_size, h]) hk, app_toList, ← (okL_app s.data.toList d (by omega)).2.1 (by omega), show ((d : Int) % 256).toNat = d from by omega]
  rw [begins_head k s (by omega) (by omega)]
  unfold oneL okL
  rw [if_neg hne, hl, h, oneN_two]
  generalize (s.data.toList.getD 0 0).toNat = b0 at *
  generalize (s.data.toList.getD 1 0).toNat = b1 at *
  generalize (s.data.toList.getD 2 0).toNat = b2 at *
  generalize (s.data.toList.getD 3 0).toNat = b3 at *
  by_cases c : okN 2 b0 b1 b2 b3
  · have c' := c
    unfold okN lohi at c'
    rw [decide_eq_true c]
    by_cases e : b0 < 224
    · rw [if_pos (by (repeat' split) <;> omega)]
    · rw [if_neg (by (repeat' split) <;> omega), if_neg (by omega), if_neg (by omega)]
      exact loop_true s 100 _ (by omega) hV 128 (by omega) (by omega) (decide_eq_true (by unfold okN lohi; omega)) 0 128 k (by omega) (by omega) (by omega)
  · have c' := c
    unfold okN lohi at c'
    rw [decide_eq_false c, if_neg (by (repeat' split) <;> omega), if_neg (by omega)]
    by_cases e : b0 < 192
    · rw [if_pos e]
    · rw [if_neg e]
      exact loop_false s 100 (by omega) (fun k d h1 h2 h3 => by rw [hV k d h1 h2 h3, decide_eq_false (by unfold okN lohi; omega)]) 64 128 k (by omega) (by omega) (by omega)

set_option maxHeartbeats 1000000 in
theorem begins1 (k : Nat) (s : ByteArray) (h : s.size = 1) (hk : 300 ≤ k) : hexaplaref01_begins.f k s = some (okL s.data.toList) := by
  obtain ⟨k, rfl⟩ : ∃ m, k = m + 2 := ⟨k - 2, by omega⟩
  have hl := size_data s
  have hne : s.data.toList ≠ [] := by intro e; rw [e] at hl; simp at hl; omega
  have hV : ∀ k d : Nat, 200 ≤ k → 128 ≤ d → d < 192 → hexaplaref01_begins.f k (s ++ strOfNums [(d : Int) % 256]) = some (decide (okN 2 (s.data.toList.getD 0 0).toNat d 0 0)) := by
    intro k d hk h1 h2
    rw [begins2 k _ (by simp [strOfNums_size, h]) hk, app_toList, ← (okL_app s.data.toList d (by omega)).1 (by omega), show ((d : Int) % 256).toNat = d from by omega]
  have l0 := (s.data.toList.getD 0 0).toNat_lt
  rw [begins_head k s (by omega) (by omega)]
  unfold oneL okL
  rw [if_neg hne, hl, h, oneN_two]
  generalize (s.data.toList.getD 0 0).toNat = b0 at *
  generalize (s.data.toList.getD 1 0).toNat = b1 at *
  generalize (s.data.toList.getD 2 0).toNat = b2 at *
  generalize (s.data.toList.getD 3 0).toNat = b3 at *
  by_cases c : okN 1 b0 b1 b2 b3
  · have c' := c
    unfold okN lohi at c'
    rw [decide_eq_true c]
    by_cases e : b0 < 128
    · rw [if_pos e, if_pos rfl]
    · rw [if_neg (by (repeat' split) <;> omega), if_neg (by omega), if_neg (by omega)]
      by_cases e1 : b0 = 224
      · exact loop_true s 200 _ (by omega) hV 160 (by omega) (by omega) (decide_eq_true (by unfold okN lohi; omega)) 32 128 k (by omega) (by omega) (by omega)
      · by_cases e2 : b0 = 240
        · exact loop_true s 200 _ (by omega) hV 144 (by omega) (by omega) (decide_eq_true (by unfold okN lohi; omega)) 16 128 k (by omega) (by omega) (by omega)
        · exact loop_true s 200 _ (by omega) hV 128 (by omega) (by omega) (decide_eq_true (by unfold okN lohi; omega)) 0 128 k (by omega) (by omega) (by omega)
  · have c' := c
    unfold okN lohi at c'
    rw [decide_eq_false c, if_neg (by (repeat' split) <;> omega), if_neg (by omega)]
    by_cases e : b0 < 192
    · rw [if_pos e]
    · rw [if_neg e]
      exact loop_false s 200 (by omega) (fun k d h1 h2 h3 => by rw [hV k d h1 h2 h3, decide_eq_false (by unfold okN lohi; omega)]) 64 128 k (by omega) (by omega) (by omega)

theorem begins_is (k : Nat) (s : ByteArray) (h1 : 1 ≤ s.size) (h4 : s.size ≤ 4) (hk : 300 ≤ k) : hexaplaref01_begins.f k s = some (okL s.data.toList) := by
  rcases (by omega : s.size = 1 ∨ s.size = 2 ∨ s.size = 3 ∨ s.size = 4) with h | h | h | h
  · exact begins1 k s h hk
  · exact begins2 k s h (by omega)
  · exact begins3 k s h (by omega)
  · exact begins4 k s h (by omega)

end Go.Proofs.Ytalaedpiimdcbaa.PDelimSpec

namespace Go.Proofs.Ytalaedpiimdcbaa.PDelimSpec
open Go.RowKit Go.Proofs.YtalaedpiimdcbaaW.PrintWords Go.Proofs.YtalaedpiimdcbaaW.PrintLast Go.Proofs.Ytalaedpiimdcbaa.Own Go.Proofs.Ytalaedpiimdcbaa.Srcw
set_option linter.unusedVariables false
set_option linter.unusedSimpArgs false
/-- The place of the first byte at which a scan stops; of a text that ends within a character its length; -1: there is none. -/
def scanBad : List UInt8 → (Int × Int × Int) → Nat → Int
  | [], st, i => if st.1 = 0 then -1 else i
  | b :: r, st, i => if (stepF st.1 st.2.1 st.2.2 b.toNat).1 = true then scanBad r (stepF st.1 st.2.1 st.2.2 b.toNat).2 (i + 1) else i
theorem extract_mid (s : ByteArray) (a b : Nat) : (s.extract a b).data.toList = (s.data.toList.drop a).take (b - a) := by
  rw [ByteArray.data_extract, Array.toList_extract, List.extract_eq_take_drop]
theorem extract_end (s : ByteArray) (n : Nat) : (s.extract n s.size).data.toList = s.data.toList.drop n := by
  rw [extract_mid, List.take_of_length_le]
  rw [List.length_drop, size_data]
  exact Nat.le_refl _
theorem scan_full : ∀ (r p : List UInt8) (st : Int × Int × Int) (i n : Nat), Rel p st → (oneL (p ++ r)).2 = n → 0 < n → p.length < n ∧ scanBad r st i = scanBad (r.drop (n - p.length)) (0, 128, 191) (i + (n - p.length)) := by
  intro r
  induction r with
  | nil =>
    intro p st i n hr h1 h0
    rw [List.append_nil, (rel_left p st hr).2.1] at h1
    omega
  | cons b r ih =>
    intro p st i n hr h1 h0
    obtain ⟨g1, g2, g3, g4, g5⟩ := rel_goes p st b hr
    cases hk : okL (p ++ [b]) with
    | false =>
      have := none_prefix p r b (rel_left p st hr).1 (rel_left p st hr).2.1 hk
      omega
    | true =>
      rw [hk] at g1
      rw [scanBad, if_pos g1]
      have e1 : p ++ b :: r = (p ++ [b]) ++ r := by rw [List.append_assoc]; rfl
      by_cases h2 : (oneL (p ++ [b])).2 = 0
      · obtain ⟨q1, q2⟩ := ih (p ++ [b]) _ (i + 1) n (g4 hk h2).1 (by rw [← e1]; exact h1) h0
        rw [List.length_append, List.length_singleton] at q1 q2
        refine ⟨by omega, ?_⟩
        rw [q2, show n - p.length = (n - (p.length + 1)) + 1 from by omega, List.drop_succ_cons]
        congr 1
        omega
      · have h3 : (oneL (p ++ [b])).2 = (p ++ [b]).length := by rcases g2 with g | g; exact absurd g h2; exact g
        have h4 := full_prefix (p ++ [b]) r (by simp) h3
        rw [← e1, h1, List.length_append, List.length_singleton] at h4
        refine ⟨by omega, ?_⟩
        rw [g3 hk h2, show n - p.length = 1 from by omega]
        rfl
theorem l1_is (s : ByteArray) (hs : s.size ≤ 1000000) (at_ : Nat) : ∀ (r p : List UInt8) (st : Int × Int × Int), Rel p st → s.data.toList.drop at_ = p ++ r → at_ ≤ s.size → (oneL (p ++ r)).2 = 0 → p ++ r ≠ [] →
    ∀ K, 310 + 2 * r.length ≤ K → hexaplaref01_Bad.l1 K s at_ ((at_ + p.length + 1 : Nat) : Int) = some (scanBad r st (at_ + p.length)) := by
  intro r
  induction r with
  | nil =>
    intro p st hr hd ha h0 hn K hK
    obtain ⟨k, rfl⟩ : ∃ k, K = k + 2 := ⟨K - 2, by omega⟩
    rw [List.append_nil] at hd hn
    have hl := congrArg List.length hd
    rw [List.length_drop, size_data] at hl
    conv => lhs; unfold hexaplaref01_Bad.l1
    rw [if_neg (by omega)]
    simp only [hexaplaref01_Bad.j2, Bool.false_eq_true, if_false]
    rw [scanBad, if_neg (by have := rel_pos hr hn; omega)]
    congr 1
    omega
  | cons b r ih =>
    intro p st hr hd ha h0 hn K hK
    obtain ⟨k, rfl⟩ : ∃ k, K = k + 2 := ⟨K - 2, by omega⟩
    have hp3 := (rel_left p st hr).1
    have hl := congrArg List.length hd
    rw [List.length_drop, size_data, List.length_append, List.length_cons] at hl
    obtain ⟨g1, g2, g3, g4, g5⟩ := rel_goes p st b hr
    have e1 : p ++ b :: r = (p ++ [b]) ++ r := by rw [List.append_assoc]; rfl
    have hx : (s.extract ((at_ : Int).toNat) (((at_ + p.length + 1 : Nat) : Int).toNat)).data.toList = p ++ [b] := by
      rw [extract_mid]
      simp only [Int.toNat_natCast]
      rw [hd, e1, show at_ + p.length + 1 - at_ = (p ++ [b]).length from by rw [List.length_append, List.length_singleton]; omega, List.take_left']
      rfl
    have hxs : (s.extract ((at_ : Int).toNat) (((at_ + p.length + 1 : Nat) : Int).toNat)).size = p.length + 1 := by
      rw [← size_data, hx, List.length_append, List.length_singleton]
    conv => lhs; unfold hexaplaref01_Bad.l1
    rw [if_pos (by omega), w64 (by omega) (by omega), decide_eq_true (show ((at_ + p.length + 1 : Nat) : Int) ≤ (at_ : Int) + 4 by omega)]
    simp only [hexaplaref01_Bad.j2, if_true]
    rw [if_pos (by omega), if_pos (by omega), if_pos (by omega), begins_is k _ (by omega) (by omega) (by rw [List.length_cons] at hK; omega), hx]
    simp only [Option.bind_some]
    cases hk : okL (p ++ [b]) with
    | false =>
      rw [hk] at g1
      rw [if_neg (by decide), w64 (by omega) (by omega), scanBad, if_neg (by rw [g1]; decide)]
      congr 1
      omega
    | true =>
      rw [hk] at g1
      rw [if_pos rfl, w64 (by omega) (by omega), scanBad, if_pos g1]
      have h2 : (oneL (p ++ [b])).2 = 0 := by
        rcases g2 with g | g
        · exact g
        · have := full_prefix (p ++ [b]) r (by simp) g
          rw [← e1, h0, List.length_append] at this
          simp at this
      have := ih (p ++ [b]) _ (g4 hk h2).1 (by rw [hd, e1]) ha (by rw [← e1]; exact h0) (by simp) k (by rw [List.length_cons] at hK; omega)
      rw [List.length_append, List.length_singleton] at this
      exact this
theorem l0_is (s : ByteArray) (hs : s.size ≤ 1000000) : ∀ (n at_ : Nat), s.size - at_ ≤ n → at_ ≤ s.size → ∀ K, 400 + 3 * n ≤ K → hexaplaref01_Bad.l0 K s (at_ : Int) = some (scanBad (s.data.toList.drop at_) (0, 128, 191) at_) := by
  intro n
  induction n with
  | zero =>
    intro a hn ha K hK
    obtain ⟨k, rfl⟩ : ∃ k, K = k + 1 := ⟨K - 1, by omega⟩
    conv => lhs; unfold hexaplaref01_Bad.l0
    rw [if_neg (by omega), List.drop_of_length_le (by rw [size_data]; omega)]
    rfl
  | succ n ih =>
    intro a hn ha K hK
    by_cases h0 : s.size - a ≤ n
    · exact ih a h0 ha K (by omega)
    obtain ⟨k, rfl⟩ : ∃ k, K = (k + 12) + 1 := ⟨K - 13, by omega⟩
    conv => lhs; unfold hexaplaref01_Bad.l0
    rw [if_pos (by omega), if_pos (by omega), if_pos (by omega), one_is]
    simp only [Option.bind_some, Int.toNat_natCast]
    rw [extract_end]
    have hr0 : Rel [] (0, 128, 191) := .inl ⟨rfl, rfl⟩
    by_cases h1 : (oneL (s.data.toList.drop a)).2 = 0
    · rw [h1, if_neg (by decide), w64 (by omega) (by omega)]
      have hne : s.data.toList.drop a ≠ [] := by
        intro h
        have := congrArg List.length h
        rw [List.length_drop, size_data, List.length_nil] at this
        omega
      have := l1_is s hs a (s.data.toList.drop a) [] _ hr0 rfl (by omega) h1 hne (k + 12) (by rw [List.length_drop, size_data]; omega)
      exact this
    · have h2 := scan_full (s.data.toList.drop a) [] _ a _ hr0 rfl (by show 0 < (oneL (s.data.toList.drop a)).2; omega)
      simp only [List.nil_append, List.length_nil, Nat.sub_zero] at h2
      have h4 := (oneL_len (s.data.toList.drop a)).1
      rw [List.length_drop, size_data] at h4
      rw [h2.2, List.drop_drop, if_pos (by omega), w64 (by omega) (by omega)]
      exact ih (a + (oneL (s.data.toList.drop a)).2) (by omega) (by omega) (k + 12) (by omega)
theorem Bad_is (s : ByteArray) (hs : s.size ≤ 1000000) : hexaplaref01_Bad.f (400 + 3 * s.size) s = some (scanBad s.data.toList (0, 128, 191) 0) :=
  l0_is s hs s.size 0 (by omega) (Nat.zero_le _) _ (Nat.le_refl _)
theorem scanBad_in : ∀ (l : List UInt8) (st : Int × Int × Int) (i : Nat), scanBad l st i = -1 ∨ ((i : Int) ≤ scanBad l st i ∧ scanBad l st i ≤ ((i + l.length : Nat) : Int)) := by
  intro l
  induction l with
  | nil =>
    intro st i
    rw [scanBad]
    split
    · exact .inl rfl
    · exact .inr ⟨Int.le_refl _, by rw [List.length_nil]; exact Int.le_refl _⟩
  | cons b r ih =>
    intro st i
    rw [scanBad]
    split
    · rcases ih (stepF st.1 st.2.1 st.2.2 b.toNat).2 (i + 1) with h | h
      · exact .inl h
      · exact .inr (by rw [List.length_cons]; omega)
    · exact .inr (by rw [List.length_cons]; omega)
theorem bad_bad (s : ByteArray) (hs : s.size ≤ 1000000) (w : World) :
    Calls Try.prog 34 #[.string s] w fun e w' => e = .returned (.int .i64 (scanBad s.data.toList (0, 128, 191) 0)) ∧ Below w.heap.size w w' :=
  hexaplaref01_Bad.calls _ s _ w (Bad_is s hs)
end Go.Proofs.Ytalaedpiimdcbaa.PDelimSpec

namespace Go.Proofs.Ytalaedpiimdcbaa.Tx
open Go Go.Proofs.Ytalaedpiimdcbaa.Hp Go.Proofs.Ytalaedpiimdcbaa.Dl Go.Proofs.Ytalaedpiimdcbaa.Cr Go.Proofs.Ytalaedpiimdcbaa.Srcw Go.Proofs.Ytalaedpiimdcbaa.PDelimSpec
set_option linter.unusedVariables false
set_option linter.unusedSimpArgs false
/-- The bytes ahead of the place at which a scan stops. -/
def headB (l : List UInt8) (B : Int) (i : Nat) : List UInt8 := if B < 0 then l else l.take (B - i).toNat
/-- What a decoder that goes on with some bytes and is closed leaves. -/
def DecIs (d D : DS) (n : Nat) (B : Int) (X : MS × List Ev × Option (Int × Nat)) : Prop :=
  match X with
  | (_, q, some (e, p)) => D.c.q = d.c.q ++ q ∧ D.c.err = e ∧ D.c.at_ = p
  | (m, q, none) => if B < 0 then D.c.q = d.c.q ++ q ++ (endM m).2.1 ∧ D.c.err = (endM m).2.2 ∧ D.c.at_ = n else D.c.q = d.c.q ++ q ∧ D.c.err = 3 ∧ D.c.at_ = B
theorem DecIs_none (d D : DS) (n : Nat) (B : Int) (m : MS) (q : List Ev) : DecIs d D n B (m, q, none) = (if B < 0 then D.c.q = d.c.q ++ q ++ (endM m).2.1 ∧ D.c.err = (endM m).2.2 ∧ D.c.at_ = n else D.c.q = d.c.q ++ q ∧ D.c.err = 3 ∧ D.c.at_ = B) := rfl
theorem dec_run : ∀ (l : List UInt8) (d : DS) (i : Nat), d.c.over = false → d.c.closed = false → d.c.at_ = i →
    DecIs d (closeD (feedD d l)) (i + l.length) (scanBad l (d.c.l, d.c.a, d.c.t) i) (runM (headB l (scanBad l (d.c.l, d.c.a, d.c.t) i) i) d.m i) := by
  intro l
  induction l with
  | nil =>
    intro d i h1 h2 h3
    have hh : headB [] (scanBad [] (d.c.l, d.c.a, d.c.t) i) i = [] := by unfold headB; split <;> simp
    rw [hh]
    show DecIs d (closeD d) _ _ (d.m, [], none)
    by_cases hl : d.c.l = 0
    · have hB : scanBad [] (d.c.l, d.c.a, d.c.t) i = -1 := by rw [scanBad]; rw [if_pos (by exact hl)]
      have hD : closeD d = ⟨(endM d.m).1, ({ d.c with closed := true, q := d.c.q ++ (endM d.m).2.1 } : CS).fail (endM d.m).2.2⟩ := by unfold closeD; rw [if_neg (by rw [h1, h2]; decide), if_neg (by rw [hl]; decide)]
      rw [hB, hD]
      rw [DecIs_none, if_pos (by decide)]
      refine ⟨?_, rfl, ?_⟩
      · show d.c.q ++ (endM d.m).2.1 = d.c.q ++ [] ++ (endM d.m).2.1
        simp
      · show d.c.at_ = _
        rw [h3]; rfl
    · have hB : scanBad [] (d.c.l, d.c.a, d.c.t) i = i := by rw [scanBad]; rw [if_neg (by exact hl)]
      have hD : closeD d = ⟨d.m, ({ d.c with closed := true } : CS).fail 3⟩ := by unfold closeD; rw [if_neg (by rw [h1, h2]; decide), if_pos hl]
      rw [hB, hD]
      rw [DecIs_none, if_neg (by omega)]
      exact ⟨by show d.c.q = d.c.q ++ []; simp, rfl, h3⟩
  | cons b r ih =>
    intro d i h1 h2 h3
    show DecIs d (closeD (feedD (stepD d b) r)) _ _ _
    rw [scanBad]
    have hst : stepD d b = if (stepF d.c.l d.c.a d.c.t b.toNat).1 = false then ⟨d.m, (d.c.scan (stepF d.c.l d.c.a d.c.t b.toNat)).fail 3⟩
        else if (stepM d.m b).2.2 = 0 then ⟨(stepM d.m b).1, { d.c.scan (stepF d.c.l d.c.a d.c.t b.toNat) with q := d.c.q ++ (stepM d.m b).2.1, at_ := d.c.at_ + 1 }⟩
        else ⟨(stepM d.m b).1, ({ d.c.scan (stepF d.c.l d.c.a d.c.t b.toNat) with q := d.c.q ++ (stepM d.m b).2.1 } : CS).fail (stepM d.m b).2.2⟩ := by
      unfold stepD
      rw [if_neg (by rw [h1]; decide)]
    simp only
    generalize stepF d.c.l d.c.a d.c.t b.toNat = sf at hst ⊢
    obtain ⟨ok, sl, sa, st⟩ := sf
    cases ok with
    | false =>
      rw [if_pos rfl] at hst
      rw [if_neg (by show ¬ (false = true); decide)]
      have hh : headB (b :: r) (i : Int) i = [] := by
        unfold headB
        rw [if_neg (by omega), Int.sub_self]
        rfl
      rw [hh]
      have ho : (stepD d b).c.over = true := by rw [hst]; rfl
      rw [feed_over ho, close_over ho, hst]
      show DecIs d _ _ _ (d.m, [], none)
      rw [DecIs_none, if_neg (by omega)]
      exact ⟨by show d.c.q = d.c.q ++ []; simp, rfl, h3⟩
    | true =>
      rw [if_neg (by show ¬ (true = false); decide)] at hst
      rw [if_pos rfl]
      simp only
      generalize hB : scanBad r (sl, sa, st) (i + 1) = B
      have hin := scanBad_in r (sl, sa, st) (i + 1)
      rw [hB] at hin
      have hh : headB (b :: r) B i = b :: headB r B (i + 1) := by
        unfold headB
        by_cases h0 : B < 0
        · rw [if_pos h0, if_pos h0]
        · rw [if_neg h0, if_neg h0]
          have : (B - (i : Int)).toNat = (B - ((i + 1 : Nat) : Int)).toNat + 1 := by omega
          rw [this, List.take_succ_cons]
      rw [hh]
      by_cases h0 : (stepM d.m b).2.2 = 0
      · rw [if_pos h0] at hst
        have hr := run_told (r := headB r B (i + 1)) (p := i) (show stepM d.m b = ((stepM d.m b).1, (stepM d.m b).2.1, 0) by rw [← h0])
        rw [hr]
        have ih2 := ih (stepD d b) (i + 1) (by rw [hst]; exact h1) (by rw [hst]; exact h2) (by rw [hst]; show d.c.at_ + 1 = _; rw [h3]; rfl)
        have e1 : ((stepD d b).c.l, (stepD d b).c.a, (stepD d b).c.t) = (sl, sa, st) := by rw [hst]; rfl
        have e2 : (stepD d b).m = (stepM d.m b).1 := by rw [hst]
        have e3 : (stepD d b).c.q = d.c.q ++ (stepM d.m b).2.1 := by rw [hst]
        rw [e1, hB, e2] at ih2
        generalize runM (headB r B (i + 1)) (stepM d.m b).1 (i + 1) = X at ih2 ⊢
        generalize closeD (feedD (stepD d b) r) = D at ih2 ⊢
        obtain ⟨m2, q2, o⟩ := X
        cases o with
        | some ep =>
          obtain ⟨g1, g2, g3⟩ := ih2
          exact ⟨by rw [g1, e3]; show _ = d.c.q ++ ((stepM d.m b).2.1 ++ q2); simp, g2, g3⟩
        | none =>
          have ih3 : if B < 0 then D.c.q = (stepD d b).c.q ++ q2 ++ (endM m2).2.1 ∧ D.c.err = (endM m2).2.2 ∧ D.c.at_ = ((i + 1 + r.length : Nat) : Int) else D.c.q = (stepD d b).c.q ++ q2 ∧ D.c.err = 3 ∧ D.c.at_ = B := ih2
          show if B < 0 then D.c.q = d.c.q ++ ((stepM d.m b).2.1 ++ q2) ++ (endM m2).2.1 ∧ D.c.err = (endM m2).2.2 ∧ D.c.at_ = ((i + (b :: r).length : Nat) : Int) else D.c.q = d.c.q ++ ((stepM d.m b).2.1 ++ q2) ∧ D.c.err = 3 ∧ D.c.at_ = B
          rw [e3] at ih3
          have e4 : i + (b :: r).length = i + 1 + r.length := by rw [List.length_cons]; omega
          rw [e4, ← List.append_assoc d.c.q]
          exact ih3
      · rw [if_neg h0] at hst
        have hr := run_bad (r := headB r B (i + 1)) (p := i) (show stepM d.m b = ((stepM d.m b).1, (stepM d.m b).2.1, (stepM d.m b).2.2) from rfl) h0
        rw [hr]
        have ho : (stepD d b).c.over = true := by rw [hst]; rfl
        rw [feed_over ho, close_over ho, hst]
        exact ⟨rfl, rfl, h3⟩
/-- A text as the reference begins it. -/
def begT (l : List UInt8) : TX := ⟨headB l (scanBad l (0, 128, 191) 0) 0, 0, decide (scanBad l (0, 128, 191) 0 < 0), [], 0, 0⟩
theorem spec_dec (l : List UInt8) : (specR (begT l)).q = (dec l).c.q ∧ finT (specR (begT l)) (scanBad l (0, 128, 191) 0) = ((dec l).c.err, (dec l).c.at_) := by
  have h1 := spec_run (begT l) rfl rfl rfl
  have h2 := dec_run l DS.new 0 rfl rfl rfl
  have hin := scanBad_in l (0, 128, 191) 0
  have e1 : (DS.new.c.l, DS.new.c.a, DS.new.c.t) = (0, 128, 191) := rfl
  have e2 : DS.new.m = MS.new := rfl
  have e3 : DS.new.c.q = [] := rfl
  rw [e1, e2] at h2
  have e4 : closeD (feedD DS.new l) = dec l := rfl
  rw [e4] at h2
  have hs : (begT l).s = headB l (scanBad l (0, 128, 191) 0) 0 := rfl
  have hc : (begT l).closed = decide (scanBad l (0, 128, 191) 0 < 0) := rfl
  have hL : (begT l).s.length = if scanBad l (0, 128, 191) 0 < 0 then l.length else (scanBad l (0, 128, 191) 0).toNat := by
    rw [hs]
    unfold headB
    split
    · rfl
    · rw [List.length_take]
      omega
  rw [hs, hc, ← hs] at h1
  rw [← hs] at h2
  generalize scanBad l (0, 128, 191) 0 = B at *
  generalize specR (begT l) = v at *
  generalize runM (begT l).s MS.new 0 = X at *
  generalize (begT l).s.length = L at *
  generalize dec l = D at *
  obtain ⟨m, q, o⟩ := X
  cases o with
  | some ep =>
    obtain ⟨e, p⟩ := ep
    obtain ⟨g0, g1, g2, g3, g4, g5⟩ := h1
    obtain ⟨k1, k2, k3⟩ := h2
    refine ⟨by rw [g3, k1, e3], ?_⟩
    unfold finT
    rw [if_neg (by rw [g4, g5]; intro h; rcases h.2 with h | h; exact g1 h; (rw [if_neg (by omega)] at hL; omega)), g4, if_pos g1, g5, k2, k3]
  | none =>
    obtain ⟨g0, h1⟩ := h1
    by_cases h0 : B < 0
    · have h2' : D.c.q = DS.new.c.q ++ q ++ (endM m).2.1 ∧ D.c.err = (endM m).2.2 ∧ D.c.at_ = ((0 + l.length : Nat) : Int) := by
        have this := h2
        rw [DecIs_none] at this
        rw [if_pos h0] at this
        exact this
      have h1' : v.q = [] ++ q ++ (endM m).2.1 ∧ v.e = (endM m).2.2 ∧ (v.e ≠ 0 → v.place = L) := by
        have : if decide (B < 0) = true then _ else _ := h1
        rw [if_pos (decide_eq_true h0)] at this
        exact this
      obtain ⟨k1, k2, k3⟩ := h2'
      obtain ⟨g1, g2, g3⟩ := h1'
      rw [if_pos h0] at hL
      refine ⟨by rw [g1, k1, e3], ?_⟩
      unfold finT
      rw [if_neg (by omega), k2, k3, Nat.zero_add]
      by_cases hv : v.e = 0
      · rw [if_neg (by simp [hv]), ← g2, hv, g0, hL]
      · rw [if_pos hv, g3 hv, g2, hL]
    · have h2' : D.c.q = DS.new.c.q ++ q ∧ D.c.err = 3 ∧ D.c.at_ = B := by
        have this := h2
        rw [DecIs_none] at this
        rw [if_neg h0] at this
        exact this
      have h1' : v.q = [] ++ q ∧ (v.e = 0 ∨ v.place = L) := by
        have : if decide (B < 0) = true then _ else _ := h1
        rw [if_neg (by rw [decide_eq_true_eq]; exact h0)] at this
        exact this
      obtain ⟨k1, k2, k3⟩ := h2'
      obtain ⟨g1, g2⟩ := h1'
      rw [if_neg h0] at hL
      refine ⟨by rw [g1, k1, e3], ?_⟩
      unfold finT
      rw [if_pos ⟨by omega, by rcases g2 with g | g; exact .inl g; exact .inr (by omega)⟩, k2, k3]
end Go.Proofs.Ytalaedpiimdcbaa.Tx

namespace Go.Proofs.Ytalaedpiimdcbaa.Tx
open Go Go.Lib Go.RowKit Go.Proofs.YtalaedpiimdcbaaW.PrintWords Go.Proofs.YtalaedpiimdcbaaW.PrintLast Go.Proofs.Ytalaedpiimdcbaa.Own Go.Proofs.Ytalaedpiimdcbaa.Hp Go.Proofs.Ytalaedpiimdcbaa.Cr Go.Proofs.Ytalaedpiimdcbaa.Dl Go.Proofs.Ytalaedpiimdcbaa.PDelimSpec
set_option linter.unusedVariables false
set_option linter.unusedSimpArgs false
theorem bs_take (l : List UInt8) (n : Nat) : (bs l).extract 0 n = bs (l.take n) := by
  apply ByteArray.ext
  apply Array.ext'
  show ((bs l).extract 0 n).data.toList = _
  rw [extract_mid, bs_list, bs_list, List.drop_zero, Nat.sub_zero]
set_option maxHeartbeats 8000000 in
set_option maxRecDepth 100000 in
theorem begin_calls (l : List UInt8) (hl : l.length ≤ 1000000) (w : World) :
    Calls Try.prog 26 #[.string (bs l)] w fun e w' => ∃ g, e = .returned (.tuple #[.pointer (some ⟨g, 0, none⟩), .int .i64 (scanBad l (0, 128, 191) 0)]) ∧ TAt (fun k => w.heap.size ≤ k) w' g (begT l) ∧ Below w.heap.size w w' := by
  have hin := scanBad_in l (0, 128, 191) 0
  have hb : begT l = ⟨headB l (scanBad l (0, 128, 191) 0) 0, 0, decide (scanBad l (0, 128, 191) 0 < 0), [], 0, 0⟩ := rfl
  have HC := Aside0.mk (bad_bad (bs l) (by rw [bs_size]; exact hl) w)
  rw [bs_list] at HC
  generalize scanBad l (0, 128, 191) 0 = B at hin hb HC ⊢
  have hsz : (bs l).size = l.length := by show (l.toArray).size = _; simp
  have HL := Aside0.mk hl
  clear hl
  by_cases h0 : B < 0
  · have HT := Aside0.mk (show begT l = ⟨l, 0, true, [], 0, 0⟩ by rw [hb]; unfold headB; rw [if_pos h0, decide_eq_true h0])
    have hB : B = -1 := by omega
    subst hB
    clear hb hin h0
    go_enter Try.func26, Try.ntmps26
    go_wp2_with (first
      | (go_at_call 34; refine HC.out.mono ?_; rintro e w1 ⟨rfl, hb1⟩; have B1 := Aside0.mk hb1; clear hb1)
      | ((with_reducible refine gate_dst (N := 11) rfl ?_); refine box_event ?hg (N := 11) ?hd (cs := #[.string (bs l), .int .i64 0, .bool true, .slice none 0 0, .int .i64 0, .int .i64 0]) (t := 68) ?hr ?_; (case hd => rfl); (case hg => rfl); (case hr => first | (go_simp; done) | (go_simp; rfl)); intro g hg w2 hbox hb2; have HG := Aside0.mk hg; have HBX := Aside0.mk hbox; have B2 := Aside0.mk hb2; clear hg hbox hb2))
    go_ret2
    rw [HT.out]
    exact ⟨g, rfl, ⟨by have := HG.out; have := B1.out.size; omega, ⟨_, HBX.out, Row.nil _ _ _ _⟩, ⟨HL.out, Nat.zero_le _, Nat.zero_le _⟩⟩, B1.out.trans (B2.out.mono B1.out.size)⟩
  · have hb2 : 0 ≤ B ∧ B ≤ l.length := by omega
    have HT := Aside0.mk (show begT l = ⟨l.take B.toNat, 0, false, [], 0, 0⟩ by rw [hb]; unfold headB; rw [if_neg h0, decide_eq_false h0, show B - ((0 : Nat) : Int) = B from by omega])
    have HX := Aside0.mk (bs_take l B.toNat)
    have v1 : decide (B < 0) = false := decide_eq_false h0
    have y1 : 0 ≤ B := hb2.1
    have y2 : B ≤ (l.length : Int) := hb2.2
    clear hb hin h0 hb2
    go_enter Try.func26, Try.ntmps26
    go_wp2_with (first
      | (go_at_call 34; refine HC.out.mono ?_; rintro e w1 ⟨rfl, hb1⟩; have B1 := Aside0.mk hb1; clear hb1)
      | ((with_reducible refine gate_dst (N := 16) rfl ?_); refine box_event ?hg (N := 16) ?hd (cs := #[.string (bs (l.take B.toNat)), .int .i64 0, .bool false, .slice none 0 0, .int .i64 0, .int .i64 0]) (t := 68) ?hr ?_; (case hd => rfl); (case hg => rfl); (case hr => first | (rw [← HX.out]; go_simp; done) | (rw [← HX.out]; go_simp; rfl)); intro g hg w2 hbox hb2; have HG := Aside0.mk hg; have HBX := Aside0.mk hbox; have B2 := Aside0.mk hb2; clear hg hbox hb2))
    go_ret2
    rw [HT.out]
    exact ⟨g, rfl, ⟨by have := HG.out; have := B1.out.size; omega, ⟨_, HBX.out, Row.nil _ _ _ _⟩, ⟨by show (l.take B.toNat).length ≤ _; rw [List.length_take]; have := HL.out; omega, Nat.zero_le _, Nat.zero_le _⟩⟩, B1.out.trans (B2.out.mono B1.out.size)⟩
end Go.Proofs.Ytalaedpiimdcbaa.Tx

namespace Go.Proofs.Ytalaedpiimdcbaa.Tx
open Go Go.Lib Go.RowKit Go.Proofs.YtalaedpiimdcbaaW.PrintWords Go.Proofs.YtalaedpiimdcbaaW.PrintLast Go.Proofs.Ytalaedpiimdcbaa.Own Go.Proofs.Ytalaedpiimdcbaa.Hp Go.Proofs.Ytalaedpiimdcbaa.Cr Go.Proofs.Ytalaedpiimdcbaa.Dl Go.Proofs.Ytalaedpiimdcbaa.PDelimSpec
set_option linter.unusedVariables false
set_option linter.unusedSimpArgs false
theorem head_keeps : ∀ (k : Nat) (t : TX) (l : List ByteArray), k + l.length = 9 → t.at_ ≤ t.s.length → t.e = 0 → ∀ u names, headR k t l = (u, some names) →
    u.e = 0 ∧ u.s = t.s ∧ u.closed = t.closed ∧ u.q = t.q ∧ u.at_ ≤ t.s.length + 1 ∧ 1 ≤ names.length ∧ names.length ≤ 9 := by
  intro k
  induction k with
  | zero => intro t l _ _ _ u names h; rw [headR] at h; cases h
  | succ k ih =>
    intro t l hk ha he u names h
    have hc := cell_keeps ha he
    rw [headR] at h
    generalize cellC t = x at hc h
    obtain ⟨v, o⟩ := x
    cases o with
    | none => cases h
    | some y =>
      obtain ⟨h1, h2, h3, h4, h5⟩ := hc
      obtain ⟨h5, h6⟩ := h5 rfl
      simp only at h h1 h2 h3 h4 h5 h6
      by_cases c1 : hasL l (bs y) = true
      · rw [if_pos c1] at h; cases h
      rw [if_neg c1] at h
      by_cases c2 : isT v 44 = false
      · rw [if_pos c2] at h
        injection h with g1 g2
        injection g2 with g2
        subst g1; subst g2
        refine ⟨h5, h1, h2, h3, ?_, ?_, ?_⟩
        · show v.at_ + 1 ≤ _; omega
        · rw [List.length_append, List.length_singleton]; omega
        · rw [List.length_append, List.length_singleton]; omega
      · rw [if_neg c2] at h
        by_cases c3 : 8 ≤ (l ++ [bs y]).length
        · rw [if_pos c3] at h; cases h
        rw [if_neg c3] at h
        have c2' : isT v 44 = true := by simpa using c2
        have hlt := isT_at c2'
        have := ih v.next (l ++ [bs y]) (by rw [List.length_append, List.length_singleton]; omega) hlt h5 u names h
        obtain ⟨k1, k2, k3, k4, k5, k6, k7⟩ := this
        exact ⟨k1, k2.trans h1, k3.trans h2, k4.trans h3, by rw [show v.next.s = v.s from rfl, h1] at k5; exact k5, k6, k7⟩
def rOut (names : List ByteArray) (ok : Bool) (f : Nat) (u : TX) : TX × Bool := if ok = true then rowsR names f u else (u, false)
def cOut (names : List ByteArray) (ok : Bool) (f k : Nat) (u : TX) : TX × Bool := if ok = true then cellsR names f k u else (u, false)
theorem spec_head {t : TX} (hs : t.s ≠ []) {u : TX} {o : Option (List ByteArray)} (h : headR 9 (tellX t 5) [] = (u, o)) : specR t = finR (rOut (o.getD []) o.isSome (t.s.length + 2) u) := by
  unfold specR
  have hL : listX t = tellX t 5 := by unfold listX; rw [if_pos (.inl hs)]
  rw [if_neg hs, hL, h]
  cases o with
  | none => rfl
  | some names => rfl
/-- A row's cells, one of them read. -/
theorem cells_next {names : List ByteArray} {f k : Nat} {x u : TX} {y : List UInt8} (h : cellC x = (u, some y)) : cellsR names (f + 1) k x = if isT u 44 = decide (k + 1 < names.length) then cellsR names f (k + 1) (toldX u k names y).next else ((badT (toldX u k names y) 17 u.at_).next, false) := by
  rw [cellsR, h]
  simp only
  rw [isT_told]
  rfl
theorem cells_none {names : List ByteArray} {f k : Nat} {x u : TX} (h : cellC x = (u, none)) : cellsR names (f + 1) k x = (u, false) := by
  rw [cellsR, h]
theorem rows_next {names : List ByteArray} {f : Nat} {u : TX} (h : u.at_ < u.s.length) {x : TX} {ok : Bool} (hx : cellsR names names.length 0 u = (x, ok)) : rowsR names (f + 1) u = rOut names ok f (if ok = true then tellX x 9 else x) := by
  rw [rowsR, if_pos h, hx]
  cases ok <;> rfl
theorem TAt.tell {F : Nat → Prop} {w : World} {g : Nat} {t : TX} (k : Int) (s : ByteArray) (h : TAt F w g t) (hq : t.q.length < 1000000) (hF : ∀ k, w.heap.size ≤ k → F k) :
    Calls Try.prog 27 #[.pointer (some ⟨g, 0, none⟩), .int .i64 k, .string s] w fun en w' => en = .returned (.tuple #[]) ∧ TAt F w' g { t with q := t.q ++ [ev k s] } ∧ Ch txT F w w' :=
  (tellT_calls k s h hq).mono fun e w' ⟨h1, h2, h3⟩ => ⟨h1, h2.mono (fun k hk => hk.elim id (hF k)), h3⟩
theorem nil_bs {l : List UInt8} (h : l ≠ []) : ¬ (bs l).toList = (⟨#[]⟩ : ByteArray).toList := ne_txt (fun e => h (by
  have := congrArg (fun b : ByteArray => b.data.toList) e
  simpa [bs] using this))
set_option maxHeartbeats 64000000 in
set_option maxRecDepth 100000 in
theorem spec_calls (l : List UInt8) (hl : l.length ≤ 600) (w : World) :
    Calls Try.prog 17 #[.string (bs l)] w fun e w' => ∃ v, e = .returned (.tuple #[v, .int .i64 (finT (specR (begT l)) (scanBad l (0, 128, 191) 0)).1, .int .i64 (finT (specR (begT l)) (scanBad l (0, 128, 191) 0)).2]) ∧ Row (fun k => w.heap.size ≤ k) w' 50 3 v (specR (begT l)).q.length (evCs (specR (begT l)).q) ∧ Below w.heap.size w w' := by
  have HBG := Aside0.mk (begin_calls l (by omega) w)
  have hin := scanBad_in l (0, 128, 191) 0
  have hcl : (begT l).closed = decide (scanBad l (0, 128, 191) 0 < 0) := rfl
  have hsl : (begT l).s.length ≤ 600 := by
    show (headB l _ 0).length ≤ 600
    unfold headB
    split
    · exact hl
    · rw [List.length_take]; omega
  have hq0 : (begT l).q = [] := rfl
  have he0 : (begT l).e = 0 := rfl
  have ha0 : (begT l).at_ = 0 := rfl
  generalize scanBad l (0, 128, 191) 0 = B at hin hcl HBG ⊢
  have HBD := Aside0.mk (show B = -1 ∨ (0 ≤ B ∧ B ≤ 1000000) by rcases hin with h | h; exact .inl h; exact .inr (by omega))
  generalize begT l = t at hcl hsl hq0 he0 ha0 HBG ⊢
  have HCL := Aside0.mk hcl
  have HSL := Aside0.mk hsl
  have HQ0 := Aside0.mk hq0
  have HE0 := Aside0.mk he0
  have HA0 := Aside0.mk ha0
  clear hin hcl hsl hq0 he0 ha0 hl
  by_cases hs : t.s = []
  · have hemp : bs t.s = ⟨#[]⟩ := by rw [hs]; rfl
    have HEMP := Aside0.mk hemp
    have hq1 : (bs t.s).toList = [] := by rw [ByteArray.toList_eq, bs_list, hs]
    have hq2 : (bs t.s).toList.isEmpty = true := by rw [hq1]; rfl
    by_cases hb : B < 0
    · have HSP := Aside0.mk (show specR t = tellX (tellX t 5) 6 by
        unfold specR
        have hc : t.closed = true := by rw [HCL.out]; exact decide_eq_true hb
        rw [if_pos hs]; unfold listX; rw [if_pos (.inr hc)]; unfold endX; rw [if_pos (by exact hc)])
      have v1 : decide (B < 0) = true := decide_eq_true hb
      clear hs hemp hb
      go_enter Try.func17, Try.ntmps17
      go_wp2_with (first
        | (go_at_call 26; refine HBG.out.mono ?_; rintro e w1 ⟨g, rfl, ht, hb1⟩; have T1 := Aside0.mk ht; have B1 := Aside0.mk hb1; have c0 : w1.cell? ⟨g, 0, none⟩ = some (.string (bs t.s)) := ht.cells.1; clear ht hb1)
        | (go_at_call 27; refine (TAt.tell 5 ⟨#[]⟩ T1.out (by rw [HQ0.out, List.length_nil]; decide) (fun k hk => Nat.le_trans B1.out.size hk)).mono ?_; rintro e w2 ⟨rfl, ht, hc⟩; have T2 := Aside0.mk ht; have B2 := Aside0.mk (B1.out.trans (hc.below (B := w.heap.size) (fun _ h => h) B1.out.size)); clear c0; have c0 : w2.cell? ⟨g, 0, none⟩ = some (.string (bs t.s)) := ht.cells.1; clear ht hc T1 B1)
        | (go_at_call 27; refine (TAt.tell 6 ⟨#[]⟩ T2.out (by show (t.q ++ [_]).length < _; rw [HQ0.out, List.nil_append, List.length_singleton]; decide) (fun k hk => Nat.le_trans B2.out.size hk)).mono ?_; rintro e w3 ⟨rfl, ht, hc⟩; have T3 := Aside0.mk (show TAt _ _ _ (specR t) by rw [HSP.out]; exact ht); have B3 := Aside0.mk (B2.out.trans (hc.below (B := w.heap.size) (fun _ h => h) B2.out.size)); clear ht hc c0 T2 B2)
        | (go_at_call 28; refine (fin_calls B T3.out HBD.out).mono ?_; rintro e w4 ⟨v, rfl, hr, hb4⟩; have R4 := Aside0.mk hr; have B4 := Aside0.mk hb4; clear hr hb4))
      go_ret3
      exact ⟨v, rfl, R4.out, B3.out.trans (B4.out.mono B3.out.size)⟩
    · have HSP := Aside0.mk (show specR t = t by
        unfold specR
        have hc : ¬ t.closed = true := by rw [HCL.out, decide_eq_true_eq]; exact hb
        rw [if_pos hs]; unfold listX; rw [if_neg (by intro h; rcases h with h | h; exact h hs; exact hc h)]; unfold endX; rw [if_neg hc])
      have v1 : decide (B < 0) = false := decide_eq_false hb
      clear hs hemp hb
      go_enter Try.func17, Try.ntmps17
      go_wp2_with (first
        | (go_at_call 26; refine HBG.out.mono ?_; rintro e w1 ⟨g, rfl, ht, hb1⟩; have T1 := Aside0.mk (show TAt _ _ _ (specR t) by rw [HSP.out]; exact ht); have B1 := Aside0.mk hb1; have c0 : w1.cell? ⟨g, 0, none⟩ = some (.string (bs t.s)) := ht.cells.1; clear ht hb1)
        | (go_at_call 28; refine (fin_calls B T1.out HBD.out).mono ?_; rintro e w4 ⟨v, rfl, hr, hb4⟩; have R4 := Aside0.mk hr; have B4 := Aside0.mk hb4; clear hr hb4))
      go_ret3
      exact ⟨v, rfl, R4.out, B1.out.trans (B4.out.mono B1.out.size)⟩
  · have HS := Aside0.mk hs
    have hq1 : ¬ (bs t.s).toList = [] := fun e => hs (by rw [ByteArray.toList_eq, bs_list] at e; exact e)
    have hq2 : (bs t.s).toList.isEmpty = false := by rw [← Bool.not_eq_true, List.isEmpty_iff]; exact hq1
    have hq3 : decide ((bs t.s).toList = []) = false := decide_eq_false hq1
    obtain ⟨⟨u0, o0⟩, hh⟩ : ∃ r, headR 9 (tellX t 5) [] = r := ⟨_, rfl⟩
    have HSP := Aside0.mk (spec_head hs hh)
    have HKP := Aside0.mk (head_keeps 9 (tellX t 5) [] rfl (by show t.at_ ≤ _; rw [HA0.out]; exact Nat.zero_le _) HE0.out)
    have HH := Aside0.mk hh
    obtain ⟨ok0, hok0⟩ : ∃ b, o0.isSome = b := ⟨_, rfl⟩
    obtain ⟨names, hnames⟩ : ∃ b, o0.getD [] = b := ⟨_, rfl⟩
    rw [hok0, hnames] at HSP
    have HSO := Aside0.mk (show ok0 = true → o0 = some names by
      intro h
      cases o0 with
      | none => rw [← hok0] at h; cases h
      | some x => rw [← hnames]; rfl)
    have HOK := Aside0.mk hok0
    have hsz : (bs t.s).size = t.s.length := by show (t.s.toArray).size = _; simp
    clear hs hh hok0 hnames
    go_enter Try.func17, Try.ntmps17
    go_wp2_with (first
      | (go_at_call 26; refine HBG.out.mono ?_; rintro e w1 ⟨g, rfl, ht, hb1⟩; have T1 := Aside0.mk ht; have B1 := Aside0.mk hb1; have c0 : w1.cell? ⟨g, 0, none⟩ = some (.string (bs t.s)) := ht.cells.1; clear ht hb1)
      | (go_at_call 27; refine (TAt.tell 5 ⟨#[]⟩ T1.out (by rw [HQ0.out, List.length_nil]; decide) (fun k hk => Nat.le_trans B1.out.size hk)).mono ?_; rintro e w2 ⟨rfl, ht, hc⟩; have T2 := Aside0.mk (show TAt _ _ _ (tellX t 5) from ht); have B2 := Aside0.mk (B1.out.trans (hc.below (B := w.heap.size) (fun _ h => h) B1.out.size)); clear c0; have c0 : w2.cell? ⟨g, 0, none⟩ = some (.string (bs t.s)) := ht.cells.1; clear ht hc T1 B1)
      | (go_at_call 29; refine (head_calls T2.out (fun k hk => Nat.le_trans B2.out.size hk) (by show t.at_ ≤ _; rw [HA0.out]; exact Nat.zero_le _) HE0.out).mono ?_; rintro e w3 ⟨v7, rfl, hn, ht, hc⟩; rw [HH.out] at hn ht ⊢; rw [show (u0, o0).2.isSome = ok0 from HOK.out]; have T3 := Aside0.mk ht; have N3 := Aside0.mk (show ok0 = true → Row (fun k => w2.heap.size ≤ k) w3 9 1 v7 names.length (stC names) from fun h => hn names (HSO.out h)); have B3 := Aside0.mk (B2.out.trans (hc.below (B := w.heap.size) (fun _ h => h) B2.out.size)); clear ht hc hn c0 T2 B2))
    have HN9 := Aside0.mk (show ok0 = true → names.length ≤ 9 ∧ 1 ≤ names.length from fun h => by have := HKP.out u0 names (by rw [HH.out, HSO.out h]); exact ⟨this.2.2.2.2.2.2, this.2.2.2.2.2.1⟩)
    have HU0 := Aside0.mk (show ok0 = true → u0.e = 0 ∧ u0.s = t.s ∧ u0.closed = t.closed ∧ u0.at_ ≤ t.s.length + 1 ∧ u0.q.length ≤ 4 * u0.at_ + 1 from fun h => by
      have := HKP.out u0 names (by rw [HH.out, HSO.out h])
      refine ⟨this.1, this.2.1, this.2.2.1, this.2.2.2.2.1, ?_⟩
      rw [this.2.2.2.1]
      show (t.q ++ [_]).length ≤ _
      rw [HQ0.out, List.nil_append, List.length_singleton]
      omega)
    go_loopg [8] (t.s.length + 4) (fun gk v8 wr => ∃ (ok : Bool) (f : Nat) (u : TX), v8 = .bool ok ∧ Aside0 (specR t = finR (rOut names ok f u)) ∧ Aside0 (ok = true → u.e = 0 ∧ u.s = t.s ∧ u.closed = t.closed ∧ u.at_ ≤ t.s.length + 1 ∧ u.q.length ≤ 4 * u.at_ + 1 ∧ t.s.length + 1 - u.at_ < f ∧ f < gk ∧ ok0 = true) ∧ Aside0 (1 ≤ gk) ∧ Aside0 (TAt (fun k => w.heap.size ≤ k) wr g u) ∧ Aside0 (ok0 = true → Row (fun k => w2.heap.size ≤ k) wr 9 1 v7 names.length (stC names)) ∧ Aside0 (Below w.heap.size w wr))
    case atStart => exact ⟨ok0, t.s.length + 2, u0, rfl, HSP, ⟨fun h => by have := HU0.out h; exact ⟨this.1, this.2.1, this.2.2.1, this.2.2.2.1, this.2.2.2.2, by omega, by omega, h⟩⟩, ⟨by omega⟩, T3, N3, B3⟩
    case round =>
      obtain ⟨ok, f, u, rfl, P1, P2, P3, P4, P5, P6⟩ := hrel
      clear T3 N3 B3
      cases ok with
      | false =>
        have HSR := Aside0.mk (show specR t = u from P1.out)
        go_wp2
        go_quiet (fail)
        have D1 := Aside0.mk (pw_below_drewN (Below.refl wr.heap.size wr) nq)
        have T5 := Aside0.mk (show TAt _ _ _ (specR t) by rw [HSR.out]; exact P4.out.below D1.out)
        have B5 := Aside0.mk (P6.out.trans (D1.out.mono P6.out.size))
        generalize wr.drewN nq = w5 at D1 T5 B5 ⊢
        go_wp2_with (go_at_call 28; refine (fin_calls B T5.out HBD.out).mono ?_; rintro e w6 ⟨v, rfl, hr, hb4⟩; have R6 := Aside0.mk hr; have B6 := Aside0.mk hb4; clear hr hb4)
        go_ret3
        exact ⟨v, rfl, R6.out, B5.out.trans (B6.out.mono B5.out.size)⟩
      | true =>
        have hp2 := P2.out rfl
        have HOK0 := Aside0.mk hp2.2.2.2.2.2.2.2
        have N5 := Aside0.mk (P5.out HOK0.out)
        obtain ⟨c0, c1, _⟩ := P4.out.cells
        rw [hp2.2.1] at c0
        by_cases hlt : u.at_ < t.s.length
        · have t1 : decide ((u.at_ : Int) < (t.s.length : Int)) = true := decide_eq_true (by omega)
          have t2 : decide (u.at_ < t.s.length) = true := decide_eq_true hlt
          cases f with
          | zero => omega
          | succ f =>
          cases gk with
          | zero => omega
          | succ k1 =>
          have HLT := Aside0.mk hlt
          have HP2 := Aside0.mk hp2
          obtain ⟨Y, hY⟩ : ∃ Y, cellsR names names.length 0 u = Y := ⟨_, rfl⟩
          have HRN := Aside0.mk (show specR t = finR (rOut names Y.2 f (if Y.2 = true then tellX Y.1 9 else Y.1)) by rw [P1.out]; show finR (rowsR names (f + 1) u) = _; rw [rows_next (by rw [hp2.2.1]; exact hlt) (show cellsR names names.length 0 u = (Y.1, Y.2) from hY)])
          have HY := Aside0.mk hY
          clear hlt hp2 hY
          go_wp2
          go_quiet (fail)
          have D1 := Aside0.mk (pw_below_drewN (Below.refl wr.heap.size wr) nq)
          have T5 := Aside0.mk (P4.out.below D1.out)
          have N6 := Aside0.mk (N5.out.below D1.out)
          have B5 := Aside0.mk (P6.out.trans (D1.out.mono P6.out.size))
          clear c0 c1
          generalize wr.drewN nq = w5 at D1 T5 N6 B5 ⊢
          go_wp2
          go_loopg [8, 9] (names.length + 2) (fun gk v8 v9 wr2 => ∃ (ok : Bool) (k2 f2 : Nat) (x : TX), v8 = .bool ok ∧ v9 = .int .i64 k2 ∧ Aside0 (Y = cOut names ok f2 k2 x) ∧ Aside0 (ok = true → f2 + k2 = names.length ∧ x.e = 0 ∧ x.s = t.s ∧ x.closed = t.closed ∧ x.at_ ≤ t.s.length + 1 ∧ (k2 < names.length → x.at_ ≤ t.s.length) ∧ u.at_ + k2 ≤ x.at_ ∧ x.q.length ≤ 4 * x.at_ + (if k2 = 0 then 1 else 0) ∧ f2 < gk) ∧ Aside0 (1 ≤ gk ∧ k2 ≤ 10) ∧ Aside0 (TAt (fun k => w.heap.size ≤ k) wr2 g x) ∧ Aside0 (Row (fun k => w2.heap.size ≤ k) wr2 9 1 v7 names.length (stC names)) ∧ Aside0 (Below w.heap.size w wr2))
          case atStart =>
            have hp2 := HP2.out
            have hlt := HLT.out
            exact ⟨true, 0, names.length, u, rfl, rfl, ⟨HY.out.symm⟩, ⟨fun _ => ⟨rfl, hp2.1, hp2.2.1, hp2.2.2.1, hp2.2.2.2.1, fun _ => by omega, by omega, by rw [if_pos rfl]; exact hp2.2.2.2.2.1, by omega⟩⟩, ⟨by omega, by omega⟩, T5, N6, B5⟩
          case round =>
            obtain ⟨ok, k2, f2, x, rfl, rfl, Q1, Q2, Q3, Q4, Q5, Q6⟩ := hrel
            clear T5 N6 B5 D1
            cases ok with
            | false =>
              have HY2 := Aside0.mk (show Y = (x, false) from Q1.out)
              have HSR := Aside0.mk (show specR t = finR (rOut names false 0 x) by rw [HRN.out, HY2.out]; rfl)
              have hk1 := HP2.out.2.2.2.2.2.2.1
              have HK1 := Aside0.mk (show 1 ≤ k1 by omega)
              clear hk1
              obtain ⟨A7, c7, hv7, _, _⟩ := Q5.out.slice
              subst hv7
              have hk2 := Q3.out.2
              by_cases hk : k2 < names.length
              · have s1 : decide ((k2 : Int) < (names.length : Int)) = true := decide_eq_true (by omega)
                have s2 : decide (k2 < names.length) = true := decide_eq_true hk
                clear hk2 hk
                go_wp2
                go_roundg k1
                case measure => exact Nat.lt_succ_self _
                case rel => exact ⟨false, 0, x, rfl, HSR, ⟨fun h => by cases h⟩, HK1, Q4, ⟨fun _ => Q5.out⟩, Q6⟩
              · have s1 : decide ((k2 : Int) < (names.length : Int)) = false := decide_eq_false (by omega)
                have s2 : decide (k2 < names.length) = false := decide_eq_false hk
                clear hk2 hk
                go_wp2
                go_roundg k1
                case measure => exact Nat.lt_succ_self _
                case rel => exact ⟨false, 0, x, rfl, HSR, ⟨fun h => by cases h⟩, HK1, Q4, ⟨fun _ => Q5.out⟩, Q6⟩
            | true =>
              have hq := Q2.out rfl
              have HQ := Aside0.mk hq
              have HN9' := Aside0.mk (HN9.out HOK0.out)
              have hn9 := HN9'.out
              have HT9 := Aside0.mk (show x.q.length < 900000 by have h1 := hq.2.2.2.2.1; have h2 := hq.2.2.2.2.2.2.2.1; have h3 := HSL.out; split at h2 <;> omega)
              by_cases hk : k2 < names.length
              · have s1 : decide ((k2 : Int) < (names.length : Int)) = true := decide_eq_true (by omega)
                have s2 : decide (k2 < names.length) = true := decide_eq_true hk
                have y3 : (0 : Int) ≤ (k2 : Int) := by omega
                have y4 : (k2 : Int) < (names.length : Int) := by omega
                have HK := Aside0.mk hk
                have HCK := Aside0.mk (cell_keeps (t := x) (by rw [hq.2.2.1]; exact hq.2.2.2.2.2.1 hk) hq.2.1)
                cases f2 with
                | zero => omega
                | succ f2 =>
                cases gk with
                | zero => omega
                | succ g1 =>
                obtain ⟨⟨z, o⟩, hu⟩ : ∃ r, cellC x = r := ⟨_, rfl⟩
                have HU := Aside0.mk hu
                have HCZ := Aside0.mk (hu ▸ HCK.out)
                clear hu hk hn9 hq
                obtain ⟨A7, c7, hv7, _, _⟩ := Q5.out.slice
                subst hv7
                cases o with
                | none =>
                  have HSR := Aside0.mk (show specR t = finR (rOut names false 0 z) by
                    have hy : Y = (z, false) := by rw [Q1.out]; show cellsR names (f2 + 1) k2 x = _; exact cells_none HU.out
                    rw [HRN.out, hy]; rfl)
                  have hk1 := HP2.out.2.2.2.2.2.2.1
                  have HK1 := Aside0.mk (show 1 ≤ k1 by omega)
                  clear hk1
                  go_wp2_with (go_at_call 30; refine (cell_calls Q4.out (fun k hk => Nat.le_trans Q6.out.size hk)).mono ?_; rintro e w7 ⟨rfl, ht, hc⟩; rw [HU.out] at ht ⊢; have T7 := Aside0.mk ht; have N7 := Aside0.mk (Q5.out.ch hc (by unfold txT; decide)); have B7 := Aside0.mk (Q6.out.trans (hc.below (B := w.heap.size) (fun _ h => h) Q6.out.size)); clear ht hc)
                  go_roundg k1
                  case measure => exact Nat.lt_succ_self _
                  case rel => exact ⟨false, 0, z, rfl, HSR, ⟨fun h => by cases h⟩, HK1, T7, ⟨fun _ => N7.out⟩, B7⟩
                | some y =>
                  have HZ := Aside0.mk (show z.e = 0 ∧ z.s = t.s ∧ z.closed = t.closed ∧ z.q = x.q ∧ z.at_ ≤ t.s.length ∧ x.at_ ≤ z.at_ by
                    obtain ⟨h1, h2, h3, h4, h5⟩ := HCZ.out
                    obtain ⟨h5, h6⟩ := h5 rfl
                    have hq := HQ.out
                    exact ⟨h5, h1.trans hq.2.2.1, h2.trans hq.2.2.2.1, h3, by rw [hq.2.2.1] at h4; exact h4, h6⟩)
                  have HYN := Aside0.mk (show Y = if isT z 44 = decide (k2 + 1 < names.length) then cellsR names f2 (k2 + 1) (toldX z k2 names y).next else ((badT (toldX z k2 names y) 17 z.at_).next, false) by rw [Q1.out]; show cellsR names (f2 + 1) k2 x = _; exact cells_next HU.out)
                  have HNK := Aside0.mk (show names.getD k2 noT = names[k2]'HK.out by rw [List.getD_eq_getElem?_getD, List.getElem?_eq_getElem HK.out]; rfl)
                  have tw2 : wrap64 ((k2 : Int) + 1) = (k2 : Int) + 1 := w64 (by omega) (by have := Q3.out.2; omega)
                  generalize hnk : names[k2]'HK.out = nk at HNK
                  have HGET := Aside0.mk (show (stC names)[k2]? = some (.string nk) by rw [stC_get names k2 HK.out, hnk])
                  clear hnk
                  by_cases hk0 : k2 = 0
                  · cases hi : isT z 44 with
                    | true =>
                      by_cases hl1 : k2 + 1 < names.length
                      · have HFIN := Aside0.mk (show ({ z with q := z.q ++ [ev 7 ⟨#[]⟩] ++ [ev 8 nk] ++ [ev 4 (bs y)] } : TX) = toldX z k2 names y by unfold toldX; rw [HNK.out, if_pos hk0]; simp [noT])
                        have g1a : ((k2 : Int) == 0) = true := by rw [hk0]; rfl
                        have g2a : decide ((k2 : Int) = 0) = true := decide_eq_true (by omega)
                        have HK0 := Aside0.mk hk0
                        clear hk0
                        have HIT := Aside0.mk (show isT (toldX z k2 names y) 44 = true from hi)
                        have HYC := Aside0.mk (show Y = cOut names true f2 (k2 + 1) (toldX z k2 names y).next by rw [HYN.out, if_pos (by rw [hi]; exact (decide_eq_true hl1).symm)]; rfl)
                        have HIZ := Aside0.mk hi
                        have HL1 := Aside0.mk hl1
                        have z3 : decide (((k2 : Int) : Int) + 1 < (names.length : Int)) = true := decide_eq_true (by omega)
                        have z4 : decide (k2 + 1 < names.length) = true := decide_eq_true hl1
                        clear hi hl1
                        go_wp2_with (first
                          | (go_at_call 30; refine (cell_calls Q4.out (fun k hk => Nat.le_trans Q6.out.size hk)).mono ?_; rintro e w7 ⟨rfl, ht, hc⟩; rw [HU.out] at ht ⊢; have T7 := Aside0.mk ht; have N7 := Aside0.mk (Q5.out.ch hc (by unfold txT; decide)); have B7 := Aside0.mk (Q6.out.trans (hc.below (B := w.heap.size) (fun _ h => h) Q6.out.size)); have hsq : z.q.length < 900000 := Nat.lt_of_le_of_lt (Nat.le_of_eq (congrArg List.length HZ.out.2.2.2.1)) HT9.out; have HSQ := Aside0.mk hsq; clear ht hc hsq)
                          | (go_at_call 27; refine (TAt.tell 7 ⟨#[]⟩ T7.out (by have := HSQ.out; omega) (fun k hk => Nat.le_trans B7.out.size hk)).mono ?_; rintro e w8 ⟨rfl, ht, hc⟩; have T8 := Aside0.mk ht; have N8 := Aside0.mk (N7.out.ch hc (by unfold txT; decide)); have B8 := Aside0.mk (B7.out.trans (hc.below (B := w.heap.size) (fun _ h => h) B7.out.size)); obtain ⟨b, oo, cc, hv, _, _, hcell, _⟩ := N8.out.open_ (by have := HK.out; omega); injection hv with e1 e2 e3; subst e1; subst e3; clear e2; have x0 := hcell _ _ HGET.out; clear hcell; clear ht hc T7 N7 B7)
                          | (go_at_call 27; refine (TAt.tell 8 nk T8.out (by have := HSQ.out; show (z.q ++ [_]).length < _; simp only [List.length_append, List.length_singleton]; omega) (fun k hk => Nat.le_trans B8.out.size hk)).mono ?_; rintro e w9 ⟨rfl, ht, hc⟩; have T9 := Aside0.mk ht; have N9 := Aside0.mk (N8.out.ch hc (by unfold txT; decide)); have B9 := Aside0.mk (B8.out.trans (hc.below (B := w.heap.size) (fun _ h => h) B8.out.size)); clear ht hc x0 T8 N8 B8)
                          | (go_at_call 27; refine (TAt.tell 4 (bs y) T9.out (by have := HSQ.out; show (z.q ++ [_] ++ [_]).length < _; simp only [List.length_append, List.length_singleton]; omega) (fun k hk => Nat.le_trans B9.out.size hk)).mono ?_; rintro e w10 ⟨rfl, ht, hc⟩; have T10 := Aside0.mk ht; have N10 := Aside0.mk (N9.out.ch hc (by unfold txT; decide)); have B10 := Aside0.mk (B9.out.trans (hc.below (B := w.heap.size) (fun _ h => h) B9.out.size)); have hfin : ({ z with q := z.q ++ [ev 7 ⟨#[]⟩] ++ [ev 8 nk] ++ [ev 4 (bs y)] } : TX) = toldX z k2 names y := HFIN.out; rw [hfin] at ht; clear T10 hfin; have T10 := Aside0.mk ht; clear ht hc T9 N9 B9)
                          | (go_at_call 31; refine (is_q 44 _ rfl T10.out HIT.out).mono ?_; rintro e w11 ⟨rfl, n11, rfl⟩; have D11 := Aside0.mk (pw_below_drewN (Below.refl w10.heap.size w10) n11); have T11 := Aside0.mk (T10.out.below D11.out); have N11 := Aside0.mk (N10.out.below D11.out); have B11 := Aside0.mk (B10.out.trans (D11.out.mono B10.out.size)); generalize w10.drewN n11 = w11 at D11 T11 N11 B11 ⊢; have k1c : w11.cell? ⟨g, 1, none⟩ = some (.int .i64 z.at_) := T11.out.cells.2.1; have tw : wrap64 ((z.at_ : Int) + 1) = (z.at_ : Int) + 1 := w64 (by omega) (by have := HZ.out.2.2.2.2.1; have := HSL.out; omega); have f1 := blk_frozen T11.out.core.choose_spec.1 1))
                        go_roundg g1
                        case measure => exact Nat.lt_succ_self _
                        case rel =>
                          have hz := HZ.out
                          have hq := HQ.out
                          have hk2 := Q3.out.2
                          have hHK := HK.out
                          have hHL := HL1.out
                          have hn9 := HN9'.out
                          have hsl := HSL.out
                          obtain ⟨q1, q2⟩ := T11.out.step2 (by show z.at_ < _; omega)
                          have hla := isT_at HIZ.out
                          rw [hz.2.1] at hla
                          refine ⟨true, k2 + 1, f2, (toldX z k2 names y).next, rfl, by go_num, HYC, ⟨fun _ => ⟨by omega, hz.1, hz.2.1, hz.2.2.1, by show z.at_ + 1 ≤ _; omega, fun hx => by show z.at_ + 1 ≤ _; omega, by show _ ≤ z.at_ + 1; omega, ?_, by omega⟩⟩, ⟨by omega, by omega⟩, ⟨q1⟩, ⟨N11.out.ch q2 (by unfold txT; decide)⟩, ⟨B11.out.trans (q2.below (B := w.heap.size) (fun _ h => h) B11.out.size)⟩⟩
                          rw [if_neg (Nat.succ_ne_zero _)]
                          show (toldX z k2 names y).q.length ≤ 4 * (z.at_ + 1) + 0
                          rw [← HFIN.out]
                          have hqb := hq.2.2.2.2.2.2.2.1
                          have hqe := hz.2.2.2.1
                          rw [if_pos HK0.out] at hqb
                          simp only [List.length_append, List.length_singleton, hqe]
                          omega
                      · have HFIN := Aside0.mk (show ({ z with q := z.q ++ [ev 7 ⟨#[]⟩] ++ [ev 8 nk] ++ [ev 4 (bs y)] } : TX) = toldX z k2 names y by unfold toldX; rw [HNK.out, if_pos hk0]; simp [noT])
                        have g1a : ((k2 : Int) == 0) = true := by rw [hk0]; rfl
                        have g2a : decide ((k2 : Int) = 0) = true := decide_eq_true (by omega)
                        have HK0 := Aside0.mk hk0
                        clear hk0
                        have HIT := Aside0.mk (show isT (toldX z k2 names y) 44 = true from hi)
                        have HYC := Aside0.mk (show Y = cOut names false 0 (k2 + 1) (badT (toldX z k2 names y) 17 z.at_).next by rw [HYN.out, if_neg (by rw [hi, decide_eq_false hl1]; decide)]; rfl)
                        have HIZ := Aside0.mk hi
                        have HL1 := Aside0.mk hl1
                        have z3 : decide (((k2 : Int) : Int) + 1 < (names.length : Int)) = false := decide_eq_false (by omega)
                        have z4 : decide (k2 + 1 < names.length) = false := decide_eq_false hl1
                        clear hi hl1
                        go_wp2_with (first
                          | (go_at_call 30; refine (cell_calls Q4.out (fun k hk => Nat.le_trans Q6.out.size hk)).mono ?_; rintro e w7 ⟨rfl, ht, hc⟩; rw [HU.out] at ht ⊢; have T7 := Aside0.mk ht; have N7 := Aside0.mk (Q5.out.ch hc (by unfold txT; decide)); have B7 := Aside0.mk (Q6.out.trans (hc.below (B := w.heap.size) (fun _ h => h) Q6.out.size)); have hsq : z.q.length < 900000 := Nat.lt_of_le_of_lt (Nat.le_of_eq (congrArg List.length HZ.out.2.2.2.1)) HT9.out; have HSQ := Aside0.mk hsq; clear ht hc hsq)
                          | (go_at_call 27; refine (TAt.tell 7 ⟨#[]⟩ T7.out (by have := HSQ.out; omega) (fun k hk => Nat.le_trans B7.out.size hk)).mono ?_; rintro e w8 ⟨rfl, ht, hc⟩; have T8 := Aside0.mk ht; have N8 := Aside0.mk (N7.out.ch hc (by unfold txT; decide)); have B8 := Aside0.mk (B7.out.trans (hc.below (B := w.heap.size) (fun _ h => h) B7.out.size)); obtain ⟨b, oo, cc, hv, _, _, hcell, _⟩ := N8.out.open_ (by have := HK.out; omega); injection hv with e1 e2 e3; subst e1; subst e3; clear e2; have x0 := hcell _ _ HGET.out; clear hcell; clear ht hc T7 N7 B7)
                          | (go_at_call 27; refine (TAt.tell 8 nk T8.out (by have := HSQ.out; show (z.q ++ [_]).length < _; simp only [List.length_append, List.length_singleton]; omega) (fun k hk => Nat.le_trans B8.out.size hk)).mono ?_; rintro e w9 ⟨rfl, ht, hc⟩; have T9 := Aside0.mk ht; have N9 := Aside0.mk (N8.out.ch hc (by unfold txT; decide)); have B9 := Aside0.mk (B8.out.trans (hc.below (B := w.heap.size) (fun _ h => h) B8.out.size)); clear ht hc x0 T8 N8 B8)
                          | (go_at_call 27; refine (TAt.tell 4 (bs y) T9.out (by have := HSQ.out; show (z.q ++ [_] ++ [_]).length < _; simp only [List.length_append, List.length_singleton]; omega) (fun k hk => Nat.le_trans B9.out.size hk)).mono ?_; rintro e w10 ⟨rfl, ht, hc⟩; have T10 := Aside0.mk ht; have N10 := Aside0.mk (N9.out.ch hc (by unfold txT; decide)); have B10 := Aside0.mk (B9.out.trans (hc.below (B := w.heap.size) (fun _ h => h) B9.out.size)); have hfin : ({ z with q := z.q ++ [ev 7 ⟨#[]⟩] ++ [ev 8 nk] ++ [ev 4 (bs y)] } : TX) = toldX z k2 names y := HFIN.out; rw [hfin] at ht; clear T10 hfin; have T10 := Aside0.mk ht; clear ht hc T9 N9 B9)
                          | (go_at_call 31; refine (is_q 44 _ rfl T10.out HIT.out).mono ?_; rintro e w11 ⟨rfl, n11, rfl⟩; have D11 := Aside0.mk (pw_below_drewN (Below.refl w10.heap.size w10) n11); have T11 := Aside0.mk (T10.out.below D11.out); have N11 := Aside0.mk (N10.out.below D11.out); have B11 := Aside0.mk (B10.out.trans (D11.out.mono B10.out.size)); generalize w10.drewN n11 = w11 at D11 T11 N11 B11 ⊢; have k1c : w11.cell? ⟨g, 1, none⟩ = some (.int .i64 z.at_) := T11.out.cells.2.1; have tw : wrap64 ((z.at_ : Int) + 1) = (z.at_ : Int) + 1 := w64 (by omega) (by have := HZ.out.2.2.2.2.1; have := HSL.out; omega); have f1 := blk_frozen T11.out.core.choose_spec.1 1)
                          | (go_at_call 32; refine (bad_calls 17 z.at_ T11.out).mono ?_; rintro e w12 ⟨rfl, ht, hc⟩; have T12 := Aside0.mk ht; have N12 := Aside0.mk (N11.out.ch hc (by unfold txT; decide)); have B12 := Aside0.mk (B11.out.trans (hc.below (B := w.heap.size) (fun _ h => h) B11.out.size)); have HAB := Aside0.mk (show (badT (toldX z k2 names y) 17 z.at_).at_ = z.at_ by unfold badT; split <;> rfl); clear k1c f1; have k1c : w12.cell? ⟨g, 1, none⟩ = some (.int .i64 z.at_) := ht.cells.2.1.trans (by rw [HAB.out]); have f1 := blk_frozen ht.core.choose_spec.1 1; clear ht hc))
                        go_roundg g1
                        case measure => exact Nat.lt_succ_self _
                        case rel =>
                          have hz := HZ.out
                          have hq := HQ.out
                          have hk2 := Q3.out.2
                          have hHK := HK.out
                          have hHL := HL1.out
                          have hn9 := HN9'.out
                          have hsl := HSL.out
                          obtain ⟨q1, q2⟩ := T12.out.step2 (by rw [HAB.out]; omega)
                          rw [HAB.out] at q1 q2
                          exact ⟨false, k2 + 1, 0, (badT (toldX z k2 names y) 17 z.at_).next, rfl, by go_num, HYC, ⟨fun h => by cases h⟩, ⟨by omega, by omega⟩, ⟨q1⟩, ⟨N12.out.ch q2 (by unfold txT; decide)⟩, ⟨B12.out.trans (q2.below (B := w.heap.size) (fun _ h => h) B12.out.size)⟩⟩
                    | false =>
                      by_cases hl1 : k2 + 1 < names.length
                      · have HFIN := Aside0.mk (show ({ z with q := z.q ++ [ev 7 ⟨#[]⟩] ++ [ev 8 nk] ++ [ev 4 (bs y)] } : TX) = toldX z k2 names y by unfold toldX; rw [HNK.out, if_pos hk0]; simp [noT])
                        have g1a : ((k2 : Int) == 0) = true := by rw [hk0]; rfl
                        have g2a : decide ((k2 : Int) = 0) = true := decide_eq_true (by omega)
                        have HK0 := Aside0.mk hk0
                        clear hk0
                        have HIT := Aside0.mk (show isT (toldX z k2 names y) 44 = false from hi)
                        have HYC := Aside0.mk (show Y = cOut names false 0 (k2 + 1) (badT (toldX z k2 names y) 17 z.at_).next by rw [HYN.out, if_neg (by rw [hi, decide_eq_true hl1]; decide)]; rfl)
                        have HIZ := Aside0.mk hi
                        have HL1 := Aside0.mk hl1
                        have z3 : decide (((k2 : Int) : Int) + 1 < (names.length : Int)) = true := decide_eq_true (by omega)
                        have z4 : decide (k2 + 1 < names.length) = true := decide_eq_true hl1
                        clear hi hl1
                        go_wp2_with (first
                          | (go_at_call 30; refine (cell_calls Q4.out (fun k hk => Nat.le_trans Q6.out.size hk)).mono ?_; rintro e w7 ⟨rfl, ht, hc⟩; rw [HU.out] at ht ⊢; have T7 := Aside0.mk ht; have N7 := Aside0.mk (Q5.out.ch hc (by unfold txT; decide)); have B7 := Aside0.mk (Q6.out.trans (hc.below (B := w.heap.size) (fun _ h => h) Q6.out.size)); have hsq : z.q.length < 900000 := Nat.lt_of_le_of_lt (Nat.le_of_eq (congrArg List.length HZ.out.2.2.2.1)) HT9.out; have HSQ := Aside0.mk hsq; clear ht hc hsq)
                          | (go_at_call 27; refine (TAt.tell 7 ⟨#[]⟩ T7.out (by have := HSQ.out; omega) (fun k hk => Nat.le_trans B7.out.size hk)).mono ?_; rintro e w8 ⟨rfl, ht, hc⟩; have T8 := Aside0.mk ht; have N8 := Aside0.mk (N7.out.ch hc (by unfold txT; decide)); have B8 := Aside0.mk (B7.out.trans (hc.below (B := w.heap.size) (fun _ h => h) B7.out.size)); obtain ⟨b, oo, cc, hv, _, _, hcell, _⟩ := N8.out.open_ (by have := HK.out; omega); injection hv with e1 e2 e3; subst e1; subst e3; clear e2; have x0 := hcell _ _ HGET.out; clear hcell; clear ht hc T7 N7 B7)
                          | (go_at_call 27; refine (TAt.tell 8 nk T8.out (by have := HSQ.out; show (z.q ++ [_]).length < _; simp only [List.length_append, List.length_singleton]; omega) (fun k hk => Nat.le_trans B8.out.size hk)).mono ?_; rintro e w9 ⟨rfl, ht, hc⟩; have T9 := Aside0.mk ht; have N9 := Aside0.mk (N8.out.ch hc (by unfold txT; decide)); have B9 := Aside0.mk (B8.out.trans (hc.below (B := w.heap.size) (fun _ h => h) B8.out.size)); clear ht hc x0 T8 N8 B8)
                          | (go_at_call 27; refine (TAt.tell 4 (bs y) T9.out (by have := HSQ.out; show (z.q ++ [_] ++ [_]).length < _; simp only [List.length_append, List.length_singleton]; omega) (fun k hk => Nat.le_trans B9.out.size hk)).mono ?_; rintro e w10 ⟨rfl, ht, hc⟩; have T10 := Aside0.mk ht; have N10 := Aside0.mk (N9.out.ch hc (by unfold txT; decide)); have B10 := Aside0.mk (B9.out.trans (hc.below (B := w.heap.size) (fun _ h => h) B9.out.size)); have hfin : ({ z with q := z.q ++ [ev 7 ⟨#[]⟩] ++ [ev 8 nk] ++ [ev 4 (bs y)] } : TX) = toldX z k2 names y := HFIN.out; rw [hfin] at ht; clear T10 hfin; have T10 := Aside0.mk ht; clear ht hc T9 N9 B9)
                          | (go_at_call 31; refine (is_q 44 _ rfl T10.out HIT.out).mono ?_; rintro e w11 ⟨rfl, n11, rfl⟩; have D11 := Aside0.mk (pw_below_drewN (Below.refl w10.heap.size w10) n11); have T11 := Aside0.mk (T10.out.below D11.out); have N11 := Aside0.mk (N10.out.below D11.out); have B11 := Aside0.mk (B10.out.trans (D11.out.mono B10.out.size)); generalize w10.drewN n11 = w11 at D11 T11 N11 B11 ⊢; have k1c : w11.cell? ⟨g, 1, none⟩ = some (.int .i64 z.at_) := T11.out.cells.2.1; have tw : wrap64 ((z.at_ : Int) + 1) = (z.at_ : Int) + 1 := w64 (by omega) (by have := HZ.out.2.2.2.2.1; have := HSL.out; omega); have f1 := blk_frozen T11.out.core.choose_spec.1 1)
                          | (go_at_call 32; refine (bad_calls 17 z.at_ T11.out).mono ?_; rintro e w12 ⟨rfl, ht, hc⟩; have T12 := Aside0.mk ht; have N12 := Aside0.mk (N11.out.ch hc (by unfold txT; decide)); have B12 := Aside0.mk (B11.out.trans (hc.below (B := w.heap.size) (fun _ h => h) B11.out.size)); have HAB := Aside0.mk (show (badT (toldX z k2 names y) 17 z.at_).at_ = z.at_ by unfold badT; split <;> rfl); clear k1c f1; have k1c : w12.cell? ⟨g, 1, none⟩ = some (.int .i64 z.at_) := ht.cells.2.1.trans (by rw [HAB.out]); have f1 := blk_frozen ht.core.choose_spec.1 1; clear ht hc))
                        go_roundg g1
                        case measure => exact Nat.lt_succ_self _
                        case rel =>
                          have hz := HZ.out
                          have hq := HQ.out
                          have hk2 := Q3.out.2
                          have hHK := HK.out
                          have hHL := HL1.out
                          have hn9 := HN9'.out
                          have hsl := HSL.out
                          obtain ⟨q1, q2⟩ := T12.out.step2 (by rw [HAB.out]; omega)
                          rw [HAB.out] at q1 q2
                          exact ⟨false, k2 + 1, 0, (badT (toldX z k2 names y) 17 z.at_).next, rfl, by go_num, HYC, ⟨fun h => by cases h⟩, ⟨by omega, by omega⟩, ⟨q1⟩, ⟨N12.out.ch q2 (by unfold txT; decide)⟩, ⟨B12.out.trans (q2.below (B := w.heap.size) (fun _ h => h) B12.out.size)⟩⟩
                      · have HFIN := Aside0.mk (show ({ z with q := z.q ++ [ev 7 ⟨#[]⟩] ++ [ev 8 nk] ++ [ev 4 (bs y)] } : TX) = toldX z k2 names y by unfold toldX; rw [HNK.out, if_pos hk0]; simp [noT])
                        have g1a : ((k2 : Int) == 0) = true := by rw [hk0]; rfl
                        have g2a : decide ((k2 : Int) = 0) = true := decide_eq_true (by omega)
                        have HK0 := Aside0.mk hk0
                        clear hk0
                        have HIT := Aside0.mk (show isT (toldX z k2 names y) 44 = false from hi)
                        have HYC := Aside0.mk (show Y = cOut names true f2 (k2 + 1) (toldX z k2 names y).next by rw [HYN.out, if_pos (by rw [hi]; exact (decide_eq_false hl1).symm)]; rfl)
                        have HIZ := Aside0.mk hi
                        have HL1 := Aside0.mk hl1
                        have z3 : decide (((k2 : Int) : Int) + 1 < (names.length : Int)) = false := decide_eq_false (by omega)
                        have z4 : decide (k2 + 1 < names.length) = false := decide_eq_false hl1
                        clear hi hl1
                        go_wp2_with (first
                          | (go_at_call 30; refine (cell_calls Q4.out (fun k hk => Nat.le_trans Q6.out.size hk)).mono ?_; rintro e w7 ⟨rfl, ht, hc⟩; rw [HU.out] at ht ⊢; have T7 := Aside0.mk ht; have N7 := Aside0.mk (Q5.out.ch hc (by unfold txT; decide)); have B7 := Aside0.mk (Q6.out.trans (hc.below (B := w.heap.size) (fun _ h => h) Q6.out.size)); have hsq : z.q.length < 900000 := Nat.lt_of_le_of_lt (Nat.le_of_eq (congrArg List.length HZ.out.2.2.2.1)) HT9.out; have HSQ := Aside0.mk hsq; clear ht hc hsq)
                          | (go_at_call 27; refine (TAt.tell 7 ⟨#[]⟩ T7.out (by have := HSQ.out; omega) (fun k hk => Nat.le_trans B7.out.size hk)).mono ?_; rintro e w8 ⟨rfl, ht, hc⟩; have T8 := Aside0.mk ht; have N8 := Aside0.mk (N7.out.ch hc (by unfold txT; decide)); have B8 := Aside0.mk (B7.out.trans (hc.below (B := w.heap.size) (fun _ h => h) B7.out.size)); obtain ⟨b, oo, cc, hv, _, _, hcell, _⟩ := N8.out.open_ (by have := HK.out; omega); injection hv with e1 e2 e3; subst e1; subst e3; clear e2; have x0 := hcell _ _ HGET.out; clear hcell; clear ht hc T7 N7 B7)
                          | (go_at_call 27; refine (TAt.tell 8 nk T8.out (by have := HSQ.out; show (z.q ++ [_]).length < _; simp only [List.length_append, List.length_singleton]; omega) (fun k hk => Nat.le_trans B8.out.size hk)).mono ?_; rintro e w9 ⟨rfl, ht, hc⟩; have T9 := Aside0.mk ht; have N9 := Aside0.mk (N8.out.ch hc (by unfold txT; decide)); have B9 := Aside0.mk (B8.out.trans (hc.below (B := w.heap.size) (fun _ h => h) B8.out.size)); clear ht hc x0 T8 N8 B8)
                          | (go_at_call 27; refine (TAt.tell 4 (bs y) T9.out (by have := HSQ.out; show (z.q ++ [_] ++ [_]).length < _; simp only [List.length_append, List.length_singleton]; omega) (fun k hk => Nat.le_trans B9.out.size hk)).mono ?_; rintro e w10 ⟨rfl, ht, hc⟩; have T10 := Aside0.mk ht; have N10 := Aside0.mk (N9.out.ch hc (by unfold txT; decide)); have B10 := Aside0.mk (B9.out.trans (hc.below (B := w.heap.size) (fun _ h => h) B9.out.size)); have hfin : ({ z with q := z.q ++ [ev 7 ⟨#[]⟩] ++ [ev 8 nk] ++ [ev 4 (bs y)] } : TX) = toldX z k2 names y := HFIN.out; rw [hfin] at ht; clear T10 hfin; have T10 := Aside0.mk ht; clear ht hc T9 N9 B9)
                          | (go_at_call 31; refine (is_q 44 _ rfl T10.out HIT.out).mono ?_; rintro e w11 ⟨rfl, n11, rfl⟩; have D11 := Aside0.mk (pw_below_drewN (Below.refl w10.heap.size w10) n11); have T11 := Aside0.mk (T10.out.below D11.out); have N11 := Aside0.mk (N10.out.below D11.out); have B11 := Aside0.mk (B10.out.trans (D11.out.mono B10.out.size)); generalize w10.drewN n11 = w11 at D11 T11 N11 B11 ⊢; have k1c : w11.cell? ⟨g, 1, none⟩ = some (.int .i64 z.at_) := T11.out.cells.2.1; have tw : wrap64 ((z.at_ : Int) + 1) = (z.at_ : Int) + 1 := w64 (by omega) (by have := HZ.out.2.2.2.2.1; have := HSL.out; omega); have f1 := blk_frozen T11.out.core.choose_spec.1 1))
                        go_roundg g1
                        case measure => exact Nat.lt_succ_self _
                        case rel =>
                          have hz := HZ.out
                          have hq := HQ.out
                          have hk2 := Q3.out.2
                          have hHK := HK.out
                          have hHL := HL1.out
                          have hn9 := HN9'.out
                          have hsl := HSL.out
                          obtain ⟨q1, q2⟩ := T11.out.step2 (by show z.at_ < _; omega)
                          refine ⟨true, k2 + 1, f2, (toldX z k2 names y).next, rfl, by go_num, HYC, ⟨fun _ => ⟨by omega, hz.1, hz.2.1, hz.2.2.1, by show z.at_ + 1 ≤ _; omega, fun hx => by show z.at_ + 1 ≤ _; omega, by show _ ≤ z.at_ + 1; omega, ?_, by omega⟩⟩, ⟨by omega, by omega⟩, ⟨q1⟩, ⟨N11.out.ch q2 (by unfold txT; decide)⟩, ⟨B11.out.trans (q2.below (B := w.heap.size) (fun _ h => h) B11.out.size)⟩⟩
                          rw [if_neg (Nat.succ_ne_zero _)]
                          show (toldX z k2 names y).q.length ≤ 4 * (z.at_ + 1) + 0
                          rw [← HFIN.out]
                          have hqb := hq.2.2.2.2.2.2.2.1
                          have hqe := hz.2.2.2.1
                          rw [if_pos HK0.out] at hqb
                          simp only [List.length_append, List.length_singleton, hqe]
                          omega
                  · cases hi : isT z 44 with
                    | true =>
                      by_cases hl1 : k2 + 1 < names.length
                      · have HFIN := Aside0.mk (show ({ z with q := z.q ++ [ev 8 nk] ++ [ev 4 (bs y)] } : TX) = toldX z k2 names y by unfold toldX; rw [HNK.out, if_neg hk0]; simp [noT])
                        have g1a : ((k2 : Int) == 0) = false := by rw [beq_eq_false_iff_ne]; omega
                        have g2a : decide ((k2 : Int) = 0) = false := decide_eq_false (by omega)
                        have HK0 := Aside0.mk hk0
                        clear hk0
                        have HIT := Aside0.mk (show isT (toldX z k2 names y) 44 = true from hi)
                        have HYC := Aside0.mk (show Y = cOut names true f2 (k2 + 1) (toldX z k2 names y).next by rw [HYN.out, if_pos (by rw [hi]; exact (decide_eq_true hl1).symm)]; rfl)
                        have HIZ := Aside0.mk hi
                        have HL1 := Aside0.mk hl1
                        have z3 : decide (((k2 : Int) : Int) + 1 < (names.length : Int)) = true := decide_eq_true (by omega)
                        have z4 : decide (k2 + 1 < names.length) = true := decide_eq_true hl1
                        clear hi hl1
                        go_wp2_with (first
                          | (go_at_call 30; refine (cell_calls Q4.out (fun k hk => Nat.le_trans Q6.out.size hk)).mono ?_; rintro e w7 ⟨rfl, ht, hc⟩; rw [HU.out] at ht ⊢; have T7 := Aside0.mk ht; have N7 := Aside0.mk (Q5.out.ch hc (by unfold txT; decide)); have B7 := Aside0.mk (Q6.out.trans (hc.below (B := w.heap.size) (fun _ h => h) Q6.out.size)); have hsq : z.q.length < 900000 := Nat.lt_of_le_of_lt (Nat.le_of_eq (congrArg List.length HZ.out.2.2.2.1)) HT9.out; have HSQ := Aside0.mk hsq; obtain ⟨b, oo, cc, hv, _, _, hcell, _⟩ := N7.out.open_ (by have := HK.out; omega); injection hv with e1 e2 e3; subst e1; subst e3; clear e2; have x0 := hcell _ _ HGET.out; clear hcell; clear ht hc hsq)
                          | (go_at_call 27; refine (TAt.tell 8 nk T7.out (by have := HSQ.out; omega) (fun k hk => Nat.le_trans B7.out.size hk)).mono ?_; rintro e w9 ⟨rfl, ht, hc⟩; have T9 := Aside0.mk ht; have N9 := Aside0.mk (N7.out.ch hc (by unfold txT; decide)); have B9 := Aside0.mk (B7.out.trans (hc.below (B := w.heap.size) (fun _ h => h) B7.out.size)); clear ht hc x0 T7 N7 B7)
                          | (go_at_call 27; refine (TAt.tell 4 (bs y) T9.out (by have := HSQ.out; show (z.q ++ [_]).length < _; simp only [List.length_append, List.length_singleton]; omega) (fun k hk => Nat.le_trans B9.out.size hk)).mono ?_; rintro e w10 ⟨rfl, ht, hc⟩; have T10 := Aside0.mk ht; have N10 := Aside0.mk (N9.out.ch hc (by unfold txT; decide)); have B10 := Aside0.mk (B9.out.trans (hc.below (B := w.heap.size) (fun _ h => h) B9.out.size)); have hfin : ({ z with q := z.q ++ [ev 8 nk] ++ [ev 4 (bs y)] } : TX) = toldX z k2 names y := HFIN.out; rw [hfin] at ht; clear T10 hfin; have T10 := Aside0.mk ht; clear ht hc T9 N9 B9)
                          | (go_at_call 31; refine (is_q 44 _ rfl T10.out HIT.out).mono ?_; rintro e w11 ⟨rfl, n11, rfl⟩; have D11 := Aside0.mk (pw_below_drewN (Below.refl w10.heap.size w10) n11); have T11 := Aside0.mk (T10.out.below D11.out); have N11 := Aside0.mk (N10.out.below D11.out); have B11 := Aside0.mk (B10.out.trans (D11.out.mono B10.out.size)); generalize w10.drewN n11 = w11 at D11 T11 N11 B11 ⊢; have k1c : w11.cell? ⟨g, 1, none⟩ = some (.int .i64 z.at_) := T11.out.cells.2.1; have tw : wrap64 ((z.at_ : Int) + 1) = (z.at_ : Int) + 1 := w64 (by omega) (by have := HZ.out.2.2.2.2.1; have := HSL.out; omega); have f1 := blk_frozen T11.out.core.choose_spec.1 1))
                        go_roundg g1
                        case measure => exact Nat.lt_succ_self _
                        case rel =>
                          have hz := HZ.out
                          have hq := HQ.out
                          have hk2 := Q3.out.2
                          have hHK := HK.out
                          have hHL := HL1.out
                          have hn9 := HN9'.out
                          have hsl := HSL.out
                          obtain ⟨q1, q2⟩ := T11.out.step2 (by show z.at_ < _; omega)
                          have hla := isT_at HIZ.out
                          rw [hz.2.1] at hla
                          refine ⟨true, k2 + 1, f2, (toldX z k2 names y).next, rfl, by go_num, HYC, ⟨fun _ => ⟨by omega, hz.1, hz.2.1, hz.2.2.1, by show z.at_ + 1 ≤ _; omega, fun hx => by show z.at_ + 1 ≤ _; omega, by show _ ≤ z.at_ + 1; omega, ?_, by omega⟩⟩, ⟨by omega, by omega⟩, ⟨q1⟩, ⟨N11.out.ch q2 (by unfold txT; decide)⟩, ⟨B11.out.trans (q2.below (B := w.heap.size) (fun _ h => h) B11.out.size)⟩⟩
                          rw [if_neg (Nat.succ_ne_zero _)]
                          show (toldX z k2 names y).q.length ≤ 4 * (z.at_ + 1) + 0
                          rw [← HFIN.out]
                          have hqb := hq.2.2.2.2.2.2.2.1
                          have hqe := hz.2.2.2.1
                          rw [if_neg HK0.out] at hqb
                          simp only [List.length_append, List.length_singleton, hqe]
                          omega
                      · have HFIN := Aside0.mk (show ({ z with q := z.q ++ [ev 8 nk] ++ [ev 4 (bs y)] } : TX) = toldX z k2 names y by unfold toldX; rw [HNK.out, if_neg hk0]; simp [noT])
                        have g1a : ((k2 : Int) == 0) = false := by rw [beq_eq_false_iff_ne]; omega
                        have g2a : decide ((k2 : Int) = 0) = false := decide_eq_false (by omega)
                        have HK0 := Aside0.mk hk0
                        clear hk0
                        have HIT := Aside0.mk (show isT (toldX z k2 names y) 44 = true from hi)
                        have HYC := Aside0.mk (show Y = cOut names false 0 (k2 + 1) (badT (toldX z k2 names y) 17 z.at_).next by rw [HYN.out, if_neg (by rw [hi, decide_eq_false hl1]; decide)]; rfl)
                        have HIZ := Aside0.mk hi
                        have HL1 := Aside0.mk hl1
                        have z3 : decide (((k2 : Int) : Int) + 1 < (names.length : Int)) = false := decide_eq_false (by omega)
                        have z4 : decide (k2 + 1 < names.length) = false := decide_eq_false hl1
                        clear hi hl1
                        go_wp2_with (first
                          | (go_at_call 30; refine (cell_calls Q4.out (fun k hk => Nat.le_trans Q6.out.size hk)).mono ?_; rintro e w7 ⟨rfl, ht, hc⟩; rw [HU.out] at ht ⊢; have T7 := Aside0.mk ht; have N7 := Aside0.mk (Q5.out.ch hc (by unfold txT; decide)); have B7 := Aside0.mk (Q6.out.trans (hc.below (B := w.heap.size) (fun _ h => h) Q6.out.size)); have hsq : z.q.length < 900000 := Nat.lt_of_le_of_lt (Nat.le_of_eq (congrArg List.length HZ.out.2.2.2.1)) HT9.out; have HSQ := Aside0.mk hsq; obtain ⟨b, oo, cc, hv, _, _, hcell, _⟩ := N7.out.open_ (by have := HK.out; omega); injection hv with e1 e2 e3; subst e1; subst e3; clear e2; have x0 := hcell _ _ HGET.out; clear hcell; clear ht hc hsq)
                          | (go_at_call 27; refine (TAt.tell 8 nk T7.out (by have := HSQ.out; omega) (fun k hk => Nat.le_trans B7.out.size hk)).mono ?_; rintro e w9 ⟨rfl, ht, hc⟩; have T9 := Aside0.mk ht; have N9 := Aside0.mk (N7.out.ch hc (by unfold txT; decide)); have B9 := Aside0.mk (B7.out.trans (hc.below (B := w.heap.size) (fun _ h => h) B7.out.size)); clear ht hc x0 T7 N7 B7)
                          | (go_at_call 27; refine (TAt.tell 4 (bs y) T9.out (by have := HSQ.out; show (z.q ++ [_]).length < _; simp only [List.length_append, List.length_singleton]; omega) (fun k hk => Nat.le_trans B9.out.size hk)).mono ?_; rintro e w10 ⟨rfl, ht, hc⟩; have T10 := Aside0.mk ht; have N10 := Aside0.mk (N9.out.ch hc (by unfold txT; decide)); have B10 := Aside0.mk (B9.out.trans (hc.below (B := w.heap.size) (fun _ h => h) B9.out.size)); have hfin : ({ z with q := z.q ++ [ev 8 nk] ++ [ev 4 (bs y)] } : TX) = toldX z k2 names y := HFIN.out; rw [hfin] at ht; clear T10 hfin; have T10 := Aside0.mk ht; clear ht hc T9 N9 B9)
                          | (go_at_call 31; refine (is_q 44 _ rfl T10.out HIT.out).mono ?_; rintro e w11 ⟨rfl, n11, rfl⟩; have D11 := Aside0.mk (pw_below_drewN (Below.refl w10.heap.size w10) n11); have T11 := Aside0.mk (T10.out.below D11.out); have N11 := Aside0.mk (N10.out.below D11.out); have B11 := Aside0.mk (B10.out.trans (D11.out.mono B10.out.size)); generalize w10.drewN n11 = w11 at D11 T11 N11 B11 ⊢; have k1c : w11.cell? ⟨g, 1, none⟩ = some (.int .i64 z.at_) := T11.out.cells.2.1; have tw : wrap64 ((z.at_ : Int) + 1) = (z.at_ : Int) + 1 := w64 (by omega) (by have := HZ.out.2.2.2.2.1; have := HSL.out; omega); have f1 := blk_frozen T11.out.core.choose_spec.1 1)
                          | (go_at_call 32; refine (bad_calls 17 z.at_ T11.out).mono ?_; rintro e w12 ⟨rfl, ht, hc⟩; have T12 := Aside0.mk ht; have N12 := Aside0.mk (N11.out.ch hc (by unfold txT; decide)); have B12 := Aside0.mk (B11.out.trans (hc.below (B := w.heap.size) (fun _ h => h) B11.out.size)); have HAB := Aside0.mk (show (badT (toldX z k2 names y) 17 z.at_).at_ = z.at_ by unfold badT; split <;> rfl); clear k1c f1; have k1c : w12.cell? ⟨g, 1, none⟩ = some (.int .i64 z.at_) := ht.cells.2.1.trans (by rw [HAB.out]); have f1 := blk_frozen ht.core.choose_spec.1 1; clear ht hc))
                        go_roundg g1
                        case measure => exact Nat.lt_succ_self _
                        case rel =>
                          have hz := HZ.out
                          have hq := HQ.out
                          have hk2 := Q3.out.2
                          have hHK := HK.out
                          have hHL := HL1.out
                          have hn9 := HN9'.out
                          have hsl := HSL.out
                          obtain ⟨q1, q2⟩ := T12.out.step2 (by rw [HAB.out]; omega)
                          rw [HAB.out] at q1 q2
                          exact ⟨false, k2 + 1, 0, (badT (toldX z k2 names y) 17 z.at_).next, rfl, by go_num, HYC, ⟨fun h => by cases h⟩, ⟨by omega, by omega⟩, ⟨q1⟩, ⟨N12.out.ch q2 (by unfold txT; decide)⟩, ⟨B12.out.trans (q2.below (B := w.heap.size) (fun _ h => h) B12.out.size)⟩⟩
                    | false =>
                      by_cases hl1 : k2 + 1 < names.length
                      · have HFIN := Aside0.mk (show ({ z with q := z.q ++ [ev 8 nk] ++ [ev 4 (bs y)] } : TX) = toldX z k2 names y by unfold toldX; rw [HNK.out, if_neg hk0]; simp [noT])
                        have g1a : ((k2 : Int) == 0) = false := by rw [beq_eq_false_iff_ne]; omega
                        have g2a : decide ((k2 : Int) = 0) = false := decide_eq_false (by omega)
                        have HK0 := Aside0.mk hk0
                        clear hk0
                        have HIT := Aside0.mk (show isT (toldX z k2 names y) 44 = false from hi)
                        have HYC := Aside0.mk (show Y = cOut names false 0 (k2 + 1) (badT (toldX z k2 names y) 17 z.at_).next by rw [HYN.out, if_neg (by rw [hi, decide_eq_true hl1]; decide)]; rfl)
                        have HIZ := Aside0.mk hi
                        have HL1 := Aside0.mk hl1
                        have z3 : decide (((k2 : Int) : Int) + 1 < (names.length : Int)) = true := decide_eq_true (by omega)
                        have z4 : decide (k2 + 1 < names.length) = true := decide_eq_true hl1
                        clear hi hl1
                        go_wp2_with (first
                          | (go_at_call 30; refine (cell_calls Q4.out (fun k hk => Nat.le_trans Q6.out.size hk)).mono ?_; rintro e w7 ⟨rfl, ht, hc⟩; rw [HU.out] at ht ⊢; have T7 := Aside0.mk ht; have N7 := Aside0.mk (Q5.out.ch hc (by unfold txT; decide)); have B7 := Aside0.mk (Q6.out.trans (hc.below (B := w.heap.size) (fun _ h => h) Q6.out.size)); have hsq : z.q.length < 900000 := Nat.lt_of_le_of_lt (Nat.le_of_eq (congrArg List.length HZ.out.2.2.2.1)) HT9.out; have HSQ := Aside0.mk hsq; obtain ⟨b, oo, cc, hv, _, _, hcell, _⟩ := N7.out.open_ (by have := HK.out; omega); injection hv with e1 e2 e3; subst e1; subst e3; clear e2; have x0 := hcell _ _ HGET.out; clear hcell; clear ht hc hsq)
                          | (go_at_call 27; refine (TAt.tell 8 nk T7.out (by have := HSQ.out; omega) (fun k hk => Nat.le_trans B7.out.size hk)).mono ?_; rintro e w9 ⟨rfl, ht, hc⟩; have T9 := Aside0.mk ht; have N9 := Aside0.mk (N7.out.ch hc (by unfold txT; decide)); have B9 := Aside0.mk (B7.out.trans (hc.below (B := w.heap.size) (fun _ h => h) B7.out.size)); clear ht hc x0 T7 N7 B7)
                          | (go_at_call 27; refine (TAt.tell 4 (bs y) T9.out (by have := HSQ.out; show (z.q ++ [_]).length < _; simp only [List.length_append, List.length_singleton]; omega) (fun k hk => Nat.le_trans B9.out.size hk)).mono ?_; rintro e w10 ⟨rfl, ht, hc⟩; have T10 := Aside0.mk ht; have N10 := Aside0.mk (N9.out.ch hc (by unfold txT; decide)); have B10 := Aside0.mk (B9.out.trans (hc.below (B := w.heap.size) (fun _ h => h) B9.out.size)); have hfin : ({ z with q := z.q ++ [ev 8 nk] ++ [ev 4 (bs y)] } : TX) = toldX z k2 names y := HFIN.out; rw [hfin] at ht; clear T10 hfin; have T10 := Aside0.mk ht; clear ht hc T9 N9 B9)
                          | (go_at_call 31; refine (is_q 44 _ rfl T10.out HIT.out).mono ?_; rintro e w11 ⟨rfl, n11, rfl⟩; have D11 := Aside0.mk (pw_below_drewN (Below.refl w10.heap.size w10) n11); have T11 := Aside0.mk (T10.out.below D11.out); have N11 := Aside0.mk (N10.out.below D11.out); have B11 := Aside0.mk (B10.out.trans (D11.out.mono B10.out.size)); generalize w10.drewN n11 = w11 at D11 T11 N11 B11 ⊢; have k1c : w11.cell? ⟨g, 1, none⟩ = some (.int .i64 z.at_) := T11.out.cells.2.1; have tw : wrap64 ((z.at_ : Int) + 1) = (z.at_ : Int) + 1 := w64 (by omega) (by have := HZ.out.2.2.2.2.1; have := HSL.out; omega); have f1 := blk_frozen T11.out.core.choose_spec.1 1)
                          | (go_at_call 32; refine (bad_calls 17 z.at_ T11.out).mono ?_; rintro e w12 ⟨rfl, ht, hc⟩; have T12 := Aside0.mk ht; have N12 := Aside0.mk (N11.out.ch hc (by unfold txT; decide)); have B12 := Aside0.mk (B11.out.trans (hc.below (B := w.heap.size) (fun _ h => h) B11.out.size)); have HAB := Aside0.mk (show (badT (toldX z k2 names y) 17 z.at_).at_ = z.at_ by unfold badT; split <;> rfl); clear k1c f1; have k1c : w12.cell? ⟨g, 1, none⟩ = some (.int .i64 z.at_) := ht.cells.2.1.trans (by rw [HAB.out]); have f1 := blk_frozen ht.core.choose_spec.1 1; clear ht hc))
                        go_roundg g1
                        case measure => exact Nat.lt_succ_self _
                        case rel =>
                          have hz := HZ.out
                          have hq := HQ.out
                          have hk2 := Q3.out.2
                          have hHK := HK.out
                          have hHL := HL1.out
                          have hn9 := HN9'.out
                          have hsl := HSL.out
                          obtain ⟨q1, q2⟩ := T12.out.step2 (by rw [HAB.out]; omega)
                          rw [HAB.out] at q1 q2
                          exact ⟨false, k2 + 1, 0, (badT (toldX z k2 names y) 17 z.at_).next, rfl, by go_num, HYC, ⟨fun h => by cases h⟩, ⟨by omega, by omega⟩, ⟨q1⟩, ⟨N12.out.ch q2 (by unfold txT; decide)⟩, ⟨B12.out.trans (q2.below (B := w.heap.size) (fun _ h => h) B12.out.size)⟩⟩
                      · have HFIN := Aside0.mk (show ({ z with q := z.q ++ [ev 8 nk] ++ [ev 4 (bs y)] } : TX) = toldX z k2 names y by unfold toldX; rw [HNK.out, if_neg hk0]; simp [noT])
                        have g1a : ((k2 : Int) == 0) = false := by rw [beq_eq_false_iff_ne]; omega
                        have g2a : decide ((k2 : Int) = 0) = false := decide_eq_false (by omega)
                        have HK0 := Aside0.mk hk0
                        clear hk0
                        have HIT := Aside0.mk (show isT (toldX z k2 names y) 44 = false from hi)
                        have HYC := Aside0.mk (show Y = cOut names true f2 (k2 + 1) (toldX z k2 names y).next by rw [HYN.out, if_pos (by rw [hi]; exact (decide_eq_false hl1).symm)]; rfl)
                        have HIZ := Aside0.mk hi
                        have HL1 := Aside0.mk hl1
                        have z3 : decide (((k2 : Int) : Int) + 1 < (names.length : Int)) = false := decide_eq_false (by omega)
                        have z4 : decide (k2 + 1 < names.length) = false := decide_eq_false hl1
                        clear hi hl1
                        go_wp2_with (first
                          | (go_at_call 30; refine (cell_calls Q4.out (fun k hk => Nat.le_trans Q6.out.size hk)).mono ?_; rintro e w7 ⟨rfl, ht, hc⟩; rw [HU.out] at ht ⊢; have T7 := Aside0.mk ht; have N7 := Aside0.mk (Q5.out.ch hc (by unfold txT; decide)); have B7 := Aside0.mk (Q6.out.trans (hc.below (B := w.heap.size) (fun _ h => h) Q6.out.size)); have hsq : z.q.length < 900000 := Nat.lt_of_le_of_lt (Nat.le_of_eq (congrArg List.length HZ.out.2.2.2.1)) HT9.out; have HSQ := Aside0.mk hsq; obtain ⟨b, oo, cc, hv, _, _, hcell, _⟩ := N7.out.open_ (by have := HK.out; omega); injection hv with e1 e2 e3; subst e1; subst e3; clear e2; have x0 := hcell _ _ HGET.out; clear hcell; clear ht hc hsq)
                          | (go_at_call 27; refine (TAt.tell 8 nk T7.out (by have := HSQ.out; omega) (fun k hk => Nat.le_trans B7.out.size hk)).mono ?_; rintro e w9 ⟨rfl, ht, hc⟩; have T9 := Aside0.mk ht; have N9 := Aside0.mk (N7.out.ch hc (by unfold txT; decide)); have B9 := Aside0.mk (B7.out.trans (hc.below (B := w.heap.size) (fun _ h => h) B7.out.size)); clear ht hc x0 T7 N7 B7)
                          | (go_at_call 27; refine (TAt.tell 4 (bs y) T9.out (by have := HSQ.out; show (z.q ++ [_]).length < _; simp only [List.length_append, List.length_singleton]; omega) (fun k hk => Nat.le_trans B9.out.size hk)).mono ?_; rintro e w10 ⟨rfl, ht, hc⟩; have T10 := Aside0.mk ht; have N10 := Aside0.mk (N9.out.ch hc (by unfold txT; decide)); have B10 := Aside0.mk (B9.out.trans (hc.below (B := w.heap.size) (fun _ h => h) B9.out.size)); have hfin : ({ z with q := z.q ++ [ev 8 nk] ++ [ev 4 (bs y)] } : TX) = toldX z k2 names y := HFIN.out; rw [hfin] at ht; clear T10 hfin; have T10 := Aside0.mk ht; clear ht hc T9 N9 B9)
                          | (go_at_call 31; refine (is_q 44 _ rfl T10.out HIT.out).mono ?_; rintro e w11 ⟨rfl, n11, rfl⟩; have D11 := Aside0.mk (pw_below_drewN (Below.refl w10.heap.size w10) n11); have T11 := Aside0.mk (T10.out.below D11.out); have N11 := Aside0.mk (N10.out.below D11.out); have B11 := Aside0.mk (B10.out.trans (D11.out.mono B10.out.size)); generalize w10.drewN n11 = w11 at D11 T11 N11 B11 ⊢; have k1c : w11.cell? ⟨g, 1, none⟩ = some (.int .i64 z.at_) := T11.out.cells.2.1; have tw : wrap64 ((z.at_ : Int) + 1) = (z.at_ : Int) + 1 := w64 (by omega) (by have := HZ.out.2.2.2.2.1; have := HSL.out; omega); have f1 := blk_frozen T11.out.core.choose_spec.1 1))
                        go_roundg g1
                        case measure => exact Nat.lt_succ_self _
                        case rel =>
                          have hz := HZ.out
                          have hq := HQ.out
                          have hk2 := Q3.out.2
                          have hHK := HK.out
                          have hHL := HL1.out
                          have hn9 := HN9'.out
                          have hsl := HSL.out
                          obtain ⟨q1, q2⟩ := T11.out.step2 (by show z.at_ < _; omega)
                          refine ⟨true, k2 + 1, f2, (toldX z k2 names y).next, rfl, by go_num, HYC, ⟨fun _ => ⟨by omega, hz.1, hz.2.1, hz.2.2.1, by show z.at_ + 1 ≤ _; omega, fun hx => by show z.at_ + 1 ≤ _; omega, by show _ ≤ z.at_ + 1; omega, ?_, by omega⟩⟩, ⟨by omega, by omega⟩, ⟨q1⟩, ⟨N11.out.ch q2 (by unfold txT; decide)⟩, ⟨B11.out.trans (q2.below (B := w.heap.size) (fun _ h => h) B11.out.size)⟩⟩
                          rw [if_neg (Nat.succ_ne_zero _)]
                          show (toldX z k2 names y).q.length ≤ 4 * (z.at_ + 1) + 0
                          rw [← HFIN.out]
                          have hqb := hq.2.2.2.2.2.2.2.1
                          have hqe := hz.2.2.2.1
                          rw [if_neg HK0.out] at hqb
                          simp only [List.length_append, List.length_singleton, hqe]
                          omega
              · have s1 : decide ((k2 : Int) < (names.length : Int)) = false := decide_eq_false (by omega)
                have s2 : decide (k2 < names.length) = false := decide_eq_false hk
                have HKE := Aside0.mk (show f2 = 0 ∧ k2 = names.length by omega)
                have HSR := Aside0.mk (show specR t = finR (rOut names true f (tellX x 9)) by
                  have hy : Y = (x, true) := by rw [Q1.out, HKE.out.1]; rfl
                  rw [HRN.out, hy]; rfl)
                clear hk hn9 hq
                obtain ⟨A7, c7, hv7, _, _⟩ := Q5.out.slice
                subst hv7
                go_wp2_with (go_at_call 27; refine (TAt.tell 9 ⟨#[]⟩ Q4.out (by have := HT9.out; omega) (fun k hk => Nat.le_trans Q6.out.size hk)).mono ?_; rintro e w7 ⟨rfl, ht, hc⟩; have T7 := Aside0.mk (show TAt _ _ _ (tellX x 9) from ht); have N7 := Aside0.mk (Q5.out.ch hc (by unfold txT; decide)); have B7 := Aside0.mk (Q6.out.trans (hc.below (B := w.heap.size) (fun _ h => h) Q6.out.size)); clear ht hc)
                go_roundg k1
                case measure => exact Nat.lt_succ_self _
                case rel =>
                  have hq := HQ.out
                  have hp := HP2.out
                  have hk9 := HKE.out
                  have hn9 := HN9'.out
                  have hql := hq.2.2.2.2.2.2.2.1
                  rw [if_neg (by omega)] at hql
                  exact ⟨true, f, tellX x 9, rfl, HSR, ⟨fun _ => ⟨hq.2.1, hq.2.2.1, hq.2.2.2.1, hq.2.2.2.2.1, by show (x.q ++ [_]).length ≤ 4 * x.at_ + 1; rw [List.length_append, List.length_singleton]; omega, by show t.s.length + 1 - x.at_ < f; omega, by omega, HOK0.out⟩⟩, ⟨by omega⟩, T7, ⟨fun _ => N7.out⟩, B7⟩
        · have t1 : decide ((u.at_ : Int) < (t.s.length : Int)) = false := decide_eq_false (by omega)
          have t2 : decide (u.at_ < t.s.length) = false := decide_eq_false hlt
          have HUQ := Aside0.mk (show u.q.length < 1000000 by have := hp2.2.2.2.1; have := hp2.2.2.2.2.1; have := HSL.out; omega)
          have HSR := Aside0.mk (show specR t = if B < 0 then tellX u 6 else u by
            rw [P1.out]
            show finR (rowsR names f u) = _
            rw [rowsR_end (by rw [hp2.2.1]; exact hlt)]
            show endX u = _
            unfold endX
            rw [hp2.2.2.1, HCL.out]
            by_cases h0 : B < 0
            · rw [if_pos h0, if_pos (decide_eq_true h0)]
            · rw [if_neg h0, if_neg (by rw [decide_eq_true_eq]; exact h0)])
          clear hlt hp2
          by_cases hb : B < 0
          · have v1 : decide (B < 0) = true := decide_eq_true hb
            rw [if_pos hb] at HSR
            clear hb
            go_wp2
            go_quiet (fail)
            have D1 := Aside0.mk (pw_below_drewN (Below.refl wr.heap.size wr) nq)
            have T5 := Aside0.mk (P4.out.below D1.out)
            have B5 := Aside0.mk (P6.out.trans (D1.out.mono P6.out.size))
            clear c0 c1
            generalize wr.drewN nq = w5 at D1 T5 B5 ⊢
            go_wp2_with (first
              | (go_at_call 27; refine (TAt.tell 6 ⟨#[]⟩ T5.out HUQ.out (fun k hk => Nat.le_trans B5.out.size hk)).mono ?_; rintro e w7 ⟨rfl, ht, hc⟩; have T7 := Aside0.mk (show TAt _ _ _ (specR t) by rw [HSR.out]; exact ht); have B7 := Aside0.mk (B5.out.trans (hc.below (B := w.heap.size) (fun _ h => h) B5.out.size)); clear ht hc T5 B5)
              | (go_at_call 28; refine (fin_calls B T7.out HBD.out).mono ?_; rintro e w8 ⟨v, rfl, hr, hb4⟩; have R8 := Aside0.mk hr; have B8 := Aside0.mk hb4; clear hr hb4))
            go_ret3
            exact ⟨v, rfl, R8.out, B7.out.trans (B8.out.mono B7.out.size)⟩
          · have v1 : decide (B < 0) = false := decide_eq_false hb
            rw [if_neg hb] at HSR
            clear hb
            go_wp2
            go_quiet (fail)
            have D1 := Aside0.mk (pw_below_drewN (Below.refl wr.heap.size wr) nq)
            have T5 := Aside0.mk (show TAt _ _ _ (specR t) by rw [HSR.out]; exact P4.out.below D1.out)
            have B5 := Aside0.mk (P6.out.trans (D1.out.mono P6.out.size))
            clear c0 c1
            generalize wr.drewN nq = w5 at D1 T5 B5 ⊢
            go_wp2_with (go_at_call 28; refine (fin_calls B T5.out HBD.out).mono ?_; rintro e w8 ⟨v, rfl, hr, hb4⟩; have R8 := Aside0.mk hr; have B8 := Aside0.mk hb4; clear hr hb4)
            go_ret3
            exact ⟨v, rfl, R8.out, B5.out.trans (B8.out.mono B5.out.size)⟩
end Go.Proofs.Ytalaedpiimdcbaa.Tx
