/- hexaplaref01.begins and Begins, as printed, in plain words: which few bytes can be the beginning of a character. -/
import Derived.Test.YtapdipjcgjmdgaaDoorPSrcStepsx3
import Derived.Test.YtapdipjcgjmdgaaDoorSrcOneSrcSteps
import Derived.Test.YtapdipjcgjmdgaaDoorSrcStep
namespace Go.Proofs.YtapdipjcgjmdgaaDoor.PSrcSteps
open Go.RowKit Go.Proofs.YtapdipjcgjmdgaaDoorW.PrintWords Go.Proofs.YtapdipjcgjmdgaaDoorW.PrintLast Go.Proofs.YtapdipjcgjmdgaaDoor.Own Go.Proofs.YtapdipjcgjmdgaaDoor.Srcw
set_option linter.unusedVariables false
set_option linter.unusedSimpArgs false

/-- May b1 stand behind b0? -/
def lohi (b0 b1 : Nat) : Prop := 128 ≤ b1 ∧ b1 < 192 ∧ (b0 = 224 → 160 ≤ b1) ∧ (b0 = 237 → b1 < 160) ∧ (b0 = 240 → 144 ≤ b1) ∧ (b0 = 244 → b1 < 144)
instance (b0 b1 : Nat) : Decidable (lohi b0 b1) := by unfold lohi; infer_instance
/-- Can n bytes be the beginning of one character, or the whole of it? -/
def okN (n b0 b1 b2 b3 : Nat) : Prop :=
  (n = 1 ∧ (b0 < 128 ∨ (194 ≤ b0 ∧ b0 ≤ 244))) ∨ (n = 2 ∧ 194 ≤ b0 ∧ b0 ≤ 244 ∧ lohi b0 b1) ∨ (n = 3 ∧ 224 ≤ b0 ∧ b0 ≤ 244 ∧ lohi b0 b1 ∧ 128 ≤ b2 ∧ b2 < 192) ∨
  (n = 4 ∧ 240 ≤ b0 ∧ b0 ≤ 244 ∧ lohi b0 b1 ∧ 128 ≤ b2 ∧ b2 < 192 ∧ 128 ≤ b3 ∧ b3 < 192)
instance (n b0 b1 b2 b3 : Nat) : Decidable (okN n b0 b1 b2 b3) := by unfold okN; infer_instance
def okL (l : List UInt8) : Bool := decide (okN l.length (l.getD 0 0).toNat (l.getD 1 0).toNat (l.getD 2 0).toNat (l.getD 3 0).toNat)

theorem oneN_two (n b0 b1 b2 b3 : Nat) : (oneN n b0 b1 b2 b3).2 = if b0 < 128 then 1 else if 194 ≤ b0 ∧ b0 < 224 ∧ 1 < n ∧ 128 ≤ b1 ∧ b1 < 192 then 2
  else if 224 ≤ b0 ∧ b0 < 240 ∧ 2 < n ∧ 128 ≤ b1 ∧ b1 < 192 ∧ 128 ≤ b2 ∧ b2 < 192 ∧ (b0 = 224 → 160 ≤ b1) ∧ (b0 = 237 → b1 < 160) then 3
  else if 240 ≤ b0 ∧ b0 ≤ 244 ∧ 3 < n ∧ 128 ≤ b1 ∧ b1 < 192 ∧ 128 ≤ b2 ∧ b2 < 192 ∧ 128 ≤ b3 ∧ b3 < 192 ∧ (b0 = 240 → 144 ≤ b1) ∧ (b0 = 244 → b1 < 144) then 4 else 0 := by
  unfold oneN; repeat' split
  all_goals rfl

theorem app_toList (s : ByteArray) (x : Int) : (s ++ strOfNums [x % 256]).data.toList = s.data.toList ++ [UInt8.ofNat (x % 256).toNat] := by
  simp [strOfNums]
theorem app_size (s : ByteArray) (x : Int) : (strOfNums [x % 256]).size = 1 := by simp [strOfNums_size]

/-- The loop over one byte more: at one of them it can. -/
theorem loop_true (s : ByteArray) (K : Nat) (V : Nat → Bool) (hsz : s.size ≤ 4) (hV : ∀ k d : Nat, K ≤ k → 128 ≤ d → d < 192 → hexaplaref01_begins.f k (s ++ strOfNums [(d : Int) % 256]) = some (V d)) (d0 : Nat) (h0 : 128 ≤ d0) (h1 : d0 < 192) (ht : V d0 = true) :
    ∀ (n d k : Nat), d0 = d + n → 128 ≤ d → K + n + 1 ≤ k → hexaplaref01_begins.l0 k s d = some true := by
  intro n
  induction n with
  | zero =>
    intro d k hd h2 hk
    obtain ⟨k, rfl⟩ : ∃ m, k = m + 1 := ⟨k - 1, by omega⟩
    obtain rfl : d0 = d := by omega
    simp only [hexaplaref01_begins.l0, Option.bind_some]
    rw [if_pos (by omega), if_pos (by rw [app_size s]; omega), hV k d0 (by omega) h0 h1, ht]
    simp
  | succ n ih =>
    intro d k hd h2 hk
    obtain ⟨k, rfl⟩ : ∃ m, k = m + 1 := ⟨k - 1, by omega⟩
    simp only [hexaplaref01_begins.l0, Option.bind_some]
    rw [if_pos (by omega), if_pos (by rw [app_size s]; omega), hV k d (by omega) h2 (by omega)]
    simp only [Option.bind_some]
    cases hv : V d
    · rw [if_neg (by simp), w64 (by omega) (by omega)]
      have := ih (d + 1) k (by omega) (by omega) (by omega)
      simpa using this
    · rw [if_pos rfl]
/-- At none of them it can. -/
theorem loop_false (s : ByteArray) (K : Nat) (hsz : s.size ≤ 4) (hV : ∀ k d : Nat, K ≤ k → 128 ≤ d → d < 192 → hexaplaref01_begins.f k (s ++ strOfNums [(d : Int) % 256]) = some false) :
    ∀ (n d k : Nat), 192 = d + n → 128 ≤ d → K + n + 1 ≤ k → hexaplaref01_begins.l0 k s d = some false := by
  intro n
  induction n with
  | zero =>
    intro d k hd h2 hk
    obtain ⟨k, rfl⟩ : ∃ m, k = m + 1 := ⟨k - 1, by omega⟩
    simp only [hexaplaref01_begins.l0]
    rw [if_neg (by omega)]
  | succ n ih =>
    intro d k hd h2 hk
    obtain ⟨k, rfl⟩ : ∃ m, k = m + 1 := ⟨k - 1, by omega⟩
    simp only [hexaplaref01_begins.l0, Option.bind_some]
    rw [if_pos (by omega), if_pos (by rw [app_size s]; omega), hV k d (by omega) h2 (by omega)]
    simp only [Option.bind_some]
    rw [if_neg (by simp), w64 (by omega) (by omega)]
    have := ih (d + 1) k (by omega) (by omega) (by omega)
    simpa using this

/-- The bytes with one more behind. -/
theorem okL_app (l : List UInt8) (d : Nat) (hd : d < 256) : (l.length = 1 → okL (l ++ [UInt8.ofNat d]) = decide (okN 2 (l.getD 0 0).toNat d 0 0)) ∧
    (l.length = 2 → okL (l ++ [UInt8.ofNat d]) = decide (okN 3 (l.getD 0 0).toNat (l.getD 1 0).toNat d 0)) ∧
    (l.length = 3 → okL (l ++ [UInt8.ofNat d]) = decide (okN 4 (l.getD 0 0).toNat (l.getD 1 0).toNat (l.getD 2 0).toNat d)) := by
  have hu : (UInt8.ofNat d).toNat = d := by simp; omega
  refine ⟨fun h => ?_, fun h => ?_, fun h => ?_⟩
  · match l, h with
    | [a], _ => simp [okL, hu]
  · match l, h with
    | [a, b], _ => simp [okL, hu]
  · match l, h with
    | [a, b, c], _ => simp [okL, hu]

/-- What begins does ahead of its loop. -/
theorem begins_head (k : Nat) (s : ByteArray) (h1 : 1 ≤ s.size) (hk : 13 ≤ k) : hexaplaref01_begins.f (k + 2) s = if (oneL s.data.toList).2 = s.size then some true else if 4 ≤ s.size then some false else
    if (s.data.toList.getD 0 0).toNat < 192 then some false else hexaplaref01_begins.l0 k s 128 := by
  obtain ⟨j, rfl⟩ : ∃ j, k = j + 12 := ⟨k - 12, by omega⟩
  have hb := bt_get s 0 (by omega)
  simp only [hexaplaref01_begins.f]
  rw [show j + 12 + 1 = (j + 1) + 12 from by omega, one_is]
  simp only [Option.bind_some]
  by_cases c1 : (oneL s.data.toList).2 = s.size
  · rw [if_pos (by omega), if_pos c1]
  rw [if_neg (by omega), if_neg c1]
  by_cases c2 : 4 ≤ s.size
  · rw [if_pos (by omega), if_pos c2]
    simp only [hexaplaref01_begins.j0, if_true]
  rw [if_neg (by omega), if_neg c2, if_pos (by omega)]
  have hb' : bt s 0 = ((s.data.toList.getD 0 0).toNat : Int) := hb
  by_cases c3 : (s.data.toList.getD 0 0).toNat < 192
  · have d : decide (bt s 0 < 192) = true := decide_eq_true (by omega)
    rw [d, if_pos c3]; simp only [hexaplaref01_begins.j0, if_true]
  · have d : decide (bt s 0 < 192) = false := decide_eq_false (by omega)
    rw [d, if_neg c3]; simp only [hexaplaref01_begins.j0, Bool.false_eq_true, if_false]

theorem begins4 (k : Nat) (s : ByteArray) (h : s.size = 4) (hk : 15 ≤ k) : hexaplaref01_begins.f k s = some (okL s.data.toList) := by
  obtain ⟨k, rfl⟩ : ∃ m, k = m + 2 := ⟨k - 2, by omega⟩
  have hl := size_data s
  have hne : s.data.toList ≠ [] := by intro e; rw [e] at hl; simp at hl; omega
  rw [begins_head k s (by omega) (by omega)]
  unfold oneL okL
  rw [if_neg hne, hl, h, oneN_two]
  generalize (s.data.toList.getD 0 0).toNat = b0
  generalize (s.data.toList.getD 1 0).toNat = b1
  generalize (s.data.toList.getD 2 0).toNat = b2
  generalize (s.data.toList.getD 3 0).toNat = b3
  by_cases c : okN 4 b0 b1 b2 b3
  · have c' := c
    unfold okN lohi at c'
    rw [decide_eq_true c, if_pos (by (repeat' split) <;> omega)]
  · have c' := c
    unfold okN lohi at c'
    rw [decide_eq_false c, if_neg (by (repeat' split) <;> omega), if_pos (by omega)]

theorem begins3 (k : Nat) (s : ByteArray) (h : s.size = 3) (hk : 100 ≤ k) : hexaplaref01_begins.f k s = some (okL s.data.toList) := by
  obtain ⟨k, rfl⟩ : ∃ m, k = m + 2 := ⟨k - 2, by omega⟩
  have hl := size_data s
  have hne : s.data.toList ≠ [] := by intro e; rw [e] at hl; simp at hl; omega
  have hV : ∀ k d : Nat, 15 ≤ k → 128 ≤ d → d < 192 → hexaplaref01_begins.f k (s ++ strOfNums [(d : Int) % 256]) = some (decide (okN 4 (s.data.toList.getD 0 0).toNat (s.data.toList.getD 1 0).toNat (s.data.toList.getD 2 0).toNat d)) := by
    intro k d hk h1 h2
    rw [begins4 k _ (by simp [strOfNums_size, h]) hk, app_toList, ← (okL_app s.data.toList d (by omega)).2.2 (by omega), show ((d : Int) % 256).toNat = d from by omega]
  rw [begins_head k s (by omega) (by omega)]
  unfold oneL okL
  rw [if_neg hne, hl, h, oneN_two]
  generalize (s.data.toList.getD 0 0).toNat = b0 at *
  generalize (s.data.toList.getD 1 0).toNat = b1 at *
  generalize (s.data.toList.getD 2 0).toNat = b2 at *
  generalize (s.data.toList.getD 3 0).toNat = b3 at *
  by_cases c : okN 3 b0 b1 b2 b3
  · have c' := c
    unfold okN lohi at c'
    rw [decide_eq_true c]
    by_cases e : b0 < 240
    · rw [if_pos (by (repeat' split) <;> omega)]
    · rw [if_neg (by (repeat' split) <;> omega), if_neg (by omega), if_neg (by omega)]
      exact loop_true s 15 _ (by omega) hV 128 (by omega) (by omega) (decide_eq_true (by unfold okN lohi; omega)) 0 128 k (by omega) (by omega) (by omega)
  · have c' := c
    unfold okN lohi at c'
    rw [decide_eq_false c, if_neg (by (repeat' split) <;> omega), if_neg (by omega)]
    by_cases e : b0 < 192
    · rw [if_pos e]
    · rw [if_neg e]
      exact loop_false s 15 (by omega) (fun k d h1 h2 h3 => by rw [hV k d h1 h2 h3, decide_eq_false (by unfold okN lohi; omega)]) 64 128 k (by omega) (by omega) (by omega)

theorem begins2 (k : Nat) (s : ByteArray) (h : s.size = 2) (hk : 200 ≤ k) : hexaplaref01_begins.f k s = some (okL s.data.toList) := by
  obtain ⟨k, rfl⟩ : ∃ m, k = m + 2 := ⟨k - 2, by omega⟩
  have hl := size_data s
  have hne : s.data.toList ≠ [] := by intro e; rw [e] at hl; simp at hl; omega
  have hV : ∀ k d : Nat, 100 ≤ k → 128 ≤ d → d < 192 → hexaplaref01_begins.f k (s ++ strOfNums [(d : Int) % 256]) = some (decide (okN 3 (s.data.toList.getD 0 0).toNat (s.data.toList.getD 1 0).toNat d 0)) := by
    intro k d hk h1 h2
    rw [begins3 k _ (by simp [strOfNums_size, h]) hk, app_toList, ← (okL_app s.data.toList d (by omega)).2.1 (by omega), show ((d : Int) % 256).toNat = d from by omega]
  rw [begins_head k s (by omega) (by omega)]
  unfold oneL okL
  rw [if_neg hne, hl, h, oneN_two]
  generalize (s.data.toList.getD 0 0).toNat = b0 at *
  generalize (s.data.toList.getD 1 0).toNat = b1 at *
  generalize (s.data.toList.getD 2 0).toNat = b2 at *
  generalize (s.data.toList.getD 3 0).toNat = b3 at *
  by_cases c : okN 2 b0 b1 b2 b3
  · have c' := c
    unfold okN lohi at c'
    rw [decide_eq_true c]
    by_cases e : b0 < 224
    · rw [if_pos (by (repeat' split) <;> omega)]
    · rw [if_neg (by (repeat' split) <;> omega), if_neg (by omega), if_neg (by omega)]
      exact loop_true s 100 _ (by omega) hV 128 (by omega) (by omega) (decide_eq_true (by unfold okN lohi; omega)) 0 128 k (by omega) (by omega) (by omega)
  · have c' := c
    unfold okN lohi at c'
    rw [decide_eq_false c, if_neg (by (repeat' split) <;> omega), if_neg (by omega)]
    by_cases e : b0 < 192
    · rw [if_pos e]
    · rw [if_neg e]
      exact loop_false s 100 (by omega) (fun k d h1 h2 h3 => by rw [hV k d h1 h2 h3, decide_eq_false (by unfold okN lohi; omega)]) 64 128 k (by omega) (by omega) (by omega)

set_option maxHeartbeats 1000000 in
theorem begins1 (k : Nat) (s : ByteArray) (h : s.size = 1) (hk : 300 ≤ k) : hexaplaref01_begins.f k s = some (okL s.data.toList) := by
  obtain ⟨k, rfl⟩ : ∃ m, k = m + 2 := ⟨k - 2, by omega⟩
  have hl := size_data s
  have hne : s.data.toList ≠ [] := by intro e; rw [e] at hl; simp at hl; omega
  have hV : ∀ k d : Nat, 200 ≤ k → 128 ≤ d → d < 192 → hexaplaref01_begins.f k (s ++ strOfNums [(d : Int) % 256]) = some (decide (okN 2 (s.data.toList.getD 0 0).toNat d 0 0)) := by
    intro k d hk h1 h2
    rw [begins2 k _ (by simp [strOfNums_size, h]) hk, app_toList, ← (okL_app s.data.toList d (by omega)).1 (by omega), show ((d : Int) % 256).toNat = d from by omega]
  have l0 := (s.data.toList.getD 0 0).toNat_lt
  rw [begins_head k s (by omega) (by omega)]
  unfold oneL okL
  rw [if_neg hne, hl, h, oneN_two]
  generalize (s.data.toList.getD 0 0).toNat = b0 at *
  generalize (s.data.toList.getD 1 0).toNat = b1 at *
  generalize (s.data.toList.getD 2 0).toNat = b2 at *
  generalize (s.data.toList.getD 3 0).toNat = b3 at *
  by_cases c : okN 1 b0 b1 b2 b3
  · have c' := c
    unfold okN lohi at c'
    rw [decide_eq_true c]
    by_cases e : b0 < 128
    · rw [if_pos e, if_pos rfl]
    · rw [if_neg (by (repeat' split) <;> omega), if_neg (by omega), if_neg (by omega)]
      by_cases e1 : b0 = 224
      · exact loop_true s 200 _ (by omega) hV 160 (by omega) (by omega) (decide_eq_true (by unfold okN lohi; omega)) 32 128 k (by omega) (by omega) (by omega)
      · by_cases e2 : b0 = 240
        · exact loop_true s 200 _ (by omega) hV 144 (by omega) (by omega) (decide_eq_true (by unfold okN lohi; omega)) 16 128 k (by omega) (by omega) (by omega)
        · exact loop_true s 200 _ (by omega) hV 128 (by omega) (by omega) (decide_eq_true (by unfold okN lohi; omega)) 0 128 k (by omega) (by omega) (by omega)
  · have c' := c
    unfold okN lohi at c'
    rw [decide_eq_false c, if_neg (by (repeat' split) <;> omega), if_neg (by omega)]
    by_cases e : b0 < 192
    · rw [if_pos e]
    · rw [if_neg e]
      exact loop_false s 200 (by omega) (fun k d h1 h2 h3 => by rw [hV k d h1 h2 h3, decide_eq_false (by unfold okN lohi; omega)]) 64 128 k (by omega) (by omega) (by omega)

theorem begins_is (k : Nat) (s : ByteArray) (h1 : 1 ≤ s.size) (h4 : s.size ≤ 4) (hk : 300 ≤ k) : hexaplaref01_begins.f k s = some (okL s.data.toList) := by
  rcases (by omega : s.size = 1 ∨ s.size = 2 ∨ s.size = 3 ∨ s.size = 4) with h | h | h | h
  · exact begins1 k s h hk
  · exact begins2 k s h (by omega)
  · exact begins3 k s h (by omega)
  · exact begins4 k s h (by omega)

/-- Begins, of few bytes of which no part is a character but all. -/
theorem Begins_is (s : ByteArray) (h1 : 1 ≤ s.size) (h4 : s.size ≤ 4) (ho : (oneL s.data.toList).2 = 0 ∨ (oneL s.data.toList).2 = s.size) :
    hexaplaref01_Begins.f 302 s = some (if (oneL s.data.toList).2 = 0 then okL s.data.toList else true) := by
  unfold hexaplaref01_Begins.f
  generalize hk : (302 : Nat) = K
  obtain ⟨j, rfl⟩ : ∃ j, K = j + 1 := ⟨301, by omega⟩
  obtain ⟨m, rfl⟩ : ∃ m, j = m + 12 := ⟨289, by omega⟩
  conv => lhs; unfold hexaplaref01_Begins.l0
  rw [if_pos (by omega), one_is]
  simp only [Option.bind_some]
  by_cases c : (oneL s.data.toList).2 = 0
  · rw [if_pos (by omega), if_pos c, begins_is _ s h1 h4 (by omega)]; rfl
  · have hz : (s.extract ((oneL s.data.toList).2 : Int).toNat s.size).size = 0 := by simp; omega
    rw [if_neg (by omega), if_neg c, if_pos (by omega), if_pos (by omega)]
    conv => lhs; unfold hexaplaref01_Begins.l0
    rw [if_neg (by omega)]
end Go.Proofs.YtapdipjcgjmdgaaDoor.PSrcSteps
