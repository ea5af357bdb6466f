/- Names in plain words: which bytes are local names, spaces, full names. -/
import Derived.Test.YticlppojbbocbaaDoorCharsF
import Derived.Shelf.GgClosure.StringsIndexFunc
import Derived.Lib.IndexMore
import Derived.Lib.Strings
namespace Go.Proofs.YticlppojbbocbaaDoor.Nm
open Go.Lib Go.Proofs.YticlppojbbocbaaDoor.Srcw
set_option linter.unusedVariables false
set_option linter.unusedSimpArgs false

/-- A byte that no space holds. -/
def oddB (b : Nat) : Bool := decide (b < 33 ∨ b = 123 ∨ b = 125 ∨ b = 34 ∨ b = 60 ∨ b = 62 ∨ b = 38 ∨ b = 92)
/-- May a byte stand at place i of a local name? -/
def okB (i b : Nat) : Bool := decide ((97 ≤ b ∧ b ≤ 122) ∨ (65 ≤ b ∧ b ≤ 90) ∨ b = 95 ∨ (0 < i ∧ ((48 ≤ b ∧ b ≤ 57) ∨ b = 45 ∨ b = 46)))
def okTo (l : List UInt8) : Nat → Bool
  | 0 => true
  | n + 1 => okTo l n && okB n (l.getD n 0).toNat
def localL (l : List UInt8) : Bool := decide (1 ≤ l.length ∧ l.length ≤ 16) && okTo l l.length
def spaceL (l : List UInt8) : Bool := validD l && decide (1 ≤ l.length ∧ l.length ≤ 48) && l.all (fun c => !oddB c.toNat)
def cutL (l : List UInt8) : List UInt8 × List UInt8 × Bool :=
  if l.length ≤ 48 ∧ l.head? = some 123 then
    (if 0 ≤ indexByte (l.drop 1) 125 then
      (if spaceL ((l.drop 1).take (indexByte (l.drop 1) 125).toNat) && localL ((l.drop 1).drop ((indexByte (l.drop 1) 125).toNat + 1)) then
        ((l.drop 1).take (indexByte (l.drop 1) 125).toNat, (l.drop 1).drop ((indexByte (l.drop 1) 125).toNat + 1), true) else ([], [], false))
    else ([], [], false))
  else if localL l then ([], l, true) else ([], [], false)
def fullL (a b : List UInt8) : List UInt8 := if a = [] then b else [123] ++ a ++ [125] ++ b
def joinL (a b : List UInt8) : List UInt8 × Bool := if localL b && (a == [] || spaceL a) && decide ((fullL a b).length ≤ 48) then (fullL a b, true) else ([], false)

theorem okTo_false {l : List UInt8} {n : Nat} (h : okTo l n = false) : ∀ m, n ≤ m → okTo l m = false := by
  intro m hm
  induction m with
  | zero => obtain rfl : n = 0 := by omega
            exact h
  | succ m ih =>
    by_cases e : n = m + 1
    · subst e; exact h
    · unfold okTo; rw [ih (by omega)]; rfl
theorem local_long {l : List UInt8} (h : 16 < l.length) : localL l = false := by
  unfold localL; rw [decide_eq_false (by omega)]; rfl
theorem local_short {l : List UInt8} (h : l.length = 0) : localL l = false := by
  unfold localL; rw [decide_eq_false (by omega)]; rfl
theorem local_bad {l : List UInt8} {i : Nat} (hi : i < l.length) (h : okB i (l.getD i 0).toNat = false) : localL l = false := by
  unfold localL
  rw [okTo_false (n := i + 1) (by unfold okTo; rw [h]; simp) l.length (by omega)]
  simp
theorem local_all {l : List UInt8} (h1 : 1 ≤ l.length) (h2 : l.length ≤ 16) (h : okTo l l.length = true) : localL l = true := by
  unfold localL; rw [h, decide_eq_true ⟨h1, h2⟩]; rfl

theorem decodeL_cases (l : List UInt8) (h : l ≠ []) : ((decodeL l).2 = 1 ∧ (decodeL l).1 = (l.getD 0 0).toNat ∧ (decodeL l).1 < 128) ∨ (128 ≤ (decodeL l).1 ∧ ∀ j, j < (decodeL l).2 → 128 ≤ (l.getD j 0).toNat) := by
  rw [decodeL_N]
  generalize hn : l.length = n
  generalize h0 : (l.getD 0 0).toNat = b0
  generalize h1 : (l.getD 1 0).toNat = b1
  generalize h2 : (l.getD 2 0).toNat = b2
  generalize h3 : (l.getD 3 0).toNat = b3
  by_cases c : b0 < 128
  · left
    unfold decodeN
    rw [if_pos c]
    exact ⟨rfl, rfl, c⟩
  · right
    have key : ∀ (r k : Nat), 128 ≤ r → (1 ≤ k) → (2 ≤ k → 128 ≤ b1) → (3 ≤ k → 128 ≤ b2) → (4 ≤ k → 128 ≤ b3) → k ≤ 4 → 128 ≤ (r, k).1 ∧ ∀ j, j < (r, k).2 → 128 ≤ (l.getD j 0).toNat := by
      intro r k hr hk q1 q2 q3 hk4
      refine ⟨hr, fun j hj => ?_⟩
      simp only at hj
      rcases (by omega : j = 0 ∨ j = 1 ∨ j = 2 ∨ j = 3) with rfl | rfl | rfl | rfl
      · rw [h0]; omega
      · rw [h1]; exact q1 (by omega)
      · rw [h2]; exact q2 (by omega)
      · rw [h3]; exact q3 (by omega)
    unfold decodeN
    rw [if_neg c]
    repeat' split
    all_goals (apply key <;> omega)

theorem dec_cases (s : ByteArray) (pos : Nat) (h : pos < s.size) :
    ((Utf8.decode s pos).2 = 1 ∧ (Utf8.decode s pos).1 = (s.data.toList.getD pos 0).toNat ∧ (Utf8.decode s pos).1 < 128) ∨ (128 ≤ (Utf8.decode s pos).1 ∧ ∀ j, j < (Utf8.decode s pos).2 → 128 ≤ (s.data.toList.getD (pos + j) 0).toNat) := by
  have hl : s.data.toList.length = s.size := by simp
  have hne : s.data.toList.drop pos ≠ [] := by
    intro e; have := congrArg List.length e; rw [List.length_drop, hl] at this; simp at this; omega
  have hc := decodeL_cases _ hne
  rw [decodeL_drop] at hc
  have hg : ∀ j, (s.data.toList.drop pos).getD j 0 = s.data.toList.getD (pos + j) 0 := by
    intro j; simp only [List.getD, List.getElem?_drop]
  rw [hg] at hc
  rcases hc with hc | ⟨h1, h2⟩
  · exact .inl hc
  · exact .inr ⟨h1, fun j hj => by rw [← hg]; exact h2 j hj⟩

theorem odd_high {b : Nat} (h : 128 ≤ b) : oddB b = false := by unfold oddB; rw [decide_eq_false (by omega)]

/-- An odd character is found just where a byte is odd. -/
theorem odd_idx (s : ByteArray) : ∀ (f pos : Nat), s.size - pos ≤ f → pos ≤ s.size → (0 ≤ idxFuncFrom oddB true s f pos ↔ ∃ i, pos ≤ i ∧ i < s.size ∧ oddB (s.data.toList.getD i 0).toNat = true) := by
  intro f
  induction f with
  | zero =>
    intro pos h h1
    unfold idxFuncFrom
    constructor
    · intro h; omega
    · rintro ⟨i, h2, h3, _⟩; omega
  | succ f ih =>
    intro pos h h1
    unfold idxFuncFrom
    by_cases hp : pos < s.size
    · rw [if_pos hp]
      obtain ⟨hw1, hw2, _, _⟩ := rune_at s pos hp
      have hc := dec_cases s pos hp
      generalize hd : Utf8.decode s pos = d at *
      have ih' := ih (pos + d.2) (by omega) hw2
      by_cases ho : oddB d.1 = true
      · rw [if_pos ho]
        constructor
        · intro _
          rcases hc with ⟨e1, e2, e3⟩ | ⟨e1, e2⟩
          · exact ⟨pos, Nat.le_refl _, hp, by rw [← e2]; exact ho⟩
          · rw [odd_high e1] at ho; cases ho
        · intro _; omega
      · rw [if_neg ho, ih']
        constructor
        · rintro ⟨i, h2, h3, h4⟩; exact ⟨i, by omega, h3, h4⟩
        · rintro ⟨i, h2, h3, h4⟩
          refine ⟨i, ?_, h3, h4⟩
          rcases Nat.lt_or_ge i (pos + d.2) with hlt | hge
          · exfalso
            rcases hc with ⟨e1, e2, e3⟩ | ⟨e1, e2⟩
            · obtain rfl : i = pos := by omega
              rw [← e2] at h4; exact ho h4
            · have := e2 (i - pos) (by omega)
              rw [show pos + (i - pos) = i by omega] at this
              rw [odd_high this] at h4; cases h4
          · exact hge
    · rw [if_neg hp]
      constructor
      · intro h; omega
      · rintro ⟨i, h2, h3, _⟩; omega
theorem odd_contains (s : ByteArray) : decide (0 ≤ idxFunc oddB true s) = !(s.data.toList.all (fun c => !oddB c.toNat)) := by
  have h := odd_idx s s.size 0 (by omega) (by omega)
  have hl : s.data.toList.length = s.size := by simp
  rw [Bool.eq_iff_iff, decide_eq_true_iff]
  unfold idxFunc
  rw [h]
  simp only [Bool.not_eq_true', List.all_eq_false, Bool.not_not]
  constructor
  · rintro ⟨i, _, h2, h3⟩
    have hi : i < s.data.toList.length := by omega
    refine ⟨s.data.toList[i], List.getElem_mem _, ?_⟩
    simp only [List.getD, List.getElem?_eq_getElem hi, Option.getD_some] at h3
    rw [h3]; decide
  · rintro ⟨c, hc, h3⟩
    obtain ⟨i, hi, rfl⟩ := List.getElem_of_mem hc
    refine ⟨i, by omega, by omega, ?_⟩
    simp only [List.getD, List.getElem?_eq_getElem hi, Option.getD_some]
    simpa using h3
end Go.Proofs.YticlppojbbocbaaDoor.Nm
