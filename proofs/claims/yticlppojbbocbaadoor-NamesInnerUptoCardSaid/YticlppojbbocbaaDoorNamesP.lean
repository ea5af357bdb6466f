/- Full names in plain words: cut and joined. -/
import Derived.Test.YticlppojbbocbaaDoorNamesF
import Derived.Lib.IndexLaws
import Derived.Lib.IndexBytes
namespace Go.Proofs.YticlppojbbocbaaDoor.Nm
open Go.Lib Go.Proofs.YticlppojbbocbaaDoor.Srcw
set_option linter.unusedVariables false
set_option linter.unusedSimpArgs false

theorem ix_app (a b : List UInt8) (h : (125 : UInt8) ∉ a) : indexByte (a ++ 125 :: b) 125 = a.length := by
  induction a with
  | nil => simp [indexByte]
  | cons x r ih =>
    have hx : ¬ x = 125 := fun e => h (by simp [e])
    have hr : (125 : UInt8) ∉ r := fun e => h (by simp [e])
    have hb : (x == (125 : UInt8)) = false := by simpa using hx
    rw [List.cons_append, indexByte, ih hr, hb]
    simp only [Bool.false_eq_true, if_false, List.length_cons]
    have : ((r.length : Int) == -1) = false := by rw [beq_eq_false_iff_ne]; omega
    rw [this]
    simp
theorem space_parts {a : List UInt8} (h : spaceL a = true) : validD a = true ∧ 1 ≤ a.length ∧ a.length ≤ 48 ∧ (125 : UInt8) ∉ a ∧ a.all (fun c => !oddB c.toNat) = true := by
  unfold spaceL at h
  simp only [Bool.and_eq_true, decide_eq_true_eq] at h
  obtain ⟨⟨h1, h2, h3⟩, h4⟩ := h
  refine ⟨h1, h2, h3, fun hm => ?_, h4⟩
  have := List.all_eq_true.1 h4 _ hm
  revert this
  decide
theorem local_parts {b : List UInt8} (h : localL b = true) : 1 ≤ b.length ∧ b.length ≤ 16 ∧ b.head? ≠ some 123 := by
  unfold localL at h
  simp only [Bool.and_eq_true, decide_eq_true_eq] at h
  refine ⟨h.1.1, h.1.2, fun he => ?_⟩
  have h0 : okTo b 1 = false := by
    unfold okTo
    have : (b.getD 0 0) = 123 := by
      cases b with
      | nil => simp at he
      | cons x r => simpa using he
    rw [this]
    rfl
  rw [okTo_false h0 b.length h.1.1] at h
  simp at h
theorem full_len (a b : List UInt8) : (fullL a b).length = if a = [] then b.length else a.length + b.length + 2 := by
  unfold fullL
  split
  · rfl
  · simp; omega
theorem cut_full {a b : List UInt8} (ha : a = [] ∨ spaceL a = true) (hb : localL b = true) (hl : (fullL a b).length ≤ 48) : cutL (fullL a b) = (a, b, true) := by
  unfold cutL
  by_cases h0 : a = []
  · subst h0
    have hf : fullL [] b = b := by simp [fullL]
    rw [hf, if_neg (fun h => (local_parts hb).2.2 h.2), if_pos hb]
  · have hs : spaceL a = true := ha.resolve_left h0
    obtain ⟨_, _, _, hn, _⟩ := space_parts hs
    have hf : fullL a b = 123 :: (a ++ 125 :: b) := by simp [fullL, h0]
    rw [hf] at hl ⊢
    have hix : indexByte ((123 :: (a ++ 125 :: b)).drop 1) 125 = a.length := ix_app a b hn
    rw [if_pos ⟨hl, rfl⟩, hix, if_pos (by omega)]
    have ht : ((123 :: (a ++ 125 :: b)).drop 1).take ((a.length : Int)).toNat = a := by simp
    have hd : ((123 :: (a ++ 125 :: b)).drop 1).drop (((a.length : Int)).toNat + 1) = b := by simp
    rw [ht, hd, hs, hb]
    simp
theorem ix_split {r : List UInt8} (h : 0 ≤ indexByte r 125) : r = r.take (indexByte r 125).toNat ++ 125 :: r.drop ((indexByte r 125).toNat + 1) := by
  obtain ⟨k, hk⟩ := Int.eq_ofNat_of_zero_le h
  obtain ⟨h1, _⟩ := indexByte_some hk
  rw [hk, Int.toNat_natCast]
  obtain ⟨hlt, he⟩ := List.getElem?_eq_some_iff.1 h1
  rw [← he, List.getElem_cons_drop, List.take_append_drop]
theorem cut_some {l a b : List UInt8} (h : cutL l = (a, b, true)) : (a = [] ∨ spaceL a = true) ∧ localL b = true ∧ l = fullL a b ∧ l.length ≤ 48 := by
  unfold cutL at h
  split at h
  · rename_i h1
    split at h
    · rename_i h2
      split at h
      · rename_i h3
        rw [Bool.and_eq_true] at h3
        simp only [Prod.mk.injEq, and_true] at h
        obtain ⟨rfl, rfl⟩ := h
        refine ⟨.inr h3.1, h3.2, ?_, h1.1⟩
        have hne : ((l.drop 1).take (indexByte (l.drop 1) 125).toNat) ≠ [] := by
          intro e
          have := (space_parts h3.1).2.1
          rw [e] at this
          simp at this
        unfold fullL
        rw [if_neg hne]
        have hl : l = 123 :: l.drop 1 := by
          cases l with
          | nil => simp at h1
          | cons x r => simp at h1; simp [h1.2]
        have hs := ix_split h2
        conv => lhs; rw [hl, hs]
        simp
      · simp at h
    · simp at h
  · split at h
    · rename_i h1 h2
      simp only [Prod.mk.injEq, and_true] at h
      obtain ⟨rfl, rfl⟩ := h
      exact ⟨.inl rfl, h2, by simp [fullL], by have := (local_parts h2).2.1; omega⟩
    · simp at h
theorem cut_none {l : List UInt8} (h : (cutL l).2.2 = false) : cutL l = ([], [], false) := by
  unfold cutL at h ⊢
  by_cases h1 : l.length ≤ 48 ∧ l.head? = some 123
  · rw [if_pos h1] at h ⊢
    by_cases h2 : 0 ≤ indexByte (l.drop 1) 125
    · rw [if_pos h2] at h ⊢
      split at h
      · simp at h
      · rename_i h3; rw [if_neg h3]
    · rw [if_neg h2]
  · rw [if_neg h1] at h ⊢
    split at h
    · simp at h
    · rename_i h3; rw [if_neg h3]
theorem join_some {a b s : List UInt8} (h : joinL a b = (s, true)) : cutL s = (a, b, true) ∧ s = fullL a b := by
  unfold joinL at h
  split at h
  · rename_i h1
    simp only [Bool.and_eq_true, decide_eq_true_eq, Bool.or_eq_true, beq_iff_eq] at h1
    simp only [Prod.mk.injEq, and_true] at h
    subst h
    exact ⟨cut_full h1.1.2 h1.1.1 h1.2, rfl⟩
  · simp at h
theorem join_none {a b : List UInt8} (h : (joinL a b).2 = false) : joinL a b = ([], false) := by
  unfold joinL at h ⊢
  split at h
  · simp at h
  · rename_i h1; rw [if_neg h1]
theorem join_cut {l a b : List UInt8} (h : cutL l = (a, b, true)) : joinL a b = (l, true) := by
  obtain ⟨h1, h2, h3, h4⟩ := cut_some h
  unfold joinL
  rw [h3] at h4
  rw [if_pos (by simp only [Bool.and_eq_true, decide_eq_true_eq, Bool.or_eq_true, beq_iff_eq]; exact ⟨⟨h2, h1⟩, h4⟩), ← h3]
/-- What the program's Join asks. -/
theorem join_ask (a b : List UInt8) : joinL a b = if cutL (fullL a b) = (a, b, true) then (fullL a b, true) else ([], false) := by
  split
  · rename_i h; exact join_cut h
  · rename_i h
    unfold joinL
    split
    · rename_i h1
      simp only [Bool.and_eq_true, decide_eq_true_eq, Bool.or_eq_true, beq_iff_eq] at h1
      exact absurd (cut_full h1.1.2 h1.1.1 h1.2) h
    · rfl
/-- What the program's Cut asks: behind a brace. -/
theorem cut_brace {l : List UInt8} (h : l.head? = some 123) : cutL l = if 0 ≤ indexByte (l.drop 1) 125 ∧ spaceL ((l.drop 1).take (indexByte (l.drop 1) 125).toNat) = true ∧ localL ((l.drop 1).drop ((indexByte (l.drop 1) 125).toNat + 1)) = true ∧ l.length ≤ 48 then
    ((l.drop 1).take (indexByte (l.drop 1) 125).toNat, (l.drop 1).drop ((indexByte (l.drop 1) 125).toNat + 1), true) else ([], [], false) := by
  unfold cutL
  by_cases h1 : l.length ≤ 48
  · rw [if_pos ⟨h1, h⟩]
    by_cases h2 : 0 ≤ indexByte (l.drop 1) 125
    · rw [if_pos h2]
      by_cases h3 : spaceL ((l.drop 1).take (indexByte (l.drop 1) 125).toNat) = true ∧ localL ((l.drop 1).drop ((indexByte (l.drop 1) 125).toNat + 1)) = true
      · rw [if_pos (by rw [Bool.and_eq_true]; exact h3), if_pos ⟨h2, h3.1, h3.2, h1⟩]
      · rw [if_neg (by rw [Bool.and_eq_true]; exact h3), if_neg (fun h => h3 ⟨h.2.1, h.2.2.1⟩)]
    · rw [if_neg h2, if_neg (fun h => h2 h.1)]
  · rw [if_neg (fun h => h1 h.1), if_neg (by rw [local_long (l := l) (by omega)]; simp), if_neg (fun h => h1 h.2.2.2)]
theorem cut_bare {l : List UInt8} (h : l.head? ≠ some 123) : cutL l = if localL l = true ∧ l.length ≤ 48 then ([], l, true) else ([], [], false) := by
  unfold cutL
  rw [if_neg (fun h1 => h h1.2)]
  by_cases h2 : localL l = true
  · rw [if_pos h2, if_pos ⟨h2, by have := (local_parts h2).2.1; omega⟩]
  · rw [if_neg h2, if_neg (fun h => h2 h.1)]
theorem apart {x y p q r s : List UInt8} (hx : cutL x = (p, q, true)) (hy : cutL y = (r, s, true)) : x = y ↔ (p = r ∧ q = s) := by
  constructor
  · intro e
    subst e
    rw [hx] at hy
    simp only [Prod.mk.injEq, and_true] at hy
    exact hy
  · rintro ⟨rfl, rfl⟩
    rw [(cut_some hx).2.2.1, (cut_some hy).2.2.1]
end Go.Proofs.YticlppojbbocbaaDoor.Nm
