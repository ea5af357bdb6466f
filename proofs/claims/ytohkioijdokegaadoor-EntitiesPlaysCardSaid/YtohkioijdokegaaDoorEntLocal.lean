/- The reference's Local. -/
import Derived.Test.YtohkioijdokegaaDoorNameLocal
import Derived.Test.YtohkioijdokegaaDoorPEntitiesPlaysx5
namespace Go.Proofs.YtohkioijdokegaaDoor.Nm
open Go Go.Lib Go.Shelf Go.RowKit Go.Proofs.YtohkioijdokegaaDoorW.PrintWords Go.Proofs.YtohkioijdokegaaDoorW.PrintLast Go.Proofs.YtohkioijdokegaaDoor.Own Go.Proofs.YtohkioijdokegaaDoor.Srcw Go.Proofs.YtohkioijdokegaaDoor.PEntitiesPlays
set_option linter.unusedVariables false
set_option linter.unusedSimpArgs false

theorem rl_end (k : Nat) (s : ByteArray) (i : Int) (hi : ¬ i < (s.size : Int)) : hexaplaref04_Local.l0 (k + 1) s i = some true := by
  conv => lhs; unfold hexaplaref04_Local.l0
  rw [if_neg hi]
set_option maxHeartbeats 4000000 in
theorem rl_round (k : Nat) (s : ByteArray) (i b : Nat) (hi : i < s.size) (hb : bt s i = b) (hb1 : b < 256) (hi1 : i < 100) :
    hexaplaref04_Local.l0 (k + 1) s i = if okB i b = true then hexaplaref04_Local.l0 k s ((i + 1 : Nat) : Int) else some false := by
  conv => lhs; unfold hexaplaref04_Local.l0
  have hw : wrap64 ((i : Int) + 1) = ((i + 1 : Nat) : Int) := by unfold wrap64; omega
  rw [if_pos (by omega), if_pos (by omega), hb, hw]
  generalize hexaplaref04_Local.l0 k s ((i + 1 : Nat) : Int) = X
  unfold okB
  by_cases h : ((97 ≤ b ∧ b ≤ 122) ∨ (65 ≤ b ∧ b ≤ 90) ∨ b = 95 ∨ (0 < i ∧ ((48 ≤ b ∧ b ≤ 57) ∨ b = 45 ∨ b = 46)))
  · rw [decide_eq_true h, if_pos rfl]
    clear hw hb hi
    (repeat' split) <;> (first | rfl | (exfalso; first | omega | (simp at *; done) | (simp at *; omega)))
  · rw [decide_eq_false h]
    rw [if_neg (c := false = true) Bool.false_ne_true]
    clear hw hb hi
    (repeat' split) <;> (first | rfl | (exfalso; first | omega | (simp at *; done) | (simp at *; omega)))

theorem leo_ge {α : Type} {f : Nat → Option α} (hm : ∀ k, LeO (f k) (f (k + 1))) {k : Nat} {r : α} (h : f k = some r) : ∀ j, k ≤ j → f j = some r := by
  intro j hj
  induction j with
  | zero => obtain rfl : k = 0 := by omega
            exact h
  | succ j ih =>
    by_cases e : k = j + 1
    · rw [← e]; exact h
    · exact hm j r (ih (by omega))
theorem bt_at (s : ByteArray) (i : Nat) (h : i < s.size) : bt s (i : Int) = (((s.data.toList.getD i 0).toNat : Nat) : Int) := bt_get s i h

theorem rl_loop (s : ByteArray) (hs : s.size ≤ 16) : ∀ (d k i : Nat), i + d = s.size → d < k → okTo s.data.toList i = true → hexaplaref04_Local.l0 k s i = some (okTo s.data.toList s.size) := by
  intro d
  induction d with
  | zero =>
    intro k i hi hk ho
    obtain ⟨k, rfl⟩ : ∃ m, k = m + 1 := ⟨k - 1, by omega⟩
    rw [rl_end k s i (by omega)]
    obtain rfl : i = s.size := by omega
    rw [ho]
  | succ d ih =>
    intro k i hi hk ho
    obtain ⟨k, rfl⟩ : ∃ m, k = m + 1 := ⟨k - 1, by omega⟩
    rw [rl_round k s i (s.data.toList.getD i 0).toNat (by omega) (bt_at s i (by omega)) ((s.data.toList.getD i 0).toNat_lt) (by omega)]
    by_cases hb : okB i (s.data.toList.getD i 0).toNat = true
    · rw [if_pos hb]
      exact ih k (i + 1) (by omega) (by omega) (by unfold okTo; rw [ho, hb]; rfl)
    · rw [if_neg hb, okTo_false (n := i + 1) (by unfold okTo; rw [Bool.not_eq_true] at hb; rw [hb]; simp) s.size (by omega)]
theorem lj (k : Nat) (s : ByteArray) (b : Bool) : hexaplaref04_Local.j0 (k + 1) s b = if b = true then some false else hexaplaref04_Local.l0 k s 0 := by simp only [hexaplaref04_Local.j0]
theorem rlocal_is (s : ByteArray) (k : Nat) (hk : s.size + 3 ≤ k) : hexaplaref04_Local.f k s = some (localL s.data.toList) := by
  have hl : s.data.toList.length = s.size := size_data s
  obtain ⟨k, rfl⟩ : ∃ m, k = m + 1 := ⟨k - 1, by omega⟩
  unfold hexaplaref04_Local.f localL
  rw [hl]
  by_cases h0 : (s.size : Int) < 1
  · rw [if_pos h0, decide_eq_false (by omega)]
    rw [lj]
    rfl
  · rw [if_neg h0]
    rw [lj]
    by_cases h1 : s.size ≤ 16
    · rw [decide_eq_true (show 1 ≤ s.size ∧ s.size ≤ 16 by omega), decide_eq_false (show ¬ (s.size : Int) > 16 by omega), if_neg (c := false = true) Bool.false_ne_true, Bool.true_and]
      exact rl_loop s h1 s.size k 0 (by omega) (by omega) rfl
    · rw [decide_eq_false (show ¬ (1 ≤ s.size ∧ s.size ≤ 16) by omega), decide_eq_true (show (s.size : Int) > 16 by omega), if_pos rfl]
      rfl
theorem rlocal_calls (s : ByteArray) (w : World) : Calls Tryd.prog 27 #[.string s] w fun e w' => e = .returned (.bool (localL s.data.toList)) ∧ Below w.heap.size w w' := by
  refine (hexaplaref04_Local.calls (s.size + 3) s _ w (rlocal_is s _ (Nat.le_refl _))).mono ?_
  rintro e w' ⟨he, nd, hd⟩
  exact ⟨he, by rw [hd]; exact pw_below_drewN (Below.refl _ _) nd⟩
end Go.Proofs.YtohkioijdokegaaDoor.Nm
