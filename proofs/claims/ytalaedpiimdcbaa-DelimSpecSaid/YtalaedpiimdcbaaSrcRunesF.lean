/- A text's characters in plain words. -/
import Derived.Lib.ValidLaws
namespace Go.Proofs.Ytalaedpiimdcbaa.Srcw
open Go.Lib

/-- The characters that the model's decoder finds, one behind the other. -/
def runesGo : Nat → List UInt8 → List Int
  | 0, _ => []
  | n + 1, l => if l = [] then [] else ((decodeL l).1 : Int) :: runesGo n (l.drop (decodeL l).2)
def runesR (l : List UInt8) : List Int := runesGo l.length l

theorem runesGo_nil : ∀ n, runesGo n [] = []
  | 0 => rfl
  | _ + 1 => by simp [runesGo]
theorem runesGo_fuel : ∀ (n m : Nat) (l : List UInt8), l.length ≤ n → l.length ≤ m → runesGo n l = runesGo m l
  | 0, m, l, hn, _ => by
    have : l = [] := List.eq_nil_of_length_eq_zero (by omega)
    subst this; rw [runesGo_nil, runesGo_nil]
  | n + 1, 0, l, _, hm => by
    have : l = [] := List.eq_nil_of_length_eq_zero (by omega)
    subst this; rw [runesGo_nil, runesGo_nil]
  | n + 1, m + 1, l, hn, hm => by
    unfold runesGo
    by_cases hne : l = []
    · simp [hne]
    · have hw := decodeL_width l
      have hl : 0 < l.length := List.length_pos_iff.2 hne
      rw [if_neg hne, if_neg hne, runesGo_fuel n m _ (by rw [List.length_drop]; omega) (by rw [List.length_drop]; omega)]
theorem runesR_nil : runesR [] = [] := rfl
theorem runesR_step (l : List UInt8) (hne : l ≠ []) : runesR l = ((decodeL l).1 : Int) :: runesR (l.drop (decodeL l).2) := by
  have hw := decodeL_width l
  have hl : 0 < l.length := List.length_pos_iff.2 hne
  unfold runesR
  obtain ⟨n, hn⟩ : ∃ n, l.length = n + 1 := ⟨l.length - 1, by omega⟩
  rw [hn]
  conv => lhs; unfold runesGo
  rw [if_neg hne, runesGo_fuel n _ _ (by rw [List.length_drop]; omega) (Nat.le_refl _)]
theorem runesR_len (n : Nat) : ∀ (l : List UInt8), l.length ≤ n → (runesR l).length ≤ l.length := by
  induction n with
  | zero =>
    intro l h
    have : l = [] := List.eq_nil_of_length_eq_zero (by omega)
    subst this; simp [runesR_nil]
  | succ n ih =>
    intro l h
    by_cases hne : l = []
    · subst hne; simp [runesR_nil]
    · have hw := decodeL_width l
      have hl : 0 < l.length := List.length_pos_iff.2 hne
      rw [runesR_step l hne, List.length_cons]
      have := ih (l.drop (decodeL l).2) (by rw [List.length_drop]; omega)
      rw [List.length_drop] at this
      omega
/-- A character is read at a place. -/
theorem rune_at (s : ByteArray) (pos : Nat) (hlt : pos < s.size) : 1 ≤ (Utf8.decode s pos).2 ∧ pos + (Utf8.decode s pos).2 ≤ s.size ∧ (Utf8.decode s pos).1 ≤ 1114111 ∧
    runesR (s.data.toList.drop pos) = ((Utf8.decode s pos).1 : Int) :: runesR (s.data.toList.drop (pos + (Utf8.decode s pos).2)) := by
  have hl : s.data.toList.length = s.size := by simp
  have hd : decodeL (s.data.toList.drop pos) = Utf8.decode s pos := decodeL_drop s pos
  have hne : s.data.toList.drop pos ≠ [] := by
    intro h; have := congrArg List.length h; rw [List.length_drop, hl] at this; simp at this; omega
  have hle := decodeL_le _ hne
  have hst := runesR_step _ hne
  rw [List.length_drop, hl, hd] at hle
  rw [hd, List.drop_drop] at hst
  exact ⟨width_pos s pos, by omega, rune_le s pos, hst⟩
/-- A text's characters; of one that has none nothing. -/
def charsL (l : List UInt8) : List Int := if validD l then runesR l else []
end Go.Proofs.Ytalaedpiimdcbaa.Srcw
