/- entities: what a scan finds, in plain words. -/
import Derived.Test.YtohkioijdokegaaDoorEntF
namespace Go.Proofs.YtohkioijdokegaaDoor.En
open Go Go.Lib Go.RowKit Go.Proofs.YtohkioijdokegaaDoor.Own Go.Proofs.YtohkioijdokegaaDoor.Nm
set_option linter.unusedVariables false
set_option linter.unusedSimpArgs false
theorem okTo_iff (l : List UInt8) : ∀ n, okTo l n = true ↔ ∀ i, i < n → okB i (l.getD i 0).toNat = true := by
  intro n
  induction n with
  | zero => simp [okTo]
  | succ n ih =>
    rw [okTo, Bool.and_eq_true, ih]
    constructor
    · rintro ⟨h1, h2⟩ i hi
      by_cases e : i = n
      · subst e; exact h2
      · exact h1 i (by omega)
    · intro h
      exact ⟨fun i hi => h i (by omega), h n (by omega)⟩
theorem local_iff (l : List UInt8) : localL l = true ↔ (1 ≤ l.length ∧ l.length ≤ 16) ∧ ∀ i, i < l.length → okB i (l.getD i 0).toNat = true := by
  unfold localL
  rw [Bool.and_eq_true, decide_eq_true_iff, okTo_iff]
theorem local_pre {a b : List UInt8} (h : localL (a ++ b) = true) (ha : a ≠ []) : localL a = true := by
  rw [local_iff] at h ⊢
  obtain ⟨⟨h1, h2⟩, h3⟩ := h
  rw [List.length_append] at h2 h3
  have : a.length ≠ 0 := fun e => ha (List.length_eq_zero_iff.1 e)
  refine ⟨⟨by omega, by omega⟩, fun i hi => ?_⟩
  have := h3 i (by omega)
  rwa [List.getD_eq_getElem?_getD, List.getElem?_append_left hi, ← List.getD_eq_getElem?_getD] at this
theorem ok_59 (i : Nat) : okB i 59 = false := by
  unfold okB
  rw [decide_eq_false]
  omega
theorem local_59 {l : List UInt8} (h : localL l = true) : ∀ c ∈ l, c ≠ 59 := by
  intro c hc e
  subst e
  rw [local_iff] at h
  obtain ⟨i, hi, h1⟩ := List.getElem_of_mem hc
  have := h.2 i hi
  rw [List.getD_eq_getElem?_getD, List.getElem?_eq_getElem hi, h1] at this
  rw [show (Option.getD (some (59 : UInt8)) 0).toNat = 59 from rfl, ok_59] at this
  cases this
theorem scan_name (r : List UInt8) : ∀ (rest acc : List UInt8), localL (acc ++ rest) = true → scanR acc (rest ++ 59 :: r) = (acc ++ rest, true) := by
  intro rest
  induction rest with
  | nil =>
    intro acc h
    rw [List.append_nil] at h ⊢
    exact scan_hit (fun e => by subst e; cases h)
  | cons c t ih =>
    intro acc h
    have hc : c ≠ 59 := local_59 h c (by simp)
    have e : acc ++ c :: t = (acc ++ [c]) ++ t := by simp
    rw [List.cons_append, scan_next (fun h => hc h.1) (local_pre (b := t) (by rw [← e]; exact h) (by simp)), ih (acc ++ [c]) (by rw [← e]; exact h), e]
/-- A reference to a name, from where the text stands at its '&'. -/
theorem fill_ref {k p : Nat} {nm r out : List UInt8} {s s' : ES} {t : ByteArray} (h : localL nm = true) (hg : getE s (str nm) = (t, 0, s')) : fillB (k + 1) p (38 :: (nm ++ 59 :: r)) out s = fillB k (p + 1 + nm.length + 1) r (out ++ t.data.toList) s' := by
  rw [fill_ok (scan_name r nm [] h) hg]
  rw [← List.drop_drop, List.nil_append, List.drop_left, List.drop_one]
  rfl
theorem fill_refx {k p : Nat} {nm r out : List UInt8} {s s' : ES} {t : ByteArray} {x : Int} (h : localL nm = true) (hg : getE s (str nm) = (t, x, s')) (hx : x ≠ 0) : fillB (k + 1) p (38 :: (nm ++ 59 :: r)) out s = ([], x, p + 1 + nm.length, s') := by
  rw [fill_err (scan_name r nm [] h) hg hx]
  rfl
/-- A text, and a reference behind it. -/
theorem fill_tell {nm fr : List UInt8} {s s' : ES} {t : ByteArray} (h : localL nm = true) (hf : ∀ c ∈ fr, c ≠ 38) (hg : getE s (str nm) = (t, 0, s')) : fillE s (fr ++ 38 :: (nm ++ [59])) = (fr ++ t.data.toList, 0, (fr ++ 38 :: (nm ++ [59])).length, s') := by
  unfold fillE
  have e : (fr ++ 38 :: (nm ++ [59])).length + 1 = (nm.length + 1 + 1 + 1) + fr.length := by simp; omega
  rw [e, fill_skip fr _ _ _ _ _ hf, fill_ref h hg]
  rw [fillB]
  simp
  omega
theorem fill_tellx {nm fr : List UInt8} {s s' : ES} {t : ByteArray} {x : Int} (h : localL nm = true) (hf : ∀ c ∈ fr, c ≠ 38) (hg : getE s (str nm) = (t, x, s')) (hx : x ≠ 0) : ∃ p, fillE s (fr ++ 38 :: (nm ++ [59])) = ([], x, p, s') := by
  unfold fillE
  have e : (fr ++ 38 :: (nm ++ [59])).length + 1 = (nm.length + 1 + 1 + 1) + fr.length := by simp; omega
  rw [e, fill_skip fr _ _ _ _ _ hf, fill_refx h hg hx]
  exact ⟨_, rfl⟩
end Go.Proofs.YtohkioijdokegaaDoor.En
