/- What is told and where one is, while bytes are fed: plain laws. -/
import Derived.Test.YtalaedpiimdcbaaCoreW
namespace Go.Proofs.Ytalaedpiimdcbaa.Cr
open Go Go.Proofs.Ytalaedpiimdcbaa.Own Go.Proofs.Ytalaedpiimdcbaa.Hp Go.Proofs.Ytalaedpiimdcbaa.Srcw Go.Proofs.Ytalaedpiimdcbaa.Dl
set_option linter.unusedVariables false
set_option linter.unusedSimpArgs false
theorem step_pre (d : DS) (b : UInt8) : d.c.q <+: (stepD d b).c.q := by
  unfold stepD
  by_cases h1 : d.c.over = true
  · rw [if_pos h1]; exact List.prefix_refl _
  rw [if_neg h1]
  by_cases h2 : (stepF d.c.l d.c.a d.c.t b.toNat).1 = false
  · rw [if_pos h2]; exact List.prefix_refl _
  rw [if_neg h2]
  by_cases h3 : (stepM d.m b).2.2 = 0
  · rw [if_pos h3]; exact List.prefix_append _ _
  · rw [if_neg h3]; exact List.prefix_append _ _
theorem feed_pre (d : DS) (l : List UInt8) : d.c.q <+: (feedD d l).c.q := by
  induction l generalizing d with
  | nil => exact List.prefix_refl _
  | cons b r ih => exact (step_pre d b).trans (ih _)
theorem close_pre (d : DS) : d.c.q <+: (closeD d).c.q := by
  unfold closeD
  by_cases h1 : d.c.closed = true ∨ d.c.over = true
  · rw [if_pos h1]; exact List.prefix_refl _
  rw [if_neg h1]
  by_cases h2 : d.c.l ≠ 0
  · rw [if_pos h2]; exact List.prefix_refl _
  · rw [if_neg h2]; exact List.prefix_append _ _
/-- What holds while one feeds: no error but at the end; where one is. -/
structure Going (n : Nat) (d : DS) : Prop where
  at_ : 0 ≤ d.c.at_ ∧ d.c.at_ ≤ n
  stop : d.c.over = true → d.c.at_ < n ∧ d.c.err ≠ 0
  open_ : d.c.over = false → d.c.err = 0 ∧ d.c.at_ = n
  told : d.c.told = false
  closed : d.c.closed = false
theorem Going.new : Going 0 DS.new := ⟨by decide, (fun h => by cases h), (fun _ => ⟨rfl, rfl⟩), rfl, rfl⟩
theorem Going.step {n : Nat} {d : DS} (h : Going n d) (b : UInt8) : Going (n + 1) (stepD d b) := by
  unfold stepD
  have ha := h.at_
  by_cases h1 : d.c.over = true
  · rw [if_pos h1]
    have := h.stop h1
    exact ⟨by omega, fun _ => ⟨by omega, this.2⟩, fun h2 => absurd h1 (by rw [h2]; decide), h.told, h.closed⟩
  rw [if_neg h1]
  have ho := h.open_ (by simpa using h1)
  by_cases h2 : (stepF d.c.l d.c.a d.c.t b.toNat).1 = false
  · rw [if_pos h2]
    exact ⟨by show 0 ≤ d.c.at_ ∧ d.c.at_ ≤ _; omega, fun _ => ⟨by show d.c.at_ < _; omega, by show (3 : Int) ≠ 0; decide⟩, (fun h => by cases h), h.told, h.closed⟩
  rw [if_neg h2]
  by_cases h3 : (stepM d.m b).2.2 = 0
  · rw [if_pos h3]
    exact ⟨by show 0 ≤ d.c.at_ + 1 ∧ d.c.at_ + 1 ≤ _; omega, fun h4 => absurd h4 h1, fun _ => ⟨ho.1, by show d.c.at_ + 1 = _; omega⟩, h.told, h.closed⟩
  · rw [if_neg h3]
    exact ⟨by show 0 ≤ d.c.at_ ∧ d.c.at_ ≤ _; omega, fun _ => ⟨by show d.c.at_ < _; omega, h3⟩, (fun h => by cases h), h.told, h.closed⟩
theorem Going.feed {n : Nat} {d : DS} (h : Going n d) (l : List UInt8) : Going (n + l.length) (feedD d l) := by
  induction l generalizing n d with
  | nil => exact h
  | cons b r ih =>
    have := ih (h.step b)
    rw [Nat.add_assoc, Nat.add_comm 1] at this
    exact this
theorem feed_split (d : DS) (l : List UInt8) (k : Nat) : feedD d l = feedD (feedD d (l.take k)) (l.drop k) := by
  conv => lhs; rw [← List.take_append_drop k l, feed_app]
/-- All of a text. -/
def dec (l : List UInt8) : DS := closeD (feedD DS.new l)
theorem dec_over {l : List UInt8} {k : Nat} (h : (feedD DS.new (l.take k)).c.over = true) : dec l = closeD (feedD DS.new (l.take k)) := by
  unfold dec
  rw [feed_split DS.new l k, feed_over h]
theorem close_over {d : DS} (h : d.c.over = true) : closeD d = ⟨d.m, { d.c with closed := true }⟩ := by unfold closeD; rw [if_pos (.inr h)]
theorem dec_pre (l : List UInt8) (k : Nat) : (feedD DS.new (l.take k)).c.q <+: (dec l).c.q := by
  unfold dec
  rw [feed_split DS.new l k]
  exact (feed_pre _ _).trans (close_pre _)
theorem dec_len (l : List UInt8) : (dec l).c.q.length ≤ stepMax * l.length + 10 := by
  have h := (DOK.new.feed l).q
  rw [Nat.zero_add] at h
  unfold dec closeD
  by_cases h1 : (feedD DS.new l).c.closed = true ∨ (feedD DS.new l).c.over = true
  · rw [if_pos h1]; show (feedD DS.new l).c.q.length ≤ _; omega
  rw [if_neg h1]
  by_cases h2 : (feedD DS.new l).c.l ≠ 0
  · rw [if_pos h2]; show (feedD DS.new l).c.q.length ≤ _; omega
  · rw [if_neg h2]
    show ((feedD DS.new l).c.q ++ (endM (feedD DS.new l).m).2.1).length ≤ _
    have := end_len (feedD DS.new l).m
    rw [List.length_append]; omega
end Go.Proofs.Ytalaedpiimdcbaa.Cr
