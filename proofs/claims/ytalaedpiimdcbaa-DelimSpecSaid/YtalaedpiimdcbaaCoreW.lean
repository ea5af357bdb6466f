/- pull.Core over a machine: what is fed, as plain functions; the scan's step; met. -/
import Derived.Test.YtalaedpiimdcbaaDelT
namespace Go.Proofs.Ytalaedpiimdcbaa.Cr
open Go Go.Lib Go.RowKit Go.Proofs.YtalaedpiimdcbaaW.PrintWords Go.Proofs.YtalaedpiimdcbaaW.PrintLast Go.Proofs.Ytalaedpiimdcbaa.Own Go.Proofs.Ytalaedpiimdcbaa.Hp Go.Proofs.Ytalaedpiimdcbaa.Srcw Go.Proofs.Ytalaedpiimdcbaa.Dl
set_option linter.unusedVariables false
set_option linter.unusedSimpArgs false
/-- A decoder. -/
structure DS where
  m : MS
  c : CS
def DS.new : DS := ⟨MS.new, CS.new⟩
def CS.scan (c : CS) (r : Bool × Int × Int × Int) : CS := { c with l := r.2.1, a := r.2.2.1, t := r.2.2.2 }
def CS.fail (c : CS) (x : Int) : CS := { c with over := true, err := x }
def stepD (d : DS) (b : UInt8) : DS :=
  if d.c.over = true then d
  else if (stepF d.c.l d.c.a d.c.t b.toNat).1 = false then ⟨d.m, (d.c.scan (stepF d.c.l d.c.a d.c.t b.toNat)).fail 3⟩
  else if (stepM d.m b).2.2 = 0 then ⟨(stepM d.m b).1, { d.c.scan (stepF d.c.l d.c.a d.c.t b.toNat) with q := d.c.q ++ (stepM d.m b).2.1, at_ := d.c.at_ + 1 }⟩
  else ⟨(stepM d.m b).1, ({ d.c.scan (stepF d.c.l d.c.a d.c.t b.toNat) with q := d.c.q ++ (stepM d.m b).2.1 } : CS).fail (stepM d.m b).2.2⟩
def feedD (d : DS) (l : List UInt8) : DS := l.foldl stepD d
def closeD (d : DS) : DS :=
  if d.c.closed = true ∨ d.c.over = true then ⟨d.m, { d.c with closed := true }⟩
  else if d.c.l ≠ 0 then ⟨d.m, ({ d.c with closed := true } : CS).fail 3⟩
  else ⟨(endM d.m).1, ({ d.c with closed := true, q := d.c.q ++ (endM d.m).2.1 } : CS).fail (endM d.m).2.2⟩
/-- What holds of a decoder that was fed n bytes. -/
structure DOK (n : Nat) (d : DS) : Prop where
  ok : d.c.over = false → MOK d.m
  q : d.c.q.length ≤ stepMax * n
  at_ : 0 ≤ d.c.at_ ∧ d.c.at_ ≤ n
  l : d.c.l ≤ 3
theorem DOK.new : DOK 0 DS.new := ⟨fun _ => MOK.new, Nat.zero_le _, by decide, by decide⟩
theorem stepF_l {l a t b : Int} (h : l ≤ 3) : (stepF l a t b).2.1 ≤ 3 := by
  unfold stepF leadF
  repeat' split
  all_goals (try simp only)
  all_goals (first | omega | (repeat' split) <;> omega)
theorem DOK.step {n : Nat} {d : DS} (h : DOK n d) (b : UInt8) : DOK (n + 1) (stepD d b) := by
  unfold stepD
  by_cases h1 : d.c.over = true
  · rw [if_pos h1]
    exact ⟨h.ok, by have := h.q; rw [Nat.mul_add]; omega, by have := h.at_; omega, h.l⟩
  rw [if_neg h1]
  have h1' : d.c.over = false := by simpa using h1
  have hl : (stepF d.c.l d.c.a d.c.t b.toNat).2.1 ≤ 3 := stepF_l h.l
  by_cases h2 : (stepF d.c.l d.c.a d.c.t b.toNat).1 = false
  · rw [if_pos h2]
    exact ⟨(fun h => by cases h), by have := h.q; show d.c.q.length ≤ _; rw [Nat.mul_add]; omega, by have := h.at_; show 0 ≤ d.c.at_ ∧ d.c.at_ ≤ _; omega, hl⟩
  rw [if_neg h2]
  have hsl := step_len d.m b
  by_cases h3 : (stepM d.m b).2.2 = 0
  · rw [if_pos h3]
    refine ⟨fun _ => step_ok (h.ok h1') b h3, ?_, ?_, hl⟩
    · show (d.c.q ++ (stepM d.m b).2.1).length ≤ _
      have := h.q; rw [List.length_append, Nat.mul_add]; omega
    · show 0 ≤ d.c.at_ + 1 ∧ d.c.at_ + 1 ≤ _
      have := h.at_; omega
  · rw [if_neg h3]
    refine ⟨(fun h => by cases h), ?_, ?_, hl⟩
    · show (d.c.q ++ (stepM d.m b).2.1).length ≤ _
      have := h.q; rw [List.length_append, Nat.mul_add]; omega
    · show 0 ≤ d.c.at_ ∧ d.c.at_ ≤ _
      have := h.at_; omega
theorem DOK.feed {n : Nat} {d : DS} (h : DOK n d) (l : List UInt8) : DOK (n + l.length) (feedD d l) := by
  induction l generalizing n d with
  | nil => exact h
  | cons b r ih =>
    have := ih (h.step b)
    rw [Nat.add_assoc, Nat.add_comm 1] at this
    exact this
theorem feed_over {d : DS} (h : d.c.over = true) (l : List UInt8) : feedD d l = d := by
  induction l with
  | nil => rfl
  | cons b r ih =>
    show feedD (stepD d b) r = d
    have : stepD d b = d := by unfold stepD; rw [if_pos h]
    rw [this]; exact ih
theorem feed_app (d : DS) (l m : List UInt8) : feedD d (l ++ m) = feedD (feedD d l) m := List.foldl_append
theorem feed_succ (d : DS) (l : List UInt8) (i : Nat) (h : i < l.length) : feedD d (l.take (i + 1)) = stepD (feedD d (l.take i)) l[i] := by
  rw [List.take_succ_eq_append_getElem h, feed_app]; rfl
/-- Over at i: over for good. -/
theorem feed_stop {d : DS} {l : List UInt8} {i : Nat} (h : (feedD d (l.take i)).c.over = true) : feedD d (l.take i) = feedD d l := by
  conv => rhs; rw [← List.take_append_drop i l, feed_app]
  rw [feed_over h]
/-- Bytes that are read: their block is none of F. -/
def Rd8 (F : Nat → Prop) (w : World) (A : Option Addr) (l : List UInt8) : Prop := ∀ i (h : i < l.length), ∃ ad, A = some ad ∧ ¬ F ad.block ∧ w.cell? (ad.add i) = some (.int .u8 (l[i].toNat : Int))
theorem Rd8.ch {F : Nat → Prop} {w w1 : World} {A : Option Addr} {l : List UInt8} {T : Option Nat → Prop} (h : Rd8 F w A l) (hc : Ch T F w w1) : Rd8 (ext F w) w1 A l := fun i hi => by
  obtain ⟨ad, h1, h2, h3⟩ := h i hi
  have hlt : (ad.add i).block < w.heap.size := World.block_lt_of_cell? w _ h3
  have hb := add_block ad i
  rw [hb] at hlt
  have he : w.heap[ad.block]? = some (w.heap[ad.block]'hlt) := Array.getElem?_eq_getElem hlt
  refine ⟨ad, h1, fun h4 => ?_, ?_⟩
  · rcases h4 with h4 | h4
    · exact h2 h4
    · omega
  · rw [World.cell?_of_block (w := w) (by rw [hb, he]; exact hc.block _ _ he (fun h5 => h2 h5.1))]
    exact h3
theorem Rd8.mono {F F' : Nat → Prop} {w : World} {A : Option Addr} {l : List UInt8} (h : Rd8 F w A l) (hF : ∀ k, F' k → F k) : Rd8 F' w A l := fun i hi => by
  obtain ⟨ad, h1, h2, h3⟩ := h i hi
  exact ⟨ad, h1, fun h4 => h2 (hF _ h4), h3⟩
section
variable {F : Nat → Prop} {w : World} {g gM gS : Nat} {m : MS} {c : CS}
theorem scan_calls (b : UInt8) (h : IsC F w g gM gS c) (hl : c.l ≤ 3) :
    Calls Try.prog 20 #[ptr gS, .int .u8 (b.toNat : Int)] w fun e w' => e = .returned (.bool (stepF c.l c.a c.t b.toNat).1) ∧ IsC F w' g gM gS (c.scan (stepF c.l c.a c.t b.toNat)) ∧ Ch coreT F w w' := by
  have hb := b.toNat_lt
  refine (Srcw.step_calls gS c.l c.a c.t b.toNat { w with heap := #[] } w h.scan ⟨rfl, rfl, rfl, Nat.zero_le _, fun k hk => absurd hk (Nat.not_lt_zero _)⟩ (Nat.zero_le _) (by omega) (by omega) hl).mono ?_
  rintro e w' ⟨rfl, hs, hB, hk⟩
  have hc : Ch (fun t => t = some 78) F w w' := ⟨hB.os, hB.tape, hB.output, hk.1, fun k o h1 h2 => by
    by_cases hkg : k = gS
    · subst hkg
      rw [h.scan] at h1
      injection h1 with h1
      subst h1
      exact absurd ⟨h.fS, rfl⟩ h2
    · exact (hk.2 k (blk_lt h1) hkg (by simp)).trans h1⟩
  obtain ⟨qv, h1, h2⟩ := h.core
  exact ⟨rfl, ⟨h.fg, h.fS, ⟨qv, hc.blk h1 (fun h3 => absurd h3.2 (by decide)), h2.ch hc (by decide)⟩, hs⟩, hc.mono (fun t ht => .inr (.inr ht)) (fun _ h => h)⟩
set_option maxHeartbeats 4000000 in
set_option maxRecDepth 100000 in
theorem whole_calls (h : IsC F w g gM gS c) : Calls Try.prog 25 #[ptr gS] w fun e w' => e = .returned (.bool (decide (c.l = 0))) ∧ w' = w := by
  have hs : w.heap[gS]? = some (.cells #[.int .i64 c.l, .int .u8 c.a, .int .u8 c.t] 78 (0, 0)) := h.scan
  have c0 : w.cell? ⟨gS, 0, none⟩ = some (.int .i64 c.l) := (blk_cell hs 0).trans rfl
  clear h hs
  go_enter Try.func25, Try.ntmps25
  go_wp2
  go_ret
  exact ⟨congrArg (fun q => Ending.returned (.bool q)) (by by_cases hz : c.l = 0 <;> simp [hz]), rfl⟩
end
end Go.Proofs.Ytalaedpiimdcbaa.Cr
