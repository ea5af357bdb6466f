/- The law DelimQuotes: what a cell says, quoted and plain: plain laws. -/
import Derived.Test.YtalaedpiimdcbaaCoreP
namespace Go.Proofs.Ytalaedpiimdcbaa.Lw
open Go Go.Proofs.Ytalaedpiimdcbaa.Own Go.Proofs.Ytalaedpiimdcbaa.Hp Go.Proofs.Ytalaedpiimdcbaa.Srcw Go.Proofs.Ytalaedpiimdcbaa.Dl Go.Proofs.Ytalaedpiimdcbaa.Cr
set_option linter.unusedVariables false
set_option linter.unusedSimpArgs false
def okQ (b : UInt8) : Bool := decide (32 ≤ b) && !decide (b = 34) && !decide (b = 44)
/-- What the law takes of its bytes. -/
def ownQ (L : List UInt8) : List UInt8 := (L.take 40).filter okQ
theorem ownQ_len (L : List UInt8) : (ownQ L).length ≤ 40 := by
  have h := List.length_filter_le okQ (L.take 40)
  rw [List.length_take] at h
  unfold ownQ
  omega
theorem ownQ_ok (L : List UInt8) : ∀ b ∈ ownQ L, okQ b = true := fun b hb => (List.mem_filter.1 hb).2
def scanS : Int × Int × Int → List UInt8 → Option (Int × Int × Int)
  | s, [] => some s
  | s, b :: r => if (stepF s.1 s.2.1 s.2.2 b.toNat).1 = true then scanS (stepF s.1 s.2.1 s.2.2 b.toNat).2 r else none
theorem okQ_is {b : UInt8} (h : okQ b = true) : ¬ b < 32 ∧ b ≠ 34 ∧ b ≠ 44 ∧ b ≠ 10 := by
  unfold okQ at h
  simp only [Bool.and_eq_true, decide_eq_true_eq, Bool.not_eq_true', decide_eq_false_iff_not] at h
  refine ⟨fun h1 => ?_, h.1.2, h.2, fun h1 => ?_⟩
  · have h2 := UInt8.lt_iff_toNat_lt.1 h1
    have h3 := UInt8.le_iff_toNat_le.1 h.1.1
    omega
  · subst h1
    exact absurd h.1.1 (by decide)
abbrev mq (st : Int) (row : Bool) (cell : List UInt8) : MS := ⟨st, true, row, [bs [97]], true, cell, 0⟩
abbrev cq (at_ : Int) (s : Int × Int × Int) : CS := ⟨[ev 5 noT], at_, false, false, 0, false, s.1, s.2.1, s.2.2⟩
theorem stepM_plain {st : Int} {row : Bool} {cell : List UInt8} {b : UInt8} (hs : st = 0 ∨ st = 1) (hb : okQ b = true) (hc : cell.length < 48) : stepM (mq st row cell) b = (mq 1 true (cell ++ [b]), [], 0) := by
  obtain ⟨h1, h2, h3, h4⟩ := okQ_is hb
  unfold stepM
  rw [if_neg (by show ¬ st = 2; omega), if_neg h3, if_neg h4, if_neg (by show ¬ st = 3; omega), if_neg h1, if_neg h2]
  unfold saysM
  rw [if_neg (show ¬ 48 ≤ ((m1 (mq st row cell)).to 1).cell.length by show ¬ 48 ≤ cell.length; omega)]
  rfl
theorem stepM_quoted {row : Bool} {cell : List UInt8} {b : UInt8} (hb : okQ b = true) (hc : cell.length < 48) : stepM (mq 2 row cell) b = (mq 2 true (cell ++ [b]), [], 0) := by
  obtain ⟨h1, h2, h3, h4⟩ := okQ_is hb
  unfold stepM
  rw [if_pos (show (mq 2 row cell).st = 2 from rfl), if_neg h2]
  unfold saysM
  rw [if_neg (show ¬ 48 ≤ (m1 (mq 2 row cell)).cell.length by show ¬ 48 ≤ cell.length; omega)]
  rfl
def FedQ (good : Int → Prop) (d : DS) (cell : List UInt8) : Option (Int × Int × Int) → Prop
  | some s => ∃ st row at_, good st ∧ d = ⟨mq st row cell, cq at_ s⟩
  | none => d.c.over = true ∧ d.c.err = 3
theorem feed_q (good : Int → Prop) (hstep : ∀ st row cell b, good st → okQ b = true → cell.length < 48 → ∃ st', good st' ∧ stepM (mq st row cell) b = (mq st' true (cell ++ [b]), [], 0)) :
    ∀ (O : List UInt8) (st : Int) (row : Bool) (cell : List UInt8) (at_ : Int) (s : Int × Int × Int), (∀ b ∈ O, okQ b = true) → good st → cell.length + O.length ≤ 48 → FedQ good (feedD ⟨mq st row cell, cq at_ s⟩ O) (cell ++ O) (scanS s O) := by
  intro O
  induction O with
  | nil =>
    intro st row cell at_ s _ hg _
    rw [List.append_nil]
    exact ⟨st, row, at_, hg, rfl⟩
  | cons b r ih =>
    intro st row cell at_ s hO hg hl
    rw [List.length_cons] at hl
    have hb := hO b (List.mem_cons_self ..)
    obtain ⟨st', hg', hs⟩ := hstep st row cell b hg hb (by omega)
    have hf : feedD ⟨mq st row cell, cq at_ s⟩ (b :: r) = feedD (stepD ⟨mq st row cell, cq at_ s⟩ b) r := rfl
    rw [hf]
    unfold scanS
    by_cases h1 : (stepF s.1 s.2.1 s.2.2 b.toNat).1 = true
    · rw [if_pos h1]
      have hd : stepD ⟨mq st row cell, cq at_ s⟩ b = ⟨mq st' true (cell ++ [b]), cq (at_ + 1) (stepF s.1 s.2.1 s.2.2 b.toNat).2⟩ := by
        unfold stepD
        rw [if_neg (show ¬ (cq at_ s).over = true from fun h => Bool.noConfusion h), if_neg (show ¬ (stepF (cq at_ s).l (cq at_ s).a (cq at_ s).t b.toNat).1 = false by show ¬ (stepF s.1 s.2.1 s.2.2 b.toNat).1 = false; rw [h1]; decide)]
        show (if (stepM (mq st row cell) b).2.2 = 0 then _ else _) = _
        rw [hs, if_pos rfl]
        rfl
      rw [hd, show cell ++ b :: r = (cell ++ [b]) ++ r by simp]
      exact ih _ _ _ _ _ (fun x hx => hO x (List.mem_cons_of_mem _ hx)) hg' (by rw [List.length_append, List.length_singleton]; omega)
    · rw [if_neg h1]
      have h2 : (stepF s.1 s.2.1 s.2.2 b.toNat).1 = false := by simpa using h1
      have hd : stepD ⟨mq st row cell, cq at_ s⟩ b = ⟨mq st row cell, ((cq at_ s).scan (stepF s.1 s.2.1 s.2.2 b.toNat)).fail 3⟩ := by
        unfold stepD
        rw [if_neg (show ¬ (cq at_ s).over = true from fun h => Bool.noConfusion h), if_pos h2]
      rw [hd, feed_over (show (((cq at_ s).scan (stepF s.1 s.2.1 s.2.2 b.toNat)).fail 3).over = true from rfl)]
      exact ⟨rfl, rfl⟩
/-- What a scan keeps. -/
theorem scan_in : ∀ (O : List UInt8) (s s' : Int × Int × Int), 0 ≤ s.1 → 128 ≤ s.2.1 → scanS s O = some s' → 0 ≤ s'.1 ∧ 128 ≤ s'.2.1 := by
  intro O
  induction O with
  | nil => intro s s' h1 h2 h; injection h with h; subst h; exact ⟨h1, h2⟩
  | cons b r ih =>
    intro s s' h1 h2 h
    unfold scanS at h
    split at h
    · refine ih _ _ ?_ ?_ h
      · unfold stepF leadF
        repeat' split
        all_goals (first | exact h1 | (simp only; omega) | omega)
      · unfold stepF leadF
        repeat' split
        all_goals (first | exact h2 | (simp only; omega) | omega)
    · cases h
def quoQ (O : List UInt8) : List Ev := [ev 5 noT, ev 7 noT, ev 8 (bs [97]), ev 4 (bs O), ev 9 noT, ev 7 noT, ev 8 (bs [97]), ev 4 (bs [120]), ev 9 noT, ev 6 noT]
theorem tail_plain (st : Int) (hs : st = 0 ∨ st = 1) (row : Bool) (O : List UInt8) (at_ a t : Int) : (closeD (feedD ⟨mq st row O, cq at_ (0, a, t)⟩ [10, 120, 10])).c.q = quoQ O ∧ (closeD (feedD ⟨mq st row O, cq at_ (0, a, t)⟩ [10, 120, 10])).c.err = 0 := by
  rcases hs with rfl | rfl <;> exact ⟨by kernel_rfl, by kernel_rfl⟩
theorem tail_quoted (row : Bool) (O : List UInt8) (at_ a t : Int) : (closeD (feedD ⟨mq 2 row O, cq at_ (0, a, t)⟩ [34, 10, 120, 10])).c.q = quoQ O ∧ (closeD (feedD ⟨mq 2 row O, cq at_ (0, a, t)⟩ [34, 10, 120, 10])).c.err = 0 := ⟨by kernel_rfl, by kernel_rfl⟩
theorem tail_bad (m : MS) (at_ : Int) (s : Int × Int × Int) (h1 : 0 < s.1) (h2 : 128 ≤ s.2.1) (b : UInt8) (hb : b < 128) (r : List UInt8) : (closeD (feedD ⟨m, cq at_ s⟩ (b :: r))).c.err = 3 := by
  have hb' := UInt8.lt_iff_toNat_lt.1 hb
  have h3 : (stepF s.1 s.2.1 s.2.2 b.toNat).1 = false := by
    unfold stepF
    rw [if_pos h1, if_pos (.inl (by have : (128 : UInt8).toNat = 128 := rfl; omega))]
  have hd : stepD ⟨m, cq at_ s⟩ b = ⟨m, ((cq at_ s).scan (stepF s.1 s.2.1 s.2.2 b.toNat)).fail 3⟩ := by
    unfold stepD
    rw [if_neg (show ¬ (cq at_ s).over = true from fun h => Bool.noConfusion h), if_pos h3]
  show (closeD (feedD (stepD ⟨m, cq at_ s⟩ b) r)).c.err = 3
  rw [hd, feed_over rfl, close_over rfl]
  rfl
theorem over_bad {d : DS} (h : d.c.over = true ∧ d.c.err = 3) (l : List UInt8) : (closeD (feedD d l)).c.err = 3 := by
  rw [feed_over h.1, close_over h.1]; exact h.2
def t1Q (O : List UInt8) : List UInt8 := [97, 10] ++ O ++ [10, 120, 10]
def t2Q (O : List UInt8) : List UInt8 := [97, 10, 34] ++ O ++ [34, 10, 120, 10]
theorem start1 : feedD DS.new [97, 10] = ⟨mq 0 false [], cq 2 (0, 128, 191)⟩ := rfl
theorem start2 : feedD DS.new [97, 10, 34] = ⟨mq 2 true [], cq 3 (0, 128, 191)⟩ := rfl
/-- The law in plain words. -/
theorem quotes_same (O : List UInt8) (hO : ∀ b ∈ O, okQ b = true) (hl : O.length ≤ 40) :
    ((dec (t1Q O)).c.err = 3 ∧ (dec (t2Q O)).c.err = 3) ∨ ((dec (t1Q O)).c.err = 0 ∧ (dec (t2Q O)).c.err = 0 ∧ (dec (t1Q O)).c.q = quoQ O ∧ (dec (t2Q O)).c.q = quoQ O) := by
  have f1 := feed_q (fun st => st = 0 ∨ st = 1) (fun st row cell b hg hb hc => ⟨1, .inr rfl, stepM_plain hg hb hc⟩) O 0 false [] 2 (0, 128, 191) hO (.inl rfl) (by show 0 + O.length ≤ 48; omega)
  have f2 := feed_q (fun st => st = 2) (fun st row cell b hg hb hc => ⟨2, rfl, by rw [show st = 2 from hg]; exact stepM_quoted hb hc⟩) O 2 true [] 3 (0, 128, 191) hO rfl (by show 0 + O.length ≤ 48; omega)
  have e1 : dec (t1Q O) = closeD (feedD (feedD ⟨mq 0 false [], cq 2 (0, 128, 191)⟩ O) [10, 120, 10]) := by
    unfold dec t1Q
    rw [feed_app, feed_app, start1]
  have e2 : dec (t2Q O) = closeD (feedD (feedD ⟨mq 2 true [], cq 3 (0, 128, 191)⟩ O) [34, 10, 120, 10]) := by
    unfold dec t2Q
    rw [feed_app, feed_app, start2]
  rw [e1, e2]
  cases hs : scanS (0, 128, 191) O with
  | none =>
    rw [hs] at f1 f2
    exact .inl ⟨over_bad f1 _, over_bad f2 _⟩
  | some s =>
    rw [hs] at f1 f2
    obtain ⟨s1, r1, a1, g1, h1⟩ := f1
    obtain ⟨s2, r2, a2, g2, h2⟩ := f2
    have hin := scan_in O _ _ (by decide) (by decide) hs
    rw [h1, h2]
    by_cases h0 : 0 < s.1
    · exact .inl ⟨tail_bad _ _ _ h0 hin.2 10 (by decide) _, tail_bad _ _ _ h0 hin.2 34 (by decide) _⟩
    · obtain ⟨l, a, t⟩ := s
      have hl0 : l = 0 := by have := hin.1; simp only at this h0; omega
      subst hl0
      subst g2
      obtain ⟨q1, q2⟩ := tail_plain s1 g1 r1 O a1 a t
      obtain ⟨q3, q4⟩ := tail_quoted r2 O a2 a t
      rw [List.nil_append] at *
      refine .inr ⟨?_, ?_, ?_, ?_⟩
      · with_reducible exact q2
      · with_reducible exact q4
      · with_reducible exact q1
      · with_reducible exact q3
end Go.Proofs.Ytalaedpiimdcbaa.Lw
