/- events: what a Check does, event by event, as plain functions. -/
import Derived.Test.YtalaedpiimdcbaaGreatDoorMapB
import Derived.Test.YtalaedpiimdcbaaGreatDoorSrcDecF
namespace Go.Proofs.YtalaedpiimdcbaaGreatDoor.Ec
open Go Go.Proofs.YtalaedpiimdcbaaGreatDoor.Hp
set_option linter.unusedVariables false
set_option linter.unusedSimpArgs false
/-- A thing that is open. -/
structure OE where
  k : Int
  key : Bool
  text : Bool
  full : Bool
  had : List ByteArray
/-- A Check; the innermost first. -/
structure CK where
  op : List OE
  over : Bool
def CK.new : CK := ⟨[], false⟩
def mayT (s : ByteArray) : Bool := Lib.validD s.data.toList && decide (s.size ≤ 48)
def valueC (c : CK) (x : Ev) : Bool :=
  match c.op with
  | [] => !c.over
  | l :: _ => if l.k = 7 then l.key else if l.k = 10 then (decide (x.k = 10) || (decide (x.k = 4) && !decide (x.t = noT) && !l.text)) else true
def standsC (c : CK) (x : Ev) : CK :=
  match c.op with
  | [] => { c with over := true }
  | l :: r => { c with op := { l with key := false, full := true, text := decide (x.k = 4) } :: r }
def namedL (l : OE) (x : Ev) : OE × Int :=
  if x.t ∈ l.had then (l, 6) else if 10 ≤ l.had.length then (l, 7) else ({ l with had := l.had ++ [x.t], key := decide (x.k = 8) }, 0)
def endsK (k : Int) : Int := if k = 6 then 5 else if k = 9 then 7 else if k = 12 then 10 else 0
def OE.new (k : Int) : OE := ⟨k, false, false, false, []⟩
/-- A Step of an event that is right. -/
def goesC (c : CK) (x : Ev) : CK × Int :=
  if x.k = 1 ∨ x.k = 2 ∨ x.k = 3 ∨ x.k = 4 then (if valueC c x = true then (standsC c x, 0) else (c, 19))
  else if x.k = 5 ∨ x.k = 7 ∨ x.k = 10 then
    (if valueC c x = true then (if 6 ≤ c.op.length then (c, 5) else ({ standsC c x with op := OE.new x.k :: (standsC c x).op }, 0)) else (c, 19))
  else if x.k = 8 then
    (match c.op with
    | [] => (c, 19)
    | l :: r => if l.k = 7 ∧ l.key = false then ({ c with op := (namedL l x).1 :: r }, (namedL l x).2) else (c, 19))
  else if x.k = 11 then
    (match c.op with
    | [] => (c, 19)
    | l :: r => if l.k = 10 ∧ l.full = false then ({ c with op := (namedL l x).1 :: r }, (namedL l x).2) else (c, 19))
  else
    (match c.op with
    | [] => (c, 19)
    | l :: r => if l.k = endsK x.k ∧ l.key = false then ({ c with op := r }, 0) else (c, 19))
def stepC (right : Ev → Bool) (c : CK) (x : Ev) : CK × Int := if right x = true then goesC c x else (c, 19)
/-- How far events are taken. -/
def runC (right : Ev → Bool) : CK → List Ev → Nat → CK × Nat × Int
  | c, [], i => (c, i, 0)
  | c, x :: r, i => if (stepC right c x).2 = 0 then runC right (stepC right c x).1 r (i + 1) else (c, i, (stepC right c x).2)
def doneC (c : CK) : Bool := c.over && decide (c.op.length = 0)
/-- Whole. -/
def wholeC (right : Ev → Bool) (l : List Ev) : Nat × Int :=
  if (runC right CK.new l 0).2.2 = 0 then (l.length, if doneC (runC right CK.new l 0).1 = true then 0 else 19) else ((runC right CK.new l 0).2.1, (runC right CK.new l 0).2.2)
theorem runC_app (right : Ev → Bool) : ∀ (a b : List Ev) (c : CK) (i : Nat), (runC right c a i).2.2 = 0 → runC right c (a ++ b) i = runC right (runC right c a i).1 b (i + a.length) := by
  intro a
  induction a with
  | nil => intro b c i _; rfl
  | cons x r ih =>
    intro b c i h
    by_cases h0 : (stepC right c x).2 = 0
    · have e1 : ∀ l, runC right c (x :: l) i = runC right (stepC right c x).1 l (i + 1) := fun l => by rw [runC, if_pos h0]
      rw [e1] at h
      rw [List.cons_append, e1, e1, ih b _ _ h, List.length_cons]
      congr 1
      omega
    · rw [runC, if_neg h0] at h
      exact absurd h h0
/-- What a thing that is open is like. -/
structure OE.Ok (l : OE) : Prop where
  had : l.had.length ≤ 10 ∧ l.had.Nodup
theorem OE.Ok.new (k : Int) : (OE.new k).Ok := ⟨⟨by show (0 : Nat) ≤ 10; omega, List.nodup_nil⟩⟩
theorem named_ok {l : OE} (h : l.Ok) (x : Ev) : (namedL l x).1.Ok := by
  unfold namedL
  by_cases h1 : x.t ∈ l.had
  · rw [if_pos h1]; exact h
  rw [if_neg h1]
  by_cases h2 : 10 ≤ l.had.length
  · rw [if_pos h2]; exact h
  rw [if_neg h2]
  refine ⟨by show (l.had ++ [x.t]).length ≤ 10; rw [List.length_append, List.length_singleton]; omega, ?_⟩
  show (l.had ++ [x.t]).Nodup
  rw [List.nodup_append]
  refine ⟨h.had.2, by simp, fun a ha b hb hab => ?_⟩
  rw [List.mem_singleton] at hb
  subst hb; subst hab
  exact h1 ha
structure CK.Ok (c : CK) : Prop where
  op : c.op.length ≤ 6
  each : ∀ l ∈ c.op, l.Ok
theorem CK.Ok.new : CK.new.Ok := ⟨by decide, fun l h => by cases h⟩
theorem CK.Ok.with {c c' : CK} (h : c.Ok) {l l' : OE} {r : List OE} (h1 : c.op = l :: r) (h2 : c'.op = l' :: r) (h3 : l'.Ok) : c'.Ok := by
  refine ⟨by have := h.op; rw [h1] at this; rw [h2]; simpa using this, fun y hy => ?_⟩
  rw [h2] at hy
  rcases List.mem_cons.1 hy with hy | hy
  · subst hy; exact h3
  · exact h.each y (by rw [h1]; exact List.mem_cons_of_mem _ hy)
theorem stands_ok {c : CK} (h : c.Ok) (x : Ev) : (standsC c x).Ok ∧ (standsC c x).op.length = c.op.length := by
  unfold standsC
  split
  · rename_i h0
    exact ⟨⟨h.op, h.each⟩, rfl⟩
  · rename_i l r h0
    exact ⟨h.with h0 rfl ⟨(h.each l (by rw [h0]; exact List.mem_cons_self ..)).had⟩, by rw [h0]; rfl⟩
theorem goes_ok {c : CK} (h : c.Ok) (x : Ev) : (goesC c x).1.Ok := by
  unfold goesC
  split
  · split
    · exact (stands_ok h x).1
    · exact h
  split
  · split
    · split
      · exact h
      · rename_i h6
        have hs := stands_ok h x
        refine ⟨by show (OE.new x.k :: (standsC c x).op).length ≤ 6; rw [List.length_cons, hs.2]; omega, fun y hy => ?_⟩
        rcases List.mem_cons.1 hy with hy | hy
        · subst hy; exact OE.Ok.new _
        · exact hs.1.each y hy
    · exact h
  split
  · split
    · exact h
    · rename_i l r h0
      split
      · exact h.with h0 rfl (named_ok (h.each l (by rw [h0]; exact List.mem_cons_self ..)) x)
      · exact h
  split
  · split
    · exact h
    · rename_i l r h0
      split
      · exact h.with h0 rfl (named_ok (h.each l (by rw [h0]; exact List.mem_cons_self ..)) x)
      · exact h
  · split
    · exact h
    · rename_i l r h0
      split
      · refine ⟨by have := h.op; rw [h0] at this; simp at this; show r.length ≤ 6; omega, fun y hy => h.each y (by rw [h0]; exact List.mem_cons_of_mem _ hy)⟩
      · exact h
theorem step_ok {c : CK} (h : c.Ok) (right : Ev → Bool) (x : Ev) : (stepC right c x).1.Ok := by
  unfold stepC
  split
  · exact goes_ok h x
  · exact h
end Go.Proofs.YtalaedpiimdcbaaGreatDoor.Ec
