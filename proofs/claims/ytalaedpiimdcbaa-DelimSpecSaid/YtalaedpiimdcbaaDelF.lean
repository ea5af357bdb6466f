/- delim: what its machine does, byte by byte, as plain functions. -/
import Derived.Test.YtalaedpiimdcbaaEv
namespace Go.Proofs.Ytalaedpiimdcbaa.Dl
open Go Go.Proofs.Ytalaedpiimdcbaa.Hp
set_option linter.unusedVariables false
set_option linter.unusedSimpArgs false
/-- A machine. -/
structure MS where
  st : Int
  started : Bool
  row : Bool
  hdr : List ByteArray
  named : Bool
  cell : List UInt8
  cells : Nat
def MS.new : MS := ⟨0, false, false, [], false, [], 0⟩
def saysM (m : MS) (b : UInt8) : MS × Int := if 48 ≤ m.cell.length then (m, 4) else ({ m with cell := m.cell ++ [b] }, 0)
def hasT (l : List ByteArray) (s : ByteArray) : Bool := l.any fun x => decide (x = s)
def MS.to (m : MS) (k : Int) : MS := { m with st := k }
def namesM (m : MS) (s : ByteArray) (more : Bool) : MS × Int :=
  if hasT m.hdr s = true then (m, 6)
  else if more = true then (if 8 ≤ m.hdr.length + 1 then ({ m with hdr := m.hdr ++ [s] }, 16) else ({ m with hdr := m.hdr ++ [s] }, 0))
  else ({ m with hdr := m.hdr ++ [s], named := true, row := false }, 0)
/-- The events of a cell that ends. -/
def cellE (m : MS) : List Ev := (if m.cells = 0 then [ev 7 noT] else []) ++ [ev 8 (m.hdr.getD m.cells noT), ev 4 (bs m.cell)]
def endsM (m : MS) (more : Bool) : MS × List Ev × Int :=
  if m.named = false then ((namesM { m with cell := [], st := 0 } (bs m.cell) more).1, [], (namesM { m with cell := [], st := 0 } (bs m.cell) more).2)
  else if more = true then (if m.cells + 1 < m.hdr.length then ({ m with cell := [], st := 0, cells := m.cells + 1 }, cellE m, 0) else ({ m with cell := [], st := 0, cells := m.cells + 1 }, cellE m, 17))
  else (if m.cells + 1 < m.hdr.length then ({ m with cell := [], st := 0, cells := m.cells + 1 }, cellE m, 17) else ({ m with cell := [], st := 0, cells := 0, row := false }, cellE m ++ [ev 9 noT], 0))
def m1 (m : MS) : MS := { m with started := true, row := true }
def ev0 (m : MS) : List Ev := if m.started = true then [] else [ev 5 noT]
def stepM (m : MS) (b : UInt8) : MS × List Ev × Int :=
  if m.st = 2 then (if b = 34 then ((m1 m).to 3, ev0 m, 0) else ((saysM (m1 m) b).1, ev0 m, (saysM (m1 m) b).2))
  else if b = 44 then ((endsM (m1 m) true).1, ev0 m ++ (endsM (m1 m) true).2.1, (endsM (m1 m) true).2.2)
  else if b = 10 then ((endsM (m1 m) false).1, ev0 m ++ (endsM (m1 m) false).2.1, (endsM (m1 m) false).2.2)
  else if m.st = 3 then (if b = 34 then ((saysM ((m1 m).to 2) b).1, ev0 m, (saysM ((m1 m).to 2) b).2) else (m1 m, ev0 m, 2))
  else if b < 32 then (m1 m, ev0 m, 2)
  else if b = 34 then (if m.st = 1 then (m1 m, ev0 m, 2) else ((m1 m).to 2, ev0 m, 0))
  else ((saysM ((m1 m).to 1) b).1, ev0 m, (saysM ((m1 m).to 1) b).2)
def endM (m : MS) : MS × List Ev × Int :=
  if m.st = 2 then (m, ev0 m, 2)
  else if m.row = true then
    (if (endsM m false).2.2 = 0 then ((endsM m false).1, ev0 m ++ (endsM m false).2.1 ++ [ev 6 noT], 0) else ((endsM m false).1, ev0 m ++ (endsM m false).2.1, (endsM m false).2.2))
  else (m, ev0 m ++ [ev 6 noT], 0)
/-- What holds of a machine that has met no error. -/
structure MOK (m : MS) : Prop where
  st : m.st = 0 ∨ m.st = 1 ∨ m.st = 2 ∨ m.st = 3
  cell : m.cell.length ≤ 48
  hdr : m.hdr.length ≤ 8
  open_ : m.named = false → m.hdr.length ≤ 7 ∧ m.cells = 0
  at_ : m.named = true → m.cells < m.hdr.length
theorem MOK.new : MOK MS.new := ⟨.inl rfl, by decide, by decide, (fun _ => ⟨by decide, rfl⟩), (fun h => by cases h)⟩
/-- The same but for the state and the marks. -/
theorem MOK.with {m m' : MS} (h : MOK m) (h1 : m'.st = 0 ∨ m'.st = 1 ∨ m'.st = 2 ∨ m'.st = 3) (h2 : m'.cell = m.cell) (h3 : m'.hdr = m.hdr) (h4 : m'.named = m.named) (h5 : m'.cells = m.cells) : MOK m' :=
  ⟨h1, by rw [h2]; exact h.cell, by rw [h3]; exact h.hdr, by rw [h4, h3, h5]; exact h.open_, by rw [h4, h3, h5]; exact h.at_⟩
theorem says_ok {m : MS} (h : MOK m) (b : UInt8) (h0 : (saysM m b).2 = 0) : MOK (saysM m b).1 := by
  unfold saysM at *
  split
  · exact h
  · rename_i hc
    exact ⟨h.st, by show (m.cell ++ [b]).length ≤ 48; rw [List.length_append, List.length_singleton]; omega, h.hdr, h.open_, h.at_⟩
theorem ends_ok {m : MS} (h : MOK m) (more : Bool) (h0 : (endsM m more).2.2 = 0) : MOK (endsM m more).1 := by
  unfold endsM at *
  by_cases hn : m.named = false
  · rw [if_pos hn] at h0 ⊢
    have ho := h.open_ hn
    unfold namesM at *
    simp only at h0 ⊢
    by_cases hs : hasT m.hdr (bs m.cell) = true
    · rw [if_pos hs] at h0; cases h0
    rw [if_neg hs] at h0 ⊢
    by_cases hm : more = true
    · rw [if_pos hm] at h0 ⊢
      by_cases h8 : 8 ≤ m.hdr.length + 1
      · rw [if_pos h8] at h0; cases h0
      · rw [if_neg h8]
        exact ⟨.inl rfl, by show (0 : Nat) ≤ 48; omega, by show (m.hdr ++ [_]).length ≤ 8; rw [List.length_append, List.length_singleton]; omega,
          (fun _ => ⟨by show (m.hdr ++ [_]).length ≤ 7; rw [List.length_append, List.length_singleton]; omega, ho.2⟩), (fun hx => by rw [show m.named = true from hx] at hn; cases hn)⟩
    · rw [if_neg hm]
      exact ⟨.inl rfl, by show (0 : Nat) ≤ 48; omega, by show (m.hdr ++ [_]).length ≤ 8; rw [List.length_append, List.length_singleton]; omega,
          (fun hx => by cases hx), (fun _ => by show m.cells < (m.hdr ++ [_]).length; rw [List.length_append, List.length_singleton]; omega)⟩
  · have hn' : m.named = true := by simpa using hn
    have ha := h.at_ hn'
    rw [if_neg hn] at h0 ⊢
    by_cases hm : more = true
    · rw [if_pos hm] at h0 ⊢
      by_cases hc : m.cells + 1 < m.hdr.length
      · rw [if_pos hc]
        exact ⟨.inl rfl, by show (0 : Nat) ≤ 48; omega, h.hdr, (fun hx => absurd hx hn), (fun _ => hc)⟩
      · rw [if_neg hc] at h0; cases h0
    · rw [if_neg hm] at h0 ⊢
      by_cases hc : m.cells + 1 < m.hdr.length
      · rw [if_pos hc] at h0; cases h0
      · rw [if_neg hc]
        exact ⟨.inl rfl, by show (0 : Nat) ≤ 48; omega, h.hdr, (fun hx => absurd hx hn), (fun _ => by show 0 < m.hdr.length; omega)⟩
theorem step_ok {m : MS} (h : MOK m) (b : UInt8) (h0 : (stepM m b).2.2 = 0) : MOK (stepM m b).1 := by
  have h1 : MOK (m1 m) := h.with h.st rfl rfl rfl rfl
  unfold stepM at *
  by_cases a1 : m.st = 2
  · rw [if_pos a1] at h0 ⊢
    by_cases a2 : b = 34
    · rw [if_pos a2]; exact h1.with (.inr (.inr (.inr rfl))) rfl rfl rfl rfl
    · rw [if_neg a2] at h0 ⊢; exact says_ok h1 b h0
  rw [if_neg a1] at h0 ⊢
  by_cases a2 : b = 44
  · rw [if_pos a2] at h0 ⊢; exact ends_ok h1 true h0
  rw [if_neg a2] at h0 ⊢
  by_cases a3 : b = 10
  · rw [if_pos a3] at h0 ⊢; exact ends_ok h1 false h0
  rw [if_neg a3] at h0 ⊢
  by_cases a4 : m.st = 3
  · rw [if_pos a4] at h0 ⊢
    by_cases a5 : b = 34
    · rw [if_pos a5] at h0 ⊢; exact says_ok (h1.with (m' := (m1 m).to 2) (.inr (.inr (.inl rfl))) rfl rfl rfl rfl) b h0
    · rw [if_neg a5]; exact h1
  rw [if_neg a4] at h0 ⊢
  by_cases a5 : b < 32
  · rw [if_pos a5]; exact h1
  rw [if_neg a5] at h0 ⊢
  by_cases a6 : b = 34
  · rw [if_pos a6] at h0 ⊢
    by_cases a7 : m.st = 1
    · rw [if_pos a7]; exact h1
    · rw [if_neg a7]; exact h1.with (.inr (.inr (.inl rfl))) rfl rfl rfl rfl
  · rw [if_neg a6] at h0 ⊢; exact says_ok (h1.with (m' := (m1 m).to 1) (.inr (.inl rfl)) rfl rfl rfl rfl) b h0
end Go.Proofs.Ytalaedpiimdcbaa.Dl
