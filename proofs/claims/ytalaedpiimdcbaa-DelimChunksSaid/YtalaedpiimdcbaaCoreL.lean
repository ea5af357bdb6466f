/- A decoder that some events were taken from: plain laws. -/
import Derived.Test.YtalaedpiimdcbaaCoreP
import Derived.Test.YtalaedpiimdcbaaLawW
namespace Go.Proofs.Ytalaedpiimdcbaa.Lw
open Go Go.Lib Go.RowKit Go.Proofs.YtalaedpiimdcbaaW.PrintWords Go.Proofs.YtalaedpiimdcbaaW.PrintLast Go.Proofs.Ytalaedpiimdcbaa.Own Go.Proofs.Ytalaedpiimdcbaa.Hp Go.Proofs.Ytalaedpiimdcbaa.Srcw Go.Proofs.Ytalaedpiimdcbaa.Dl Go.Proofs.Ytalaedpiimdcbaa.Cr
set_option linter.unusedVariables false
set_option linter.unusedSimpArgs false
/-- d2 is d, but that t was taken. -/
structure Like (t : List Ev) (d2 d : DS) : Prop where
  m : d2.m = d.m
  q : t ++ d2.c.q = d.c.q
  over : d2.c.over = d.c.over
  err : d2.c.err = d.c.err
  at_ : d2.c.at_ = d.c.at_
  closed : d2.c.closed = d.c.closed
  l : d2.c.l = d.c.l
  a : d2.c.a = d.c.a
  t : d2.c.t = d.c.t
  told : d2.c.told = true → d.c.over = true
theorem Like.refl (d : DS) (h : d.c.told = false) : Like [] d d := ⟨rfl, rfl, rfl, rfl, rfl, rfl, rfl, rfl, rfl, fun h2 => by rw [h] at h2; cases h2⟩
theorem Like.step {t : List Ev} {d2 d : DS} (h : Like t d2 d) (b : UInt8) : Like t (stepD d2 b) (stepD d b) := by
  obtain ⟨m2, c2⟩ := d2
  obtain ⟨m, c⟩ := d
  obtain ⟨q2, at2, cl2, ov2, er2, td2, l2, a2, t2⟩ := c2
  obtain ⟨q, at1, cl, ov, er, td, l1, a1, t1⟩ := c
  obtain ⟨h1, h2, h3, h4, h5, h6, h7, h8, h9, h10⟩ := h
  simp only at h1 h2 h3 h4 h5 h6 h7 h8 h9 h10
  subst h1; subst h2; subst h3; subst h4; subst h5; subst h6; subst h7; subst h8; subst h9
  unfold stepD
  simp only
  by_cases k1 : ov2 = true
  · rw [if_pos k1, if_pos k1]
    exact ⟨rfl, rfl, rfl, rfl, rfl, rfl, rfl, rfl, rfl, h10⟩
  rw [if_neg k1, if_neg k1]
  by_cases k2 : (stepF l2 a2 t2 b.toNat).1 = false
  · rw [if_pos k2, if_pos k2]
    exact ⟨rfl, rfl, rfl, rfl, rfl, rfl, rfl, rfl, rfl, fun _ => rfl⟩
  rw [if_neg k2, if_neg k2]
  by_cases k3 : (stepM m2 b).2.2 = 0
  · rw [if_pos k3, if_pos k3]
    exact ⟨rfl, (List.append_assoc _ _ _).symm, rfl, rfl, rfl, rfl, rfl, rfl, rfl, h10⟩
  · rw [if_neg k3, if_neg k3]
    exact ⟨rfl, (List.append_assoc _ _ _).symm, rfl, rfl, rfl, rfl, rfl, rfl, rfl, fun _ => rfl⟩
theorem Like.feed {t : List Ev} {d2 d : DS} (h : Like t d2 d) (l : List UInt8) : Like t (feedD d2 l) (feedD d l) := by
  induction l generalizing d2 d with
  | nil => exact h
  | cons b r ih => exact ih (h.step b)
theorem Like.close {t : List Ev} {d2 d : DS} (h : Like t d2 d) : Like t (closeD d2) (closeD d) := by
  obtain ⟨m2, c2⟩ := d2
  obtain ⟨m, c⟩ := d
  obtain ⟨q2, at2, cl2, ov2, er2, td2, l2, a2, t2⟩ := c2
  obtain ⟨q, at1, cl, ov, er, td, l1, a1, t1⟩ := c
  obtain ⟨h1, h2, h3, h4, h5, h6, h7, h8, h9, h10⟩ := h
  simp only at h1 h2 h3 h4 h5 h6 h7 h8 h9 h10
  subst h1; subst h2; subst h3; subst h4; subst h5; subst h6; subst h7; subst h8; subst h9
  unfold closeD
  simp only
  by_cases k1 : cl2 = true ∨ ov2 = true
  · rw [if_pos k1, if_pos k1]
    exact ⟨rfl, rfl, rfl, rfl, rfl, rfl, rfl, rfl, rfl, h10⟩
  rw [if_neg k1, if_neg k1]
  by_cases k2 : l2 ≠ 0
  · rw [if_pos k2, if_pos k2]
    exact ⟨rfl, rfl, rfl, rfl, rfl, rfl, rfl, rfl, rfl, fun _ => rfl⟩
  · rw [if_neg k2, if_neg k2]
    exact ⟨rfl, (List.append_assoc _ _ _).symm, rfl, rfl, rfl, rfl, rfl, rfl, rfl, fun _ => rfl⟩
/-- All that waits is taken. -/
theorem Like.taken {t : List Ev} {d2 d : DS} (h : Like t d2 d) : Like d.c.q ⟨d2.m, takenC d2.c⟩ d := by
  unfold takenC
  by_cases k : d2.c.over = false
  · rw [if_pos k]
    exact ⟨h.m, List.append_nil _, h.over, h.err, h.at_, h.closed, h.l, h.a, h.t, h.told⟩
  · rw [if_neg k]
    exact ⟨h.m, List.append_nil _, h.over, h.err, h.at_, h.closed, h.l, h.a, h.t, fun _ => by rw [← h.over]; simpa using k⟩
theorem Like.dok {t : List Ev} {d2 d : DS} {n : Nat} (h : Like t d2 d) (k : DOK n d) : DOK n d2 :=
  ⟨fun h1 => by rw [h.m]; exact k.ok (by rw [← h.over]; exact h1), by have h1 := congrArg List.length h.q; have := k.q; rw [List.length_append] at h1; omega, by rw [h.at_]; exact k.at_, by rw [h.l]; exact k.l⟩
theorem Like.qlen {t : List Ev} {d2 d : DS} (h : Like t d2 d) : t.length ≤ d.c.q.length ∧ d2.c.q.length ≤ d.c.q.length := by
  have h1 := congrArg List.length h.q
  rw [List.length_append] at h1
  omega
theorem close_stop {d : DS} (h : d.c.closed = false) : (closeD d).c.over = true := by
  unfold closeD
  by_cases h1 : d.c.closed = true ∨ d.c.over = true
  · rw [if_pos h1]
    rcases h1 with h1 | h1
    · rw [h] at h1; cases h1
    · exact h1
  rw [if_neg h1]
  by_cases h2 : d.c.l ≠ 0
  · rw [if_pos h2]; rfl
  · rw [if_neg h2]; rfl
theorem close_closed (d : DS) : (closeD d).c.closed = true := by
  unfold closeD
  by_cases h1 : d.c.closed = true ∨ d.c.over = true
  · rw [if_pos h1]
  rw [if_neg h1]
  by_cases h2 : d.c.l ≠ 0
  · rw [if_pos h2]; rfl
  · rw [if_neg h2]; rfl
theorem Rd8.low {B : Nat} {w w1 : World} {A : Option Addr} {l : List UInt8} (h : Rd8 (fun k => B ≤ k) w A l) (hb : Below B w w1) : Rd8 (fun k => B ≤ k) w1 A l := fun i hi => by
  obtain ⟨ad, h1, h2, h3⟩ := h i hi
  refine ⟨ad, h1, h2, ?_⟩
  rw [World.cell?_of_block (w := w) (by rw [add_block]; exact hb.block _ (by have := h2; omega))]
  exact h3
theorem Rd8.drop_ {F : Nat → Prop} {w : World} {A : Option Addr} {l : List UInt8} (h : Rd8 F w A l) (k : Nat) (hk : k < l.length) : Rd8 F w (A.map (·.add k)) (l.drop k) := fun i hi => by
  have hi2 : k + i < l.length := by rw [List.length_drop] at hi; omega
  obtain ⟨ad, h1, h2, h3⟩ := h (k + i) hi2
  subst h1
  refine ⟨ad.add k, rfl, by rw [add_block]; exact h2, ?_⟩
  rw [List.getElem_drop]
  rw [← h3]
  congr 1
  exact (Addr.add_add _ _ _)
theorem Rd8.none_ {F : Nat → Prop} {w : World} {A : Option Addr} : Rd8 F w A [] := fun i hi => absurd hi (Nat.not_lt_zero _)
/-- What the bytes told up to p is a beginning of all. -/
theorem like_pre {t : List Ev} {d2 : DS} {l : List UInt8} {p : Nat} (h : Like t d2 (feedD DS.new (l.take p))) : (feedD DS.new (l.take p)).c.q <+: (dec l).c.q := dec_pre l p
end Go.Proofs.Ytalaedpiimdcbaa.Lw
