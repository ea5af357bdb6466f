/- quote: one Step, all ways. -/
import Derived.Test.YtadbjbnnmooicaaDoorQuoteStep
namespace Go.Proofs.YtadbjbnnmooicaaDoor.Qw
open Go.RowKit Go.Proofs.YtadbjbnnmooicaaDoorW.PrintWords Go.Proofs.YtadbjbnnmooicaaDoorW.PrintLast Go.Proofs.YtadbjbnnmooicaaDoor.Own Go.Proofs.YtadbjbnnmooicaaDoor.Srcw
set_option linter.unusedVariables false
set_option linter.unusedSimpArgs false

/-- A Quote's fields. -/
structure QS where
  l : List Int
  esc : Bool
  left : Int
  num : Int
  over : Bool
def QS.new : QS := ⟨[], false, 0, 0, false⟩
def addQ (s : QS) (ys : List Int) : Int × QS := if 48 < s.l.length + ys.length then (4, s) else (0, { s with l := s.l ++ ys })
def digQ (s : QS) (b : Int) : Int × QS :=
  if hexN b < 0 then (9, s)
  else if 1 < s.left then (0, { s with num := 16 * s.num + hexN b, left := s.left - 1 })
  else if mayN (16 * s.num + hexN b) then addQ { s with num := 16 * s.num + hexN b, left := 0 } (bnums (putS (16 * s.num + hexN b)).data.toList)
  else (9, { s with num := 16 * s.num + hexN b, left := 0 })
def stepQ (s : QS) (b : Int) : Bool × Int × QS :=
  if s.over then (false, 2, s)
  else if 0 < s.left then (false, digQ s b)
  else if s.esc then
    if b = 117 then (false, 0, { s with esc := false, left := 4, num := 0 })
    else if (escN b).isSome then (false, addQ { s with esc := false } [(escN b).getD 0])
    else (false, 9, { s with esc := false })
  else if b = 34 then (true, 0, { s with over := true })
  else if b < 32 then (false, 2, s)
  else if b = 92 then (false, 0, { s with esc := true })
  else (false, addQ s [b])
/-- What holds of a Quote that was stepped. -/
def QS.Ok (s : QS) : Prop := s.l.length ≤ 48 ∧ 0 ≤ s.left ∧ s.left ≤ 4 ∧ 0 ≤ s.num ∧ (s.left = 4 → s.num = 0) ∧ (s.left = 3 → s.num < 16) ∧ (s.left = 2 → s.num < 256) ∧ (s.left = 1 → s.num < 4096)
theorem QS.ok_new : QS.new.Ok := by simp [QS.new, QS.Ok]
theorem addQ_ok {s : QS} (h : s.Ok) (ys : List Int) : (addQ s ys).2.Ok := by
  unfold addQ
  split
  · exact h
  · obtain ⟨h1, h2, h3, h4, h5, h6, h7, h8⟩ := h
    refine ⟨?_, h2, h3, h4, h5, h6, h7, h8⟩
    simp only [List.length_append]
    omega
theorem hexN_lt (b : Int) : hexN b < 16 := by unfold hexN; (repeat' split) <;> omega
theorem stepQ_ok {s : QS} (h : s.Ok) (b : Int) : (stepQ s b).2.2.Ok := by
  have hx := hexN_lt b
  unfold stepQ
  split
  · exact h
  split
  · unfold digQ
    split
    · exact h
    split
    · obtain ⟨h1, h2, h3, h4, h5, h6, h7, h8⟩ := h
      refine ⟨h1, ?_, ?_, ?_, ?_, ?_, ?_, ?_⟩ <;> (try intro) <;> (simp only at *) <;> omega
    split
    · refine addQ_ok ?_ _
      obtain ⟨h1, h2, h3, h4, h5, h6, h7, h8⟩ := h
      refine ⟨h1, ?_, ?_, ?_, ?_, ?_, ?_, ?_⟩ <;> (try intro) <;> (simp only at *) <;> omega
    · obtain ⟨h1, h2, h3, h4, h5, h6, h7, h8⟩ := h
      refine ⟨h1, ?_, ?_, ?_, ?_, ?_, ?_, ?_⟩ <;> (try intro) <;> (simp only at *) <;> omega
  split
  · split
    · obtain ⟨h1, h2, h3, h4, h5, h6, h7, h8⟩ := h
      refine ⟨h1, ?_, ?_, ?_, ?_, ?_, ?_, ?_⟩ <;> (try intro) <;> (simp only at *) <;> omega
    split
    · exact addQ_ok (s := { s with esc := false }) h _
    · exact h
  split
  · exact h
  split
  · exact h
  split
  · exact h
  · exact addQ_ok h _

def QAt (B : Nat) (w : World) (g : Nat) (s : QS) : Prop := IsQ B w g s.l s.esc s.left s.num s.over

def StepPost (B g : Nat) (r : Bool × Int × QS) (w : World) (e : Ending) (w' : World) : Prop :=
  ∃ x y, e = .returned (.tuple #[.bool x, .int .i64 y]) ∧ x = r.1 ∧ y = r.2.1 ∧ QAt B w' g r.2.2 ∧ Below B w w'
def DigPost (B g : Nat) (r : Int × QS) (w : World) (e : Ending) (w' : World) : Prop :=
  ∃ y, e = .returned (.int .i64 y) ∧ y = r.1 ∧ QAt B w' g r.2 ∧ Below B w w'

theorem dig_of_add {B g : Nat} {s : QS} {ys : List Int} {w : World} {e : Ending} {w' : World} (h : AddPost B g s.l ys s.esc s.left s.num s.over w e w') : DigPost B g (addQ s ys) w e w' := by
  obtain ⟨r, he, hr, hq, hb⟩ := h
  refine ⟨r, he, ?_, ?_, hb⟩
  · unfold addQ; rw [hr]; split <;> rfl
  · unfold addQ QAt
    split
    · rw [if_pos (by assumption)] at hq; exact hq
    · rw [if_neg (by assumption)] at hq; exact hq

theorem digit_calls {B g : Nat} {w : World} {s : QS} {b : Int} (h : QAt B w g s) (hB : B ≤ w.heap.size) (ok : s.Ok) (hl : 0 < s.left) (h0 : 0 ≤ b) (h1 : b < 256) :
    Calls Tryd.prog 20 #[.pointer (some ⟨g, 0, none⟩), .int .u8 b] w (DigPost B g (digQ s b) w) := by
  have hx := hexN_lt b
  obtain ⟨o1, o2, o3, o4, o5, o6, o7, o8⟩ := ok
  unfold digQ
  split
  · refine (digit_bad h0 h1 (by assumption)).mono ?_
    rintro e w' ⟨rfl, rfl⟩
    exact ⟨9, rfl, rfl, h, Below.refl _ _⟩
  split
  · refine (digit_more h hB h0 h1 (by omega) (by omega) (by omega) (by omega) (by omega)).mono ?_
    rintro e w' ⟨rfl, hq, hb⟩
    exact ⟨0, rfl, rfl, hq, hb⟩
  have h1l : s.left = 1 := by omega
  have hq : IsQ B w g s.l s.esc 1 s.num s.over := by unfold QAt at h; rw [h1l] at h; exact h
  split
  · refine (digit_last_true hq hB (by omega) h0 h1 (by omega) (by omega) (by have := o8 h1l; omega) (by assumption)).mono ?_
    intro e w' hp
    exact dig_of_add (s := { s with num := 16 * s.num + hexN b, left := 0 }) hp
  · refine (digit_last_false hq hB (by omega) h0 h1 (by omega) (by omega) (by have := o8 h1l; omega) (by simpa using (by assumption : ¬ mayN _ = true))).mono ?_
    rintro e w' ⟨rfl, hq, hb⟩
    exact ⟨9, rfl, rfl, hq, hb⟩

set_option maxHeartbeats 2000000 in
set_option maxRecDepth 100000 in
theorem step_over {B g : Nat} {w : World} {s : QS} {b : Int} (h : QAt B w g s) (ho : s.over = true) :
    Calls Tryd.prog 13 #[.pointer (some ⟨g, 0, none⟩), .int .u8 b] w (StepPost B g (false, 2, s) w) := by
  have HQ := Aside0.mk h
  obtain ⟨h0, x, hb1, hr⟩ := h
  have c4 := (blk_cell hb1 4).trans rfl
  rw [ho] at c4
  clear hb1 hr ho
  go_enter Tryd.func13, Tryd.ntmps13
  go_wp2
  go_ret2
  exact ⟨_, _, rfl, rfl, rfl, HQ.out, Below.refl _ _⟩

set_option maxHeartbeats 2000000 in
set_option maxRecDepth 100000 in
theorem step_left {B g : Nat} {w : World} {s : QS} {b : Int} (h : QAt B w g s) (hB : B ≤ w.heap.size) (ok : s.Ok) (ho : s.over = false) (hl : 0 < s.left) (hb0 : 0 ≤ b) (hb9 : b < 256) :
    Calls Tryd.prog 13 #[.pointer (some ⟨g, 0, none⟩), .int .u8 b] w (StepPost B g (false, digQ s b) w) := by
  have HC := Aside0.mk (digit_calls h hB ok hl hb0 hb9)
  obtain ⟨h0, x, hb1, hr⟩ := h
  have c4 := (blk_cell hb1 4).trans rfl
  rw [ho] at c4
  have c2 := (blk_cell hb1 2).trans rfl
  have t1 : decide (0 < s.left) = true := decide_eq_true hl
  clear hb1 hr ho hl ok hB hb0 hb9
  go_enter Tryd.func13, Tryd.ntmps13
  go_wp2_with (go_at_call 20; refine HC.out.mono ?_; rintro e w1 ⟨y, rfl, hy, hq, hb⟩; have H1 := Aside0.mk hy; have H2 := Aside0.mk hq; have H3 := Aside0.mk hb; clear hy hq hb)
  go_ret2
  exact ⟨_, _, rfl, rfl, H1.out, H2.out, H3.out⟩

theorem C_one {w : World} {k : IntKind} {g : Nat} {c : Int} (h : w.cell? ⟨g, 0, none⟩ = some (.int k c)) : (Kd.int k).C w (some ⟨g, 0, none⟩) [c].length [c] := by
  refine Kd.C_of_reads (d := (0 : Int)) ⟨rfl, by simp, fun _ => ⟨_, rfl, fun j hj => ?_⟩⟩
  have hj0 : j = 0 := by simpa using hj
  subst hj0
  have ha : (⟨g, 0, none⟩ : Addr).add 0 = ⟨g, 0, none⟩ := by unfold Addr.add; simp
  rw [ha, h]
  rfl
section
variable {P : Program} {ops : Array Oper} {rest : List Oper} {o : Oper} {a : Act} {Q : Exit → Act → World → Prop}
/-- '[]T{x}' as one step. -/
theorem one_event {W : World} (hgd : o.guard = none) {N : Tmp} (_hd : o.dst = some N) {k : IntKind} {x : Int} {e : TypeId}
    (hrun : (execOp a.eval o).run P W = .ok (.value (.slice (some ⟨W.heap.size, 0, none⟩) 1 1)) (W.alloc (.cells #[.int k x] e)))
    (h : ∀ g w1, (Kd.int k).C w1 (some ⟨g, 0, none⟩) [x].length [x] → Below W.heap.size W w1 → wpList P ops Q rest (a.put o.dst (.slice (some ⟨g, 0, none⟩) 1 1)) w1) : wpList P ops Q (o :: rest) a W :=
  Kd.event_run hgd hrun (h _ _ (C_one ((blk_cell (blk_new W (.cells #[.int k x] e (0, 0))) 0).trans rfl)) (below_alloc (Below.refl _ _) _))
end

set_option maxHeartbeats 2000000 in
set_option maxRecDepth 100000 in
theorem step_u {B g : Nat} {w : World} {s : QS} {b : Int} (h : QAt B w g s) (ho : s.over = false) (hl : s.left ≤ 0) (he : s.esc = true) (hb : b = 117) :
    Calls Tryd.prog 13 #[.pointer (some ⟨g, 0, none⟩), .int .u8 b] w (StepPost B g (false, 0, { s with esc := false, left := 4, num := 0 }) w) := by
  have HQ := Aside0.mk h
  obtain ⟨h0, x, hb1, hr⟩ := h
  have H0 := Aside0.mk h0
  have c4 := (blk_cell hb1 4).trans rfl
  rw [ho] at c4
  have c2 := (blk_cell hb1 2).trans rfl
  have c1 := (blk_cell hb1 1).trans rfl
  rw [he] at c1
  have f1 := blk_frozen hb1 1
  have f2 := blk_frozen hb1 2
  have f3 := blk_frozen hb1 3
  have c3 := (blk_cell hb1 3).trans rfl
  have t1 : decide (0 < s.left) = false := decide_eq_false (by omega)
  subst hb
  clear hb1 hr ho hl he h0
  go_enter Tryd.func13, Tryd.ntmps13
  go_wp2
  go_ret2
  exact ⟨_, _, rfl, rfl, rfl, ((HQ.out.esc false).left 4).num 0, (((Below.refl _ _).setCell (p := ⟨g, 1, none⟩) H0.out _).setCell (p := ⟨g, 2, none⟩) H0.out _).setCell (p := ⟨g, 3, none⟩) H0.out _⟩

set_option maxHeartbeats 2000000 in
set_option maxRecDepth 100000 in
theorem step_noesc {B g : Nat} {w : World} {s : QS} {b : Int} (h : QAt B w g s) (hB : B ≤ w.heap.size) (ho : s.over = false) (hl : s.left ≤ 0) (he : s.esc = true) (hb : b ≠ 117) (hb0 : 0 ≤ b) (hb9 : b < 256) (hx : escN b = none) :
    Calls Tryd.prog 13 #[.pointer (some ⟨g, 0, none⟩), .int .u8 b] w (StepPost B g (false, 9, { s with esc := false }) w) := by
  have HQ := Aside0.mk h
  obtain ⟨h0, x, hb1, hr⟩ := h
  have H0 := Aside0.mk h0
  have HW := Aside0.mk hB
  have HX := Aside0.mk hx
  have HR := Aside0.mk (show (0 : Int) ≤ b ∧ b < 256 from ⟨hb0, hb9⟩)
  have c4 := (blk_cell hb1 4).trans rfl
  rw [ho] at c4
  have c2 := (blk_cell hb1 2).trans rfl
  have c1 := (blk_cell hb1 1).trans rfl
  rw [he] at c1
  have f1 := blk_frozen hb1 1
  have t1 : decide (0 < s.left) = false := decide_eq_false (by omega)
  have t2 : decide (b = 117) = false := decide_eq_false hb
  have t3 : (b == 117) = false := by simpa using hb
  clear hb1 hr ho hl he h0 hx hb0 hb9 hB hb
  go_enter Tryd.func13, Tryd.ntmps13
  go_wp2_with (first
    | (go_at_call 21; refine (escapes_calls _).mono ?_; rintro e w1 ⟨gm, m, rfl, hm, hbm⟩; have M1 := Aside0.mk hm; have Q1 := Aside0.mk ((HQ.out.esc false).below hbm); have B1 := Aside0.mk ((((Below.refl B _).setCell (p := ⟨g, 1, none⟩) H0.out (.bool false))).trans (below_mono hbm (by have := HW.out; simpa [World.setCell] using this))); clear hm hbm)
    | (at_lookup; refine MKind.look_event rfl rfl (mk8 escT) rfl b rfl M1.out HR.out ?_; rw [HX.out]))
  go_ret2
  exact ⟨_, _, rfl, rfl, rfl, Q1.out, B1.out⟩

set_option maxHeartbeats 2000000 in
set_option maxRecDepth 100000 in
theorem step_esc {B g : Nat} {w : World} {s : QS} {b c : Int} (h : QAt B w g s) (hB : B ≤ w.heap.size) (ok : s.Ok) (ho : s.over = false) (hl : s.left ≤ 0) (he : s.esc = true) (hb : b ≠ 117) (hb0 : 0 ≤ b) (hb9 : b < 256) (hx : escN b = some c) :
    Calls Tryd.prog 13 #[.pointer (some ⟨g, 0, none⟩), .int .u8 b] w (StepPost B g (false, addQ { s with esc := false } [c]) w) := by
  have HQ := Aside0.mk h
  obtain ⟨h0, x, hb1, hr⟩ := h
  have H0 := Aside0.mk h0
  have HW := Aside0.mk hB
  have HX := Aside0.mk hx
  have HL := Aside0.mk (by have := ok.1; omega : s.l.length ≤ 1000)
  have HR := Aside0.mk (show (0 : Int) ≤ b ∧ b < 256 from ⟨hb0, hb9⟩)
  have c4 := (blk_cell hb1 4).trans rfl
  rw [ho] at c4
  have c2 := (blk_cell hb1 2).trans rfl
  have c1 := (blk_cell hb1 1).trans rfl
  rw [he] at c1
  have f1 := blk_frozen hb1 1
  have t1 : decide (0 < s.left) = false := decide_eq_false (by omega)
  have t2 : decide (b = 117) = false := decide_eq_false hb
  have t3 : (b == 117) = false := by simpa using hb
  clear hb1 hr ho hl he h0 hx hb0 hb9 hB hb ok
  go_enter Tryd.func13, Tryd.ntmps13
  go_wp2_with (first
    | (go_at_call 21; refine (escapes_calls _).mono ?_; rintro e w1 ⟨gm, m, rfl, hm, hbm⟩; have M1 := Aside0.mk hm; have Q1 := Aside0.mk ((HQ.out.esc false).below hbm); have B1 := Aside0.mk ((((Below.refl B _).setCell (p := ⟨g, 1, none⟩) H0.out (.bool false))).trans (below_mono hbm (by have := HW.out; simpa [World.setCell] using this))); clear hm hbm)
    | (at_lookup; refine MKind.look_event rfl rfl (mk8 escT) rfl b rfl M1.out HR.out ?_; rw [HX.out]; rw [(rfl : (mk8 escT).vv ((some c).getD (mk8 escT).d) = .int .u8 c), Option.isSome_some])
    | (refine one_event rfl (N := 50) rfl (k := .u8) (x := c) (e := 5) ?hr ?_; (case hr => first | (go_simp; done) | (go_simp; rfl)); intro g2 w2 hc2 hb2; have Q2 := Aside0.mk (Q1.out.below hb2); have C2 := Aside0.mk hc2; have W1 := Aside0.mk (Nat.le_trans HW.out B1.out.size); have B2 := Aside0.mk (B1.out.trans (below_mono hb2 W1.out)); have W2 := Aside0.mk (Nat.le_trans W1.out hb2.size); clear hc2 hb2)
    | (go_at_call 22; refine (add_calls Q2.out W2.out HL.out rfl (by simp) C2.out).mono ?_; intro e w3 hp; have hd := dig_of_add (s := { s with esc := false }) hp; clear hp; obtain ⟨y, rfl, hy, hq, hb⟩ := hd; have H1 := Aside0.mk hy; have H2 := Aside0.mk hq; have H3 := Aside0.mk hb; clear hy hq hb))
  go_ret2
  exact ⟨_, _, rfl, rfl, H1.out, H2.out, B2.out.trans H3.out⟩

set_option maxHeartbeats 2000000 in
set_option maxRecDepth 100000 in
theorem step_end {B g : Nat} {w : World} {s : QS} {b : Int} (h : QAt B w g s) (ho : s.over = false) (hl : s.left ≤ 0) (he : s.esc = false) (hb : b = 34) :
    Calls Tryd.prog 13 #[.pointer (some ⟨g, 0, none⟩), .int .u8 b] w (StepPost B g (true, 0, { s with over := true }) w) := by
  have HQ := Aside0.mk h
  obtain ⟨h0, x, hb1, hr⟩ := h
  have H0 := Aside0.mk h0
  have c4 := (blk_cell hb1 4).trans rfl
  rw [ho] at c4
  have c2 := (blk_cell hb1 2).trans rfl
  have c1 := (blk_cell hb1 1).trans rfl
  rw [he] at c1
  have f4 := blk_frozen hb1 4
  have t1 : decide (0 < s.left) = false := decide_eq_false (by omega)
  subst hb
  clear hb1 hr ho hl he h0
  go_enter Tryd.func13, Tryd.ntmps13
  go_wp2
  go_ret2
  exact ⟨_, _, rfl, rfl, rfl, HQ.out.over true, (Below.refl _ _).setCell (p := ⟨g, 4, none⟩) H0.out _⟩

set_option maxHeartbeats 2000000 in
set_option maxRecDepth 100000 in
theorem step_low {B g : Nat} {w : World} {s : QS} {b : Int} (h : QAt B w g s) (ho : s.over = false) (hl : s.left ≤ 0) (he : s.esc = false) (hb : b < 32) :
    Calls Tryd.prog 13 #[.pointer (some ⟨g, 0, none⟩), .int .u8 b] w (StepPost B g (false, 2, s) w) := by
  have HQ := Aside0.mk h
  obtain ⟨h0, x, hb1, hr⟩ := h
  have c4 := (blk_cell hb1 4).trans rfl
  rw [ho] at c4
  have c2 := (blk_cell hb1 2).trans rfl
  have c1 := (blk_cell hb1 1).trans rfl
  rw [he] at c1
  have t1 : decide (0 < s.left) = false := decide_eq_false (by omega)
  have t2 : (b == 34) = false := by simp; omega
  have t4 : decide (b = 34) = false := decide_eq_false (by omega)
  have t3 : decide (b < 32) = true := decide_eq_true hb
  clear hb1 hr ho hl he h0 hb
  go_enter Tryd.func13, Tryd.ntmps13
  go_wp2
  go_ret2
  exact ⟨_, _, rfl, rfl, rfl, HQ.out, Below.refl _ _⟩

set_option maxHeartbeats 2000000 in
set_option maxRecDepth 100000 in
theorem step_stroke {B g : Nat} {w : World} {s : QS} {b : Int} (h : QAt B w g s) (ho : s.over = false) (hl : s.left ≤ 0) (he : s.esc = false) (hb : b = 92) :
    Calls Tryd.prog 13 #[.pointer (some ⟨g, 0, none⟩), .int .u8 b] w (StepPost B g (false, 0, { s with esc := true }) w) := by
  have HQ := Aside0.mk h
  obtain ⟨h0, x, hb1, hr⟩ := h
  have H0 := Aside0.mk h0
  have c4 := (blk_cell hb1 4).trans rfl
  rw [ho] at c4
  have c2 := (blk_cell hb1 2).trans rfl
  have c1 := (blk_cell hb1 1).trans rfl
  rw [he] at c1
  have f1 := blk_frozen hb1 1
  have t1 : decide (0 < s.left) = false := decide_eq_false (by omega)
  subst hb
  clear hb1 hr ho hl he h0
  go_enter Tryd.func13, Tryd.ntmps13
  go_wp2
  go_ret2
  exact ⟨_, _, rfl, rfl, rfl, HQ.out.esc true, (Below.refl _ _).setCell (p := ⟨g, 1, none⟩) H0.out _⟩

set_option maxHeartbeats 2000000 in
set_option maxRecDepth 100000 in
theorem step_plain {B g : Nat} {w : World} {s : QS} {b : Int} (h : QAt B w g s) (hB : B ≤ w.heap.size) (ok : s.Ok) (ho : s.over = false) (hl : s.left ≤ 0) (he : s.esc = false) (h1 : b ≠ 34) (h2 : ¬ b < 32) (h3 : b ≠ 92) :
    Calls Tryd.prog 13 #[.pointer (some ⟨g, 0, none⟩), .int .u8 b] w (StepPost B g (false, addQ s [b]) w) := by
  have HQ := Aside0.mk h
  obtain ⟨h0, x, hb1, hr⟩ := h
  have H0 := Aside0.mk h0
  have HW := Aside0.mk hB
  have HL := Aside0.mk (by have := ok.1; omega : s.l.length ≤ 1000)
  have c4 := (blk_cell hb1 4).trans rfl
  rw [ho] at c4
  have c2 := (blk_cell hb1 2).trans rfl
  have c1 := (blk_cell hb1 1).trans rfl
  rw [he] at c1
  have t1 : decide (0 < s.left) = false := decide_eq_false (by omega)
  have t2 : (b == 34) = false := by simp; omega
  have t4 : decide (b = 34) = false := decide_eq_false (by omega)
  have t3 : decide (b < 32) = false := decide_eq_false h2
  have t5 : (b == 92) = false := by simp; omega
  have t6 : decide (b = 92) = false := decide_eq_false (by omega)
  clear hb1 hr ho hl he h0 h1 h2 h3 hB ok
  go_enter Tryd.func13, Tryd.ntmps13
  go_wp2_with (first
    | (refine one_event rfl (N := 71) rfl (k := .u8) (x := b) (e := 5) ?hr ?_; (case hr => first | (go_simp; done) | (go_simp; rfl)); intro g2 w2 hc2 hb2; have Q2 := Aside0.mk (IsQ.below HQ.out hb2); have C2 := Aside0.mk hc2; have B2 := Aside0.mk (below_mono hb2 HW.out); have W2 := Aside0.mk (Nat.le_trans HW.out hb2.size); clear hc2 hb2)
    | (go_at_call 22; refine (add_calls Q2.out W2.out HL.out rfl (by simp) C2.out).mono ?_; intro e w3 hp; have hd := dig_of_add (s := s) hp; clear hp; obtain ⟨y, rfl, hy, hq, hb⟩ := hd; have H1 := Aside0.mk hy; have H2 := Aside0.mk hq; have H3 := Aside0.mk hb; clear hy hq hb))
  go_ret2
  exact ⟨_, _, rfl, rfl, H1.out, H2.out, B2.out.trans H3.out⟩

theorem step_calls {B g : Nat} {w : World} {s : QS} {b : Int} (h : QAt B w g s) (hB : B ≤ w.heap.size) (ok : s.Ok) (h0 : 0 ≤ b) (h1 : b < 256) :
    Calls Tryd.prog 13 #[.pointer (some ⟨g, 0, none⟩), .int .u8 b] w (StepPost B g (stepQ s b) w) := by
  unfold stepQ
  by_cases ho : s.over = true
  · rw [if_pos ho]; exact step_over h ho
  rw [if_neg ho]
  have ho' : s.over = false := by simpa using ho
  by_cases hl : 0 < s.left
  · rw [if_pos hl]; exact step_left h hB ok ho' hl h0 h1
  rw [if_neg hl]
  have hl' : s.left ≤ 0 := by omega
  by_cases he : s.esc = true
  · rw [if_pos he]
    by_cases hb : b = 117
    · rw [if_pos hb]; exact step_u h ho' hl' he hb
    rw [if_neg hb]
    cases hx : escN b with
    | none => exact step_noesc h hB ho' hl' he hb h0 h1 hx
    | some c => exact step_esc h hB ok ho' hl' he hb h0 h1 hx
  rw [if_neg he]
  have he' : s.esc = false := by simpa using he
  by_cases c1 : b = 34
  · rw [if_pos c1]; exact step_end h ho' hl' he' c1
  rw [if_neg c1]
  by_cases c2 : b < 32
  · rw [if_pos c2]; exact step_low h ho' hl' he' c2
  rw [if_neg c2]
  by_cases c3 : b = 92
  · rw [if_pos c3]; exact step_stroke h ho' hl' he' c3
  rw [if_neg c3]
  exact step_plain h hB ok ho' hl' he' c1 c2 c3
end Go.Proofs.YtadbjbnnmooicaaDoor.Qw
