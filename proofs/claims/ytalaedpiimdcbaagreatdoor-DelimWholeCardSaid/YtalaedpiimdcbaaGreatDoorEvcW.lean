/- events: a Check in memory; last, value, stands, named, walked. -/
import Derived.Test.YtalaedpiimdcbaaGreatDoorEvcF
import Derived.Test.YtalaedpiimdcbaaGreatDoorOwnStr
import Derived.Test.YtalaedpiimdcbaaGreatDoorHp2
import Derived.StillTailTactics
import Derived.Deep.QuietTactic
import Derived.BigQuiet
import Derived.Test.YtalaedpiimdcbaaGreatDoorProg
namespace Go.Proofs.YtalaedpiimdcbaaGreatDoor.Ec
open Go Go.Lib Go.RowKit Go.Proofs.YtalaedpiimdcbaaGreatDoorW.PrintWords Go.Proofs.YtalaedpiimdcbaaGreatDoorW.PrintLast Go.Proofs.YtalaedpiimdcbaaGreatDoor.Own Go.Proofs.YtalaedpiimdcbaaGreatDoor.Hp
set_option linter.unusedVariables false
set_option linter.unusedSimpArgs false
theorem tB : TB Tryz.prog 59 9 4 := ⟨Tryz.underlying59, Tryz.underlying9, Tryz.underlying4, Tryz.zeroValue4⟩
/-- The types of a Check's blocks. -/
def evcT (t : Option Nat) : Prop := t = some 54 ∨ t = some 61 ∨ t = some 56 ∨ t = none
abbrev evA (x : Ev) : Value := .agg #[.int .i64 x.k, .string x.t, .string x.v]
abbrev pt (b : Nat) : Value := .pointer (some ⟨b, 0, none⟩)
def opCells (mb : Nat) (l : OE) : Array Value := #[.int .i64 l.k, .bool l.key, .bool l.text, .bool l.full, .map (some mb)]
/-- A thing that is open, at block b, its keys in map mb. -/
structure OAt (F : Nat → Prop) (w : World) (p : Nat × Nat) (l : OE) : Prop where
  fb : F p.1
  fm : F p.2
  blk : w.heap[p.1]? = some (.cells (opCells p.2 l) 61 (0, 0))
  map : (mkB tB).Is w p.2 l.had.length l.had.length (hadF l.had)
section
variable {F F' G : Nat → Prop} {w w1 : World} {p : Nat × Nat} {l : OE} {T : Option Nat → Prop}
theorem OAt.mono (h : OAt F w p l) (hF : ∀ k, F k → F' k) : OAt F' w p l := ⟨hF _ h.fb, hF _ h.fm, h.blk, h.map⟩
theorem OAt.far (h : OAt F w p l) (hc : Ch T G w w1) (hd : ∀ k, F k → ¬ G k) : OAt F w1 p l := ⟨h.fb, h.fm, hc.blk h.blk (fun h2 => hd _ h.fb h2.1), is_ch h.map hc (fun h2 => hd _ h.fm h2.1)⟩
theorem OAt.ch (h : OAt F w p l) (hc : Ch T G w w1) (h1 : ¬ T (some 61)) (h2 : ¬ T none) : OAt F w1 p l := ⟨h.fb, h.fm, hc.blk h.blk (fun h3 => h1 h3.2), is_ch h.map hc (fun h3 => h2 h3.2)⟩
theorem OAt.keep (h : OAt F w p l) (h1 : ∀ o, w.heap[p.1]? = some o → w1.heap[p.1]? = some o) (h2 : ∀ o, w.heap[p.2]? = some o → w1.heap[p.2]? = some o) : OAt F w1 p l := by
  obtain ⟨es, ck, h3⟩ := is_block h.map
  exact ⟨h.fb, h.fm, h1 _ h.blk, h.map.same ((h2 _ h3).trans h3.symm)⟩
theorem OAt.lt (h : OAt F w p l) : p.1 < w.heap.size ∧ p.2 < w.heap.size := ⟨blk_lt h.blk, h.map.lt⟩
end
/-- Two rows, side by side. -/
inductive All2 {α β : Type} (R : α → β → Prop) : List α → List β → Prop
  | nil : All2 R [] []
  | cons {a : α} {b : β} {l : List α} {m : List β} : R a b → All2 R l m → All2 R (a :: l) (b :: m)
theorem All2.length_eq {α β : Type} {R : α → β → Prop} {l : List α} {m : List β} (h : All2 R l m) : l.length = m.length := by
  induction h with
  | nil => rfl
  | cons _ _ ih => rw [List.length_cons, List.length_cons, ih]
theorem All2.imp {α β : Type} {R S : α → β → Prop} {l : List α} {m : List β} (h : All2 R l m) (hi : ∀ a b, R a b → S a b) : All2 S l m := by
  induction h with
  | nil => exact .nil
  | cons h1 _ ih => exact .cons (hi _ _ h1) ih
theorem All2.impm {α β : Type} {R S : α → β → Prop} {l : List α} {m : List β} (h : All2 R l m) (hi : ∀ a b, a ∈ l → R a b → S a b) : All2 S l m := by
  induction h with
  | nil => exact .nil
  | cons h1 _ ih => exact .cons (hi _ _ (List.mem_cons_self ..) h1) (ih (fun a b ha hr => hi a b (List.mem_cons_of_mem _ ha) hr))
/-- A Check at block g; what is open stands at ps, the innermost first. -/
structure CkAt (F : Nat → Prop) (w : World) (g : Nat) (ps : List (Nat × Nat)) (c : CK) : Prop where
  fg : F g
  core : ∃ ov, w.heap[g]? = some (.cells #[ov, .bool c.over] 54 (0, 0)) ∧ Row F w 56 1 ov ps.length (ps.reverse.map fun p => pt p.1)
  each : All2 (OAt F w) ps c.op
  dup1 : (ps.map Prod.fst).Nodup
  dup2 : (ps.map Prod.snd).Nodup
section
variable {F F' G : Nat → Prop} {w w1 : World} {g : Nat} {ps : List (Nat × Nat)} {c : CK} {T : Option Nat → Prop}
theorem CkAt.lt (h : CkAt F w g ps c) : g < w.heap.size := by obtain ⟨ov, h1, _⟩ := h.core; exact blk_lt h1
theorem CkAt.len (h : CkAt F w g ps c) : ps.length = c.op.length := h.each.length_eq
theorem CkAt.mono (h : CkAt F w g ps c) (hF : ∀ k, F k → F' k) : CkAt F' w g ps c := by
  obtain ⟨ov, h1, h2⟩ := h.core
  exact ⟨hF _ h.fg, ⟨ov, h1, h2.mono hF⟩, h.each.imp (fun _ _ h => h.mono hF), h.dup1, h.dup2⟩
theorem CkAt.far (h : CkAt F w g ps c) (hc : Ch T G w w1) (hd : ∀ k, F k → ¬ G k) : CkAt F w1 g ps c := by
  obtain ⟨ov, h1, h2⟩ := h.core
  exact ⟨h.fg, ⟨ov, hc.blk h1 (fun h3 => hd _ h.fg h3.1), h2.far hc hd⟩, h.each.imp (fun _ _ h => h.far hc hd), h.dup1, h.dup2⟩
theorem CkAt.below (h : CkAt F w g ps c) (hb : Below w.heap.size w w1) : CkAt F w1 g ps c := h.far (G := fun _ => False) (T := fun _ => False) (Ch.of_below hb) (fun _ _ h => h)
end
set_option maxHeartbeats 4000000 in
set_option maxRecDepth 100000 in
theorem last_none {F : Nat → Prop} {w : World} {g : Nat} {c : CK} (h : CkAt F w g [] c) :
    Calls Tryz.prog 17 #[pt g] w fun e w' => e = .returned (.pointer none) ∧ Below w.heap.size w w' := by
  obtain ⟨ov, h1, h2⟩ := h.core
  obtain ⟨A, n, hv, _, _⟩ := h2.slice
  subst hv
  have c0 : w.cell? ⟨g, 0, none⟩ = some (.slice A 0 n) := (blk_cell h1 0).trans rfl
  clear h h1 h2
  go_enter Tryz.func17, Tryz.ntmps17
  go_wp2
  go_ret
  exact ⟨rfl, Below.refl _ _⟩
set_option maxHeartbeats 4000000 in
set_option maxRecDepth 100000 in
theorem last_some {F : Nat → Prop} {w : World} {g : Nat} {p : Nat × Nat} {ps : List (Nat × Nat)} {c : CK} (h : CkAt F w g (p :: ps) c) :
    Calls Tryz.prog 17 #[pt g] w fun e w' => e = .returned (pt p.1) ∧ Below w.heap.size w w' := by
  obtain ⟨ov, h1, h2⟩ := h.core
  obtain ⟨b, o, n, hv, hn, _, hcell, _⟩ := h2.open_ (by simp)
  rw [List.length_cons] at hv hn
  subst hv
  have c0 : w.cell? ⟨g, 0, none⟩ = some (.slice (some ⟨b, o, none⟩) (ps.length + 1) n) := (blk_cell h1 0).trans rfl
  have d0 := hcell ps.length (pt p.1) (by rw [List.getElem?_map, List.getElem?_reverse (by simp)]; simp)
  have hml : n ≤ maxLen := by obtain ⟨_, _, hx, _, hy⟩ := h2.slice; injection hx with _ _ h3; omega
  have e1 : IntKind.i64.wrap ((ps.length : Int)) = (ps.length : Int) := Go.IntWalk.i64_in _ (by unfold maxLen at hml; omega)
  have e0 : IntKind.i64.wrap ((ps.length : Int) + 1 - 1) = (ps.length : Int) := by rw [Int.add_sub_cancel]; exact e1
  have e3 : (0 : Int) ≤ (ps.length : Int) := by omega
  have e4 : ((ps.length : Int) + 1 == 0) = false := by rw [beq_eq_false_iff_ne]; omega
  have e5 : (ps.length : Int) < (ps.length : Int) + 1 := by omega
  clear h h1 h2 hcell hn hml
  go_enter Tryz.func17, Tryz.ntmps17
  go_wp2
  go_quiet (fail)
  go_wp2
  go_ret
  exact ⟨rfl, pw_below_drewN (Below.refl _ _) _⟩
set_option maxHeartbeats 4000000 in
set_option maxRecDepth 100000 in
theorem value_none {F : Nat → Prop} {w : World} {g : Nat} {c : CK} (x : Ev) (h : CkAt F w g [] c) :
    Calls Tryz.prog 18 #[pt g, evA x] w fun e w' => e = .returned (.bool (!c.over)) ∧ Below w.heap.size w w' := by
  have H := Aside0.mk h
  clear h
  go_enter Tryz.func18, Tryz.ntmps18
  go_wp2_with (first
    | ((with_reducible refine gate_dst (N := 3) rfl ?_); refine box_event ?hg (N := 3) ?hd (cs := #[.int .i64 x.k, .string x.t, .string x.v]) (t := 44) ?hr ?_; (case hd => rfl); (case hg => rfl); (case hr => first | (go_simp; done) | (go_simp; rfl)); intro b hg w1 hbox hb; have H1 := Aside0.mk hbox; have B1 := Aside0.mk hb; have K1 := Aside0.mk (H.out.below hb); clear hg hbox hb)
    | (go_at_call 17; refine (last_none K1.out).mono ?_; rintro e w2 ⟨rfl, hb⟩; have B2 := Aside0.mk hb; obtain ⟨ov, hc, _⟩ := (K1.out.below hb).core; have c1 : w2.cell? ⟨g, 1, none⟩ = some (.bool c.over) := (blk_cell hc 1).trans rfl; clear hb hc))
  go_ret
  exact ⟨rfl, B1.out.trans (B2.out.mono B1.out.size)⟩
set_option maxHeartbeats 4000000 in
set_option maxRecDepth 100000 in
theorem value_some {F : Nat → Prop} {w : World} {g : Nat} {p : Nat × Nat} {ps : List (Nat × Nat)} {c : CK} {l : OE} (x : Ev) (h : CkAt F w g (p :: ps) c) (hl : OAt F w p l) (h10 : l.k ≠ 10) :
    Calls Tryz.prog 18 #[pt g, evA x] w fun e w' => e = .returned (.bool (if l.k = 7 then l.key else true)) ∧ Below w.heap.size w w' := by
  have H := Aside0.mk h
  have L := Aside0.mk hl
  clear h hl
  by_cases h7 : l.k = 7
  · have HK := Aside0.mk h7
    rw [if_pos h7]
    clear h7 h10
    go_enter Tryz.func18, Tryz.ntmps18
    go_wp2_with (first
      | ((with_reducible refine gate_dst (N := 3) rfl ?_); refine box_event ?hg (N := 3) ?hd (cs := #[.int .i64 x.k, .string x.t, .string x.v]) (t := 44) ?hr ?_; (case hd => rfl); (case hg => rfl); (case hr => first | (go_simp; done) | (go_simp; rfl)); intro b hg w1 hbox hb; have B1 := Aside0.mk hb; have K1 := Aside0.mk (H.out.below hb); clear hg hbox hb)
      | (go_at_call 17; refine (last_some K1.out).mono ?_; rintro e w2 ⟨rfl, hb⟩; have B2 := Aside0.mk hb; have O2 := (B2.out.block p.1 (Nat.lt_of_lt_of_le L.out.lt.1 B1.out.size)).trans ((B1.out.block p.1 L.out.lt.1).trans L.out.blk); have c0 : w2.cell? ⟨p.1, 0, none⟩ = some (.int .i64 7) := (blk_cell O2 0).trans (by rw [← HK.out]; rfl); have c1 : w2.cell? ⟨p.1, 1, none⟩ = some (.bool l.key) := (blk_cell O2 1).trans rfl; clear hb O2))
    go_ret
    exact ⟨rfl, B1.out.trans (B2.out.mono B1.out.size)⟩
  · obtain ⟨k, hk⟩ : ∃ k, l.k = k := ⟨_, rfl⟩
    have HK := Aside0.mk hk
    rw [if_neg h7]
    rw [hk] at h7 h10
    have n7 : (k == 7) = false := by rw [beq_eq_false_iff_ne]; exact h7
    have m7 : decide (k = 7) = false := decide_eq_false h7
    have n10 : (k == 10) = false := by rw [beq_eq_false_iff_ne]; exact h10
    have m10 : decide (k = 10) = false := decide_eq_false h10
    clear h7 h10 hk
    go_enter Tryz.func18, Tryz.ntmps18
    go_wp2_with (first
      | ((with_reducible refine gate_dst (N := 3) rfl ?_); refine box_event ?hg (N := 3) ?hd (cs := #[.int .i64 x.k, .string x.t, .string x.v]) (t := 44) ?hr ?_; (case hd => rfl); (case hg => rfl); (case hr => first | (go_simp; done) | (go_simp; rfl)); intro b hg w1 hbox hb; have B1 := Aside0.mk hb; have K1 := Aside0.mk (H.out.below hb); clear hg hbox hb)
      | (go_at_call 17; refine (last_some K1.out).mono ?_; rintro e w2 ⟨rfl, hb⟩; have B2 := Aside0.mk hb; have O2 := (B2.out.block p.1 (Nat.lt_of_lt_of_le L.out.lt.1 B1.out.size)).trans ((B1.out.block p.1 L.out.lt.1).trans L.out.blk); have c0 : w2.cell? ⟨p.1, 0, none⟩ = some (.int .i64 k) := (blk_cell O2 0).trans (by rw [← HK.out]; rfl); clear hb O2))
    go_ret
    exact ⟨rfl, B1.out.trans (B2.out.mono B1.out.size)⟩
/-- One of the Check's own cells set. -/
theorem CkAt.over {F : Nat → Prop} {w : World} {g : Nat} {ps : List (Nat × Nat)} {c : CK} (h : CkAt F w g ps c) (x : Bool) : CkAt F (w.setCell ⟨g, 1, none⟩ (.bool x)) g ps { c with over := x } ∧ Ch evcT F w (w.setCell ⟨g, 1, none⟩ (.bool x)) := by
  obtain ⟨ov, h1, h2⟩ := h.core
  have hc : Ch (fun t => t = some 54) F w (w.setCell ⟨g, 1, none⟩ (.bool x)) := Ch.set (T := fun t => t = some 54) h1 h.fg rfl 1 _
  refine ⟨⟨h.fg, ⟨ov, blk_put (cs' := #[ov, .bool x]) h1 1 _ rfl, h2.ch hc (by decide)⟩, h.each.imp (fun _ _ h => h.ch hc (by decide) (by decide)), h.dup1, h.dup2⟩, hc.mono (fun t ht => .inl ht) (fun _ h => h)⟩
/-- One cell of a thing that is open set. -/
theorem OAt.put {F : Nat → Prop} {w : World} {p : Nat × Nat} {l l' : OE} (h : OAt F w p l) (i : Nat) (v : Value) (he : (opCells p.2 l).setIfInBounds i v = opCells p.2 l') (hh : l'.had = l.had) :
    OAt F (w.setCell ⟨p.1, i, none⟩ v) p l' ∧ Ch (fun t => t = some 61) (fun k => k = p.1) w (w.setCell ⟨p.1, i, none⟩ v) := by
  have hc : Ch (fun t => t = some 61) (fun k => k = p.1) w (w.setCell ⟨p.1, i, none⟩ v) := Ch.set (T := fun t => t = some 61) (F := fun k => k = p.1) h.blk rfl rfl i v
  refine ⟨⟨h.fb, h.fm, blk_put h.blk i v he, ?_⟩, hc⟩
  rw [hh]
  exact is_ch h.map hc (fun h2 => absurd h2.2 (by decide))
/-- The innermost thing is another one now. -/
theorem CkAt.top {F : Nat → Prop} {w w1 : World} {g : Nat} {p : Nat × Nat} {ps : List (Nat × Nat)} {c : CK} {l l' : OE} {r : List OE} (h : CkAt F w g (p :: ps) c) (hop : c.op = l :: r)
    (hl : OAt F w1 p l') (hc : Ch (fun t => t = some 61 ∨ t = none) (fun k => k = p.1 ∨ k = p.2) w w1) : CkAt F w1 g (p :: ps) { c with op := l' :: r } := by
  obtain ⟨ov, h1, h2⟩ := h.core
  have he := h.each
  rw [hop] at he
  cases he with
  | cons h3 h4 =>
    refine ⟨h.fg, ⟨ov, hc.blk h1 (fun hx => absurd hx.2 (by decide)), h2.ch hc (by decide)⟩, .cons hl ?_, h.dup1, h.dup2⟩
    have d1 := h.dup1
    have d2 := h.dup2
    rw [List.map_cons, List.nodup_cons] at d1 d2
    refine h4.impm (fun q m hq hm => ?_)
    have hblk : ∀ o, w.heap[q.1]? = some o → w1.heap[q.1]? = some o := fun o ho => hc.block _ _ ho (fun hx => by
      rcases hx.1 with hx1 | hx1
      · exact d1.1 (hx1 ▸ List.mem_map_of_mem (f := Prod.fst) hq)
      · have h5 := h3.map
        obtain ⟨es, ck, h6⟩ := is_block h5
        rw [← hx1, hm.blk] at h6
        cases h6)
    have hmap : ∀ o, w.heap[q.2]? = some o → w1.heap[q.2]? = some o := fun o ho => hc.block _ _ ho (fun hx => by
      rcases hx.1 with hx1 | hx1
      · obtain ⟨es, ck, h6⟩ := is_block hm.map
        rw [hx1, h3.blk] at h6
        cases h6
      · exact d2.1 (hx1 ▸ List.mem_map_of_mem (f := Prod.snd) hq))
    exact hm.keep hblk hmap
theorem top_all {F : Nat → Prop} {w w1 : World} {p : Nat × Nat} (h1 : F p.1) (h2 : F p.2) (hc : Ch (fun t => t = some 61 ∨ t = none) (fun k => k = p.1 ∨ k = p.2) w w1) : Ch evcT F w w1 :=
  hc.mono (fun t ht => by rcases ht with ht | ht; exact .inr (.inl ht); exact .inr (.inr (.inr ht))) (fun k hk => by rcases hk with hk | hk; rw [hk]; exact h1; rw [hk]; exact h2)
theorem to_top {w w1 : World} {p : Nat × Nat} (hc : Ch (fun t => t = some 61) (fun k => k = p.1) w w1) : Ch (fun t => t = some 61 ∨ t = none) (fun k => k = p.1 ∨ k = p.2) w w1 := hc.mono (fun _ h => .inl h) (fun _ h => .inl h)
theorem store_one {P : Program} {ops : Array Oper} {oi : Oper} {N : Option Tmp} {a : Act} {w w1 : World} {K : Act → World → Prop} {Q : Exit → Act → World → Prop} (hw : Region.wanted oi (yielded ops a.tmps) = true) (hN : oi.dst = none) (hrun : (execOp a.eval oi).run P w = .ok .skip w1) (h : K a w1) : if Region.wanted oi (yielded ops a.tmps) = true then Oper.wp P oi a w K Q else K (a.put N undef) w := by
  rw [if_pos hw]
  unfold Oper.wp
  rw [hrun]
  show K (a.put oi.dst undef) w1
  rw [hN]
  exact h
/-- A Check behind a doing. -/
def CkPost (F : Nat → Prop) (w : World) (g : Nat) (ps : List (Nat × Nat)) (c : CK) (v : Value) (e : Ending) (w' : World) : Prop := e = .returned v ∧ CkAt F w' g ps c ∧ Ch evcT F w w'
set_option maxHeartbeats 4000000 in
set_option maxRecDepth 100000 in
theorem stands_none {F : Nat → Prop} {w : World} {g : Nat} {c : CK} (x : Ev) (h : CkAt F w g [] c) :
    Calls Tryz.prog 19 #[pt g, evA x] w (CkPost F w g [] { c with over := true } (.tuple #[])) := by
  have H := Aside0.mk h
  clear h
  go_enter Tryz.func19, Tryz.ntmps19
  go_wp2_with (first
    | ((with_reducible refine gate_dst (N := 3) rfl ?_); refine box_event ?hg (N := 3) ?hd (cs := #[.int .i64 x.k, .string x.t, .string x.v]) (t := 44) ?hr ?_; (case hd => rfl); (case hg => rfl); (case hr => first | (go_simp; done) | (go_simp; rfl)); intro b hg w1 hbox hb; have B1 := Aside0.mk hb; have K1 := Aside0.mk (H.out.below hb); clear hg hbox hb)
    | (go_at_call 17; refine (last_none K1.out).mono ?_; rintro e w2 ⟨rfl, hb⟩; have B2 := Aside0.mk hb; have K2 := Aside0.mk (K1.out.below hb); obtain ⟨ov, hc, _⟩ := K2.out.core; have c1 : w2.cell? ⟨g, 1, none⟩ = some (.bool c.over) := (blk_cell hc 1).trans rfl; have f1 := blk_frozen hc 1; clear hb hc))
  go_end0
  have hq := K2.out.over true
  exact ⟨rfl, hq.1, ((Ch.of_below B1.out).trans (Ch.of_below B2.out)).trans (hq.2.mono (fun _ h => h) (fun _ h => ext_of h))⟩
set_option maxHeartbeats 4000000 in
set_option maxRecDepth 100000 in
theorem stands_some {F : Nat → Prop} {w : World} {g : Nat} {p : Nat × Nat} {ps : List (Nat × Nat)} {c : CK} {l : OE} {r : List OE} (x : Ev) (h : CkAt F w g (p :: ps) c) (hop : c.op = l :: r) (hl : OAt F w p l) :
    Calls Tryz.prog 19 #[pt g, evA x] w (CkPost F w g (p :: ps) { c with op := { l with key := false, full := true, text := decide (x.k = 4) } :: r } (.tuple #[])) := by
  have H := Aside0.mk h
  have L := Aside0.mk hl
  have HOP := Aside0.mk hop
  clear h hl hop
  go_enter Tryz.func19, Tryz.ntmps19
  go_wp2_with (first
    | ((with_reducible refine gate_dst (N := 3) rfl ?_); refine box_event ?hg (N := 3) ?hd (cs := #[.int .i64 x.k, .string x.t, .string x.v]) (t := 44) ?hr ?_; (case hd => rfl); (case hg => rfl); (case hr => first | (go_simp; done) | (go_simp; rfl)); intro b hg w1 hbox hb; have X1 := Aside0.mk hbox; have B1 := Aside0.mk hb; have K1 := Aside0.mk (H.out.below hb); have L1 := Aside0.mk (L.out.far (G := fun _ => False) (T := fun _ => False) (Ch.of_below hb) (fun _ _ h => h)); clear hg hbox hb)
    | (go_at_call 17; refine (last_some K1.out).mono ?_; rintro e w2 ⟨rfl, hb⟩; have B2 := Aside0.mk hb; have K2 := Aside0.mk (K1.out.below hb); have L2 := Aside0.mk (L1.out.far (G := fun _ => False) (T := fun _ => False) (Ch.of_below hb) (fun _ _ h => h)); have X2 := Aside0.mk ((hb.block b (blk_lt X1.out)).trans X1.out); clear hb))
  have y0 : w2.cell? ⟨b, 0, none⟩ = some (.int .i64 x.k) := (blk_cell X2.out 0).trans rfl
  refine start_ (n := 15) (S := fun w' => w'.cell? ⟨b, 0, none⟩ = some (.int .i64 x.k)) (ds := [14]) #[false, false, false, false, false, false, false, false, false, false, false, false, false, false, false] (by kernel_rfl) rfl rfl y0 (fun hHeld => ?_)
  -- T12 := fieldAddr 44 (tmp 3) 0 :0,
  refine pure_ (i := 3) (N := some 12) (v := ?_) (a' := ?_) #[false, false, false, true, false, false, false, false, false, false, false, false, false, false, false] rfl rfl (by kernel_rfl) (fun _ _ _ h => h) (Or.inl ⟨by rfl, ?_⟩) ?_ ?_
  rotate_left
  · intro w'
    go_simp
    with_reducible rfl
  rotate_left
  · simp only [Act.put, List.setIfInBounds_toArray, List.set_cons_zero, List.set_cons_succ]
    rfl
  -- T13 := load 3 (tmp 12) :3,
  refine take_ (i := 4) (N := some 13) (v := ?_) (a' := ?_) #[false, false, false, true, true, false, false, false, false, false, false, false, false, false, false] rfl rfl (by kernel_rfl) (fun _ _ _ h => h) (Or.inl ⟨by rfl, ?_⟩) hHeld ?_ ?_
  rotate_left
  · intro w' hw'
    skip
    go_simp
    with_reducible rfl
  rotate_left
  · simp only [Act.put, List.setIfInBounds_toArray, List.set_cons_zero, List.set_cons_succ]
    rfl
  -- T14 := binOp eql 3 (tmp 13) (const (int i64 4)) 3 :4,
  refine pure_ (i := 5) (N := some 14) (v := ?_) (a' := ?_) #[false, false, false, true, true, true, false, false, false, false, false, false, false, false, false] rfl rfl (by kernel_rfl) (fun _ _ _ h => h) (Or.inl ⟨by rfl, ?_⟩) ?_ ?_
  rotate_left
  · intro w'
    go_simp
    with_reducible rfl
  rotate_left
  · simp only [Act.put, List.setIfInBounds_toArray, List.set_cons_zero, List.set_cons_succ]
    rfl
  -- T9 := move (tmp 4) :56,
  refine pure_ (i := 0) (N := some 9) (v := ?_) (a' := ?_) #[true, false, false, true, true, true, false, false, false, false, false, false, false, false, false] rfl rfl (by kernel_rfl) (fun _ _ _ h => h) (Or.inl ⟨by rfl, ?_⟩) ?_ ?_
  rotate_left
  · intro w'
    go_simp
    with_reducible rfl
  rotate_left
  · simp only [Act.put, List.setIfInBounds_toArray, List.set_cons_zero, List.set_cons_succ]
    rfl
  -- T10 := move (tmp 4) :56,
  refine pure_ (i := 1) (N := some 10) (v := ?_) (a' := ?_) #[true, true, false, true, true, true, false, false, false, false, false, false, false, false, false] rfl rfl (by kernel_rfl) (fun _ _ _ h => h) (Or.inl ⟨by rfl, ?_⟩) ?_ ?_
  rotate_left
  · intro w'
    go_simp
    with_reducible rfl
  rotate_left
  · simp only [Act.put, List.setIfInBounds_toArray, List.set_cons_zero, List.set_cons_succ]
    rfl
  -- T11 := move (tmp 4) :56,
  refine pure_ (i := 2) (N := some 11) (v := ?_) (a' := ?_) #[true, true, true, true, true, true, false, false, false, false, false, false, false, false, false] rfl rfl (by kernel_rfl) (fun _ _ _ h => h) (Or.inl ⟨by rfl, ?_⟩) ?_ ?_
  rotate_left
  · intro w'
    go_simp
    with_reducible rfl
  rotate_left
  · simp only [Act.put, List.setIfInBounds_toArray, List.set_cons_zero, List.set_cons_succ]
    rfl
  -- T15 := nilCheck (tmp 9) :0,
  refine pure_ (i := 6) (N := some 15) (v := ?_) (a' := ?_) #[true, true, true, true, true, true, true, false, false, false, false, false, false, false, false] rfl rfl (by kernel_rfl) (fun _ _ _ h => h) (Or.inl ⟨by rfl, ?_⟩) ?_ ?_
  rotate_left
  · intro w'
    go_simp
    with_reducible rfl
  rotate_left
  · simp only [Act.put, List.setIfInBounds_toArray, List.set_cons_zero, List.set_cons_succ]
    rfl
  -- T16 := fieldAddr 61 (tmp 15) 1 :0,
  refine pure_ (i := 7) (N := some 16) (v := ?_) (a' := ?_) #[true, true, true, true, true, true, true, true, false, false, false, false, false, false, false] rfl rfl (by kernel_rfl) (fun _ _ _ h => h) (Or.inl ⟨by rfl, ?_⟩) ?_ ?_
  rotate_left
  · intro w'
    go_simp
    with_reducible rfl
  rotate_left
  · simp only [Act.put, List.setIfInBounds_toArray, List.set_cons_zero, List.set_cons_succ]
    rfl
  clear hHeld
  have DB := Aside0.mk (below_drew (Below.refl w2.heap.size w2))
  have K3 := Aside0.mk (K2.out.below DB.out)
  have L3 := Aside0.mk (L2.out.far (G := fun _ => False) (T := fun _ => False) (Ch.of_below DB.out) (fun _ _ h => h))
  have YB := Aside0.mk (show w2.drew.cell? ⟨b, 0, none⟩ = some (.int .i64 x.k) from y0)
  have NB := Aside0.mk (show b ≠ p.1 by intro hx; have h1 := X2.out; have h2 := L2.out.blk; rw [hx, h2] at h1; injection h1 with h1; injection h1 with h1 h3; cases h3)
  clear y0
  generalize w2.drew = w3 at DB K3 L3 YB ⊢
  obtain ⟨q1, g1⟩ := L3.out.put (l' := { l with key := false }) 1 (.bool false) rfl rfl
  obtain ⟨q2, g2⟩ := q1.put (l' := { l with key := false, full := true }) 3 (.bool true) rfl rfl
  obtain ⟨q3, g3⟩ := q2.put (l' := { l with key := false, full := true, text := decide (x.k = 4) }) 2 (.bool (decide (x.k = 4))) rfl rfl
  have Q3 := Aside0.mk q3
  have G3 := Aside0.mk ((g1.trans (g2.mono (fun _ h => h) (fun _ h => ext_of h))).trans (g3.mono (fun _ h => h) (fun _ h => ext_of h)))
  have a1 : w3.cell? ⟨p.1, 1, none⟩ = some (.bool l.key) := (blk_cell L3.out.blk 1).trans rfl
  have a2 : w3.cell? ⟨p.1, 2, none⟩ = some (.bool l.text) := (blk_cell L3.out.blk 2).trans rfl
  have a3 : w3.cell? ⟨p.1, 3, none⟩ = some (.bool l.full) := (blk_cell L3.out.blk 3).trans rfl
  have f1 := blk_frozen L3.out.blk 1
  have f2 := blk_frozen L3.out.blk 2
  have f3 := blk_frozen L3.out.blk 3
  have hbe : (x.k == 4) = decide (x.k = 4) := rfl
  clear q1 g1 q2 g2 q3 g3
  -- _ := store 4 (tmp 16) (const (bool false)) :0,
  refine one_ (i := 8) (N := none) #[true, true, true, true, true, true, true, true, true, false, false, false, false, false, false] rfl rfl (by kernel_rfl) (by decide) (fun K hK => ?_)
  refine store_one (w1 := w3.setCell ⟨p.1, 1, none⟩ (.bool false)) rfl rfl (by go_simp) ?_
  refine hK _ _ ((World.cell?_setCell_other _ _ _ _ (by intro hx; injection hx with hx; exact NB.out hx.symm)).trans YB.out) (fun hHeld => ?_)
  clear hHeld hK
  -- T17 := nilCheck (tmp 10) :0,
  refine pure_ (i := 9) (N := some 17) (v := ?_) (a' := ?_) #[true, true, true, true, true, true, true, true, true, true, false, false, false, false, false] rfl rfl (by kernel_rfl) (fun _ _ _ h => h) (Or.inl ⟨by rfl, ?_⟩) ?_ ?_
  rotate_left
  · intro w'
    go_simp
    with_reducible rfl
  rotate_left
  · simp only [Act.put, List.setIfInBounds_toArray, List.set_cons_zero, List.set_cons_succ]
    rfl
  -- T18 := fieldAddr 61 (tmp 17) 3 :0,
  refine pure_ (i := 10) (N := some 18) (v := ?_) (a' := ?_) #[true, true, true, true, true, true, true, true, true, true, true, false, false, false, false] rfl rfl (by kernel_rfl) (fun _ _ _ h => h) (Or.inl ⟨by rfl, ?_⟩) ?_ ?_
  rotate_left
  · intro w'
    go_simp
    with_reducible rfl
  rotate_left
  · simp only [Act.put, List.setIfInBounds_toArray, List.set_cons_zero, List.set_cons_succ]
    rfl
  -- _ := store 4 (tmp 18) (const (bool true)) :0,
  refine one_ (i := 11) (N := none) #[true, true, true, true, true, true, true, true, true, true, true, true, false, false, false] rfl rfl (by kernel_rfl) (by decide) (fun K hK => ?_)
  refine store_one (w1 := (w3.setCell ⟨p.1, 1, none⟩ (.bool false)).setCell ⟨p.1, 3, none⟩ (.bool true)) rfl rfl (by go_simp) ?_
  refine hK _ _ ((World.cell?_setCell_other _ _ _ _ (by intro hx; injection hx with hx; exact NB.out hx.symm)).trans ((World.cell?_setCell_other _ _ _ _ (by intro hx; injection hx with hx; exact NB.out hx.symm)).trans YB.out)) (fun hHeld => ?_)
  clear hHeld hK
  -- T19 := nilCheck (tmp 11) :0,
  refine pure_ (i := 12) (N := some 19) (v := ?_) (a' := ?_) #[true, true, true, true, true, true, true, true, true, true, true, true, true, false, false] rfl rfl (by kernel_rfl) (fun _ _ _ h => h) (Or.inl ⟨by rfl, ?_⟩) ?_ ?_
  rotate_left
  · intro w'
    go_simp
    with_reducible rfl
  rotate_left
  · simp only [Act.put, List.setIfInBounds_toArray, List.set_cons_zero, List.set_cons_succ]
    rfl
  -- T20 := fieldAddr 61 (tmp 19) 2 :0,
  refine pure_ (i := 13) (N := some 20) (v := ?_) (a' := ?_) #[true, true, true, true, true, true, true, true, true, true, true, true, true, true, false] rfl rfl (by kernel_rfl) (fun _ _ _ h => h) (Or.inl ⟨by rfl, ?_⟩) ?_ ?_
  rotate_left
  · intro w'
    go_simp
    with_reducible rfl
  rotate_left
  · simp only [Act.put, List.setIfInBounds_toArray, List.set_cons_zero, List.set_cons_succ]
    rfl
  refine tailI_ [14] (by kernel_rfl) (by decide) rfl ?_
  simp only [List.filterMap_cons, List.filterMap_nil]
  go_wp2
  go_end0
  have hC := to_top G3.out
  have hK3 := K3.out.top HOP.out (Q3.out) hC
  exact ⟨rfl, hK3, (((Ch.of_below B1.out).trans (Ch.of_below B2.out)).trans (Ch.of_below DB.out)).trans ((top_all L.out.fb L.out.fm hC).mono (fun _ h => h) (fun _ h => ext_of h))⟩
/-- What named does to the thing. -/
def NamePost (F : Nat → Prop) (w : World) (p : Nat × Nat) (l : OE) (x : Ev) (e : Ending) (w' : World) : Prop :=
  e = .returned (.int .i64 (namedL l x).2) ∧ OAt F w' p (namedL l x).1 ∧ Ch (fun t => t = some 61 ∨ t = none) (fun k => k = p.1 ∨ k = p.2) w w'
set_option maxHeartbeats 4000000 in
set_option maxRecDepth 100000 in
theorem named_calls {F : Nat → Prop} {w : World} {p : Nat × Nat} {l : OE} (x : Ev) (h : OAt F w p l) (hx : x.t.size ≤ 1000000) (hok : l.Ok) :
    Calls Tryz.prog 20 #[pt p.1, evA x] w (NamePost F w p l x) := by
  have H := Aside0.mk h
  have HX := Aside0.mk (show (mkB tB).okk x.t by show x.t.size ≤ maxLen; unfold maxLen; omega)
  clear h hx
  by_cases hin : x.t ∈ l.had
  · have HG := Aside0.mk (show namedL l x = (l, 6) by unfold namedL; rw [if_pos hin])
    have HF := Aside0.mk (show hadF l.had x.t = some true by unfold hadF; rw [if_pos hin])
    clear hin
    go_enter Tryz.func20, Tryz.ntmps20
    go_wp2_with ((with_reducible refine gate_dst (N := 3) rfl ?_); refine box_event ?hg (N := 3) ?hd (cs := #[.int .i64 x.k, .string x.t, .string x.v]) (t := 44) ?hr ?_; (case hd => rfl); (case hg => rfl); (case hr => first | (go_simp; done) | (go_simp; rfl)); intro b hg w1 hbox hb; have X1 := Aside0.mk hbox; have B1 := Aside0.mk hb; have L1 := Aside0.mk (H.out.far (G := fun _ => False) (T := fun _ => False) (Ch.of_below hb) (fun _ _ h => h)); clear hg hbox hb)
    have y1 : w1.cell? ⟨b, 1, none⟩ = some (.string x.t) := (blk_cell X1.out 1).trans rfl
    have y4 : w1.cell? ⟨p.1, 4, none⟩ = some (.map (some p.2)) := (blk_cell L1.out.blk 4).trans rfl
    have DB := Aside0.mk (below_drew (Below.refl w1.heap.size w1))
    have L2 := Aside0.mk (L1.out.far (G := fun _ => False) (T := fun _ => False) (Ch.of_below DB.out) (fun _ _ h => h))
    have hlk : (Instr.lookup 59 (.map (some p.2)) (.string x.t) false).run Tryz.prog w1.drew = .ok (.bool true) w1.drew := by
      have h1 := L2.out.map.look1 x.t HX.out
      rw [HF.out] at h1
      exact h1
    refine wp_region_still_tail 7 (by kernel_rfl) (by kernel_rfl) ?_
    simp only [List.take_succ_cons, List.take_zero, List.drop_succ_cons, List.drop_zero]
    iterate 7 still_step
    refine wpStill_nil ?_
    change wpList _ _ _ _ _ w1.drew
    clear y1 y4 hlk
    generalize w1.drew = w2 at DB L2 ⊢
    go_wp2
    go_ret
    refine ⟨by rw [HG.out]; rfl, by rw [HG.out]; exact L2.out, (Ch.of_below B1.out).trans (Ch.of_below DB.out)⟩
  · have HF := Aside0.mk (show hadF l.had x.t = none by unfold hadF; rw [if_neg hin])
    by_cases h10 : 10 ≤ l.had.length
    · have HG := Aside0.mk (show namedL l x = (l, 7) by unfold namedL; rw [if_neg hin, if_pos h10])
      have t1 : decide (10 ≤ (l.had.length : Int)) = true := decide_eq_true (by omega)
      have t2 : decide (10 ≤ l.had.length) = true := decide_eq_true h10
      clear hin h10
      go_enter Tryz.func20, Tryz.ntmps20
      go_wp2_with ((with_reducible refine gate_dst (N := 3) rfl ?_); refine box_event ?hg (N := 3) ?hd (cs := #[.int .i64 x.k, .string x.t, .string x.v]) (t := 44) ?hr ?_; (case hd => rfl); (case hg => rfl); (case hr => first | (go_simp; done) | (go_simp; rfl)); intro b hg w1 hbox hb; have X1 := Aside0.mk hbox; have B1 := Aside0.mk hb; have L1 := Aside0.mk (H.out.far (G := fun _ => False) (T := fun _ => False) (Ch.of_below hb) (fun _ _ h => h)); clear hg hbox hb)
      have y1 : w1.cell? ⟨b, 1, none⟩ = some (.string x.t) := (blk_cell X1.out 1).trans rfl
      have y4 : w1.cell? ⟨p.1, 4, none⟩ = some (.map (some p.2)) := (blk_cell L1.out.blk 4).trans rfl
      have DB := Aside0.mk (below_drew (Below.refl w1.heap.size w1))
      have L2 := Aside0.mk (L1.out.far (G := fun _ => False) (T := fun _ => False) (Ch.of_below DB.out) (fun _ _ h => h))
      have X2 := Aside0.mk ((DB.out.block b (blk_lt X1.out)).trans X1.out)
      have hlk : (Instr.lookup 59 (.map (some p.2)) (.string x.t) false).run Tryz.prog w1.drew = .ok (.bool false) w1.drew := by
        have h1 := L2.out.map.look1 x.t HX.out
        rw [HF.out] at h1
        exact h1
      refine wp_region_still_tail 7 (by kernel_rfl) (by kernel_rfl) ?_
      simp only [List.take_succ_cons, List.take_zero, List.drop_succ_cons, List.drop_zero]
      iterate 7 still_step
      refine wpStill_nil ?_
      change wpList _ _ _ _ _ w1.drew
      clear y1 y4 hlk
      generalize w1.drew = w2 at DB L2 X2 ⊢
      have z4 : w2.cell? ⟨p.1, 4, none⟩ = some (.map (some p.2)) := (blk_cell L2.out.blk 4).trans rfl
      have hln : ∀ ty, (Builtin.len_ #[59] ty #[.map (some p.2)]).run Tryz.prog w2 = .ok (.int .i64 l.had.length) w2 := fun ty => L2.out.map.len ty
      go_wp2
      go_ret
      refine ⟨by rw [HG.out]; rfl, by rw [HG.out]; exact L2.out, (Ch.of_below B1.out).trans (Ch.of_below DB.out)⟩
    · have HG := Aside0.mk (show namedL l x = ({ l with had := l.had ++ [x.t], key := decide (x.k = 8) }, 0) by unfold namedL; rw [if_neg hin, if_neg h10])
      have t1 : decide (10 ≤ (l.had.length : Int)) = false := decide_eq_false (by omega)
      have t2 : decide (10 ≤ l.had.length) = false := decide_eq_false h10
      have HLN := Aside0.mk (show l.had.length < maxLen by have := hok.had.1; unfold maxLen; omega)
      clear hin h10
      go_enter Tryz.func20, Tryz.ntmps20
      go_wp2_with ((with_reducible refine gate_dst (N := 3) rfl ?_); refine box_event ?hg (N := 3) ?hd (cs := #[.int .i64 x.k, .string x.t, .string x.v]) (t := 44) ?hr ?_; (case hd => rfl); (case hg => rfl); (case hr => first | (go_simp; done) | (go_simp; rfl)); intro b hg w1 hbox hb; have X1 := Aside0.mk hbox; have B1 := Aside0.mk hb; have L1 := Aside0.mk (H.out.far (G := fun _ => False) (T := fun _ => False) (Ch.of_below hb) (fun _ _ h => h)); clear hg hbox hb)
      have y1 : w1.cell? ⟨b, 1, none⟩ = some (.string x.t) := (blk_cell X1.out 1).trans rfl
      have y4 : w1.cell? ⟨p.1, 4, none⟩ = some (.map (some p.2)) := (blk_cell L1.out.blk 4).trans rfl
      have DB := Aside0.mk (below_drew (Below.refl w1.heap.size w1))
      have L2 := Aside0.mk (L1.out.far (G := fun _ => False) (T := fun _ => False) (Ch.of_below DB.out) (fun _ _ h => h))
      have X2 := Aside0.mk ((DB.out.block b (blk_lt X1.out)).trans X1.out)
      have hlk : (Instr.lookup 59 (.map (some p.2)) (.string x.t) false).run Tryz.prog w1.drew = .ok (.bool false) w1.drew := by
        have h1 := L2.out.map.look1 x.t HX.out
        rw [HF.out] at h1
        exact h1
      refine wp_region_still_tail 7 (by kernel_rfl) (by kernel_rfl) ?_
      simp only [List.take_succ_cons, List.take_zero, List.drop_succ_cons, List.drop_zero]
      iterate 7 still_step
      refine wpStill_nil ?_
      change wpList _ _ _ _ _ w1.drew
      clear y1 y4 hlk
      generalize w1.drew = w2 at DB L2 X2 ⊢
      have z4 : w2.cell? ⟨p.1, 4, none⟩ = some (.map (some p.2)) := (blk_cell L2.out.blk 4).trans rfl
      have hln : ∀ ty, (Builtin.len_ #[59] ty #[.map (some p.2)]).run Tryz.prog w2 = .ok (.int .i64 l.had.length) w2 := fun ty => L2.out.map.len ty
      go_wp2_with fail
      have y1 : w2.cell? ⟨b, 1, none⟩ = some (.string x.t) := (blk_cell X2.out 1).trans rfl
      have DB3 := Aside0.mk (below_drew (Below.refl w2.heap.size w2))
      have L3 := Aside0.mk (L2.out.far (G := fun _ => False) (T := fun _ => False) (Ch.of_below DB3.out) (fun _ _ h => h))
      have X3 := Aside0.mk ((DB3.out.block b (blk_lt X2.out)).trans X2.out)
      clear hln
      refine wp_region_still_tail 6 (by kernel_rfl) (by kernel_rfl) ?_
      simp only [List.take_succ_cons, List.take_zero, List.drop_succ_cons, List.drop_zero]
      iterate 6 still_step
      refine wpStill_nil ?_
      change wpList _ _ _ _ _ w2.drew
      clear y1 z4
      generalize w2.drew = w3 at DB3 L3 X3 ⊢
      go_wp2_with (refine MKind.put_event rfl (.inr rfl) (mkB tB) rfl x.t true rfl rfl L3.out.map HLN.out HX.out trivial ?_; intro w4 hm hg; have M4 := Aside0.mk hm; have C4 := Aside0.mk (put_ch (F := fun k => k = p.2) L3.out.map rfl hg); clear hm hg; have hne : p.1 ≠ p.2 := (by intro hx; obtain ⟨es, ck, hh⟩ := is_block L3.out.map; rw [← hx, L3.out.blk] at hh; cases hh); have O4 := Aside0.mk (C4.out.blk L3.out.blk (fun hx => hne hx.1)); have X4 := Aside0.mk (C4.out.blk X3.out (fun hx => absurd hx.2 (by decide))); have y0 : w4.cell? ⟨b, 0, none⟩ = some (.int .i64 x.k) := (blk_cell X4.out 0).trans rfl; have k1 : w4.cell? ⟨p.1, 1, none⟩ = some (.bool l.key) := (blk_cell O4.out 1).trans rfl; have f1 := blk_frozen O4.out 1; have hbe : (x.k == 8) = decide (x.k = 8) := rfl; clear hne)
      go_ret
      have hM : (mkB tB).Is w4 p.2 (l.had.length + 1) (l.had.length + 1) (hadF (l.had ++ [x.t])) := by
        have h1 := M4.out
        rw [HF.out] at h1
        rw [← HF.out] at h1
        have h2 : (if (hadF l.had x.t).isSome then l.had.length else l.had.length + 1) = l.had.length + 1 := by rw [HF.out]; rfl
        rw [h2] at h1
        exact h1.ext (fun y => hadF_snoc l.had x.t y)
      have hO : OAt F w4 p { l with had := l.had ++ [x.t] } := ⟨H.out.fb, H.out.fm, O4.out, by show (mkB tB).Is w4 p.2 (l.had ++ [x.t]).length (l.had ++ [x.t]).length (hadF (l.had ++ [x.t])); rw [List.length_append, List.length_singleton]; exact hM⟩
      obtain ⟨q1, g1⟩ := hO.put (l' := { l with had := l.had ++ [x.t], key := decide (x.k = 8) }) 1 (.bool (decide (x.k = 8))) rfl rfl
      refine ⟨by rw [HG.out]; rfl, by rw [HG.out]; exact q1, ?_⟩
      have c1 : Ch (fun t => t = some 61 ∨ t = none) (fun k => k = p.1 ∨ k = p.2) w w3 := ((Ch.of_below B1.out).trans (Ch.of_below DB.out)).trans (Ch.of_below DB3.out)
      exact (c1.trans (C4.out.mono (fun _ h => .inr h) (fun _ h => ext_of (.inr h)))).trans ((to_top g1).mono (fun _ h => h) (fun _ h => ext_of h))
set_option maxHeartbeats 4000000 in
set_option maxRecDepth 100000 in
theorem done_calls {F : Nat → Prop} {w : World} {g : Nat} {ps : List (Nat × Nat)} {c : CK} (h : CkAt F w g ps c) :
    Calls Tryz.prog 12 #[pt g] w fun e w' => e = .returned (.bool (doneC c)) ∧ Below w.heap.size w w' := by
  have hlen := h.len
  obtain ⟨ov, h1, h2⟩ := h.core
  obtain ⟨A, n, hv, _, hm⟩ := h2.slice
  subst hv
  have c0 : w.cell? ⟨g, 0, none⟩ = some (.slice A ps.length n) := (blk_cell h1 0).trans rfl
  have c1 : w.cell? ⟨g, 1, none⟩ = some (.bool c.over) := (blk_cell h1 1).trans rfl
  clear h h1 h2
  rw [hlen] at c0
  cases hov : c.over with
  | false =>
    rw [hov] at c1
    have HG := Aside0.mk (show doneC c = false by unfold doneC; rw [hov]; rfl)
    clear hov hlen
    go_enter Tryz.func12, Tryz.ntmps12
    go_wp2
    go_ret
    exact ⟨by rw [HG.out]; rfl, Below.refl _ _⟩
  | true =>
    rw [hov] at c1
    by_cases hz : c.op.length = 0
    · have HG := Aside0.mk (show doneC c = true by unfold doneC; rw [hov, hz]; rfl)
      rw [hz] at c0
      clear hov hlen hz
      go_enter Tryz.func12, Tryz.ntmps12
      go_wp2
      go_ret
      exact ⟨by rw [HG.out]; rfl, Below.refl _ _⟩
    · have HG := Aside0.mk (show doneC c = false by unfold doneC; rw [hov, decide_eq_false hz]; rfl)
      obtain ⟨k, hk⟩ : ∃ k, c.op.length = k := ⟨_, rfl⟩
      rw [hk] at c0 hz
      have n0 : ((k : Int) == 0) = false := by rw [beq_eq_false_iff_ne]; omega
      have m0 : decide ((k : Int) = 0) = false := decide_eq_false (by omega)
      have m1 : decide (k = 0) = false := decide_eq_false hz
      clear hov hlen hz hk
      go_enter Tryz.func12, Tryz.ntmps12
      go_wp2
      go_ret
      exact ⟨by rw [HG.out]; rfl, Below.refl _ _⟩
set_option maxHeartbeats 4000000 in
set_option maxRecDepth 100000 in
theorem new_calls (w : World) : Calls Tryz.prog 10 #[] w fun e w' => ∃ g, e = .returned (pt g) ∧ CkAt (fun k => w.heap.size ≤ k) w' g [] CK.new ∧ Below w.heap.size w w' := by
  go_enter Tryz.func10, Tryz.ntmps10
  go_wp2_with ((with_reducible refine gate_dst (N := 2) rfl ?_); refine box_event ?hg (N := 2) ?hd (cs := #[.slice none 0 0, .bool false]) (t := 54) ?hr ?_; (case hd => rfl); (case hg => rfl); (case hr => first | (go_simp; done) | (go_simp; rfl)); intro b hg w1 hbox hb; have HBB := Aside0.mk hg; have H1 := Aside0.mk hbox; have B1 := Aside0.mk hb; clear hg hbox hb)
  go_ret
  exact ⟨b, rfl, ⟨by have := HBB.out; omega, ⟨_, H1.out, Row.nil _ _ _ _⟩, .nil, List.nodup_nil, List.nodup_nil⟩, B1.out⟩
end Go.Proofs.YtalaedpiimdcbaaGreatDoor.Ec
