/- pull.Core: its state in memory, tell, fails. -/
import Derived.Test.YtalaedpiimdcbaaEv
import Derived.Test.YtalaedpiimdcbaaSrcStep
import Derived.StillTailTactics
namespace Go.Proofs.Ytalaedpiimdcbaa.Cr
open Go Go.Lib Go.RowKit Go.Proofs.YtalaedpiimdcbaaW.PrintWords Go.Proofs.YtalaedpiimdcbaaW.PrintLast Go.Proofs.Ytalaedpiimdcbaa.Own Go.Proofs.Ytalaedpiimdcbaa.Hp Go.Proofs.Ytalaedpiimdcbaa.Srcw
set_option linter.unusedVariables false
set_option linter.unusedSimpArgs false
/-- What stands in a Core but for its machine. -/
structure CS where
  q : List Ev
  at_ : Int
  closed : Bool
  over : Bool
  err : Int
  told : Bool
  l : Int
  a : Int
  t : Int
def CS.new : CS := ⟨[], 0, false, false, 0, false, 0, 128, 191⟩
/-- The types of a Core's blocks. -/
def coreT (t : Option Nat) : Prop := t = some 38 ∨ t = some 50 ∨ t = some 78
def machT (t : Option Nat) : Prop := ¬ coreT t
def allT (t : Option Nat) : Prop := True
abbrev ptr (g : Nat) : Value := .pointer (some ⟨g, 0, none⟩)
abbrev mval (gM : Nat) : Value := .iface 52 (ptr gM)
abbrev tellF (g : Nat) : Value := .func (.func 22) #[ptr g] #[]
def coreCells (gM gS : Nat) (qv : Value) (c : CS) : Array Value := #[mval gM, ptr gS, qv, .int .i64 c.at_, .bool c.closed, .bool c.over, .int .i64 c.err, .bool c.told]
structure IsC (F : Nat → Prop) (w : World) (g gM gS : Nat) (c : CS) : Prop where
  fg : F g
  fS : F gS
  core : ∃ qv, w.heap[g]? = some (.cells (coreCells gM gS qv c) 38 (0, 0)) ∧ Row F w 50 3 qv c.q.length (evCs c.q)
  scan : ScanAt w gS c.l c.a c.t
section
variable {F F' G : Nat → Prop} {w w1 : World} {g gM gS : Nat} {c : CS}
theorem IsC.lt (h : IsC F w g gM gS c) : g < w.heap.size ∧ gS < w.heap.size := by
  obtain ⟨qv, h1, _⟩ := h.core
  exact ⟨blk_lt h1, blk_lt h.scan⟩
theorem IsC.mono (h : IsC F w g gM gS c) (hF : ∀ k, F k → F' k) : IsC F' w g gM gS c := by
  obtain ⟨qv, h1, h2⟩ := h.core
  exact ⟨hF _ h.fg, hF _ h.fS, ⟨qv, h1, h2.mono hF⟩, h.scan⟩
theorem coreT_dec : coreT (some 38) := .inl rfl
theorem coreT_ev : coreT (some 50) := .inr (.inl rfl)
theorem coreT_scan : coreT (some 78) := .inr (.inr rfl)
/-- The machine's doings leave the core. -/
theorem IsC.stay (h : IsC F w g gM gS c) (hc : Ch machT G w w1) : IsC F w1 g gM gS c := by
  obtain ⟨qv, h1, h2⟩ := h.core
  exact ⟨h.fg, h.fS, ⟨qv, hc.blk h1 (fun h3 => h3.2 coreT_dec), h2.ch hc (fun h3 => h3 coreT_ev)⟩, hc.blk h.scan (fun h3 => h3.2 coreT_scan)⟩
theorem IsC.far (h : IsC F w g gM gS c) {T : Option Nat → Prop} (hc : Ch T G w w1) (hd : ∀ k, F k → ¬ G k) : IsC F w1 g gM gS c := by
  obtain ⟨qv, h1, h2⟩ := h.core
  exact ⟨h.fg, h.fS, ⟨qv, hc.blk h1 (fun h3 => hd _ h.fg h3.1), h2.far hc hd⟩, hc.blk h.scan (fun h3 => hd _ h.fS h3.1)⟩
theorem IsC.below (h : IsC F w g gM gS c) (hb : Below w.heap.size w w1) : IsC F w1 g gM gS c := h.far (G := fun _ => False) (T := fun _ => False) (Ch.of_below hb) (fun _ _ h => h)
theorem IsC.bound (h : IsC F w g gM gS c) : IsC (fun k => F k ∧ k < w.heap.size) w g gM gS c := by
  obtain ⟨qv, h1, h2⟩ := h.core
  exact ⟨⟨h.fg, h.lt.1⟩, ⟨h.fS, h.lt.2⟩, ⟨qv, h1, h2.bound⟩, h.scan⟩
/-- One of the core's own cells set. -/
theorem IsC.put (h : IsC F w g gM gS c) {c' : CS} (i : Nat) (v : Value) (he : ∀ qv, (coreCells gM gS qv c).setIfInBounds i v = coreCells gM gS qv c') (hq : c'.q = c.q) (hs : c'.l = c.l ∧ c'.a = c.a ∧ c'.t = c.t) :
    IsC F (w.setCell ⟨g, i, none⟩ v) g gM gS c' ∧ Ch coreT F w (w.setCell ⟨g, i, none⟩ v) := by
  obtain ⟨qv, h1, h2⟩ := h.core
  have hc : Ch (fun t => t = some 38) F w (w.setCell ⟨g, i, none⟩ v) := Ch.set (T := fun t => t = some 38) h1 h.fg rfl i v
  refine ⟨⟨h.fg, h.fS, ⟨qv, blk_put h1 i v (he qv), ?_⟩, ?_⟩, hc.mono (fun t ht => .inl ht) (fun _ h => h)⟩
  · rw [hq]; exact h2.ch hc (by decide)
  · rw [hs.1, hs.2.1, hs.2.2]; exact hc.blk h.scan (fun h3 => absurd h3.2 (by decide))
theorem Ch.core_all (h : Ch coreT F w w1) : Ch allT F w w1 := h.mono (fun _ _ => trivial) (fun _ h => h)
theorem Ch.mach_all (h : Ch machT F w w1) : Ch allT F w w1 := h.mono (fun _ _ => trivial) (fun _ h => h)
end
theorem infoEv : (Try.prog.info? 50).map (fun i => (i.zero, i.size, i.bytes)) = some (some (.agg #[.int .i64 0, .string ⟨#[]⟩, .string ⟨#[]⟩]), 3, 40) := by kernel_rfl

set_option maxHeartbeats 2000000 in
set_option maxRecDepth 100000 in
theorem fails_calls {F : Nat → Prop} {w : World} {g gM gS : Nat} {c : CS} {x : Int} (h : IsC F w g gM gS c) :
    Calls Try.prog 21 #[ptr g, .int .i64 x] w fun e w' => e = .returned (.tuple #[]) ∧ IsC F w' g gM gS { c with over := true, err := x } ∧ Ch coreT F w w' := by
  have H := Aside0.mk h
  obtain ⟨qv, h1, _⟩ := h.core
  have c5 := (blk_cell h1 5).trans rfl
  have f5 := blk_frozen h1 5
  obtain ⟨k1, k2⟩ := h.put (c' := { c with over := true }) 5 (.bool true) (fun qv => rfl) rfl ⟨rfl, rfl, rfl⟩
  obtain ⟨qv1, h2, _⟩ := k1.core
  have c6 := (blk_cell h2 6).trans rfl
  have f6 := blk_frozen h2 6
  obtain ⟨k3, k4⟩ := k1.put (c' := { c with over := true, err := x }) 6 (.int .i64 x) (fun qv => rfl) rfl ⟨rfl, rfl, rfl⟩
  have K3 := Aside0.mk k3
  have K4 := Aside0.mk (k2.trans (k4.mono (fun _ h => h) (fun _ h => ext_of h)))
  clear h h1 h2 k1 k2 k3 k4
  go_enter Try.func21, Try.ntmps21
  go_wp2
  go_end0
  exact ⟨rfl, K3.out, K4.out⟩
theorem evC_mk (x : Ev) : [Value.int .i64 x.k, .string x.t, .string x.v] = evC x := rfl
set_option maxHeartbeats 4000000 in
set_option maxRecDepth 100000 in
theorem tell_calls {F : Nat → Prop} {w : World} {g gM gS : Nat} {c : CS} (x : Ev) (h : IsC F w g gM gS c) (hq : c.q.length ≤ 1000000) :
    Calls Try.prog 22 #[ptr g, .agg #[.int .i64 x.k, .string x.t, .string x.v]] w fun e w' => e = .returned (.tuple #[]) ∧ IsC (ext F w) w' g gM gS { c with q := c.q ++ [x] } ∧ Ch coreT F w w' := by
  have H := Aside0.mk h
  have HQ := Aside0.mk hq
  obtain ⟨qv, hg, hr⟩ := h.core
  have HG0 := Aside0.mk hg
  have HR := Aside0.mk hr
  clear h hg hr hq
  go_enter Try.func22, Try.ntmps22
  go_wp2_with (first
    | ((with_reducible refine gate_dst (N := 3) rfl ?_); refine box_event ?hg (N := 3) ?hd (cs := #[.int .i64 x.k, .string x.t, .string x.v]) (t := 50) ?hr ?_; (case hd => rfl); (case hg => rfl); (case hr => first | (go_simp; done) | (go_simp; rfl)); intro b hg w1 hbox hb; have HBB := Aside0.mk hg; have H1 := Aside0.mk hbox; have B1 := Aside0.mk hb; clear hg hbox hb))
  have HG := Aside0.mk ((B1.out.block g (blk_lt HG0.out)).trans HG0.out)
  refine start_ (n := 11) (S := fun w' => w'.heap[b]? = some (.cells #[.int .i64 x.k, .string x.t, .string x.v] 50 (0, 0)) ∧ w'.heap[g]? = some (.cells (coreCells gM gS qv c) 38 (0, 0))) (ds := [7, 8, 9, 10]) #[false, false, false, false, false, false, false, false, false, false, false] (by kernel_rfl) rfl rfl ⟨H1.out, HG.out⟩ (fun hHeld => ?_)
  -- T4 := move (tmp 0) :56,
  refine pure_ (i := 0) (N := some 4) (v := ?_) (a' := ?_) #[true, false, false, false, false, false, false, false, false, false, false] rfl rfl (by kernel_rfl) (fun _ _ _ h => h) (Or.inl ⟨by rfl, ?_⟩) ?_ ?_
  rotate_left
  · intro w'
    go_simp
    with_reducible rfl
  rotate_left
  · simp only [Act.put, List.setIfInBounds_toArray, List.set_cons_zero, List.set_cons_succ]
    rfl
  -- T5 := move (tmp 0) :56,
  refine pure_ (i := 1) (N := some 5) (v := ?_) (a' := ?_) #[true, true, false, false, false, false, false, false, false, false, false] rfl rfl (by kernel_rfl) (fun _ _ _ h => h) (Or.inl ⟨by rfl, ?_⟩) ?_ ?_
  rotate_left
  · intro w'
    go_simp
    with_reducible rfl
  rotate_left
  · simp only [Act.put, List.setIfInBounds_toArray, List.set_cons_zero, List.set_cons_succ]
    rfl
  -- T6 := nilCheck (tmp 5) :0,
  refine pure_ (i := 2) (N := some 6) (v := ?_) (a' := ?_) #[true, true, true, false, false, false, false, false, false, false, false] rfl rfl (by kernel_rfl) (fun _ _ _ h => h) (Or.inl ⟨by rfl, ?_⟩) ?_ ?_
  rotate_left
  · intro w'
    go_simp
    with_reducible rfl
  rotate_left
  · simp only [Act.put, List.setIfInBounds_toArray, List.set_cons_zero, List.set_cons_succ]
    rfl
  -- T7 := fieldAddr 36 (tmp 6) 2 :0,
  refine pure_ (i := 3) (N := some 7) (v := ?_) (a' := ?_) #[true, true, true, true, false, false, false, false, false, false, false] rfl rfl (by kernel_rfl) (fun _ _ _ h => h) (Or.inl ⟨by rfl, ?_⟩) ?_ ?_
  rotate_left
  · intro w'
    go_simp
    with_reducible rfl
  rotate_left
  · simp only [Act.put, List.setIfInBounds_toArray, List.set_cons_zero, List.set_cons_succ]
    rfl
  -- T8 := load 25 (tmp 7) :25,
  refine take_ (i := 4) (N := some 8) (v := ?_) (a' := ?_) #[true, true, true, true, true, false, false, false, false, false, false] rfl rfl (by kernel_rfl) (fun _ _ _ h => h) (Or.inl ⟨by rfl, ?_⟩) hHeld ?_ ?_
  rotate_left
  · intro w' hw'
    (have c0 := (blk_cell hw'.1 0).trans rfl; have c1 := (blk_cell hw'.1 1).trans rfl; have c2 := (blk_cell hw'.1 2).trans rfl; have d2 : w'.cell? ⟨g, 2, none⟩ = some qv := (blk_cell hw'.2 2).trans rfl)
    go_simp
    with_reducible rfl
  rotate_left
  · simp only [Act.put, List.setIfInBounds_toArray, List.set_cons_zero, List.set_cons_succ]
    rfl
  -- T9 := load 50 (tmp 3) :50,
  refine take_ (i := 5) (N := some 9) (v := ?_) (a' := ?_) #[true, true, true, true, true, true, false, false, false, false, false] rfl rfl (by kernel_rfl) (fun _ _ _ h => h) (Or.inl ⟨by rfl, ?_⟩) hHeld ?_ ?_
  rotate_left
  · intro w' hw'
    (have c0 := (blk_cell hw'.1 0).trans rfl; have c1 := (blk_cell hw'.1 1).trans rfl; have c2 := (blk_cell hw'.1 2).trans rfl; have d2 : w'.cell? ⟨g, 2, none⟩ = some qv := (blk_cell hw'.2 2).trans rfl)
    go_simp
    with_reducible rfl
  rotate_left
  · simp only [Act.put, List.setIfInBounds_toArray, List.set_cons_zero, List.set_cons_succ]
    rfl
  -- T10 := buildSlice 25 1 #[(0, tmp 9)] :25,
  refine one_ (i := 6) (N := some 10) #[true, true, true, true, true, true, true, false, false, false, false] rfl rfl (by kernel_rfl) (by decide) (fun K hK => ?_)
  refine value_ (v := .slice (some ⟨w1.drew.heap.size, 0, none⟩) 1 1) (w1 := w1.drew.alloc (.cells #[.int .i64 x.k, .string x.t, .string x.v] 50)) rfl rfl (by go_simp) ?_
  refine hK _ _ ⟨(Below.heap_alloc _ _ b (blk_lt hHeld.1)).trans hHeld.1, (Below.heap_alloc _ _ g (blk_lt hHeld.2)).trans hHeld.2⟩ (fun hHeld3 => ?_)
  clear hK hHeld3
  refine norm_ (a' := ?_) ?_ ?_
  rotate_left
  · simp only [Act.put, List.setIfInBounds_toArray, List.set_cons_zero, List.set_cons_succ]
    rfl
  refine tailI_ [7, 8, 9, 10] (by kernel_rfl) (by decide) rfl ?_
  simp only [List.filterMap_cons, List.filterMap_nil]
  have R1 := Aside0.mk (((HR.out.below B1.out).below (below_drew (Below.refl _ _))).mono (fun _ h => h))
  have D1 := Aside0.mk ((H.out.below B1.out).below (w1 := w1.drew) (below_drew (Below.refl _ _)))
  have CH1 := Aside0.mk ((Ch.of_below B1.out : Ch coreT F w w1).trans (Ch.of_below (below_drew (Below.refl _ _) : Below w1.heap.size w1 w1.drew)))
  generalize w1.drew = w2 at R1 D1 CH1 ⊢
  refine row_append rfl (.tmp 8) (.tmp 10) 25 50 (.agg #[.int .i64 0, .string ⟨#[]⟩, .string ⟨#[]⟩]) 3 40 rfl Try.underlying25 infoEv rfl (by decide) qv c.q.length (evCs c.q) [.int .i64 x.k, .string x.t, .string x.v] rfl rfl rfl (evC_one x) R1.out (by have := HQ.out; omega) (by have := HQ.out; unfold maxLen; omega) ?_
  intro v3 w3 hr3 hc3
  have C3 := Aside0.mk (CH1.out.trans (hc3.mono (F' := ext F w) (fun t ht => .inr (.inl ht)) (fun _ h => ext_of h)))
  obtain ⟨qv2, hg2, _⟩ := (D1.out).core
  have HG2 := Aside0.mk (hc3.blk hg2 (fun h => absurd h.2 (by decide)))
  have HS2 := Aside0.mk (hc3.blk D1.out.scan (fun h => absurd h.2 (by decide)))
  have R3 := Aside0.mk (hr3.mono (fun k hk => (by rcases hk with hk | hk; exact .inl hk; exact .inr (Nat.le_trans CH1.out.size hk) : ext F w k)))
  have c2 : w3.cell? ⟨g, 2, none⟩ = some qv2 := (blk_cell HG2.out 2).trans rfl
  have f2 := blk_frozen HG2.out 2
  obtain ⟨A3, n3, hv3, _, _⟩ := hr3.slice
  clear hr3 hc3 hg2
  subst hv3
  go_wp2
  go_end0
  have hcs : Ch (fun t => t = some 38) (ext F w) w3 (w3.setCell ⟨g, 2, none⟩ (.slice A3 (c.q.length + 1) n3)) := Ch.set (T := fun t => t = some 38) HG2.out (ext_of H.out.fg) rfl 2 _
  refine ⟨rfl, ⟨ext_of H.out.fg, ext_of H.out.fS, ⟨_, blk_put (cs' := coreCells gM gS (.slice A3 (c.q.length + 1) n3) { c with q := c.q ++ [x] }) HG2.out 2 _ rfl, ?_⟩, hcs.blk HS2.out (fun h => absurd h.2 (by decide))⟩, C3.out.trans (hcs.mono (fun t ht => .inl ht) (fun _ h => h))⟩
  show Row _ _ _ 3 _ (c.q ++ [x]).length (evCs (c.q ++ [x]))
  rw [evCs_one, List.length_append, List.length_singleton]
  exact R3.out.ch hcs (by decide)
theorem tell3 {F : Nat → Prop} {w : World} {g gM gS : Nat} {c : CS} (k : Int) (t v : ByteArray) (h : IsC F w g gM gS c) (hq : c.q.length ≤ 1000000) :
    Calls Try.prog 22 #[ptr g, .agg #[.int .i64 k, .string t, .string v]] w fun e w' => e = .returned (.tuple #[]) ∧ IsC (ext F w) w' g gM gS { c with q := c.q ++ [⟨k, t, v⟩] } ∧ Ch coreT F w w' := tell_calls ⟨k, t, v⟩ h hq
end Go.Proofs.Ytalaedpiimdcbaa.Cr
