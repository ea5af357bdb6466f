/- pull.Core over a machine: Next; a decoder is made; Decode. -/
import Derived.Test.YtalaedpiimdcbaaCoreX
namespace Go.Proofs.Ytalaedpiimdcbaa.Cr
open Go Go.Lib Go.RowKit Go.Proofs.YtalaedpiimdcbaaW.PrintWords Go.Proofs.YtalaedpiimdcbaaW.PrintLast Go.Proofs.Ytalaedpiimdcbaa.Own Go.Proofs.Ytalaedpiimdcbaa.Hp Go.Proofs.Ytalaedpiimdcbaa.Srcw Go.Proofs.Ytalaedpiimdcbaa.Dl
set_option linter.unusedVariables false
set_option linter.unusedSimpArgs false
abbrev evV (x : Ev) : Value := .agg #[.int .i64 x.k, .string x.t, .string x.v]
def evZ : Ev := ⟨0, noT, noT⟩
def nextC (c : CS) : Ev × Int × CS :=
  match c.q with
  | x :: r => (x, 1, { c with q := r })
  | [] => if c.over = false then (evZ, 2, c) else (evZ, if c.err = 0 then 3 else 4, { c with told := true })
def NextPost (F : Nat → Prop) (w : World) (g gM gS : Nat) (r : Ev × Int × CS) (e : Ending) (w' : World) : Prop :=
  e = .returned (.tuple #[evV r.1, .int .i64 r.2.1]) ∧ IsC F w' g gM gS r.2.2 ∧ Ch coreT F w w'

theorem three_ch {w1 : World} {b T : Nat} {k0 k : Int} {t0 v0 t v : ByteArray} (h1 : w1.heap[b]? = some (.cells #[.int .i64 k0, .string t0, .string v0] T (0, 0))) :
    Ch (fun t => t = some T) (fun k => k = b) w1 (((w1.setCell ⟨b, 0, none⟩ (.int .i64 k)).setCell ⟨b, 1, none⟩ (.string t)).setCell ⟨b, 2, none⟩ (.string v)) ∧
    (((w1.setCell ⟨b, 0, none⟩ (.int .i64 k)).setCell ⟨b, 1, none⟩ (.string t)).setCell ⟨b, 2, none⟩ (.string v)).heap[b]? = some (.cells #[.int .i64 k, .string t, .string v] T (0, 0)) := by
  have a1 := blk_put (cs' := #[.int .i64 k, .string t0, .string v0]) h1 0 (.int .i64 k) rfl
  have a2 := blk_put (cs' := #[.int .i64 k, .string t, .string v0]) a1 1 (.string t) rfl
  have c1 : Ch (fun t => t = some T) (fun k => k = b) _ _ := Ch.set (T := fun t => t = some T) (F := fun k => k = b) h1 rfl rfl 0 (.int .i64 k)
  have c2 : Ch (fun t => t = some T) (fun k => k = b) _ _ := Ch.set (T := fun t => t = some T) (F := fun k => k = b) a1 rfl rfl 1 (.string t)
  have c3 : Ch (fun t => t = some T) (fun k => k = b) _ _ := Ch.set (T := fun t => t = some T) (F := fun k => k = b) a2 rfl rfl 2 (.string v)
  exact ⟨(c1.trans (c2.mono (fun _ h => h) (fun _ h => .inl h))).trans (c3.mono (fun _ h => h) (fun _ h => .inl h)), blk_put (cs' := #[.int .i64 k, .string t, .string v]) a2 2 (.string v) rfl⟩
/-- The result's own block is none of the core's. -/
theorem IsC.fresh {F : Nat → Prop} {w1 w2 : World} {g gM gS b : Nat} {c : CS} {T : Option Nat → Prop} (h : IsC F w1 g gM gS c) (hF : ∀ k, F k → k ≠ b) (hc : Ch T (fun k => k = b) w1 w2) : IsC F w2 g gM gS c := h.far hc (fun k hk he => hF k hk he)
set_option maxHeartbeats 4000000 in
set_option maxRecDepth 100000 in
theorem next_none {F : Nat → Prop} {w : World} {g gM gS : Nat} {c : CS} (h : IsC F w g gM gS c) (hF : ∀ k, F k → k < w.heap.size) (hq : c.q = []) :
    Calls Try.prog 24 #[ptr g] w (NextPost F w g gM gS (nextC c)) := by
  have H := Aside0.mk h
  have HLT := Aside0.mk hF
  obtain ⟨qv, k1, kq⟩ := h.core
  rw [hq] at kq
  obtain ⟨A, n, hv, _, _⟩ := kq.slice
  subst hv
  have c2 : w.cell? ⟨g, 2, none⟩ = some (.slice A 0 n) := (blk_cell k1 2).trans rfl
  have c5' : w.cell? ⟨g, 5, none⟩ = some (.bool c.over) := (blk_cell k1 5).trans rfl
  have HG := Aside0.mk k1
  clear h k1 kq hF
  cases hov : c.over with
  | false =>
    have HN := Aside0.mk (show nextC c = (evZ, 2, c) by unfold nextC; rw [hq]; simp only; rw [if_pos hov])
    rw [hov] at c5'
    clear hq hov
    go_enter Try.func24, Try.ntmps24
    go_wp2_with ((with_reducible refine gate_dst (N := 2) rfl ?_); refine box_event ?hg (N := 2) ?hd (cs := #[.int .i64 0, .string ⟨#[]⟩, .string ⟨#[]⟩]) (t := 50) ?hr ?_; (case hd => rfl); (case hg => rfl); (case hr => first | (go_simp; done) | (go_simp; rfl)); intro b hg w1 hbox hb; have HBB := Aside0.mk hg; have H1 := Aside0.mk hbox; have B1 := Aside0.mk hb; have a2 := below_cell hb c2; have a5 := below_cell hb c5'; have e0 := (blk_cell hbox 0).trans rfl; have e1 := (blk_cell hbox 1).trans rfl; have e2 := (blk_cell hbox 2).trans rfl; have g0 := blk_frozen hbox 0; have g1 := blk_frozen hbox 1; have g2 := blk_frozen hbox 2; clear hg hbox hb)
    obtain ⟨BF, HF⟩ := three_ch (k := 0) (t := ⟨#[]⟩) (v := ⟨#[]⟩) H1.out
    generalize ((w1.setCell ⟨b, 0, none⟩ (.int .i64 0)).setCell ⟨b, 1, none⟩ (.string ⟨#[]⟩)).setCell ⟨b, 2, none⟩ (.string ⟨#[]⟩) = w2 at BF HF ⊢
    have r0 := (blk_cell HF 0).trans rfl
    have r1 := (blk_cell HF 1).trans rfl
    have r2 := (blk_cell HF 2).trans rfl
    rw [HN.out]
    exact bodyPost_ret (v := .tuple #[evV evZ, .int .i64 2]) (by simp [results, Try.results24, go_sem, r0, r1, r2]; exact ⟨rfl, rfl, rfl⟩) rfl ⟨rfl, (H.out.below B1.out).fresh (fun k hk he => by have := HLT.out k hk; have := HBB.out; omega) BF, (Ch.of_below B1.out).trans (BF.mono (fun t ht => .inr (.inl ht)) (fun k hk => .inr (by have := HBB.out; omega)))⟩
  | true =>
    have HN := Aside0.mk (show nextC c = (evZ, if c.err = 0 then 3 else 4, { c with told := true }) by unfold nextC; rw [hq]; simp only; rw [if_neg (by rw [hov]; decide)])
    rw [hov] at c5'
    clear hq hov
    by_cases he : c.err = 0
    · have HN2 := Aside0.mk (show nextC c = (evZ, 3, { c with told := true }) by rw [HN.out, if_pos he])
      have HE := Aside0.mk he
      clear he
      go_enter Try.func24, Try.ntmps24
      go_wp2_with ((with_reducible refine gate_dst (N := 2) rfl ?_); refine box_event ?hg (N := 2) ?hd (cs := #[.int .i64 0, .string ⟨#[]⟩, .string ⟨#[]⟩]) (t := 50) ?hr ?_; (case hd => rfl); (case hg => rfl); (case hr => first | (go_simp; done) | (go_simp; rfl)); intro b hg w1 hbox hb; have HBB := Aside0.mk hg; have H1 := Aside0.mk hbox; have B1 := Aside0.mk hb; have a2 := below_cell hb c2; have a5 := below_cell hb c5'; have PT := Aside0.mk ((H.out.below hb).put (c' := { c with told := true }) 7 (.bool true) (fun qv => rfl) rfl ⟨rfl, rfl, rfl⟩); obtain ⟨qv1, m1, _⟩ := (H.out.below hb).core; have a7 := (blk_cell m1 7).trans rfl; have b7 := blk_frozen m1 7; obtain ⟨qv2, m2, _⟩ := PT.out.1.core; have a6' : (w1.setCell ⟨g, 7, none⟩ (.bool true)).cell? ⟨g, 6, none⟩ = some (.int .i64 c.err) := (blk_cell m2 6).trans rfl; have a6 : (w1.setCell ⟨g, 7, none⟩ (.bool true)).cell? ⟨g, 6, none⟩ = some (.int .i64 0) := a6'.trans (by rw [HE.out]); have hbox2 := blk_far hbox (p := ⟨g, 7, none⟩) (by show b ≠ g; have := H.out.lt.1; omega) (.bool true); have H2 := Aside0.mk hbox2; have e0 := (blk_cell hbox2 0).trans rfl; have e1 := (blk_cell hbox2 1).trans rfl; have e2 := (blk_cell hbox2 2).trans rfl; have g0 := blk_frozen hbox2 0; have g1 := blk_frozen hbox2 1; have g2 := blk_frozen hbox2 2; clear hbox2 m1 m2 a6'; clear hg hbox hb)
      obtain ⟨BF, HF⟩ := three_ch (k := 0) (t := ⟨#[]⟩) (v := ⟨#[]⟩) H2.out
      generalize (((w1.setCell ⟨g, 7, none⟩ (.bool true)).setCell ⟨b, 0, none⟩ (.int .i64 0)).setCell ⟨b, 1, none⟩ (.string ⟨#[]⟩)).setCell ⟨b, 2, none⟩ (.string ⟨#[]⟩) = w2 at BF HF ⊢
      have r0 := (blk_cell HF 0).trans rfl
      have r1 := (blk_cell HF 1).trans rfl
      have r2 := (blk_cell HF 2).trans rfl
      rw [HN2.out]
      exact bodyPost_ret (v := .tuple #[evV evZ, .int .i64 3]) (by simp [results, Try.results24, go_sem, r0, r1, r2]; exact ⟨rfl, rfl, rfl⟩) rfl ⟨rfl, PT.out.1.fresh (fun k hk he => by have := HLT.out k hk; have := HBB.out; omega) BF, ((Ch.of_below B1.out).trans (PT.out.2.mono (fun _ h => h) (fun _ h => ext_of h))).trans (BF.mono (fun t ht => .inr (.inl ht)) (fun k hk => .inr (by have := HBB.out; omega)))⟩
    · have HN2 := Aside0.mk (show nextC c = (evZ, 4, { c with told := true }) by rw [HN.out, if_neg he])
      obtain ⟨y, hy⟩ : ∃ y, c.err = y := ⟨_, rfl⟩
      have HE := Aside0.mk hy
      rw [hy] at he
      have s4 : (y == 0) = false := by rw [beq_eq_false_iff_ne]; exact he
      have s5 : decide (y = 0) = false := decide_eq_false he
      clear he hy
      go_enter Try.func24, Try.ntmps24
      go_wp2_with ((with_reducible refine gate_dst (N := 2) rfl ?_); refine box_event ?hg (N := 2) ?hd (cs := #[.int .i64 0, .string ⟨#[]⟩, .string ⟨#[]⟩]) (t := 50) ?hr ?_; (case hd => rfl); (case hg => rfl); (case hr => first | (go_simp; done) | (go_simp; rfl)); intro b hg w1 hbox hb; have HBB := Aside0.mk hg; have H1 := Aside0.mk hbox; have B1 := Aside0.mk hb; have a2 := below_cell hb c2; have a5 := below_cell hb c5'; have PT := Aside0.mk ((H.out.below hb).put (c' := { c with told := true }) 7 (.bool true) (fun qv => rfl) rfl ⟨rfl, rfl, rfl⟩); obtain ⟨qv1, m1, _⟩ := (H.out.below hb).core; have a7 := (blk_cell m1 7).trans rfl; have b7 := blk_frozen m1 7; obtain ⟨qv2, m2, _⟩ := PT.out.1.core; have a6' : (w1.setCell ⟨g, 7, none⟩ (.bool true)).cell? ⟨g, 6, none⟩ = some (.int .i64 c.err) := (blk_cell m2 6).trans rfl; have a6 : (w1.setCell ⟨g, 7, none⟩ (.bool true)).cell? ⟨g, 6, none⟩ = some (.int .i64 y) := a6'.trans (by rw [HE.out]); have hbox2 := blk_far hbox (p := ⟨g, 7, none⟩) (by show b ≠ g; have := H.out.lt.1; omega) (.bool true); have H2 := Aside0.mk hbox2; have e0 := (blk_cell hbox2 0).trans rfl; have e1 := (blk_cell hbox2 1).trans rfl; have e2 := (blk_cell hbox2 2).trans rfl; have g0 := blk_frozen hbox2 0; have g1 := blk_frozen hbox2 1; have g2 := blk_frozen hbox2 2; clear hbox2 m1 m2 a6'; clear hg hbox hb)
      obtain ⟨BF, HF⟩ := three_ch (k := 0) (t := ⟨#[]⟩) (v := ⟨#[]⟩) H2.out
      generalize (((w1.setCell ⟨g, 7, none⟩ (.bool true)).setCell ⟨b, 0, none⟩ (.int .i64 0)).setCell ⟨b, 1, none⟩ (.string ⟨#[]⟩)).setCell ⟨b, 2, none⟩ (.string ⟨#[]⟩) = w2 at BF HF ⊢
      have r0 := (blk_cell HF 0).trans rfl
      have r1 := (blk_cell HF 1).trans rfl
      have r2 := (blk_cell HF 2).trans rfl
      rw [HN2.out]
      exact bodyPost_ret (v := .tuple #[evV evZ, .int .i64 4]) (by simp [results, Try.results24, go_sem, r0, r1, r2]; exact ⟨rfl, rfl, rfl⟩) rfl ⟨rfl, PT.out.1.fresh (fun k hk he => by have := HLT.out k hk; have := HBB.out; omega) BF, ((Ch.of_below B1.out).trans (PT.out.2.mono (fun _ h => h) (fun _ h => ext_of h))).trans (BF.mono (fun t ht => .inr (.inl ht)) (fun k hk => .inr (by have := HBB.out; omega)))⟩
/-- The queue without its first event. -/
theorem IsC.pop {F : Nat → Prop} {w : World} {g gM gS b o n : Nat} {c : CS} {x : Ev} {r : List Ev} (h : IsC F w g gM gS c) (hg : w.heap[g]? = some (.cells (coreCells gM gS (.slice (some ⟨b, o, none⟩) (r.length + 1) n) c) 38 (0, 0))) (hq : c.q = x :: r)
    (hr : Row F w 50 3 (.slice (some ⟨b, o, none⟩) (r.length + 1) n) (r.length + 1) (evCs (x :: r))) (v : Value) (hv : v = .slice (some (if n = 1 then ⟨b, o, none⟩ else ⟨b, o + 3, none⟩)) r.length (n - 1)) :
    IsC F (w.setCell ⟨g, 2, none⟩ v) g gM gS { c with q := r } ∧ Ch coreT F w (w.setCell ⟨g, 2, none⟩ v) := by
  subst hv
  have hc : Ch (fun t => t = some 38) F w (w.setCell ⟨g, 2, none⟩ (.slice (some (if n = 1 then ⟨b, o, none⟩ else ⟨b, o + 3, none⟩)) r.length (n - 1))) := Ch.set (T := fun t => t = some 38) hg h.fg rfl 2 _
  have h1 := hr.drop1
  rw [evCs_drop1] at h1
  exact ⟨⟨h.fg, h.fS, ⟨_, blk_put (cs' := coreCells gM gS (.slice (some (if n = 1 then ⟨b, o, none⟩ else ⟨b, o + 3, none⟩)) r.length (n - 1)) { c with q := r }) hg 2 _ rfl, h1.ch hc (by decide)⟩, hc.blk h.scan (fun h3 => absurd h3.2 (by decide))⟩, hc.mono (fun t ht => .inl ht) (fun _ h => h)⟩

set_option maxHeartbeats 8000000 in
set_option maxRecDepth 100000 in
theorem next_some {F : Nat → Prop} {w : World} {g gM gS : Nat} {c : CS} {x : Ev} {r : List Ev} (h : IsC F w g gM gS c) (hF : ∀ k, F k → k < w.heap.size) (hq : c.q = x :: r) (hl : r.length ≤ 1000000) :
    Calls Try.prog 24 #[ptr g] w (NextPost F w g gM gS (nextC c)) := by
  have H := Aside0.mk h
  have HLT := Aside0.mk hF
  have HQ := Aside0.mk hq
  have HN := Aside0.mk (show nextC c = (x, 1, { c with q := r }) by unfold nextC; rw [hq])
  obtain ⟨qv, k1, kq⟩ := h.core
  rw [hq] at kq
  obtain ⟨b', o, n, hv, hn, hfb, hcell, hcur⟩ := kq.open_ (by simp)
  subst hv
  have HG := Aside0.mk k1
  have KQ := Aside0.mk kq
  have HNN := Aside0.mk hn
  have c2 : w.cell? ⟨g, 2, none⟩ = some (.slice (some ⟨b', o, none⟩) (r.length + 1) n) := (blk_cell k1 2).trans rfl
  have x0 : w.cell? ⟨b', o, none⟩ = some (.int .i64 x.k) := hcell 0 _ rfl
  have x1 : w.cell? ⟨b', o + 1, none⟩ = some (.string x.t) := hcell 1 _ rfl
  have x2 : w.cell? ⟨b', o + 2, none⟩ = some (.string x.v) := hcell 2 _ rfl
  have hn2 : r.length + 1 ≤ n := hn
  clear h k1 kq hF hq hcell hcur hn hfb
  by_cases hc1 : n = 1
  · subst hc1
    obtain rfl : r = [] := List.eq_nil_of_length_eq_zero (by omega)
    go_enter Try.func24, Try.ntmps24
    go_wp2_with (first
      | ((with_reducible refine gate_dst (N := 2) rfl ?_); refine box_event ?hg (N := 2) ?hd (cs := #[.int .i64 0, .string ⟨#[]⟩, .string ⟨#[]⟩]) (t := 50) ?hr ?_; (case hd => rfl); (case hg => rfl); (case hr => first | (go_simp; done) | (go_simp; rfl)); intro b hg w1 hbox hb; have HBB := Aside0.mk hg; have H1 := Aside0.mk hbox; have B1 := Aside0.mk hb; have a2 := below_cell hb c2; have y0 := below_cell hb x0; have y1 := below_cell hb x1; have y2 := below_cell hb x2; clear hg hbox hb)
      | ((with_reducible refine gate_dst (N := 4) rfl ?_); refine box_event ?hg (N := 4) ?hd (cs := #[.int .i64 0, .string ⟨#[]⟩, .string ⟨#[]⟩]) (t := 50) ?hr ?_; (case hd => rfl); (case hg => rfl); (case hr => first | (go_simp; done) | (go_simp; rfl)); intro b4 hg w2 hbox hb; have HB4 := Aside0.mk hg; have H4 := Aside0.mk hbox; have B2 := Aside0.mk hb; have e0 := (blk_cell hbox 0).trans rfl; have e1 := (blk_cell hbox 1).trans rfl; have e2 := (blk_cell hbox 2).trans rfl; have g0 := blk_frozen hbox 0; have g1 := blk_frozen hbox 1; have g2 := blk_frozen hbox 2; clear a2; have T4 := three_ch (k := x.k) (t := x.t) (v := x.v) hbox; have NG4 : g ≠ b4 := (by have := H.out.lt.1; have := HBB.out; have := B1.out.size; omega); have NB4 : b ≠ b4 := (by have := HBB.out; have := blk_lt H1.out; omega); have NBG : b ≠ g := (by have := H.out.lt.1; have := HBB.out; omega); have HGW := T4.1.blk ((hb.block g (by have := H.out.lt.1; have := B1.out.size; omega)).trans ((B1.out.block g H.out.lt.1).trans HG.out)) (fun h => NG4 h.1); have a2 : _ = some (Value.slice (some ⟨b', o, none⟩) 1 1) := (blk_cell HGW 2).trans rfl; have h2 := blk_frozen HGW 2; have KQ3 := ((KQ.out.below B1.out).below hb).far T4.1 (fun k hk he => by have := HLT.out k hk; have := B1.out.size; omega); have IC3 := ((H.out.below B1.out).below hb).fresh (fun k hk he => by have := HLT.out k hk; have := B1.out.size; omega) T4.1; have PP := Aside0.mk (IC3.pop HGW HQ.out KQ3 (.slice (some ⟨b', o, none⟩) 0 0) (by rw [if_pos rfl]; rfl)); have HB4W := blk_far T4.2 (p := ⟨g, 2, none⟩) (fun h => NG4 h.symm) (Value.slice (some ⟨b', o, none⟩) 0 0); have HBW := T4.1.blk ((hb.block b (blk_lt H1.out)).trans H1.out) (fun h => NB4 h.1); have HBW2 := blk_far HBW (p := ⟨g, 2, none⟩) NBG (Value.slice (some ⟨b', o, none⟩) 0 0); have s0 := (blk_cell HB4W 0).trans rfl; have s1 := (blk_cell HB4W 1).trans rfl; have s2 := (blk_cell HB4W 2).trans rfl; have u0 := (blk_cell HBW2 0).trans rfl; have u1 := (blk_cell HBW2 1).trans rfl; have u2 := (blk_cell HBW2 2).trans rfl; have v0 := blk_frozen HBW2 0; have v1 := blk_frozen HBW2 1; have v2 := blk_frozen HBW2 2; have HF5 := Aside0.mk (three_ch (k := x.k) (t := x.t) (v := x.v) HBW2); have C4 := Aside0.mk (((Ch.of_below B1.out : Ch coreT F w w1).trans (Ch.of_below hb)).trans (T4.1.mono (fun t ht => .inr (.inl ht)) (fun k hk => (.inr (by have := B1.out.size; omega) : ext F w k)))); clear T4 HGW KQ3 IC3 HB4W HBW HBW2 NG4 NB4 NBG hg hbox hb y0 y1 y2))
    obtain ⟨BF, HF⟩ := HF5.out
    have r0 := (blk_cell HF 0).trans rfl
    have r1 := (blk_cell HF 1).trans rfl
    have r2 := (blk_cell HF 2).trans rfl
    rw [HN.out]
    exact bodyPost_ret (v := .tuple #[evV x, .int .i64 1]) (by simp [results, Try.results24, go_sem, r0, r1, r2]) rfl ⟨rfl, PP.out.1.fresh (fun k hk he => by have := HLT.out k hk; have := HBB.out; omega) BF, (C4.out.trans (PP.out.2.mono (fun _ h => h) (fun _ h => ext_of h))).trans (BF.mono (fun t ht => .inr (.inl ht)) (fun k hk => .inr (by have := HBB.out; omega)))⟩
  · go_enter Try.func24, Try.ntmps24
    go_wp2_with (first
      | ((with_reducible refine gate_dst (N := 2) rfl ?_); refine box_event ?hg (N := 2) ?hd (cs := #[.int .i64 0, .string ⟨#[]⟩, .string ⟨#[]⟩]) (t := 50) ?hr ?_; (case hd => rfl); (case hg => rfl); (case hr => first | (go_simp; done) | (go_simp; rfl)); intro b hg w1 hbox hb; have HBB := Aside0.mk hg; have H1 := Aside0.mk hbox; have B1 := Aside0.mk hb; have a2 := below_cell hb c2; have y0 := below_cell hb x0; have y1 := below_cell hb x1; have y2 := below_cell hb x2; clear hg hbox hb)
      | ((with_reducible refine gate_dst (N := 4) rfl ?_); refine box_event ?hg (N := 4) ?hd (cs := #[.int .i64 0, .string ⟨#[]⟩, .string ⟨#[]⟩]) (t := 50) ?hr ?_; (case hd => rfl); (case hg => rfl); (case hr => first | (go_simp; done) | (go_simp; rfl)); intro b4 hg w2 hbox hb; have HB4 := Aside0.mk hg; have H4 := Aside0.mk hbox; have B2 := Aside0.mk hb; have e0 := (blk_cell hbox 0).trans rfl; have e1 := (blk_cell hbox 1).trans rfl; have e2 := (blk_cell hbox 2).trans rfl; have g0 := blk_frozen hbox 0; have g1 := blk_frozen hbox 1; have g2 := blk_frozen hbox 2; clear a2; have T4 := three_ch (k := x.k) (t := x.t) (v := x.v) hbox; have NG4 : g ≠ b4 := (by have := H.out.lt.1; have := HBB.out; have := B1.out.size; omega); have NB4 : b ≠ b4 := (by have := HBB.out; have := blk_lt H1.out; omega); have NBG : b ≠ g := (by have := H.out.lt.1; have := HBB.out; omega); have HGW := T4.1.blk ((hb.block g (by have := H.out.lt.1; have := B1.out.size; omega)).trans ((B1.out.block g H.out.lt.1).trans HG.out)) (fun h => NG4 h.1); have a2 : _ = some (Value.slice (some ⟨b', o, none⟩) (r.length + 1) n) := (blk_cell HGW 2).trans rfl; have h2 := blk_frozen HGW 2; have KQ3 := ((KQ.out.below B1.out).below hb).far T4.1 (fun k hk he => by have := HLT.out k hk; have := B1.out.size; omega); have IC3 := ((H.out.below B1.out).below hb).fresh (fun k hk he => by have := HLT.out k hk; have := B1.out.size; omega) T4.1; have PP := Aside0.mk (IC3.pop HGW HQ.out KQ3 (.slice (some ⟨b', o + 3, none⟩) r.length (n - 1)) (by rw [if_neg hc1])); have HB4W := blk_far T4.2 (p := ⟨g, 2, none⟩) (fun h => NG4 h.symm) (Value.slice (some ⟨b', o + 3, none⟩) r.length (n - 1)); have HBW := T4.1.blk ((hb.block b (blk_lt H1.out)).trans H1.out) (fun h => NB4 h.1); have HBW2 := blk_far HBW (p := ⟨g, 2, none⟩) NBG (Value.slice (some ⟨b', o + 3, none⟩) r.length (n - 1)); have s0 := (blk_cell HB4W 0).trans rfl; have s1 := (blk_cell HB4W 1).trans rfl; have s2 := (blk_cell HB4W 2).trans rfl; have u0 := (blk_cell HBW2 0).trans rfl; have u1 := (blk_cell HBW2 1).trans rfl; have u2 := (blk_cell HBW2 2).trans rfl; have v0 := blk_frozen HBW2 0; have v1 := blk_frozen HBW2 1; have v2 := blk_frozen HBW2 2; have HF5 := Aside0.mk (three_ch (k := x.k) (t := x.t) (v := x.v) HBW2); have C4 := Aside0.mk (((Ch.of_below B1.out : Ch coreT F w w1).trans (Ch.of_below hb)).trans (T4.1.mono (fun t ht => .inr (.inl ht)) (fun k hk => (.inr (by have := B1.out.size; omega) : ext F w k)))); clear T4 HGW KQ3 IC3 HB4W HBW HBW2 NG4 NB4 NBG hg hbox hb y0 y1 y2))
    obtain ⟨BF, HF⟩ := HF5.out
    have r0 := (blk_cell HF 0).trans rfl
    have r1 := (blk_cell HF 1).trans rfl
    have r2 := (blk_cell HF 2).trans rfl
    rw [HN.out]
    exact bodyPost_ret (v := .tuple #[evV x, .int .i64 1]) (by simp [results, Try.results24, go_sem, r0, r1, r2]) rfl ⟨rfl, PP.out.1.fresh (fun k hk he => by have := HLT.out k hk; have := HBB.out; omega) BF, (C4.out.trans (PP.out.2.mono (fun _ h => h) (fun _ h => ext_of h))).trans (BF.mono (fun t ht => .inr (.inl ht)) (fun k hk => .inr (by have := HBB.out; omega)))⟩
end Go.Proofs.Ytalaedpiimdcbaa.Cr
