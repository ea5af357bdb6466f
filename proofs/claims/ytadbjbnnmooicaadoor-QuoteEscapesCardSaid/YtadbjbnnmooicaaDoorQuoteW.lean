/- quote: the state of a Quote, and what escapes, add and Text do with it. -/
import Derived.Test.YtadbjbnnmooicaaDoorOwnMap
import Derived.Test.YtadbjbnnmooicaaDoorBulk
import Derived.WalkMore
import Derived.WalkKit
import Derived.KernelRfl
import Derived.Test.YtadbjbnnmooicaaDoorProg
namespace Go.Proofs.YtadbjbnnmooicaaDoor.Qw
open Go.RowKit Go.Proofs.YtadbjbnnmooicaaDoorW.PrintWords Go.Proofs.YtadbjbnnmooicaaDoorW.PrintLast Go.Proofs.YtadbjbnnmooicaaDoor.Own
set_option linter.unusedVariables false
set_option linter.unusedSimpArgs false

/-- A Quote at block g. -/
def IsQ (B : Nat) (w : World) (g : Nat) (l : List Int) (esc : Bool) (left num : Int) (over : Bool) : Prop :=
  B ≤ g ∧ ∃ v, w.heap[g]? = some (.cells #[v, .bool esc, .int .i64 left, .int .i64 num, .bool over] 38 (0, 0)) ∧ (Kd.int .u8).R 5 w B (fun k => k ≠ g) v l
theorem IsQ.below {B g : Nat} {w w' : World} {l : List Int} {esc : Bool} {left num : Int} {over : Bool} (h : IsQ B w g l esc left num over) (hb : Below w.heap.size w w') : IsQ B w' g l esc left num over := by
  obtain ⟨h0, v, h1, h2⟩ := h
  exact ⟨h0, v, (hb.block g (blk_lt h1)).trans h1, Kd.R_below h2 hb⟩
theorem IsQ.esc {B g : Nat} {w : World} {l : List Int} {esc : Bool} {left num : Int} {over : Bool} (h : IsQ B w g l esc left num over) (x : Bool) : IsQ B (w.setCell ⟨g, 1, none⟩ (.bool x)) g l x left num over := by
  obtain ⟨h0, v, h1, h2⟩ := h
  exact ⟨h0, v, blk_put (cs' := #[v, .bool x, .int .i64 left, .int .i64 num, .bool over]) h1 1 _ rfl, Kd.R_far (p := ⟨g, 1, none⟩) h2 (fun k hk => hk) _⟩
theorem IsQ.left {B g : Nat} {w : World} {l : List Int} {esc : Bool} {left num : Int} {over : Bool} (h : IsQ B w g l esc left num over) (x : Int) : IsQ B (w.setCell ⟨g, 2, none⟩ (.int .i64 x)) g l esc x num over := by
  obtain ⟨h0, v, h1, h2⟩ := h
  exact ⟨h0, v, blk_put (cs' := #[v, .bool esc, .int .i64 x, .int .i64 num, .bool over]) h1 2 _ rfl, Kd.R_far (p := ⟨g, 2, none⟩) h2 (fun k hk => hk) _⟩
theorem IsQ.num {B g : Nat} {w : World} {l : List Int} {esc : Bool} {left num : Int} {over : Bool} (h : IsQ B w g l esc left num over) (x : Int) : IsQ B (w.setCell ⟨g, 3, none⟩ (.int .i64 x)) g l esc left x over := by
  obtain ⟨h0, v, h1, h2⟩ := h
  exact ⟨h0, v, blk_put (cs' := #[v, .bool esc, .int .i64 left, .int .i64 x, .bool over]) h1 3 _ rfl, Kd.R_far (p := ⟨g, 3, none⟩) h2 (fun k hk => hk) _⟩
theorem IsQ.over {B g : Nat} {w : World} {l : List Int} {esc : Bool} {left num : Int} {over : Bool} (h : IsQ B w g l esc left num over) (x : Bool) : IsQ B (w.setCell ⟨g, 4, none⟩ (.bool x)) g l esc left num x := by
  obtain ⟨h0, v, h1, h2⟩ := h
  exact ⟨h0, v, blk_put (cs' := #[v, .bool esc, .int .i64 left, .int .i64 num, .bool x]) h1 4 _ rfl, Kd.R_far (p := ⟨g, 4, none⟩) h2 (fun k hk => hk) _⟩

/-- What a letter behind a stroke stands for. -/
def escN (b : Int) : Option Int :=
  if b = 102 then some 12 else if b = 98 then some 8 else if b = 114 then some 13 else if b = 116 then some 9 else if b = 110 then some 10 else if b = 47 then some 47 else if b = 92 then some 92 else if b = 34 then some 34 else none

theorem infoByte : (Tryd.prog.info? 5).map (fun i => (i.zero, i.size, i.bytes)) = some (some (.int .u8 0), 1, 1) := by kernel_rfl

theorem escT : T8 Tryd.prog 49 5 5 := ⟨Tryd.underlying49, Tryd.underlying5, Tryd.underlying5, Tryd.zeroValue5⟩

set_option maxHeartbeats 2000000 in
set_option maxRecDepth 100000 in
theorem escapes_calls (w : World) : Calls Tryd.prog 21 #[] w fun e w' => ∃ g m, e = .returned (.map (some g)) ∧ (mk8 escT).Is w' g 8 m escN ∧ Below w.heap.size w w' := by
  go_enter Tryd.func21, Tryd.ntmps21
  go_wp2_with (first
    | (refine MKind.make_event (mk8 escT) rfl rfl ?_; intro g hg w1 h1 b1)
    | (refine MKind.put_event rfl (.inl rfl) (mk8 escT) rfl _ _ rfl rfl h1 (by decide) (show (_ : Int) ≤ _ ∧ _ by decide) (show (_ : Int) ≤ _ ∧ _ by decide) ?_; intro w2 h2 g2; have b2 := b1.grown g2 b1.size (fun k hk => by injection hk with hk; omega); clear b1 h1 g2; have h1 := h2; have b1 := b2; clear h2 b2))
  go_ret
  exact ⟨g, _, rfl, h1.ext (fun b => by unfold escN; rfl), b1⟩

set_option maxHeartbeats 2000000 in
set_option maxRecDepth 100000 in
theorem text_calls {B g : Nat} {w : World} {l : List Int} {esc : Bool} {left num : Int} {over : Bool} (h : IsQ B w g l esc left num over) :
    Calls Tryd.prog 14 #[.pointer (some ⟨g, 0, none⟩)] w fun e w' => e = .returned (.string (strOfNums l)) ∧ w' = w := by
  obtain ⟨h0, v, h1, h2⟩ := h
  have c0 := (blk_cell h1 0).trans rfl
  have hc := own_string (src := 34) (dst := 9) Tryd.underlying34 Tryd.underlying5 Tryd.underlying9 (Kd.own_of_R h2)
  clear h1 h2
  go_enter Tryd.func14, Tryd.ntmps14
  go_wp2
  go_ret
  exact ⟨rfl, rfl⟩

def AddPost (B g : Nat) (l ys : List Int) (esc : Bool) (left num : Int) (over : Bool) (w : World) (e : Ending) (w' : World) : Prop :=
  ∃ r : Int, e = .returned (.int .i64 r) ∧ r = (if 48 < l.length + ys.length then 4 else 0) ∧ IsQ B w' g (if 48 < l.length + ys.length then l else l ++ ys) esc left num over ∧ Below B w w'

set_option maxHeartbeats 2000000 in
set_option maxRecDepth 100000 in
theorem add_full {B g : Nat} {w : World} {l ys : List Int} {esc : Bool} {left num : Int} {over : Bool} {A : Option Addr} {c : Nat} (h : IsQ B w g l esc left num over) (hl : l.length ≤ 1000) (hy : ys.length ≤ 1000) (hf : 48 < l.length + ys.length) :
    Calls Tryd.prog 22 #[.pointer (some ⟨g, 0, none⟩), .slice A ys.length c] w (AddPost B g l ys esc left num over w) := by
  unfold AddPost
  rw [if_pos hf, if_pos hf]
  have HH := Aside0.mk h
  obtain ⟨h0, v, h1, h2⟩ := h
  have c0 := (blk_cell h1 0).trans rfl
  obtain ⟨A1, c1, rfl⟩ := Kd.R_slice h2
  have t1 : wrap64 ((l.length : Int) + (ys.length : Int)) = (l.length : Int) + (ys.length : Int) := w64 (by omega) (by omega)
  have t2 : decide (48 < (l.length : Int) + (ys.length : Int)) = true := by simp; omega
  clear h1 h2
  go_enter Tryd.func22, Tryd.ntmps22
  go_wp2
  go_ret
  exact ⟨4, rfl, rfl, HH.out, Below.refl _ _⟩

set_option maxHeartbeats 2000000 in
set_option maxRecDepth 100000 in
theorem add_fits {B g : Nat} {w : World} {l ys : List Int} {esc : Bool} {left num : Int} {over : Bool} {A : Option Addr} {c : Nat} (h : IsQ B w g l esc left num over) (hB : B ≤ w.heap.size) (hl : l.length ≤ 1000) (hy : ys.length ≤ 1000) (hC : (Kd.int .u8).C w A ys.length ys) (hf : ¬ 48 < l.length + ys.length) :
    Calls Tryd.prog 22 #[.pointer (some ⟨g, 0, none⟩), .slice A ys.length c] w (AddPost B g l ys esc left num over w) := by
  unfold AddPost
  rw [if_neg hf, if_neg hf]
  obtain ⟨h0, v, h1, h2⟩ := h
  have HV := Aside0.mk h2
  have HB := Aside0.mk h1
  have HC := Aside0.mk hC
  have H0 := Aside0.mk h0
  have HW := Aside0.mk hB
  have c0 := (blk_cell h1 0).trans rfl
  obtain ⟨A1, c1, hv⟩ := Kd.R_slice h2
  have f0 := blk_frozen h1 0
  have hg := blk_lt h1
  have t1 : wrap64 ((l.length : Int) + (ys.length : Int)) = (l.length : Int) + (ys.length : Int) := w64 (by omega) (by omega)
  have t2 : decide (48 < (l.length : Int) + (ys.length : Int)) = false := by simp; omega
  have HF := Aside0.mk (fun k (hk : w.heap.size ≤ k) => (by omega : k ≠ g))
  have HL := Aside0.mk (by omega : (l.length + ys.length) * 1 ≤ 140737488355328)
  clear h1 h2 hC h0 hB hf hl hy
  subst hv
  go_enter Tryd.func22, Tryd.ntmps22
  go_wp2_with ((with_reducible refine gate_builtin (b := .append) (xs := #[.tmp 18, .tmp 19]) rfl ?_); at_builtin; refine Kd.R_append_row (Value.int .u8) (0 : Int) (w0 := w) B rfl (.tmp 18) (.tmp 19) 34 5 (.int .u8 0) 1 rfl Tryd.underlying34 infoByte rfl (by omega) _ l ys A ys.length c (fun k => k ≠ g) rfl rfl HF.out HV.out HC.out (Below.refl _ _) HW.out HL.out ?_; intro v1 w1 ho hb hgr hat; have hb1 := (hgr.block g hg (fun e => HV.out.1 g e.symm rfl)).trans HB.out; obtain ⟨A2, c2, hv2⟩ := Kd.R_slice ho; have f1 := blk_frozen hb1 0; have d1 := (blk_cell hb1 0).trans rfl; have K1 := Aside0.mk ho; have K2 := Aside0.mk hb; have K3 := Aside0.mk hb1; clear ho hb hgr hat hb1; subst hv2)
  go_ret
  refine ⟨0, rfl, rfl, ⟨H0.out, _, blk_put (cs' := #[.slice A2 (l.length + ys.length) c2, .bool esc, .int .i64 left, .int .i64 num, .bool over]) K3.out 0 _ (by simp), Kd.R_far (p := ⟨g, 0, none⟩) (by have := K1.out; rwa [List.length_append] at this) (fun k hk => hk) _⟩, K2.out.setCell (p := ⟨g, 0, none⟩) H0.out _⟩
end Go.Proofs.YtadbjbnnmooicaaDoor.Qw
