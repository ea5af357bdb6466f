/- What one call of (*src.Scan).Step does to its scan, and answers, for every scan and every byte. -/
import Derived.Test.YtalaedpiimdcbaaOwnGoto
import Derived.Test.YtalaedpiimdcbaaOwn
import Derived.WalkMore
import Derived.WalkKit
import Derived.KernelRfl
import Derived.Test.YtalaedpiimdcbaaProg
namespace Go.Proofs.Ytalaedpiimdcbaa.Srcw
open Go.RowKit Go.Proofs.YtalaedpiimdcbaaW.PrintWords Go.Proofs.YtalaedpiimdcbaaW.PrintLast Go.Proofs.Ytalaedpiimdcbaa.Own
set_option linter.unusedVariables false
set_option linter.unusedSimpArgs false

/-- The scan's fields behind a byte that starts a character of several bytes. -/
def leadF (b : Int) : Int × Int × Int :=
  (if b < 224 then 1 else if b < 240 then 2 else 3, if b = 224 then 160 else if b = 240 then 144 else 128, if b = 237 then 159 else if b = 244 then 143 else 191)
/-- Step: whether the byte goes on, and the scan's fields behind it. -/
def stepF (l a t b : Int) : Bool × Int × Int × Int :=
  if 0 < l then (if b < a ∨ t < b then (false, l, a, t) else (true, l - 1, 128, 191))
  else if b < 128 then (true, 0, 128, 191)
  else if b < 194 ∨ 244 < b then (false, l, a, t)
  else (true, (leadF b).1, (leadF b).2.1, (leadF b).2.2)

/-- A scan at block g. -/
def ScanAt (w : World) (g : Nat) (l a t : Int) : Prop := w.heap[g]? = some (.cells #[.int .i64 l, .int .u8 a, .int .u8 t] 78 (0, 0))

def StepPost (g : Nat) (r : Bool × Int × Int × Int) (w0 w : World) (e : Ending) (w' : World) : Prop :=
  e = .returned (.bool r.1) ∧ ScanAt w' g r.2.1 r.2.2.1 r.2.2.2 ∧ Below w0.heap.size w0 w' ∧ KeepBut w w' g none

theorem world_false {g : Nat} {l a t : Int} {w0 w : World} (o : Obj) (hg : ScanAt w g l a t) (hB : Below w0.heap.size w0 w) :
    ScanAt (w.alloc o) g l a t ∧ Below w0.heap.size w0 (w.alloc o) ∧ KeepBut w (w.alloc o) g none :=
  ⟨blk_alloc hg o, below_alloc hB o, keep_alloc (KeepBut.refl w g none) o⟩
theorem world_true {g : Nat} {l a t x y z : Int} {w0 w : World} (o : Obj) (hg : ScanAt w g l a t) (hB : Below w0.heap.size w0 w) (h0 : w0.heap.size ≤ g) :
    ScanAt ((((w.setCell ⟨g, 0, none⟩ (.int .i64 x)).setCell ⟨g, 1, none⟩ (.int .u8 y)).setCell ⟨g, 2, none⟩ (.int .u8 z)).alloc o) g x y z ∧
    Below w0.heap.size w0 ((((w.setCell ⟨g, 0, none⟩ (.int .i64 x)).setCell ⟨g, 1, none⟩ (.int .u8 y)).setCell ⟨g, 2, none⟩ (.int .u8 z)).alloc o) ∧
    KeepBut w ((((w.setCell ⟨g, 0, none⟩ (.int .i64 x)).setCell ⟨g, 1, none⟩ (.int .u8 y)).setCell ⟨g, 2, none⟩ (.int .u8 z)).alloc o) g none := by
  refine ⟨blk_alloc ?_ o, below_alloc (below_set (below_set (below_set hB h0) h0) h0) o, keep_alloc (((KeepBut.refl w g none).set_ _ _).set_ _ _ |>.set_ _ _) o⟩
  have h1 := blk_put (cs' := #[.int .i64 x, .int .u8 a, .int .u8 t]) hg 0 (.int .i64 x) rfl
  have h2 := blk_put (cs' := #[.int .i64 x, .int .u8 y, .int .u8 t]) h1 1 (.int .u8 y) rfl
  exact blk_put (cs' := #[.int .i64 x, .int .u8 y, .int .u8 z]) h2 2 (.int .u8 z) rfl

set_option maxHeartbeats 2000000 in
set_option maxRecDepth 100000 in
theorem step_within (g : Nat) (l a t b : Int) (w0 w : World) (hg : ScanAt w g l a t) (hB : Below w0.heap.size w0 w) (h0 : w0.heap.size ≤ g) (hb0 : 0 ≤ b) (hb1 : b ≤ 255) (hl : 0 < l) (hl3 : l ≤ 3) (h1 : a ≤ b) (h2 : b ≤ t) :
    Calls Try.prog 20 #[.pointer (some ⟨g, 0, none⟩), .int .u8 b] w (StepPost g (true, l - 1, 128, 191) w0 w) := by
  have c0 := (blk_cell hg 0).trans rfl
  have c1 := (blk_cell hg 1).trans rfl
  have c2 := (blk_cell hg 2).trans rfl
  have f0 := blk_frozen hg 0
  have f1 := blk_frozen hg 1
  have f2 := blk_frozen hg 2
  have HG := Aside0.mk hg
  have HB := Aside0.mk hB
  have hgs : g < w.heap.size := blk_lt hg
  clear hg hB
  have hne : g ≠ w.heap.size := by omega
  have t0 : decide (b < a) = false := by simp; omega
  have t1 : decide (t < b) = false := by simp; omega
  go_enter Try.func20, Try.ntmps20
  go_wp2
  refine wp_scope_fwd 1 ?_
  go_wp2
  go_step3
  refine ⟨_, rfl, ?_⟩
  go_wp2
  go_step3
  go_wp2
  rw [fwd_ret]
  go_ret
  exact ⟨rfl, world_true _ HG.out HB.out h0⟩

set_option maxHeartbeats 2000000 in
set_option maxRecDepth 100000 in
theorem step_low (g : Nat) (l a t b : Int) (w0 w : World) (hg : ScanAt w g l a t) (hB : Below w0.heap.size w0 w) (h0 : w0.heap.size ≤ g) (hb0 : 0 ≤ b) (hb1 : b ≤ 255) (hl : 0 < l) (hl3 : l ≤ 3) (h1 : b < a) :
    Calls Try.prog 20 #[.pointer (some ⟨g, 0, none⟩), .int .u8 b] w (StepPost g (false, l, a, t) w0 w) := by
  have c0 := (blk_cell hg 0).trans rfl
  have c1 := (blk_cell hg 1).trans rfl
  have c2 := (blk_cell hg 2).trans rfl
  have f0 := blk_frozen hg 0
  have f1 := blk_frozen hg 1
  have f2 := blk_frozen hg 2
  have HG := Aside0.mk hg
  have HB := Aside0.mk hB
  have hgs : g < w.heap.size := blk_lt hg
  clear hg hB
  have hne : g ≠ w.heap.size := by omega
  have t0 : decide (b < a) = true := by simp; omega
  go_enter Try.func20, Try.ntmps20
  go_wp2
  refine wp_scope_fwd 1 ?_
  go_wp2
  go_step3
  refine ⟨_, rfl, ?_⟩
  go_wp2
  rw [fwd_ret]
  go_ret
  exact ⟨rfl, world_false _ HG.out HB.out⟩

set_option maxHeartbeats 2000000 in
set_option maxRecDepth 100000 in
theorem step_high (g : Nat) (l a t b : Int) (w0 w : World) (hg : ScanAt w g l a t) (hB : Below w0.heap.size w0 w) (h0 : w0.heap.size ≤ g) (hb0 : 0 ≤ b) (hb1 : b ≤ 255) (hl : 0 < l) (hl3 : l ≤ 3) (h1 : a ≤ b) (h2 : t < b) :
    Calls Try.prog 20 #[.pointer (some ⟨g, 0, none⟩), .int .u8 b] w (StepPost g (false, l, a, t) w0 w) := by
  have c0 := (blk_cell hg 0).trans rfl
  have c1 := (blk_cell hg 1).trans rfl
  have c2 := (blk_cell hg 2).trans rfl
  have f0 := blk_frozen hg 0
  have f1 := blk_frozen hg 1
  have f2 := blk_frozen hg 2
  have HG := Aside0.mk hg
  have HB := Aside0.mk hB
  have hgs : g < w.heap.size := blk_lt hg
  clear hg hB
  have hne : g ≠ w.heap.size := by omega
  have t0 : decide (b < a) = false := by simp; omega
  have t1 : decide (t < b) = true := by simp; omega
  go_enter Try.func20, Try.ntmps20
  go_wp2
  refine wp_scope_fwd 1 ?_
  go_wp2
  go_step3
  refine ⟨_, rfl, ?_⟩
  go_wp2
  rw [fwd_ret]
  go_ret
  exact ⟨rfl, world_false _ HG.out HB.out⟩

set_option maxHeartbeats 2000000 in
set_option maxRecDepth 100000 in
theorem step_ascii (g : Nat) (l a t b : Int) (w0 w : World) (hg : ScanAt w g l a t) (hB : Below w0.heap.size w0 w) (h0 : w0.heap.size ≤ g) (hb0 : 0 ≤ b) (hb1 : b ≤ 255) (hl : l ≤ 0) (h1 : b < 128) :
    Calls Try.prog 20 #[.pointer (some ⟨g, 0, none⟩), .int .u8 b] w (StepPost g (true, 0, 128, 191) w0 w) := by
  have c0 := (blk_cell hg 0).trans rfl
  have c1 := (blk_cell hg 1).trans rfl
  have c2 := (blk_cell hg 2).trans rfl
  have f0 := blk_frozen hg 0
  have f1 := blk_frozen hg 1
  have f2 := blk_frozen hg 2
  have HG := Aside0.mk hg
  have HB := Aside0.mk hB
  have hgs : g < w.heap.size := blk_lt hg
  clear hg hB
  have hne : g ≠ w.heap.size := by omega
  have t0 : decide (0 < l) = false := by simp; omega
  have t1 : decide (b < 128) = true := by simp; omega
  go_enter Try.func20, Try.ntmps20
  go_wp2
  refine wp_scope_fwd 1 ?_
  go_wp2
  go_step3
  refine ⟨_, rfl, ?_⟩
  go_wp2
  rw [fwd_ret]
  go_ret
  exact ⟨rfl, world_true _ HG.out HB.out h0⟩

set_option maxHeartbeats 2000000 in
set_option maxRecDepth 100000 in
theorem step_bad1 (g : Nat) (l a t b : Int) (w0 w : World) (hg : ScanAt w g l a t) (hB : Below w0.heap.size w0 w) (h0 : w0.heap.size ≤ g) (hb0 : 0 ≤ b) (hb1 : b ≤ 255) (hl : l ≤ 0) (h1 : 128 ≤ b) (h2 : b < 194) :
    Calls Try.prog 20 #[.pointer (some ⟨g, 0, none⟩), .int .u8 b] w (StepPost g (false, l, a, t) w0 w) := by
  have c0 := (blk_cell hg 0).trans rfl
  have c1 := (blk_cell hg 1).trans rfl
  have c2 := (blk_cell hg 2).trans rfl
  have f0 := blk_frozen hg 0
  have f1 := blk_frozen hg 1
  have f2 := blk_frozen hg 2
  have HG := Aside0.mk hg
  have HB := Aside0.mk hB
  have hgs : g < w.heap.size := blk_lt hg
  clear hg hB
  have hne : g ≠ w.heap.size := by omega
  have t0 : decide (0 < l) = false := by simp; omega
  have t1 : decide (b < 128) = false := by simp; omega
  have t2 : decide (b < 194) = true := by simp; omega
  go_enter Try.func20, Try.ntmps20
  go_wp2
  refine wp_scope_fwd 1 ?_
  go_wp2
  rw [fwd_ret]
  go_ret
  exact ⟨rfl, world_false _ HG.out HB.out⟩

set_option maxHeartbeats 2000000 in
set_option maxRecDepth 100000 in
theorem step_bad2 (g : Nat) (l a t b : Int) (w0 w : World) (hg : ScanAt w g l a t) (hB : Below w0.heap.size w0 w) (h0 : w0.heap.size ≤ g) (hb0 : 0 ≤ b) (hb1 : b ≤ 255) (hl : l ≤ 0) (h1 : 244 < b) :
    Calls Try.prog 20 #[.pointer (some ⟨g, 0, none⟩), .int .u8 b] w (StepPost g (false, l, a, t) w0 w) := by
  have c0 := (blk_cell hg 0).trans rfl
  have c1 := (blk_cell hg 1).trans rfl
  have c2 := (blk_cell hg 2).trans rfl
  have f0 := blk_frozen hg 0
  have f1 := blk_frozen hg 1
  have f2 := blk_frozen hg 2
  have HG := Aside0.mk hg
  have HB := Aside0.mk hB
  have hgs : g < w.heap.size := blk_lt hg
  clear hg hB
  have hne : g ≠ w.heap.size := by omega
  have t0 : decide (0 < l) = false := by simp; omega
  have t1 : decide (b < 128) = false := by simp; omega
  have t2 : decide (b < 194) = false := by simp; omega
  have t3 : decide (244 < b) = true := by simp; omega
  go_enter Try.func20, Try.ntmps20
  go_wp2
  refine wp_scope_fwd 1 ?_
  go_wp2
  rw [fwd_ret]
  go_ret
  exact ⟨rfl, world_false _ HG.out HB.out⟩

set_option maxHeartbeats 2000000 in
set_option maxRecDepth 100000 in
theorem step_2 (g : Nat) (l a t b : Int) (w0 w : World) (hg : ScanAt w g l a t) (hB : Below w0.heap.size w0 w) (h0 : w0.heap.size ≤ g) (hb0 : 0 ≤ b) (hb1 : b ≤ 255) (hl : l ≤ 0) (h1 : 194 ≤ b) (h2 : b < 224) :
    Calls Try.prog 20 #[.pointer (some ⟨g, 0, none⟩), .int .u8 b] w (StepPost g (true, 1, 128, 191) w0 w) := by
  have c0 := (blk_cell hg 0).trans rfl
  have c1 := (blk_cell hg 1).trans rfl
  have c2 := (blk_cell hg 2).trans rfl
  have f0 := blk_frozen hg 0
  have f1 := blk_frozen hg 1
  have f2 := blk_frozen hg 2
  have HG := Aside0.mk hg
  have HB := Aside0.mk hB
  have hgs : g < w.heap.size := blk_lt hg
  clear hg hB
  have hne : g ≠ w.heap.size := by omega
  have t0 : decide (0 < l) = false := by simp; omega
  have t1 : decide (b < 128) = false := by simp; omega
  have t2 : decide (b < 194) = false := by simp; omega
  have t3 : decide (244 < b) = false := by simp; omega
  have t4 : decide (b < 224) = true := by simp; omega
  have t5 : (b == 224) = false := by simp; omega
  have t6 : (b == 237) = false := by simp; omega
  have t7 : (b == 240) = false := by simp; omega
  have t8 : (b == 244) = false := by simp; omega
  go_enter Try.func20, Try.ntmps20
  go_wp2
  refine wp_scope_fwd 1 ?_
  go_wp2
  go_step3
  refine ⟨_, rfl, ?_⟩
  go_wp2
  rw [fwd_ret]
  go_ret
  exact ⟨rfl, world_true _ HG.out HB.out h0⟩

set_option maxHeartbeats 2000000 in
set_option maxRecDepth 100000 in
theorem step_3 (g : Nat) (l a t b : Int) (w0 w : World) (hg : ScanAt w g l a t) (hB : Below w0.heap.size w0 w) (h0 : w0.heap.size ≤ g) (hb0 : 0 ≤ b) (hb1 : b ≤ 255) (hl : l ≤ 0) (h1 : 224 < b) (h2 : b < 240) (h3 : b ≠ 237) :
    Calls Try.prog 20 #[.pointer (some ⟨g, 0, none⟩), .int .u8 b] w (StepPost g (true, 2, 128, 191) w0 w) := by
  have c0 := (blk_cell hg 0).trans rfl
  have c1 := (blk_cell hg 1).trans rfl
  have c2 := (blk_cell hg 2).trans rfl
  have f0 := blk_frozen hg 0
  have f1 := blk_frozen hg 1
  have f2 := blk_frozen hg 2
  have HG := Aside0.mk hg
  have HB := Aside0.mk hB
  have hgs : g < w.heap.size := blk_lt hg
  clear hg hB
  have hne : g ≠ w.heap.size := by omega
  have t0 : decide (0 < l) = false := by simp; omega
  have t1 : decide (b < 128) = false := by simp; omega
  have t2 : decide (b < 194) = false := by simp; omega
  have t3 : decide (244 < b) = false := by simp; omega
  have t4 : decide (b < 224) = false := by simp; omega
  have t5 : decide (b < 240) = true := by simp; omega
  have t6 : (b == 224) = false := by simp; omega
  have t7 : (b == 237) = false := by simp; omega
  have t8 : (b == 240) = false := by simp; omega
  have t9 : (b == 244) = false := by simp; omega
  go_enter Try.func20, Try.ntmps20
  go_wp2
  refine wp_scope_fwd 1 ?_
  go_wp2
  go_step3
  refine ⟨_, rfl, ?_⟩
  go_wp2
  rw [fwd_ret]
  go_ret
  exact ⟨rfl, world_true _ HG.out HB.out h0⟩

set_option maxHeartbeats 2000000 in
set_option maxRecDepth 100000 in
theorem step_4 (g : Nat) (l a t b : Int) (w0 w : World) (hg : ScanAt w g l a t) (hB : Below w0.heap.size w0 w) (h0 : w0.heap.size ≤ g) (hb0 : 0 ≤ b) (hb1 : b ≤ 255) (hl : l ≤ 0) (h1 : 240 < b) (h2 : b < 244) :
    Calls Try.prog 20 #[.pointer (some ⟨g, 0, none⟩), .int .u8 b] w (StepPost g (true, 3, 128, 191) w0 w) := by
  have c0 := (blk_cell hg 0).trans rfl
  have c1 := (blk_cell hg 1).trans rfl
  have c2 := (blk_cell hg 2).trans rfl
  have f0 := blk_frozen hg 0
  have f1 := blk_frozen hg 1
  have f2 := blk_frozen hg 2
  have HG := Aside0.mk hg
  have HB := Aside0.mk hB
  have hgs : g < w.heap.size := blk_lt hg
  clear hg hB
  have hne : g ≠ w.heap.size := by omega
  have t0 : decide (0 < l) = false := by simp; omega
  have t1 : decide (b < 128) = false := by simp; omega
  have t2 : decide (b < 194) = false := by simp; omega
  have t3 : decide (244 < b) = false := by simp; omega
  have t4 : decide (b < 224) = false := by simp; omega
  have t5 : decide (b < 240) = false := by simp; omega
  have t6 : (b == 224) = false := by simp; omega
  have t7 : (b == 237) = false := by simp; omega
  have t8 : (b == 240) = false := by simp; omega
  have t9 : (b == 244) = false := by simp; omega
  go_enter Try.func20, Try.ntmps20
  go_wp2
  refine wp_scope_fwd 1 ?_
  go_wp2
  go_step3
  refine ⟨_, rfl, ?_⟩
  go_wp2
  rw [fwd_ret]
  go_ret
  exact ⟨rfl, world_true _ HG.out HB.out h0⟩

set_option maxHeartbeats 2000000 in
set_option maxRecDepth 100000 in
theorem step_E0 (g : Nat) (l a t b : Int) (w0 w : World) (hg : ScanAt w g l a t) (hB : Below w0.heap.size w0 w) (h0 : w0.heap.size ≤ g) (hb0 : 0 ≤ b) (hb1 : b ≤ 255) (hl : l ≤ 0) (h1 : b = 224) :
    Calls Try.prog 20 #[.pointer (some ⟨g, 0, none⟩), .int .u8 b] w (StepPost g (true, 2, 160, 191) w0 w) := by
  have c0 := (blk_cell hg 0).trans rfl
  have c1 := (blk_cell hg 1).trans rfl
  have c2 := (blk_cell hg 2).trans rfl
  have f0 := blk_frozen hg 0
  have f1 := blk_frozen hg 1
  have f2 := blk_frozen hg 2
  have HG := Aside0.mk hg
  have HB := Aside0.mk hB
  have hgs : g < w.heap.size := blk_lt hg
  clear hg hB
  have hne : g ≠ w.heap.size := by omega
  have t0 : decide (0 < l) = false := by simp; omega
  have t1 : decide (b < 128) = false := by simp; omega
  have t2 : decide (b < 194) = false := by simp; omega
  have t3 : decide (244 < b) = false := by simp; omega
  have t4 : decide (b < 224) = false := by simp; omega
  have t5 : decide (b < 240) = true := by simp; omega
  have t6 : (b == 224) = true := by simp; omega
  have t7 : (b == 237) = false := by simp; omega
  have t8 : (b == 240) = false := by simp; omega
  have t9 : (b == 244) = false := by simp; omega
  have H1 := Aside0.mk h1
  clear h1
  go_enter Try.func20, Try.ntmps20
  go_wp2
  refine wp_scope_fwd 1 ?_
  go_wp2
  go_step3
  refine ⟨_, rfl, ?_⟩
  go_wp2
  rw [fwd_ret]
  go_ret
  exact ⟨rfl, world_true _ HG.out HB.out h0⟩

set_option maxHeartbeats 2000000 in
set_option maxRecDepth 100000 in
theorem step_ED (g : Nat) (l a t b : Int) (w0 w : World) (hg : ScanAt w g l a t) (hB : Below w0.heap.size w0 w) (h0 : w0.heap.size ≤ g) (hb0 : 0 ≤ b) (hb1 : b ≤ 255) (hl : l ≤ 0) (h1 : b = 237) :
    Calls Try.prog 20 #[.pointer (some ⟨g, 0, none⟩), .int .u8 b] w (StepPost g (true, 2, 128, 159) w0 w) := by
  have c0 := (blk_cell hg 0).trans rfl
  have c1 := (blk_cell hg 1).trans rfl
  have c2 := (blk_cell hg 2).trans rfl
  have f0 := blk_frozen hg 0
  have f1 := blk_frozen hg 1
  have f2 := blk_frozen hg 2
  have HG := Aside0.mk hg
  have HB := Aside0.mk hB
  have hgs : g < w.heap.size := blk_lt hg
  clear hg hB
  have hne : g ≠ w.heap.size := by omega
  have t0 : decide (0 < l) = false := by simp; omega
  have t1 : decide (b < 128) = false := by simp; omega
  have t2 : decide (b < 194) = false := by simp; omega
  have t3 : decide (244 < b) = false := by simp; omega
  have t4 : decide (b < 224) = false := by simp; omega
  have t5 : decide (b < 240) = true := by simp; omega
  have t6 : (b == 224) = false := by simp; omega
  have t7 : (b == 237) = true := by simp; omega
  have t8 : (b == 240) = false := by simp; omega
  have t9 : (b == 244) = false := by simp; omega
  have H1 := Aside0.mk h1
  clear h1
  go_enter Try.func20, Try.ntmps20
  go_wp2
  refine wp_scope_fwd 1 ?_
  go_wp2
  go_step3
  refine ⟨_, rfl, ?_⟩
  go_wp2
  rw [fwd_ret]
  go_ret
  exact ⟨rfl, world_true _ HG.out HB.out h0⟩

set_option maxHeartbeats 2000000 in
set_option maxRecDepth 100000 in
theorem step_F0 (g : Nat) (l a t b : Int) (w0 w : World) (hg : ScanAt w g l a t) (hB : Below w0.heap.size w0 w) (h0 : w0.heap.size ≤ g) (hb0 : 0 ≤ b) (hb1 : b ≤ 255) (hl : l ≤ 0) (h1 : b = 240) :
    Calls Try.prog 20 #[.pointer (some ⟨g, 0, none⟩), .int .u8 b] w (StepPost g (true, 3, 144, 191) w0 w) := by
  have c0 := (blk_cell hg 0).trans rfl
  have c1 := (blk_cell hg 1).trans rfl
  have c2 := (blk_cell hg 2).trans rfl
  have f0 := blk_frozen hg 0
  have f1 := blk_frozen hg 1
  have f2 := blk_frozen hg 2
  have HG := Aside0.mk hg
  have HB := Aside0.mk hB
  have hgs : g < w.heap.size := blk_lt hg
  clear hg hB
  have hne : g ≠ w.heap.size := by omega
  have t0 : decide (0 < l) = false := by simp; omega
  have t1 : decide (b < 128) = false := by simp; omega
  have t2 : decide (b < 194) = false := by simp; omega
  have t3 : decide (244 < b) = false := by simp; omega
  have t4 : decide (b < 224) = false := by simp; omega
  have t5 : decide (b < 240) = false := by simp; omega
  have t6 : (b == 224) = false := by simp; omega
  have t7 : (b == 237) = false := by simp; omega
  have t8 : (b == 240) = true := by simp; omega
  have t9 : (b == 244) = false := by simp; omega
  have H1 := Aside0.mk h1
  clear h1
  go_enter Try.func20, Try.ntmps20
  go_wp2
  refine wp_scope_fwd 1 ?_
  go_wp2
  go_step3
  refine ⟨_, rfl, ?_⟩
  go_wp2
  rw [fwd_ret]
  go_ret
  exact ⟨rfl, world_true _ HG.out HB.out h0⟩

set_option maxHeartbeats 2000000 in
set_option maxRecDepth 100000 in
theorem step_F4 (g : Nat) (l a t b : Int) (w0 w : World) (hg : ScanAt w g l a t) (hB : Below w0.heap.size w0 w) (h0 : w0.heap.size ≤ g) (hb0 : 0 ≤ b) (hb1 : b ≤ 255) (hl : l ≤ 0) (h1 : b = 244) :
    Calls Try.prog 20 #[.pointer (some ⟨g, 0, none⟩), .int .u8 b] w (StepPost g (true, 3, 128, 143) w0 w) := by
  have c0 := (blk_cell hg 0).trans rfl
  have c1 := (blk_cell hg 1).trans rfl
  have c2 := (blk_cell hg 2).trans rfl
  have f0 := blk_frozen hg 0
  have f1 := blk_frozen hg 1
  have f2 := blk_frozen hg 2
  have HG := Aside0.mk hg
  have HB := Aside0.mk hB
  have hgs : g < w.heap.size := blk_lt hg
  clear hg hB
  have hne : g ≠ w.heap.size := by omega
  have t0 : decide (0 < l) = false := by simp; omega
  have t1 : decide (b < 128) = false := by simp; omega
  have t2 : decide (b < 194) = false := by simp; omega
  have t3 : decide (244 < b) = false := by simp; omega
  have t4 : decide (b < 224) = false := by simp; omega
  have t5 : decide (b < 240) = false := by simp; omega
  have t6 : (b == 224) = false := by simp; omega
  have t7 : (b == 237) = false := by simp; omega
  have t8 : (b == 240) = false := by simp; omega
  have t9 : (b == 244) = true := by simp; omega
  have H1 := Aside0.mk h1
  clear h1
  go_enter Try.func20, Try.ntmps20
  go_wp2
  refine wp_scope_fwd 1 ?_
  go_wp2
  go_step3
  refine ⟨_, rfl, ?_⟩
  go_wp2
  rw [fwd_ret]
  go_ret
  exact ⟨rfl, world_true _ HG.out HB.out h0⟩

/-- (*src.Scan).Step, for every scan and byte. -/
theorem step_calls (g : Nat) (l a t b : Int) (w0 w : World) (hg : ScanAt w g l a t) (hB : Below w0.heap.size w0 w) (h0 : w0.heap.size ≤ g) (hb0 : 0 ≤ b) (hb1 : b ≤ 255) (hl3 : l ≤ 3) :
    Calls Try.prog 20 #[.pointer (some ⟨g, 0, none⟩), .int .u8 b] w (StepPost g (stepF l a t b) w0 w) := by
  unfold stepF
  by_cases hl : 0 < l
  · rw [if_pos hl]
    by_cases h1 : b < a
    · rw [if_pos (.inl h1)]; exact step_low g l a t b w0 w hg hB h0 hb0 hb1 hl hl3 h1
    · by_cases h2 : t < b
      · rw [if_pos (.inr h2)]; exact step_high g l a t b w0 w hg hB h0 hb0 hb1 hl hl3 (by omega) h2
      · rw [if_neg (by omega)]; exact step_within g l a t b w0 w hg hB h0 hb0 hb1 hl hl3 (by omega) (by omega)
  · rw [if_neg hl]
    by_cases h1 : b < 128
    · rw [if_pos h1]; exact step_ascii g l a t b w0 w hg hB h0 hb0 hb1 (by omega) h1
    · rw [if_neg h1]
      by_cases h2 : b < 194
      · rw [if_pos (.inl h2)]; exact step_bad1 g l a t b w0 w hg hB h0 hb0 hb1 (by omega) (by omega) h2
      by_cases h3 : 244 < b
      · rw [if_pos (.inr h3)]; exact step_bad2 g l a t b w0 w hg hB h0 hb0 hb1 (by omega) h3
      rw [if_neg (by omega)]
      unfold leadF
      by_cases h4 : b < 224
      · rw [if_pos h4, if_neg (by omega), if_neg (by omega), if_neg (by omega), if_neg (by omega)]; exact step_2 g l a t b w0 w hg hB h0 hb0 hb1 (by omega) (by omega) h4
      rw [if_neg h4]
      by_cases h5 : b = 224
      · rw [if_pos (by omega), if_pos h5, if_neg (by omega), if_neg (by omega)]; exact step_E0 g l a t b w0 w hg hB h0 hb0 hb1 (by omega) h5
      rw [if_neg h5]
      by_cases h6 : b < 240
      · rw [if_pos h6, if_neg (by omega)]
        by_cases h7 : b = 237
        · rw [if_pos h7]; exact step_ED g l a t b w0 w hg hB h0 hb0 hb1 (by omega) h7
        · rw [if_neg h7, if_neg (by omega)]; exact step_3 g l a t b w0 w hg hB h0 hb0 hb1 (by omega) (by omega) h6 h7
      · rw [if_neg h6]
        by_cases h7 : b = 240
        · rw [if_pos h7, if_neg (by omega), if_neg (by omega)]; exact step_F0 g l a t b w0 w hg hB h0 hb0 hb1 (by omega) h7
        · rw [if_neg h7, if_neg (by omega)]
          by_cases h8 : b = 244
          · rw [if_pos h8]; exact step_F4 g l a t b w0 w hg hB h0 hb0 hb1 (by omega) h8
          · rw [if_neg h8]; exact step_4 g l a t b w0 w hg hB h0 hb0 hb1 (by omega) (by omega) (by omega)
end Go.Proofs.Ytalaedpiimdcbaa.Srcw
