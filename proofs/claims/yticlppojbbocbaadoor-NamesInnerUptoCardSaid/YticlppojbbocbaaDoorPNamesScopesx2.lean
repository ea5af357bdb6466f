-- PRINTED BY print.sh 35421559b90ae4d0a3588c463048766b98c2df88dd9212a6774a882060cdf62d: not written by this session
import Derived.Test.YticlppojbbocbaaDoorPNamesScopesx0
namespace Go.Proofs.YticlppojbbocbaaDoor.PNamesScopes
open Go.RowKit Go.Proofs.YticlppojbbocbaaDoorW.PrintWords Go.Proofs.YticlppojbbocbaaDoorW.PrintLast Go.Proofs.YticlppojbbocbaaDoorW.PrintMore
attribute [local go_sem] max2_int min2_int max_two min_two max_three min_three max_four min_four   -- for this text's walks alone
set_option linter.unusedVariables false
set_option linter.unusedSimpArgs false

/-- A state of type 35 at block g of W; what its slices lead to came in by w0. -/
def IsS35 (w0 W : World) (g : Nat) (f0 : List (S62)) (f1 : Int) : Prop := ∃ A0 c0, W.heap[g]? = some (.cells #[.slice A0 f0.length c0, .int .i64 f1] 35 (0, 0)) ∧ w0.heap.size ≤ g ∧ Kd.C k62 w0 A0 f0.length f0
theorem IsS35.grown {w0 W : World} {g : Nat} {f0 : List (S62)} {f1 : Int} {W1 : World} {row : Option Nat} (h : IsS35 w0 W g f0 f1) (hw : W.grownBy W1 row) (hne : some g ≠ row) : IsS35 w0 W1 g f0 f1 := by
  obtain ⟨A0, c0, hb, hg, hr0⟩ := h
  exact ⟨A0, c0, blk_grown hb hw hne, hg, hr0⟩
theorem IsS35.own_neN {w0 W : World} {g : Nat} {f0 : List (S62)} {f1 : Int} {α : Type} {d : Kd α} {e : Nat} {base : Nat} {ok : Nat → Prop} {v : Value} {xs : List α} (h : IsS35 w0 W g f0 f1) (ho : Kd.N d e W base ok v xs) (ht : e ≠ 35) : some g ≠ v.ownBlock := by
  obtain ⟨A0, c0, hb, hg, hr0⟩ := h
  exact Kd.N_ne ho hb ht
theorem IsS35.fresh {w0 W : World} {g : Nat} {f0 : List (S62)} {f1 : Int} (h : IsS35 w0 W g f0 f1) : ∀ k, W.heap.size ≤ k → k ≠ g := by
  obtain ⟨A0, c0, hb, hg, hr0⟩ := h
  exact Kd.freshB hb
theorem IsS35.kept {w0 W : World} {g : Nat} {f0 : List (S62)} {f1 : Int} {W1 : World} {S : Nat → Prop} (h : IsS35 w0 W g f0 f1) (hk : Kept W W1 S) (hne : ¬ S g) : IsS35 w0 W1 g f0 f1 := by
  obtain ⟨A0, c0, hb, hg, hr0⟩ := h
  exact ⟨A0, c0, blk_kept hb hk hne, hg, hr0⟩
theorem IsS35.below {w0 W : World} {g : Nat} {f0 : List (S62)} {f1 : Int} {W1 : World} (h : IsS35 w0 W g f0 f1) (hw : Below W.heap.size W W1) : IsS35 w0 W1 g f0 f1 := h.grown (grown_of_below hw none) (by simp)
theorem IsS35.alloc {w0 W : World} {g : Nat} {f0 : List (S62)} {f1 : Int} (h : IsS35 w0 W g f0 f1) (o : Obj) : IsS35 w0 (W.alloc o) g f0 f1 := h.below (below_alloc (Below.refl _ _) o)
theorem IsS35.drewN {w0 W : World} {g : Nat} {f0 : List (S62)} {f1 : Int} (h : IsS35 w0 W g f0 f1) (m : Nat) : IsS35 w0 (W.drewN m) g f0 f1 := h
theorem IsS35.drew {w0 W : World} {g : Nat} {f0 : List (S62)} {f1 : Int} (h : IsS35 w0 W g f0 f1) : IsS35 w0 W.drew g f0 f1 := h
theorem IsS35.at_ {w0 W : World} {g : Nat} {f0 : List (S62)} {f1 : Int} {w' : World} {m : Nat} (hq : W.drewN m = w') (h : IsS35 w0 W g f0 f1) : IsS35 w0 w' g f0 f1 := by subst hq; exact IsS35.drewN h m
theorem IsS35.apart {w0 W : World} {g : Nat} {f0 : List (S62)} {f1 : Int} {α : Type} {d : Kd α} {e : Nat} {base : Nat} {ok : Nat → Prop} {v : Value} {xs : List α} (h : IsS35 w0 W g f0 f1) (ho : d.R e W base ok v xs) (ht : ∀ q, q ∈ e :: d.E → q ≠ 35) : d.R e W base (fun k => ok k ∧ k ≠ g) v xs := by
  obtain ⟨A0, c0, hb, hg, hr0⟩ := h
  exact Kd.R_types ho hb ht
theorem IsS35.own_ne {w0 W : World} {g : Nat} {f0 : List (S62)} {f1 : Int} {α : Type} {d : Kd α} {e : Nat} {base : Nat} {ok : Nat → Prop} {v : Value} {xs : List α} (h : IsS35 w0 W g f0 f1) (ho : d.R e W base ok v xs) (ht : e ≠ 35) : some g ≠ v.ownBlock := by
  obtain ⟨A0, c0, hb, hg, hr0⟩ := h
  exact Kd.R_ne ho hb ht
theorem IsS35.apartQ {w0 W : World} {g : Nat} {f0 : List (S62)} {f1 : Int} {α : Type} {d : Kd α} {e : Nat} {base : Nat} {ok : Nat → Prop} {v : Value} {xs : List α} (h : IsS35 w0 W g f0 f1) (ho : d.Q e W base ok v xs) (ht : ∀ q, q ∈ e :: d.E → q ≠ 35) : d.Q e W base (fun k => ok k ∧ k ≠ g) v xs := by
  obtain ⟨A0, c0, hb, hg, hr0⟩ := h
  exact Kd.Q_types ho hb ht
theorem IsS35.own_neQ {w0 W : World} {g : Nat} {f0 : List (S62)} {f1 : Int} {α : Type} {d : Kd α} {e : Nat} {base : Nat} {ok : Nat → Prop} {v : Value} {xs : List α} (h : IsS35 w0 W g f0 f1) (ho : d.Q e W base ok v xs) (ht : e ≠ 35) : some g ≠ v.ownBlock := by
  obtain ⟨A0, c0, hb, hg, hr0⟩ := h
  exact Kd.Q_ne ho hb ht
theorem IsS35.apartS {w0 W : World} {g : Nat} {f0 : List (S62)} {f1 : Int} {α : Type} {d : Kd α} {e : Nat} {base : Nat} {ok : Nat → Prop} {v : Value} {xs : List α} (h : IsS35 w0 W g f0 f1) (ho : d.S e W base ok v xs) (ht : ∀ q, q ∈ e :: d.E → q ≠ 35) : d.S e W base (fun k => ok k ∧ k ≠ g) v xs := by
  obtain ⟨A0, c0, hb, hg, hr0⟩ := h
  exact Kd.S_types ho hb ht
theorem IsS35.own_neS {w0 W : World} {g : Nat} {f0 : List (S62)} {f1 : Int} {α : Type} {d : Kd α} {e : Nat} {base : Nat} {ok : Nat → Prop} {v : Value} {xs : List α} (h : IsS35 w0 W g f0 f1) (ho : d.S e W base ok v xs) (ht : e ≠ 35) : some g ≠ v.ownBlock := by
  obtain ⟨A0, c0, hb, hg, hr0⟩ := h
  exact Kd.S_ne ho hb ht
theorem IsS35.lt {w0 W : World} {g : Nat} {f0 : List (S62)} {f1 : Int} (h : IsS35 w0 W g f0 f1) : g < W.heap.size := by
  obtain ⟨A0, c0, hb, hg, hr0⟩ := h
  exact blk_lt hb
theorem IsS35.ge {w0 W : World} {g : Nat} {f0 : List (S62)} {f1 : Int} (h : IsS35 w0 W g f0 f1) : w0.heap.size ≤ g := by
  obtain ⟨A0, c0, hb, hg, hr0⟩ := h
  exact hg
theorem IsS35.ne_blk {w0 W : World} {g : Nat} {f0 : List (S62)} {f1 : Int} {a : Nat} {cs : Array Value} {t : TypeId} {fr : Nat × Nat} (h : IsS35 w0 W g f0 f1) (hb2 : W.heap[a]? = some (.cells cs t fr)) (ht : t ≠ 35) : g ≠ a := by
  obtain ⟨A0, c0, hb, hg, hr0⟩ := h
  rintro rfl
  rw [hb] at hb2
  injection hb2 with hb2
  injection hb2 with _ ht2
  exact ht ht2.symm
theorem IsS35.far {w0 W : World} {g : Nat} {f0 : List (S62)} {f1 : Int} {p : Addr} (h : IsS35 w0 W g f0 f1) (hne : g ≠ p.block) (u : Value) : IsS35 w0 (W.setCell p u) g f0 f1 := by
  obtain ⟨A0, c0, hb, hg, hr0⟩ := h
  exact ⟨A0, c0, blk_far hb hne u, hg, hr0⟩
theorem cellS35_0 {W : World} {g : Nat} {A0 : Option Addr} {c0 : Nat} {f0 : List (S62)} {f1 : Int} (h : W.heap[g]? = some (.cells #[.slice A0 f0.length c0, .int .i64 f1] 35 (0, 0))) : W.cell? ⟨g, 0, none⟩ = some (.slice A0 f0.length c0) := (blk_cell h 0).trans rfl
theorem cellS35_1 {W : World} {g : Nat} {A0 : Option Addr} {c0 : Nat} {f0 : List (S62)} {f1 : Int} (h : W.heap[g]? = some (.cells #[.slice A0 f0.length c0, .int .i64 f1] 35 (0, 0))) : W.cell? ⟨g, 1, none⟩ = some (.int .i64 f1) := (blk_cell h 1).trans rfl
theorem IsS35.set_1 {w0 W : World} {g : Nat} {f0 : List (S62)} {f1 : Int} (h : IsS35 w0 W g f0 f1) (x : Int) : IsS35 w0 (W.setCell ⟨g, 1, none⟩ (.int .i64 x)) g f0 x := by
  obtain ⟨A0, c0, hb, hg, hr0⟩ := h
  exact ⟨A0, c0, by simpa using blk_set hb 1 (.int .i64 x), hg, hr0⟩
theorem IsS35.new (w0 W : World) (A0 : Option Addr) (c0 : Nat) (f0 : List (S62)) (f1 : Int) (hB : Below w0.heap.size w0 W) (hr0 : Kd.C k62 w0 A0 f0.length f0) : IsS35 w0 (W.alloc (.cells #[.slice A0 f0.length c0, .int .i64 f1] 35)) W.heap.size f0 f1 := ⟨A0, c0, by simpa using heap_alloc_new W _, hB.size, hr0⟩

/-! ### hexaplaref04_Scope_Space: function 24 -/
def hexaplaref04_Scope_Space.l0 : Nat → ByteArray → Int → List (S62) → Int → Option (ByteArray × Bool × Int)
  | 0, _, _, _, _ => none
  | k + 1, x1, x6, x1000, x1001 => if x6 ≥ 0 then (if 0 ≤ x6 then (if x6 < (x1000.length : Int) then (if ((rd_T62 x1000 x6).f0).toList = x1.toList then (some ((rd_T62 x1000 x6).f1, true, x1001)) else (hexaplaref04_Scope_Space.l0 k x1 (wrap64 (x6 - 1)) x1000 x1001)) else (none)) else (none)) else (some ((⟨#[]⟩ : ByteArray), (x1.toList == ([] : List UInt8)), x1001))
def hexaplaref04_Scope_Space.f (k : Nat) (s0_0 : List (S62)) (s0_1 : Int) (a1 : ByteArray) : Option (ByteArray × Bool × Int) := hexaplaref04_Scope_Space.l0 k a1 (wrap64 ((s0_0.length : Int) - 1)) s0_0 s0_1
theorem hexaplaref04_Scope_Space.mono_l : ∀ k, (∀ y0 y1 y2 y3, LeO (hexaplaref04_Scope_Space.l0 k y0 y1 y2 y3) (hexaplaref04_Scope_Space.l0 (k + 1) y0 y1 y2 y3))
  | 0 => fun _ _ _ _ r h => by simp [hexaplaref04_Scope_Space.l0] at h
  | k + 1 => by
    have ih0 := hexaplaref04_Scope_Space.mono_l k
    · intro y0 y1 y2 y3
      unfold hexaplaref04_Scope_Space.l0
      repeat' first
      | (with_reducible exact ih0 _ _ _ _)
      | (with_reducible exact LeO.refl _)
      | (with_reducible exact LeO.none _)
      | (with_reducible refine LeO.ite ?_ ?_)
      | (with_reducible refine LeO.bind ?_ (fun _ => ?_))
      | exact ih0 _ _ _ _
      | exact LeO.none _
      | refine LeO.ite ?_ ?_
      | refine LeO.bind ?_ (fun _ => ?_)
theorem hexaplaref04_Scope_Space.mono : ∀ a0 a1 a2 k, LeO (hexaplaref04_Scope_Space.f k a0 a1 a2) (hexaplaref04_Scope_Space.f (k + 1) a0 a1 a2) := by
  intro a0 a1 a2 k
  have ih0 := hexaplaref04_Scope_Space.mono_l k
  unfold hexaplaref04_Scope_Space.f
  repeat' first
      | (with_reducible exact ih0 _ _ _ _)
      | (with_reducible exact LeO.refl _)
      | (with_reducible exact LeO.none _)
      | (with_reducible refine LeO.ite ?_ ?_)
      | (with_reducible refine LeO.bind ?_ (fun _ => ?_))
      | exact ih0 _ _ _ _
      | exact LeO.none _
      | refine LeO.ite ?_ ?_
      | refine LeO.bind ?_ (fun _ => ?_)
set_option maxHeartbeats 8000000 in
set_option maxRecDepth 100000 in
theorem hexaplaref04_Scope_Space.calls (k : Nat) (g : Nat) (s0_0 : List (S62)) (s0_1 : Int) (a1 : ByteArray) (r1 : ByteArray) (r2 : Bool) (r3 : Int) (w0 w : World) (hI : IsS35 w0 w g s0_0 s0_1) (hB : Below w0.heap.size w0 w) (h : hexaplaref04_Scope_Space.f k s0_0 s0_1 a1 = some (r1, r2, r3)) :
    Calls Tryd.prog 24 #[.pointer (some ⟨g, 0, none⟩), .string a1] w fun e w' => e = .returned (.tuple #[.string r1, .bool r2]) ∧ IsS35 w0 w' g s0_0 r3 ∧ Below w0.heap.size w0 w' ∧ KeepBut w w' g none := by
  have HI0 := Aside0.mk hI
  have HK := Aside0.mk (KeepBut.refl w g none)
  have HL := Aside0.mk hB.size
  clear hI
  have HW0 := Aside0.mk hB.size
  have HB := Aside0.mk hB
  clear hB
  have H : (hexaplaref04_Scope_Space.l0 k a1 (wrap64 ((s0_0.length : Int) - 1)) s0_0 s0_1) = some (r1, r2, r3) := h
  clear h
  have H' := Aside0.mk H
  clear H
  obtain ⟨ASz3_0, cSz3_0, HGz3, hgz3, HSz3_0⟩ := HI0.out
  have hcz3_0 := cellS35_0 HGz3
  have hcz3_1 := cellS35_1 HGz3
  have hfz3_1 := blk_frozen HGz3 1
  clear HGz3 hgz3
  go_enter Tryd.func24, Tryd.ntmps24
  go_wp2
  go_loopg [6] k (fun kq v6 w' => ∃ (x6_1 : Int), v6 = .int .i64 x6_1 ∧ Aside0 (hexaplaref04_Scope_Space.l0 kq a1 x6_1 s0_0 s0_1 = some (r1, r2, r3)) ∧ Aside0 (kq ≤ k) ∧ Aside0 (IsS35 w0 w' g s0_0 s0_1) ∧ Aside0 (KeepBut w w' g none) ∧ Aside0 (Below w0.heap.size w0 w'))
  case atStart => exact ⟨(wrap64 ((s0_0.length : Int) - 1)), (by first | rfl | (simp; done) | (simp [*]; done)), H', ⟨Nat.le_refl _⟩, ⟨by repeat (first | (with_reducible first | exact HI0.out | apply IsS35.alloc | apply IsS35.drewN | apply IsS35.drew | apply IsS35.set_1) | exact HI0.out)⟩, ⟨by repeat (first | (with_reducible first | exact HK.out | apply KeepBut.set_ | apply keep_drewN | apply keep_drew | apply keep_alloc) | exact HK.out)⟩, ⟨by repeat (first | (with_reducible first | exact HB.out | apply below_alloc | apply pw_below_drewN | apply below_drew1 | refine below_set ?_ (IsS35.ge HI0.out)) | exact HB.out)⟩⟩
  case round =>
    clear H'
    try clear c2
    try clear p2
    try clear hcz3_0
    try clear hcz3_1
    try clear hfz3_1
    obtain ⟨x6_1, rfl, HA, HK1, HI0, HK, HB⟩ := hrel
    cases gk with
    | zero => exact absurd HA.out (by simp [hexaplaref04_Scope_Space.l0])
    | succ k1 =>
      have H := HA.out
      clear HA
      simp only [hexaplaref04_Scope_Space.l0] at H
      by_cases c4 : x6_1 ≥ 0
      · rw [if_pos c4] at H
        have c4b0 : decide (0 ≤ x6_1) = true := decide_eq_true c4
        clear c4
        by_cases c5 : 0 ≤ x6_1
        · rw [if_pos c5] at H
          have c5b0 : decide (0 ≤ x6_1) = true := decide_eq_true c5
          clear c5
          by_cases c6 : x6_1 < (s0_0.length : Int)
          · rw [if_pos c6] at H
            have c6b0 : decide (x6_1 < (s0_0.length : Int)) = true := decide_eq_true c6
            clear c6
            by_cases c7 : ((rd_T62 s0_0 x6_1).f0).toList = a1.toList
            · rw [if_pos c7] at H
              have c7b0 : (((rd_T62 s0_0 x6_1).f0).toList == a1.toList) = true := beq_iff_eq.mpr c7
              have c7b1 : (((rd_T62 s0_0 x6_1).f0).toList != a1.toList) = false := bne_eq_false_iff_eq.mpr c7
              clear c7
              simp only [Option.some.injEq, Prod.mk.injEq] at H
              obtain ⟨rfl, rfl, rfl⟩ := H
              obtain ⟨ASz8_0, cSz8_0, HGz8, hgz8, HSz8_0⟩ := HI0.out
              have hcz8_0 := cellS35_0 HGz8
              have hcz8_1 := cellS35_1 HGz8
              have hfz8_1 := blk_frozen HGz8 1
              clear HGz8 hgz8
              have p115 : 0 ≤ (x6_1 : Int) := of_decide_eq_true (by first | (with_reducible assumption) | assumption)
              have q115 : x6_1 < (s0_0.length : Int) := of_decide_eq_true (by first | (with_reducible assumption) | assumption)
              obtain ⟨ad115, e115, hx115_0, hx115_1, hx115_2⟩ := at_T62 HSz8_0 x6_1 p115 q115
              cases e115
              replace hx115_0 := pw_cell_below HB.out hx115_0
              replace hx115_1 := pw_cell_below HB.out hx115_1
              replace hx115_2 := pw_cell_below HB.out hx115_2
              replace p115 := eq_true p115
              replace q115 := eq_true q115
              have p116 : 0 ≤ (x6_1 : Int) := of_decide_eq_true (by first | (with_reducible assumption) | assumption)
              have q116 : x6_1 < (s0_0.length : Int) := of_decide_eq_true (by first | (with_reducible assumption) | assumption)
              obtain ⟨ad116, e116, hx116_0, hx116_1, hx116_2⟩ := at_T62 HSz8_0 x6_1 p116 q116
              obtain rfl : ad115 = ad116 := (by injection e116)
              replace hx116_0 := pw_cell_below HB.out hx116_0
              replace hx116_1 := pw_cell_below HB.out hx116_1
              replace hx116_2 := pw_cell_below HB.out hx116_2
              replace p116 := eq_true p116
              replace q116 := eq_true q116
              go_wp2
              go_ret2
              exact ⟨by first | rfl | (simp [errW_none, errW_some] <;> rfl) | (simp [*, errW_none, errW_some] <;> rfl), by repeat (first | (with_reducible first | exact HI0.out | apply IsS35.alloc | apply IsS35.drewN | apply IsS35.drew | apply IsS35.set_1) | exact HI0.out), by repeat (first | (with_reducible first | exact HB.out | apply below_alloc | apply pw_below_drewN | apply below_drew1 | refine below_set ?_ (IsS35.ge HI0.out)) | exact HB.out), by repeat (first | (with_reducible first | exact HK.out | apply KeepBut.set_ | apply keep_drewN | apply keep_drew | apply keep_alloc) | exact HK.out)⟩
            · rw [if_neg c7] at H
              have c7b0 : (((rd_T62 s0_0 x6_1).f0).toList == a1.toList) = false := beq_eq_false_iff_ne.mpr c7
              have c7b1 : (((rd_T62 s0_0 x6_1).f0).toList != a1.toList) = true := bne_iff_ne.mpr c7
              have H' := Aside0.mk H
              clear H
              obtain ⟨ASz9_0, cSz9_0, HGz9, hgz9, HSz9_0⟩ := HI0.out
              have hcz9_0 := cellS35_0 HGz9
              have hcz9_1 := cellS35_1 HGz9
              have hfz9_1 := blk_frozen HGz9 1
              clear HGz9 hgz9
              have p115 : 0 ≤ (x6_1 : Int) := of_decide_eq_true (by first | (with_reducible assumption) | assumption)
              have q115 : x6_1 < (s0_0.length : Int) := of_decide_eq_true (by first | (with_reducible assumption) | assumption)
              obtain ⟨ad115, e115, hx115_0, hx115_1, hx115_2⟩ := at_T62 HSz9_0 x6_1 p115 q115
              cases e115
              replace hx115_0 := pw_cell_below HB.out hx115_0
              replace hx115_1 := pw_cell_below HB.out hx115_1
              replace hx115_2 := pw_cell_below HB.out hx115_2
              replace p115 := eq_true p115
              replace q115 := eq_true q115
              go_wp2
              go_roundg k1
              case measure => have := HK1.out; omega
              case rel => exact ⟨(wrap64 (x6_1 - 1)), (by first | rfl | (simp; done) | (simp [*]; done)), H', ⟨by have := HK1.out; omega⟩, ⟨by repeat (first | (with_reducible first | exact HI0.out | apply IsS35.alloc | apply IsS35.drewN | apply IsS35.drew | apply IsS35.set_1) | exact HI0.out)⟩, ⟨by repeat (first | (with_reducible first | exact HK.out | apply KeepBut.set_ | apply keep_drewN | apply keep_drew | apply keep_alloc) | exact HK.out)⟩, ⟨by repeat (first | (with_reducible first | exact HB.out | apply below_alloc | apply pw_below_drewN | apply below_drew1 | refine below_set ?_ (IsS35.ge HI0.out)) | exact HB.out)⟩⟩
          · rw [if_neg c6] at H
            exact absurd H (by simp)
        · rw [if_neg c5] at H
          exact absurd H (by simp)
      · rw [if_neg c4] at H
        have c4b0 : decide (0 ≤ x6_1) = false := decide_eq_false c4
        clear c4
        simp only [Option.some.injEq, Prod.mk.injEq] at H
        obtain ⟨rfl, rfl, rfl⟩ := H
        go_wp2
        go_ret2
        exact ⟨by first | rfl | (simp [errW_none, errW_some] <;> rfl) | (simp [*, errW_none, errW_some] <;> rfl), by repeat (first | (with_reducible first | exact HI0.out | apply IsS35.alloc | apply IsS35.drewN | apply IsS35.drew | apply IsS35.set_1) | exact HI0.out), by repeat (first | (with_reducible first | exact HB.out | apply below_alloc | apply pw_below_drewN | apply below_drew1 | refine below_set ?_ (IsS35.ge HI0.out)) | exact HB.out), by repeat (first | (with_reducible first | exact HK.out | apply KeepBut.set_ | apply keep_drewN | apply keep_drew | apply keep_alloc) | exact HK.out)⟩

/-! ### hexaplalaw04_pick: function 32 -/
def hexaplalaw04_pick.f (a0 : Int) (a1 : Int) : Option (Int) := if a0 < 0 then (if a1 = 0 then (none) else (some (Int.tmod (wrap64 (-(wrap64 (a0 + 1)))) a1))) else (if a1 = 0 then (none) else (some (Int.tmod a0 a1)))
set_option maxHeartbeats 8000000 in
set_option maxRecDepth 100000 in
theorem hexaplalaw04_pick.calls (a0 : Int) (a1 : Int) (r : Int) (w : World) (h : hexaplalaw04_pick.f a0 a1 = some r) :
    Calls Tryd.prog 32 #[.int .i64 a0, .int .i64 a1] w fun e w' => e = .returned (.int .i64 r) ∧ Drawn0 w w' := by
  have H : (if a0 < 0 then (if a1 = 0 then (none) else (some (Int.tmod (wrap64 (-(wrap64 (a0 + 1)))) a1))) else (if a1 = 0 then (none) else (some (Int.tmod a0 a1)))) = some r := h
  clear h
  by_cases c3 : a0 < 0
  · rw [if_pos c3] at H
    have c3b0 : decide (a0 < 0) = true := decide_eq_true c3
    clear c3
    by_cases c4 : a1 = 0
    · rw [if_pos c4] at H
      exact absurd H (by simp)
    · rw [if_neg c4] at H
      have c4b0 : (a1 == 0) = false := beq_eq_false_iff_ne.mpr c4
      have c4b1 : (a1 != 0) = true := bne_iff_ne.mpr c4
      obtain rfl := Option.some.inj H
      go_enter Tryd.func32, Tryd.ntmps32
      go_wp2
      go_ret
      exact ⟨by first | rfl | (simp; done) | (simp [*]; done), by repeat (first | exact Drawn0.refl _ | apply Drawn0.step)⟩
  · rw [if_neg c3] at H
    have c3b0 : decide (a0 < 0) = false := decide_eq_false c3
    clear c3
    by_cases c5 : a1 = 0
    · rw [if_pos c5] at H
      exact absurd H (by simp)
    · rw [if_neg c5] at H
      have c5b0 : (a1 == 0) = false := beq_eq_false_iff_ne.mpr c5
      have c5b1 : (a1 != 0) = true := bne_iff_ne.mpr c5
      obtain rfl := Option.some.inj H
      go_enter Tryd.func32, Tryd.ntmps32
      go_wp2
      go_ret
      exact ⟨by first | rfl | (simp; done) | (simp [*]; done), by repeat (first | exact Drawn0.refl _ | apply Drawn0.step)⟩

end Go.Proofs.YticlppojbbocbaaDoor.PNamesScopes
