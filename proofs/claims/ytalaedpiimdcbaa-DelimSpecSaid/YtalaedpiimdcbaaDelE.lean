/- delim: the end of a cell, walked. -/
import Derived.Test.YtalaedpiimdcbaaDelN
namespace Go.Proofs.Ytalaedpiimdcbaa.Dl
open Go Go.Lib Go.RowKit Go.Proofs.YtalaedpiimdcbaaW.PrintWords Go.Proofs.YtalaedpiimdcbaaW.PrintLast Go.Proofs.Ytalaedpiimdcbaa.Own Go.Proofs.Ytalaedpiimdcbaa.Hp Go.Proofs.Ytalaedpiimdcbaa.Srcw Go.Proofs.Ytalaedpiimdcbaa.Cr
set_option linter.unusedVariables false
set_option linter.unusedSimpArgs false
/-- The machine and its core. -/
structure D2 (F : Nat → Prop) (w : World) (g gM gS : Nat) (m : MS) (c : CS) : Prop where
  m : IsM F w gM m
  c : IsC F w g gM gS c
section
variable {F F' G : Nat → Prop} {w w1 : World} {g gM gS : Nat} {m m' : MS} {c c' : CS}
theorem D2.mono (h : D2 F w g gM gS m c) (hF : ∀ k, F k → F' k) : D2 F' w g gM gS m c := ⟨h.m.mono hF, h.c.mono hF⟩
theorem D2.below (h : D2 F w g gM gS m c) (hb : Below w.heap.size w w1) : D2 F w1 g gM gS m c := ⟨h.m.below hb, h.c.below hb⟩
theorem D2.mach (h : D2 F w g gM gS m c) (hm : IsM (ext F w) w1 gM m') (hc : Ch machT F w w1) : D2 (ext F w) w1 g gM gS m' c := ⟨hm, (h.c.stay hc).mono (fun _ h => ext_of h)⟩
theorem D2.core (h : D2 F w g gM gS m c) (hm : IsC (ext F w) w1 g gM gS c') (hc : Ch coreT F w w1) : D2 (ext F w) w1 g gM gS m c' := ⟨(h.m.stay hc).mono (fun _ h => ext_of h), hm⟩
theorem D2.bound (h : D2 F w g gM gS m c) : D2 (fun k => F k ∧ k < w.heap.size) w g gM gS m c := ⟨h.m.bound, h.c.bound⟩
theorem D2.far (h : D2 F w g gM gS m c) {T : Option Nat → Prop} (hc : Ch T G w w1) (hd : ∀ k, F k → ¬ G k) : D2 F w1 g gM gS m c := ⟨h.m.far hc hd, h.c.far hc hd⟩
/-- One more doing: the owner's blocks as seen from the first world. -/
theorem ext2 {F : Nat → Prop} {w w1 : World} (h : w.heap.size ≤ w1.heap.size) : ∀ k, ext (ext F w) w1 k → ext F w k := fun k hk => ext_mono h hk
end
theorem reset_ {F : Nat → Prop} {w : World} {gM : Nat} {m : MS} {hv : Value} {A : Option Addr} {n : Nat} (hF : F gM) (h1 : w.heap[gM]? = some (.cells (machCells hv (.slice A m.cell.length n) m) 55 (0, 0)))
    (hr : Row F w 9 1 hv m.hdr.length (stC m.hdr)) (hb : Row F w 5 1 (.slice A m.cell.length n) m.cell.length (u8C m.cell)) (hmn : m.cell.length ≤ n) :
    IsM F ((w.setCell ⟨gM, 5, none⟩ (.slice A 0 n)).setCell ⟨gM, 0, none⟩ (.int .i64 0)) gM { m with cell := [], st := 0 } ∧ Ch machT F w ((w.setCell ⟨gM, 5, none⟩ (.slice A 0 n)).setCell ⟨gM, 0, none⟩ (.int .i64 0)) := by
  have hs : Ch (fun t => t = some 55) F w (w.setCell ⟨gM, 5, none⟩ (.slice A 0 n)) := Ch.set (T := fun t => t = some 55) h1 hF rfl 5 _
  have hp := blk_put (cs' := machCells hv (.slice A 0 n) { m with cell := [] }) h1 5 (.slice A 0 n) rfl
  have hi : IsM F (w.setCell ⟨gM, 5, none⟩ (.slice A 0 n)) gM { m with cell := [] } := ⟨hF, _, _, hp, hr.ch hs (by decide), by
    have h0 := (hb.ch hs (by decide)).take (m := 0) (c' := n) (Nat.zero_le _) (Nat.zero_le _) (Nat.le_refl _)
    rw [Nat.zero_mul, List.take_zero] at h0
    exact h0⟩
  have h2 := hi.put (m' := { m with cell := [], st := 0 }) 0 (.int .i64 0) (fun _ _ => rfl) rfl rfl
  exact ⟨h2.1, (hs.mono (fun t ht => by rw [ht]; exact not_coreM) (fun _ h => h)).trans (h2.2.mono (fun _ h => h) (fun _ h => ext_of h))⟩
def EndsPost (F : Nat → Prop) (w : World) (g gM gS : Nat) (m : MS) (c : CS) (r : MS × List Ev × Int) (e : Ending) (w' : World) : Prop :=
  e = .returned (.int .i64 r.2.2) ∧ D2 (ext F w) w' g gM gS r.1 { c with q := c.q ++ r.2.1 } ∧ Ch allT F w w'

section
variable {F : Nat → Prop} {w : World} {g gM gS : Nat} {m m' : MS} {c : CS} {key : ByteArray}
theorem fin7 (h0 : m.cells = 0) (hk : m.hdr.getD m.cells noT = key) (h : D2 F w g gM gS m' { c with q := ((c.q ++ [⟨7, ⟨#[]⟩, ⟨#[]⟩⟩]) ++ [⟨8, key, ⟨#[]⟩⟩]) ++ [⟨4, bs m.cell, ⟨#[]⟩⟩] }) : D2 F w g gM gS m' { c with q := c.q ++ cellE m } := by
  unfold cellE
  rw [if_pos h0, hk]
  simpa [List.append_assoc, ev, noT] using h
theorem fin8 (h0 : ¬ m.cells = 0) (hk : m.hdr.getD m.cells noT = key) (h : D2 F w g gM gS m' { c with q := (c.q ++ [⟨8, key, ⟨#[]⟩⟩]) ++ [⟨4, bs m.cell, ⟨#[]⟩⟩] }) : D2 F w g gM gS m' { c with q := c.q ++ cellE m } := by
  unfold cellE
  rw [if_neg h0, hk]
  simpa [List.append_assoc, ev, noT] using h
theorem finz7 (h0 : m.cells = 0) (hk : m.hdr.getD m.cells noT = key) (h : D2 F w g gM gS m' { c with q := (((c.q ++ [⟨7, ⟨#[]⟩, ⟨#[]⟩⟩]) ++ [⟨8, key, ⟨#[]⟩⟩]) ++ [⟨4, bs m.cell, ⟨#[]⟩⟩]) ++ [⟨9, ⟨#[]⟩, ⟨#[]⟩⟩] }) : D2 F w g gM gS m' { c with q := c.q ++ (cellE m ++ [ev 9 noT]) } := by
  unfold cellE
  rw [if_pos h0, hk]
  simpa [List.append_assoc, ev, noT] using h
theorem finz8 (h0 : ¬ m.cells = 0) (hk : m.hdr.getD m.cells noT = key) (h : D2 F w g gM gS m' { c with q := ((c.q ++ [⟨8, key, ⟨#[]⟩⟩]) ++ [⟨4, bs m.cell, ⟨#[]⟩⟩]) ++ [⟨9, ⟨#[]⟩, ⟨#[]⟩⟩] }) : D2 F w g gM gS m' { c with q := c.q ++ (cellE m ++ [ev 9 noT]) } := by
  unfold cellE
  rw [if_neg h0, hk]
  simpa [List.append_assoc, ev, noT] using h
end
set_option maxHeartbeats 8000000 in
set_option maxRecDepth 100000 in
theorem ends_calls {F : Nat → Prop} {w : World} {g gM gS : Nat} {m : MS} {c : CS} (more : Bool) (h : D2 F w g gM gS m c) (ho : MOK m) (hq : c.q.length ≤ 100000) :
    Calls Try.prog 61 #[ptr gM, .bool more, tellF g] w (EndsPost F w g gM gS m c (endsM m more)) := by
  have H := Aside0.mk h
  have HO := Aside0.mk ho
  have HQ := Aside0.mk hq
  obtain ⟨hv, cv, h1, h2, h3⟩ := h.m.mach
  obtain ⟨A3, n3, hv3, hle, _⟩ := h3.slice
  subst hv3
  have HLE := Aside0.mk hle
  have H1 := Aside0.mk h1
  have H2 := Aside0.mk h2
  have H3 := Aside0.mk h3
  have c5 : w.cell? ⟨gM, 5, none⟩ = some (.slice A3 m.cell.length n3) := (blk_cell h1 5).trans rfl
  clear h h1 h2 h3 ho hle
  go_enter Try.func61, Try.ntmps61
  go_wp2_with (refine rowstr_event rfl rfl rfl Try.underlying22 Try.underlying5 Try.underlying9 H3.out ?_)
  refine start_ (n := 18) (S := fun w' => w'.heap[gM]? = some (.cells (machCells hv (.slice A3 m.cell.length n3) m) 55 (0, 0))) (ds := [12, 13, 14, 15, 16, 17]) #[false, false, false, false, false, false, false, false, false, false, false, false, false, false, false, false, false, false] (by kernel_rfl) rfl rfl H1.out (fun hHeld => ?_)
  -- T13 := move (tmp 0) :52,
  refine pure_ (i := 0) (N := some 13) (v := ?_) (a' := ?_) #[true, false, false, false, false, false, false, false, false, false, false, false, false, false, false, false, false, false] rfl rfl (by kernel_rfl) (fun _ _ _ h => h) (Or.inl ⟨by rfl, ?_⟩) ?_ ?_
  rotate_left
  · intro w'
    go_simp
    with_reducible rfl
  rotate_left
  · simp only [Act.put, List.setIfInBounds_toArray, List.set_cons_zero, List.set_cons_succ]
    rfl
  -- T14 := move (tmp 0) :52,
  refine pure_ (i := 1) (N := some 14) (v := ?_) (a' := ?_) #[true, true, false, false, false, false, false, false, false, false, false, false, false, false, false, false, false, false] rfl rfl (by kernel_rfl) (fun _ _ _ h => h) (Or.inl ⟨by rfl, ?_⟩) ?_ ?_
  rotate_left
  · intro w'
    go_simp
    with_reducible rfl
  rotate_left
  · simp only [Act.put, List.setIfInBounds_toArray, List.set_cons_zero, List.set_cons_succ]
    rfl
  -- T15 := move (tmp 0) :52,
  refine pure_ (i := 2) (N := some 15) (v := ?_) (a' := ?_) #[true, true, true, false, false, false, false, false, false, false, false, false, false, false, false, false, false, false] rfl rfl (by kernel_rfl) (fun _ _ _ h => h) (Or.inl ⟨by rfl, ?_⟩) ?_ ?_
  rotate_left
  · intro w'
    go_simp
    with_reducible rfl
  rotate_left
  · simp only [Act.put, List.setIfInBounds_toArray, List.set_cons_zero, List.set_cons_succ]
    rfl
  -- T16 := nilCheck (tmp 15) :0,
  refine pure_ (i := 3) (N := some 16) (v := ?_) (a' := ?_) #[true, true, true, true, false, false, false, false, false, false, false, false, false, false, false, false, false, false] rfl rfl (by kernel_rfl) (fun _ _ _ h => h) (Or.inl ⟨by rfl, ?_⟩) ?_ ?_
  rotate_left
  · intro w'
    go_simp
    with_reducible rfl
  rotate_left
  · simp only [Act.put, List.setIfInBounds_toArray, List.set_cons_zero, List.set_cons_succ]
    rfl
  -- T17 := fieldAddr 55 (tmp 16) 5 :0,
  refine pure_ (i := 4) (N := some 17) (v := ?_) (a' := ?_) #[true, true, true, true, true, false, false, false, false, false, false, false, false, false, false, false, false, false] rfl rfl (by kernel_rfl) (fun _ _ _ h => h) (Or.inl ⟨by rfl, ?_⟩) ?_ ?_
  rotate_left
  · intro w'
    go_simp
    with_reducible rfl
  rotate_left
  · simp only [Act.put, List.setIfInBounds_toArray, List.set_cons_zero, List.set_cons_succ]
    rfl
  -- T19 := move (tmp 0) :52,
  refine pure_ (i := 6) (N := some 19) (v := ?_) (a' := ?_) #[true, true, true, true, true, false, true, false, false, false, false, false, false, false, false, false, false, false] rfl rfl (by kernel_rfl) (fun _ _ _ h => h) (Or.inl ⟨by rfl, ?_⟩) ?_ ?_
  rotate_left
  · intro w'
    go_simp
    with_reducible rfl
  rotate_left
  · simp only [Act.put, List.setIfInBounds_toArray, List.set_cons_zero, List.set_cons_succ]
    rfl
  -- T20 := nilCheck (tmp 19) :0,
  refine pure_ (i := 7) (N := some 20) (v := ?_) (a' := ?_) #[true, true, true, true, true, false, true, true, false, false, false, false, false, false, false, false, false, false] rfl rfl (by kernel_rfl) (fun _ _ _ h => h) (Or.inl ⟨by rfl, ?_⟩) ?_ ?_
  rotate_left
  · intro w'
    go_simp
    with_reducible rfl
  rotate_left
  · simp only [Act.put, List.setIfInBounds_toArray, List.set_cons_zero, List.set_cons_succ]
    rfl
  -- T21 := fieldAddr 55 (tmp 20) 5 :0,
  refine pure_ (i := 8) (N := some 21) (v := ?_) (a' := ?_) #[true, true, true, true, true, false, true, true, true, false, false, false, false, false, false, false, false, false] rfl rfl (by kernel_rfl) (fun _ _ _ h => h) (Or.inl ⟨by rfl, ?_⟩) ?_ ?_
  rotate_left
  · intro w'
    go_simp
    with_reducible rfl
  rotate_left
  · simp only [Act.put, List.setIfInBounds_toArray, List.set_cons_zero, List.set_cons_succ]
    rfl
  -- T18 := load 22 (tmp 17) :22,
  refine take_ (i := 5) (N := some 18) (v := ?_) (a' := ?_) #[true, true, true, true, true, true, true, true, true, false, false, false, false, false, false, false, false, false] rfl rfl (by kernel_rfl) (fun _ _ _ h => h) (Or.inl ⟨by rfl, ?_⟩) hHeld ?_ ?_
  rotate_left
  · intro w' hw'
    have d5 : w'.cell? ⟨gM, 5, none⟩ = some (.slice A3 m.cell.length n3) := (blk_cell hw' 5).trans rfl
    go_simp
    with_reducible rfl
  rotate_left
  · simp only [Act.put, List.setIfInBounds_toArray, List.set_cons_zero, List.set_cons_succ]
    rfl
  -- T22 := load 22 (tmp 21) :22,
  refine take_ (i := 9) (N := some 22) (v := ?_) (a' := ?_) #[true, true, true, true, true, true, true, true, true, true, false, false, false, false, false, false, false, false] rfl rfl (by kernel_rfl) (fun _ _ _ h => h) (Or.inl ⟨by rfl, ?_⟩) hHeld ?_ ?_
  rotate_left
  · intro w' hw'
    have d5 : w'.cell? ⟨gM, 5, none⟩ = some (.slice A3 m.cell.length n3) := (blk_cell hw' 5).trans rfl
    go_simp
    with_reducible rfl
  rotate_left
  · simp only [Act.put, List.setIfInBounds_toArray, List.set_cons_zero, List.set_cons_succ]
    rfl
  -- T23 := call { callee := builtin Builtin.cap, args := #[tmp 22], argTypes := #[22] :3 },
  refine pure_ (i := 10) (N := some 23) (v := ?_) (a' := ?_) #[true, true, true, true, true, true, true, true, true, true, true, false, false, false, false, false, false, false] rfl rfl (by kernel_rfl) (fun _ _ _ h => h) (Or.inl ⟨by rfl, ?_⟩) ?_ ?_
  rotate_left
  · intro w'
    go_simp
    with_reducible rfl
  rotate_left
  · simp only [Act.put, List.setIfInBounds_toArray, List.set_cons_zero, List.set_cons_succ]
    rfl
  -- T24 := slice 22 (tmp 18) none (some (const (int i64 0))) (some (tmp 23)) :22,
  refine pure_ (i := 11) (N := some 24) (v := ?_) (a' := ?_) #[true, true, true, true, true, true, true, true, true, true, true, true, false, false, false, false, false, false] rfl rfl (by kernel_rfl) (fun _ _ _ h => h) (Or.inl ⟨by rfl, ?_⟩) ?_ ?_
  rotate_left
  · intro w'
    go_simp
    with_reducible rfl
  rotate_left
  · simp only [Act.put, List.setIfInBounds_toArray, List.set_cons_zero, List.set_cons_succ]
    rfl
  refine tailI_ [12, 13, 14, 15, 16, 17] (by kernel_rfl) (by decide) rfl ?_
  simp only [List.filterMap_cons, List.filterMap_nil]
  have B1 := Aside0.mk (below_drew (Below.refl w.heap.size w))
  have RS := Aside0.mk (reset_ (w := w.drew) H.out.m.fM ((B1.out.block gM H.out.m.lt).trans H1.out) (H2.out.below B1.out) (H3.out.below B1.out) HLE.out)
  have K1 := Aside0.mk ((B1.out.block gM H.out.m.lt).trans H1.out)
  have KC := Aside0.mk (H.out.c.below B1.out)
  generalize w.drew = w1 at B1 RS K1 KC ⊢
  clear c5
  have d5 := (blk_cell K1.out 5).trans rfl
  have e5 := blk_frozen K1.out 5
  have K2 := Aside0.mk (blk_put (cs' := machCells hv (.slice A3 0 n3) { m with cell := [] }) K1.out 5 (.slice A3 0 n3) rfl)
  have d0 := (blk_cell K2.out 0).trans rfl
  have e0 := blk_frozen K2.out 0
  have RC := Aside0.mk ((KC.out.stay RS.out.2))
  have RCH := Aside0.mk ((Ch.of_below B1.out : Ch machT F w w1).trans (RS.out.2.mono (fun _ h => h) (fun _ h => ext_of h)))
  cases hn : m.named with
  | false =>
    have HG := Aside0.mk (show endsM m more = ((namesM { m with cell := [], st := 0 } (bs m.cell) more).1, [], (namesM { m with cell := [], st := 0 } (bs m.cell) more).2) by unfold endsM; rw [if_pos hn])
    have d4 : w1.cell? ⟨gM, 4, none⟩ = some (.bool false) := by rw [← hn]; exact (blk_cell K1.out 4).trans rfl
    clear hn
    go_wp2_with (go_at_call 62; refine (names_calls (bs m.cell) more RS.out.1 HO.out.hdr).mono ?_; rintro e w3 ⟨rfl, hm, hc⟩; have M3 := Aside0.mk hm; have C3 := Aside0.mk hc; clear hm hc)
    go_ret
    rw [HG.out]
    refine ⟨rfl, ⟨M3.out.mono (fun k hk => ?_), ?_⟩, (Ch.mach_all RCH.out).trans ((Ch.mach_all C3.out).mono (fun _ h => h) (fun _ h => ext_of h))⟩
    · rcases hk with hk | hk
      · exact .inl hk
      · exact .inr (Nat.le_trans RCH.out.size hk)
    · rw [List.append_nil]
      exact (RC.out.stay C3.out).mono (fun _ h => ext_of h)
  | true =>
    have HN := Aside0.mk hn
    have d4 : w1.cell? ⟨gM, 4, none⟩ = some (.bool true) := by rw [← hn]; exact (blk_cell K1.out 4).trans rfl
    clear hn
    have DRS := Aside0.mk (show D2 (ext F w) _ g gM gS _ c from ⟨RS.out.1.mono (fun _ h => ext_of h), RC.out.mono (fun _ h => ext_of h)⟩)
    by_cases h0 : m.cells = 0
    · have d6' : w1.cell? ⟨gM, 6, none⟩ = some (.int .i64 (m.cells : Int)) := (blk_cell K1.out 6).trans rfl
      have d6 : w1.cell? ⟨gM, 6, none⟩ = some (.int .i64 0) := by rw [d6', h0]; rfl
      clear d6'
      have H0 := Aside0.mk h0
      clear h0
      go_wp2_with fail
      refine (tell3 7 ⟨#[]⟩ ⟨#[]⟩ DRS.out.c (by have := HQ.out; omega)).mono ?_
      rintro e w3 ⟨rfl, hc3, hh3⟩
      have D3 := Aside0.mk ((DRS.out.core hc3 hh3).mono (ext2 RCH.out.size))
      have CH3 := Aside0.mk ((Ch.mach_all RCH.out).trans (Ch.core_all hh3))
      clear hc3 hh3 d4 d6 d5 e5 d0 e0
      go_wp2_with fail
      obtain ⟨hv3, cv3, k3, kh, kc⟩ := D3.out.m.mach
      have hat := HO.out.at_ HN.out
      obtain ⟨b, o, n4, hv4, hn4, _, hcell, _⟩ := kh.open_ (show m.hdr.length ≠ 0 by omega)
      subst hv4
      have K3 := Aside0.mk k3
      have x3 : w3.cell? ⟨gM, 3, none⟩ = some (.slice (some ⟨b, o, none⟩) m.hdr.length n4) := (blk_cell k3 3).trans rfl
      have x6 : w3.cell? ⟨gM, 6, none⟩ = some (.int .i64 (m.cells : Int)) := (blk_cell k3 6).trans rfl
      have xs := hcell m.cells _ (stC_get m.hdr m.cells hat)
      have HKY := Aside0.mk (show m.hdr.getD m.cells noT = m.hdr[m.cells] by rw [List.getD_eq_getElem?_getD, List.getElem?_eq_getElem hat]; rfl)
      generalize m.hdr[m.cells] = key at xs HKY
      have hl8 := HO.out.hdr
      have HAT := Aside0.mk hat
      have y1 : decide ((m.cells : Int) < (m.hdr.length : Int)) = true := decide_eq_true (by omega)
      have y2 : decide (m.cells < m.hdr.length) = true := decide_eq_true hat
      have y3 : (0 : Int) ≤ (m.cells : Int) := by omega
      have y4 : (m.cells : Int) < (m.hdr.length : Int) := by omega
      clear hcell k3 kh kc hat
      refine wp_region_still_tail 12 (by kernel_rfl) (by kernel_rfl) ?_
      simp only [List.take_succ_cons, List.take_zero, List.drop_succ_cons, List.drop_zero]
      iterate 12 still_step
      refine wpStill_nil ?_
      change wpList _ _ _ _ _ w3.drew
      have D4 := Aside0.mk (D3.out.below (below_drew (Below.refl w3.heap.size w3)))
      have CH4 := Aside0.mk (CH3.out.trans (Ch.of_below (below_drew (Below.refl w3.heap.size w3))))
      generalize w3.drew = w4 at D4 CH4 ⊢
      clear x3 x6 xs
      go_wp2_with fail
      refine (tell3 8 key ⟨#[]⟩ D4.out.c (by have := HQ.out; (try simp only [List.length_append, List.length_cons, List.length_nil]); omega)).mono ?_
      rintro e w5 ⟨rfl, hc5, hh5⟩
      have D5 := Aside0.mk ((D4.out.core hc5 hh5).mono (ext2 CH4.out.size))
      have CH5 := Aside0.mk (CH4.out.trans ((Ch.core_all hh5)))
      clear hc5 hh5
      go_wp2_with fail
      refine (tell3 4 (bs m.cell) ⟨#[]⟩ D5.out.c (by have := HQ.out; (try simp only [List.length_append, List.length_cons, List.length_nil]); omega)).mono ?_
      rintro e w6 ⟨rfl, hc6, hh6⟩
      have D6 := Aside0.mk ((D5.out.core hc6 hh6).mono (ext2 CH5.out.size))
      have CH6 := Aside0.mk (CH5.out.trans ((Ch.core_all hh6)))
      clear hc6 hh6
      obtain ⟨hv6, cv6, k6, kh6, _⟩ := D6.out.m.mach
      obtain ⟨A6, n6, hv7, _, _⟩ := kh6.slice
      subst hv7
      have x6 : w6.cell? ⟨gM, 6, none⟩ = some (.int .i64 (m.cells : Int)) := (blk_cell k6 6).trans rfl
      have f6 := blk_frozen k6 6
      have P6 := Aside0.mk (D6.out.m.put (m' := { m with cell := [], st := 0, cells := m.cells + 1 }) 6 (.int .i64 ((m.cells : Int) + 1)) (fun _ _ => by unfold machCells; rw [show ((m.cells + 1 : Nat) : Int) = (m.cells : Int) + 1 by push_cast; rfl]; rfl) rfl rfl)
      have x3 : (w6.setCell ⟨gM, 6, none⟩ (.int .i64 ((m.cells : Int) + 1))).cell? ⟨gM, 3, none⟩ = some (.slice A6 m.hdr.length n6) := by
        obtain ⟨hv8, cv8, k8, kh8, _⟩ := P6.out.1.mach
        have hb := blk_put k6 6 (.int .i64 ((m.cells : Int) + 1)) rfl
        exact (blk_cell hb 3).trans rfl
      have z6 : (w6.setCell ⟨gM, 6, none⟩ (.int .i64 ((m.cells : Int) + 1))).cell? ⟨gM, 6, none⟩ = some (.int .i64 ((m.cells : Int) + 1)) := by
        have hb := blk_put k6 6 (.int .i64 ((m.cells : Int) + 1)) rfl
        exact (blk_cell hb 6).trans rfl
      have y5 : wrap64 ((m.cells : Int) + 1) = (m.cells : Int) + 1 := w64 (by omega) (by omega)
      clear k6 kh6
      have D7 := Aside0.mk ((D6.out.mach (P6.out.1.mono (fun _ h => ext_of h)) P6.out.2).mono (ext2 CH6.out.size))
      have CH7 := Aside0.mk (CH6.out.trans (Ch.mach_all P6.out.2))
      go_wp2_with fail
      generalize w6.setCell ⟨gM, 6, none⟩ (.int .i64 ((m.cells : Int) + 1)) = w7 at x3 z6 D7 CH7 ⊢
      clear x6 f6 y1 y2 y3 y4 y5
      cases more with
      | true =>
        by_cases hc : m.cells + 1 < m.hdr.length
        · have HG := Aside0.mk (show endsM m true = ({ m with cell := [], st := 0, cells := m.cells + 1 }, cellE m, 0) by unfold endsM; rw [if_neg (by rw [HN.out]; decide), if_pos rfl, if_pos hc])
          have t1 : decide ((m.cells : Int) + 1 < (m.hdr.length : Int)) = true := decide_eq_true (by omega)
          clear hc
          go_quiet (fail)
          go_wp2
          go_ret
          rw [HG.out]
          exact ⟨rfl, fin7 H0.out HKY.out (D7.out.below (pw_below_drewN (Below.refl _ _) nq)), CH7.out.trans (Ch.of_below (pw_below_drewN (Below.refl _ _) _))⟩
        · have HG := Aside0.mk (show endsM m true = ({ m with cell := [], st := 0, cells := m.cells + 1 }, cellE m, 17) by unfold endsM; rw [if_neg (by rw [HN.out]; decide), if_pos rfl, if_neg hc])
          have t1 : decide ((m.cells : Int) + 1 < (m.hdr.length : Int)) = false := decide_eq_false (by omega)
          clear hc
          go_quiet (fail)
          go_wp2
          go_ret
          rw [HG.out]
          exact ⟨rfl, fin7 H0.out HKY.out (D7.out.below (pw_below_drewN (Below.refl _ _) nq)), CH7.out.trans (Ch.of_below (pw_below_drewN (Below.refl _ _) _))⟩
      | false =>
        by_cases hc : m.cells + 1 < m.hdr.length
        · have HG := Aside0.mk (show endsM m false = ({ m with cell := [], st := 0, cells := m.cells + 1 }, cellE m, 17) by unfold endsM; rw [if_neg (by rw [HN.out]; decide), if_neg (by decide), if_pos hc])
          have t1 : decide ((m.cells : Int) + 1 < (m.hdr.length : Int)) = true := decide_eq_true (by omega)
          clear hc
          go_quiet (fail)
          go_wp2
          go_ret
          rw [HG.out]
          exact ⟨rfl, fin7 H0.out HKY.out (D7.out.below (pw_below_drewN (Below.refl _ _) nq)), CH7.out.trans (Ch.of_below (pw_below_drewN (Below.refl _ _) _))⟩
        · have HG := Aside0.mk (show endsM m false = ({ m with cell := [], st := 0, cells := 0, row := false }, cellE m ++ [ev 9 noT], 0) by unfold endsM; rw [if_neg (by rw [HN.out]; decide), if_neg (by decide), if_neg hc])
          have t1 : decide ((m.cells : Int) + 1 < (m.hdr.length : Int)) = false := decide_eq_false (by omega)
          clear hc
          go_quiet (fail)
          have D8 := Aside0.mk (D7.out.below (pw_below_drewN (Below.refl w7.heap.size w7) nq))
          have CH8 := Aside0.mk (CH7.out.trans (Ch.of_below (pw_below_drewN (Below.refl w7.heap.size w7) nq)))
          generalize w7.drewN nq = w8 at D8 CH8 ⊢
          clear x3 z6 t1
          go_wp2_with fail
          refine (tell3 9 ⟨#[]⟩ ⟨#[]⟩ D8.out.c (by have := HQ.out; (try simp only [List.length_append, List.length_cons, List.length_nil]); omega)).mono ?_
          rintro e w9 ⟨rfl, hc9, hh9⟩
          have D9 := Aside0.mk ((D8.out.core hc9 hh9).mono (ext2 CH8.out.size))
          have CH9 := Aside0.mk (CH8.out.trans (Ch.core_all hh9))
          clear hc9 hh9
          obtain ⟨hv9, cv9, k9, _, _⟩ := D9.out.m.mach
          have z6 := (blk_cell k9 6).trans rfl
          have f6 := blk_frozen k9 6
          have P9 := D9.out.m.put (m' := { m with cell := [], st := 0, cells := 0 }) 6 (.int .i64 0) (fun _ _ => rfl) rfl rfl
          obtain ⟨hv10, cv10, k10, _, _⟩ := P9.1.mach
          have z2 := (blk_cell k10 2).trans rfl
          have f2 := blk_frozen k10 2
          have P10 := P9.1.put (m' := { m with cell := [], st := 0, cells := 0, row := false }) 2 (.bool false) (fun _ _ => rfl) rfl rfl
          have D11 := Aside0.mk (show D2 (ext F w) _ g gM gS _ _ from ⟨P10.1, (D9.out.c.stay P9.2).stay P10.2⟩)
          have CH11 := Aside0.mk ((CH9.out.trans (Ch.mach_all P9.2)).trans (Ch.mach_all P10.2))
          clear P9 P10 k9 k10
          go_wp2
          go_ret
          rw [HG.out]
          refine ⟨rfl, finz7 H0.out HKY.out D11.out, CH11.out⟩
    · have d6 : w1.cell? ⟨gM, 6, none⟩ = some (.int .i64 (m.cells : Int)) := (blk_cell K1.out 6).trans rfl
      have H0 := Aside0.mk h0
      have y0 : ((m.cells : Int) == 0) = false := by rw [beq_eq_false_iff_ne]; omega
      have y0' : decide ((m.cells : Int) = 0) = false := decide_eq_false (by omega)
      clear h0
      go_wp2_with fail
      have D3 := Aside0.mk DRS.out
      have CH3 := Aside0.mk (Ch.mach_all RCH.out)
      clear d4 d6 d5 e5 d0 e0 y0 y0'
      generalize (w1.setCell ⟨gM, 5, none⟩ (.slice A3 0 n3)).setCell ⟨gM, 0, none⟩ (.int .i64 0) = w3 at D3 CH3 ⊢
      obtain ⟨hv3, cv3, k3, kh, kc⟩ := D3.out.m.mach
      have hat := HO.out.at_ HN.out
      obtain ⟨b, o, n4, hv4, hn4, _, hcell, _⟩ := kh.open_ (show m.hdr.length ≠ 0 by omega)
      subst hv4
      have K3 := Aside0.mk k3
      have x3 : w3.cell? ⟨gM, 3, none⟩ = some (.slice (some ⟨b, o, none⟩) m.hdr.length n4) := (blk_cell k3 3).trans rfl
      have x6 : w3.cell? ⟨gM, 6, none⟩ = some (.int .i64 (m.cells : Int)) := (blk_cell k3 6).trans rfl
      have xs := hcell m.cells _ (stC_get m.hdr m.cells hat)
      have HKY := Aside0.mk (show m.hdr.getD m.cells noT = m.hdr[m.cells] by rw [List.getD_eq_getElem?_getD, List.getElem?_eq_getElem hat]; rfl)
      generalize m.hdr[m.cells] = key at xs HKY
      have hl8 := HO.out.hdr
      have HAT := Aside0.mk hat
      have y1 : decide ((m.cells : Int) < (m.hdr.length : Int)) = true := decide_eq_true (by omega)
      have y2 : decide (m.cells < m.hdr.length) = true := decide_eq_true hat
      have y3 : (0 : Int) ≤ (m.cells : Int) := by omega
      have y4 : (m.cells : Int) < (m.hdr.length : Int) := by omega
      clear hcell k3 kh kc hat
      refine wp_region_still_tail 12 (by kernel_rfl) (by kernel_rfl) ?_
      simp only [List.take_succ_cons, List.take_zero, List.drop_succ_cons, List.drop_zero]
      iterate 12 still_step
      refine wpStill_nil ?_
      change wpList _ _ _ _ _ w3.drew
      have D4 := Aside0.mk (D3.out.below (below_drew (Below.refl w3.heap.size w3)))
      have CH4 := Aside0.mk (CH3.out.trans (Ch.of_below (below_drew (Below.refl w3.heap.size w3))))
      generalize w3.drew = w4 at D4 CH4 ⊢
      clear x3 x6 xs
      go_wp2_with fail
      refine (tell3 8 key ⟨#[]⟩ D4.out.c (by have := HQ.out; (try simp only [List.length_append, List.length_cons, List.length_nil]); omega)).mono ?_
      rintro e w5 ⟨rfl, hc5, hh5⟩
      have D5 := Aside0.mk ((D4.out.core hc5 hh5).mono (ext2 CH4.out.size))
      have CH5 := Aside0.mk (CH4.out.trans ((Ch.core_all hh5)))
      clear hc5 hh5
      go_wp2_with fail
      refine (tell3 4 (bs m.cell) ⟨#[]⟩ D5.out.c (by have := HQ.out; (try simp only [List.length_append, List.length_cons, List.length_nil]); omega)).mono ?_
      rintro e w6 ⟨rfl, hc6, hh6⟩
      have D6 := Aside0.mk ((D5.out.core hc6 hh6).mono (ext2 CH5.out.size))
      have CH6 := Aside0.mk (CH5.out.trans ((Ch.core_all hh6)))
      clear hc6 hh6
      obtain ⟨hv6, cv6, k6, kh6, _⟩ := D6.out.m.mach
      obtain ⟨A6, n6, hv7, _, _⟩ := kh6.slice
      subst hv7
      have x6 : w6.cell? ⟨gM, 6, none⟩ = some (.int .i64 (m.cells : Int)) := (blk_cell k6 6).trans rfl
      have f6 := blk_frozen k6 6
      have P6 := Aside0.mk (D6.out.m.put (m' := { m with cell := [], st := 0, cells := m.cells + 1 }) 6 (.int .i64 ((m.cells : Int) + 1)) (fun _ _ => by unfold machCells; rw [show ((m.cells + 1 : Nat) : Int) = (m.cells : Int) + 1 by push_cast; rfl]; rfl) rfl rfl)
      have x3 : (w6.setCell ⟨gM, 6, none⟩ (.int .i64 ((m.cells : Int) + 1))).cell? ⟨gM, 3, none⟩ = some (.slice A6 m.hdr.length n6) := by
        obtain ⟨hv8, cv8, k8, kh8, _⟩ := P6.out.1.mach
        have hb := blk_put k6 6 (.int .i64 ((m.cells : Int) + 1)) rfl
        exact (blk_cell hb 3).trans rfl
      have z6 : (w6.setCell ⟨gM, 6, none⟩ (.int .i64 ((m.cells : Int) + 1))).cell? ⟨gM, 6, none⟩ = some (.int .i64 ((m.cells : Int) + 1)) := by
        have hb := blk_put k6 6 (.int .i64 ((m.cells : Int) + 1)) rfl
        exact (blk_cell hb 6).trans rfl
      have y5 : wrap64 ((m.cells : Int) + 1) = (m.cells : Int) + 1 := w64 (by omega) (by omega)
      clear k6 kh6
      have D7 := Aside0.mk ((D6.out.mach (P6.out.1.mono (fun _ h => ext_of h)) P6.out.2).mono (ext2 CH6.out.size))
      have CH7 := Aside0.mk (CH6.out.trans (Ch.mach_all P6.out.2))
      go_wp2_with fail
      generalize w6.setCell ⟨gM, 6, none⟩ (.int .i64 ((m.cells : Int) + 1)) = w7 at x3 z6 D7 CH7 ⊢
      clear x6 f6 y1 y2 y3 y4 y5
      cases more with
      | true =>
        by_cases hc : m.cells + 1 < m.hdr.length
        · have HG := Aside0.mk (show endsM m true = ({ m with cell := [], st := 0, cells := m.cells + 1 }, cellE m, 0) by unfold endsM; rw [if_neg (by rw [HN.out]; decide), if_pos rfl, if_pos hc])
          have t1 : decide ((m.cells : Int) + 1 < (m.hdr.length : Int)) = true := decide_eq_true (by omega)
          clear hc
          go_quiet (fail)
          go_wp2
          go_ret
          rw [HG.out]
          exact ⟨rfl, fin8 H0.out HKY.out (D7.out.below (pw_below_drewN (Below.refl _ _) nq)), CH7.out.trans (Ch.of_below (pw_below_drewN (Below.refl _ _) _))⟩
        · have HG := Aside0.mk (show endsM m true = ({ m with cell := [], st := 0, cells := m.cells + 1 }, cellE m, 17) by unfold endsM; rw [if_neg (by rw [HN.out]; decide), if_pos rfl, if_neg hc])
          have t1 : decide ((m.cells : Int) + 1 < (m.hdr.length : Int)) = false := decide_eq_false (by omega)
          clear hc
          go_quiet (fail)
          go_wp2
          go_ret
          rw [HG.out]
          exact ⟨rfl, fin8 H0.out HKY.out (D7.out.below (pw_below_drewN (Below.refl _ _) nq)), CH7.out.trans (Ch.of_below (pw_below_drewN (Below.refl _ _) _))⟩
      | false =>
        by_cases hc : m.cells + 1 < m.hdr.length
        · have HG := Aside0.mk (show endsM m false = ({ m with cell := [], st := 0, cells := m.cells + 1 }, cellE m, 17) by unfold endsM; rw [if_neg (by rw [HN.out]; decide), if_neg (by decide), if_pos hc])
          have t1 : decide ((m.cells : Int) + 1 < (m.hdr.length : Int)) = true := decide_eq_true (by omega)
          clear hc
          go_quiet (fail)
          go_wp2
          go_ret
          rw [HG.out]
          exact ⟨rfl, fin8 H0.out HKY.out (D7.out.below (pw_below_drewN (Below.refl _ _) nq)), CH7.out.trans (Ch.of_below (pw_below_drewN (Below.refl _ _) _))⟩
        · have HG := Aside0.mk (show endsM m false = ({ m with cell := [], st := 0, cells := 0, row := false }, cellE m ++ [ev 9 noT], 0) by unfold endsM; rw [if_neg (by rw [HN.out]; decide), if_neg (by decide), if_neg hc])
          have t1 : decide ((m.cells : Int) + 1 < (m.hdr.length : Int)) = false := decide_eq_false (by omega)
          clear hc
          go_quiet (fail)
          have D8 := Aside0.mk (D7.out.below (pw_below_drewN (Below.refl w7.heap.size w7) nq))
          have CH8 := Aside0.mk (CH7.out.trans (Ch.of_below (pw_below_drewN (Below.refl w7.heap.size w7) nq)))
          generalize w7.drewN nq = w8 at D8 CH8 ⊢
          clear x3 z6 t1
          go_wp2_with fail
          refine (tell3 9 ⟨#[]⟩ ⟨#[]⟩ D8.out.c (by have := HQ.out; (try simp only [List.length_append, List.length_cons, List.length_nil]); omega)).mono ?_
          rintro e w9 ⟨rfl, hc9, hh9⟩
          have D9 := Aside0.mk ((D8.out.core hc9 hh9).mono (ext2 CH8.out.size))
          have CH9 := Aside0.mk (CH8.out.trans (Ch.core_all hh9))
          clear hc9 hh9
          obtain ⟨hv9, cv9, k9, _, _⟩ := D9.out.m.mach
          have z6 := (blk_cell k9 6).trans rfl
          have f6 := blk_frozen k9 6
          have P9 := D9.out.m.put (m' := { m with cell := [], st := 0, cells := 0 }) 6 (.int .i64 0) (fun _ _ => rfl) rfl rfl
          obtain ⟨hv10, cv10, k10, _, _⟩ := P9.1.mach
          have z2 := (blk_cell k10 2).trans rfl
          have f2 := blk_frozen k10 2
          have P10 := P9.1.put (m' := { m with cell := [], st := 0, cells := 0, row := false }) 2 (.bool false) (fun _ _ => rfl) rfl rfl
          have D11 := Aside0.mk (show D2 (ext F w) _ g gM gS _ _ from ⟨P10.1, (D9.out.c.stay P9.2).stay P10.2⟩)
          have CH11 := Aside0.mk ((CH9.out.trans (Ch.mach_all P9.2)).trans (Ch.mach_all P10.2))
          clear P9 P10 k9 k10
          go_wp2
          go_ret
          rw [HG.out]
          refine ⟨rfl, finz8 H0.out HKY.out D11.out, CH11.out⟩
end Go.Proofs.Ytalaedpiimdcbaa.Dl
