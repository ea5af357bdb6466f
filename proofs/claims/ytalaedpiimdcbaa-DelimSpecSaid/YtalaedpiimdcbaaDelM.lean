/- delim: its machine in memory; says, names, walked. -/
import Derived.Test.YtalaedpiimdcbaaDelF
import Derived.Test.YtalaedpiimdcbaaCore
namespace Go.Proofs.Ytalaedpiimdcbaa.Dl
open Go Go.Lib Go.RowKit Go.Proofs.YtalaedpiimdcbaaW.PrintWords Go.Proofs.YtalaedpiimdcbaaW.PrintLast Go.Proofs.Ytalaedpiimdcbaa.Own Go.Proofs.Ytalaedpiimdcbaa.Hp Go.Proofs.Ytalaedpiimdcbaa.Srcw Go.Proofs.Ytalaedpiimdcbaa.Cr
set_option linter.unusedVariables false
set_option linter.unusedSimpArgs false
def machCells (hv cv : Value) (m : MS) : Array Value := #[.int .i64 m.st, .bool m.started, .bool m.row, hv, .bool m.named, cv, .int .i64 (m.cells : Int)]
structure IsM (F : Nat → Prop) (w : World) (gM : Nat) (m : MS) : Prop where
  fM : F gM
  mach : ∃ hv cv, w.heap[gM]? = some (.cells (machCells hv cv m) 55 (0, 0)) ∧ Row F w 9 1 hv m.hdr.length (stC m.hdr) ∧ Row F w 5 1 cv m.cell.length (u8C m.cell)
section
variable {F F' G : Nat → Prop} {w w1 : World} {gM : Nat} {m : MS}
theorem not_coreM : ¬ coreT (some 55) := by unfold coreT; decide
theorem not_coreS : ¬ coreT (some 9) := by unfold coreT; decide
theorem not_coreB : ¬ coreT (some 5) := by unfold coreT; decide
theorem IsM.lt (h : IsM F w gM m) : gM < w.heap.size := by obtain ⟨hv, cv, h1, _⟩ := h.mach; exact blk_lt h1
theorem IsM.mono (h : IsM F w gM m) (hF : ∀ k, F k → F' k) : IsM F' w gM m := by
  obtain ⟨hv, cv, h1, h2, h3⟩ := h.mach
  exact ⟨hF _ h.fM, hv, cv, h1, h2.mono hF, h3.mono hF⟩
/-- The core's doings leave the machine. -/
theorem IsM.stay (h : IsM F w gM m) (hc : Ch coreT G w w1) : IsM F w1 gM m := by
  obtain ⟨hv, cv, h1, h2, h3⟩ := h.mach
  exact ⟨h.fM, hv, cv, hc.blk h1 (fun h4 => not_coreM h4.2), h2.ch hc not_coreS, h3.ch hc not_coreB⟩
theorem IsM.far (h : IsM F w gM m) {T : Option Nat → Prop} (hc : Ch T G w w1) (hd : ∀ k, F k → ¬ G k) : IsM F w1 gM m := by
  obtain ⟨hv, cv, h1, h2, h3⟩ := h.mach
  exact ⟨h.fM, hv, cv, hc.blk h1 (fun h4 => hd _ h.fM h4.1), h2.far hc hd, h3.far hc hd⟩
theorem IsM.below (h : IsM F w gM m) (hb : Below w.heap.size w w1) : IsM F w1 gM m := h.far (G := fun _ => False) (T := fun _ => False) (Ch.of_below hb) (fun _ _ h => h)
theorem IsM.bound (h : IsM F w gM m) : IsM (fun k => F k ∧ k < w.heap.size) w gM m := by
  obtain ⟨hv, cv, h1, h2, h3⟩ := h.mach
  exact ⟨⟨h.fM, h.lt⟩, hv, cv, h1, h2.bound, h3.bound⟩
/-- One of the machine's own cells set. -/
theorem IsM.put (h : IsM F w gM m) {m' : MS} (i : Nat) (v : Value) (he : ∀ hv cv, (machCells hv cv m).setIfInBounds i v = machCells hv cv m') (hh : m'.hdr = m.hdr) (hc : m'.cell = m.cell) :
    IsM F (w.setCell ⟨gM, i, none⟩ v) gM m' ∧ Ch machT F w (w.setCell ⟨gM, i, none⟩ v) := by
  obtain ⟨hv, cv, h1, h2, h3⟩ := h.mach
  have hs : Ch (fun t => t = some 55) F w (w.setCell ⟨gM, i, none⟩ v) := Ch.set (T := fun t => t = some 55) h1 h.fM rfl i v
  refine ⟨⟨h.fM, hv, cv, blk_put h1 i v (he hv cv), ?_, ?_⟩, hs.mono (fun t ht => by rw [ht]; exact not_coreM) (fun _ h => h)⟩
  · rw [hh]; exact h2.ch hs (by decide)
  · rw [hc]; exact h3.ch hs (by decide)
end
theorem infoU8 : (Try.prog.info? 5).map (fun i => (i.zero, i.size, i.bytes)) = some (some (.int .u8 0), 1, 1) := by kernel_rfl
theorem infoStr : (Try.prog.info? 9).map (fun i => (i.zero, i.size, i.bytes)) = some (some (.string ⟨#[]⟩), 1, 16) := by kernel_rfl

set_option maxHeartbeats 4000000 in
set_option maxRecDepth 100000 in
theorem says_calls {F : Nat → Prop} {w : World} {gM : Nat} {m : MS} (b : UInt8) (h : IsM F w gM m) (hc : m.cell.length ≤ 48) :
    Calls Try.prog 60 #[ptr gM, .int .u8 (b.toNat : Int)] w fun e w' => e = .returned (.int .i64 (saysM m b).2) ∧ IsM (ext F w) w' gM (saysM m b).1 ∧ Ch machT F w w' := by
  have H := Aside0.mk h
  have HL := Aside0.mk hc
  obtain ⟨hv, cv, h1, h2, h3⟩ := h.mach
  have c5 : w.cell? ⟨gM, 5, none⟩ = some cv := (blk_cell h1 5).trans rfl
  obtain ⟨A3, n3, hv3, _, _⟩ := h3.slice
  have H1 := Aside0.mk h1
  have H2 := Aside0.mk h2
  have H3 := Aside0.mk h3
  clear h h1 h2 h3 hc
  subst hv3
  by_cases h48 : 48 ≤ m.cell.length
  · have HG := Aside0.mk (show saysM m b = (m, 4) by unfold saysM; rw [if_pos h48])
    have t1 : decide (48 ≤ (m.cell.length : Int)) = true := decide_eq_true (by omega)
    have t2 : decide (48 ≤ m.cell.length) = true := decide_eq_true h48
    clear h48
    go_enter Try.func60, Try.ntmps60
    go_wp2
    go_ret
    rw [HG.out]
    exact ⟨rfl, H.out.mono (fun _ h => ext_of h), Ch.refl _ _ _⟩
  · have HG := Aside0.mk (show saysM m b = ({ m with cell := m.cell ++ [b] }, 0) by unfold saysM; rw [if_neg h48])
    have t1 : decide (48 ≤ (m.cell.length : Int)) = false := decide_eq_false (by omega)
    have t2 : decide (48 ≤ m.cell.length) = false := decide_eq_false h48
    clear h48
    go_enter Try.func60, Try.ntmps60
    go_wp2_with (first
      | ((with_reducible refine gate_builtin (b := .append) (xs := #[.tmp 15, .tmp 17]) rfl ?_); at_builtin; refine row_append rfl (.tmp 15) (.tmp 17) 22 5 (.int .u8 0) 1 1 rfl Try.underlying22 infoU8 rfl (by decide) _ m.cell.length (u8C m.cell) [.int .u8 (b.toNat : Int)] rfl rfl rfl (by simp [Value.oneCell']) H3.out (by have := HL.out; omega) (by have := HL.out; unfold maxLen; omega) ?_; intro v1 w1 hr hc; have R1 := Aside0.mk hr; have C1 := Aside0.mk hc; have G1 := Aside0.mk (hc.blk H1.out (fun h => absurd h.2 (by decide))); have S1 := Aside0.mk (H2.out.ch hc (by decide)); have d5 : w1.cell? ⟨gM, 5, none⟩ = some _ := (blk_cell G1.out 5).trans rfl; have f5 := blk_frozen G1.out 5; obtain ⟨A4, n4, hv4, _, _⟩ := hr.slice; clear hr hc c5; subst hv4))
    go_ret
    rw [HG.out]
    have hs : Ch (fun t => t = some 55) (ext F w) w1 (w1.setCell ⟨gM, 5, none⟩ (.slice A4 (m.cell.length + 1) n4)) := Ch.set (T := fun t => t = some 55) G1.out (ext_of H.out.fM) rfl 5 _
    refine ⟨rfl, ⟨ext_of H.out.fM, _, _, blk_put (cs' := machCells hv (.slice A4 (m.cell.length + 1) n4) { m with cell := m.cell ++ [b] }) G1.out 5 _ rfl, (S1.out.mono (fun _ h => ext_of h)).ch hs (by decide), ?_⟩, (C1.out.mono (fun t ht => by rw [ht]; exact not_coreB) (fun _ h => h)).trans (hs.mono (fun t ht => by rw [ht]; exact not_coreM) (fun _ h => h))⟩
    show Row _ _ _ 1 _ (m.cell ++ [b]).length (u8C (m.cell ++ [b]))
    rw [u8C_one, List.length_append, List.length_singleton]
    exact R1.out.ch hs (by decide)
end Go.Proofs.Ytalaedpiimdcbaa.Dl
