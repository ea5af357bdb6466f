/- names.Local, walked: for every text. -/
import Derived.Test.YticlppojbbocbaaDoorNamesF
import Derived.Test.YticlppojbbocbaaDoorOwn3
import Derived.WalkMore
import Derived.WalkKit
import Derived.KernelRfl
import Derived.Outline
import Derived.Deep.LoopGhost
import Derived.Test.YticlppojbbocbaaDoorProg
namespace Go.Proofs.YticlppojbbocbaaDoor.Nm
open Go.RowKit Go.Proofs.YticlppojbbocbaaDoorW.PrintWords Go.Proofs.YticlppojbbocbaaDoorW.PrintLast Go.Proofs.YticlppojbbocbaaDoor.Own
set_option linter.unusedVariables false
set_option linter.unusedSimpArgs false

theorem or_fin : ∀ n : Fin 256, decide (97 ≤ bits BinOp.or IntKind.u8 (n.val : Int) 32 ∧ bits BinOp.or IntKind.u8 (n.val : Int) 32 ≤ 122) = decide ((97 ≤ n.val ∧ n.val ≤ 122) ∨ (65 ≤ n.val ∧ n.val ≤ 90)) := by decide +kernel
theorem or_all (c : Int) (h0 : 0 ≤ c) (h1 : c < 256) : (97 ≤ bits BinOp.or IntKind.u8 c 32 ∧ bits BinOp.or IntKind.u8 c 32 ≤ 122) ↔ ((97 ≤ c ∧ c ≤ 122) ∨ (65 ≤ c ∧ c ≤ 90)) := by
  have h := or_fin ⟨c.toNat, by omega⟩
  simp only at h
  rw [Int.toNat_of_nonneg h0, decide_eq_decide] at h
  rw [h]
  omega
theorem okB_of {i b : Nat} {c : Int} (hc : (b : Int) = c) (h : (97 ≤ c ∧ c ≤ 122) ∨ (65 ≤ c ∧ c ≤ 90) ∨ c = 95 ∨ (0 < i ∧ ((48 ≤ c ∧ c ≤ 57) ∨ c = 45 ∨ c = 46))) : okB i b = true := by
  unfold okB; rw [decide_eq_true (by omega)]
theorem okB_no {i b : Nat} {c : Int} (hc : (b : Int) = c) (h : ¬ ((97 ≤ c ∧ c ≤ 122) ∨ (65 ≤ c ∧ c ≤ 90) ∨ c = 95 ∨ (0 < i ∧ ((48 ≤ c ∧ c ≤ 57) ∨ c = 45 ∨ c = 46)))) : okB i b = false := by
  unfold okB; rw [decide_eq_false (by omega)]

theorem ne_empty {s : ByteArray} (h : ¬ s.size = 0) : ¬ s.toList = [] := fun e => h (by
  rw [ByteArray.toList_eq] at e
  have := congrArg List.length e
  rw [size_data] at this
  exact this)
theorem ne_empty2 {s : ByteArray} (h : ¬ s.size = 0) : s.toList.isEmpty = false := by
  have := ne_empty h
  cases hl : s.toList
  · exact absurd hl this
  · rfl

set_option maxHeartbeats 4000000 in
set_option maxRecDepth 100000 in
theorem local_calls (s : ByteArray) (w : World) : Calls Tryd.prog 11 #[.string s] w fun e w' => e = .returned (.bool (localL s.data.toList)) ∧ Below w.heap.size w w' := by
  have hlen : s.data.toList.length = s.size := size_data s
  by_cases h0 : s.size = 0
  · have hL : localL s.data.toList = false := local_short (by omega)
    have he : s = ⟨#[]⟩ := by
      cases s with
      | mk d => congr 1; exact Array.eq_empty_of_size_eq_zero h0
    rw [hL]
    subst he
    clear hL hlen h0
    go_enter Tryd.func11, Tryd.ntmps11
    go_wp2
    go_ret
    exact ⟨rfl, Below.refl _ _⟩
  have t0 := ne_empty h0
  have t3 := ne_empty2 h0
  by_cases h1 : 16 < s.size
  · have hL : localL s.data.toList = false := local_long (by omega)
    have t1 : decide (16 < (s.size : Int)) = true := decide_eq_true (by omega)
    have t2 : decide (16 < s.size) = true := decide_eq_true h1
    rw [hL]
    clear hL hlen h0 h1
    go_enter Tryd.func11, Tryd.ntmps11
    go_wp2
    go_ret
    exact ⟨rfl, Below.refl _ _⟩
  · have t1 : decide (16 < (s.size : Int)) = false := decide_eq_false (by omega)
    have t2 : decide (16 < s.size) = false := decide_eq_false h1
    have HS := Aside0.mk (show 1 ≤ s.size ∧ s.size ≤ 16 from ⟨by omega, by omega⟩)
    have HL := Aside0.mk hlen
    clear hlen h0 h1
    go_enter Tryd.func11, Tryd.ntmps11
    go_wp2_with ((with_reducible refine gate_dst (N := 15) rfl ?_); refine conv_event rfl (N := 15) rfl (s := s) rfl rfl Tryd.underlying9 Tryd.underlying46 Tryd.underlying5 ?_; intro gc cc w1 hgc hcc hb1; have C1 := Aside0.mk hcc; have B1 := Aside0.mk hb1; clear hgc hcc hb1)
    go_loopg [17] (s.size + 1) (fun gk v17 wr => ∃ i : Nat, v17 = .int .i64 i ∧ Aside0 (i ≤ s.size) ∧ Aside0 (s.size - i < gk) ∧ Aside0 (okTo s.data.toList i = true) ∧ Aside0 (Below w.heap.size w wr) ∧ Aside0 (∀ j, j < s.size → wr.cell? ⟨gc, j, none⟩ = some (.int .u8 (s.data.toList.getD j 0).toNat)))
    case atStart => exact ⟨0, rfl, ⟨Nat.zero_le _⟩, ⟨by omega⟩, ⟨rfl⟩, B1, C1⟩
    case round =>
      obtain ⟨i, rfl, P1, P2, P3, P4, P5⟩ := hrel
      cases gk with
      | zero => exact absurd P2.out (by omega)
      | succ k1 =>
      by_cases hlt : i < s.size
      · have hcell := P5.out i hlt
        have hs16 := HS.out.2
        have tw : wrap64 ((i : Int) + 1) = (i : Int) + 1 := w64 (by omega) (by omega)
        generalize hc : (((s.data.toList.getD i 0).toNat : Nat) : Int) = c at hcell
        have hc0 : 0 ≤ c := by omega
        have hc1 : c < 256 := by rw [← hc]; have := (s.data.toList.getD i 0).toNat_lt; omega
        have HC := Aside0.mk hc
        have ho := or_all c hc0 hc1
        clear hc
        generalize hd : bits BinOp.or IntKind.u8 c 32 = d at ho
        go_wp2
        all_goals (rename_i x1 x2 x3; (try simp only [Bool.not_eq_eq_eq_not, Bool.not_true, Bool.not_false, beq_eq_false_iff_ne, beq_iff_eq, decide_eq_false_iff_not, decide_eq_true_eq, ne_eq] at x1); (try simp only [Bool.not_eq_eq_eq_not, Bool.not_true, Bool.not_false, beq_eq_false_iff_ne, beq_iff_eq, decide_eq_false_iff_not, decide_eq_true_eq, ne_eq] at x2); (try simp only [Bool.not_eq_eq_eq_not, Bool.not_true, Bool.not_false, beq_eq_false_iff_ne, beq_iff_eq, decide_eq_false_iff_not, decide_eq_true_eq, ne_eq] at x3))
        all_goals first
          | (exfalso; omega)
          | (go_ret; exact ⟨by rw [local_bad (l := s.data.toList) (i := i) (by rw [HL.out]; exact hlt) (okB_no HC.out (by omega))]; rfl, P4.out⟩)
          | (go_roundg k1; (case measure => (have := P2.out; omega)); (case rel => exact ⟨i + 1, by go_num, ⟨by omega⟩, ⟨by have := P2.out; omega⟩, ⟨by unfold okTo; rw [P3.out, okB_of HC.out (by omega)]; rfl⟩, P4, P5⟩))
      · have hi : i = s.size := by have := P1.out; omega
        have hL : localL s.data.toList = true := local_all (by rw [HL.out]; exact HS.out.1) (by rw [HL.out]; exact HS.out.2) (by rw [HL.out, ← hi]; exact P3.out)
        have HV := Aside0.mk hL
        clear hL hi
        go_wp2
        go_ret
        exact ⟨by rw [HV.out]; rfl, P4.out⟩
end Go.Proofs.YticlppojbbocbaaDoor.Nm
