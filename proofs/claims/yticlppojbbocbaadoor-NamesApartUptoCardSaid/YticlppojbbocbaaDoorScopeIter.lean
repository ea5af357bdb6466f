/- slices.Backward over a row of maps, and names' Scope.Space over it. -/
import Derived.Test.YticlppojbbocbaaDoorScopeB
import Derived.RangeFuncBox
import Derived.RangeFuncLeaves
import Derived.RangeFuncNested
import Derived.Shelf.Abstract
import Derived.OwnWalkIn
import Derived.TacticsInMore
import Derived.LoopNIn
import Derived.LoopIn
import Derived.Maps.OwnIn
namespace Go.Proofs.YticlppojbbocbaaDoor.Nm
open Go Go.Lib Go.Shelf Go.RowKit Go.Proofs.YticlppojbbocbaaDoorW.PrintWords Go.Proofs.YticlppojbbocbaaDoorW.PrintLast Go.Proofs.YticlppojbbocbaaDoor.Own Go.Proofs.YticlppojbbocbaaDoor.Srcw Go.Proofs.YticlppojbbocbaaDoor.Tab
set_option linter.unusedVariables false
set_option linter.unusedSimpArgs false
attribute [local go_sem] Oper.semAt_some

/-- What has come when k rounds are over, from the last on. -/
def came (n k : Nat) : List (Fin n) := ((List.finRange n).reverse).take k
theorem came_all (n : Nat) : came n n = (List.finRange n).reverse := by unfold came; rw [List.take_of_length_le (by simp)]
theorem came_succ (n k : Nat) (h : k < n) : came n (k + 1) = came n k ++ [⟨n - 1 - k, by omega⟩] := by
  have hl : k < ((List.finRange n).reverse).length := by simpa using h
  unfold came
  rw [List.take_succ_eq_append_getElem hl]
  congr 2
  rw [List.getElem_reverse]
  simp
theorem came_prefix (n k : Nat) : came n k <+: (List.finRange n).reverse := List.take_prefix _ _
def encB (zs : List Nat) (j : Fin zs.length) : Array Value := #[.int .i64 (j.val : Int), .map (some zs[j])]

set_option maxRecDepth 100000 in
set_option maxHeartbeats 2000000 in
theorem back1_in (F : Fence) (n : Nat) (h42 : F.fn 42) (hro : F.round = none) (hn : 1 ≤ n) (l Bs n₀ b cap : Nat) (zs : List Nat) (hz : zs.length < 17592186044416) (hb : b < n₀) (J Jx : List (Fin zs.length) → World → Prop)
    (hY : ∀ pre x W, J pre W → pre.length < zs.length → YieldAt F (n - 1) Tryd.prog l (encB zs x) W fun e W' =>
      (e = .returned (.bool true) ∧ J (pre ++ [x]) W' ∧ Below n₀ W W') ∨ (e = .returned (.bool false) ∧ Jx (pre ++ [x]) W'))
    (W : World) (hBs : W.cell? ⟨Bs, 0, none⟩ = some (.slice (some ⟨b, 0, none⟩) zs.length cap)) (hc : ∀ j (h : j < zs.length), W.cell? ⟨b, j, none⟩ = some (.map (some zs[j]))) (hBn : Bs < n₀) (h0 : J [] W) :
    CallsIn F n Tryd.prog 42 #[.func (.yield l) #[] #[], .pointer (some ⟨Bs, 0, none⟩)] W fun e W' => (∃ v, e = .returned v) ∧
      ((J (came zs.length zs.length) W') ∨ (∃ k, k ≤ zs.length ∧ Jx (came zs.length k) W')) := by
  refine callsIn_of_wp Tryd.func42 rfl h42 ?_ hro
  simp only [Tryd.ntmps42, List.size_toArray, List.length_cons, List.length_nil, Nat.reduceAdd, Nat.reduceSub, Array.replicate_succ, Array.replicate_zero, List.push_toArray, List.append_toArray, List.nil_append, List.cons_append]
  have e1 : wrap64 ((zs.length : Int) - 1) = (zs.length : Int) - 1 := w64 (by omega) (by omega)
  gi_wp2
  gi_loopw [3] (fun i wr => ∃ k : Nat, k ≤ zs.length ∧ i = .int .i64 ((zs.length : Int) - 1 - k) ∧ J (came zs.length k) wr ∧ Below n₀ W wr)
    (fun i _ => (intOf i + 1).toNat)
  case atStart => exact ⟨0, Nat.zero_le _, by simp, h0, Below.refl _ _⟩
  case round =>
    obtain ⟨k, hk, rfl, hJs, hnx⟩ := hrel
    by_cases hlt : k < zs.length
    · obtain ⟨j, hj⟩ : ∃ j, j = zs.length - 1 - k := ⟨_, rfl⟩
      have hjl : j < zs.length := by omega
      have hcm := came_succ zs.length k hlt
      have hfj : (⟨zs.length - 1 - k, by omega⟩ : Fin zs.length) = ⟨j, hjl⟩ := Fin.ext hj.symm
      rw [hfj] at hcm
      obtain ⟨fn, tmps, assign, body, hy, hR⟩ := hY _ ⟨j, hjl⟩ wr hJs (by unfold came; rw [List.length_take]; simp; omega)
      rw [← hcm] at hR
      have hcx : wr.cell? ⟨b, j, none⟩ = some (.map (some (zs[j]'hjl))) := (hnx.cell (p := ⟨b, j, none⟩) hb).trans (hc _ hjl)
      have hy' : (Instr.yield l #[.int .i64 (j : Int), .map (some (zs[j]'hjl))]).run Tryd.prog wr = .ok (.round l fn tmps assign body) wr := hy
      clear hy
      have hcb : wr.cell? ⟨Bs, 0, none⟩ = _ := (hnx.cell (p := ⟨Bs, 0, none⟩) hBn).trans hBs
      have hi : (zs.length : Int) - 1 - k = (j : Int) := by omega
      have hn2 : wrap64 ((j : Int) - 1) = (j : Int) - 1 := w64 (by omega) (by omega)
      have HI := Aside0.mk (show (j : Int) - 1 = (zs.length : Int) - 1 - ((k + 1 : Nat) : Int) by omega)
      have HK := Aside0.mk hlt
      have HX := Aside0.mk hnx
      have HJ := Aside0.mk hj
      have t0 : (0 : Int) ≤ (j : Int) := by omega
      have t1 : (j : Int) < (zs.length : Int) := by omega
      rw [hi]
      generalize zs[j]'hjl = zj at hcx hy' ⊢
      clear hi hcm hfj hj hY hJs hlt hBs hc e1 hnx hk h0
      gi_wp2
      refine hR.mono ?_
      rintro e W3 (⟨rfl, hJ3, hk3⟩ | ⟨rfl, hJx3⟩)
      · gi_wp2
        go_roundw
        case rel => exact ⟨k + 1, by have := HK.out; omega, by rw [HI.out], hJ3, HX.out.trans hk3⟩
        case measure => (simp [intOf] <;> omega)
      · gi_wp2
        refine bodyPost_ret (results_none rfl _ _ _) rfl ?_
        exact ⟨⟨_, rfl⟩, .inr ⟨k + 1, by have := HK.out; omega, hJx3⟩⟩
    · obtain rfl : k = zs.length := by omega
      have hi : (zs.length : Int) - 1 - zs.length = -1 := by omega
      rw [hi]
      clear hY hBs hc e1 hlt hk h0
      gi_wp2
      go_end0
      exact ⟨⟨_, rfl⟩, .inl hJs⟩

set_option maxRecDepth 100000 in
set_option maxHeartbeats 1000000 in
theorem back1_nil_in (F : Fence) (n : Nat) (h42 : F.fn 42) (hro : F.round = none) (l Bs cap : Nat) (A : Option Addr) (J : World → Prop) (W : World) (hBs : W.cell? ⟨Bs, 0, none⟩ = some (.slice A 0 cap)) (h0 : J W) :
    CallsIn F n Tryd.prog 42 #[.func (.yield l) #[] #[], .pointer (some ⟨Bs, 0, none⟩)] W fun e W' => (∃ v, e = .returned v) ∧ J W' := by
  refine callsIn_of_wp Tryd.func42 rfl h42 ?_ hro
  simp only [Tryd.ntmps42, List.size_toArray, List.length_cons, List.length_nil, Nat.reduceAdd, Nat.reduceSub, Array.replicate_succ, Array.replicate_zero, List.push_toArray, List.append_toArray, List.nil_append, List.cons_append]
  gi_wp2
  gi_loopw [3] (fun i wr => i = .int .i64 (-1) ∧ J wr) (fun _ _ => 0)
  case atStart => exact ⟨rfl, h0⟩
  case round =>
    obtain ⟨rfl, hJs⟩ := hrel
    gi_wp2
    go_end0
    exact ⟨⟨_, rfl⟩, hJs⟩

set_option maxHeartbeats 1000000 in
theorem back_in (F : Fence) (n : Nat) (h35 : F.fn 35) (hro : F.round = none) (a : Option Addr) (len cap : Nat) (w : World) :
    CallsIn F n Tryd.prog 35 #[.slice a len cap] w fun e w' => e = .returned (.func (.func 42) #[] #[.pointer (some ⟨w.heap.size, 0, none⟩)]) ∧ w' = w.alloc (.cells #[.slice a len cap] 53) := by
  refine callsIn_of_wp Tryd.func35 rfl h35 ?_ hro
  simp only [Tryd.ntmps35, List.size_toArray, List.length_cons, List.length_nil, Nat.reduceAdd, Nat.reduceSub, Array.replicate_succ, Array.replicate_zero, List.push_toArray, List.append_toArray, List.nil_append, List.cons_append]
  gi_wp2
  go_ret
  exact ⟨rfl, rfl⟩

/-- The slice value sv holds the maps zs, in a block below n₀; or there are none. -/
def Holds (n₀ : Nat) (W : World) (sv : Value) (zs : List Nat) : Prop :=
  (∃ A cap, sv = .slice A 0 cap ∧ zs = []) ∨ ∃ b cap, sv = .slice (some ⟨b, 0, none⟩) zs.length cap ∧ b < n₀ ∧ ∀ j (h : j < zs.length), W.cell? ⟨b, j, none⟩ = some (.map (some zs[j]))
theorem Holds.below {n₀ : Nat} {A B : World} (h : Below n₀ A B) {sv : Value} {zs : List Nat} : Holds n₀ A sv zs → Holds n₀ B sv zs
  | .inl e => .inl e
  | .inr ⟨b, cap, e, hb, hc⟩ => .inr ⟨b, cap, e, hb, fun j hj => (h.cell (p := ⟨b, j, none⟩) hb).trans (hc j hj)⟩
theorem back_stops (F : Fence) (n : Nat) (h42 : F.fn 42) (hro : F.round = none) (hn : 1 ≤ n) (Bs n₀ : Nat) (sv : Value) (zs : List Nat) (hz : zs.length < 17592186044416) (w : World) (hBs : Bs < w.heap.size) (hn₀ : n₀ ≤ w.heap.size) (hBn : Bs < n₀)
    (hc : w.cell? ⟨Bs, 0, none⟩ = some sv) (hI : Holds n₀ w sv zs) :
    SeqStopsK F n Tryd.prog 42 #[.pointer (some ⟨Bs, 0, none⟩)] (encB zs) (Below n₀) (fun ys => ys = (List.finRange zs.length).reverse) (fun pre => ∃ k, k ≤ zs.length ∧ pre = came zs.length k) zs.length w := fun l J Jx W hW _ _ hY h0 => by
  have hc' := (hW.cell (p := ⟨Bs, 0, none⟩) hBs).trans hc
  rcases hI.below (hW.mono hn₀) with ⟨A, cap, rfl, hz0⟩ | ⟨b, cap, rfl, hb, hcs⟩
  · subst hz0
    exact (back1_nil_in F n h42 hro l Bs cap A (J []) W hc' h0).mono fun e W' ⟨he, hj⟩ => ⟨he, .inl ⟨_, rfl, hj⟩⟩
  · refine (back1_in F n h42 hro hn l Bs n₀ b cap zs hz hb J Jx hY W hc' hcs hBn h0).mono ?_
    rintro e W' ⟨he, hj | ⟨k, hk, hj⟩⟩
    · exact ⟨he, .inl ⟨_, rfl, by rw [← came_all]; exact hj⟩⟩
    · exact ⟨he, .inr ⟨_, ⟨k, hk, rfl⟩, hj⟩⟩
end Go.Proofs.YticlppojbbocbaaDoor.Nm
