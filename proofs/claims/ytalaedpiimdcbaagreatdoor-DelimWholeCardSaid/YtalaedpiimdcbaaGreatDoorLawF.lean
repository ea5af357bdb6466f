/- The laws over a decoder: the bytes of an argument; few. -/
import Derived.Test.YtalaedpiimdcbaaGreatDoorDelD
import Derived.Test.YtalaedpiimdcbaaGreatDoorOwnStr
import Derived.RegionTactic
namespace Go.Proofs.YtalaedpiimdcbaaGreatDoor.Lw
open Go Go.Lib Go.RowKit Go.Proofs.YtalaedpiimdcbaaGreatDoorW.PrintWords Go.Proofs.YtalaedpiimdcbaaGreatDoorW.PrintLast Go.Proofs.YtalaedpiimdcbaaGreatDoor.Own Go.Proofs.YtalaedpiimdcbaaGreatDoor.Hp Go.Proofs.YtalaedpiimdcbaaGreatDoor.Srcw Go.Proofs.YtalaedpiimdcbaaGreatDoor.Dl Go.Proofs.YtalaedpiimdcbaaGreatDoor.Cr
set_option linter.unusedVariables false
set_option linter.unusedSimpArgs false
/-- The bytes of an argument. -/
theorem row_bytes {w : World} {a : Option Addr} {len cap : Nat} {zs : List Int} (h : IsRow .u8 w a len cap zs) : ∃ L : List UInt8, L.length = len ∧ Rd8 (fun k => w.heap.size ≤ k) w a L ∧ len ≤ cap ∧ cap ≤ 9223372036854775807 := by
  have hl := h.len_le
  have hm : maxLen = 9223372036854775807 := rfl
  refine ⟨(zs.take len).map (fun n => UInt8.ofNat n.toNat), by rw [List.length_map, List.length_take]; omega, fun i hi => ?_, by omega, by omega⟩
  have hi2 : i < len := by rw [List.length_map, List.length_take] at hi; omega
  obtain ⟨x, h1, h2, h3⟩ := h.at_ i hi2
  refine ⟨x, h1, ?_, ?_⟩
  · have h4 := World.block_lt_of_cell? w _ h2
    rw [add_block] at h4
    omega
  · rw [h2]
    obtain ⟨u, hu⟩ := byte_of h3
    have e : ((zs.take len).map (fun n => UInt8.ofNat n.toNat))[i] = UInt8.ofNat (zs.getD i 0).toNat := by
      rw [List.getElem_map, List.getElem_take, List.getD_eq_getElem?_getD, List.getElem?_eq_getElem (by omega)]
      rfl
    rw [e, hu]
    simp
theorem Rd8.take_ {F : Nat → Prop} {w : World} {A : Option Addr} {l : List UInt8} (h : Rd8 F w A l) (n : Nat) : Rd8 F w A (l.take n) := fun i hi => by
  have hi2 : i < l.length := by rw [List.length_take] at hi; omega
  obtain ⟨ad, h1, h2, h3⟩ := h i hi2
  exact ⟨ad, h1, h2, by rw [List.getElem_take]; exact h3⟩
def few6 (l : List UInt8) : List UInt8 := l.take 600
set_option maxHeartbeats 4000000 in
set_option maxRecDepth 100000 in
theorem few_calls (a : Option Addr) (len cap : Nat) (w : World) (hc : len ≤ cap) (hm : cap ≤ 9223372036854775807) :
    Calls Tryz.prog 4 #[.slice a len cap] w fun e w' => e = .returned (.slice a (min 600 len) cap) ∧ w = w' := by
  by_cases h : 600 < len
  · have t1 : decide (600 < (len : Int)) = true := decide_eq_true (by omega)
    have t2 : decide (600 < len) = true := decide_eq_true h
    have t3 : (600 : Int) ≤ (cap : Int) := by omega
    have HM := Aside0.mk (show min 600 len = 600 by omega)
    go_enter Tryz.func4, Tryz.ntmps4
    go_wp2
    go_ret
    rw [HM.out]
    exact ⟨rfl, rfl⟩
  · have t1 : decide (600 < (len : Int)) = false := decide_eq_false (by omega)
    have t2 : decide (600 < len) = false := decide_eq_false h
    have HM := Aside0.mk (show min 600 len = len by omega)
    go_enter Tryz.func4, Tryz.ntmps4
    go_wp2
    go_ret
    rw [HM.out]
    exact ⟨rfl, rfl⟩
end Go.Proofs.YtalaedpiimdcbaaGreatDoor.Lw
