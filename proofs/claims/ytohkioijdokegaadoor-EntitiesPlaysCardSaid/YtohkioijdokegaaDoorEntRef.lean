/- The reference's entities: the state, Size and find. -/
import Derived.Test.YtohkioijdokegaaDoorEntScan
import Derived.Test.YtohkioijdokegaaDoorPEntitiesPlaysx0
import Derived.Deep.QuietTactic
import Derived.BigQuiet
import Derived.IntWalk
import Derived.Test.YtohkioijdokegaaDoorOwnStr
namespace Go.Proofs.YtohkioijdokegaaDoor.En
open Go Go.Lib Go.RowKit Go.Proofs.YtohkioijdokegaaDoorW.PrintWords Go.Proofs.YtohkioijdokegaaDoorW.PrintLast Go.Proofs.YtohkioijdokegaaDoor.Own Go.Proofs.YtohkioijdokegaaDoor.Nm Go.Proofs.YtohkioijdokegaaDoor.Srcw Go.Proofs.YtohkioijdokegaaDoor.Tab Go.Proofs.YtohkioijdokegaaDoor.PEntitiesPlays
set_option linter.unusedVariables false
set_option linter.unusedSimpArgs false
abbrev Ent := S50
/-- Block g (from B on) holds the reference's list and how many were told. -/
def IsR (B : Nat) (w : World) (g : Nat) (l : List Ent) (told : Int) : Prop :=
  B ≤ g ∧ ∃ v, w.heap[g]? = some (.cells #[v, .int .i64 told] 28 (0, 0)) ∧ Kd.R k50 50 w B (fun k => k ≠ g) v l
theorem IsR.lt {B g : Nat} {w : World} {l : List Ent} {told : Int} (h : IsR B w g l told) : g < w.heap.size := by obtain ⟨_, v, h1, _⟩ := h; exact blk_lt h1
theorem IsR.keep {B g : Nat} {w w' : World} {l : List Ent} {told : Int} (h : IsR B w g l told) (hk : ∀ k, B ≤ k → k < w.heap.size → w'.heap[k]? = w.heap[k]?) : IsR B w' g l told := by
  have hlt := h.lt
  obtain ⟨h0, v, h1, h2⟩ := h
  have h3 := Kd.R_bound h2
  exact ⟨h0, v, (hk g h0 hlt).trans h1, Kd.R_mono (Kd.R_step h3 (fun k hk1 hk2 => hk k hk1.2.1 hk2)) (fun k hk1 => hk1.1)⟩
theorem IsR.below {B g : Nat} {w w' : World} {l : List Ent} {told : Int} (h : IsR B w g l told) (hb : Below w.heap.size w w') : IsR B w' g l told := h.keep (fun k _ hk => hb.block k hk)
theorem IsR.tell {B g : Nat} {w : World} {l : List Ent} {told : Int} (h : IsR B w g l told) (x : Int) : IsR B (w.setCell ⟨g, 1, none⟩ (.int .i64 x)) g l x := by
  obtain ⟨h0, v, h1, h2⟩ := h
  exact ⟨h0, v, blk_put (cs' := #[v, .int .i64 x]) h1 1 _ rfl, Kd.R_keep h2 ((KeepBut.refl w g none).set_ 1 _) (fun k hk => hk)⟩
def sumR (l : List Ent) : Nat := (l.map (fun x => x.f0.size + x.f1.size)).sum
theorem sum_zero (l : List Ent) : sumR (l.take 0) = 0 := by simp [sumR]
theorem sum_snoc (l : List Ent) (i : Nat) (hi : i < l.length) : sumR (l.take (i + 1)) = sumR (l.take i) + ((l.getD i z50).f0.size + (l.getD i z50).f1.size) := by
  have e : l.getD i z50 = l[i] := by
    rw [List.getD_eq_getElem?_getD, List.getElem?_eq_getElem hi]
    rfl
  rw [e]
  unfold sumR
  rw [List.take_succ_eq_append_getElem hi, List.map_append, List.sum_append]
  simp only [List.map_cons, List.map_nil, List.sum_cons, List.sum_nil, Nat.add_zero]
theorem sum_le (l : List Ent) (i : Nat) : sumR (l.take i) ≤ sumR l := by
  unfold sumR
  conv => rhs; rw [← List.take_append_drop i l]
  rw [List.map_append, List.sum_append]
  omega

set_option maxHeartbeats 4000000 in
set_option maxRecDepth 100000 in
theorem rsize_calls {B g : Nat} {w : World} {l : List Ent} {told : Int} (h : IsR B w g l told) (hs : sumR l ≤ 1000000000) (hl : l.length ≤ 1000000000) :
    Calls Tryd.prog 11 #[.pointer (some ⟨g, 0, none⟩)] w fun e w' => e = .returned (.int .i64 (sumR l : Nat)) ∧ Drawn0 w w' := by
  have H := Aside0.mk h
  have HS := Aside0.mk hs
  clear h hs
  go_enter Tryd.func11, Tryd.ntmps11
  go_wp2
  go_loopg [3, 4] (l.length + 1) (fun gk v3 v4 wr => ∃ (i : Nat), v4 = .int .i64 i ∧ v3 = .int .i64 (sumR (l.take i) : Nat) ∧ Aside0 (i ≤ l.length) ∧ Aside0 (l.length - i < gk) ∧ Aside0 (Drawn0 w wr))
  case atStart => exact ⟨0, rfl, by rw [sum_zero]; rfl, ⟨Nat.zero_le _⟩, ⟨by omega⟩, ⟨Drawn0.refl _⟩⟩
  case round =>
    obtain ⟨i, rfl, rfl, P1, P2, P3⟩ := hrel
    cases gk with
    | zero => exact absurd P2.out (by omega)
    | succ k1 =>
    have hp1 := P1.out
    obtain ⟨h0, v, h1, h2⟩ := H.out.below P3.out.below
    obtain ⟨A, c, hv, hc, hC⟩ := Kd.R_reads h2
    subst hv
    have c0 := (blk_cell h1 0).trans rfl
    by_cases hlt : i < l.length
    · obtain ⟨ad, rfl, d0, d1⟩ := at_T50 hC (i : Int) (by omega) (by omega)
      rw [Int.toNat_natCast] at d0 d1
      have hsn := sum_snoc l i hlt
      have hle := sum_le l (i + 1)
      have hS := HS.out
      have t1 : decide ((i : Int) < (l.length : Int)) = true := decide_eq_true (by omega)
      have t2 : decide (i < l.length) = true := decide_eq_true (by omega)
      have tw : wrap64 ((i : Int) + 1) = (i : Int) + 1 := w64 (by omega) (by omega)
      have hrd : rd_T50 l (i : Int) = l.getD i z50 := by unfold rd_T50; rw [Int.toNat_natCast]
      rw [hrd] at d0 d1
      clear hrd
      generalize l.getD i z50 = x at d0 d1 hsn
      obtain ⟨x0, x1⟩ := x
      simp only at d0 d1 hsn
      have HSN := Aside0.mk hsn
      rw [hsn] at hle
      generalize sumR (l.take i) = sm at HSN hle
      have htot : sm + (x0.size + x1.size) ≤ 1000000000 := Nat.le_trans hle hS
      clear hle hS hsn
      have y1 : wrap64 ((sm : Int) + x0.size) = (sm : Int) + x0.size := w64 (by omega) (by omega)
      have y2 : wrap64 ((sm : Int) + x0.size + x1.size) = (sm : Int) + x0.size + x1.size := w64 (by omega) (by omega)
      clear h0 h1 h2 hC
      have e1 : IntKind.i64.wrap ((sm : Int) + x0.size) = (sm : Int) + x0.size := Go.IntWalk.i64_in _ (by omega)
      have e2 : IntKind.i64.wrap ((sm : Int) + x0.size + x1.size) = (sm : Int) + x0.size + x1.size := Go.IntWalk.i64_in _ (by omega)
      go_wp2
      go_quiet (fail)
      go_wp2
      go_roundg k1
      case measure => have := P2.out; omega
      case rel => exact ⟨i + 1, by go_num, by rw [HSN.out]; push_cast; (try rw [Int.add_assoc]), ⟨by omega⟩, ⟨by have := P2.out; omega⟩, ⟨P3.out.step _⟩⟩
    · have hi : i = l.length := by omega
      have t1 : decide ((i : Int) < (l.length : Int)) = false := decide_eq_false (by omega)
      have t2 : decide (i < l.length) = false := decide_eq_false (by omega)
      have hst : sumR (l.take i) = sumR l := by rw [hi, List.take_length]
      rw [hst]
      clear hst h0 h1 h2 hC hi
      go_wp2
      go_ret
      exact ⟨rfl, P3.out⟩

/-- What find answers. -/
def FindIs (l : List Ent) (n : ByteArray) (x : Int) : Prop := (x = -1 ∧ ∀ y ∈ l, y.f0 ≠ n) ∨ ∃ i : Nat, x = i ∧ i < l.length ∧ (l.getD i z50).f0 = n
set_option maxHeartbeats 4000000 in
set_option maxRecDepth 100000 in
theorem rfind_calls {B g : Nat} {w : World} {l : List Ent} {told : Int} (n : ByteArray) (h : IsR B w g l told) (hl : l.length ≤ 1000000000) :
    Calls Tryd.prog 30 #[.pointer (some ⟨g, 0, none⟩), .string n] w fun e w' => ∃ x, e = .returned (.int .i64 x) ∧ FindIs l n x ∧ Below w.heap.size w w' := by
  have H := Aside0.mk h
  clear h
  go_enter Tryd.func30, Tryd.ntmps30
  go_wp2
  go_loopg [5] (l.length + 1) (fun gk v5 wr => ∃ (i : Nat), v5 = .int .i64 i ∧ Aside0 (i ≤ l.length) ∧ Aside0 (l.length - i < gk) ∧ Aside0 (∀ y ∈ l.take i, y.f0 ≠ n) ∧ Aside0 (Below w.heap.size w wr))
  case atStart => exact ⟨0, rfl, ⟨Nat.zero_le _⟩, ⟨by omega⟩, ⟨fun y hy => by rw [List.take_zero] at hy; cases hy⟩, ⟨Below.refl _ _⟩⟩
  case round =>
    obtain ⟨i, rfl, P1, P2, P4, P3⟩ := hrel
    cases gk with
    | zero => exact absurd P2.out (by omega)
    | succ k1 =>
    have hp1 := P1.out
    obtain ⟨h0, v, h1, h2⟩ := H.out.below P3.out
    obtain ⟨A, c, hv, hc, hC⟩ := Kd.R_reads h2
    subst hv
    have c0 := (blk_cell h1 0).trans rfl
    by_cases hlt : i < l.length
    · obtain ⟨ad, rfl, d0, d1⟩ := at_T50 hC (i : Int) (by omega) (by omega)
      rw [Int.toNat_natCast] at d0 d1
      have t1 : decide ((i : Int) < (l.length : Int)) = true := decide_eq_true (by omega)
      have t2 : decide (i < l.length) = true := decide_eq_true (by omega)
      have tw : wrap64 ((i : Int) + 1) = (i : Int) + 1 := w64 (by omega) (by omega)
      have hrd : rd_T50 l (i : Int) = l.getD i z50 := by unfold rd_T50; rw [Int.toNat_natCast]
      rw [hrd] at d0 d1
      clear hrd
      have HGD := Aside0.mk (show l.getD i z50 = l[i] by rw [List.getD_eq_getElem?_getD, List.getElem?_eq_getElem hlt]; rfl)
      obtain ⟨x, hx⟩ : ∃ x, l.getD i z50 = x := ⟨_, rfl⟩
      rw [hx] at d0 d1 HGD
      have HX := Aside0.mk hx
      clear h0 h1 h2 hC hx
      by_cases hn : x.f0 = n
      · have q1 := seq_true hn
        have q2 := sdec_true hn
        have HN := Aside0.mk hn
        clear hn
        go_wp2
        go_ret
        exact ⟨_, rfl, .inr ⟨i, rfl, hlt, by rw [HX.out]; exact HN.out⟩, P3.out⟩
      · have q1 := seq_false hn
        have q2 := sdec_false hn
        have HN := Aside0.mk hn
        clear hn
        go_wp2
        go_roundg k1
        case measure => have := P2.out; omega
        case rel => exact ⟨i + 1, by go_num, ⟨by omega⟩, ⟨by have := P2.out; omega⟩, ⟨fun y hy => by
          rw [List.take_succ_eq_append_getElem hlt] at hy
          rcases List.mem_append.1 hy with h | h
          · exact P4.out y h
          · rw [List.mem_singleton, ← HGD.out] at h; subst h; exact HN.out⟩, P3⟩
    · have hi : i = l.length := by omega
      have t1 : decide ((i : Int) < (l.length : Int)) = false := decide_eq_false (by omega)
      have t2 : decide (i < l.length) = false := decide_eq_false (by omega)
      have HF := Aside0.mk (show ∀ y ∈ l, y.f0 ≠ n by have := P4.out; rwa [hi, List.take_length] at this)
      clear h0 h1 h2 hC hi
      go_wp2
      go_ret
      exact ⟨_, rfl, .inl ⟨rfl, HF.out⟩, P3.out⟩
end Go.Proofs.YtohkioijdokegaaDoor.En
