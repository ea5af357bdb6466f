/- The reference's Read tells what all steps tell. -/
import Derived.Test.YtadbjbnnmooicaaDoorQuoteRoundP
import Derived.Test.YtadbjbnnmooicaaDoorPQuoteStepsx1
import Derived.Test.YtadbjbnnmooicaaDoorSrcRefPutW
namespace Go.Proofs.YtadbjbnnmooicaaDoor.Qw
open Go.RowKit Go.Proofs.YtadbjbnnmooicaaDoorW.PrintWords Go.Proofs.YtadbjbnnmooicaaDoorW.PrintLast Go.Proofs.YtadbjbnnmooicaaDoor.Own Go.Proofs.YtadbjbnnmooicaaDoor.Srcw
set_option linter.unusedVariables false
set_option linter.unusedSimpArgs false

theorem hex_fin : ∀ n : Fin 256, PQuoteSteps.hexaplaref03_hex.f 10 (n.val : Int) = some (hexN (n.val : Int)) := by decide +kernel
theorem plain_fin : ∀ n : Fin 256, PQuoteSteps.hexaplaref03_plain.f 20 (n.val : Int) = some ((escN (n.val : Int)).getD 0, (escN (n.val : Int)).isSome) := by decide +kernel
theorem hex_calls (c : Int) (h0 : 0 ≤ c) (h1 : c < 256) (w : World) : Calls Tryd.prog 18 #[.int .u8 c] w fun e w' => e = .returned (.int .i64 (hexN c)) ∧ Below w.heap.size w w' := by
  have h := hex_fin ⟨c.toNat, by omega⟩
  simp only at h
  rw [Int.toNat_of_nonneg h0] at h
  refine (PQuoteSteps.hexaplaref03_hex.calls 10 c _ w h).mono ?_
  rintro e w' ⟨he, nd, hd⟩
  exact ⟨he, by rw [hd]; exact pw_below_drewN (Below.refl _ _) nd⟩
theorem plain_calls (c : Int) (h0 : 0 ≤ c) (h1 : c < 256) (w : World) : Calls Tryd.prog 17 #[.int .u8 c] w fun e w' => e = .returned (.tuple #[.int .u8 ((escN c).getD 0), .bool (escN c).isSome]) ∧ Below w.heap.size w w' := by
  have h := plain_fin ⟨c.toNat, by omega⟩
  simp only at h
  rw [Int.toNat_of_nonneg h0] at h
  refine (PQuoteSteps.hexaplaref03_plain.calls 20 c _ _ w h).mono ?_
  rintro e w' ⟨he, nd, hd⟩
  exact ⟨he, by rw [hd]; exact pw_below_drewN (Below.refl _ _) nd⟩
section
variable {P : Program} {ops : Array Oper} {rest : List Oper} {o : Oper} {a : Act} {Q : Exit → Act → World → Prop}
/-- 'string(b)' of a row of the call's own. -/
theorem str_event {W : World} (hgd : o.guard = none) {src dst e e' : TypeId} {x : Operand} (hop : o.op = .convert src dst x) {v : Value} (hx : a.eval x = v)
    (hs : P.underlying src = some (.slice e)) (he : P.underlying e = some (.int .u8)) (hd : P.underlying dst = some .string) {base : Nat} {ok : Nat → Prop} {xs : List Int} (hR : (Kd.int .u8).R e' W base ok v xs)
    (h : wpList P ops Q rest (a.put o.dst (.string (strOfNums xs))) W) : wpList P ops Q (o :: rest) a W := by
  refine Kd.event_run hgd (v := .string (strOfNums xs)) (w1 := W) ?_ h
  have hr := own_string hs he hd (Kd.own_of_R hR)
  unfold execOp
  simp only [hop, hx]
  simp [hr]
end

/-- What is left of a text, as numbers. -/
def tailN (s : ByteArray) (i : Nat) : List Int := bnums (s.data.toList.drop i)
theorem tail_at (s : ByteArray) (i : Nat) (h : i < s.size) : tailN s i = (s[i].toNat : Int) :: tailN s (i + 1) := by
  unfold tailN
  rw [drop_at s i h]
  rfl
theorem tail_end (s : ByteArray) : tailN s s.size = [] := by
  unfold tailN
  rw [List.drop_of_length_le (by rw [size_data]; exact Nat.le_refl _)]
  rfl

/-- What Read answers, against all steps' R. -/
def ReadIs (R : QS × Nat × Bool × Int) (t : ByteArray) (n f at_ : Int) : Prop :=
  f = R.2.2.2 ∧ (f ≠ 0 → at_ = R.2.1 ∧ R.2.2.1 = false) ∧ (f = 0 → t = strOfNums R.1.l ∧ ((R.2.2.1 = true ∧ n = (R.2.1 : Int) + 1) ∨ (R.2.2.1 = false ∧ n = -1)))
def ReadPost (s : ByteArray) (w : World) (e : Ending) (w' : World) : Prop :=
  ∃ (t : ByteArray) (n f k : Int), e = .returned (.tuple #[.string t, .int .i64 n, .int .i64 f, .int .i64 k]) ∧ ReadIs (allS s) t n f k ∧ Below w.heap.size w w'

/-- Behind the four digits. -/
def LastI (s : ByteArray) (l : List Int) (n : Int) (i : Nat) : Prop :=
  (mayN n = false → ∃ st, allS s = (st, i, false, 9)) ∧
  (mayN n = true → 48 < l.length + (putS n).size → ∃ st, allS s = (st, i, false, 4)) ∧
  (mayN n = true → ¬ 48 < l.length + (putS n).size → allS s = allI (tailN s (i + 1)) ⟨l ++ bnums (putS n).data.toList, false, 0, n, false⟩ (i + 1))
theorem stop_back {l : List Int} {m b c : Int} (hl : ¬ l.length < 48) (hb : b ≠ 117) (hc : escN b = some c) : stepQ ⟨l, true, 0, m, false⟩ b = (false, 4, ⟨l, false, 0, m, false⟩) := by
  unfold stepQ addQ
  simp only [Bool.false_eq_true, if_false, Int.lt_irrefl, if_neg hb, hc, Option.isSome_some, if_true, Option.getD_some]
  rw [if_pos (by simp; omega)]
theorem stop_none {l : List Int} {m b : Int} (hb : b ≠ 117) (hc : escN b = none) : stepQ ⟨l, true, 0, m, false⟩ b = (false, 9, ⟨l, false, 0, m, false⟩) := by
  unfold stepQ
  simp only [Bool.false_eq_true, if_false, Int.lt_irrefl, if_neg hb, hc, Option.isSome_none, if_true]
theorem stop_plain {l : List Int} {m c : Int} (hl : ¬ l.length < 48) (h1 : c ≠ 34) (h2 : ¬ c < 32) (h3 : c ≠ 92) : stepQ ⟨l, false, 0, m, false⟩ c = (false, 4, ⟨l, false, 0, m, false⟩) := by
  unfold stepQ addQ
  simp only [Bool.false_eq_true, if_false, Int.lt_irrefl, if_neg h1, if_neg h2, if_neg h3]
  rw [if_pos (by simp; omega)]
theorem stop_low {l : List Int} {m c : Int} (h1 : c ≠ 34) (h2 : c < 32) : stepQ ⟨l, false, 0, m, false⟩ c = (false, 2, ⟨l, false, 0, m, false⟩) := by
  unfold stepQ
  simp only [Bool.false_eq_true, if_false, Int.lt_irrefl, if_neg h1, if_pos h2]
theorem stop_end {l : List Int} {m : Int} : stepQ ⟨l, false, 0, m, false⟩ 34 = (true, 0, ⟨l, false, 0, m, true⟩) := rfl
theorem stop_dig {l : List Int} {f n b : Int} (hf : 0 < f) (hb : hexN b < 0) : stepQ ⟨l, false, f, n, false⟩ b = (false, 9, ⟨l, false, f, n, false⟩) := by
  unfold stepQ digQ
  simp only [Bool.false_eq_true, if_false, if_pos hf, if_pos hb]
theorem last_i {s : ByteArray} {l : List Int} {n b : Int} {i : Nat} (h : allS s = allI (b :: tailN s (i + 1)) ⟨l, false, 1, n, false⟩ i) (hb : 0 ≤ hexN b) : LastI s l (16 * n + hexN b) i := by
  have hs : stepQ ⟨l, false, 1, n, false⟩ b = (false, digQ ⟨l, false, 1, n, false⟩ b) := by
    unfold stepQ
    simp only [Bool.false_eq_true, if_false, if_pos (by omega : (0 : Int) < 1)]
  have hd : digQ ⟨l, false, 1, n, false⟩ b = if mayN (16 * n + hexN b) then addQ ⟨l, false, 0, 16 * n + hexN b, false⟩ (bnums (putS (16 * n + hexN b)).data.toList) else (9, ⟨l, false, 0, 16 * n + hexN b, false⟩) := by
    unfold digQ
    simp only [if_neg (by omega : ¬ hexN b < 0), if_neg (by omega : ¬ (1 : Int) < 1)]
  have hlen : (bnums (putS (16 * n + hexN b)).data.toList).length = (putS (16 * n + hexN b)).size := (bnums_len _).trans (size_data _)
  rw [hd] at hs
  refine ⟨fun hm => ?_, fun hm hf => ?_, fun hm hf => ?_⟩
  · rw [if_neg (by simp [hm])] at hs
    exact ⟨_, by rw [h, allI_stop hs (.inr (by decide))]⟩
  · rw [if_pos hm] at hs
    unfold addQ at hs
    rw [if_pos (by rw [hlen]; exact hf)] at hs
    exact ⟨_, by rw [h, allI_stop hs (.inr (by decide))]⟩
  · rw [if_pos hm] at hs
    unfold addQ at hs
    rw [if_neg (by rw [hlen]; exact hf)] at hs
    rw [h, allI_step hs]
end Go.Proofs.YtadbjbnnmooicaaDoor.Qw
