/- More words of this hand: arguments that are slices of whole numbers; a row made shorter. -/
import Derived.Test.YtalaedpiimdcbaaOwn
import Derived.SizedLaws
namespace Go.Proofs.Ytalaedpiimdcbaa.Own
open Go.RowKit Go.Proofs.YtalaedpiimdcbaaW.PrintWords Go.Proofs.YtalaedpiimdcbaaW.PrintLast
set_option linter.unusedVariables false
set_option linter.unusedSimpArgs false

/-- A slice of whole numbers that came in. -/
def IsRow (k : IntKind) (w : World) (a : Option Addr) (len cap : Nat) (zs : List Int) : Prop :=
  (a = none ∧ len = 0 ∧ cap = 0 ∧ zs = []) ∨
  ∃ x, a = some x ∧ len ≤ cap ∧ cap ≤ maxLen ∧ zs.length = cap ∧ (∀ i, i < zs.length → w.cell? (x.add i) = some (.int k (zs.getD i 0))) ∧ ∀ n ∈ zs, (Lit.int k n).wf = true
theorem IsRow.len_le {k : IntKind} {w : World} {a : Option Addr} {len cap : Nat} {zs : List Int} (h : IsRow k w a len cap zs) : len ≤ zs.length ∧ zs.length = cap ∧ cap ≤ maxLen := by
  rcases h with ⟨_, rfl, rfl, rfl⟩ | ⟨x, _, h1, h2, h3, _⟩
  · exact ⟨Nat.le_refl _, rfl, Nat.zero_le _⟩
  · exact ⟨by omega, h3, h2⟩
/-- An element that is there. -/
theorem IsRow.at_ {k : IntKind} {w : World} {a : Option Addr} {len cap : Nat} {zs : List Int} (h : IsRow k w a len cap zs) (i : Nat) (hi : i < len) :
    ∃ x, a = some x ∧ w.cell? (x.add i) = some (.int k (zs.getD i 0)) ∧ (Lit.int k (zs.getD i 0)).wf = true := by
  rcases h with ⟨_, rfl, _⟩ | ⟨x, e, h1, h2, h3, h4, h5⟩
  · omega
  · refine ⟨x, e, h4 i (by omega), h5 _ ?_⟩
    have hl : i < zs.length := by omega
    simp only [List.getD, List.getElem?_eq_getElem hl, Option.getD_some]
    exact List.getElem_mem hl
theorem IsRow.below {k : IntKind} {w w' : World} {a : Option Addr} {len cap : Nat} {zs : List Int} (h : IsRow k w a len cap zs) (hb : Below w.heap.size w w') : IsRow k w' a len cap zs := by
  rcases h with h | ⟨x, e, h1, h2, h3, h4, h5⟩
  · exact .inl h
  · exact .inr ⟨x, e, h1, h2, h3, fun i hi => below_cell hb (h4 i hi), h5⟩

/-- A byte as a number, and back. -/
theorem byte_of {n : Int} (h : (Lit.int .u8 n).wf = true) : ∃ u : UInt8, n = (u.toNat : Int) := by
  have hb : 0 ≤ n ∧ n ≤ 255 := by
    simp [Lit.wf, IntKind.min, IntKind.max, IntKind.signed, IntKind.bits] at h
    omega
  exact ⟨UInt8.ofNat n.toNat, by simp; omega⟩
/-- Bytes as numbers. -/
def bnums (l : List UInt8) : List Int := l.map fun b => (b.toNat : Int)
theorem bnums_str (l : List UInt8) : (strOfNums (bnums l)).data.toList = l := by
  rw [strOfNums_data]
  unfold bnums
  rw [List.map_map]
  have : (fun n : Int => UInt8.ofNat n.toNat) ∘ (fun b : UInt8 => (b.toNat : Int)) = id := by funext b; simp
  rw [this, List.map_id]
theorem bnums_len (l : List UInt8) : (bnums l).length = l.length := by simp [bnums]
theorem bnums_app (l : List UInt8) (b : UInt8) : bnums (l ++ [b]) = bnums l ++ [(b.toNat : Int)] := by simp [bnums]

/-- A row without its last number. -/
theorem R_init {k : IntKind} {e : Nat} {w : World} {base : Nat} {ok : Nat → Prop} {A : Option Addr} {n c : Nat} {xs : List Int} {x : Int} (h : (Kd.int k).R e w base ok (.slice A n c) (xs ++ [x])) :
    (Kd.int k).R e w base ok (.slice A xs.length c) xs := by
  have ho := Kd.own_of_R h
  obtain ⟨hn, hc, _⟩ := Kd.R_reads' h
  have hl : (xs ++ [x]).length = xs.length + 1 := by simp
  rw [hn] at ho
  have ht := own_take (m := xs.length) ho (by omega)
  have he : (encs (Value.int k) (xs ++ [x])).take (xs.length * 1) = encs (Value.int k) xs := by simp [encs]
  rw [he] at ht
  refine Kd.R_of_own ht (fun g hg => h.1 g ?_)
  cases A
  · simp [Value.ownBlock] at hg
  · simpa [Value.ownBlock] using hg
/-- How long a slice is, as data. -/
def sliceLen {H : Type} : DataW H → Nat
  | .slice elems _ => elems.length
  | _ => 0
end Go.Proofs.Ytalaedpiimdcbaa.Own
