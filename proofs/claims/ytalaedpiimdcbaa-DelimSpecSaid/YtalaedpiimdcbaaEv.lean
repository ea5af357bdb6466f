/- Events, as data; texts and bytes as cells. -/
import Derived.Test.YtalaedpiimdcbaaHp
namespace Go.Proofs.Ytalaedpiimdcbaa.Hp
open Go Go.RowKit Go.Proofs.YtalaedpiimdcbaaW.PrintWords Go.Proofs.YtalaedpiimdcbaaW.PrintLast Go.Proofs.Ytalaedpiimdcbaa.Own
set_option linter.unusedVariables false
set_option linter.unusedSimpArgs false
def bs (l : List UInt8) : ByteArray := ⟨l.toArray⟩
theorem bs_list (l : List UInt8) : (bs l).data.toList = l := by simp [bs]
theorem bs_of (s : ByteArray) : bs s.data.toList = s := by cases s; simp [bs]
theorem bs_size (l : List UInt8) : (bs l).size = l.length := by simp [bs, ByteArray.size]
theorem bs_inj {a b : List UInt8} (h : bs a = bs b) : a = b := by rw [← bs_list a, h, bs_list]
theorem bs_nil : bs [] = ⟨#[]⟩ := rfl
def noT : ByteArray := ⟨#[]⟩
/-- An event. -/
structure Ev where
  k : Int
  t : ByteArray
  v : ByteArray
def ev (k : Int) (t : ByteArray) : Ev := ⟨k, t, noT⟩
def evC (x : Ev) : List Value := [.int .i64 x.k, .string x.t, .string x.v]
def evCs (l : List Ev) : List Value := l.flatMap evC
theorem evC_len (x : Ev) : (evC x).length = 3 := rfl
theorem evCs_app (l m : List Ev) : evCs (l ++ m) = evCs l ++ evCs m := by simp [evCs]
theorem evCs_one (l : List Ev) (x : Ev) : evCs (l ++ [x]) = evCs l ++ evC x := by simp [evCs]
theorem evCs_cons (x : Ev) (l : List Ev) : evCs (x :: l) = evC x ++ evCs l := by simp [evCs]
theorem evCs_len (l : List Ev) : (evCs l).length = l.length * 3 := by
  induction l with
  | nil => rfl
  | cons x r ih => rw [evCs_cons, List.length_append, ih, evC_len, List.length_cons]; omega
theorem evCs_take (l : List Ev) (m : Nat) : (evCs l).take (m * 3) = evCs (l.take m) := by
  induction l generalizing m with
  | nil => simp [evCs]
  | cons x r ih =>
    cases m with
    | zero => simp [evCs]
    | succ m =>
      rw [List.take_succ_cons, evCs_cons, evCs_cons, Nat.add_mul, Nat.add_comm, List.take_append, evC_len, Nat.add_sub_cancel_left, ih]
      rw [List.take_of_length_le (by rw [evC_len]; omega)]
theorem evCs_drop1 (x : Ev) (l : List Ev) : (evCs (x :: l)).drop 3 = evCs l := by rw [evCs_cons]; exact (List.drop_left (l₁ := evC x) (l₂ := evCs l))
theorem evCs_get (l : List Ev) (i : Nat) (h : i < l.length) : (evCs l)[i * 3]? = some (.int .i64 l[i].k) ∧ (evCs l)[i * 3 + 1]? = some (.string l[i].t) ∧ (evCs l)[i * 3 + 2]? = some (.string l[i].v) := by
  induction l generalizing i with
  | nil => exact absurd h (Nat.not_lt_zero _)
  | cons x r ih =>
    cases i with
    | zero => exact ⟨rfl, rfl, rfl⟩
    | succ i =>
      have h2 := ih i (by simpa using h)
      rw [evCs_cons]
      have e : ∀ j, (evC x ++ evCs r)[(i + 1) * 3 + j]? = (evCs r)[i * 3 + j]? := fun j => by
        rw [List.getElem?_append_right (by rw [evC_len]; omega), evC_len]
        congr 1
        omega
      exact ⟨(e 0).trans h2.1, (e 1).trans h2.2.1, (e 2).trans h2.2.2⟩
theorem evC_one (x : Ev) : ∀ u ∈ evC x, u.oneCell' = true := by
  intro u hu
  simp only [evC, List.mem_cons, List.not_mem_nil, or_false] at hu
  rcases hu with rfl | rfl | rfl <;> rfl
/-- Bytes as cells. -/
def u8C (l : List UInt8) : List Value := l.map fun b => .int .u8 (b.toNat : Int)
def stC (l : List ByteArray) : List Value := l.map fun s => .string s
theorem u8C_len (l : List UInt8) : (u8C l).length = l.length := by simp [u8C]
theorem stC_len (l : List ByteArray) : (stC l).length = l.length := by simp [stC]
theorem u8C_one (l : List UInt8) (b : UInt8) : u8C (l ++ [b]) = u8C l ++ [.int .u8 (b.toNat : Int)] := by simp [u8C]
theorem stC_one (l : List ByteArray) (s : ByteArray) : stC (l ++ [s]) = stC l ++ [.string s] := by simp [stC]
theorem bnums_bs (l : List UInt8) : strOfNums (bnums l) = bs l := by rw [← bs_of (strOfNums (bnums l)), bnums_str]
theorem Row.reads8 {F : Nat → Prop} {w : World} {e n c : Nat} {A : Option Addr} {l : List UInt8} (h : Row F w e 1 (.slice A n c) n (u8C l)) : ReadsInt w .u8 A n (bnums l) := by
  have hl : l.length = n := by have := h.1; rw [u8C_len] at this; omega
  refine ⟨by rw [bnums_len]; exact hl, ?_, fun hn => ?_⟩
  · obtain ⟨A', c', hv, h1, h2⟩ := h.slice
    have h3 : c' ≤ 9223372036854775807 := h2
    omega
  · obtain ⟨b, o, c1, hv, _, _, hc, _⟩ := h.open_ (by omega)
    injection hv with hv1
    subst hv1
    refine ⟨_, rfl, fun j hj => ?_⟩
    rw [Addr.add_lit]
    refine hc j _ ?_
    unfold u8C bnums
    rw [List.getD_eq_getElem?_getD, List.getElem?_map, List.getElem?_map, List.getElem?_eq_getElem (by omega)]
    rfl
section
variable {P : Program} {ops : Array Oper} {rest : List Oper} {o : Oper} {a : Act} {Q : Exit → Act → World → Prop}
/-- 'string(b)' of a row. -/
theorem rowstr_event {W : World} (hgd : o.guard = none) {src dst e e' : TypeId} {x : Operand} (hop : o.op = .convert src dst x) {A : Option Addr} {n c : Nat} (hx : a.eval x = .slice A n c)
    (hs : P.underlying src = some (.slice e)) (he : P.underlying e = some (.int .u8)) (hd : P.underlying dst = some .string) {F : Nat → Prop} {l : List UInt8} (hR : Row F W e' 1 (.slice A n c) n (u8C l))
    (h : wpList P ops Q rest (a.put o.dst (.string (bs l))) W) : wpList P ops Q (o :: rest) a W := by
  refine Kd.event_run hgd (v := .string (bs l)) (w1 := W) ?_ h
  have hr := string_of_reads (c := c) hs he hd hR.reads8
  rw [bnums_bs] at hr
  unfold execOp
  simp only [hop, hx]
  simp [hr]
end
end Go.Proofs.Ytalaedpiimdcbaa.Hp
