/- Words of this hand: a conversion from a string to its bytes as one step of a walk. -/
import Derived.Test.YtalaedpiimdcbaaWMore
import Derived.Lib.ConvBytes
namespace Go.Proofs.Ytalaedpiimdcbaa.Own
open Go.RowKit Go.Proofs.YtalaedpiimdcbaaW.PrintWords Go.Proofs.YtalaedpiimdcbaaW.PrintLast
set_option linter.unusedVariables false
set_option linter.unusedSimpArgs false

theorem below_bytesWorld (w : World) (e : TypeId) (s : ByteArray) : Below w.heap.size w (Lib.bytesWorld w e s) :=
  ⟨by simp [Lib.bytesWorld, World.freeze, World.alloc, World.drew, -World.alloc_eq, -World.drew_eq], by simp [Lib.bytesWorld, World.freeze, World.alloc, World.drew, -World.alloc_eq, -World.drew_eq],
   by simp [Lib.bytesWorld, World.freeze, World.alloc, World.drew, -World.alloc_eq, -World.drew_eq], by rw [Lib.bytesWorld_size]; omega, fun k hk => Lib.bytesWorld_at_old w e s k hk⟩

theorem below_cell {w w' : World} (hb : Below w.heap.size w w') {p : Addr} {v : Value} (h : w.cell? p = some v) : w'.cell? p = some v := by
  have hlt : p.block < w.heap.size := by
    rcases Nat.lt_or_ge p.block w.heap.size with h' | h'
    · exact h'
    · simp [World.cell?, Array.getElem?_eq_none h'] at h
  rw [hb.cell hlt]; exact h
/-- A row of whole numbers that is not empty: its block, its cells. -/
theorem own_ints {k : IntKind} {e : Nat} {w : World} {base : Nat} {ok : Nat → Prop} {v : Value} {x : Int} {xs : List Int} (h : (Kd.int k).R e w base ok v (x :: xs)) :
    ∃ g c, v = .slice (some ⟨g, 0, none⟩) (xs.length + 1) c ∧ base ≤ g ∧ ok g ∧ ∀ j, j < xs.length + 1 → w.cell? ⟨g, j, none⟩ = some (.int k ((x :: xs).getD j 0)) := by
  have ho := Kd.own_of_R h
  rcases ho.2 with ⟨_, h0⟩ | ⟨g, cap, cur, rfl, hg, hh, r⟩
  · exact absurd h0 (by simp)
  · refine ⟨g, cap, rfl, hg, h.1 g (by simp [Value.ownBlock]), fun j hj => ?_⟩
    have hc := ho.cells (g := g) rfl j (.int k ((x :: xs).getD j 0)) (by
      have hl : j < (x :: xs).length := by simpa using hj
      unfold encs
      rw [List.getElem?_map, List.getElem?_eq_getElem hl]
      simp [List.getD, List.getElem?_eq_getElem hl])
    have ha : (⟨g, 0, none⟩ : Addr).add j = ⟨g, j, none⟩ := by unfold Addr.add; simp; intro h; exact h.symm
    rwa [ha] at hc
theorem ret_ints3 {a b c a' b' c' : Int} (h1 : a = a') (h2 : b = b') (h3 : c = c') : Ending.returned (.tuple #[.int .i64 a, .int .i64 b, .int .i64 c]) = .returned (.tuple #[.int .i64 a', .int .i64 b', .int .i64 c']) := by rw [h1, h2, h3]
theorem w64 {x : Int} (h0 : -9223372036854775808 ≤ x) (h1 : x ≤ 9223372036854775807) : wrap64 x = x := by unfold wrap64; omega
theorem bt_get (s : ByteArray) (i : Nat) (h : i < s.size) : bt s (i : Int) = ((s.data.toList.getD i 0).toNat : Int) := by
  have hd : i < s.data.size := h
  unfold bt
  simp only [Int.toNat_natCast]
  rw [dif_pos h]
  have e : s.data.toList.getD i 0 = s[i]'h := by
    simp only [List.getD]
    rw [Array.getElem?_toList, Array.getElem?_eq_getElem hd]
    rfl
  rw [e]
theorem size_data (s : ByteArray) : s.data.toList.length = s.size := by simp
theorem extract_get (s : ByteArray) (a b j : Nat) (hb : b ≤ s.size) (hj : a + j < b) : (s.extract a b).data.toList.getD j 0 = s.data.toList.getD (a + j) 0 := by
  have h : b ≤ s.data.size := hb
  have h1 : j < min b s.data.size - a := by omega
  rw [ByteArray.data_extract]
  simp only [List.getD]
  rw [Array.getElem?_toList, Array.getElem?_toList, Array.getElem?_extract, if_pos h1]
theorem take_snoc (s : ByteArray) (k : Nat) (h : k < s.size) : s.data.toList.take (k + 1) = s.data.toList.take k ++ [s.data.toList.getD k 0] := by
  have hl : k < s.data.toList.length := by have : s.data.size = s.size := rfl; simp; omega
  rw [List.take_succ_eq_append_getElem hl]
  simp [List.getD, List.getElem?_eq_getElem hl]
section
variable {P : Program} {ops : Array Oper} {rest : List Oper} {o : Oper} {a : Act} {Q : Exit → Act → World → Prop}
/-- '[]byte(s)' in a plain region: a new row holds the bytes. -/
theorem conv_event {W : World} (hgd : o.guard = none) {N : Tmp} (_hd : o.dst = some N) {src dst e : TypeId} {x : Operand} {s : ByteArray} {u : TypeDesc}
    (hop : o.op = .convert src dst x) (hx : a.eval x = .string s) (hs : P.underlying src = some u) (hd : P.underlying dst = some (.slice e)) (he : P.underlying e = some (.int .u8))
    (h : ∀ (g c : Nat) (w1 : World), W.heap.size ≤ g → (∀ j, j < s.size → w1.cell? ⟨g, j, none⟩ = some (.int .u8 (s.data.toList.getD j 0).toNat)) → Below W.heap.size W w1 →
      wpList P ops Q rest (a.put o.dst (.slice (some ⟨g, 0, none⟩) s.size c)) w1) : wpList P ops Q (o :: rest) a W := by
  refine Kd.event_run (v := .slice (some ⟨W.heap.size, 0, none⟩) s.size (grownCap W s.size 0 e)) hgd ?_ (h W.heap.size (grownCap W s.size 0 e) (Lib.bytesWorld W e s) (Nat.le_refl _) (fun j hj => Lib.bytesWorld_cell W e s j hj) (below_bytesWorld W e s))
  have hr := Lib.run_convert_string_bytes (P := P) W src dst e s hs hd he
  unfold execOp
  simp only [hop, hx]
  simp [hr]
/-- 'append(s, y0, y1, ..)': the literal's row has just been laid. -/
theorem append_lit {w0 W : World} (k : IntKind) (base : Nat) (hgd : o.guard = none) (s x : Operand) (t e : TypeId) (z : Value) (bytes : Nat)
    (ho : o.op = .call { callee := .builtin .append, args := #[s, x], argTypes := #[t, t] })
    (ht : P.underlying t = some (.slice e)) (hinfo : (P.info? e).map (fun i => (i.zero, i.size, i.bytes)) = some (some z, 1, bytes)) (hz : z.cells.size = 1) (hb0 : 0 < bytes)
    (v : Value) (xs ys : List Int) (m : Nat) (hm : ys.length = m) (ok : Nat → Prop) (hs : a.eval s = v) (hx : a.eval x = .slice (some ⟨W.heap.size, 0, none⟩) m m) (hfresh : ∀ k, W.heap.size ≤ k → ok k)
    (HO : (Kd.int k).R e W base ok v xs) (HB : Below base w0 W) (hbase : base ≤ W.heap.size) (hl : (xs.length + m) * bytes ≤ 140737488355328) (cs : Array Value) (hcs : cs = (ys.map (Value.int k)).toArray)
    (h : ∀ v1 w1, (Kd.int k).R e w1 base ok v1 (xs ++ ys) → Below base w0 w1 → wpList P ops Q rest (a.put o.dst v1) w1) : wpList P ops Q (o :: rest) a (W.alloc (.cells cs e)) := by
  have hlen : xs.length + m ≤ 140737488355328 := Nat.le_trans (Nat.le_mul_of_pos_right _ hb0) hl
  have hsz : (W.alloc (.cells cs e)).heap.size = W.heap.size + 1 := by simp
  refine Kd.R_append_row (Value.int k) (0 : Int) (h1 := fun _ => rfl) (w0 := w0) (W := W.alloc (.cells cs e)) base hgd s x t e z bytes ho ht hinfo hz hb0 v xs ys (some ⟨W.heap.size, 0, none⟩) m m ok hs hx (fun k hk => hfresh k (by omega)) (Kd.R_alloc HO _) ?_ ⟨HB.os, HB.tape, HB.output, by have := HB.size; omega, fun k hk => (Below.heap_alloc W _ k (by omega)).trans (HB.block k hk)⟩ (by omega) hl (fun v1 w1 h1 h2 _ _ => h v1 w1 h1 h2)
  refine ⟨hm, by omega, fun h0 => ⟨_, rfl, fun j p hj => ⟨[Value.int k p], rfl, rfl, fun i u hu => ?_⟩⟩⟩
  have hi : i = 0 ∧ u = Value.int k p := by
    cases i with
    | zero => simp at hu; exact ⟨rfl, hu.symm⟩
    | succ i => simp at hu
  obtain ⟨rfl, rfl⟩ := hi
  have ha : (⟨W.heap.size, 0, none⟩ : Addr).add (j * (Kd.scalar (Value.int k) (fun _ => rfl)).sz + 0) = ⟨W.heap.size, j, none⟩ := by
    show Addr.add _ (j * 1 + 0) = _
    unfold Addr.add; simp; intro h; exact h.symm
  rw [ha]
  have hb := blk_new W (.cells cs e (0, 0))
  rw [blk_cell hb j, hcs]
  simp [hj]
end
end Go.Proofs.Ytalaedpiimdcbaa.Own
