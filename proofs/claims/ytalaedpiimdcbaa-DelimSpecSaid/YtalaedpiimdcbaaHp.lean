/- Words of this hand: what changed between two worlds, told by owner and type; rows of the call's own at any place of their block, and append onto them. -/
import Derived.Test.YtalaedpiimdcbaaOwn4
import Derived.ArgAppend
namespace Go.Proofs.Ytalaedpiimdcbaa.Hp
open Go Go.RowKit Go.Proofs.YtalaedpiimdcbaaW.PrintWords Go.Proofs.YtalaedpiimdcbaaW.PrintLast Go.Proofs.Ytalaedpiimdcbaa.Own
set_option linter.unusedVariables false
set_option linter.unusedSimpArgs false

/-- A block's element type, if it holds cells. -/
def oty : Obj → Option Nat
  | .cells _ t _ => some t
  | _ => none
/-- The blocks of F, and all that are new. -/
def ext (F : Nat → Prop) (w : World) (k : Nat) : Prop := F k ∨ w.heap.size ≤ k
/-- Of what was there only blocks of F, of a type of T, are other than they were. -/
structure Ch (T : Option Nat → Prop) (F : Nat → Prop) (w w' : World) : Prop where
  os : w'.os = w.os
  tape : w'.tape = w.tape
  output : w'.output = w.output
  size : w.heap.size ≤ w'.heap.size
  block : ∀ k o, w.heap[k]? = some o → ¬ (F k ∧ T (oty o)) → w'.heap[k]? = some o
section
variable {T T' : Option Nat → Prop} {F F' : Nat → Prop} {w w1 w2 : World}
theorem ext_of {k : Nat} (h : F k) : ext F w k := .inl h
theorem ext_mono {k : Nat} (hs : w.heap.size ≤ w1.heap.size) (h : ext (ext F w) w1 k) : ext F w k := by
  rcases h with h | h
  · exact h
  · exact .inr (Nat.le_trans hs h)
theorem Ch.refl (T : Option Nat → Prop) (F : Nat → Prop) (w : World) : Ch T F w w := ⟨rfl, rfl, rfl, Nat.le_refl _, fun _ _ h _ => h⟩
theorem Ch.mono (h : Ch T F w w1) (hT : ∀ t, T t → T' t) (hF : ∀ k, F k → F' k) : Ch T' F' w w1 := ⟨h.os, h.tape, h.output, h.size, fun k o h1 h2 => h.block k o h1 (fun h3 => h2 ⟨hF k h3.1, hT _ h3.2⟩)⟩
theorem Ch.trans (h : Ch T F w w1) (k : Ch T (ext F w) w1 w2) : Ch T F w w2 :=
  ⟨k.os.trans h.os, k.tape.trans h.tape, k.output.trans h.output, Nat.le_trans h.size k.size, fun i o h1 h2 =>
    k.block i o (h.block i o h1 h2) (fun h3 => h2 ⟨by
      rcases h3.1 with h4 | h4
      · exact h4
      · exact absurd (blk_lt h1) (by omega), h3.2⟩)⟩
theorem Ch.of_below (h : Below w.heap.size w w1) : Ch T F w w1 := ⟨h.os, h.tape, h.output, h.size, fun k o h1 _ => (h.block k (blk_lt h1)).trans h1⟩
theorem Ch.below {B : Nat} (h : Ch T F w w1) (hF : ∀ k, F k → B ≤ k) (hB : B ≤ w.heap.size) : Below B w w1 := ⟨h.os, h.tape, h.output, h.size, fun k hk => by
  have he : w.heap[k]? = some (w.heap[k]'(by omega)) := Array.getElem?_eq_getElem (by omega)
  rw [h.block k _ he (fun h2 => by have := hF k h2.1; omega), he]⟩
end
section
variable {T : Option Nat → Prop} {F : Nat → Prop} {w w1 : World}
theorem Ch.set {g t : Nat} {cs : Array Value} (hb : w.heap[g]? = some (.cells cs t (0, 0))) (hF : F g) (hT : T (some t)) (i : Nat) (v : Value) : Ch T F w (w.setCell ⟨g, i, none⟩ v) := by
  have h := (Below.refl 0 w).setCell (p := ⟨g, i, none⟩) (Nat.zero_le _) v
  refine ⟨h.os, h.tape, h.output, h.size, fun k o hk hne => ?_⟩
  by_cases hkg : k = g
  · subst hkg
    rw [hb] at hk
    injection hk with hk
    subst hk
    exact absurd ⟨hF, hT⟩ hne
  · exact (Below.heap_setCell _ _ _ _ hkg).trans hk
theorem Ch.blk {g t : Nat} {cs : Array Value} (h : Ch T F w w1) (hb : w.heap[g]? = some (.cells cs t (0, 0))) (hn : ¬ (F g ∧ T (some t))) : w1.heap[g]? = some (.cells cs t (0, 0)) := h.block g _ hb hn
end
/-- A row of cells: n things of sz cells each, at any place of a block of F. -/
def Row (F : Nat → Prop) (w : World) (e sz : Nat) (v : Value) (n : Nat) (xs : List Value) : Prop :=
  xs.length = n * sz ∧ ((v = .slice none 0 0 ∧ n = 0) ∨ ∃ b o c cur, v = .slice (some ⟨b, o, none⟩) n c ∧ F b ∧ w.heap[b]? = some (.cells cur e (0, 0)) ∧ n ≤ c ∧ c ≤ maxLen ∧ o + c * sz ≤ cur.size ∧ ∀ j u, xs[j]? = some u → cur[o + j]? = some u)
section
variable {F F' G : Nat → Prop} {w w1 : World} {e sz n : Nat} {v : Value} {xs : List Value} {T : Option Nat → Prop}
theorem Row.nil (F : Nat → Prop) (w : World) (e sz : Nat) : Row F w e sz (.slice none 0 0) 0 [] := ⟨by simp, .inl ⟨rfl, rfl⟩⟩
theorem Row.mono (h : Row F w e sz v n xs) (hF : ∀ k, F k → F' k) : Row F' w e sz v n xs := by
  refine ⟨h.1, ?_⟩
  rcases h.2 with h2 | ⟨b, o, c, cur, h1, h2, h3⟩
  · exact .inl h2
  · exact .inr ⟨b, o, c, cur, h1, hF b h2, h3⟩
theorem Row.keep (h : Row F w e sz v n xs) (hk : ∀ k cs, F k → w.heap[k]? = some (.cells cs e (0, 0)) → w1.heap[k]? = some (.cells cs e (0, 0))) : Row F w1 e sz v n xs := by
  refine ⟨h.1, ?_⟩
  rcases h.2 with h2 | ⟨b, o, c, cur, h1, h2, h3, h4⟩
  · exact .inl h2
  · exact .inr ⟨b, o, c, cur, h1, h2, hk b cur h2 h3, h4⟩
theorem Row.ch (h : Row F w e sz v n xs) (hc : Ch T G w w1) (hT : ¬ T (some e)) : Row F w1 e sz v n xs := h.keep (fun k cs _ hb => hc.block k _ hb (fun h2 => hT h2.2))
theorem Row.far (h : Row F w e sz v n xs) (hc : Ch T G w w1) (hd : ∀ k, F k → ¬ G k) : Row F w1 e sz v n xs := h.keep (fun k cs hk hb => hc.block k _ hb (fun h2 => hd k hk h2.1))
theorem Row.below (h : Row F w e sz v n xs) (hb : Below w.heap.size w w1) : Row F w1 e sz v n xs := h.keep (fun k cs _ h2 => (hb.block k (blk_lt h2)).trans h2)
theorem Row.bound (h : Row F w e sz v n xs) : Row (fun k => F k ∧ k < w.heap.size) w e sz v n xs := by
  refine ⟨h.1, ?_⟩
  rcases h.2 with h2 | ⟨b, o, c, cur, h1, h2, h3, h4⟩
  · exact .inl h2
  · exact .inr ⟨b, o, c, cur, h1, ⟨h2, blk_lt h3⟩, h3, h4⟩
theorem Row.slice (h : Row F w e sz v n xs) : ∃ A c, v = .slice A n c ∧ n ≤ c ∧ c ≤ maxLen := by
  rcases h.2 with ⟨rfl, rfl⟩ | ⟨b, o, c, cur, rfl, _, _, h4, h5, _⟩
  · exact ⟨none, 0, rfl, Nat.le_refl _, Nat.zero_le _⟩
  · exact ⟨_, _, rfl, h4, h5⟩
/-- A row that is not empty, opened. -/
theorem Row.open_ (h : Row F w e sz v n xs) (hn : n ≠ 0) : ∃ b o c, v = .slice (some ⟨b, o, none⟩) n c ∧ n ≤ c ∧ F b ∧ (∀ j u, xs[j]? = some u → w.cell? ⟨b, o + j, none⟩ = some u) ∧ ∃ cur, w.heap[b]? = some (.cells cur e (0, 0)) := by
  rcases h.2 with ⟨_, h2⟩ | ⟨b, o, c, cur, rfl, h2, h3, h4, h5, h6, h7⟩
  · exact absurd h2 hn
  · exact ⟨b, o, c, rfl, h4, h2, fun j u hj => (blk_cell h3 (o + j)).trans (h7 j u hj), cur, h3⟩
/-- The first things of a row, with all its spare. -/
theorem Row.take {A : Option Addr} {m c c' : Nat} (h : Row F w e sz (.slice A n c) n xs) (hm : m ≤ n) (hc : m ≤ c') (hcc : c' ≤ c) : Row F w e sz (.slice A m c') m (xs.take (m * sz)) := by
  have hl : m * sz ≤ n * sz := Nat.mul_le_mul_right _ hm
  refine ⟨by rw [List.length_take, h.1]; omega, ?_⟩
  rcases h.2 with ⟨h1, h2⟩ | ⟨b, o, c1, cur, h1, h2, h3, h4, h5, h6, h7⟩
  · injection h1 with h1 h1' h1''
    subst h1
    have e1 : m = 0 := by omega
    have e2 : c' = 0 := by omega
    subst e1; subst e2
    exact .inl ⟨rfl, rfl⟩
  · injection h1 with h1 h1' h1''
    subst h1; subst h1''
    have h8 : c' * sz ≤ c * sz := Nat.mul_le_mul_right _ hcc
    refine .inr ⟨b, o, c', cur, rfl, h2, h3, hc, by omega, by omega, fun j u hj => h7 j u ?_⟩
    rw [List.getElem?_take] at hj
    split at hj
    · exact hj
    · cases hj
/-- A row without its first thing. -/
theorem Row.drop1 {b o m c : Nat} (h : Row F w e sz (.slice (some ⟨b, o, none⟩) (m + 1) c) (m + 1) xs) : Row F w e sz (.slice (some (if c = 1 then ⟨b, o, none⟩ else ⟨b, o + sz, none⟩)) m (c - 1)) m (xs.drop sz) := by
  refine ⟨by rw [List.length_drop, h.1, Nat.add_mul]; omega, ?_⟩
  rcases h.2 with ⟨h1, _⟩ | ⟨b1, o1, c1, cur, h1, h2, h3, h4, h5, h6, h7⟩
  · cases h1
  · injection h1 with h1 h1' h1''
    injection h1 with h1
    injection h1 with hb ho
    subst hb; subst ho; subst h1''
    by_cases hc : c = 1
    · have hm : m = 0 := by omega
      subst hm
      rw [if_pos hc]
      subst hc
      refine .inr ⟨b, o, 0, cur, rfl, h2, h3, Nat.le_refl _, Nat.zero_le _, by omega, fun j u hj => ?_⟩
      have : xs.drop sz = [] := List.drop_of_length_le (by have := h.1; omega)
      rw [this] at hj
      cases hj
    · rw [if_neg hc]
      have h8 : (c - 1) * sz + sz = c * sz := by
        conv => rhs; rw [show c = (c - 1) + 1 by omega, Nat.add_mul]
        omega
      refine .inr ⟨b, o + sz, c - 1, cur, rfl, h2, h3, by omega, by omega, by omega, fun j u hj => ?_⟩
      rw [List.getElem?_drop] at hj
      have := h7 (sz + j) u hj
      rwa [← Nat.add_assoc] at this
end
section
variable {P : Program} {F : Nat → Prop} {W : World}
theorem run_append_room_at (t ty e : TypeId) (i : TypeInfo) (ht : P.underlying t = some (.slice e)) (hi : P.info? e = some i)
    (g o sLen sCap : Nat) (cur : Array Value) (hg : W.heap[g]? = some (.cells cur e (0, 0)))
    (a : Addr) (m c : Nat) (news : List Value) (hl : news.length = m * i.size) (hnews : ∀ j u, news[j]? = some u → W.cell? (a.add j) = some u) (h1 : ∀ u ∈ news, u.oneCell' = true)
    (hroom : sLen + m ≤ sCap) (hfit : o + sLen * i.size + news.length ≤ cur.size) :
    (Builtin.append_ #[t, t] ty #[.slice (some ⟨g, o, none⟩) sLen sCap, .slice (some a) m c]).run P W =
      .ok (.slice (some ⟨g, o, none⟩) (sLen + m) sCap) (W.setRow g (cur.toList.take (o + sLen * i.size) ++ news ++ cur.toList.drop (o + sLen * i.size + news.length)).toArray) := by
  have hf := run_firstCells_some (P := P) W i.size m a m c news hl hnews
  have hst := run_storeCells_at P g (o + sLen * i.size) e news 0 cur W hg (by simpa using hfit) h1
  simp only [Nat.add_zero] at hst
  simp [Builtin.append_, run_underlying ht, sizeOf, typeInfo, hi, Builtin.lenOf, hroom, hf, Addr.add_lit, hst]
theorem run_row_append (t ty e : TypeId) (z : Value) (sz bytes : Nat)
    (ht : P.underlying t = some (.slice e)) (hinfo : (P.info? e).map (fun i => (i.zero, i.size, i.bytes)) = some (some z, sz, bytes)) (hz : z.cells.size = sz) (hs0 : 0 < sz)
    (v : Value) (n : Nat) (xs cs : List Value) (hc : cs.length = sz) (h1 : ∀ u ∈ cs, u.oneCell' = true) (HR : Row F W e sz v n xs) (hn : (n + 1) * bytes ≤ 140737488355328) (hmx : n + 1 ≤ maxLen) :
    ∃ v1 w1, (Builtin.append_ #[t, t] ty #[v, .slice (some ⟨W.heap.size, 0, none⟩) 1 1]).run P (W.alloc (.cells cs.toArray e)) = .ok v1 w1 ∧ Row (ext F W) w1 e sz v1 (n + 1) (xs ++ cs) ∧ Ch (fun t => t = some e) F W w1 := by
  obtain ⟨i, hi, hz1, hsz, hby⟩ := info_parts hinfo
  have hl1 : cs.length = 1 * i.size := by rw [hc, hsz]; omega
  have hnew : ∀ j u, cs[j]? = some u → (W.alloc (.cells cs.toArray e)).cell? ((⟨W.heap.size, 0, none⟩ : Addr).add j) = some u := fun j u hj => by
    rw [add_plain, blk_cell (blk_new W (.cells cs.toArray e (0, 0))) j]
    simpa using hj
  have ha : Ch (fun t => t = some e) F W (W.alloc (.cells cs.toArray e)) := Ch.of_below (below_alloc (Below.refl _ _) _)
  have hasz : (W.alloc (.cells cs.toArray e)).heap.size = W.heap.size + 1 := by simp
  rcases HR.2 with ⟨rfl, rfl⟩ | ⟨b, o, c, cur, rfl, h2, h3, h4, h5, h6, h7⟩
  · have hx : xs = [] := List.eq_nil_of_length_eq_zero (by simpa using HR.1)
    subst hx
    obtain ⟨v', w', hrun, ho, hg, _⟩ := run_append_own (P := P) (W.alloc (.cells cs.toArray e)) (W.alloc (.cells cs.toArray e)).heap.size t ty e i z sz bytes ht hi hz1 hsz hby hz hs0 (.slice none 0 0) 0 [] (World.ownsRow_nil _ _ e sz) ⟨W.heap.size, 0, none⟩ 1 1 cs (by rw [hl1, hsz]) hnew h1 hmx hn (Nat.le_refl _)
    refine ⟨v', w', hrun, ?_, ha.trans ⟨hg.os, hg.tape, hg.output, hg.size, fun k o hk _ => (hg.block k (blk_lt hk) (by simp [Value.ownBlock])).trans hk⟩⟩
    refine ⟨by rw [ho.1], ?_⟩
    rcases ho.2 with ⟨_, h0⟩ | ⟨g, cap, cur, rfl, hbg, hgh, hnc, hcm, hcs, htk⟩
    · omega
    · refine .inr ⟨g, 0, cap, cur, rfl, .inr (by omega), hgh, hnc, hcm, by omega, fun j u hj => ?_⟩
      rw [← htk, List.getElem?_take] at hj
      split at hj
      · rw [Nat.zero_add, ← Array.getElem?_toList]; exact hj
      · cases hj
  · have h3a : (W.alloc (.cells cs.toArray e)).heap[b]? = some (.cells cur e (0, 0)) := (Below.heap_alloc W _ b (blk_lt h3)).trans h3
    by_cases hroom : n + 1 ≤ c
    · have hcz : (n + 1) * sz ≤ c * sz := Nat.mul_le_mul_right _ hroom
      rw [Nat.add_mul] at hcz
      have hfit : o + n * i.size + cs.length ≤ cur.size := by rw [hsz, hc]; omega
      have hr := run_append_room_at (P := P) (W := W.alloc (.cells cs.toArray e)) t ty e i ht hi b o n c cur h3a ⟨W.heap.size, 0, none⟩ 1 1 cs hl1 hnew h1 hroom hfit
      rw [hsz] at hr hfit
      refine ⟨_, _, hr, ⟨by rw [List.length_append, HR.1, hc, Nat.add_mul]; omega, .inr ⟨b, o, c, _, rfl, .inl h2, setRow_heap _ b cur _ e _ h3a, hroom, h5, ?_, fun j u hj => ?_⟩⟩,
        ha.trans ⟨rfl, rfl, rfl, by simp [World.setRow], fun k q hk hne => ?_⟩⟩
      · simp only [List.size_toArray, List.length_append, List.length_take, List.length_drop, Array.length_toList]
        omega
      · rw [List.getElem?_toArray]
        by_cases hj1 : j < xs.length
        · rw [List.getElem?_append_left hj1] at hj
          have hj2 : j < n * sz := by rw [← HR.1]; exact hj1
          rw [List.append_assoc, List.getElem?_append_left (by rw [List.length_take, Array.length_toList]; omega), List.getElem?_take, if_pos (by omega), Array.getElem?_toList]
          exact h7 j u hj
        · rw [List.getElem?_append_right (by omega)] at hj
          have hj3 : j - xs.length < cs.length := by
            rcases Nat.lt_or_ge (j - xs.length) cs.length with h | h
            · exact h
            · rw [List.getElem?_eq_none h] at hj; cases hj
          have hx1 := HR.1
          have hL : (cur.toList.take (o + n * sz)).length = o + n * sz := by rw [List.length_take, Array.length_toList]; omega
          rw [List.append_assoc, List.getElem?_append_right (by rw [hL]; omega), hL, show o + j - (o + n * sz) = j - xs.length by omega, List.getElem?_append_left hj3]
          exact hj
      · by_cases hkb : k = b
        · subst hkb
          rw [h3a] at hk
          injection hk with hk
          subst hk
          exact absurd ⟨.inl h2, rfl⟩ hne
        · rw [setRow_other _ b k _ hkb]; exact hk
    · obtain ⟨v', w', hrun, ho, hg⟩ := run_append_arg_grows (P := P) (W.alloc (.cells cs.toArray e)) t ty e i z sz bytes ht hi hz1 hsz hby hz hs0 ⟨b, o, none⟩ n c xs HR.1 (fun j u hj => by
          rw [Addr.add_lit, blk_cell h3a]; exact h7 j u hj) ⟨W.heap.size, 0, none⟩ 1 1 cs (by rw [hl1, hsz]) hnew (by omega) hmx hn
      refine ⟨v', w', hrun, ?_, ha.trans ⟨hg.os, hg.tape, hg.output, hg.size, fun k o hk _ => (hg.block k (blk_lt hk) (by simp)).trans hk⟩⟩
      refine ⟨by rw [ho.1], ?_⟩
      rcases ho.2 with ⟨_, h0⟩ | ⟨g, cap, cur', rfl, hbg, hgh, hnc, hcm, hcs, htk⟩
      · omega
      · refine .inr ⟨g, 0, cap, cur', rfl, .inr (by omega), hgh, hnc, hcm, by omega, fun j u hj => ?_⟩
        rw [← htk, List.getElem?_take] at hj
        split at hj
        · rw [Nat.zero_add, ← Array.getElem?_toList]; exact hj
        · cases hj
end
section
variable {P : Program} {ops : Array Oper} {rest : List Oper} {o : Oper} {a : Act} {Q : Exit → Act → World → Prop} {Kc : Act → World → Prop} {F : Nat → Prop} {W : World}
/-- append of one thing, behind the making of its row. -/
theorem row_append (hgd : o.guard = none) (s x : Operand) (t e : TypeId) (z : Value) (sz bytes : Nat)
    (ho : o.op = .call { callee := .builtin .append, args := #[s, x], argTypes := #[t, t] })
    (ht : P.underlying t = some (.slice e)) (hinfo : (P.info? e).map (fun i => (i.zero, i.size, i.bytes)) = some (some z, sz, bytes)) (hz : z.cells.size = sz) (hs0 : 0 < sz)
    (v : Value) (n : Nat) (xs cs : List Value) (hs : a.eval s = v) (hx : a.eval x = .slice (some ⟨W.heap.size, 0, none⟩) 1 1) (hc : cs.length = sz) (h1 : ∀ u ∈ cs, u.oneCell' = true) (HR : Row F W e sz v n xs) (hn : (n + 1) * bytes ≤ 140737488355328) (hmx : n + 1 ≤ maxLen)
    (h : ∀ v1 w1, Row (ext F W) w1 e sz v1 (n + 1) (xs ++ cs) → Ch (fun t => t = some e) F W w1 → wpList P ops Q rest (a.put o.dst v1) w1) : wpList P ops Q (o :: rest) a (W.alloc (.cells cs.toArray e)) := by
  obtain ⟨v1, w1, hrun, h2, h3⟩ := run_row_append (P := P) t o.type e z sz bytes ht hinfo hz hs0 v n xs cs hc h1 HR hn hmx
  refine wpList_plain hgd fun K hK => ?_
  unfold Oper.wp execOp
  simp only [ho, resolve, invoke, builtin, Sem.run_bind, Sem.run_pure, Result.andThen_ok, List.map_toArray, List.map_cons, List.map_nil, hs, hx, hrun]
  exact hK _ _ (h v1 w1 h2 h3)
theorem row_append_step (hw : Region.wanted o (yielded ops a.tmps) = true) (s x : Operand) (t e : TypeId) (z : Value) (sz bytes : Nat)
    (ho : o.op = .call { callee := .builtin .append, args := #[s, x], argTypes := #[t, t] })
    (ht : P.underlying t = some (.slice e)) (hinfo : (P.info? e).map (fun i => (i.zero, i.size, i.bytes)) = some (some z, sz, bytes)) (hz : z.cells.size = sz) (hs0 : 0 < sz)
    (v : Value) (n : Nat) (xs cs : List Value) (hs : a.eval s = v) (hx : a.eval x = .slice (some ⟨W.heap.size, 0, none⟩) 1 1) (hc : cs.length = sz) (h1 : ∀ u ∈ cs, u.oneCell' = true) (HR : Row F W e sz v n xs) (hn : (n + 1) * bytes ≤ 140737488355328) (hmx : n + 1 ≤ maxLen)
    (h : ∀ v1 w1, Row (ext F W) w1 e sz v1 (n + 1) (xs ++ cs) → Ch (fun t => t = some e) F W w1 → Kc (a.put o.dst v1) w1) : if Region.wanted o (yielded ops a.tmps) = true then Oper.wp P o a (W.alloc (.cells cs.toArray e)) Kc Q else Kc (a.put o.dst undef) (W.alloc (.cells cs.toArray e)) := by
  obtain ⟨v1, w1, hrun, h2, h3⟩ := run_row_append (P := P) t o.type e z sz bytes ht hinfo hz hs0 v n xs cs hc h1 HR hn hmx
  rw [if_pos hw]
  unfold Oper.wp execOp
  simp only [ho, resolve, invoke, builtin, Sem.run_bind, Sem.run_pure, Result.andThen_ok, List.map_toArray, List.map_cons, List.map_nil, hs, hx, hrun]
  exact h v1 w1 h2 h3
end
end Go.Proofs.Ytalaedpiimdcbaa.Hp
