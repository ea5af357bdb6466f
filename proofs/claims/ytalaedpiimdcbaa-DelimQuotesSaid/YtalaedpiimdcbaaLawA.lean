/- More for the laws: rows written over, a copy by append, texts of bytes. -/
import Derived.Test.YtalaedpiimdcbaaDelLives
namespace Go.Proofs.Ytalaedpiimdcbaa.Lw
open Go Go.Lib Go.RowKit Go.Proofs.YtalaedpiimdcbaaW.PrintWords Go.Proofs.YtalaedpiimdcbaaW.PrintLast Go.Proofs.Ytalaedpiimdcbaa.Own Go.Proofs.Ytalaedpiimdcbaa.Hp Go.Proofs.Ytalaedpiimdcbaa.Srcw Go.Proofs.Ytalaedpiimdcbaa.Dl Go.Proofs.Ytalaedpiimdcbaa.Cr
set_option linter.unusedVariables false
set_option linter.unusedSimpArgs false
theorem meas_ {n j k : Nat} (h1 : j < n) (h2 : n - j < k + 1) : n - (j + 1) < k := by omega
theorem Row.at_ {F : Nat → Prop} {w : World} {e sz n c b o : Nat} {xs : List Value} (h : Row F w e sz (.slice (some ⟨b, o, none⟩) n c) n xs) (j : Nat) (hj : j < xs.length) :
    ∃ u, w.cell? ⟨b, o + j, none⟩ = some u ∧ w.frozen? ⟨b, o + j, none⟩ = false := by
  rcases h.2 with ⟨h1, _⟩ | ⟨b1, o1, c1, cur, h1, h2, h3, h4, h5, h6, h7⟩
  · cases h1
  · injection h1 with h1 _ h8
    injection h1 with h1
    injection h1 with h1 h9
    subst h1; subst h9
    exact ⟨xs[j], (blk_cell h3 (o + j)).trans (h7 j _ (List.getElem?_eq_getElem hj)), blk_frozen h3 _⟩
theorem Row.put {F : Nat → Prop} {w : World} {e sz n c b o : Nat} {xs : List Value} (h : Row F w e sz (.slice (some ⟨b, o, none⟩) n c) n xs) (j : Nat) (hj : j < xs.length) (u : Value) :
    Row F (w.setCell ⟨b, o + j, none⟩ u) e sz (.slice (some ⟨b, o, none⟩) n c) n (xs.set j u) ∧ Ch (fun t => t = some e) F w (w.setCell ⟨b, o + j, none⟩ u) := by
  rcases h.2 with ⟨h1, _⟩ | ⟨b1, o1, c1, cur, h1, h2, h3, h4, h5, h6, h7⟩
  · cases h1
  · injection h1 with h1 _ h8
    injection h1 with h1
    injection h1 with h1 h9
    subst h1; subst h9; subst h8
    refine ⟨⟨by rw [List.length_set]; exact h.1, .inr ⟨b, o, c, cur.setIfInBounds (o + j) u, rfl, h2, blk_set h3 _ _, h4, h5, by rw [Array.size_setIfInBounds]; exact h6, fun i v hi => ?_⟩⟩, Ch.set (T := fun t => t = some e) h3 h2 rfl _ _⟩
    rw [List.getElem?_set] at hi
    by_cases hij : j = i
    · subst hij
      rw [if_pos rfl, if_pos hj] at hi
      have hlt : o + j < cur.size := by
        have := h7 j _ (List.getElem?_eq_getElem hj)
        exact (Array.getElem?_eq_some_iff.1 this).1
      rw [Array.getElem?_setIfInBounds_self_of_lt hlt]
      exact hi
    · rw [if_neg hij] at hi
      rw [Array.getElem?_setIfInBounds_ne (by omega)]
      exact h7 i v hi
theorem Rd8.reads {F : Nat → Prop} {w : World} {A : Option Addr} {l : List UInt8} (h : Rd8 F w A l) (hl : l.length ≤ 9223372036854775807) : ReadsInt w .u8 A l.length (bnums l) := by
  refine ⟨bnums_len l, hl, fun hn => ?_⟩
  obtain ⟨ad, h1, _, _⟩ := h 0 hn
  refine ⟨ad, h1, fun j hj => ?_⟩
  obtain ⟨ad2, h2, _, h3⟩ := h j hj
  rw [h1] at h2
  injection h2 with h2
  subst h2
  rw [h3]
  unfold bnums
  rw [List.getD_eq_getElem?_getD, List.getElem?_map, List.getElem?_eq_getElem hj]
  rfl
section
variable {P : Program} {ops : Array Oper} {rest : List Oper} {o : Oper} {a : Act} {Q : Exit → Act → World → Prop}
/-- 'string(b)' of bytes that are read. -/
theorem rdstr_event {W : World} (hgd : o.guard = none) {src dst e : TypeId} {x : Operand} (hop : o.op = .convert src dst x) {A : Option Addr} {n c : Nat} (hx : a.eval x = .slice A n c)
    (hs : P.underlying src = some (.slice e)) (he : P.underlying e = some (.int .u8)) (hd : P.underlying dst = some .string) {F : Nat → Prop} {l : List UInt8} (hn : l.length = n) (hl : l.length ≤ 9223372036854775807) (hR : Rd8 F W A l)
    (h : wpList P ops Q rest (a.put o.dst (.string (bs l))) W) : wpList P ops Q (o :: rest) a W := by
  subst hn
  refine Kd.event_run hgd (v := .string (bs l)) (w1 := W) ?_ h
  have hr := string_of_reads (c := c) hs he hd (Rd8.reads hR hl)
  rw [bnums_bs] at hr
  unfold execOp
  simp only [hop, hx]
  simp [hr]
theorem run_append_nil {W : World} {F G : Nat → Prop} (t ty e : TypeId) (z : Value) (ht : P.underlying t = some (.slice e)) (hinfo : (P.info? e).map (fun i => (i.zero, i.size, i.bytes)) = some (some z, 1, 1)) (hz : z.cells.size = 1)
    {A : Option Addr} {c : Nat} {l : List UInt8} (hR : Rd8 G W A l) (hl : l.length ≤ 1000000) :
    ∃ v1 w1, (Builtin.append_ #[t, t] ty #[.slice none 0 0, .slice A l.length c]).run P W = .ok v1 w1 ∧ Row (fun k => W.heap.size ≤ k) w1 e 1 v1 l.length (u8C l) ∧ Below W.heap.size W w1 := by
  obtain ⟨i, hi, hz1, hsz, hby⟩ := info_parts hinfo
  cases l with
  | nil =>
    refine ⟨.slice none 0 0, W, ?_, Row.nil _ _ _ _, Below.refl _ _⟩
    cases A with
    | none => simp [Builtin.append_, run_underlying ht, sizeOf, typeInfo, hi, Builtin.lenOf, Builtin.firstCells]
    | some ad => simp [Builtin.append_, run_underlying ht, sizeOf, typeInfo, hi, Builtin.lenOf, Builtin.firstCells, loadCells, loadCellsFrom]
  | cons b r =>
    obtain ⟨ad, rfl, _, _⟩ := hR 0 (by simp)
    have hnew : ∀ j u, (u8C (b :: r))[j]? = some u → W.cell? (ad.add j) = some u := fun j u hj => by
      have hjl : j < (b :: r).length := by
        rcases Nat.lt_or_ge j (b :: r).length with h | h
        · exact h
        · rw [List.getElem?_eq_none (by rw [u8C_len]; exact h)] at hj; cases hj
      obtain ⟨ad2, h1, _, h3⟩ := hR j hjl
      injection h1 with h1
      subst h1
      rw [h3]
      unfold u8C at hj
      rw [List.getElem?_map, List.getElem?_eq_getElem hjl] at hj
      exact hj
    obtain ⟨v1, w1, hrun, ho, hg, _⟩ := run_append_own (P := P) W W.heap.size t ty e i z 1 1 ht hi hz1 hsz hby hz (by decide) (.slice none 0 0) 0 [] (World.ownsRow_nil _ _ e 1) ad (b :: r).length c (u8C (b :: r)) (by rw [u8C_len, Nat.mul_one]) hnew (by
        intro u hu; unfold u8C at hu; obtain ⟨x, _, rfl⟩ := List.mem_map.1 hu; rfl) (by unfold maxLen; omega) (by omega) (Nat.le_refl _)
    rw [Nat.zero_add, List.nil_append] at ho
    refine ⟨v1, w1, hrun, ⟨by rw [ho.1], ?_⟩, ⟨hg.os, hg.tape, hg.output, hg.size, fun k hk => hg.block k hk (by simp [Value.ownBlock])⟩⟩
    rcases ho.2 with ⟨_, h0⟩ | ⟨g, cap, cur, rfl, hbg, hgh, hnc, hcm, hcs, htk⟩
    · simp at h0
    · refine .inr ⟨g, 0, cap, cur, rfl, hbg, hgh, hnc, hcm, by omega, fun j u hj => ?_⟩
      rw [← htk, List.getElem?_take] at hj
      split at hj
      · rw [Nat.zero_add, ← Array.getElem?_toList]; exact hj
      · cases hj
/-- 'append(nil, b...)': a copy. -/
theorem copy_event {W : World} {G : Nat → Prop} (hgd : o.guard = none) (s x : Operand) (t e : TypeId) (z : Value) (ho : o.op = .call { callee := .builtin .append, args := #[s, x], argTypes := #[t, t] })
    (ht : P.underlying t = some (.slice e)) (hinfo : (P.info? e).map (fun i => (i.zero, i.size, i.bytes)) = some (some z, 1, 1)) (hz : z.cells.size = 1)
    {A : Option Addr} {n c : Nat} (l : List UInt8) (hn : l.length = n) (hs : a.eval s = .slice none 0 0) (hx : a.eval x = .slice A n c) (hR : Rd8 G W A l) (hl : l.length ≤ 1000000)
    (h : ∀ v1 w1, Row (fun k => W.heap.size ≤ k) w1 e 1 v1 n (u8C l) → Below W.heap.size W w1 → wpList P ops Q rest (a.put o.dst v1) w1) : wpList P ops Q (o :: rest) a W := by
  subst hn
  obtain ⟨v1, w1, hrun, h2, h3⟩ := run_append_nil (P := P) (F := G) t o.type e z ht hinfo hz hR hl (c := c)
  refine wpList_plain hgd fun K hK => ?_
  unfold Oper.wp execOp
  simp only [ho, resolve, invoke, builtin, Sem.run_bind, Sem.run_pure, Result.andThen_ok, List.map_toArray, List.map_cons, List.map_nil, hs, hx, hrun]
  exact hK _ _ (h v1 w1 h2 h3)
end
/-- A row's bytes are read by what does not own them. -/
theorem row_rd8 {F G : Nat → Prop} {w : World} {e n c : Nat} {A : Option Addr} {l : List UInt8} (h : Row F w e 1 (.slice A n c) n (u8C l)) (hd : ∀ k, F k → k < w.heap.size → ¬ G k) : Rd8 G w A l := fun i hi => by
  have hl : l.length = n := by have := h.1; rw [u8C_len] at this; omega
  obtain ⟨b, o, c1, hv, _, hfb, hc, cur, hcur⟩ := h.open_ (by omega)
  injection hv with hv1
  subst hv1
  refine ⟨_, rfl, hd _ hfb (blk_lt hcur), ?_⟩
  rw [Addr.add_lit]
  refine hc i _ ?_
  unfold u8C
  rw [List.getElem?_map, List.getElem?_eq_getElem hi]
  rfl
end Go.Proofs.Ytalaedpiimdcbaa.Lw
