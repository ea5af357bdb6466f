/- Words of this hand: append of things that stand anywhere onto a row of the call's own; a row of numbers. -/
import Derived.Test.YtalaedpiimdcbaaGreatDoorEv
namespace Go.Proofs.YtalaedpiimdcbaaGreatDoor.Hp
open Go Go.RowKit Go.Proofs.YtalaedpiimdcbaaGreatDoorW.PrintWords Go.Proofs.YtalaedpiimdcbaaGreatDoorW.PrintLast Go.Proofs.YtalaedpiimdcbaaGreatDoor.Own
set_option linter.unusedVariables false
set_option linter.unusedSimpArgs false
/-- Bytes, as numbers, as cells. -/
def iC (l : List Int) : List Value := l.map (Value.int .u8)
theorem iC_len (l : List Int) : (iC l).length = l.length := by simp [iC]
theorem iC_app (l m : List Int) : iC (l ++ m) = iC l ++ iC m := by simp [iC]
theorem iC_bnums (l : List UInt8) : iC (bnums l) = u8C l := by unfold iC bnums u8C; rw [List.map_map]; rfl
theorem iC_one (l : List Int) : ∀ u ∈ iC l, u.oneCell' = true := by
  intro u hu
  unfold iC at hu
  rw [List.mem_map] at hu
  obtain ⟨x, _, rfl⟩ := hu
  rfl
section
variable {P : Program} {F : Nat → Prop} {W : World}
theorem run_row_append_src (t ty e : TypeId) (z : Value) (sz bytes : Nat)
    (ht : P.underlying t = some (.slice e)) (hinfo : (P.info? e).map (fun i => (i.zero, i.size, i.bytes)) = some (some z, sz, bytes)) (hz : z.cells.size = sz) (hs0 : 0 < sz)
    (v : Value) (n : Nat) (xs cs : List Value) (ad : Addr) (m c0 : Nat) (hm0 : 0 < m) (hc : cs.length = m * sz) (h1 : ∀ u ∈ cs, u.oneCell' = true) (hnew : ∀ j u, cs[j]? = some u → W.cell? (ad.add j) = some u)
    (HR : Row F W e sz v n xs) (hn : (n + m) * bytes ≤ 140737488355328) (hmx : n + m ≤ maxLen) :
    ∃ v1 w1, (Builtin.append_ #[t, t] ty #[v, .slice (some ad) m c0]).run P W = .ok v1 w1 ∧ Row (ext F W) w1 e sz v1 (n + m) (xs ++ cs) ∧ Ch (fun t => t = some e) F W w1 := by
  obtain ⟨i, hi, hz1, hsz, hby⟩ := info_parts hinfo
  have hl1 : cs.length = m * i.size := by rw [hc, hsz]
  rcases HR.2 with ⟨rfl, rfl⟩ | ⟨b, o, c, cur, rfl, h2, h3, h4, h5, h6, h7⟩
  · have hx : xs = [] := List.eq_nil_of_length_eq_zero (by simpa using HR.1)
    subst hx
    obtain ⟨v', w', hrun, ho, hg, _⟩ := run_append_own (P := P) W W.heap.size t ty e i z sz bytes ht hi hz1 hsz hby hz hs0 (.slice none 0 0) 0 [] (World.ownsRow_nil _ _ e sz) ad m c0 cs hc hnew h1 hmx hn (Nat.le_refl _)
    refine ⟨v', w', hrun, ?_, ⟨hg.os, hg.tape, hg.output, hg.size, fun k o hk _ => (hg.block k (blk_lt hk) (by simp [Value.ownBlock])).trans hk⟩⟩
    refine ⟨by rw [ho.1], ?_⟩
    rcases ho.2 with ⟨_, h0⟩ | ⟨g, cap, cur, rfl, hbg, hgh, hnc, hcm, hcs, htk⟩
    · omega
    · refine .inr ⟨g, 0, cap, cur, rfl, .inr hbg, hgh, hnc, hcm, by omega, fun j u hj => ?_⟩
      rw [← htk, List.getElem?_take] at hj
      split at hj
      · rw [Nat.zero_add, ← Array.getElem?_toList]; exact hj
      · cases hj
  · by_cases hroom : n + m ≤ c
    · have hcz : (n + m) * sz ≤ c * sz := Nat.mul_le_mul_right _ hroom
      rw [Nat.add_mul] at hcz
      have hfit : o + n * i.size + cs.length ≤ cur.size := by rw [hsz, hc]; omega
      have hr := run_append_room_at (P := P) (W := W) t ty e i ht hi b o n c cur h3 ad m c0 cs hl1 hnew h1 hroom hfit
      rw [hsz] at hr hfit
      refine ⟨_, _, hr, ⟨by rw [List.length_append, HR.1, hc, Nat.add_mul], .inr ⟨b, o, c, _, rfl, .inl h2, setRow_heap _ b cur _ e _ h3, hroom, h5, ?_, fun j u hj => ?_⟩⟩,
        ⟨rfl, rfl, rfl, by simp [World.setRow], fun k q hk hne => ?_⟩⟩
      · simp only [List.size_toArray, List.length_append, List.length_take, List.length_drop, Array.length_toList]
        omega
      · rw [List.getElem?_toArray]
        by_cases hj1 : j < xs.length
        · rw [List.getElem?_append_left hj1] at hj
          have hj2 : j < n * sz := by rw [← HR.1]; exact hj1
          rw [List.append_assoc, List.getElem?_append_left (by rw [List.length_take, Array.length_toList]; omega), List.getElem?_take, if_pos (by omega), Array.getElem?_toList]
          exact h7 j u hj
        · rw [List.getElem?_append_right (by omega)] at hj
          have hj3 : j - xs.length < cs.length := by
            rcases Nat.lt_or_ge (j - xs.length) cs.length with h | h
            · exact h
            · rw [List.getElem?_eq_none h] at hj; cases hj
          have hx1 := HR.1
          have hL : (cur.toList.take (o + n * sz)).length = o + n * sz := by rw [List.length_take, Array.length_toList]; omega
          rw [List.append_assoc, List.getElem?_append_right (by rw [hL]; omega), hL, show o + j - (o + n * sz) = j - xs.length by omega, List.getElem?_append_left hj3]
          exact hj
      · by_cases hkb : k = b
        · subst hkb
          rw [h3] at hk
          injection hk with hk
          subst hk
          exact absurd ⟨h2, rfl⟩ hne
        · rw [setRow_other _ b k _ hkb]; exact hk
    · obtain ⟨v', w', hrun, ho, hg⟩ := run_append_arg_grows (P := P) W t ty e i z sz bytes ht hi hz1 hsz hby hz hs0 ⟨b, o, none⟩ n c xs HR.1 (fun j u hj => by
          rw [Addr.add_lit, blk_cell h3]; exact h7 j u hj) ad m c0 cs hc hnew (by omega) hmx hn
      refine ⟨v', w', hrun, ?_, ⟨hg.os, hg.tape, hg.output, hg.size, fun k o hk _ => (hg.block k (blk_lt hk) (by simp)).trans hk⟩⟩
      refine ⟨by rw [ho.1], ?_⟩
      rcases ho.2 with ⟨_, h0⟩ | ⟨g, cap, cur', rfl, hbg, hgh, hnc, hcm, hcs, htk⟩
      · omega
      · refine .inr ⟨g, 0, cap, cur', rfl, .inr hbg, hgh, hnc, hcm, by omega, fun j u hj => ?_⟩
        rw [← htk, List.getElem?_take] at hj
        split at hj
        · rw [Nat.zero_add, ← Array.getElem?_toList]; exact hj
        · cases hj
end
section
variable {P : Program} {ops : Array Oper} {rest : List Oper} {o : Oper} {a : Act} {Q : Exit → Act → World → Prop} {F : Nat → Prop} {W : World}
/-- append(s, b...) onto a row of the call's own. -/
theorem row_append_src (hgd : o.guard = none) (s x : Operand) (t e : TypeId) (z : Value) (sz bytes : Nat)
    (ho : o.op = .call { callee := .builtin .append, args := #[s, x], argTypes := #[t, t] })
    (ht : P.underlying t = some (.slice e)) (hinfo : (P.info? e).map (fun i => (i.zero, i.size, i.bytes)) = some (some z, sz, bytes)) (hz : z.cells.size = sz) (hs0 : 0 < sz)
    (v : Value) (n : Nat) (xs cs : List Value) (ad : Addr) (m c0 : Nat) (hs : a.eval s = v) (hx : a.eval x = .slice (some ad) m c0) (hm0 : 0 < m) (hc : cs.length = m * sz) (h1 : ∀ u ∈ cs, u.oneCell' = true) (hnew : ∀ j u, cs[j]? = some u → W.cell? (ad.add j) = some u)
    (HR : Row F W e sz v n xs) (hn : (n + m) * bytes ≤ 140737488355328) (hmx : n + m ≤ maxLen)
    (h : ∀ v1 w1, Row (ext F W) w1 e sz v1 (n + m) (xs ++ cs) → Ch (fun t => t = some e) F W w1 → wpList P ops Q rest (a.put o.dst v1) w1) : wpList P ops Q (o :: rest) a W := by
  obtain ⟨v1, w1, hrun, h2, h3⟩ := run_row_append_src (P := P) t o.type e z sz bytes ht hinfo hz hs0 v n xs cs ad m c0 hm0 hc h1 hnew HR hn hmx
  refine wpList_plain hgd fun K hK => ?_
  unfold Oper.wp execOp
  simp only [ho, resolve, invoke, builtin, Sem.run_bind, Sem.run_pure, Result.andThen_ok, List.map_toArray, List.map_cons, List.map_nil, hs, hx, hrun]
  exact hK _ _ (h v1 w1 h2 h3)
end
end Go.Proofs.YtalaedpiimdcbaaGreatDoor.Hp
