/- delim: the document's example. More for the laws: rows written over, a copy by append, texts of bytes. The law DelimSpec, walked. -/
import Derived.Test.YtalaedpiimdcbaaLawW
import Derived.Test.YtalaedpiimdcbaaCoreP
import Derived.Lib.SlBytesConst
import Derived.Test.YtalaedpiimdcbaaTxtM2
namespace Go.Proofs.Ytalaedpiimdcbaa.Lw
open Go Go.Lib Go.RowKit Go.Proofs.YtalaedpiimdcbaaW.PrintWords Go.Proofs.YtalaedpiimdcbaaW.PrintLast Go.Proofs.Ytalaedpiimdcbaa.Own Go.Proofs.Ytalaedpiimdcbaa.Hp Go.Proofs.Ytalaedpiimdcbaa.Srcw Go.Proofs.Ytalaedpiimdcbaa.Dl Go.Proofs.Ytalaedpiimdcbaa.Cr
set_option linter.unusedVariables false
set_option linter.unusedSimpArgs false
def exB : List UInt8 := [97, 44, 98, 10, 49, 44, 34, 120, 34, 34, 121, 34, 10]
theorem ex_q : (dec exB).c.q = [⟨5, ⟨#[]⟩, ⟨#[]⟩⟩, ⟨7, ⟨#[]⟩, ⟨#[]⟩⟩, ⟨8, ⟨#[97]⟩, ⟨#[]⟩⟩, ⟨4, ⟨#[49]⟩, ⟨#[]⟩⟩, ⟨8, ⟨#[98]⟩, ⟨#[]⟩⟩, ⟨4, ⟨#[120, 34, 121]⟩, ⟨#[]⟩⟩, ⟨9, ⟨#[]⟩, ⟨#[]⟩⟩, ⟨6, ⟨#[]⟩, ⟨#[]⟩⟩] := by kernel_rfl
theorem ex_e : (dec exB).c.err = 0 ∧ (dec exB).c.at_ = 13 := by decide +kernel
/-- '[]byte("..")' of a constant: the literal's row has just been laid. -/
theorem const_event {P : Program} {ops : Array Oper} {rest : List Oper} {o : Oper} {a : Act} {Q : Exit → Act → World → Prop} {W : World} (hgd : o.guard = none) {l : List UInt8} {t e : TypeId} {n : Nat} {x : Operand} (hop : o.op = .convert t t x) (cs : Array Value) (hcs : cs = (u8C l).toArray)
    (hx : a.eval x = .slice (some ⟨W.heap.size, 0, none⟩) n n) (ht : P.underlying t = some (.slice e)) (he : P.underlying e = some (.int .u8))
    (h : ∀ g w1, g = W.heap.size → w1.heap.size = g + 1 → Rd8 (fun k => w1.heap.size ≤ k) w1 (some ⟨g, 0, none⟩) l → Below W.heap.size W w1 → wpList P ops Q rest (a.put o.dst (.slice (some ⟨g, 0, none⟩) n n)) w1) : wpList P ops Q (o :: rest) a (W.alloc (.cells cs e)) := by
  subst hcs
  have hsz : (W.alloc (.cells (u8C l).toArray e ((u8C l).toArray.size, (u8C l).toArray.size + 1))).heap.size = W.heap.size + 1 := by simp
  refine Kd.event_run hgd (v := .slice (some ⟨W.heap.size, 0, none⟩) n n) (w1 := W.alloc (.cells (u8C l).toArray e ((u8C l).toArray.size, (u8C l).toArray.size + 1))) ?_ (h _ _ rfl hsz (fun i hi => ?_) (below_alloc (Below.refl _ _) _))
  · have hr := Lib.run_convert_bytes_const (P := P) W t e (u8C l).toArray n n ht he
    unfold execOp
    simp only [hop, hx]
    simp [hr]
  · refine ⟨_, rfl, by show ¬ _ ≤ W.heap.size; omega, ?_⟩
    rw [Addr.add_lit, Nat.zero_add, World.cell?_alloc_mark]
    unfold u8C
    rw [List.getElem?_toArray, List.getElem?_map, List.getElem?_eq_getElem hi]
    rfl
set_option maxHeartbeats 8000000 in
set_option maxRecDepth 100000 in
theorem lives_calls (w : World) : Calls Try.prog 16 #[] w fun e w' => e = .returned (.bool true) ∧ Below w.heap.size w w' := by
  have HQ := Aside0.mk ex_q
  have HE := Aside0.mk ex_e
  go_enter Try.func16, Try.ntmps16
  go_wp2_with (first
    | ((with_reducible refine gate_dst (N := 6) rfl ?_); refine const_event ?hg (l := exB) (n := 13) (t := 22) (e := 5) (x := .tmp 5) ?ho (#[.int .u8 97, .int .u8 44, .int .u8 98, .int .u8 10, .int .u8 49, .int .u8 44, .int .u8 34, .int .u8 120, .int .u8 34, .int .u8 34, .int .u8 121, .int .u8 34, .int .u8 10]) ?hc ?hx Try.underlying22 Try.underlying5 ?_; (case ho => rfl); (case hg => rfl); (case hc => rfl); (case hx => rfl); intro g w1 hg hs1 hr8 hb; have R1 := Aside0.mk hr8; have B1 := Aside0.mk hb; clear hs1 hg hr8 hb)
    | (go_at_call 9; refine (decode_calls (l := exB) (by decide) R1.out).mono ?_; rintro e w2 ⟨v, rfl, hv, hc⟩; rw [show (closeD (feedD DS.new exB)).c.err = 0 from HE.out.1, show (closeD (feedD DS.new exB)).c.at_ = 13 from HE.out.2]; rw [show (closeD (feedD DS.new exB)).c.q = _ from HQ.out] at hv; obtain ⟨b2, o2, n2, hv2, _, _, hcell, _⟩ := hv.open_ (by decide); subst hv2; have x0 : w2.cell? ⟨b2, o2 + 9, none⟩ = _ := hcell 9 _ rfl; have x1 : w2.cell? ⟨b2, o2 + 10, none⟩ = _ := hcell 10 _ rfl; have x2 : w2.cell? ⟨b2, o2 + 11, none⟩ = _ := hcell 11 _ rfl; have y0 : w2.cell? ⟨b2, o2 + 15, none⟩ = _ := hcell 15 _ rfl; have y1 : w2.cell? ⟨b2, o2 + 16, none⟩ = _ := hcell 16 _ rfl; have y2 : w2.cell? ⟨b2, o2 + 17, none⟩ = _ := hcell 17 _ rfl; have BB := Aside0.mk (B1.out.trans ((hc.below (fun _ h => h) (Nat.le_refl _)).mono B1.out.size)); clear hv hc hcell))
  go_ret
  exact ⟨rfl, BB.out⟩
end Go.Proofs.Ytalaedpiimdcbaa.Lw

namespace Go.Proofs.Ytalaedpiimdcbaa.Lw
open Go Go.Lib Go.RowKit Go.Proofs.YtalaedpiimdcbaaW.PrintWords Go.Proofs.YtalaedpiimdcbaaW.PrintLast Go.Proofs.Ytalaedpiimdcbaa.Own Go.Proofs.Ytalaedpiimdcbaa.Hp Go.Proofs.Ytalaedpiimdcbaa.Srcw Go.Proofs.Ytalaedpiimdcbaa.Dl Go.Proofs.Ytalaedpiimdcbaa.Cr
set_option linter.unusedVariables false
set_option linter.unusedSimpArgs false
theorem meas_ {n j k : Nat} (h1 : j < n) (h2 : n - j < k + 1) : n - (j + 1) < k := by omega
theorem Row.at_ {F : Nat → Prop} {w : World} {e sz n c b o : Nat} {xs : List Value} (h : Row F w e sz (.slice (some ⟨b, o, none⟩) n c) n xs) (j : Nat) (hj : j < xs.length) :
    ∃ u, w.cell? ⟨b, o + j, none⟩ = some u ∧ w.frozen? ⟨b, o + j, none⟩ = false := by
  rcases h.2 with ⟨h1, _⟩ | ⟨b1, o1, c1, cur, h1, h2, h3, h4, h5, h6, h7⟩
  · cases h1
  · injection h1 with h1 _ h8
    injection h1 with h1
    injection h1 with h1 h9
    subst h1; subst h9
    exact ⟨xs[j], (blk_cell h3 (o + j)).trans (h7 j _ (List.getElem?_eq_getElem hj)), blk_frozen h3 _⟩
theorem Row.put {F : Nat → Prop} {w : World} {e sz n c b o : Nat} {xs : List Value} (h : Row F w e sz (.slice (some ⟨b, o, none⟩) n c) n xs) (j : Nat) (hj : j < xs.length) (u : Value) :
    Row F (w.setCell ⟨b, o + j, none⟩ u) e sz (.slice (some ⟨b, o, none⟩) n c) n (xs.set j u) ∧ Ch (fun t => t = some e) F w (w.setCell ⟨b, o + j, none⟩ u) := by
  rcases h.2 with ⟨h1, _⟩ | ⟨b1, o1, c1, cur, h1, h2, h3, h4, h5, h6, h7⟩
  · cases h1
  · injection h1 with h1 _ h8
    injection h1 with h1
    injection h1 with h1 h9
    subst h1; subst h9; subst h8
    refine ⟨⟨by rw [List.length_set]; exact h.1, .inr ⟨b, o, c, cur.setIfInBounds (o + j) u, rfl, h2, blk_set h3 _ _, h4, h5, by rw [Array.size_setIfInBounds]; exact h6, fun i v hi => ?_⟩⟩, Ch.set (T := fun t => t = some e) h3 h2 rfl _ _⟩
    rw [List.getElem?_set] at hi
    by_cases hij : j = i
    · subst hij
      rw [if_pos rfl, if_pos hj] at hi
      have hlt : o + j < cur.size := by
        have := h7 j _ (List.getElem?_eq_getElem hj)
        exact (Array.getElem?_eq_some_iff.1 this).1
      rw [Array.getElem?_setIfInBounds_self_of_lt hlt]
      exact hi
    · rw [if_neg hij] at hi
      rw [Array.getElem?_setIfInBounds_ne (by omega)]
      exact h7 i v hi
theorem Rd8.reads {F : Nat → Prop} {w : World} {A : Option Addr} {l : List UInt8} (h : Rd8 F w A l) (hl : l.length ≤ 9223372036854775807) : ReadsInt w .u8 A l.length (bnums l) := by
  refine ⟨bnums_len l, hl, fun hn => ?_⟩
  obtain ⟨ad, h1, _, _⟩ := h 0 hn
  refine ⟨ad, h1, fun j hj => ?_⟩
  obtain ⟨ad2, h2, _, h3⟩ := h j hj
  rw [h1] at h2
  injection h2 with h2
  subst h2
  rw [h3]
  unfold bnums
  rw [List.getD_eq_getElem?_getD, List.getElem?_map, List.getElem?_eq_getElem hj]
  rfl
section
variable {P : Program} {ops : Array Oper} {rest : List Oper} {o : Oper} {a : Act} {Q : Exit → Act → World → Prop}
/-- 'string(b)' of bytes that are read. -/
theorem rdstr_event {W : World} (hgd : o.guard = none) {src dst e : TypeId} {x : Operand} (hop : o.op = .convert src dst x) {A : Option Addr} {n c : Nat} (hx : a.eval x = .slice A n c)
    (hs : P.underlying src = some (.slice e)) (he : P.underlying e = some (.int .u8)) (hd : P.underlying dst = some .string) {F : Nat → Prop} {l : List UInt8} (hn : l.length = n) (hl : l.length ≤ 9223372036854775807) (hR : Rd8 F W A l)
    (h : wpList P ops Q rest (a.put o.dst (.string (bs l))) W) : wpList P ops Q (o :: rest) a W := by
  subst hn
  refine Kd.event_run hgd (v := .string (bs l)) (w1 := W) ?_ h
  have hr := string_of_reads (c := c) hs he hd (Rd8.reads hR hl)
  rw [bnums_bs] at hr
  unfold execOp
  simp only [hop, hx]
  simp [hr]
theorem run_append_nil {W : World} {F G : Nat → Prop} (t ty e : TypeId) (z : Value) (ht : P.underlying t = some (.slice e)) (hinfo : (P.info? e).map (fun i => (i.zero, i.size, i.bytes)) = some (some z, 1, 1)) (hz : z.cells.size = 1)
    {A : Option Addr} {c : Nat} {l : List UInt8} (hR : Rd8 G W A l) (hl : l.length ≤ 1000000) :
    ∃ v1 w1, (Builtin.append_ #[t, t] ty #[.slice none 0 0, .slice A l.length c]).run P W = .ok v1 w1 ∧ Row (fun k => W.heap.size ≤ k) w1 e 1 v1 l.length (u8C l) ∧ Below W.heap.size W w1 := by
  obtain ⟨i, hi, hz1, hsz, hby⟩ := info_parts hinfo
  cases l with
  | nil =>
    refine ⟨.slice none 0 0, W, ?_, Row.nil _ _ _ _, Below.refl _ _⟩
    cases A with
    | none => simp [Builtin.append_, run_underlying ht, sizeOf, typeInfo, hi, Builtin.lenOf, Builtin.firstCells]
    | some ad => simp [Builtin.append_, run_underlying ht, sizeOf, typeInfo, hi, Builtin.lenOf, Builtin.firstCells, loadCells, loadCellsFrom]
  | cons b r =>
    obtain ⟨ad, rfl, _, _⟩ := hR 0 (by simp)
    have hnew : ∀ j u, (u8C (b :: r))[j]? = some u → W.cell? (ad.add j) = some u := fun j u hj => by
      have hjl : j < (b :: r).length := by
        rcases Nat.lt_or_ge j (b :: r).length with h | h
        · exact h
        · rw [List.getElem?_eq_none (by rw [u8C_len]; exact h)] at hj; cases hj
      obtain ⟨ad2, h1, _, h3⟩ := hR j hjl
      injection h1 with h1
      subst h1
      rw [h3]
      unfold u8C at hj
      rw [List.getElem?_map, List.getElem?_eq_getElem hjl] at hj
      exact hj
    obtain ⟨v1, w1, hrun, ho, hg, _⟩ := run_append_own (P := P) W W.heap.size t ty e i z 1 1 ht hi hz1 hsz hby hz (by decide) (.slice none 0 0) 0 [] (World.ownsRow_nil _ _ e 1) ad (b :: r).length c (u8C (b :: r)) (by rw [u8C_len, Nat.mul_one]) hnew (by
        intro u hu; unfold u8C at hu; obtain ⟨x, _, rfl⟩ := List.mem_map.1 hu; rfl) (by unfold maxLen; omega) (by omega) (Nat.le_refl _)
    rw [Nat.zero_add, List.nil_append] at ho
    refine ⟨v1, w1, hrun, ⟨by rw [ho.1], ?_⟩, ⟨hg.os, hg.tape, hg.output, hg.size, fun k hk => hg.block k hk (by simp [Value.ownBlock])⟩⟩
    rcases ho.2 with ⟨_, h0⟩ | ⟨g, cap, cur, rfl, hbg, hgh, hnc, hcm, hcs, htk⟩
    · simp at h0
    · refine .inr ⟨g, 0, cap, cur, rfl, hbg, hgh, hnc, hcm, by omega, fun j u hj => ?_⟩
      rw [← htk, List.getElem?_take] at hj
      split at hj
      · rw [Nat.zero_add, ← Array.getElem?_toList]; exact hj
      · cases hj
/-- 'append(nil, b...)': a copy. -/
theorem copy_event {W : World} {G : Nat → Prop} (hgd : o.guard = none) (s x : Operand) (t e : TypeId) (z : Value) (ho : o.op = .call { callee := .builtin .append, args := #[s, x], argTypes := #[t, t] })
    (ht : P.underlying t = some (.slice e)) (hinfo : (P.info? e).map (fun i => (i.zero, i.size, i.bytes)) = some (some z, 1, 1)) (hz : z.cells.size = 1)
    {A : Option Addr} {n c : Nat} (l : List UInt8) (hn : l.length = n) (hs : a.eval s = .slice none 0 0) (hx : a.eval x = .slice A n c) (hR : Rd8 G W A l) (hl : l.length ≤ 1000000)
    (h : ∀ v1 w1, Row (fun k => W.heap.size ≤ k) w1 e 1 v1 n (u8C l) → Below W.heap.size W w1 → wpList P ops Q rest (a.put o.dst v1) w1) : wpList P ops Q (o :: rest) a W := by
  subst hn
  obtain ⟨v1, w1, hrun, h2, h3⟩ := run_append_nil (P := P) (F := G) t o.type e z ht hinfo hz hR hl (c := c)
  refine wpList_plain hgd fun K hK => ?_
  unfold Oper.wp execOp
  simp only [ho, resolve, invoke, builtin, Sem.run_bind, Sem.run_pure, Result.andThen_ok, List.map_toArray, List.map_cons, List.map_nil, hs, hx, hrun]
  exact hK _ _ (h v1 w1 h2 h3)
end
/-- A row's bytes are read by what does not own them. -/
theorem row_rd8 {F G : Nat → Prop} {w : World} {e n c : Nat} {A : Option Addr} {l : List UInt8} (h : Row F w e 1 (.slice A n c) n (u8C l)) (hd : ∀ k, F k → k < w.heap.size → ¬ G k) : Rd8 G w A l := fun i hi => by
  have hl : l.length = n := by have := h.1; rw [u8C_len] at this; omega
  obtain ⟨b, o, c1, hv, _, hfb, hc, cur, hcur⟩ := h.open_ (by omega)
  injection hv with hv1
  subst hv1
  refine ⟨_, rfl, hd _ hfb (blk_lt hcur), ?_⟩
  rw [Addr.add_lit]
  refine hc i _ ?_
  unfold u8C
  rw [List.getElem?_map, List.getElem?_eq_getElem hi]
  rfl
end Go.Proofs.Ytalaedpiimdcbaa.Lw

namespace Go.Proofs.Ytalaedpiimdcbaa.Lw
open Go Go.Lib Go.RowKit Go.Proofs.YtalaedpiimdcbaaW.PrintWords Go.Proofs.YtalaedpiimdcbaaW.PrintLast Go.Proofs.Ytalaedpiimdcbaa.Own Go.Proofs.Ytalaedpiimdcbaa.Hp Go.Proofs.Ytalaedpiimdcbaa.Srcw Go.Proofs.Ytalaedpiimdcbaa.Dl Go.Proofs.Ytalaedpiimdcbaa.Cr Go.Proofs.Ytalaedpiimdcbaa.Tx
set_option linter.unusedVariables false
set_option linter.unusedSimpArgs false
theorem spec_k (l : List UInt8) (hl : l.length ≤ 600) (w : World) :
    Calls Try.prog 17 #[.string (bs l)] w fun e w' => ∃ v, e = .returned (.tuple #[v, .int .i64 (dec l).c.err, .int .i64 (dec l).c.at_]) ∧ Row (fun k => w.heap.size ≤ k) w' 50 3 v (dec l).c.q.length (evCs (dec l).c.q) ∧ Below w.heap.size w w' := by
  have h := spec_calls l hl w
  obtain ⟨h1, h2⟩ := spec_dec l
  rw [h1, h2] at h
  exact h
set_option maxHeartbeats 16000000 in
set_option maxRecDepth 100000 in
theorem law_DelimSpec (a : Option Addr) (len cap : Nat) (zs : List Int) {w : World} (hr : IsRow .u8 w a len cap zs) (_hx : len * 1 ≤ 140737488351232) :
    Calls Try.prog 5 #[.slice a len cap] w fun e w' => e = .returned (.bool true) ∧ Below w.heap.size w w' := by
  obtain ⟨L, hL, hR, hlc, hcm⟩ := row_bytes hr
  obtain ⟨l, hl⟩ : ∃ l, L.take 600 = l := ⟨_, rfl⟩
  have hll : min 600 len = l.length := by rw [← hl, List.length_take, hL]
  have HLL := Aside0.mk hll
  have hl6 : l.length ≤ 600 := by omega
  have HL6 := Aside0.mk hl6
  have HR := Aside0.mk (show Rd8 (fun k => w.heap.size ≤ k) w a l by rw [← hl]; exact Rd8.take_ hR 600)
  have hlcap : l.length ≤ cap := by omega
  have HDL := Aside0.mk (dec_len l)
  have HSP := Aside0.mk (fun w => spec_k l hl6 w)
  clear hr hR hl
  go_enter Try.func5, Try.ntmps5
  go_wp2_with (first
    | (go_at_call 8; refine (few_calls a len cap w hlc hcm).mono ?_; rintro e w1 ⟨rfl, rfl⟩; rw [HLL.out])
    | (go_at_call 9; refine (decode_calls (l := l) (by have := HL6.out; omega) HR.out).mono ?_; rintro e w2 ⟨v, rfl, hv, hc2⟩; have hdd : closeD (feedD DS.new l) = dec l := rfl; rw [hdd] at hv ⊢; generalize dec l = dd at hv HDL HSP ⊢; have V2 := Aside0.mk hv.bound; clear hv hdd; have C2 := Aside0.mk hc2; have R2 := Aside0.mk (HR.out.ch hc2); clear hc2)
    | (refine rdstr_event rfl rfl rfl Try.underlying22 Try.underlying5 Try.underlying9 rfl (by have := HL6.out; omega) R2.out ?_)
    | (go_at_call 17; refine (HSP.out w2).mono ?_; rintro e w3 ⟨v3, rfl, hv3, hb3⟩; have V3 := Aside0.mk hv3; have B3 := Aside0.mk hb3; have W3 := Aside0.mk (V2.out.below hb3); clear hv3 hb3)
    | (go_at_call 13; refine (same_k rfl rfl W3.out V3.out (by have := HDL.out; have h6 := HL6.out; unfold stepMax at this; exact Nat.le_trans this (by omega))).mono ?_; rintro e w4 ⟨rfl, hw4⟩; have W4 := Aside0.mk hw4; clear hw4)
    | (go_at_call 16; refine (lives_calls _).mono ?_; rintro e w9 ⟨rfl, hw9⟩; have W9 := Aside0.mk hw9; clear hw9))
  go_ret
  have hB2 : Below w.heap.size w w2 := C2.out.below (fun _ h => h) (Nat.le_refl _)
  have hs2 := hB2.size
  have hs3 := B3.out.size
  have hs4 := W4.out.below.size
  exact ⟨rfl, ((hB2.trans (B3.out.mono hs2)).trans (W4.out.below.mono (by omega))).trans (W9.out.mono (by omega))⟩
end Go.Proofs.Ytalaedpiimdcbaa.Lw
