/- The laws' own helpers over a decoder: few, Same, takes. -/
import Derived.Test.YtalaedpiimdcbaaDelD
import Derived.Test.YtalaedpiimdcbaaOwnStr
import Derived.RegionTactic
namespace Go.Proofs.Ytalaedpiimdcbaa.Lw
open Go Go.Lib Go.RowKit Go.Proofs.YtalaedpiimdcbaaW.PrintWords Go.Proofs.YtalaedpiimdcbaaW.PrintLast Go.Proofs.Ytalaedpiimdcbaa.Own Go.Proofs.Ytalaedpiimdcbaa.Hp Go.Proofs.Ytalaedpiimdcbaa.Srcw Go.Proofs.Ytalaedpiimdcbaa.Dl Go.Proofs.Ytalaedpiimdcbaa.Cr
set_option linter.unusedVariables false
set_option linter.unusedSimpArgs false
/-- The bytes of an argument. -/
theorem row_bytes {w : World} {a : Option Addr} {len cap : Nat} {zs : List Int} (h : IsRow .u8 w a len cap zs) : ∃ L : List UInt8, L.length = len ∧ Rd8 (fun k => w.heap.size ≤ k) w a L ∧ len ≤ cap ∧ cap ≤ 9223372036854775807 := by
  have hl := h.len_le
  have hm : maxLen = 9223372036854775807 := rfl
  refine ⟨(zs.take len).map (fun n => UInt8.ofNat n.toNat), by rw [List.length_map, List.length_take]; omega, fun i hi => ?_, by omega, by omega⟩
  have hi2 : i < len := by rw [List.length_map, List.length_take] at hi; omega
  obtain ⟨x, h1, h2, h3⟩ := h.at_ i hi2
  refine ⟨x, h1, ?_, ?_⟩
  · have h4 := World.block_lt_of_cell? w _ h2
    rw [add_block] at h4
    omega
  · rw [h2]
    obtain ⟨u, hu⟩ := byte_of h3
    have e : ((zs.take len).map (fun n => UInt8.ofNat n.toNat))[i] = UInt8.ofNat (zs.getD i 0).toNat := by
      rw [List.getElem_map, List.getElem_take, List.getD_eq_getElem?_getD, List.getElem?_eq_getElem (by omega)]
      rfl
    rw [e, hu]
    simp
theorem Rd8.take_ {F : Nat → Prop} {w : World} {A : Option Addr} {l : List UInt8} (h : Rd8 F w A l) (n : Nat) : Rd8 F w A (l.take n) := fun i hi => by
  have hi2 : i < l.length := by rw [List.length_take] at hi; omega
  obtain ⟨ad, h1, h2, h3⟩ := h i hi2
  exact ⟨ad, h1, h2, by rw [List.getElem_take]; exact h3⟩
def few6 (l : List UInt8) : List UInt8 := l.take 600
set_option maxHeartbeats 4000000 in
set_option maxRecDepth 100000 in
theorem few_calls (a : Option Addr) (len cap : Nat) (w : World) (hc : len ≤ cap) (hm : cap ≤ 9223372036854775807) :
    Calls Try.prog 8 #[.slice a len cap] w fun e w' => e = .returned (.slice a (min 600 len) cap) ∧ w = w' := by
  by_cases h : 600 < len
  · have t1 : decide (600 < (len : Int)) = true := decide_eq_true (by omega)
    have t2 : decide (600 < len) = true := decide_eq_true h
    have t3 : (600 : Int) ≤ (cap : Int) := by omega
    have HM := Aside0.mk (show min 600 len = 600 by omega)
    go_enter Try.func8, Try.ntmps8
    go_wp2
    go_ret
    rw [HM.out]
    exact ⟨rfl, rfl⟩
  · have t1 : decide (600 < (len : Int)) = false := decide_eq_false (by omega)
    have t2 : decide (600 < len) = false := decide_eq_false h
    have HM := Aside0.mk (show min 600 len = len by omega)
    go_enter Try.func8, Try.ntmps8
    go_wp2
    go_ret
    rw [HM.out]
    exact ⟨rfl, rfl⟩
set_option maxHeartbeats 8000000 in
set_option maxRecDepth 100000 in
theorem same_calls {F G : Nat → Prop} {w : World} {v1 v2 : Value} {l : List Ev} (h1 : Row F w 50 3 v1 l.length (evCs l)) (h2 : Row G w 50 3 v2 l.length (evCs l)) (hl : l.length ≤ 1000000) :
    Calls Try.prog 13 #[v1, v2] w fun e w' => e = .returned (.bool true) ∧ Drawn0 w w' := by
  obtain ⟨A1, n1, hv1, _, _⟩ := h1.slice
  obtain ⟨A2, n2, hv2, _, _⟩ := h2.slice
  subst hv1; subst hv2
  have H1 := Aside0.mk h1
  have H2 := Aside0.mk h2
  clear h1 h2
  go_enter Try.func13, Try.ntmps13
  go_wp2
  go_loopg [5] (l.length + 1) (fun gk v5 wr => ∃ (i : Nat), v5 = .int .i64 i ∧ Aside0 (i ≤ l.length) ∧ Aside0 (l.length - i < gk) ∧ Aside0 (Drawn0 w wr))
  case atStart => exact ⟨0, rfl, ⟨Nat.zero_le _⟩, ⟨by omega⟩, ⟨Drawn0.refl _⟩⟩
  case round =>
    obtain ⟨i, rfl, P1, P2, P3⟩ := hrel
    cases gk with
    | zero => exact absurd P2.out (by omega)
    | succ k1 =>
    have hp1 := P1.out
    by_cases hlt : i < l.length
    · obtain ⟨b, o, c, hv, _, _, hcell, _⟩ := (H1.out.below P3.out.below).open_ (by omega)
      obtain ⟨b2, o2, c2, hv2, _, _, hcell2, _⟩ := (H2.out.below P3.out.below).open_ (by omega)
      injection hv with e1 e2 e3
      injection hv2 with e4 e5 e6
      subst e1; subst e3; subst e4; subst e6
      clear e2 e5
      obtain ⟨g0, g1, g2⟩ := evCs_get l i hlt
      have x0 := hcell _ _ g0
      have x1 := hcell _ _ g1
      have x2 := hcell _ _ g2
      have y0 := hcell2 _ _ g0
      have y1 := hcell2 _ _ g1
      have y2 := hcell2 _ _ g2
      have t1 : decide ((i : Int) < (l.length : Int)) = true := decide_eq_true (by omega)
      have t2 : decide (i < l.length) = true := decide_eq_true hlt
      have tw : wrap64 ((i : Int) + 1) = (i : Int) + 1 := w64 (by omega) (by omega)
      generalize l[i] = x at x0 x1 x2 y0 y1 y2
      rw [← Nat.add_assoc] at x1 x2 y1 y2
      have y3 : (0 : Int) ≤ (i : Int) := by omega
      have y4 : (i : Int) < (l.length : Int) := by omega
      clear g0 g1 g2 hcell hcell2
      go_wp2
      go_quiet (fail)
      go_wp2
      go_roundg k1
      case measure => have := P2.out; omega
      case rel => exact ⟨i + 1, by go_num, ⟨by omega⟩, ⟨by have := P2.out; omega⟩, ⟨P3.out.step _⟩⟩
    · have hi : i = l.length := by omega
      have t1 : decide ((i : Int) < (l.length : Int)) = false := decide_eq_false (by omega)
      have t2 : decide (i < l.length) = false := decide_eq_false (by omega)
      clear hi
      go_wp2
      go_ret
      exact ⟨rfl, P3.out⟩
theorem row_appendS {P : Program} {ops : Array Oper} {rest : List Oper} {o : Oper} {a : Act} {Q : Exit → Act → World → Prop} {F : Nat → Prop} {W : World} (kk : Nat) (hk : W.heap.size = kk) (hgd : o.guard = none) (s x : Operand) (t e : TypeId) (z : Value) (sz bytes : Nat)
    (ho : o.op = .call { callee := .builtin .append, args := #[s, x], argTypes := #[t, t] })
    (ht : P.underlying t = some (.slice e)) (hinfo : (P.info? e).map (fun i => (i.zero, i.size, i.bytes)) = some (some z, sz, bytes)) (hz : z.cells.size = sz) (hs0 : 0 < sz)
    (v : Value) (n : Nat) (xs cs : List Value) (hs : a.eval s = v) (hx : a.eval x = .slice (some ⟨kk, 0, none⟩) 1 1) (hc : cs.length = sz) (h1 : ∀ u ∈ cs, u.oneCell' = true) (HR : Row F W e sz v n xs) (hn : (n + 1) * bytes ≤ 140737488355328) (hmx : n + 1 ≤ maxLen)
    (h : ∀ v1 w1, Row (ext F W) w1 e sz v1 (n + 1) (xs ++ cs) → Ch (fun t => t = some e) F W w1 → wpList P ops Q rest (a.put o.dst v1) w1) : wpList P ops Q (o :: rest) a (W.alloc (.cells cs.toArray e)) := by
  subst hk
  exact row_append hgd s x t e z sz bytes ho ht hinfo hz hs0 v n xs cs hs hx hc h1 HR hn hmx h
def stQ (c : CS) : Int := if c.over = false then 2 else if c.err = 0 then 3 else 4
def takenC (c : CS) : CS := if c.over = false then { c with q := [] } else { c with q := [], told := true }
theorem stQ_ne (c : CS) : stQ c ≠ 1 := by unfold stQ; split; decide; split <;> decide
theorem next_end {F : Nat → Prop} {w : World} {g gM gS : Nat} {c : CS} (h : IsC F w g gM gS c) (hF : ∀ k, F k → k < w.heap.size) (hq : c.q = []) :
    Calls Try.prog 24 #[ptr g] w fun e w' => e = .returned (.tuple #[.agg #[.int .i64 0, .string ⟨#[]⟩, .string ⟨#[]⟩], .int .i64 (stQ c)]) ∧ IsC F w' g gM gS (takenC c) ∧ Ch coreT F w w' := by
  refine (next_none h hF hq).mono ?_
  rintro e w' ⟨rfl, h1, h2⟩
  have hn : nextC c = (evZ, stQ c, takenC c) := by
    cases c with
    | mk q at_ closed over err told l a t =>
      simp only at hq
      subst hq
      cases over <;> rfl
  rw [hn] at h1 ⊢
  exact ⟨rfl, h1, h2⟩
theorem next_ev {F : Nat → Prop} {w : World} {g gM gS : Nat} {c : CS} {x : Ev} {r : List Ev} (h : IsC F w g gM gS c) (hF : ∀ k, F k → k < w.heap.size) (hq : c.q = x :: r) (hl : r.length ≤ 1000000) :
    Calls Try.prog 24 #[ptr g] w fun e w' => e = .returned (.tuple #[.agg #[.int .i64 x.k, .string x.t, .string x.v], .int .i64 1]) ∧ IsC F w' g gM gS { c with q := r } ∧ Ch coreT F w w' := by
  refine (next_some h hF hq hl).mono ?_
  rintro e w' ⟨rfl, h1, h2⟩
  have hn : nextC c = (x, 1, { c with q := r }) := by unfold nextC; rw [hq]
  rw [hn] at h1 ⊢
  exact ⟨rfl, h1, h2⟩
def TakesPost (F G : Nat → Prop) (w : World) (g gM gS : Nat) (m : MS) (c : CS) (l : List Ev) (e : Ending) (w' : World) : Prop :=
  ∃ v, e = .returned (.tuple #[v, .int .i64 (stQ c), .bool true]) ∧ Row (ext G w) w' 50 3 v (l ++ c.q).length (evCs (l ++ c.q)) ∧ D2 F w' g gM gS m (takenC c) ∧ Ch allT (fun k => F k ∨ G k) w w'
set_option maxHeartbeats 8000000 in
set_option maxRecDepth 100000 in
theorem takes_calls {F G : Nat → Prop} {w : World} {g gM gS : Nat} {m : MS} {c : CS} {l : List Ev} {v : Value} (h : D2 F w g gM gS m c) (hF : ∀ k, F k → k < w.heap.size) (hd : ∀ k, F k → ¬ G k) (hr : Row G w 50 3 v l.length (evCs l)) (hl : l.length ≤ 100000) (hq : c.q.length ≤ 4900) :
    Calls Try.prog 12 #[ptr g, v] w (TakesPost F G w g gM gS m c l) := by
  have H := Aside0.mk h
  have HF := Aside0.mk hF
  have HD := Aside0.mk hd
  have HR := Aside0.mk hr
  have HL := Aside0.mk hl
  have HQ := Aside0.mk hq
  clear h hF hd hr hl hq
  go_enter Try.func12, Try.ntmps12
  go_wp2
  go_loopg [1, 7] (c.q.length + 1) (fun gk v1 v7 wr => ∃ (i : Nat), v7 = .int .i64 i ∧ Aside0 (i ≤ c.q.length) ∧ Aside0 (c.q.length - i < gk) ∧ Aside0 (Row (ext G w) wr 50 3 v1 (l ++ c.q.take i).length (evCs (l ++ c.q.take i))) ∧ Aside0 (D2 F wr g gM gS m { c with q := c.q.drop i }) ∧ Aside0 (Ch allT (fun k => F k ∨ G k) w wr))
  case atStart => exact ⟨0, rfl, ⟨Nat.zero_le _⟩, ⟨by omega⟩, ⟨by rw [List.take_zero, List.append_nil]; exact HR.out.mono (fun _ h => .inl h)⟩, ⟨by rw [List.drop_zero]; exact H.out⟩, ⟨Ch.refl _ _ _⟩⟩
  case round =>
    obtain ⟨i, rfl, P1, P2, P3, P4, P5⟩ := hrel
    cases gk with
    | zero => exact absurd P2.out (by omega)
    | succ k1 =>
    have hp1 := P1.out
    have hqq := HQ.out
    have HFR := Aside0.mk (fun k hk => Nat.lt_of_lt_of_le (HF.out k hk) P5.out.size)
    have t3 : decide ((i : Int) < 5000) = true := decide_eq_true (by omega)
    by_cases hlt : i < c.q.length
    · have HCONS := Aside0.mk (List.drop_eq_getElem_cons hlt)
      have HTK := Aside0.mk (List.take_succ_eq_append_getElem hlt)
      generalize c.q[i] = x at HCONS HTK
      have tw : wrap64 ((i : Int) + 1) = (i : Int) + 1 := w64 (by omega) (by omega)
      have HLEN := Aside0.mk (show (l ++ c.q.take i).length ≤ 200000 by rw [List.length_append, List.length_take]; have := HL.out; omega)
      go_wp2_with (first
        | (go_at_call 24; refine (next_ev P4.out.c HFR.out HCONS.out (by rw [List.length_drop]; omega)).mono ?_; rintro e w3 ⟨rfl, hc, hh⟩; have C3 := Aside0.mk hc; have H3 := Aside0.mk hh; clear hc hh)
        | ((with_reducible refine gate_dst (N := 8) rfl ?_); refine box_event ?hg (N := 8) ?hd (cs := #[.int .i64 0, .string ⟨#[]⟩, .string ⟨#[]⟩]) (t := 50) ?hr ?_; (case hd => rfl); (case hg => rfl); (case hr => first | (go_simp; done) | (go_simp; rfl)); intro b hg w4 hbox hb; have HBB := Aside0.mk hg; have H4 := Aside0.mk hbox; have B4 := Aside0.mk hb; have e0 := (blk_cell hbox 0).trans rfl; have e1 := (blk_cell hbox 1).trans rfl; have e2 := (blk_cell hbox 2).trans rfl; have g0 := blk_frozen hbox 0; have g1 := blk_frozen hbox 1; have g2 := blk_frozen hbox 2; have T4 := Aside0.mk (three_ch (k := x.k) (t := x.t) (v := x.v) hbox); have s0 := (blk_cell T4.out.2 0).trans rfl; have s1 := (blk_cell T4.out.2 1).trans rfl; have s2 := (blk_cell T4.out.2 2).trans rfl; have RV := Aside0.mk ((((((P3.out.far H3.out (fun k hk hf => by rcases hk with hk | hk; exact HD.out k hf hk; have := HF.out k hf; omega)).bound).below hb)).far T4.out.1 (fun k hk he => by have := hk.2; have := HBB.out; omega)).mono (fun k hk => hk.1)); clear hg hbox hb)
        | ((with_reducible refine gate_builtin (b := .append) (xs := #[.tmp 28, .tmp 30]) rfl ?_); at_builtin; refine row_appendS w4.heap.size (by simp) rfl (.tmp 28) (.tmp 30) 25 50 (.agg #[.int .i64 0, .string ⟨#[]⟩, .string ⟨#[]⟩]) 3 40 rfl Try.underlying25 infoEv rfl (by decide) _ (l ++ c.q.take i).length (evCs (l ++ c.q.take i)) [.int .i64 x.k, .string x.t, .string x.v] rfl rfl rfl (evC_one x) RV.out (by have := HLEN.out; omega) (by have := HLEN.out; unfold maxLen; omega) ?_; intro v5 w5 hr5 hc5; have R5 := Aside0.mk hr5; have C5 := Aside0.mk hc5; clear hr5 hc5))
      go_roundg k1
      case measure => have := P2.out; omega
      case rel =>
        have hsz := P5.out.size
        have hs3 := H3.out.size
        have hs4 := B4.out.size
        have hbb := HBB.out
        have hw5 : Ch allT (fun k => F k ∨ G k) w w5 := ((((P5.out.trans (H3.out.mono (fun _ _ => trivial) (fun k hk => .inl (.inl hk)))).trans (Ch.of_below B4.out)).trans (T4.out.1.mono (fun _ _ => trivial) (fun k hk => .inr (by omega))))).trans (C5.out.mono (fun _ _ => trivial) (fun k hk => by rcases hk with hk | hk; exact .inl (.inr hk); exact .inr hk))
        refine ⟨i + 1, by go_num, ⟨by omega⟩, ⟨by have := P2.out; omega⟩, ⟨?_⟩, ⟨?_, ?_⟩, ⟨hw5⟩⟩
        · rw [HTK.out, ← List.append_assoc, evCs_one, List.length_append, List.length_singleton]
          refine R5.out.mono (fun k hk => ?_)
          rcases hk with hk | hk
          · exact hk
          · refine .inr ?_
            rw [World.size_setCell, World.size_setCell, World.size_setCell] at hk
            omega
        · exact (((P4.out.m.stay H3.out).below B4.out).far T4.out.1 (fun k hk he => by have := HFR.out k hk; omega)).far C5.out (fun k hk hg => by rcases hg with hg | hg; exact HD.out k hk hg; have := HF.out k hk; omega)
        · exact ((C3.out.below B4.out).far T4.out.1 (fun k hk he => by have := HFR.out k hk; omega)).far C5.out (fun k hk hg => by rcases hg with hg | hg; exact HD.out k hk hg; have := HF.out k hk; omega)
    · have hi : i = c.q.length := by omega
      have HNIL := Aside0.mk (show c.q.drop i = [] by rw [hi, List.drop_length])
      have HALL := Aside0.mk (show c.q.take i = c.q by rw [hi, List.take_length])
      have hs1 := stQ_ne c
      have HSQ := Aside0.mk (show stQ { c with q := c.q.drop i } = stQ c from rfl)
      have HTC := Aside0.mk (show takenC { c with q := c.q.drop i } = takenC c by unfold takenC; rfl)
      obtain ⟨sq, hsq⟩ : ∃ sq, stQ c = sq := ⟨_, rfl⟩
      have HS2 := Aside0.mk hsq
      rw [hsq] at hs1
      have s4 : (sq == 1) = false := by rw [beq_eq_false_iff_ne]; exact hs1
      have s5 : decide (sq = 1) = false := decide_eq_false hs1
      clear hs1 hsq hi hlt hp1
      go_wp2_with (first
        | (go_at_call 24; refine (next_end P4.out.c HFR.out HNIL.out).mono ?_; rintro e w3 ⟨rfl, hc, hh⟩; rw [HSQ.out, HS2.out]; rw [HTC.out] at hc; have C3 := Aside0.mk hc; have H3 := Aside0.mk hh; clear hc hh)
        | ((with_reducible refine gate_dst (N := 8) rfl ?_); refine box_event ?hg (N := 8) ?hd (cs := #[.int .i64 0, .string ⟨#[]⟩, .string ⟨#[]⟩]) (t := 50) ?hr ?_; (case hd => rfl); (case hg => rfl); (case hr => first | (go_simp; done) | (go_simp; rfl)); intro b hg w4 hbox hb; have HBB := Aside0.mk hg; have H4 := Aside0.mk hbox; have B4 := Aside0.mk hb; have e0 := (blk_cell hbox 0).trans rfl; have e1 := (blk_cell hbox 1).trans rfl; have e2 := (blk_cell hbox 2).trans rfl; have g0 := blk_frozen hbox 0; have g1 := blk_frozen hbox 1; have g2 := blk_frozen hbox 2; have T4 := Aside0.mk (three_ch (k := 0) (t := ⟨#[]⟩) (v := ⟨#[]⟩) hbox); have s0 := (blk_cell T4.out.2 0).trans rfl; have s1 := (blk_cell T4.out.2 1).trans rfl; have s2 := (blk_cell T4.out.2 2).trans rfl; clear hg hbox hb))
      go_quiet (fail)
      go_wp2
      go_ret3
      have hsz := P5.out.size
      have hs3 := H3.out.size
      have hs4 := B4.out.size
      have hbb := HBB.out
      rw [HALL.out] at P3
      unfold TakesPost
      rw [HS2.out]
      refine ⟨_, rfl, ?_, ⟨?_, ?_⟩, ?_⟩
      · exact ((((P3.out.far H3.out (fun k hk hf => by rcases hk with hk | hk; exact HD.out k hf hk; have := HF.out k hf; omega)).bound.below B4.out).far T4.out.1 (fun k hk he => by have := hk.2; omega)).mono (fun k hk => hk.1)).below (pw_below_drewN (Below.refl _ _) _)
      · exact (((P4.out.m.stay H3.out).below B4.out).far T4.out.1 (fun k hk he => by have := HFR.out k hk; omega)).below (pw_below_drewN (Below.refl _ _) _)
      · exact ((C3.out.below B4.out).far T4.out.1 (fun k hk he => by have := HFR.out k hk; omega)).below (pw_below_drewN (Below.refl _ _) _)
      · exact (((P5.out.trans (H3.out.mono (fun _ _ => trivial) (fun k hk => .inl (.inl hk)))).trans (Ch.of_below B4.out)).trans (T4.out.1.mono (fun _ _ => trivial) (fun k hk => .inr (by omega)))).trans (Ch.of_below (pw_below_drewN (Below.refl _ _) _))
theorem feed_k {F : Nat → Prop} {w : World} {g gM gS n0 n k : Nat} {d : DS} {A : Option Addr} {l : List UInt8} (hk : l.length = k) (h : D2 F w g gM gS d.m d.c) (hd : DOK n0 d) (hn : n0 + k ≤ 10000) (hr : Rd8 F w A l) (hc : d.c.closed = false) :
    Calls Try.prog 11 #[ptr g, .slice A k n] w fun e w' => e = .returned (.bool true) ∧ D2 (ext F w) w' g gM gS (feedD d l).m (feedD d l).c ∧ Ch allT F w w' := by
  subst hk
  exact feed_open h hd hn hr hc
theorem same_k {F G : Nat → Prop} {w : World} {v1 v2 : Value} {l : List Ev} {n1 n2 : Nat} (hn1 : l.length = n1) (hn2 : l.length = n2) (h1 : Row F w 50 3 v1 n1 (evCs l)) (h2 : Row G w 50 3 v2 n2 (evCs l)) (hl : l.length ≤ 1000000) :
    Calls Try.prog 13 #[v1, v2] w fun e w' => e = .returned (.bool true) ∧ Drawn0 w w' := by
  subst hn1
  subst hn2
  exact same_calls h1 h2 hl
theorem endQ_t {F : Nat → Prop} {w : World} {g gM gS : Nat} {c : CS} {x y : Int} (h : IsC F w g gM gS c) (ht : c.told = true) (hx : c.err = x) (hy : c.at_ = y) : Calls Try.prog 14 #[ptr g] w fun e w' => e = .returned (.tuple #[.int .i64 x, .int .i64 y]) ∧ Drawn0 w w' := by
  subst hx
  subst hy
  refine (endQ_calls h).mono ?_
  rintro e w' ⟨rfl, hw⟩
  rw [if_pos ht, if_pos ht]
  exact ⟨rfl, hw⟩
theorem endQ_f {F : Nat → Prop} {w : World} {g gM gS : Nat} {c : CS} (h : IsC F w g gM gS c) (ht : c.told = false) : Calls Try.prog 14 #[ptr g] w fun e w' => e = .returned (.tuple #[.int .i64 0, .int .i64 (-1)]) ∧ Drawn0 w w' := by
  refine (endQ_calls h).mono ?_
  rintro e w' ⟨rfl, hw⟩
  rw [if_neg (by rw [ht]; decide), if_neg (by rw [ht]; decide)]
  exact ⟨rfl, hw⟩
/-- The beginning of a row of events. -/
theorem row_pre {F : Nat → Prop} {w : World} {A : Option Addr} {c : Nat} {q p : List Ev} (h : Row F w 50 3 (.slice A q.length c) q.length (evCs q)) (hp : p <+: q) (hc : q.length ≤ c) : Row F w 50 3 (.slice A p.length c) p.length (evCs p) := by
  have h1 := h.take (m := p.length) (c' := c) hp.length_le (Nat.le_trans hp.length_le hc) (Nat.le_refl _)
  rw [evCs_take, ← List.prefix_iff_eq_take.1 hp] at h1
  exact h1
end Go.Proofs.Ytalaedpiimdcbaa.Lw
