/- The reference's Text (hexaplaref07) in memory, told by owner: Is, Bad, Tell, Finish. The reference's cells (hexaplaref09): bare. The reference's quoted cells (hexaplaref09), walked. The reference's cell (hexaplaref09), walked. The reference's Has, Finish. The reference's header (hexaplaref09), walked. The reference cell by cell, and the machine byte by byte: plain laws. The reference's rows, and the machine's: plain laws. The reference's header (hexaplaref09), walked. -/
import Derived.Test.YtalaedpiimdcbaaHp
import Derived.Test.YtalaedpiimdcbaaEv
import Derived.Test.YtalaedpiimdcbaaCore
import Derived.BigQuiet
import Derived.Deep.LoopGhost
import Derived.RegionTactic
import Derived.Test.YtalaedpiimdcbaaDelN
import Derived.Test.YtalaedpiimdcbaaDelF
namespace Go.Proofs.Ytalaedpiimdcbaa.Tx
open Go Go.Lib Go.RowKit Go.Proofs.YtalaedpiimdcbaaW.PrintWords Go.Proofs.YtalaedpiimdcbaaW.PrintLast Go.Proofs.Ytalaedpiimdcbaa.Own Go.Proofs.Ytalaedpiimdcbaa.Hp Go.Proofs.Ytalaedpiimdcbaa.Cr
set_option linter.unusedVariables false
set_option linter.unusedSimpArgs false
/-- A text that is read. -/
structure TX where
  s : List UInt8
  at_ : Nat
  closed : Bool
  q : List Ev
  e : Int
  place : Int
def txT (t : Option Nat) : Prop := t = some 68 ∨ t = some 50
def txC (lv : Value) (t : TX) : Array Value := #[.string (bs t.s), .int .i64 t.at_, .bool t.closed, lv, .int .i64 t.e, .int .i64 t.place]
structure TAt (F : Nat → Prop) (w : World) (g : Nat) (t : TX) : Prop where
  fg : F g
  core : ∃ lv, w.heap[g]? = some (.cells (txC lv t) 68 (0, 0)) ∧ Row F w 50 3 lv t.q.length (evCs t.q)
  len : t.s.length ≤ 1000000 ∧ t.at_ ≤ 2000000 ∧ t.q.length ≤ 1000000
section
variable {F F' : Nat → Prop} {w w1 : World} {g : Nat} {t : TX}
theorem TAt.mono (h : TAt F w g t) (hF : ∀ k, F k → F' k) : TAt F' w g t := by
  obtain ⟨lv, h1, h2⟩ := h.core
  exact ⟨hF _ h.fg, ⟨lv, h1, h2.mono hF⟩, h.len⟩
theorem TAt.below (h : TAt F w g t) (hb : Below w.heap.size w w1) : TAt F w1 g t := by
  obtain ⟨lv, h1, h2⟩ := h.core
  exact ⟨h.fg, ⟨lv, (hb.block g (blk_lt h1)).trans h1, h2.below hb⟩, h.len⟩
end
/-- Is the next byte c? -/
def isT (t : TX) (c : UInt8) : Bool := decide (t.s[t.at_]? = some c)
/-- An error; the first one stands. -/
def badT (t : TX) (e : Int) (p : Int) : TX := if t.e = 0 then { t with e := e, place := p } else t
set_option maxHeartbeats 4000000 in
set_option maxRecDepth 100000 in
theorem bad_calls {F : Nat → Prop} {w : World} {g : Nat} {t : TX} (e p : Int) (h : TAt F w g t) :
    Calls Try.prog 32 #[.pointer (some ⟨g, 0, none⟩), .int .i64 e, .int .i64 p] w fun en w' => en = .returned (.bool false) ∧ TAt F w' g (badT t e p) ∧ Ch txT F w w' := by
  obtain ⟨lv, h1, h2⟩ := h.core
  have H := Aside0.mk h
  have H1 := Aside0.mk h1
  have H2 := Aside0.mk h2
  have c4 : w.cell? ⟨g, 4, none⟩ = some (.int .i64 t.e) := (blk_cell h1 4).trans rfl
  have c5 : w.cell? ⟨g, 5, none⟩ = some (.int .i64 t.place) := (blk_cell h1 5).trans rfl
  have f4 := blk_frozen h1 4
  have f5 := blk_frozen h1 5
  obtain ⟨x, hx⟩ : ∃ x, t.e = x := ⟨_, rfl⟩
  have HX := Aside0.mk hx
  rw [hx] at c4
  clear h h1 h2
  by_cases h0 : x = 0
  · subst h0
    have HB := Aside0.mk (show badT t e p = { t with e := e, place := p } by unfold badT; rw [hx, if_pos rfl])
    clear hx
    go_enter Try.func32, Try.ntmps32
    go_wp2
    go_ret
    have hc1 : Ch (fun t => t = some 68) F w (w.setCell ⟨g, 4, none⟩ (.int .i64 e)) := Ch.set (T := fun t => t = some 68) H1.out H.out.fg rfl 4 _
    have hb1 : (w.setCell ⟨g, 4, none⟩ (.int .i64 e)).heap[g]? = some (.cells (txC lv { t with e := e }) 68 (0, 0)) := blk_put H1.out 4 _ rfl
    have hc2 : Ch (fun t => t = some 68) F (w.setCell ⟨g, 4, none⟩ (.int .i64 e)) ((w.setCell ⟨g, 4, none⟩ (.int .i64 e)).setCell ⟨g, 5, none⟩ (.int .i64 p)) := Ch.set (T := fun t => t = some 68) hb1 H.out.fg rfl 5 _
    rw [HB.out]
    exact ⟨rfl, ⟨H.out.fg, ⟨lv, blk_put hb1 5 _ rfl, (H2.out.ch hc1 (by decide)).ch hc2 (by decide)⟩, H.out.len⟩, (hc1.mono (fun t ht => .inl ht) (fun _ h => h)).trans (hc2.mono (fun t ht => .inl ht) (fun _ h => ext_of h))⟩
  · have HB := Aside0.mk (show badT t e p = t by unfold badT; rw [hx, if_neg h0])
    have z1 : (x == 0) = false := by rw [beq_eq_false_iff_ne]; exact h0
    have z2 : decide (x = 0) = false := decide_eq_false h0
    clear hx h0
    go_enter Try.func32, Try.ntmps32
    go_wp2
    go_ret
    rw [HB.out]
    exact ⟨rfl, H.out, Ch.refl _ _ _⟩
set_option maxHeartbeats 8000000 in
set_option maxRecDepth 100000 in
theorem tellT_calls {F : Nat → Prop} {w : World} {g : Nat} {t : TX} (k : Int) (s : ByteArray) (h : TAt F w g t) (hq : t.q.length < 1000000) :
    Calls Try.prog 27 #[.pointer (some ⟨g, 0, none⟩), .int .i64 k, .string s] w fun en w' => en = .returned (.tuple #[]) ∧ TAt (ext F w) w' g { t with q := t.q ++ [⟨k, s, ⟨#[]⟩⟩] } ∧ Ch txT F w w' := by
  obtain ⟨lv, h1, h2⟩ := h.core
  obtain ⟨A, n, hv, _, _⟩ := h2.slice
  subst hv
  have H := Aside0.mk h
  have H1 := Aside0.mk h1
  have H2 := Aside0.mk h2
  have HQ := Aside0.mk hq
  have c3 : w.cell? ⟨g, 3, none⟩ = some (.slice A t.q.length n) := (blk_cell h1 3).trans rfl
  clear h h1 h2 hq
  go_enter Try.func27, Try.ntmps27
  go_wp2_with ((with_reducible refine gate_builtin (b := .append) (xs := #[.tmp 10, .tmp 14]) rfl ?_); at_builtin; refine row_append rfl (.tmp 10) (.tmp 14) 25 50 (.agg #[.int .i64 0, .string ⟨#[]⟩, .string ⟨#[]⟩]) 3 40 rfl Try.underlying25 infoEv rfl (by decide) _ t.q.length (evCs t.q) [.int .i64 k, .string s, .string ⟨#[]⟩] rfl rfl rfl (evC_one ⟨k, s, ⟨#[]⟩⟩) H2.out (by have := HQ.out; omega) (by have := HQ.out; unfold maxLen; omega) ?_; intro v3 w3 hr3 hc3; have R3 := Aside0.mk hr3; have C3 := Aside0.mk hc3; have H3 := Aside0.mk (hc3.blk H1.out (fun h => absurd h.2 (by decide))); have d3 : w3.cell? ⟨g, 3, none⟩ = some (.slice A t.q.length n) := (blk_cell H3.out 3).trans rfl; have f3 := blk_frozen H3.out 3; obtain ⟨A3, n3, hv3, _, _⟩ := hr3.slice; clear hr3 hc3 c3; subst hv3)
  go_end0
  have hcs : Ch (fun t => t = some 68) (ext F w) w3 (w3.setCell ⟨g, 3, none⟩ (.slice A3 (t.q.length + 1) n3)) := Ch.set (T := fun t => t = some 68) H3.out (ext_of H.out.fg) rfl 3 _
  refine ⟨rfl, ⟨ext_of H.out.fg, ⟨_, blk_put (cs' := txC (.slice A3 (t.q.length + 1) n3) { t with q := t.q ++ [⟨k, s, ⟨#[]⟩⟩] }) H3.out 3 _ rfl, ?_⟩, ⟨H.out.len.1, H.out.len.2.1, by show (t.q ++ [_]).length ≤ _; rw [List.length_append, List.length_singleton]; have := HQ.out; omega⟩⟩, (C3.out.mono (fun t ht => .inr ht) (fun _ h => h)).trans (hcs.mono (fun t ht => .inl ht) (fun _ h => h))⟩
  show Row _ _ _ 3 _ (t.q ++ [_]).length (evCs (t.q ++ [_]))
  rw [evCs_one, List.length_append, List.length_singleton]
  exact R3.out.ch hcs (by decide)
theorem isT_lt {t : TX} (h : t.at_ < t.s.length) (h2 : t.at_ < (bs t.s).size) (c : UInt8) : ((((bs t.s)[t.at_]'h2).toNat : Int) == (c.toNat : Int)) = isT t c := by
  unfold isT
  rw [List.getElem?_eq_getElem h]
  have e : (bs t.s)[t.at_]'h2 = t.s[t.at_]'h := by
    show (t.s.toArray)[t.at_]'(by simpa using h) = _
    exact List.getElem_toArray ..
  rw [e]
  generalize t.s[t.at_]'h = x
  by_cases hc : x = c
  · subst hc
    rw [decide_eq_true rfl]
    exact beq_self_eq_true _
  · rw [decide_eq_false (fun h => hc (Option.some.inj h)), beq_eq_false_iff_ne]
    intro h
    exact hc (UInt8.toNat_inj.1 (by omega))
theorem isT_ge {t : TX} (h : ¬ t.at_ < t.s.length) (c : UInt8) : isT t c = false := by
  unfold isT
  rw [List.getElem?_eq_none (by omega)]
  rfl
set_option maxHeartbeats 4000000 in
set_option maxRecDepth 100000 in
theorem is_calls {F : Nat → Prop} {w : World} {g : Nat} {t : TX} (c : UInt8) (h : TAt F w g t) :
    Calls Try.prog 31 #[.pointer (some ⟨g, 0, none⟩), .int .u8 (c.toNat : Int)] w fun en w' => en = .returned (.bool (isT t c)) ∧ ∃ n, w' = w.drewN n := by
  obtain ⟨lv, h1, h2⟩ := h.core
  have hl := h.len
  have c0 : w.cell? ⟨g, 0, none⟩ = some (.string (bs t.s)) := (blk_cell h1 0).trans rfl
  have c1 : w.cell? ⟨g, 1, none⟩ = some (.int .i64 t.at_) := (blk_cell h1 1).trans rfl
  have hsz : (bs t.s).size = t.s.length := by show (t.s.toArray).size = _; simp
  by_cases hlt : t.at_ < t.s.length
  · have t1 : decide ((t.at_ : Int) < (t.s.length : Int)) = true := decide_eq_true (by omega)
    have t2 : decide (t.at_ < t.s.length) = true := decide_eq_true hlt
    have y3 : (0 : Int) ≤ (t.at_ : Int) := by omega
    have y4 : (t.at_ : Int) < (t.s.length : Int) := by omega
    clear h h1 h2
    go_enter Try.func31, Try.ntmps31
    go_wp2
    go_quiet (fail)
    go_wp2
    go_ret
    exact ⟨by rw [← isT_lt hlt (by omega) c]; rfl, _, rfl⟩
  · have t1 : decide ((t.at_ : Int) < (t.s.length : Int)) = false := decide_eq_false (by omega)
    have t2 : decide (t.at_ < t.s.length) = false := decide_eq_false hlt
    have HI := Aside0.mk (isT_ge hlt c)
    clear h h1 h2 hlt
    go_enter Try.func31, Try.ntmps31
    go_wp2
    go_quiet (fail)
    go_wp2
    go_ret
    rw [HI.out]
    exact ⟨rfl, _, rfl⟩
theorem is_q {F : Nat → Prop} {w : World} {g : Nat} {t : TX} {b : Bool} (c : UInt8) (n : Int) (hn : n = (c.toNat : Int)) (h : TAt F w g t) (hb : isT t c = b) :
    Calls Try.prog 31 #[.pointer (some ⟨g, 0, none⟩), .int .u8 n] w fun en w' => en = .returned (.bool b) ∧ ∃ n, w' = w.drewN n := by
  subst hn; subst hb
  exact is_calls c h
theorem TAt.drewN {F : Nat → Prop} {w : World} {g : Nat} {t : TX} (h : TAt F w g t) (n : Nat) : TAt F (w.drewN n) g t := h.below (pw_below_drewN (Below.refl _ _) n)
/-- The end of a text that was read. -/
def finT (t : TX) (bad : Int) : Int × Int := if 0 ≤ bad ∧ (t.e = 0 ∨ bad ≤ t.place) then (3, bad) else if t.e ≠ 0 then (t.e, t.place) else (0, (t.s.length : Int))
end Go.Proofs.Ytalaedpiimdcbaa.Tx

namespace Go.Proofs.Ytalaedpiimdcbaa.Tx
open Go Go.Lib Go.RowKit Go.Proofs.YtalaedpiimdcbaaW.PrintWords Go.Proofs.YtalaedpiimdcbaaW.PrintLast Go.Proofs.Ytalaedpiimdcbaa.Own Go.Proofs.Ytalaedpiimdcbaa.Hp Go.Proofs.Ytalaedpiimdcbaa.Cr
set_option linter.unusedVariables false
set_option linter.unusedSimpArgs false
theorem infoB : (Try.prog.info? 5).map (fun i => (i.zero, i.size, i.bytes)) = some (some (.int .u8 0), 1, 1) := by kernel_rfl
def TX.next (t : TX) : TX := { t with at_ := t.at_ + 1 }
/-- Past a plain cell. -/
def bareR : List UInt8 → TX → List UInt8 → TX × Option (List UInt8)
  | [], t, out => (t, some out)
  | x :: r, t, out =>
    if x = 44 ∨ x = 10 then (t, some out)
    else if x < 32 ∨ x = 34 then (badT t 2 t.at_, none)
    else if 48 ≤ out.length then (badT t 4 t.at_, none)
    else bareR r t.next (out ++ [x])
def bareC (t : TX) : TX × Option (List UInt8) := bareR (t.s.drop t.at_) t []
/-- What a reader of a cell leaves. -/
def CellPost (F : Nat → Prop) (w : World) (g : Nat) (r : TX × Option (List UInt8)) (e : Ending) (w' : World) : Prop :=
  e = .returned (.tuple #[.string (bs (r.2.getD [])), .bool r.2.isSome]) ∧ TAt F w' g r.1 ∧ Ch txT F w w'
theorem TAt.ch8 {F G : Nat → Prop} {w w1 : World} {g : Nat} {t : TX} (h : TAt F w g t) (hc : Ch (fun t => t = some 5) G w w1) : TAt F w1 g t := by
  obtain ⟨lv, h1, h2⟩ := h.core
  exact ⟨h.fg, ⟨lv, hc.blk h1 (fun hx => absurd hx.2 (by decide)), h2.ch hc (by decide)⟩, h.len⟩
theorem TAt.step {F : Nat → Prop} {w : World} {g : Nat} {t : TX} (h : TAt F w g t) (hl : t.at_ < t.s.length) :
    TAt F (w.setCell ⟨g, 1, none⟩ (.int .i64 ((t.at_ : Int) + 1))) g t.next ∧ Ch txT F w (w.setCell ⟨g, 1, none⟩ (.int .i64 ((t.at_ : Int) + 1))) := by
  obtain ⟨lv, h1, h2⟩ := h.core
  have hc : Ch (fun t => t = some 68) F w (w.setCell ⟨g, 1, none⟩ (.int .i64 ((t.at_ : Int) + 1))) := Ch.set (T := fun t => t = some 68) h1 h.fg rfl 1 _
  exact ⟨⟨h.fg, ⟨lv, blk_put (cs' := txC lv t.next) h1 1 _ rfl, h2.ch hc (by decide)⟩, ⟨h.len.1, by have := h.len.1; show t.at_ + 1 ≤ _; omega, h.len.2.2⟩⟩, hc.mono (fun t ht => .inl ht) (fun _ h => h)⟩
theorem ch_low {T : Option Nat → Prop} {F : Nat → Prop} {w w1 w2 : World} (h : Ch T F w w1) (hb : Below w.heap.size w1 w2) : Ch T F w w2 :=
  ⟨hb.os.trans h.os, hb.tape.trans h.tape, hb.output.trans h.output, Nat.le_trans h.size hb.size, fun k o hk hn => (hb.block k (blk_lt hk)).trans (h.block k o hk hn)⟩
set_option maxHeartbeats 16000000 in
set_option maxRecDepth 100000 in
theorem bare_calls {F : Nat → Prop} {w : World} {g : Nat} {t : TX} (h : TAt F w g t) (hF : ∀ k, w.heap.size ≤ k → F k) :
    Calls Try.prog 37 #[.pointer (some ⟨g, 0, none⟩)] w (CellPost F w g (bareC t)) := by
  have H := Aside0.mk h
  have HF := Aside0.mk hF
  clear h hF
  go_enter Try.func37, Try.ntmps37
  go_wp2
  go_loopg [4] (1000001) (fun gk v4 wr => ∃ (u : TX) (out : List UInt8), Aside0 (bareC t = bareR (u.s.drop u.at_) u out) ∧ Aside0 (u.s.length - u.at_ < gk) ∧ Aside0 (out.length ≤ 48) ∧ Aside0 (TAt F wr g u) ∧ Aside0 (Row (fun k => w.heap.size ≤ k) wr 5 1 v4 out.length (u8C out)) ∧ Aside0 (Ch txT F w wr))
  case atStart => exact ⟨t, [], ⟨rfl⟩, ⟨by have := H.out.len.1; omega⟩, ⟨by simp⟩, H, ⟨Row.nil _ _ _ _⟩, ⟨Ch.refl _ _ _⟩⟩
  case round =>
    obtain ⟨u, out, P1, P2, P3, P4, P5, P6⟩ := hrel
    cases gk with
    | zero => exact absurd P2.out (by omega)
    | succ k1 =>
    obtain ⟨lv, h1, h2⟩ := P4.out.core
    have hl := P4.out.len
    have c0 : wr.cell? ⟨g, 0, none⟩ = some (.string (bs u.s)) := (blk_cell h1 0).trans rfl
    have c1 : wr.cell? ⟨g, 1, none⟩ = some (.int .i64 u.at_) := (blk_cell h1 1).trans rfl
    have hsz : (bs u.s).size = u.s.length := by show (u.s.toArray).size = _; simp
    obtain ⟨A5, n5, hv5, _, _⟩ := P5.out.slice
    clear h1 h2
    subst hv5
    by_cases hlt : u.at_ < u.s.length
    · have HCONS := Aside0.mk (List.drop_eq_getElem_cons hlt)
      have hx : u.s[u.at_]? = some u.s[u.at_] := List.getElem?_eq_getElem hlt
      have he : (bs u.s)[u.at_]'(by omega) = u.s[u.at_]'hlt := by
        show (u.s.toArray)[u.at_]'(by simpa using hlt) = _
        exact List.getElem_toArray ..
      generalize u.s[u.at_]'hlt = x at HCONS hx he
      have t1 : decide ((u.at_ : Int) < (u.s.length : Int)) = true := decide_eq_true (by omega)
      have t2 : decide (u.at_ < u.s.length) = true := decide_eq_true hlt
      have y3 : (0 : Int) ≤ (u.at_ : Int) := by omega
      have y4 : (u.at_ : Int) < (u.s.length : Int) := by omega
      have tw : wrap64 ((u.at_ : Int) + 1) = (u.at_ : Int) + 1 := w64 (by omega) (by omega)
      by_cases h44 : x = 44
      · have HI := Aside0.mk (show isT u 44 = true by unfold isT; rw [hx, h44]; simp)
        have HR := Aside0.mk (show bareC t = (u, some out) by rw [P1.out, HCONS.out]; unfold bareR; rw [if_pos (.inl h44)])
        clear h44 hx he
        go_wp2
        go_quiet ((go_at_call 31; exact Calls.quiet_of (is_q 44 _ rfl (P4.out.drewN _) HI.out)))
        have DB := Aside0.mk (pw_below_drewN (Below.refl wr.heap.size wr) nq)
        have R5 := Aside0.mk (P5.out.below DB.out)
        have T5 := Aside0.mk (P4.out.below DB.out)
        have C5 := Aside0.mk (P6.out.trans (Ch.of_below DB.out))
        clear c0 c1
        generalize wr.drewN nq = w3 at DB R5 T5 C5 ⊢
        go_wp2_with (refine rowstr_event rfl rfl rfl Try.underlying22 Try.underlying5 Try.underlying9 R5.out ?_)
        go_ret2
        unfold CellPost
        rw [HR.out]
        exact ⟨rfl, T5.out, C5.out⟩
      have HI := Aside0.mk (show isT u 44 = false by unfold isT; rw [hx]; exact decide_eq_false (fun h => h44 (Option.some.inj h)))
      by_cases h10 : x = 10
      · have HJ := Aside0.mk (show isT u 10 = true by unfold isT; rw [hx, h10]; simp)
        have HR := Aside0.mk (show bareC t = (u, some out) by rw [P1.out, HCONS.out]; unfold bareR; rw [if_pos (.inr h10)])
        clear h44 h10 hx he
        go_wp2
        go_quiet ((first | (go_at_call 31; exact Calls.quiet_of (is_q 44 _ rfl (P4.out.drewN _) HI.out)) | (go_at_call 31; exact Calls.quiet_of (is_q 10 _ rfl (P4.out.drewN _) HJ.out))))
        have DB := Aside0.mk (pw_below_drewN (Below.refl wr.heap.size wr) nq)
        have R5 := Aside0.mk (P5.out.below DB.out)
        have T5 := Aside0.mk (P4.out.below DB.out)
        have C5 := Aside0.mk (P6.out.trans (Ch.of_below DB.out))
        clear c0 c1
        generalize wr.drewN nq = w3 at DB R5 T5 C5 ⊢
        go_wp2_with (refine rowstr_event rfl rfl rfl Try.underlying22 Try.underlying5 Try.underlying9 R5.out ?_)
        go_ret2
        unfold CellPost
        rw [HR.out]
        exact ⟨rfl, T5.out, C5.out⟩
      · have HJ := Aside0.mk (show isT u 10 = false by unfold isT; rw [hx]; exact decide_eq_false (fun h => h10 (Option.some.inj h)))
        have HN := Aside0.mk (show ¬ (x = 44 ∨ x = 10) by intro h; rcases h with h | h; exact h44 h; exact h10 h)
        clear h44 h10 hx
        go_wp2
        go_quiet ((first | (go_at_call 31; exact Calls.quiet_of (is_q 44 _ rfl (P4.out.drewN _) HI.out)) | (go_at_call 31; exact Calls.quiet_of (is_q 10 _ rfl (P4.out.drewN _) HJ.out))))
        have DB := Aside0.mk (pw_below_drewN (Below.refl wr.heap.size wr) nq)
        have R5 := Aside0.mk (P5.out.below DB.out)
        have T5 := Aside0.mk (P4.out.below DB.out)
        have C5 := Aside0.mk (P6.out.trans (Ch.of_below DB.out))
        have d0 : (wr.drewN nq).cell? ⟨g, 0, none⟩ = some (.string (bs u.s)) := c0
        have d1 : (wr.drewN nq).cell? ⟨g, 1, none⟩ = some (.int .i64 u.at_) := c1
        clear c0 c1
        generalize wr.drewN nq = w3 at DB R5 T5 C5 d0 d1 ⊢
        go_wp2
        go_quiet (fail)
        have D2 := Aside0.mk (pw_below_drewN (Below.refl w3.heap.size w3) nq)
        have R6 := Aside0.mk (R5.out.below D2.out)
        have T6 := Aside0.mk (T5.out.below D2.out)
        have C6 := Aside0.mk (C5.out.trans (Ch.of_below D2.out))
        have k1c : (w3.drewN nq).cell? ⟨g, 1, none⟩ = some (.int .i64 u.at_) := d1
        clear d0 d1 he
        generalize w3.drewN nq = w4 at D2 R6 T6 C6 k1c ⊢
        by_cases hodd : x < 32 ∨ x = 34
        · have HR := Aside0.mk (show bareC t = (badT u 2 u.at_, none) by rw [P1.out, HCONS.out]; unfold bareR; rw [if_neg HN.out, if_pos hodd])
          by_cases h32 : x < 32
          · have v1 : decide ((x.toNat : Int) < 32) = true := decide_eq_true (by have h : x.toNat < (32 : UInt8).toNat := UInt8.lt_iff_toNat_lt.1 h32; have : (32 : UInt8).toNat = 32 := rfl; omega)
            clear hodd h32
            go_wp2_with (go_at_call 32; refine (bad_calls 2 u.at_ T6.out).mono ?_; rintro e w5 ⟨rfl, ht, hc⟩; have T7 := Aside0.mk ht; have C7 := Aside0.mk (C6.out.trans (hc.mono (fun _ h => h) (fun _ h => ext_of h))); clear ht hc k1c)
            go_ret2
            unfold CellPost
            rw [HR.out]
            exact ⟨rfl, T7.out, C7.out⟩
          · have v1 : decide ((x.toNat : Int) < 32) = false := decide_eq_false (fun h => h32 (UInt8.lt_iff_toNat_lt.2 (by have : (32 : UInt8).toNat = 32 := rfl; omega)))
            have hx34 := hodd.resolve_left h32
            subst hx34
            clear hodd h32
            go_wp2_with (go_at_call 32; refine (bad_calls 2 u.at_ T6.out).mono ?_; rintro e w5 ⟨rfl, ht, hc⟩; have T7 := Aside0.mk ht; have C7 := Aside0.mk (C6.out.trans (hc.mono (fun _ h => h) (fun _ h => ext_of h))); clear ht hc k1c)
            go_ret2
            unfold CellPost
            rw [HR.out]
            exact ⟨rfl, T7.out, C7.out⟩
        · have h32 : ¬ x < 32 := fun h => hodd (.inl h)
          have h34 : x ≠ 34 := fun h => hodd (.inr h)
          have v1 : decide ((x.toNat : Int) < 32) = false := decide_eq_false (fun h => h32 (UInt8.lt_iff_toNat_lt.2 (by have : (32 : UInt8).toNat = 32 := rfl; omega)))
          have v34 : ¬ ((x.toNat : Int) = 34) := fun h => h34 (UInt8.toNat_inj.1 (by have : (34 : UInt8).toNat = 34 := rfl; omega))
          have v2 : ((x.toNat : Int) == 34) = false := by rw [beq_eq_false_iff_ne]; exact v34
          have v3 : decide ((x.toNat : Int) = 34) = false := decide_eq_false v34
          have v4 : (x.toNat == 34) = false := by rw [beq_eq_false_iff_ne]; intro h; exact v34 (by omega)
          have HO := Aside0.mk hodd
          clear hodd h32 h34 v34
          by_cases h48 : 48 ≤ out.length
          · have z1 : decide ((48 : Int) ≤ (out.length : Int)) = true := decide_eq_true (by omega)
            have z2 : decide (48 ≤ out.length) = true := decide_eq_true h48
            have HR := Aside0.mk (show bareC t = (badT u 4 u.at_, none) by rw [P1.out, HCONS.out]; unfold bareR; rw [if_neg HN.out, if_neg HO.out, if_pos h48])
            clear h48
            go_wp2_with (go_at_call 32; refine (bad_calls 4 u.at_ T6.out).mono ?_; rintro e w5 ⟨rfl, ht, hc⟩; have T7 := Aside0.mk ht; have C7 := Aside0.mk (C6.out.trans (hc.mono (fun _ h => h) (fun _ h => ext_of h))); clear ht hc k1c)
            go_ret2
            unfold CellPost
            rw [HR.out]
            exact ⟨rfl, T7.out, C7.out⟩
          · have z1 : decide ((48 : Int) ≤ (out.length : Int)) = false := decide_eq_false (by omega)
            have z2 : decide (48 ≤ out.length) = false := decide_eq_false h48
            have HR := Aside0.mk (show bareC t = bareR (u.next.s.drop u.next.at_) u.next (out ++ [x]) by rw [P1.out, HCONS.out]; rw [bareR, if_neg HN.out, if_neg HO.out, if_neg h48]; rfl)
            have HO3 := Aside0.mk (show out.length < 48 by omega)
            clear h48
            go_wp2_with ((with_reducible refine gate_builtin (b := .append) (xs := #[.tmp 56, .tmp 58]) rfl ?_); at_builtin; refine row_append rfl (.tmp 56) (.tmp 58) 22 5 (.int .u8 0) 1 1 rfl Try.underlying22 infoB rfl (by decide) _ out.length (u8C out) [.int .u8 (x.toNat : Int)] rfl rfl rfl (by simp [Value.oneCell']) R6.out (by have := HO3.out; omega) (by have := HO3.out; unfold maxLen; omega) ?_; intro v7 w7 hr7 hc7; have R7 := Aside0.mk hr7; have T7 := Aside0.mk (T6.out.ch8 hc7); have C7 := Aside0.mk hc7; have f1 := (blk_frozen (T6.out.ch8 hc7).core.choose_spec.1 1); have k1c : w7.cell? ⟨g, 1, none⟩ = some (.int .i64 u.at_) := (blk_cell (T6.out.ch8 hc7).core.choose_spec.1 1).trans rfl; clear hr7 hc7)
            go_roundg k1
            case measure => exact Nat.lt_succ_self _
            case rel =>
              obtain ⟨q1, q2⟩ := T7.out.step hlt
              have hs := C6.out.size
              refine ⟨u.next, out ++ [x], HR, ⟨by have := P2.out; show u.s.length - (u.at_ + 1) < k1; omega⟩, ⟨by rw [List.length_append, List.length_singleton]; have := HO3.out; omega⟩, ⟨q1⟩, ⟨?_⟩, ⟨?_⟩⟩
              · rw [u8C_one, List.length_append, List.length_singleton]
                exact (R7.out.mono (fun k hk => by rcases hk with hk | hk; exact hk; exact Nat.le_trans hs hk)).ch q2 (by unfold txT; decide)
              · exact (ch_low C6.out (C7.out.below (B := w.heap.size) (fun _ h => h) hs)).trans (q2.mono (fun _ h => h) (fun _ h => ext_of h))
    · have hn : u.s[u.at_]? = none := List.getElem?_eq_none (by omega)
      have HR := Aside0.mk (show bareC t = (u, some out) by rw [P1.out, List.drop_of_length_le (by omega)]; rfl)
      have t1 : decide ((u.at_ : Int) < (u.s.length : Int)) = false := decide_eq_false (by omega)
      have t2 : decide (u.at_ < u.s.length) = false := decide_eq_false hlt
      clear hlt hn
      go_wp2
      go_quiet (fail)
      have DB := Aside0.mk (pw_below_drewN (Below.refl wr.heap.size wr) nq)
      have R5 := Aside0.mk (P5.out.below DB.out)
      have T5 := Aside0.mk (P4.out.below DB.out)
      have C5 := Aside0.mk (P6.out.trans (Ch.of_below DB.out))
      clear c0 c1
      generalize wr.drewN nq = w3 at DB R5 T5 C5 ⊢
      go_wp2_with (refine rowstr_event rfl rfl rfl Try.underlying22 Try.underlying5 Try.underlying9 R5.out ?_)
      go_ret2
      unfold CellPost
      rw [HR.out]
      exact ⟨rfl, T5.out, C5.out⟩
end Go.Proofs.Ytalaedpiimdcbaa.Tx

namespace Go.Proofs.Ytalaedpiimdcbaa.Tx
open Go Go.Lib Go.RowKit Go.Proofs.YtalaedpiimdcbaaW.PrintWords Go.Proofs.YtalaedpiimdcbaaW.PrintLast Go.Proofs.Ytalaedpiimdcbaa.Own Go.Proofs.Ytalaedpiimdcbaa.Hp Go.Proofs.Ytalaedpiimdcbaa.Cr
set_option linter.unusedVariables false
set_option linter.unusedSimpArgs false
/-- Past a quoted cell whose first quote is behind. -/
def quotR : Nat → TX → List UInt8 → TX × Option (List UInt8)
  | 0, t, _ => (t, none)
  | k + 1, t, out =>
    if t.at_ < t.s.length then
      if isT t 34 = true then
        if isT t.next 34 = true then
          (if 48 ≤ out.length then (badT t.next 4 t.next.at_, none) else quotR k t.next.next (out ++ [34]))
        else if t.next.at_ < t.s.length ∧ isT t.next 44 = false ∧ isT t.next 10 = false then (badT t.next 2 t.next.at_, none) else (t.next, some out)
      else if 48 ≤ out.length then (badT t 4 t.at_, none) else quotR k t.next (out ++ [t.s.getD t.at_ 0])
    else (badT t 2 t.at_, none)
theorem step_ch {F : Nat → Prop} {w : World} {g : Nat} {t : TX} (h : TAt F w g t) (hl : t.at_ < t.s.length) : TAt F (w.setCell ⟨g, 1, none⟩ (.int .i64 ((t.at_ : Int) + 1))) g t.next := (h.step hl).1
def quotC (t : TX) : TX × Option (List UInt8) := quotR (t.s.length + 1) t []
set_option maxHeartbeats 16000000 in
set_option maxRecDepth 100000 in
theorem quoted_calls {F : Nat → Prop} {w : World} {g : Nat} {t : TX} (h : TAt F w g t) (hF : ∀ k, w.heap.size ≤ k → F k) :
    Calls Try.prog 36 #[.pointer (some ⟨g, 0, none⟩)] w (CellPost F w g (quotC t)) := by
  have H := Aside0.mk h
  have HF := Aside0.mk hF
  clear h hF
  go_enter Try.func36, Try.ntmps36
  go_wp2
  go_loopg [4] (t.s.length + 2) (fun gk v4 wr => ∃ (k : Nat) (u : TX) (out : List UInt8), Aside0 (quotC t = quotR k u out) ∧ Aside0 (u.s.length - u.at_ < k ∧ k < gk) ∧ Aside0 (out.length ≤ 48) ∧ Aside0 (TAt F wr g u) ∧ Aside0 (Row (fun k => w.heap.size ≤ k) wr 5 1 v4 out.length (u8C out)) ∧ Aside0 (Ch txT F w wr))
  case atStart => exact ⟨t.s.length + 1, t, [], ⟨rfl⟩, ⟨by omega, by omega⟩, ⟨by simp⟩, H, ⟨Row.nil _ _ _ _⟩, ⟨Ch.refl _ _ _⟩⟩
  case round =>
    obtain ⟨k, u, out, P1, P2, P3, P4, P5, P6⟩ := hrel
    cases gk with
    | zero => exact absurd P2.out.2 (by omega)
    | succ k1 =>
    obtain ⟨k0, rfl⟩ : ∃ m, k = m + 1 := ⟨k - 1, by have := P2.out.1; omega⟩
    obtain ⟨lv, h1, h2⟩ := P4.out.core
    have hl := P4.out.len
    have c0 : wr.cell? ⟨g, 0, none⟩ = some (.string (bs u.s)) := (blk_cell h1 0).trans rfl
    have c1 : wr.cell? ⟨g, 1, none⟩ = some (.int .i64 u.at_) := (blk_cell h1 1).trans rfl
    have hsz : (bs u.s).size = u.s.length := by show (u.s.toArray).size = _; simp
    obtain ⟨A5, n5, hv5, _, _⟩ := P5.out.slice
    clear h1 h2
    subst hv5
    by_cases hlt : u.at_ < u.s.length
    · have t1 : decide ((u.at_ : Int) < (u.s.length : Int)) = true := decide_eq_true (by omega)
      have t2 : decide (u.at_ < u.s.length) = true := decide_eq_true hlt
      have tw : wrap64 ((u.at_ : Int) + 1) = (u.at_ : Int) + 1 := w64 (by omega) (by omega)
      cases h34 : isT u 34 with
      | true =>
        have HI := Aside0.mk h34
        obtain ⟨v, hv⟩ : ∃ v, u.next = v := ⟨_, rfl⟩
        have HV := Aside0.mk hv
        have HVS := Aside0.mk (show v.s = u.s by rw [← hv]; rfl)
        have HVA := Aside0.mk (show v.at_ = u.at_ + 1 by rw [← hv]; rfl)
        go_wp2
        go_quiet (fail)
        have DB0 := Aside0.mk (pw_below_drewN (Below.refl wr.heap.size wr) nq)
        have R5 := Aside0.mk (P5.out.below DB0.out)
        have T5 := Aside0.mk (P4.out.below DB0.out)
        have C5 := Aside0.mk (P6.out.trans (Ch.of_below DB0.out))
        clear c0 c1 hv
        generalize wr.drewN nq = w3 at DB0 R5 T5 C5 ⊢
        cases h2 : isT v 34 with
        | true =>
          have HJ := Aside0.mk h2
          have hltv : v.at_ < v.s.length := by
            rcases Nat.lt_or_ge v.at_ v.s.length with h | h
            · exact h
            · rw [isT_ge (by omega)] at h2; cases h2
          have hev : v.s[v.at_]'hltv = 34 := by
            unfold isT at h2
            rw [List.getElem?_eq_getElem hltv] at h2
            exact Option.some.inj (of_decide_eq_true h2)
          have hszv : (bs v.s).size = v.s.length := by show (v.s.toArray).size = _; simp
          have he : (bs v.s)[v.at_]'(by omega) = 34 := by
            rw [← hev]
            show (v.s.toArray)[v.at_]'(by simpa using hltv) = _
            exact List.getElem_toArray ..
          have y3 : (0 : Int) ≤ (v.at_ : Int) := by omega
          have y4 : (v.at_ : Int) < (v.s.length : Int) := by omega
          have twv : wrap64 ((v.at_ : Int) + 1) = (v.at_ : Int) + 1 := w64 (by omega) (by have := T5.out.len.1; rw [HVS.out] at hltv; omega)
          clear hev t1 t2 hsz
          by_cases h48 : 48 ≤ out.length
          · have z1 : decide ((48 : Int) ≤ (out.length : Int)) = true := decide_eq_true (by omega)
            have z2 : decide (48 ≤ out.length) = true := decide_eq_true h48
            have HR := Aside0.mk (show quotC t = (badT v 4 v.at_, none) by rw [P1.out, quotR, if_pos hlt, if_pos h34, HV.out, if_pos h2, if_pos h48])
            clear h48
            go_wp2_with (first
              | (go_at_call 31; refine (is_q 34 _ rfl T5.out HI.out).mono ?_; rintro e w4 ⟨rfl, n4, rfl⟩; have D4 := Aside0.mk (pw_below_drewN (Below.refl w3.heap.size w3) n4); have R4 := Aside0.mk (R5.out.below D4.out); have T4 := Aside0.mk (T5.out.below D4.out); have C4 := Aside0.mk (C5.out.trans (Ch.of_below D4.out)); generalize w3.drewN n4 = w4 at D4 R4 T4 C4 ⊢; have ST := Aside0.mk (T4.out.step hlt); have TN := Aside0.mk (show TAt F (w4.setCell ⟨g, 1, none⟩ (.int .i64 ((u.at_ : Int) + 1))) g v by rw [← HV.out]; exact ST.out.1); have c1 : w4.cell? ⟨g, 1, none⟩ = some (.int .i64 u.at_) := (blk_cell T4.out.core.choose_spec.1 1).trans rfl; have f1 := blk_frozen T4.out.core.choose_spec.1 1)
              | (go_at_call 31; refine (is_q 34 _ rfl TN.out HJ.out).mono ?_; rintro e w5 ⟨rfl, n5x, rfl⟩; have D5 := Aside0.mk (pw_below_drewN (Below.refl (w4.setCell ⟨g, 1, none⟩ (.int .i64 ((u.at_ : Int) + 1))).heap.size (w4.setCell ⟨g, 1, none⟩ (.int .i64 ((u.at_ : Int) + 1)))) n5x); have RR := Aside0.mk ((R4.out.ch ST.out.2 (by unfold txT; decide)).below D5.out); have TT := Aside0.mk (TN.out.below D5.out); have CC := Aside0.mk ((C4.out.trans (ST.out.2.mono (fun _ h => h) (fun _ h => ext_of h))).trans (Ch.of_below D5.out)); clear c1 f1; generalize (w4.setCell ⟨g, 1, none⟩ (.int .i64 ((u.at_ : Int) + 1))).drewN n5x = w5 at D5 RR TT CC ⊢; obtain ⟨lv2, hg2, _⟩ := TT.out.core; have HG := Aside0.mk hg2; have c1 : w5.cell? ⟨g, 1, none⟩ = some (.int .i64 v.at_) := (blk_cell hg2 1).trans rfl; clear hg2)
              | (go_at_call 32; refine (bad_calls 4 v.at_ TT.out).mono ?_; rintro e w7 ⟨rfl, ht, hc⟩; have T7 := Aside0.mk ht; have C7 := Aside0.mk (CC.out.trans (hc.mono (fun _ h => h) (fun _ h => ext_of h))); clear ht hc c1))
            go_ret2
            unfold CellPost
            rw [HR.out]
            exact ⟨rfl, T7.out, C7.out⟩
          · have z1 : decide ((48 : Int) ≤ (out.length : Int)) = false := decide_eq_false (by omega)
            have z2 : decide (48 ≤ out.length) = false := decide_eq_false h48
            have HR := Aside0.mk (show quotC t = quotR k0 v.next (out ++ [34]) by rw [P1.out, quotR, if_pos hlt, if_pos h34, HV.out, if_pos h2, if_neg h48])
            have HO3 := Aside0.mk (show out.length < 48 by omega)
            clear h48
            go_wp2_with (first
              | (go_at_call 31; refine (is_q 34 _ rfl T5.out HI.out).mono ?_; rintro e w4 ⟨rfl, n4, rfl⟩; have D4 := Aside0.mk (pw_below_drewN (Below.refl w3.heap.size w3) n4); have R4 := Aside0.mk (R5.out.below D4.out); have T4 := Aside0.mk (T5.out.below D4.out); have C4 := Aside0.mk (C5.out.trans (Ch.of_below D4.out)); generalize w3.drewN n4 = w4 at D4 R4 T4 C4 ⊢; have ST := Aside0.mk (T4.out.step hlt); have TN := Aside0.mk (show TAt F (w4.setCell ⟨g, 1, none⟩ (.int .i64 ((u.at_ : Int) + 1))) g v by rw [← HV.out]; exact ST.out.1); have c1 : w4.cell? ⟨g, 1, none⟩ = some (.int .i64 u.at_) := (blk_cell T4.out.core.choose_spec.1 1).trans rfl; have f1 := blk_frozen T4.out.core.choose_spec.1 1)
              | (go_at_call 31; refine (is_q 34 _ rfl TN.out HJ.out).mono ?_; rintro e w5 ⟨rfl, n5x, rfl⟩; have D5 := Aside0.mk (pw_below_drewN (Below.refl (w4.setCell ⟨g, 1, none⟩ (.int .i64 ((u.at_ : Int) + 1))).heap.size (w4.setCell ⟨g, 1, none⟩ (.int .i64 ((u.at_ : Int) + 1)))) n5x); have RR := Aside0.mk ((R4.out.ch ST.out.2 (by unfold txT; decide)).below D5.out); have TT := Aside0.mk (TN.out.below D5.out); have CC := Aside0.mk ((C4.out.trans (ST.out.2.mono (fun _ h => h) (fun _ h => ext_of h))).trans (Ch.of_below D5.out)); clear c1 f1; generalize (w4.setCell ⟨g, 1, none⟩ (.int .i64 ((u.at_ : Int) + 1))).drewN n5x = w5 at D5 RR TT CC ⊢; obtain ⟨lv2, hg2, _⟩ := TT.out.core; have HG := Aside0.mk hg2; have c1 : w5.cell? ⟨g, 1, none⟩ = some (.int .i64 v.at_) := (blk_cell hg2 1).trans rfl; clear hg2))
            clear c1
            refine start_ (n := 13) (S := (fun w' => w'.heap[g]? = some (.cells (txC lv2 v) 68 (0, 0)))) (ds := [11, 12]) #[false, false, false, false, false, false, false, false, false, false, false, false, false] (by kernel_rfl) rfl rfl HG.out (fun hHeld => ?_)
            have DB := Aside0.mk (below_drew (Below.refl w5.heap.size w5))
            generalize w5.drew = w6 at DB hHeld ⊢
            -- T64 := move (tmp 4) :22,
            refine pure_ (i := 0) (N := some 64) (v := ?_) (a' := ?_) #[true, false, false, false, false, false, false, false, false, false, false, false, false] rfl rfl (by kernel_rfl) (fun _ _ _ h => h) (Or.inl ⟨by rfl, ?_⟩) ?_ ?_
            rotate_left
            · intro w'
              go_simp
              with_reducible rfl
            rotate_left
            · simp only [Act.put, List.setIfInBounds_toArray, List.set_cons_zero, List.set_cons_succ]
              rfl
            -- T65 := move (tmp 0) :64,
            refine pure_ (i := 1) (N := some 65) (v := ?_) (a' := ?_) #[true, true, false, false, false, false, false, false, false, false, false, false, false] rfl rfl (by kernel_rfl) (fun _ _ _ h => h) (Or.inl ⟨by rfl, ?_⟩) ?_ ?_
            rotate_left
            · intro w'
              go_simp
              with_reducible rfl
            rotate_left
            · simp only [Act.put, List.setIfInBounds_toArray, List.set_cons_zero, List.set_cons_succ]
              rfl
            -- T66 := nilCheck (tmp 65) :0,
            refine pure_ (i := 2) (N := some 66) (v := ?_) (a' := ?_) #[true, true, true, false, false, false, false, false, false, false, false, false, false] rfl rfl (by kernel_rfl) (fun _ _ _ h => h) (Or.inl ⟨by rfl, ?_⟩) ?_ ?_
            rotate_left
            · intro w'
              go_simp
              with_reducible rfl
            rotate_left
            · simp only [Act.put, List.setIfInBounds_toArray, List.set_cons_zero, List.set_cons_succ]
              rfl
            -- T67 := fieldAddr 68 (tmp 66) 0 :0
            refine pure_ (i := 3) (N := some 67) (v := ?_) (a' := ?_) #[true, true, true, true, false, false, false, false, false, false, false, false, false] rfl rfl (by kernel_rfl) (fun _ _ _ h => h) (Or.inl ⟨by rfl, ?_⟩) ?_ ?_
            rotate_left
            · intro w'
              go_simp
              with_reducible rfl
            rotate_left
            · simp only [Act.put, List.setIfInBounds_toArray, List.set_cons_zero, List.set_cons_succ]
              rfl
            -- T68 := load 9 (tmp 67) :9,
            refine take_ (i := 4) (N := some 68) (v := ?_) (a' := ?_) #[true, true, true, true, true, false, false, false, false, false, false, false, false] rfl rfl (by kernel_rfl) (fun _ _ _ h => h) (Or.inl ⟨by rfl, ?_⟩) hHeld ?_ ?_
            rotate_left
            · intro w' hw'
              (have c0 : w'.cell? ⟨g, 0, none⟩ = some (.string (bs v.s)) := (blk_cell hw' 0).trans rfl; have c1 : w'.cell? ⟨g, 1, none⟩ = some (.int .i64 v.at_) := (blk_cell hw' 1).trans rfl)
              go_simp
              with_reducible rfl
            rotate_left
            · simp only [Act.put, List.setIfInBounds_toArray, List.set_cons_zero, List.set_cons_succ]
              rfl
            -- T69 := move (tmp 0) :64,
            refine pure_ (i := 5) (N := some 69) (v := ?_) (a' := ?_) #[true, true, true, true, true, true, false, false, false, false, false, false, false] rfl rfl (by kernel_rfl) (fun _ _ _ h => h) (Or.inl ⟨by rfl, ?_⟩) ?_ ?_
            rotate_left
            · intro w'
              go_simp
              with_reducible rfl
            rotate_left
            · simp only [Act.put, List.setIfInBounds_toArray, List.set_cons_zero, List.set_cons_succ]
              rfl
            -- T70 := nilCheck (tmp 69) :0,
            refine pure_ (i := 6) (N := some 70) (v := ?_) (a' := ?_) #[true, true, true, true, true, true, true, false, false, false, false, false, false] rfl rfl (by kernel_rfl) (fun _ _ _ h => h) (Or.inl ⟨by rfl, ?_⟩) ?_ ?_
            rotate_left
            · intro w'
              go_simp
              with_reducible rfl
            rotate_left
            · simp only [Act.put, List.setIfInBounds_toArray, List.set_cons_zero, List.set_cons_succ]
              rfl
            -- T71 := fieldAddr 68 (tmp 70) 1 :0
            refine pure_ (i := 7) (N := some 71) (v := ?_) (a' := ?_) #[true, true, true, true, true, true, true, true, false, false, false, false, false] rfl rfl (by kernel_rfl) (fun _ _ _ h => h) (Or.inl ⟨by rfl, ?_⟩) ?_ ?_
            rotate_left
            · intro w'
              go_simp
              with_reducible rfl
            rotate_left
            · simp only [Act.put, List.setIfInBounds_toArray, List.set_cons_zero, List.set_cons_succ]
              rfl
            -- T72 := load 3 (tmp 71) :3,
            refine take_ (i := 8) (N := some 72) (v := ?_) (a' := ?_) #[true, true, true, true, true, true, true, true, true, false, false, false, false] rfl rfl (by kernel_rfl) (fun _ _ _ h => h) (Or.inl ⟨by rfl, ?_⟩) hHeld ?_ ?_
            rotate_left
            · intro w' hw'
              (have c0 : w'.cell? ⟨g, 0, none⟩ = some (.string (bs v.s)) := (blk_cell hw' 0).trans rfl; have c1 : w'.cell? ⟨g, 1, none⟩ = some (.int .i64 v.at_) := (blk_cell hw' 1).trans rfl)
              go_simp
              with_reducible rfl
            rotate_left
            · simp only [Act.put, List.setIfInBounds_toArray, List.set_cons_zero, List.set_cons_succ]
              rfl
            -- T73 := index 9 (tmp 68) (tmp 72) :5
            refine pure_ (i := 9) (N := some 73) (v := ?_) (a' := ?_) #[true, true, true, true, true, true, true, true, true, true, false, false, false] rfl rfl (by kernel_rfl) (fun _ _ _ h => h) (Or.inl ⟨by rfl, ?_⟩) ?_ ?_
            rotate_left
            · intro w'
              go_simp
              with_reducible rfl
            rotate_left
            · simp only [Act.put, List.setIfInBounds_toArray, List.set_cons_zero, List.set_cons_succ]
              rfl
            -- T74 := buildSlice 22 1 #[(0, tmp 73)] :22
            refine one_ (i := 10) (N := some 74) #[true, true, true, true, true, true, true, true, true, true, true, false, false] rfl rfl (by kernel_rfl) (by decide) (fun K hK => ?_)
            refine value_ (v := .slice (some ⟨w6.heap.size, 0, none⟩) 1 1) (w1 := w6.alloc (.cells #[.int .u8 (34 : Int)] 5)) rfl rfl (by go_simp) ?_
            refine hK _ _ ((Below.heap_alloc _ _ g (blk_lt hHeld)).trans hHeld) (fun hHeld3 => ?_)
            clear hK hHeld hHeld3
            refine norm_ (a' := ?_) ?_ ?_
            rotate_left
            · simp only [Act.put, List.setIfInBounds_toArray, List.set_cons_zero, List.set_cons_succ]
              rfl
            refine tailI_ [11, 12] (by kernel_rfl) (by decide) rfl ?_
            simp only [List.filterMap_cons, List.filterMap_nil]
            have R6 := Aside0.mk (RR.out.below DB.out)
            have T6 := Aside0.mk (TT.out.below DB.out)
            have C6 := Aside0.mk (CC.out.trans (Ch.of_below DB.out))
            refine row_append rfl (.tmp 64) (.tmp 74) 22 5 (.int .u8 0) 1 1 rfl Try.underlying22 infoB rfl (by decide) _ out.length (u8C out) [.int .u8 (34 : Int)] rfl rfl rfl (by simp [Value.oneCell']) R6.out (by have := HO3.out; omega) (by have := HO3.out; unfold maxLen; omega) ?_
            intro v7 w7 hr7 hc7
            have R7 := Aside0.mk hr7
            have T7 := Aside0.mk (T6.out.ch8 hc7)
            have C7 := Aside0.mk hc7
            have f1 := (blk_frozen (T6.out.ch8 hc7).core.choose_spec.1 1)
            have k1c : w7.cell? ⟨g, 1, none⟩ = some (.int .i64 v.at_) := (blk_cell (T6.out.ch8 hc7).core.choose_spec.1 1).trans rfl
            clear hr7 hc7
            go_wp2
            go_roundg k1
            case measure => exact Nat.lt_succ_self _
            case rel =>
              obtain ⟨q1, q2⟩ := T7.out.step hltv
              have hs := C6.out.size
              refine ⟨k0, v.next, out ++ [34], HR, ⟨by have := P2.out.1; show v.s.length - (v.at_ + 1) < k0; rw [HVS.out, HVA.out]; rw [HVS.out] at hltv; rw [HVA.out] at hltv; omega, by have := P2.out.2; omega⟩, ⟨by rw [List.length_append, List.length_singleton]; have := HO3.out; omega⟩, ⟨q1⟩, ⟨?_⟩, ⟨?_⟩⟩
              · rw [u8C_one, List.length_append, List.length_singleton]
                exact (R7.out.mono (fun k hk => by rcases hk with hk | hk; exact hk; exact Nat.le_trans hs hk)).ch q2 (by unfold txT; decide)
              · exact (ch_low C6.out (C7.out.below (B := w.heap.size) (fun _ h => h) hs)).trans (q2.mono (fun _ h => h) (fun _ h => ext_of h))
        | false =>
          have HJ := Aside0.mk h2
          have hszv : (bs v.s).size = v.s.length := by show (v.s.toArray).size = _; simp
          by_cases hltv : v.at_ < v.s.length
          · have s1 : decide ((v.at_ : Int) < (v.s.length : Int)) = true := decide_eq_true (by omega)
            have s2 : decide (v.at_ < v.s.length) = true := decide_eq_true hltv
            have HLV := Aside0.mk (show v.at_ < u.s.length by rw [← HVS.out]; exact hltv)
            cases h44 : isT v 44 with
            | true =>
              have H44 := Aside0.mk h44
              have H10 := Aside0.mk (show isT v 10 = isT v 10 from rfl)
              have HR := Aside0.mk (show quotC t = (v, some out) by rw [P1.out, quotR, if_pos hlt, if_pos h34, HV.out, if_neg (by rw [h2]; decide), if_neg (by intro h; rw [h44] at h; cases h.2.1)])
              clear t1 t2 hsz h44 h2 h34 hltv
              go_wp2_with (first
                  | (go_at_call 31; refine (is_q 34 _ rfl T5.out HI.out).mono ?_; rintro e w4 ⟨rfl, n4, rfl⟩; have D4 := Aside0.mk (pw_below_drewN (Below.refl w3.heap.size w3) n4); have R4 := Aside0.mk (R5.out.below D4.out); have T4 := Aside0.mk (T5.out.below D4.out); have C4 := Aside0.mk (C5.out.trans (Ch.of_below D4.out)); generalize w3.drewN n4 = w4 at D4 R4 T4 C4 ⊢; have ST := Aside0.mk (T4.out.step hlt); have TN := Aside0.mk (show TAt F (w4.setCell ⟨g, 1, none⟩ (.int .i64 ((u.at_ : Int) + 1))) g v by rw [← HV.out]; exact ST.out.1); have c1 : w4.cell? ⟨g, 1, none⟩ = some (.int .i64 u.at_) := (blk_cell T4.out.core.choose_spec.1 1).trans rfl; have f1 := blk_frozen T4.out.core.choose_spec.1 1)
                  | (go_at_call 31; refine (is_q 34 _ rfl TN.out HJ.out).mono ?_; rintro e w5 ⟨rfl, n5x, rfl⟩; have D5 := Aside0.mk (pw_below_drewN (Below.refl (w4.setCell ⟨g, 1, none⟩ (.int .i64 ((u.at_ : Int) + 1))).heap.size (w4.setCell ⟨g, 1, none⟩ (.int .i64 ((u.at_ : Int) + 1)))) n5x); have RR := Aside0.mk ((R4.out.ch ST.out.2 (by unfold txT; decide)).below D5.out); have TT := Aside0.mk (TN.out.below D5.out); have CC := Aside0.mk ((C4.out.trans (ST.out.2.mono (fun _ h => h) (fun _ h => ext_of h))).trans (Ch.of_below D5.out)); clear c1 f1; generalize (w4.setCell ⟨g, 1, none⟩ (.int .i64 ((u.at_ : Int) + 1))).drewN n5x = w5 at D5 RR TT CC ⊢; have c0 : w5.cell? ⟨g, 0, none⟩ = some (.string (bs v.s)) := (blk_cell TT.out.core.choose_spec.1 0).trans rfl; have c1 : w5.cell? ⟨g, 1, none⟩ = some (.int .i64 v.at_) := (blk_cell TT.out.core.choose_spec.1 1).trans rfl))
              go_quiet ((first | (go_at_call 31; exact Calls.quiet_of (is_q 44 _ rfl (TT.out.drewN _) H44.out)) | (go_at_call 31; exact Calls.quiet_of (is_q 10 _ rfl (TT.out.drewN _) H10.out))))
              have D6 := Aside0.mk (pw_below_drewN (Below.refl w5.heap.size w5) nq)
              have R6 := Aside0.mk (RR.out.below D6.out)
              have T6 := Aside0.mk (TT.out.below D6.out)
              have C6 := Aside0.mk (CC.out.trans (Ch.of_below D6.out))
              have d1 : (w5.drewN nq).cell? ⟨g, 1, none⟩ = some (.int .i64 v.at_) := c1
              clear c0 c1
              generalize w5.drewN nq = w6 at D6 R6 T6 C6 d1 ⊢
              go_wp2_with (refine rowstr_event rfl rfl rfl Try.underlying22 Try.underlying5 Try.underlying9 R6.out ?_)
              go_ret2
              unfold CellPost
              rw [HR.out]
              exact ⟨rfl, T6.out, C6.out⟩
            | false =>
              have H44 := Aside0.mk h44
              cases h10 : isT v 10 with
              | true =>
                have H10 := Aside0.mk h10
                have HR := Aside0.mk (show quotC t = (v, some out) by rw [P1.out, quotR, if_pos hlt, if_pos h34, HV.out, if_neg (by rw [h2]; decide), if_neg (by intro h; rw [h10] at h; cases h.2.2)])
                clear t1 t2 hsz h44 h2 h34 hltv h10
                go_wp2_with (first
                    | (go_at_call 31; refine (is_q 34 _ rfl T5.out HI.out).mono ?_; rintro e w4 ⟨rfl, n4, rfl⟩; have D4 := Aside0.mk (pw_below_drewN (Below.refl w3.heap.size w3) n4); have R4 := Aside0.mk (R5.out.below D4.out); have T4 := Aside0.mk (T5.out.below D4.out); have C4 := Aside0.mk (C5.out.trans (Ch.of_below D4.out)); generalize w3.drewN n4 = w4 at D4 R4 T4 C4 ⊢; have ST := Aside0.mk (T4.out.step hlt); have TN := Aside0.mk (show TAt F (w4.setCell ⟨g, 1, none⟩ (.int .i64 ((u.at_ : Int) + 1))) g v by rw [← HV.out]; exact ST.out.1); have c1 : w4.cell? ⟨g, 1, none⟩ = some (.int .i64 u.at_) := (blk_cell T4.out.core.choose_spec.1 1).trans rfl; have f1 := blk_frozen T4.out.core.choose_spec.1 1)
                    | (go_at_call 31; refine (is_q 34 _ rfl TN.out HJ.out).mono ?_; rintro e w5 ⟨rfl, n5x, rfl⟩; have D5 := Aside0.mk (pw_below_drewN (Below.refl (w4.setCell ⟨g, 1, none⟩ (.int .i64 ((u.at_ : Int) + 1))).heap.size (w4.setCell ⟨g, 1, none⟩ (.int .i64 ((u.at_ : Int) + 1)))) n5x); have RR := Aside0.mk ((R4.out.ch ST.out.2 (by unfold txT; decide)).below D5.out); have TT := Aside0.mk (TN.out.below D5.out); have CC := Aside0.mk ((C4.out.trans (ST.out.2.mono (fun _ h => h) (fun _ h => ext_of h))).trans (Ch.of_below D5.out)); clear c1 f1; generalize (w4.setCell ⟨g, 1, none⟩ (.int .i64 ((u.at_ : Int) + 1))).drewN n5x = w5 at D5 RR TT CC ⊢; have c0 : w5.cell? ⟨g, 0, none⟩ = some (.string (bs v.s)) := (blk_cell TT.out.core.choose_spec.1 0).trans rfl; have c1 : w5.cell? ⟨g, 1, none⟩ = some (.int .i64 v.at_) := (blk_cell TT.out.core.choose_spec.1 1).trans rfl))
                go_quiet ((first | (go_at_call 31; exact Calls.quiet_of (is_q 44 _ rfl (TT.out.drewN _) H44.out)) | (go_at_call 31; exact Calls.quiet_of (is_q 10 _ rfl (TT.out.drewN _) H10.out))))
                have D6 := Aside0.mk (pw_below_drewN (Below.refl w5.heap.size w5) nq)
                have R6 := Aside0.mk (RR.out.below D6.out)
                have T6 := Aside0.mk (TT.out.below D6.out)
                have C6 := Aside0.mk (CC.out.trans (Ch.of_below D6.out))
                have d1 : (w5.drewN nq).cell? ⟨g, 1, none⟩ = some (.int .i64 v.at_) := c1
                clear c0 c1
                generalize w5.drewN nq = w6 at D6 R6 T6 C6 d1 ⊢
                go_wp2_with (refine rowstr_event rfl rfl rfl Try.underlying22 Try.underlying5 Try.underlying9 R6.out ?_)
                go_ret2
                unfold CellPost
                rw [HR.out]
                exact ⟨rfl, T6.out, C6.out⟩
              | false =>
                have H10 := Aside0.mk h10
                have HR := Aside0.mk (show quotC t = (badT v 2 v.at_, none) by rw [P1.out, quotR, if_pos hlt, if_pos h34, HV.out, if_neg (by rw [h2]; decide), if_pos ⟨HLV.out, h44, h10⟩])
                clear t1 t2 hsz h44 h2 h34 hltv h10
                go_wp2_with (first
                    | (go_at_call 31; refine (is_q 34 _ rfl T5.out HI.out).mono ?_; rintro e w4 ⟨rfl, n4, rfl⟩; have D4 := Aside0.mk (pw_below_drewN (Below.refl w3.heap.size w3) n4); have R4 := Aside0.mk (R5.out.below D4.out); have T4 := Aside0.mk (T5.out.below D4.out); have C4 := Aside0.mk (C5.out.trans (Ch.of_below D4.out)); generalize w3.drewN n4 = w4 at D4 R4 T4 C4 ⊢; have ST := Aside0.mk (T4.out.step hlt); have TN := Aside0.mk (show TAt F (w4.setCell ⟨g, 1, none⟩ (.int .i64 ((u.at_ : Int) + 1))) g v by rw [← HV.out]; exact ST.out.1); have c1 : w4.cell? ⟨g, 1, none⟩ = some (.int .i64 u.at_) := (blk_cell T4.out.core.choose_spec.1 1).trans rfl; have f1 := blk_frozen T4.out.core.choose_spec.1 1)
                    | (go_at_call 31; refine (is_q 34 _ rfl TN.out HJ.out).mono ?_; rintro e w5 ⟨rfl, n5x, rfl⟩; have D5 := Aside0.mk (pw_below_drewN (Below.refl (w4.setCell ⟨g, 1, none⟩ (.int .i64 ((u.at_ : Int) + 1))).heap.size (w4.setCell ⟨g, 1, none⟩ (.int .i64 ((u.at_ : Int) + 1)))) n5x); have RR := Aside0.mk ((R4.out.ch ST.out.2 (by unfold txT; decide)).below D5.out); have TT := Aside0.mk (TN.out.below D5.out); have CC := Aside0.mk ((C4.out.trans (ST.out.2.mono (fun _ h => h) (fun _ h => ext_of h))).trans (Ch.of_below D5.out)); clear c1 f1; generalize (w4.setCell ⟨g, 1, none⟩ (.int .i64 ((u.at_ : Int) + 1))).drewN n5x = w5 at D5 RR TT CC ⊢; have c0 : w5.cell? ⟨g, 0, none⟩ = some (.string (bs v.s)) := (blk_cell TT.out.core.choose_spec.1 0).trans rfl; have c1 : w5.cell? ⟨g, 1, none⟩ = some (.int .i64 v.at_) := (blk_cell TT.out.core.choose_spec.1 1).trans rfl))
                go_quiet ((first | (go_at_call 31; exact Calls.quiet_of (is_q 44 _ rfl (TT.out.drewN _) H44.out)) | (go_at_call 31; exact Calls.quiet_of (is_q 10 _ rfl (TT.out.drewN _) H10.out))))
                have D6 := Aside0.mk (pw_below_drewN (Below.refl w5.heap.size w5) nq)
                have R6 := Aside0.mk (RR.out.below D6.out)
                have T6 := Aside0.mk (TT.out.below D6.out)
                have C6 := Aside0.mk (CC.out.trans (Ch.of_below D6.out))
                have d1 : (w5.drewN nq).cell? ⟨g, 1, none⟩ = some (.int .i64 v.at_) := c1
                clear c0 c1
                generalize w5.drewN nq = w6 at D6 R6 T6 C6 d1 ⊢
                go_wp2_with (go_at_call 32; refine (bad_calls 2 v.at_ T6.out).mono ?_; rintro e w7 ⟨rfl, ht, hc⟩; have T7 := Aside0.mk ht; have C7 := Aside0.mk (C6.out.trans (hc.mono (fun _ h => h) (fun _ h => ext_of h))); clear ht hc d1)
                go_ret2
                unfold CellPost
                rw [HR.out]
                exact ⟨rfl, T7.out, C7.out⟩
          · have s1 : decide ((v.at_ : Int) < (v.s.length : Int)) = false := decide_eq_false (by omega)
            have s2 : decide (v.at_ < v.s.length) = false := decide_eq_false hltv
            have H44 := Aside0.mk (show isT v 44 = isT v 44 from rfl)
            have H10 := Aside0.mk (show isT v 10 = isT v 10 from rfl)
            have HR := Aside0.mk (show quotC t = (v, some out) by rw [P1.out, quotR, if_pos hlt, if_pos h34, HV.out, if_neg (by rw [h2]; decide), if_neg (by intro h; rw [← HVS.out] at h; exact hltv h.1)])
            clear t1 t2 hsz h2 h34 hltv
            go_wp2_with (first
                | (go_at_call 31; refine (is_q 34 _ rfl T5.out HI.out).mono ?_; rintro e w4 ⟨rfl, n4, rfl⟩; have D4 := Aside0.mk (pw_below_drewN (Below.refl w3.heap.size w3) n4); have R4 := Aside0.mk (R5.out.below D4.out); have T4 := Aside0.mk (T5.out.below D4.out); have C4 := Aside0.mk (C5.out.trans (Ch.of_below D4.out)); generalize w3.drewN n4 = w4 at D4 R4 T4 C4 ⊢; have ST := Aside0.mk (T4.out.step hlt); have TN := Aside0.mk (show TAt F (w4.setCell ⟨g, 1, none⟩ (.int .i64 ((u.at_ : Int) + 1))) g v by rw [← HV.out]; exact ST.out.1); have c1 : w4.cell? ⟨g, 1, none⟩ = some (.int .i64 u.at_) := (blk_cell T4.out.core.choose_spec.1 1).trans rfl; have f1 := blk_frozen T4.out.core.choose_spec.1 1)
                | (go_at_call 31; refine (is_q 34 _ rfl TN.out HJ.out).mono ?_; rintro e w5 ⟨rfl, n5x, rfl⟩; have D5 := Aside0.mk (pw_below_drewN (Below.refl (w4.setCell ⟨g, 1, none⟩ (.int .i64 ((u.at_ : Int) + 1))).heap.size (w4.setCell ⟨g, 1, none⟩ (.int .i64 ((u.at_ : Int) + 1)))) n5x); have RR := Aside0.mk ((R4.out.ch ST.out.2 (by unfold txT; decide)).below D5.out); have TT := Aside0.mk (TN.out.below D5.out); have CC := Aside0.mk ((C4.out.trans (ST.out.2.mono (fun _ h => h) (fun _ h => ext_of h))).trans (Ch.of_below D5.out)); clear c1 f1; generalize (w4.setCell ⟨g, 1, none⟩ (.int .i64 ((u.at_ : Int) + 1))).drewN n5x = w5 at D5 RR TT CC ⊢; have c0 : w5.cell? ⟨g, 0, none⟩ = some (.string (bs v.s)) := (blk_cell TT.out.core.choose_spec.1 0).trans rfl; have c1 : w5.cell? ⟨g, 1, none⟩ = some (.int .i64 v.at_) := (blk_cell TT.out.core.choose_spec.1 1).trans rfl))
            go_quiet ((first | (go_at_call 31; exact Calls.quiet_of (is_q 44 _ rfl (TT.out.drewN _) H44.out)) | (go_at_call 31; exact Calls.quiet_of (is_q 10 _ rfl (TT.out.drewN _) H10.out))))
            have D6 := Aside0.mk (pw_below_drewN (Below.refl w5.heap.size w5) nq)
            have R6 := Aside0.mk (RR.out.below D6.out)
            have T6 := Aside0.mk (TT.out.below D6.out)
            have C6 := Aside0.mk (CC.out.trans (Ch.of_below D6.out))
            have d1 : (w5.drewN nq).cell? ⟨g, 1, none⟩ = some (.int .i64 v.at_) := c1
            clear c0 c1
            generalize w5.drewN nq = w6 at D6 R6 T6 C6 d1 ⊢
            go_wp2_with (refine rowstr_event rfl rfl rfl Try.underlying22 Try.underlying5 Try.underlying9 R6.out ?_)
            go_ret2
            unfold CellPost
            rw [HR.out]
            exact ⟨rfl, T6.out, C6.out⟩
      | false =>
        have HI := Aside0.mk h34
        have he : (bs u.s)[u.at_]'(by omega) = u.s[u.at_]'hlt := by
          show (u.s.toArray)[u.at_]'(by simpa using hlt) = _
          exact List.getElem_toArray ..
        have hgd : u.s.getD u.at_ 0 = u.s[u.at_]'hlt := by rw [List.getD_eq_getElem?_getD, List.getElem?_eq_getElem hlt]; rfl
        have HGD := Aside0.mk hgd
        have y3 : (0 : Int) ≤ (u.at_ : Int) := by omega
        have y4 : (u.at_ : Int) < (u.s.length : Int) := by omega
        clear hgd
        go_wp2
        go_quiet (fail)
        have DB0 := Aside0.mk (pw_below_drewN (Below.refl wr.heap.size wr) nq)
        have R5 := Aside0.mk (P5.out.below DB0.out)
        have T5 := Aside0.mk (P4.out.below DB0.out)
        have C5 := Aside0.mk (P6.out.trans (Ch.of_below DB0.out))
        clear c0 c1
        generalize wr.drewN nq = w3 at DB0 R5 T5 C5 ⊢
        clear t1 t2
        by_cases h48 : 48 ≤ out.length
        · have z1 : decide ((48 : Int) ≤ (out.length : Int)) = true := decide_eq_true (by omega)
          have z2 : decide (48 ≤ out.length) = true := decide_eq_true h48
          have HR := Aside0.mk (show quotC t = (badT u 4 u.at_, none) by rw [P1.out, quotR, if_pos hlt, if_neg (by rw [h34]; decide), if_pos h48])
          clear h48
          go_wp2_with (first
            | (go_at_call 31; refine (is_q 34 _ rfl T5.out HI.out).mono ?_; rintro e w4 ⟨rfl, n4, rfl⟩; have D4 := Aside0.mk (pw_below_drewN (Below.refl w3.heap.size w3) n4); have RR := Aside0.mk (R5.out.below D4.out); have TT := Aside0.mk (T5.out.below D4.out); have CC := Aside0.mk (C5.out.trans (Ch.of_below D4.out)); generalize w3.drewN n4 = w4 at D4 RR TT CC ⊢; obtain ⟨lv2, hg2, _⟩ := TT.out.core; have HG := Aside0.mk hg2; have c1 : w4.cell? ⟨g, 1, none⟩ = some (.int .i64 u.at_) := (blk_cell hg2 1).trans rfl; clear hg2)
            | (go_at_call 32; refine (bad_calls 4 u.at_ TT.out).mono ?_; rintro e w7 ⟨rfl, ht, hc⟩; have T7 := Aside0.mk ht; have C7 := Aside0.mk (CC.out.trans (hc.mono (fun _ h => h) (fun _ h => ext_of h))); clear ht hc c1))
          go_ret2
          unfold CellPost
          rw [HR.out]
          exact ⟨rfl, T7.out, C7.out⟩
        · have z1 : decide ((48 : Int) ≤ (out.length : Int)) = false := decide_eq_false (by omega)
          have z2 : decide (48 ≤ out.length) = false := decide_eq_false h48
          have HR := Aside0.mk (show quotC t = quotR k0 u.next (out ++ [u.s[u.at_]'hlt]) by rw [P1.out, quotR, if_pos hlt, if_neg (by rw [h34]; decide), if_neg h48, HGD.out])
          have HO3 := Aside0.mk (show out.length < 48 by omega)
          clear h48
          go_wp2_with (first
            | (go_at_call 31; refine (is_q 34 _ rfl T5.out HI.out).mono ?_; rintro e w4 ⟨rfl, n4, rfl⟩; have D4 := Aside0.mk (pw_below_drewN (Below.refl w3.heap.size w3) n4); have RR := Aside0.mk (R5.out.below D4.out); have TT := Aside0.mk (T5.out.below D4.out); have CC := Aside0.mk (C5.out.trans (Ch.of_below D4.out)); generalize w3.drewN n4 = w4 at D4 RR TT CC ⊢; obtain ⟨lv2, hg2, _⟩ := TT.out.core; have HG := Aside0.mk hg2; have c1 : w4.cell? ⟨g, 1, none⟩ = some (.int .i64 u.at_) := (blk_cell hg2 1).trans rfl; clear hg2))
          clear c1
          refine start_ (n := 13) (S := (fun w' => w'.heap[g]? = some (.cells (txC lv2 u) 68 (0, 0)))) (ds := [11, 12]) #[false, false, false, false, false, false, false, false, false, false, false, false, false] (by kernel_rfl) rfl rfl HG.out (fun hHeld => ?_)
          have DB := Aside0.mk (below_drew (Below.refl w4.heap.size w4))
          generalize w4.drew = w6 at DB hHeld ⊢
          -- T64 := move (tmp 4) :22,
          refine pure_ (i := 0) (N := some 64) (v := ?_) (a' := ?_) #[true, false, false, false, false, false, false, false, false, false, false, false, false] rfl rfl (by kernel_rfl) (fun _ _ _ h => h) (Or.inl ⟨by rfl, ?_⟩) ?_ ?_
          rotate_left
          · intro w'
            go_simp
            with_reducible rfl
          rotate_left
          · simp only [Act.put, List.setIfInBounds_toArray, List.set_cons_zero, List.set_cons_succ]
            rfl
          -- T65 := move (tmp 0) :64,
          refine pure_ (i := 1) (N := some 65) (v := ?_) (a' := ?_) #[true, true, false, false, false, false, false, false, false, false, false, false, false] rfl rfl (by kernel_rfl) (fun _ _ _ h => h) (Or.inl ⟨by rfl, ?_⟩) ?_ ?_
          rotate_left
          · intro w'
            go_simp
            with_reducible rfl
          rotate_left
          · simp only [Act.put, List.setIfInBounds_toArray, List.set_cons_zero, List.set_cons_succ]
            rfl
          -- T66 := nilCheck (tmp 65) :0,
          refine pure_ (i := 2) (N := some 66) (v := ?_) (a' := ?_) #[true, true, true, false, false, false, false, false, false, false, false, false, false] rfl rfl (by kernel_rfl) (fun _ _ _ h => h) (Or.inl ⟨by rfl, ?_⟩) ?_ ?_
          rotate_left
          · intro w'
            go_simp
            with_reducible rfl
          rotate_left
          · simp only [Act.put, List.setIfInBounds_toArray, List.set_cons_zero, List.set_cons_succ]
            rfl
          -- T67 := fieldAddr 68 (tmp 66) 0 :0
          refine pure_ (i := 3) (N := some 67) (v := ?_) (a' := ?_) #[true, true, true, true, false, false, false, false, false, false, false, false, false] rfl rfl (by kernel_rfl) (fun _ _ _ h => h) (Or.inl ⟨by rfl, ?_⟩) ?_ ?_
          rotate_left
          · intro w'
            go_simp
            with_reducible rfl
          rotate_left
          · simp only [Act.put, List.setIfInBounds_toArray, List.set_cons_zero, List.set_cons_succ]
            rfl
          -- T68 := load 9 (tmp 67) :9,
          refine take_ (i := 4) (N := some 68) (v := ?_) (a' := ?_) #[true, true, true, true, true, false, false, false, false, false, false, false, false] rfl rfl (by kernel_rfl) (fun _ _ _ h => h) (Or.inl ⟨by rfl, ?_⟩) hHeld ?_ ?_
          rotate_left
          · intro w' hw'
            (have c0 : w'.cell? ⟨g, 0, none⟩ = some (.string (bs u.s)) := (blk_cell hw' 0).trans rfl; have c1 : w'.cell? ⟨g, 1, none⟩ = some (.int .i64 u.at_) := (blk_cell hw' 1).trans rfl)
            go_simp
            with_reducible rfl
          rotate_left
          · simp only [Act.put, List.setIfInBounds_toArray, List.set_cons_zero, List.set_cons_succ]
            rfl
          -- T69 := move (tmp 0) :64,
          refine pure_ (i := 5) (N := some 69) (v := ?_) (a' := ?_) #[true, true, true, true, true, true, false, false, false, false, false, false, false] rfl rfl (by kernel_rfl) (fun _ _ _ h => h) (Or.inl ⟨by rfl, ?_⟩) ?_ ?_
          rotate_left
          · intro w'
            go_simp
            with_reducible rfl
          rotate_left
          · simp only [Act.put, List.setIfInBounds_toArray, List.set_cons_zero, List.set_cons_succ]
            rfl
          -- T70 := nilCheck (tmp 69) :0,
          refine pure_ (i := 6) (N := some 70) (v := ?_) (a' := ?_) #[true, true, true, true, true, true, true, false, false, false, false, false, false] rfl rfl (by kernel_rfl) (fun _ _ _ h => h) (Or.inl ⟨by rfl, ?_⟩) ?_ ?_
          rotate_left
          · intro w'
            go_simp
            with_reducible rfl
          rotate_left
          · simp only [Act.put, List.setIfInBounds_toArray, List.set_cons_zero, List.set_cons_succ]
            rfl
          -- T71 := fieldAddr 68 (tmp 70) 1 :0
          refine pure_ (i := 7) (N := some 71) (v := ?_) (a' := ?_) #[true, true, true, true, true, true, true, true, false, false, false, false, false] rfl rfl (by kernel_rfl) (fun _ _ _ h => h) (Or.inl ⟨by rfl, ?_⟩) ?_ ?_
          rotate_left
          · intro w'
            go_simp
            with_reducible rfl
          rotate_left
          · simp only [Act.put, List.setIfInBounds_toArray, List.set_cons_zero, List.set_cons_succ]
            rfl
          -- T72 := load 3 (tmp 71) :3,
          refine take_ (i := 8) (N := some 72) (v := ?_) (a' := ?_) #[true, true, true, true, true, true, true, true, true, false, false, false, false] rfl rfl (by kernel_rfl) (fun _ _ _ h => h) (Or.inl ⟨by rfl, ?_⟩) hHeld ?_ ?_
          rotate_left
          · intro w' hw'
            (have c0 : w'.cell? ⟨g, 0, none⟩ = some (.string (bs u.s)) := (blk_cell hw' 0).trans rfl; have c1 : w'.cell? ⟨g, 1, none⟩ = some (.int .i64 u.at_) := (blk_cell hw' 1).trans rfl)
            go_simp
            with_reducible rfl
          rotate_left
          · simp only [Act.put, List.setIfInBounds_toArray, List.set_cons_zero, List.set_cons_succ]
            rfl
          -- T73 := index 9 (tmp 68) (tmp 72) :5
          refine pure_ (i := 9) (N := some 73) (v := ?_) (a' := ?_) #[true, true, true, true, true, true, true, true, true, true, false, false, false] rfl rfl (by kernel_rfl) (fun _ _ _ h => h) (Or.inl ⟨by rfl, ?_⟩) ?_ ?_
          rotate_left
          · intro w'
            go_simp
            with_reducible rfl
          rotate_left
          · simp only [Act.put, List.setIfInBounds_toArray, List.set_cons_zero, List.set_cons_succ]
            rfl
          -- T74 := buildSlice 22 1 #[(0, tmp 73)] :22
          refine one_ (i := 10) (N := some 74) #[true, true, true, true, true, true, true, true, true, true, true, false, false] rfl rfl (by kernel_rfl) (by decide) (fun K hK => ?_)
          refine value_ (v := .slice (some ⟨w6.heap.size, 0, none⟩) 1 1) (w1 := w6.alloc (.cells #[.int .u8 ((u.s[u.at_]'hlt).toNat : Int)] 5)) rfl rfl (by go_simp) ?_
          refine hK _ _ ((Below.heap_alloc _ _ g (blk_lt hHeld)).trans hHeld) (fun hHeld3 => ?_)
          clear hK hHeld hHeld3
          refine norm_ (a' := ?_) ?_ ?_
          rotate_left
          · simp only [Act.put, List.setIfInBounds_toArray, List.set_cons_zero, List.set_cons_succ]
            rfl
          refine tailI_ [11, 12] (by kernel_rfl) (by decide) rfl ?_
          simp only [List.filterMap_cons, List.filterMap_nil]
          have R6 := Aside0.mk (RR.out.below DB.out)
          have T6 := Aside0.mk (TT.out.below DB.out)
          have C6 := Aside0.mk (CC.out.trans (Ch.of_below DB.out))
          refine row_append rfl (.tmp 64) (.tmp 74) 22 5 (.int .u8 0) 1 1 rfl Try.underlying22 infoB rfl (by decide) _ out.length (u8C out) [.int .u8 ((u.s[u.at_]'hlt).toNat : Int)] rfl rfl rfl (by simp [Value.oneCell']) R6.out (by have := HO3.out; omega) (by have := HO3.out; unfold maxLen; omega) ?_
          intro v7 w7 hr7 hc7
          have R7 := Aside0.mk hr7
          have T7 := Aside0.mk (T6.out.ch8 hc7)
          have C7 := Aside0.mk hc7
          have f1 := (blk_frozen (T6.out.ch8 hc7).core.choose_spec.1 1)
          have k1c : w7.cell? ⟨g, 1, none⟩ = some (.int .i64 u.at_) := (blk_cell (T6.out.ch8 hc7).core.choose_spec.1 1).trans rfl
          clear hr7 hc7
          go_wp2
          go_roundg k1
          case measure => exact Nat.lt_succ_self _
          case rel =>
            obtain ⟨q1, q2⟩ := T7.out.step hlt
            have hs := C6.out.size
            refine ⟨k0, u.next, out ++ [u.s[u.at_]'hlt], HR, ⟨by have := P2.out.1; show u.s.length - (u.at_ + 1) < k0; omega, by have := P2.out.2; omega⟩, ⟨by rw [List.length_append, List.length_singleton]; have := HO3.out; omega⟩, ⟨q1⟩, ⟨?_⟩, ⟨?_⟩⟩
            · rw [u8C_one, List.length_append, List.length_singleton]
              exact (R7.out.mono (fun k hk => by rcases hk with hk | hk; exact hk; exact Nat.le_trans hs hk)).ch q2 (by unfold txT; decide)
            · exact (ch_low C6.out (C7.out.below (B := w.heap.size) (fun _ h => h) hs)).trans (q2.mono (fun _ h => h) (fun _ h => ext_of h))
    · have HR := Aside0.mk (show quotC t = (badT u 2 u.at_, none) by rw [P1.out, quotR, if_neg hlt])
      have t1 : decide ((u.at_ : Int) < (u.s.length : Int)) = false := decide_eq_false (by omega)
      have t2 : decide (u.at_ < u.s.length) = false := decide_eq_false hlt
      clear hlt
      go_wp2
      go_quiet (fail)
      have DB := Aside0.mk (pw_below_drewN (Below.refl wr.heap.size wr) nq)
      have T5 := Aside0.mk (P4.out.below DB.out)
      have C5 := Aside0.mk (P6.out.trans (Ch.of_below DB.out))
      have d1 : (wr.drewN nq).cell? ⟨g, 1, none⟩ = some (.int .i64 u.at_) := c1
      clear c0 c1
      generalize wr.drewN nq = w3 at DB T5 C5 d1 ⊢
      go_wp2_with (go_at_call 32; refine (bad_calls 2 u.at_ T5.out).mono ?_; rintro e w7 ⟨rfl, ht, hc⟩; have T7 := Aside0.mk ht; have C7 := Aside0.mk (C5.out.trans (hc.mono (fun _ h => h) (fun _ h => ext_of h))); clear ht hc d1)
      go_ret2
      unfold CellPost
      rw [HR.out]
      exact ⟨rfl, T7.out, C7.out⟩
end Go.Proofs.Ytalaedpiimdcbaa.Tx

namespace Go.Proofs.Ytalaedpiimdcbaa.Tx
open Go Go.Lib Go.RowKit Go.Proofs.YtalaedpiimdcbaaW.PrintWords Go.Proofs.YtalaedpiimdcbaaW.PrintLast Go.Proofs.Ytalaedpiimdcbaa.Own Go.Proofs.Ytalaedpiimdcbaa.Hp Go.Proofs.Ytalaedpiimdcbaa.Cr
set_option linter.unusedVariables false
set_option linter.unusedSimpArgs false
/-- Past a cell: the end of a text that goes on is no end of a cell. -/
def shutT (r : TX × Option (List UInt8)) : TX × Option (List UInt8) :=
  if r.2.isSome = true ∧ r.1.at_ = r.1.s.length ∧ r.1.closed = false then (badT r.1 2 r.1.at_, none) else r
def cellC (t : TX) : TX × Option (List UInt8) := shutT (if isT t 34 = true then quotC t.next else bareC t)
theorem isT_at {t : TX} {c : UInt8} (h : isT t c = true) : t.at_ < t.s.length := by
  rcases Nat.lt_or_ge t.at_ t.s.length with h1 | h1
  · exact h1
  · rw [isT_ge (by omega)] at h; cases h
theorem TAt.cells {F : Nat → Prop} {w : World} {g : Nat} {t : TX} (h : TAt F w g t) : w.cell? ⟨g, 0, none⟩ = some (.string (bs t.s)) ∧ w.cell? ⟨g, 1, none⟩ = some (.int .i64 t.at_) ∧ w.cell? ⟨g, 2, none⟩ = some (.bool t.closed) := by
  obtain ⟨lv, h1, _⟩ := h.core
  exact ⟨(blk_cell h1 0).trans rfl, (blk_cell h1 1).trans rfl, (blk_cell h1 2).trans rfl⟩
set_option maxHeartbeats 16000000 in
set_option maxRecDepth 100000 in
theorem cell_calls {F : Nat → Prop} {w : World} {g : Nat} {t : TX} (h : TAt F w g t) (hF : ∀ k, w.heap.size ≤ k → F k) :
    Calls Try.prog 30 #[.pointer (some ⟨g, 0, none⟩)] w (CellPost F w g (cellC t)) := by
  have H := Aside0.mk h
  have HF := Aside0.mk hF
  clear h hF
  cases hi : isT t 34 with
  | true =>
    have HI := Aside0.mk hi
    obtain ⟨⟨u, ol⟩, hu⟩ : ∃ r, quotC t.next = r := ⟨_, rfl⟩
    have HU := Aside0.mk hu
    clear hi hu
    have hszu : (bs u.s).size = u.s.length := by show (u.s.toArray).size = _; simp
    have HR := Aside0.mk (show cellC t = shutT (u, ol) by unfold cellC; rw [HI.out]; simp only [if_true, if_false, Bool.false_eq_true]; rw [HU.out])
    cases ol with
    | none =>
      have HS := Aside0.mk (show shutT (u, none) = (u, none) by unfold shutT; rw [if_neg (by intro h; cases h.1)])
      go_enter Try.func30, Try.ntmps30
      go_wp2_with (first
        | (go_at_call 31; refine (is_q 34 _ rfl H.out HI.out).mono ?_; rintro e w1 ⟨rfl, n1, rfl⟩; have D1 := Aside0.mk (pw_below_drewN (Below.refl w.heap.size w) n1); have T1 := Aside0.mk (H.out.below D1.out); generalize w.drewN n1 = w1 at D1 T1 ⊢; have ST := Aside0.mk (T1.out.step (isT_at HI.out)); have tw : wrap64 ((t.at_ : Int) + 1) = (t.at_ : Int) + 1 := w64 (by omega) (by have := T1.out.len.2.1; omega); have k1 : w1.cell? ⟨g, 1, none⟩ = some (.int .i64 t.at_) := T1.out.cells.2.1; have f1 := blk_frozen T1.out.core.choose_spec.1 1)
        | (go_at_call 36; refine (quoted_calls ST.out.1 (fun k hk => HF.out k (Nat.le_trans (Nat.le_trans D1.out.size ST.out.2.size) hk))).mono ?_; rintro e w3 ⟨rfl, ht, hc⟩; rw [HU.out] at ht ⊢; have T3 := Aside0.mk ht; have C3 := Aside0.mk (((Ch.of_below D1.out).trans (ST.out.2.mono (fun _ h => h) (fun _ h => ext_of h))).trans (hc.mono (fun _ h => h) (fun _ h => ext_of h))); obtain ⟨c0, c1, c2⟩ := ht.cells; clear ht hc; clear k1 f1 tw))
      go_quiet (fail)
      have D6 := Aside0.mk (pw_below_drewN (Below.refl w3.heap.size w3) nq)
      have T6 := Aside0.mk (T3.out.below D6.out)
      have C6 := Aside0.mk (C3.out.trans (Ch.of_below D6.out))
      clear c0 c1 c2
      generalize w3.drewN nq = w6 at D6 T6 C6 ⊢
      go_wp2
      go_ret2
      unfold CellPost
      rw [HR.out, HS.out]
      exact ⟨rfl, T6.out, C6.out⟩
    | some l =>
      by_cases hs : u.at_ = u.s.length ∧ u.closed = false
      · have HS := Aside0.mk (show shutT (u, some l) = (badT u 2 u.at_, none) by unfold shutT; rw [if_pos ⟨rfl, hs.1, hs.2⟩])
        have e1 : ((u.at_ : Int) == (u.s.length : Int)) = true := by rw [hs.1]; exact beq_self_eq_true _
        have e2 : decide ((u.at_ : Int) = (u.s.length : Int)) = true := decide_eq_true (by rw [hs.1])
        have e3 : (u.at_ == u.s.length) = true := by rw [hs.1]; exact beq_self_eq_true _
        have HCL := Aside0.mk hs.2
        clear hs
        go_enter Try.func30, Try.ntmps30
        go_wp2_with (first
          | (go_at_call 31; refine (is_q 34 _ rfl H.out HI.out).mono ?_; rintro e w1 ⟨rfl, n1, rfl⟩; have D1 := Aside0.mk (pw_below_drewN (Below.refl w.heap.size w) n1); have T1 := Aside0.mk (H.out.below D1.out); generalize w.drewN n1 = w1 at D1 T1 ⊢; have ST := Aside0.mk (T1.out.step (isT_at HI.out)); have tw : wrap64 ((t.at_ : Int) + 1) = (t.at_ : Int) + 1 := w64 (by omega) (by have := T1.out.len.2.1; omega); have k1 : w1.cell? ⟨g, 1, none⟩ = some (.int .i64 t.at_) := T1.out.cells.2.1; have f1 := blk_frozen T1.out.core.choose_spec.1 1)
          | (go_at_call 36; refine (quoted_calls ST.out.1 (fun k hk => HF.out k (Nat.le_trans (Nat.le_trans D1.out.size ST.out.2.size) hk))).mono ?_; rintro e w3 ⟨rfl, ht, hc⟩; rw [HU.out] at ht ⊢; have T3 := Aside0.mk ht; have C3 := Aside0.mk (((Ch.of_below D1.out).trans (ST.out.2.mono (fun _ h => h) (fun _ h => ext_of h))).trans (hc.mono (fun _ h => h) (fun _ h => ext_of h))); obtain ⟨c0, c1, c2⟩ := ht.cells; clear ht hc; clear k1 f1 tw))
        rw [HCL.out] at c2
        go_quiet (fail)
        have D6 := Aside0.mk (pw_below_drewN (Below.refl w3.heap.size w3) nq)
        have T6 := Aside0.mk (T3.out.below D6.out)
        have C6 := Aside0.mk (C3.out.trans (Ch.of_below D6.out))
        have d1 : (w3.drewN nq).cell? ⟨g, 1, none⟩ = some (.int .i64 u.at_) := c1
        clear c0 c1 c2
        generalize w3.drewN nq = w6 at D6 T6 C6 d1 ⊢
        go_wp2_with (go_at_call 32; refine (bad_calls 2 u.at_ T6.out).mono ?_; rintro e w7 ⟨rfl, ht, hc⟩; have T7 := Aside0.mk ht; have C7 := Aside0.mk (C6.out.trans (hc.mono (fun _ h => h) (fun _ h => ext_of h))); clear ht hc d1)
        go_ret2
        unfold CellPost
        rw [HR.out, HS.out]
        exact ⟨rfl, T7.out, C7.out⟩
      · have HS := Aside0.mk (show shutT (u, some l) = (u, some l) by unfold shutT; rw [if_neg (by intro h; exact hs ⟨h.2.1, h.2.2⟩)])
        have e0 : ((u.at_ : Int) == (u.s.length : Int)) = decide (u.at_ = u.s.length) := by
          by_cases h : u.at_ = u.s.length
          · rw [h, decide_eq_true rfl]; exact beq_self_eq_true _
          · rw [decide_eq_false h, beq_eq_false_iff_ne]; omega
        have HE := Aside0.mk (show (decide (u.at_ = u.s.length) && !u.closed) = false by
          by_cases h : u.at_ = u.s.length
          · cases hc : u.closed with
            | true => simp
            | false => exact absurd ⟨h, hc⟩ hs
          · rw [decide_eq_false h]; rfl)
        have hcase : (u.at_ = u.s.length ∧ u.closed = true) ∨ ¬ u.at_ = u.s.length := by
          by_cases h : u.at_ = u.s.length
          · left
            cases hc : u.closed with
            | true => exact ⟨h, rfl⟩
            | false => exact absurd ⟨h, hc⟩ hs
          · exact .inr h
        clear hs e0
        rcases hcase with ⟨ha, hc⟩ | ha
        · have e1 : ((u.at_ : Int) == (u.s.length : Int)) = true := by rw [ha]; exact beq_self_eq_true _
          have e2 : decide ((u.at_ : Int) = (u.s.length : Int)) = true := decide_eq_true (by rw [ha])
          have e3 : (u.at_ == u.s.length) = true := by rw [ha]; exact beq_self_eq_true _
          have HCL := Aside0.mk hc
          clear ha hc
          go_enter Try.func30, Try.ntmps30
          go_wp2_with (first
            | (go_at_call 31; refine (is_q 34 _ rfl H.out HI.out).mono ?_; rintro e w1 ⟨rfl, n1, rfl⟩; have D1 := Aside0.mk (pw_below_drewN (Below.refl w.heap.size w) n1); have T1 := Aside0.mk (H.out.below D1.out); generalize w.drewN n1 = w1 at D1 T1 ⊢; have ST := Aside0.mk (T1.out.step (isT_at HI.out)); have tw : wrap64 ((t.at_ : Int) + 1) = (t.at_ : Int) + 1 := w64 (by omega) (by have := T1.out.len.2.1; omega); have k1 : w1.cell? ⟨g, 1, none⟩ = some (.int .i64 t.at_) := T1.out.cells.2.1; have f1 := blk_frozen T1.out.core.choose_spec.1 1)
            | (go_at_call 36; refine (quoted_calls ST.out.1 (fun k hk => HF.out k (Nat.le_trans (Nat.le_trans D1.out.size ST.out.2.size) hk))).mono ?_; rintro e w3 ⟨rfl, ht, hc⟩; rw [HU.out] at ht ⊢; have T3 := Aside0.mk ht; have C3 := Aside0.mk (((Ch.of_below D1.out).trans (ST.out.2.mono (fun _ h => h) (fun _ h => ext_of h))).trans (hc.mono (fun _ h => h) (fun _ h => ext_of h))); obtain ⟨c0, c1, c2⟩ := ht.cells; clear ht hc; clear k1 f1 tw))
          rw [HCL.out] at c2
          go_quiet (fail)
          have D6 := Aside0.mk (pw_below_drewN (Below.refl w3.heap.size w3) nq)
          have T6 := Aside0.mk (T3.out.below D6.out)
          have C6 := Aside0.mk (C3.out.trans (Ch.of_below D6.out))
          clear c0 c1 c2
          generalize w3.drewN nq = w6 at D6 T6 C6 ⊢
          go_wp2
          go_ret2
          unfold CellPost
          rw [HR.out, HS.out]
          exact ⟨rfl, T6.out, C6.out⟩
        · have e1 : ((u.at_ : Int) == (u.s.length : Int)) = false := by rw [beq_eq_false_iff_ne]; omega
          have e2 : decide ((u.at_ : Int) = (u.s.length : Int)) = false := decide_eq_false (by omega)
          have e3 : (u.at_ == u.s.length) = false := by rw [beq_eq_false_iff_ne]; exact ha
          clear ha
          go_enter Try.func30, Try.ntmps30
          go_wp2_with (first
            | (go_at_call 31; refine (is_q 34 _ rfl H.out HI.out).mono ?_; rintro e w1 ⟨rfl, n1, rfl⟩; have D1 := Aside0.mk (pw_below_drewN (Below.refl w.heap.size w) n1); have T1 := Aside0.mk (H.out.below D1.out); generalize w.drewN n1 = w1 at D1 T1 ⊢; have ST := Aside0.mk (T1.out.step (isT_at HI.out)); have tw : wrap64 ((t.at_ : Int) + 1) = (t.at_ : Int) + 1 := w64 (by omega) (by have := T1.out.len.2.1; omega); have k1 : w1.cell? ⟨g, 1, none⟩ = some (.int .i64 t.at_) := T1.out.cells.2.1; have f1 := blk_frozen T1.out.core.choose_spec.1 1)
            | (go_at_call 36; refine (quoted_calls ST.out.1 (fun k hk => HF.out k (Nat.le_trans (Nat.le_trans D1.out.size ST.out.2.size) hk))).mono ?_; rintro e w3 ⟨rfl, ht, hc⟩; rw [HU.out] at ht ⊢; have T3 := Aside0.mk ht; have C3 := Aside0.mk (((Ch.of_below D1.out).trans (ST.out.2.mono (fun _ h => h) (fun _ h => ext_of h))).trans (hc.mono (fun _ h => h) (fun _ h => ext_of h))); obtain ⟨c0, c1, c2⟩ := ht.cells; clear ht hc; clear k1 f1 tw))
          go_quiet (fail)
          have D6 := Aside0.mk (pw_below_drewN (Below.refl w3.heap.size w3) nq)
          have T6 := Aside0.mk (T3.out.below D6.out)
          have C6 := Aside0.mk (C3.out.trans (Ch.of_below D6.out))
          clear c0 c1 c2
          generalize w3.drewN nq = w6 at D6 T6 C6 ⊢
          go_wp2
          go_ret2
          unfold CellPost
          rw [HR.out, HS.out]
          exact ⟨rfl, T6.out, C6.out⟩
  | false =>
    have HI := Aside0.mk hi
    obtain ⟨⟨u, ol⟩, hu⟩ : ∃ r, bareC t = r := ⟨_, rfl⟩
    have HU := Aside0.mk hu
    clear hi hu
    have hszu : (bs u.s).size = u.s.length := by show (u.s.toArray).size = _; simp
    have HR := Aside0.mk (show cellC t = shutT (u, ol) by unfold cellC; rw [HI.out]; simp only [if_true, if_false, Bool.false_eq_true]; rw [HU.out])
    cases ol with
    | none =>
      have HS := Aside0.mk (show shutT (u, none) = (u, none) by unfold shutT; rw [if_neg (by intro h; cases h.1)])
      go_enter Try.func30, Try.ntmps30
      go_wp2_with (first
        | (go_at_call 31; refine (is_q 34 _ rfl H.out HI.out).mono ?_; rintro e w1 ⟨rfl, n1, rfl⟩; have D1 := Aside0.mk (pw_below_drewN (Below.refl w.heap.size w) n1); have T1 := Aside0.mk (H.out.below D1.out); generalize w.drewN n1 = w1 at D1 T1 ⊢)
        | (go_at_call 37; refine (bare_calls T1.out (fun k hk => HF.out k (Nat.le_trans D1.out.size hk))).mono ?_; rintro e w3 ⟨rfl, ht, hc⟩; rw [HU.out] at ht ⊢; have T3 := Aside0.mk ht; have C3 := Aside0.mk ((Ch.of_below D1.out).trans (hc.mono (fun _ h => h) (fun _ h => ext_of h))); obtain ⟨c0, c1, c2⟩ := ht.cells; clear ht hc))
      go_quiet (fail)
      have D6 := Aside0.mk (pw_below_drewN (Below.refl w3.heap.size w3) nq)
      have T6 := Aside0.mk (T3.out.below D6.out)
      have C6 := Aside0.mk (C3.out.trans (Ch.of_below D6.out))
      clear c0 c1 c2
      generalize w3.drewN nq = w6 at D6 T6 C6 ⊢
      go_wp2
      go_ret2
      unfold CellPost
      rw [HR.out, HS.out]
      exact ⟨rfl, T6.out, C6.out⟩
    | some l =>
      by_cases hs : u.at_ = u.s.length ∧ u.closed = false
      · have HS := Aside0.mk (show shutT (u, some l) = (badT u 2 u.at_, none) by unfold shutT; rw [if_pos ⟨rfl, hs.1, hs.2⟩])
        have e1 : ((u.at_ : Int) == (u.s.length : Int)) = true := by rw [hs.1]; exact beq_self_eq_true _
        have e2 : decide ((u.at_ : Int) = (u.s.length : Int)) = true := decide_eq_true (by rw [hs.1])
        have e3 : (u.at_ == u.s.length) = true := by rw [hs.1]; exact beq_self_eq_true _
        have HCL := Aside0.mk hs.2
        clear hs
        go_enter Try.func30, Try.ntmps30
        go_wp2_with (first
          | (go_at_call 31; refine (is_q 34 _ rfl H.out HI.out).mono ?_; rintro e w1 ⟨rfl, n1, rfl⟩; have D1 := Aside0.mk (pw_below_drewN (Below.refl w.heap.size w) n1); have T1 := Aside0.mk (H.out.below D1.out); generalize w.drewN n1 = w1 at D1 T1 ⊢)
          | (go_at_call 37; refine (bare_calls T1.out (fun k hk => HF.out k (Nat.le_trans D1.out.size hk))).mono ?_; rintro e w3 ⟨rfl, ht, hc⟩; rw [HU.out] at ht ⊢; have T3 := Aside0.mk ht; have C3 := Aside0.mk ((Ch.of_below D1.out).trans (hc.mono (fun _ h => h) (fun _ h => ext_of h))); obtain ⟨c0, c1, c2⟩ := ht.cells; clear ht hc))
        rw [HCL.out] at c2
        go_quiet (fail)
        have D6 := Aside0.mk (pw_below_drewN (Below.refl w3.heap.size w3) nq)
        have T6 := Aside0.mk (T3.out.below D6.out)
        have C6 := Aside0.mk (C3.out.trans (Ch.of_below D6.out))
        have d1 : (w3.drewN nq).cell? ⟨g, 1, none⟩ = some (.int .i64 u.at_) := c1
        clear c0 c1 c2
        generalize w3.drewN nq = w6 at D6 T6 C6 d1 ⊢
        go_wp2_with (go_at_call 32; refine (bad_calls 2 u.at_ T6.out).mono ?_; rintro e w7 ⟨rfl, ht, hc⟩; have T7 := Aside0.mk ht; have C7 := Aside0.mk (C6.out.trans (hc.mono (fun _ h => h) (fun _ h => ext_of h))); clear ht hc d1)
        go_ret2
        unfold CellPost
        rw [HR.out, HS.out]
        exact ⟨rfl, T7.out, C7.out⟩
      · have HS := Aside0.mk (show shutT (u, some l) = (u, some l) by unfold shutT; rw [if_neg (by intro h; exact hs ⟨h.2.1, h.2.2⟩)])
        have e0 : ((u.at_ : Int) == (u.s.length : Int)) = decide (u.at_ = u.s.length) := by
          by_cases h : u.at_ = u.s.length
          · rw [h, decide_eq_true rfl]; exact beq_self_eq_true _
          · rw [decide_eq_false h, beq_eq_false_iff_ne]; omega
        have HE := Aside0.mk (show (decide (u.at_ = u.s.length) && !u.closed) = false by
          by_cases h : u.at_ = u.s.length
          · cases hc : u.closed with
            | true => simp
            | false => exact absurd ⟨h, hc⟩ hs
          · rw [decide_eq_false h]; rfl)
        have hcase : (u.at_ = u.s.length ∧ u.closed = true) ∨ ¬ u.at_ = u.s.length := by
          by_cases h : u.at_ = u.s.length
          · left
            cases hc : u.closed with
            | true => exact ⟨h, rfl⟩
            | false => exact absurd ⟨h, hc⟩ hs
          · exact .inr h
        clear hs e0
        rcases hcase with ⟨ha, hc⟩ | ha
        · have e1 : ((u.at_ : Int) == (u.s.length : Int)) = true := by rw [ha]; exact beq_self_eq_true _
          have e2 : decide ((u.at_ : Int) = (u.s.length : Int)) = true := decide_eq_true (by rw [ha])
          have e3 : (u.at_ == u.s.length) = true := by rw [ha]; exact beq_self_eq_true _
          have HCL := Aside0.mk hc
          clear ha hc
          go_enter Try.func30, Try.ntmps30
          go_wp2_with (first
            | (go_at_call 31; refine (is_q 34 _ rfl H.out HI.out).mono ?_; rintro e w1 ⟨rfl, n1, rfl⟩; have D1 := Aside0.mk (pw_below_drewN (Below.refl w.heap.size w) n1); have T1 := Aside0.mk (H.out.below D1.out); generalize w.drewN n1 = w1 at D1 T1 ⊢)
            | (go_at_call 37; refine (bare_calls T1.out (fun k hk => HF.out k (Nat.le_trans D1.out.size hk))).mono ?_; rintro e w3 ⟨rfl, ht, hc⟩; rw [HU.out] at ht ⊢; have T3 := Aside0.mk ht; have C3 := Aside0.mk ((Ch.of_below D1.out).trans (hc.mono (fun _ h => h) (fun _ h => ext_of h))); obtain ⟨c0, c1, c2⟩ := ht.cells; clear ht hc))
          rw [HCL.out] at c2
          go_quiet (fail)
          have D6 := Aside0.mk (pw_below_drewN (Below.refl w3.heap.size w3) nq)
          have T6 := Aside0.mk (T3.out.below D6.out)
          have C6 := Aside0.mk (C3.out.trans (Ch.of_below D6.out))
          clear c0 c1 c2
          generalize w3.drewN nq = w6 at D6 T6 C6 ⊢
          go_wp2
          go_ret2
          unfold CellPost
          rw [HR.out, HS.out]
          exact ⟨rfl, T6.out, C6.out⟩
        · have e1 : ((u.at_ : Int) == (u.s.length : Int)) = false := by rw [beq_eq_false_iff_ne]; omega
          have e2 : decide ((u.at_ : Int) = (u.s.length : Int)) = false := decide_eq_false (by omega)
          have e3 : (u.at_ == u.s.length) = false := by rw [beq_eq_false_iff_ne]; exact ha
          clear ha
          go_enter Try.func30, Try.ntmps30
          go_wp2_with (first
            | (go_at_call 31; refine (is_q 34 _ rfl H.out HI.out).mono ?_; rintro e w1 ⟨rfl, n1, rfl⟩; have D1 := Aside0.mk (pw_below_drewN (Below.refl w.heap.size w) n1); have T1 := Aside0.mk (H.out.below D1.out); generalize w.drewN n1 = w1 at D1 T1 ⊢)
            | (go_at_call 37; refine (bare_calls T1.out (fun k hk => HF.out k (Nat.le_trans D1.out.size hk))).mono ?_; rintro e w3 ⟨rfl, ht, hc⟩; rw [HU.out] at ht ⊢; have T3 := Aside0.mk ht; have C3 := Aside0.mk ((Ch.of_below D1.out).trans (hc.mono (fun _ h => h) (fun _ h => ext_of h))); obtain ⟨c0, c1, c2⟩ := ht.cells; clear ht hc))
          go_quiet (fail)
          have D6 := Aside0.mk (pw_below_drewN (Below.refl w3.heap.size w3) nq)
          have T6 := Aside0.mk (T3.out.below D6.out)
          have C6 := Aside0.mk (C3.out.trans (Ch.of_below D6.out))
          clear c0 c1 c2
          generalize w3.drewN nq = w6 at D6 T6 C6 ⊢
          go_wp2
          go_ret2
          unfold CellPost
          rw [HR.out, HS.out]
          exact ⟨rfl, T6.out, C6.out⟩
end Go.Proofs.Ytalaedpiimdcbaa.Tx

namespace Go.Proofs.Ytalaedpiimdcbaa.Tx
open Go Go.Lib Go.RowKit Go.Proofs.YtalaedpiimdcbaaW.PrintWords Go.Proofs.YtalaedpiimdcbaaW.PrintLast Go.Proofs.Ytalaedpiimdcbaa.Own Go.Proofs.Ytalaedpiimdcbaa.Hp Go.Proofs.Ytalaedpiimdcbaa.Cr Go.Proofs.Ytalaedpiimdcbaa.Dl
set_option linter.unusedVariables false
set_option linter.unusedSimpArgs false
theorem ne_txt {a b : ByteArray} (h : a ≠ b) : ¬ a.toList = b.toList := fun e => h (by
  rw [ByteArray.toList_eq, ByteArray.toList_eq] at e
  exact WideShapes.bytes_inj e)
def hasL (l : List ByteArray) (s : ByteArray) : Bool := l.any fun y => decide (y = s)
theorem hasL_yes {l : List ByteArray} {s : ByteArray} (i : Nat) (hi : i < l.length) (h : l[i] = s) : hasL l s = true := by
  unfold hasL
  rw [List.any_eq_true]
  exact ⟨l[i], List.getElem_mem hi, decide_eq_true h⟩
set_option maxHeartbeats 8000000 in
set_option maxRecDepth 100000 in
theorem has_calls {F : Nat → Prop} {w : World} {l : List ByteArray} {v : Value} (s : ByteArray) (h : Row F w 9 1 v l.length (stC l)) (hl : l.length ≤ 1000000) :
    Calls Try.prog 35 #[v, .string s] w fun e w' => e = .returned (.bool (hasL l s)) ∧ w = w' := by
  obtain ⟨A1, n1, hv1, _, _⟩ := h.slice
  subst hv1
  have H1 := Aside0.mk h
  have HL := Aside0.mk hl
  clear h hl
  go_enter Try.func35, Try.ntmps35
  go_wp2
  go_loopg [5] (l.length + 1) (fun gk v5 wr => ∃ (i : Nat), v5 = .int .i64 i ∧ Aside0 (i ≤ l.length) ∧ Aside0 (l.length - i < gk) ∧ Aside0 (∀ j (hj : j < l.length), j < i → l[j] ≠ s) ∧ w = wr)
  case atStart => exact ⟨0, rfl, ⟨Nat.zero_le _⟩, ⟨by omega⟩, ⟨fun j _ h => absurd h (Nat.not_lt_zero _)⟩, rfl⟩
  case round =>
    obtain ⟨i, rfl, P1, P2, P3, rfl⟩ := hrel
    cases gk with
    | zero => exact absurd P2.out (by omega)
    | succ k1 =>
    have hp1 := P1.out
    have hll := HL.out
    by_cases hlt : i < l.length
    · obtain ⟨b, o, c, hv, _, _, hcell, _⟩ := H1.out.open_ (by omega)
      injection hv with e1 e2 e3
      subst e1; subst e3
      clear e2
      have x0 := hcell _ _ (stC_get l i hlt)
      have t1 : decide ((i : Int) < (l.length : Int)) = true := decide_eq_true (by omega)
      have t2 : decide (i < l.length) = true := decide_eq_true hlt
      have tw : wrap64 ((i : Int) + 1) = (i : Int) + 1 := w64 (by omega) (by omega)
      have y3 : (0 : Int) ≤ (i : Int) := by omega
      have y4 : (i : Int) < (l.length : Int) := by omega
      clear hcell hp1 hll
      by_cases hq : l[i] = s
      · have HZ := Aside0.mk (hasL_yes i hlt hq)
        rw [hq] at x0
        clear hq
        go_wp2
        go_ret
        rw [HZ.out]
        exact ⟨rfl, rfl⟩
      · have HN := Aside0.mk hq
        generalize hy : l[i] = y at x0 hq
        have HY := Aside0.mk hy
        have hq1 := ne_txt hq
        have hq2 : (y.toList == s.toList) = false := by rw [beq_eq_false_iff_ne]; exact hq1
        clear hq hy
        go_wp2
        go_roundg k1
        case measure => have := P2.out; omega
        case rel => exact ⟨i + 1, by go_num, ⟨by omega⟩, ⟨by have := P2.out; omega⟩, ⟨fun j hj hji => by
          rcases Nat.lt_or_ge j i with h | h
          · exact P3.out j hj h
          · obtain rfl : j = i := by omega
            exact HN.out⟩, rfl⟩
    · have hi : i = l.length := by omega
      have HZ := Aside0.mk (show hasL l s = false by
        unfold hasL
        rw [List.any_eq_false]
        intro y hy
        obtain ⟨j, hj, rfl⟩ := List.getElem_of_mem hy
        rw [decide_eq_true_eq]
        exact P3.out j hj (by omega))
      have t1 : decide ((i : Int) < (l.length : Int)) = false := decide_eq_false (by omega)
      have t2 : decide (i < l.length) = false := decide_eq_false (by omega)
      clear hi hp1 hll hlt
      go_wp2
      go_ret
      rw [HZ.out]
      exact ⟨rfl, rfl⟩
set_option maxHeartbeats 8000000 in
set_option maxRecDepth 100000 in
theorem fin_calls {F : Nat → Prop} {w : World} {g : Nat} {t : TX} (bad : Int) (h : TAt F w g t) (hb : bad = -1 ∨ (0 ≤ bad ∧ bad ≤ 1000000)) :
    Calls Try.prog 28 #[.pointer (some ⟨g, 0, none⟩), .int .i64 bad] w fun e w' => ∃ v, e = .returned (.tuple #[v, .int .i64 (finT t bad).1, .int .i64 (finT t bad).2]) ∧ Row F w' 50 3 v t.q.length (evCs t.q) ∧ Below w.heap.size w w' := by
  obtain ⟨lv, h1, h2⟩ := h.core
  have H2 := Aside0.mk h2
  have c0 : w.cell? ⟨g, 0, none⟩ = some (.string (bs t.s)) := (blk_cell h1 0).trans rfl
  have c3 : w.cell? ⟨g, 3, none⟩ = some lv := (blk_cell h1 3).trans rfl
  have c4 : w.cell? ⟨g, 4, none⟩ = some (.int .i64 t.e) := (blk_cell h1 4).trans rfl
  have c5 : w.cell? ⟨g, 5, none⟩ = some (.int .i64 t.place) := (blk_cell h1 5).trans rfl
  have hsz : (bs t.s).size = t.s.length := by show (t.s.toArray).size = _; simp
  obtain ⟨x, hx⟩ : ∃ x, t.e = x := ⟨_, rfl⟩
  obtain ⟨p, hp⟩ : ∃ x, t.place = x := ⟨_, rfl⟩
  rw [hx] at c4
  rw [hp] at c5
  clear h h1 h2
  by_cases hq : 0 ≤ bad ∧ (x = 0 ∨ bad ≤ p)
  · have HF := Aside0.mk (show finT t bad = (3, bad) by unfold finT; rw [hx, hp, if_pos hq])
    have b1 : decide (0 ≤ bad) = true := decide_eq_true hq.1
    obtain ⟨_, hq2⟩ := hq
    by_cases h0 : x = 0
    · subst h0
      clear hq2
      go_enter Try.func28, Try.ntmps28
      go_wp2
      go_ret3
      rw [HF.out]
      exact ⟨_, rfl, H2.out, Below.refl _ _⟩
    · have z1 : (x == 0) = false := by rw [beq_eq_false_iff_ne]; exact h0
      have z2 : decide (x = 0) = false := decide_eq_false h0
      have b2 : decide (bad ≤ p) = true := decide_eq_true (hq2.resolve_left h0)
      clear hq2 h0
      go_enter Try.func28, Try.ntmps28
      go_wp2
      go_ret3
      rw [HF.out]
      exact ⟨_, rfl, H2.out, Below.refl _ _⟩
  · by_cases h0 : x = 0
    · have HF := Aside0.mk (show finT t bad = (0, (t.s.length : Int)) by unfold finT; rw [hx, hp, if_neg hq, if_neg (by rw [h0]; decide)])
      have b1 : decide (0 ≤ bad) = false := decide_eq_false (fun h => hq ⟨h, .inl h0⟩)
      subst h0
      clear hq
      go_enter Try.func28, Try.ntmps28
      go_wp2
      go_quiet (fail)
      have DB := Aside0.mk (pw_below_drewN (Below.refl w.heap.size w) nq)
      have R2 := Aside0.mk (H2.out.below DB.out)
      clear c0 c3 c4 c5
      generalize w.drewN nq = w6 at DB R2 ⊢
      go_wp2
      go_ret3
      rw [HF.out]
      exact ⟨_, rfl, R2.out, DB.out⟩
    · have HF := Aside0.mk (show finT t bad = (x, p) by unfold finT; rw [hx, hp, if_neg hq, if_pos h0])
      have z1 : (x == 0) = false := by rw [beq_eq_false_iff_ne]; exact h0
      have z2 : decide (x = 0) = false := decide_eq_false h0
      have z3 : (x != 0) = true := by rw [bne_iff_ne]; exact h0
      by_cases hb0 : 0 ≤ bad
      · have b1 : decide (0 ≤ bad) = true := decide_eq_true hb0
        have b2 : decide (bad ≤ p) = false := decide_eq_false (fun h => hq ⟨hb0, .inr h⟩)
        clear hq h0 hb0
        go_enter Try.func28, Try.ntmps28
        go_wp2
        go_quiet (fail)
        have DB := Aside0.mk (pw_below_drewN (Below.refl w.heap.size w) nq)
        have R2 := Aside0.mk (H2.out.below DB.out)
        clear c0 c3 c4 c5
        generalize w.drewN nq = w6 at DB R2 ⊢
        go_wp2
        go_ret3
        rw [HF.out]
        exact ⟨_, rfl, R2.out, DB.out⟩
      · have b1 : decide (0 ≤ bad) = false := decide_eq_false hb0
        clear hq h0 hb0
        go_enter Try.func28, Try.ntmps28
        go_wp2
        go_quiet (fail)
        have DB := Aside0.mk (pw_below_drewN (Below.refl w.heap.size w) nq)
        have R2 := Aside0.mk (H2.out.below DB.out)
        clear c0 c3 c4 c5
        generalize w.drewN nq = w6 at DB R2 ⊢
        go_wp2
        go_ret3
        rw [HF.out]
        exact ⟨_, rfl, R2.out, DB.out⟩
end Go.Proofs.Ytalaedpiimdcbaa.Tx

namespace Go.Proofs.Ytalaedpiimdcbaa.Tx
open Go Go.Lib Go.RowKit Go.Proofs.YtalaedpiimdcbaaW.PrintWords Go.Proofs.YtalaedpiimdcbaaW.PrintLast Go.Proofs.Ytalaedpiimdcbaa.Own Go.Proofs.Ytalaedpiimdcbaa.Hp Go.Proofs.Ytalaedpiimdcbaa.Cr Go.Proofs.Ytalaedpiimdcbaa.Dl
set_option linter.unusedVariables false
set_option linter.unusedSimpArgs false
theorem TAt.step2 {F : Nat → Prop} {w : World} {g : Nat} {t : TX} (h : TAt F w g t) (hl : t.at_ < 2000000) :
    TAt F (w.setCell ⟨g, 1, none⟩ (.int .i64 ((t.at_ : Int) + 1))) g t.next ∧ Ch txT F w (w.setCell ⟨g, 1, none⟩ (.int .i64 ((t.at_ : Int) + 1))) := by
  obtain ⟨lv, h1, h2⟩ := h.core
  have hc : Ch (fun t => t = some 68) F w (w.setCell ⟨g, 1, none⟩ (.int .i64 ((t.at_ : Int) + 1))) := Ch.set (T := fun t => t = some 68) h1 h.fg rfl 1 _
  exact ⟨⟨h.fg, ⟨lv, blk_put (cs' := txC lv t.next) h1 1 _ rfl, h2.ch hc (by decide)⟩, ⟨h.len.1, by show t.at_ + 1 ≤ _; omega, h.len.2.2⟩⟩, hc.mono (fun t ht => .inl ht) (fun _ h => h)⟩
/-- Past the first row: the columns' names. -/
def headR : Nat → TX → List ByteArray → TX × Option (List ByteArray)
  | 0, t, _ => (t, none)
  | k + 1, t, l =>
    match cellC t with
    | (u, none) => (u, none)
    | (u, some s) =>
      if hasL l (bs s) = true then (badT u 6 u.at_, none)
      else if isT u 44 = false then (u.next, some (l ++ [bs s]))
      else if 8 ≤ (l ++ [bs s]).length then (badT u 16 u.at_, none)
      else headR k u.next (l ++ [bs s])
end Go.Proofs.Ytalaedpiimdcbaa.Tx

namespace Go.Proofs.Ytalaedpiimdcbaa.Tx
open Go Go.Proofs.Ytalaedpiimdcbaa.Hp Go.Proofs.Ytalaedpiimdcbaa.Dl
set_option linter.unusedVariables false
set_option linter.unusedSimpArgs false
/-- What a machine does with some bytes, the first of them at p: what it tells, and the error and its place. -/
def runM : List UInt8 → MS → Nat → MS × List Ev × Option (Int × Nat)
  | [], m, _ => (m, [], none)
  | b :: r, m, p =>
    if (stepM m b).2.2 = 0 then ((runM r (stepM m b).1 (p + 1)).1, (stepM m b).2.1 ++ (runM r (stepM m b).1 (p + 1)).2.1, (runM r (stepM m b).1 (p + 1)).2.2)
    else ((stepM m b).1, (stepM m b).2.1, some ((stepM m b).2.2, p))
theorem run_go {b : UInt8} {r : List UInt8} {m m' : MS} {p : Nat} (h : stepM m b = (m', [], 0)) : runM (b :: r) m p = runM r m' (p + 1) := by
  rw [runM, h]
  simp only [if_true, List.nil_append]
theorem run_bad {b : UInt8} {r : List UInt8} {m m' : MS} {p : Nat} {e : Int} {q : List Ev} (h : stepM m b = (m', q, e)) (he : e ≠ 0) : runM (b :: r) m p = (m', q, some (e, p)) := by
  rw [runM, h]
  simp only [if_neg he]
theorem run_told {b : UInt8} {r : List UInt8} {m m' : MS} {p : Nat} {q : List Ev} (h : stepM m b = (m', q, 0)) : runM (b :: r) m p = ((runM r m' (p + 1)).1, q ++ (runM r m' (p + 1)).2.1, (runM r m' (p + 1)).2.2) := by
  rw [runM, h]
  simp only [if_true]
/-- Within a row. -/
def InR (m : MS) : Prop := m.started = true ∧ m.row = true
theorem InR.m1 {m : MS} (h : InR m) : m1 m = m := by
  obtain ⟨st, sd, rw_, hd, nm, cl, cs⟩ := m
  obtain ⟨h1, h2⟩ := h
  simp only at h1 h2
  subst h1; subst h2
  rfl
theorem InR.ev0 {m : MS} (h : InR m) : ev0 m = [] := by unfold Dl.ev0; rw [if_pos h.1]
/-- The first byte of a row. -/
theorem run_m1 (b : UInt8) (r : List UInt8) (m : MS) (p : Nat) : runM (b :: r) m p = ((runM (b :: r) (m1 m) p).1, ev0 m ++ (runM (b :: r) (m1 m) p).2.1, (runM (b :: r) (m1 m) p).2.2) := by
  have hi : InR (m1 m) := ⟨rfl, rfl⟩
  have h : stepM m b = ((stepM (m1 m) b).1, ev0 m ++ (stepM (m1 m) b).2.1, (stepM (m1 m) b).2.2) := by
    unfold stepM
    rw [hi.m1, hi.ev0]
    have hst : (m1 m).st = m.st := rfl
    rw [hst]
    repeat' split
    all_goals simp
  by_cases h0 : (stepM (m1 m) b).2.2 = 0
  · rw [run_told (m' := (stepM (m1 m) b).1) (q := ev0 m ++ (stepM (m1 m) b).2.1) (by rw [h, h0]), run_told (m' := (stepM (m1 m) b).1) (q := (stepM (m1 m) b).2.1) (by rw [← h0])]
    simp only [List.append_assoc]
  · rw [run_bad (m' := (stepM (m1 m) b).1) h h0, run_bad (m' := (stepM (m1 m) b).1) (e := (stepM (m1 m) b).2.2) (q := (stepM (m1 m) b).2.1) rfl h0]
/-- What a cell's reader leaves, beside what the machine does with its bytes. -/
def CellRun (t : TX) (m : MS) (x : TX × Option (List UInt8)) : Prop :=
  match x with
  | (u, some o) => ∃ i st, u = { t with at_ := i } ∧ t.at_ ≤ i ∧ i ≤ t.s.length ∧ st ≠ 2 ∧ (i = t.s.length ∨ isT u 44 = true ∨ isT u 10 = true) ∧ runM (t.s.drop t.at_) m t.at_ = runM (t.s.drop i) { m with cell := o, st := st } i
  | (u, none) => (∃ e i m', e ≠ 0 ∧ u = badT { t with at_ := i } e (i : Nat) ∧ i < t.s.length ∧ runM (t.s.drop t.at_) m t.at_ = (m', [], some (e, i))) ∨
      (∃ m', u = badT { t with at_ := t.s.length } 2 (t.s.length : Nat) ∧ m'.st = 2 ∧ m'.started = true ∧ runM (t.s.drop t.at_) m t.at_ = (m', [], none))
theorem CellRun.step {t : TX} {m m' : MS} {x : TX × Option (List UInt8)} (hr : runM (t.s.drop t.at_) m t.at_ = runM (t.s.drop (t.at_ + 1)) m' (t.at_ + 1))
    (hm : ∀ o st, ({ m' with cell := o, st := st } : MS) = { m with cell := o, st := st }) (h : CellRun t.next m' x) : CellRun t m x := by
  obtain ⟨u, o⟩ := x
  cases o with
  | some o =>
    obtain ⟨i, st, h1, h2, h3, h4, h5, h6⟩ := h
    have h2' : t.at_ + 1 ≤ i := h2
    exact ⟨i, st, h1, by omega, h3, h4, h5, by rw [hr, ← hm o st]; exact h6⟩
  | none =>
    rcases h with ⟨e, i, m2, h1, h2, h3, h4⟩ | ⟨m2, h1, h2, h3, h4⟩
    · exact .inl ⟨e, i, m2, h1, h2, h3, by rw [hr]; exact h4⟩
    · exact .inr ⟨m2, h1, h2, h3, by rw [hr]; exact h4⟩
theorem drop_cons {t : TX} (h : t.at_ < t.s.length) : t.s.drop t.at_ = t.s[t.at_] :: t.s.drop (t.at_ + 1) := List.drop_eq_getElem_cons h
theorem isT_get {t : TX} (h : t.at_ < t.s.length) (c : UInt8) : isT t c = decide (t.s[t.at_] = c) := by
  unfold isT
  rw [List.getElem?_eq_getElem h]
  simp
theorem next_at (t : TX) : t.next.at_ = t.at_ + 1 := rfl
theorem next_s (t : TX) : t.next.s = t.s := rfl
theorem says_go {m : MS} (b : UInt8) (h : ¬ 48 ≤ m.cell.length) : saysM m b = ({ m with cell := m.cell ++ [b] }, 0) := by unfold saysM; rw [if_neg h]
theorem says_bad {m : MS} (b : UInt8) (h : 48 ≤ m.cell.length) : saysM m b = (m, 4) := by unfold saysM; rw [if_pos h]
theorem bare_run : ∀ (r : List UInt8) (t : TX) (out : List UInt8) (m : MS), t.s.drop t.at_ = r → t.at_ ≤ t.s.length → InR m → m.cell = out → (m.st = 1 ∨ (m.st = 0 ∧ isT t 34 = false)) → CellRun t m (bareR r t out) := by
  intro r
  induction r with
  | nil =>
    intro t out m hr ha hi hc hs
    rw [bareR]
    have hl : t.at_ = t.s.length := by have := List.length_drop (i := t.at_) (l := t.s); rw [hr, List.length_nil] at this; omega
    refine ⟨t.at_, m.st, rfl, Nat.le_refl _, ha, by rcases hs with h | h; (rw [h]; decide); (rw [h.1]; decide), .inl hl, ?_⟩
    subst hc
    rfl
  | cons x r ih =>
    intro t out m hr ha hi hc hs
    have hlt : t.at_ < t.s.length := by
      have := List.length_drop (i := t.at_) (l := t.s); rw [hr, List.length_cons] at this; omega
    have hd := drop_cons hlt
    rw [hr] at hd
    injection hd with hx hd
    have h2 : m.st ≠ 2 := by rcases hs with h | h; (rw [h]; decide); (rw [h.1]; decide)
    have h3 : m.st ≠ 3 := by rcases hs with h | h; (rw [h]; decide); (rw [h.1]; decide)
    rw [bareR]
    by_cases c1 : x = 44 ∨ x = 10
    · rw [if_pos c1]
      refine ⟨t.at_, m.st, rfl, Nat.le_refl _, ha, h2, .inr ?_, ?_⟩
      · rw [isT_get hlt, isT_get hlt, ← hx]
        rcases c1 with h | h
        · exact .inl (decide_eq_true h)
        · exact .inr (decide_eq_true h)
      · subst hc; rfl
    rw [if_neg c1]
    have c44 : x ≠ 44 := fun h => c1 (.inl h)
    have c10 : x ≠ 10 := fun h => c1 (.inr h)
    by_cases c2 : x < 32 ∨ x = 34
    · rw [if_pos c2]
      refine .inl ⟨2, t.at_, m, by decide, rfl, hlt, ?_⟩
      rw [hr]
      apply run_bad _ (by decide)
      unfold stepM
      rw [hi.m1, hi.ev0, if_neg h2, if_neg c44, if_neg c10, if_neg h3]
      by_cases c3 : x < 32
      · rw [if_pos c3]
      · have c4 := c2.resolve_left c3
        rw [if_neg c3, if_pos c4]
        rcases hs with h | h
        · rw [if_pos h]
        · exfalso
          have := h.2
          rw [isT_get hlt, ← hx, decide_eq_false_iff_not] at this
          exact this c4
    rw [if_neg c2]
    have hst : stepM m x = ((saysM (m.to 1) x).1, [], (saysM (m.to 1) x).2) := by
      unfold stepM
      rw [hi.m1, hi.ev0, if_neg h2, if_neg c44, if_neg c10, if_neg h3, if_neg (fun h => c2 (.inl h)), if_neg (fun h => c2 (.inr h))]
    by_cases c3 : 48 ≤ out.length
    · rw [if_pos c3]
      rw [says_bad (m := m.to 1) x (by show 48 ≤ m.cell.length; rw [hc]; exact c3)] at hst
      refine .inl ⟨4, t.at_, m.to 1, by decide, rfl, hlt, ?_⟩
      rw [hr]
      exact run_bad hst (by decide)
    · rw [if_neg c3]
      rw [says_go (m := m.to 1) x (by show ¬ 48 ≤ m.cell.length; rw [hc]; exact c3)] at hst
      refine CellRun.step (m' := { m.to 1 with cell := m.cell ++ [x] }) ?_ (fun o st => rfl) (ih t.next (out ++ [x]) _ hd.symm (by show t.at_ + 1 ≤ _; exact hlt) hi (by show m.cell ++ [x] = _; rw [hc]) (.inl rfl))
      rw [hr]
      rw [run_go hst, ← hd]
      rfl
theorem quot_run : ∀ (k : Nat) (t : TX) (out : List UInt8) (m : MS), t.s.length - t.at_ < k → t.at_ ≤ t.s.length → InR m → m.cell = out → m.st = 2 → CellRun t m (quotR k t out) := by
  intro k
  induction k using Nat.strongRecOn with
  | ind k ih =>
    intro t out m hk ha hi hc hs
    cases k with
    | zero => exact absurd hk (Nat.not_lt_zero _)
    | succ k =>
    rw [quotR]
    by_cases hlt : t.at_ < t.s.length
    · rw [if_pos hlt]
      have hd := drop_cons hlt
      have e34 := isT_get hlt 34
      generalize hx : t.s[t.at_] = x at hd e34
      by_cases c1 : x = 34
      · rw [e34, if_pos (decide_eq_true c1)]
        subst c1
        have hs1 : stepM m 34 = (m.to 3, [], 0) := by
          unfold stepM
          rw [hi.m1, hi.ev0, if_pos hs, if_pos rfl]
        by_cases hl2 : t.at_ + 1 < t.s.length
        · have hd2 : t.s.drop (t.at_ + 1) = t.s[t.at_ + 1] :: t.s.drop (t.at_ + 1 + 1) := List.drop_eq_getElem_cons hl2
          have f34 : isT t.next 34 = decide (t.s[t.at_ + 1] = 34) := isT_get (t := t.next) hl2 34
          have f44 : isT t.next 44 = decide (t.s[t.at_ + 1] = 44) := isT_get (t := t.next) hl2 44
          have f10 : isT t.next 10 = decide (t.s[t.at_ + 1] = 10) := isT_get (t := t.next) hl2 10
          generalize t.s[t.at_ + 1] = y at f34 f44 f10 hd2
          have hr1 : runM (t.s.drop t.at_) m t.at_ = runM (t.s.drop (t.at_ + 1)) (m.to 3) (t.at_ + 1) := by rw [hd, run_go hs1]
          by_cases d1 : y = 34
          · subst d1
            rw [f34, if_pos (decide_eq_true rfl)]
            have hs2 : stepM (m.to 3) 34 = ((saysM (m.to 2) 34).1, [], (saysM (m.to 2) 34).2) := by
              have hi3 : InR (m.to 3) := hi
              unfold stepM
              rw [hi3.m1, hi3.ev0, if_neg (by show ¬ ((3 : Int) = 2); decide), if_neg (by decide), if_neg (by decide), if_pos (by rfl), if_pos rfl]
              rfl
            by_cases c3 : 48 ≤ out.length
            · rw [if_pos c3]
              rw [says_bad (m := m.to 2) 34 (by show 48 ≤ m.cell.length; rw [hc]; exact c3)] at hs2
              refine .inl ⟨4, t.at_ + 1, m.to 2, by decide, rfl, hl2, ?_⟩
              rw [hr1, hd2]
              exact run_bad hs2 (by decide)
            · rw [if_neg c3]
              rw [says_go (m := m.to 2) 34 (by show ¬ 48 ≤ m.cell.length; rw [hc]; exact c3)] at hs2
              refine CellRun.step (m' := m.to 3) hr1 (fun o st => rfl) (CellRun.step (t := t.next) (m' := { m.to 2 with cell := m.cell ++ [34] }) ?_ (fun o st => rfl) (ih k (Nat.lt_succ_self k) t.next.next (out ++ [34]) _ ?_ ?_ hi (by show m.cell ++ [34] = _; rw [hc]) rfl))
              · show runM (t.s.drop (t.at_ + 1)) _ (t.at_ + 1) = _
                rw [hd2, run_go hs2]
                rfl
              · show t.s.length - (t.at_ + 1 + 1) < k
                omega
              · show t.at_ + 1 + 1 ≤ t.s.length
                omega
          · rw [f34, if_neg (by rw [decide_eq_true_eq]; exact d1)]
            by_cases d2 : y = 44 ∨ y = 10
            · rw [if_neg (by
                intro h
                rw [f44, f10, decide_eq_false_iff_not, decide_eq_false_iff_not] at h
                rcases d2 with g | g
                · exact h.2.1 g
                · exact h.2.2 g)]
              refine ⟨t.at_ + 1, 3, rfl, by omega, hlt, by decide, .inr ?_, ?_⟩
              · rw [f44, f10]
                rcases d2 with g | g
                · exact .inl (decide_eq_true g)
                · exact .inr (decide_eq_true g)
              · rw [hr1]; subst hc; rfl
            · rw [if_pos ⟨hl2, by rw [f44]; exact decide_eq_false (fun h => d2 (.inl h)), by rw [f10]; exact decide_eq_false (fun h => d2 (.inr h))⟩]
              refine .inl ⟨2, t.at_ + 1, m.to 3, by decide, rfl, hl2, ?_⟩
              rw [hr1, hd2]
              apply run_bad _ (by decide)
              have hi3 : InR (m.to 3) := hi
              unfold stepM
              rw [hi3.m1, hi3.ev0, if_neg (by show ¬ ((3 : Int) = 2); decide), if_neg (fun h => d2 (.inl h)), if_neg (fun h => d2 (.inr h)), if_pos (by rfl), if_neg d1]
        · have hge : ¬ t.next.at_ < t.next.s.length := hl2
          rw [isT_ge hge, if_neg (by decide), if_neg (fun h => hge h.1)]
          refine ⟨t.at_ + 1, 3, rfl, by omega, hlt, by decide, .inl (by omega), ?_⟩
          rw [hd, run_go hs1]
          subst hc; rfl
      · rw [e34, if_neg (by rw [decide_eq_true_eq]; exact c1)]
        have hs1 : stepM m x = ((saysM m x).1, [], (saysM m x).2) := by
          unfold stepM
          rw [hi.m1, hi.ev0, if_pos hs, if_neg c1]
        by_cases c3 : 48 ≤ out.length
        · rw [if_pos c3]
          rw [says_bad x (by rw [hc]; exact c3)] at hs1
          refine .inl ⟨4, t.at_, m, by decide, rfl, hlt, ?_⟩
          rw [hd]
          exact run_bad hs1 (by decide)
        · rw [if_neg c3]
          rw [says_go x (by rw [hc]; exact c3)] at hs1
          have hg : t.s.getD t.at_ 0 = x := by rw [List.getD_eq_getElem?_getD, List.getElem?_eq_getElem hlt]; exact hx
          rw [hg]
          refine CellRun.step (m' := { m with cell := m.cell ++ [x] }) (by rw [hd, run_go hs1]) (fun o st => rfl) (ih k (Nat.lt_succ_self k) t.next (out ++ [x]) _ ?_ ?_ hi (by show m.cell ++ [x] = _; rw [hc]) hs)
          · show t.s.length - (t.at_ + 1) < k
            omega
          · exact hlt
    · rw [if_neg hlt]
      have hl : t.at_ = t.s.length := by omega
      refine .inr ⟨m, by rw [← hl], hs, hi.1, ?_⟩
      rw [List.drop_of_length_le (by omega)]
      rfl
/-- The same for a whole cell. -/
def CellRun2 (t : TX) (m : MS) (x : TX × Option (List UInt8)) : Prop :=
  match x with
  | (u, some o) => ∃ i st, u = { t with at_ := i } ∧ t.at_ ≤ i ∧ i ≤ t.s.length ∧ st ≠ 2 ∧ ((i = t.s.length ∧ t.closed = true) ∨ isT u 44 = true ∨ isT u 10 = true) ∧ runM (t.s.drop t.at_) m t.at_ = runM (t.s.drop i) { m with cell := o, st := st } i
  | (u, none) => (∃ e i m', e ≠ 0 ∧ u = badT { t with at_ := i } e (i : Nat) ∧ i < t.s.length ∧ runM (t.s.drop t.at_) m t.at_ = (m', [], some (e, i))) ∨
      (∃ m', u = badT { t with at_ := t.s.length } 2 (t.s.length : Nat) ∧ (t.closed = true → m'.st = 2 ∧ m'.started = true) ∧ runM (t.s.drop t.at_) m t.at_ = (m', [], none))
theorem shut_run {t : TX} {m : MS} {x : TX × Option (List UInt8)} (h : CellRun t m x) : CellRun2 t m (shutT x) := by
  obtain ⟨u, o⟩ := x
  cases o with
  | some o =>
    obtain ⟨i, st, rfl, h2, h3, h4, h5, h6⟩ := h
    unfold shutT
    by_cases hq : i = t.s.length ∧ t.closed = false
    · rw [if_pos ⟨rfl, hq.1, hq.2⟩]
      obtain ⟨rfl, hc⟩ := hq
      refine .inr ⟨{ m with cell := o, st := st }, rfl, fun h => absurd h (by rw [hc]; decide), ?_⟩
      rw [h6, List.drop_of_length_le (Nat.le_refl _)]
      rfl
    · rw [if_neg (fun h => hq ⟨h.2.1, h.2.2⟩)]
      refine ⟨i, st, rfl, h2, h3, h4, ?_, h6⟩
      rcases h5 with h | h
      · refine .inl ⟨h, ?_⟩
        cases hc : t.closed with
        | true => rfl
        | false => exact absurd ⟨h, hc⟩ hq
      · exact .inr h
  | none =>
    have hs : shutT (u, none) = (u, none) := by unfold shutT; rw [if_neg (fun h => by cases h.1)]
    rw [hs]
    rcases h with ⟨e, i, m2, h1, h2, h3, h4⟩ | ⟨m2, h1, h2, h3, h4⟩
    · exact .inl ⟨e, i, m2, h1, h2, h3, h4⟩
    · exact .inr ⟨m2, h1, fun _ => ⟨h2, h3⟩, h4⟩
theorem cell_run {t : TX} {m : MS} (ha : t.at_ ≤ t.s.length) (hi : InR m) (hc : m.cell = []) (hs : m.st = 0) : CellRun2 t m (cellC t) := by
  unfold cellC
  apply shut_run
  by_cases h : isT t 34 = true
  · rw [if_pos h]
    have hlt := isT_at h
    have hd := drop_cons hlt
    have e34 := isT_get hlt 34
    rw [h] at e34
    have hx : t.s[t.at_] = 34 := of_decide_eq_true e34.symm
    rw [hx] at hd
    have hs1 : stepM m 34 = (m.to 2, [], 0) := by
      unfold stepM
      rw [hi.m1, hi.ev0, hs]
      rfl
    refine CellRun.step (m' := m.to 2) (by rw [hd, run_go hs1]) (fun o st => rfl) (quot_run _ t.next [] _ ?_ hlt hi hc rfl)
    show t.s.length - (t.at_ + 1) < t.s.length + 1
    omega
  · rw [if_neg h]
    exact bare_run _ t [] m rfl ha hi hc (.inr ⟨hs, by simpa using h⟩)
end Go.Proofs.Ytalaedpiimdcbaa.Tx

namespace Go.Proofs.Ytalaedpiimdcbaa.Tx
open Go Go.Proofs.Ytalaedpiimdcbaa.Hp Go.Proofs.Ytalaedpiimdcbaa.Dl
set_option linter.unusedVariables false
set_option linter.unusedSimpArgs false
def toldX (u : TX) (k : Nat) (names : List ByteArray) (x : List UInt8) : TX := { u with q := u.q ++ ((if k = 0 then [ev 7 noT] else []) ++ [ev 8 (names.getD k noT), ev 4 (bs x)]) }
def tellX (u : TX) (k : Int) : TX := { u with q := u.q ++ [ev k noT] }
/-- The cells of a row. -/
def cellsR (names : List ByteArray) : Nat → Nat → TX → TX × Bool
  | 0, _, t => (t, true)
  | f + 1, k, t =>
    match cellC t with
    | (u, none) => (u, false)
    | (u, some x) =>
      if isT (toldX u k names x) 44 = decide (k + 1 < names.length) then cellsR names f (k + 1) (toldX u k names x).next
      else ((badT (toldX u k names x) 17 (toldX u k names x).at_).next, false)
/-- The rows. -/
def rowsR (names : List ByteArray) : Nat → TX → TX × Bool
  | 0, t => (t, true)
  | f + 1, t =>
    if t.at_ < t.s.length then
      match cellsR names names.length 0 t with
      | (u, false) => (u, false)
      | (u, true) => rowsR names f (tellX u 9)
    else (t, true)
def listX (t : TX) : TX := if t.s ≠ [] ∨ t.closed = true then tellX t 5 else t
def endX (t : TX) : TX := if t.closed = true then tellX t 6 else t
/-- All of a text. -/
def specR (t : TX) : TX :=
  if t.s = [] then endX (listX t)
  else
    match headR 9 (listX t) [] with
    | (u, none) => u
    | (u, some names) =>
      match rowsR names (t.s.length + 2) u with
      | (v, true) => endX v
      | (v, false) => v
def pre (q : List Ev) (X : MS × List Ev × Option (Int × Nat)) : MS × List Ev × Option (Int × Nat) := (X.1, q ++ X.2.1, X.2.2)
theorem pre_nil (X : MS × List Ev × Option (Int × Nat)) : pre [] X = X := rfl
/-- What the reference leaves in the end, beside what the machine does. -/
def Fin (L : Nat) (cl : Bool) (v : TX) (q0 : List Ev) (X : MS × List Ev × Option (Int × Nat)) : Prop :=
  v.s.length = L ∧ match X with
  | (_, q, some (e, p)) => e ≠ 0 ∧ p < L ∧ v.q = q0 ++ q ∧ v.e = e ∧ v.place = p
  | (m, q, none) => if cl = true then v.q = q0 ++ q ++ (endM m).2.1 ∧ v.e = (endM m).2.2 ∧ (v.e ≠ 0 → v.place = L) else v.q = q0 ++ q ∧ (v.e = 0 ∨ v.place = L)
theorem Fin.pre {L : Nat} {cl : Bool} {v : TX} {q0 q1 : List Ev} {X : MS × List Ev × Option (Int × Nat)} (h : Fin L cl v (q0 ++ q1) X) : Fin L cl v q0 (pre q1 X) := by
  obtain ⟨m, q, o⟩ := X
  cases o with
  | some ep =>
    obtain ⟨h1, h2, h3, h4, h5⟩ := h
    exact ⟨h1, h2, h3, by rw [h4]; show _ = q0 ++ (q1 ++ q); rw [List.append_assoc], h5⟩
  | none =>
    refine ⟨h.1, ?_⟩
    have h2 := h.2
    show if cl = true then v.q = q0 ++ (q1 ++ q) ++ (endM m).2.1 ∧ _ else v.q = q0 ++ (q1 ++ q) ∧ _
    rw [← List.append_assoc]
    exact h2
theorem badT_new {t : TX} (h : t.e = 0) (e p : Int) : badT t e p = { t with e := e, place := p } := by unfold badT; rw [if_pos h]
/-- A cell that is none is the end. -/
theorem fin_cell {t u : TX} {m : MS} (he : t.e = 0) (h : CellRun2 t m (u, none)) : Fin t.s.length t.closed u t.q (runM (t.s.drop t.at_) m t.at_) := by
  rcases h with ⟨e, i, m2, h1, h2, h3, h4⟩ | ⟨m2, h1, h2, h3⟩
  · rw [h4, h2, badT_new (t := { t with at_ := i }) he]
    exact ⟨rfl, h1, h3, by simp, rfl, rfl⟩
  · rw [h3, h1, badT_new (t := { t with at_ := t.s.length }) he]
    refine ⟨rfl, ?_⟩
    cases hc : t.closed with
    | true =>
      obtain ⟨g1, g2⟩ := h2 hc
      have g3 : endM m2 = (m2, [], 2) := by unfold endM ev0; rw [if_pos g1, if_pos g2]
      show if true = true then _ else _
      rw [if_pos rfl, g3]
      exact ⟨by simp, rfl, fun _ => rfl⟩
    | false =>
      show if false = true then _ else _
      rw [if_neg (by decide)]
      exact ⟨by simp, .inr rfl⟩
/-- At the beginning of a row. -/
structure RowS (m : MS) (names : List ByteArray) : Prop where
  started : m.started = true
  row : m.row = false
  named : m.named = true
  hdr : m.hdr = names
  st : m.st = 0
  cell : m.cell = []
  cells : m.cells = 0
/-- Behind a row. -/
def After (t : TX) (m : MS) (u : TX) (names : List ByteArray) : Prop :=
  u.e = 0 ∧ u.s = t.s ∧ u.closed = t.closed ∧
    ((t.at_ < u.at_ ∧ u.at_ ≤ t.s.length ∧ ∃ m' q, RowS m' names ∧ u.q = t.q ++ q ∧ runM (t.s.drop t.at_) m t.at_ = pre q (runM (t.s.drop u.at_) m' u.at_)) ∨
      (t.closed = true ∧ u.at_ = t.s.length + 1 ∧ ∃ m' q1 q2, u.q = t.q ++ q1 ++ q2 ∧ runM (t.s.drop t.at_) m t.at_ = (m', q1, none) ∧ (endM m').2 = (q2 ++ [ev 6 noT], 0)))
theorem After.pre {t t' : TX} {m m' : MS} {u : TX} {names : List ByteArray} {q : List Ev} (h1 : t'.s = t.s) (h2 : t'.closed = t.closed) (h3 : t.at_ ≤ t'.at_) (h4 : t'.q = t.q ++ q)
    (hr : runM (t.s.drop t.at_) m t.at_ = Tx.pre q (runM (t.s.drop t'.at_) m' t'.at_)) (h : After t' m' u names) : After t m u names := by
  obtain ⟨g1, g2, g3, g4⟩ := h
  rw [h1] at g2 g4
  rw [h2] at g3 g4
  refine ⟨g1, g2, g3, ?_⟩
  rcases g4 with ⟨k1, k2, m2, q2, k3, k4, k5⟩ | ⟨k1, k2, m2, q1, q2, k3, k4, k5⟩
  · exact .inl ⟨by omega, k2, m2, q ++ q2, k3, by rw [k4, h4, List.append_assoc], by rw [hr, k5]; show (_, _, _) = (_, _, _); simp [Tx.pre, List.append_assoc]⟩
  · exact .inr ⟨k1, k2, m2, q ++ q1, q2, by rw [k3, h4]; simp [List.append_assoc], by rw [hr, k4]; rfl, k5⟩
/-- The bytes that end a cell. -/
theorem sep_step {m : MS} (hi : InR m) (hs : m.st ≠ 2) : stepM m 44 = endsM m true ∧ stepM m 10 = endsM m false := by
  constructor
  · unfold stepM
    rw [hi.m1, hi.ev0, if_neg hs, if_pos rfl]
    rfl
  · unfold stepM
    rw [hi.m1, hi.ev0, if_neg hs, if_neg (by decide), if_pos rfl]
    rfl
theorem end_row {m : MS} (hi : InR m) (hs : m.st ≠ 2) : (endM m).2 = if (endsM m false).2.2 = 0 then ((endsM m false).2.1 ++ [ev 6 noT], 0) else ((endsM m false).2.1, (endsM m false).2.2) := by
  unfold endM
  rw [if_neg hs, if_pos hi.2, hi.ev0]
  split <;> rfl
theorem isT_told (u : TX) (k : Nat) (names : List ByteArray) (x : List UInt8) (c : UInt8) : isT (toldX u k names x) c = isT u c := rfl
theorem isT_drop {t : TX} {c : UInt8} (h : isT t c = true) : t.s.drop t.at_ = c :: t.s.drop (t.at_ + 1) := by
  have hlt := isT_at h
  rw [drop_cons hlt]
  rw [isT_get hlt] at h
  rw [of_decide_eq_true h]
theorem cells_run (names : List ByteArray) : ∀ (f k : Nat) (t : TX) (m : MS), f + k = names.length → 1 ≤ f → InR m → m.st = 0 → m.cell = [] → m.named = true → m.hdr = names → m.cells = k → t.at_ ≤ t.s.length → t.e = 0 →
    match cellsR names f k t with
    | (u, false) => Fin t.s.length t.closed u t.q (runM (t.s.drop t.at_) m t.at_)
    | (u, true) => After t m (tellX u 9) names := by
  intro f
  induction f with
  | zero => intro k t m _ h; exact absurd h (by decide)
  | succ f ih =>
    intro k t m hf _ hi hst hc hn hh hk ha he
    have hcr := cell_run ha hi hc hst
    rw [cellsR]
    generalize cellC t = x at hcr
    obtain ⟨u, o⟩ := x
    cases o with
    | none => exact fin_cell he hcr
    | some o =>
      obtain ⟨i, st, rfl, h2, h3, h4, h5, h6⟩ := hcr
      simp only
      rw [isT_told]
      have hi2 : InR ({ m with cell := o, st := st } : MS) := hi
      obtain ⟨hs1, hs2⟩ := sep_step hi2 h4
      have hE : endsM ({ m with cell := o, st := st } : MS) true = if k + 1 < names.length then ({ m with cell := [], st := 0, cells := k + 1 }, (if k = 0 then [ev 7 noT] else []) ++ [ev 8 (names.getD k noT), ev 4 (bs o)], 0) else ({ m with cell := [], st := 0, cells := k + 1 }, (if k = 0 then [ev 7 noT] else []) ++ [ev 8 (names.getD k noT), ev 4 (bs o)], 17) := by
        unfold endsM
        rw [if_neg (by show ¬ (m.named = false); rw [hn]; decide), if_pos rfl]
        subst hk; subst hh
        rfl
      have hF : endsM ({ m with cell := o, st := st } : MS) false = if k + 1 < names.length then ({ m with cell := [], st := 0, cells := k + 1 }, (if k = 0 then [ev 7 noT] else []) ++ [ev 8 (names.getD k noT), ev 4 (bs o)], 17) else ({ m with cell := [], st := 0, cells := 0, row := false }, (if k = 0 then [ev 7 noT] else []) ++ [ev 8 (names.getD k noT), ev 4 (bs o)] ++ [ev 9 noT], 0) := by
        unfold endsM
        rw [if_neg (by show ¬ (m.named = false); rw [hn]; decide), if_neg (by decide)]
        subst hk; subst hh
        rfl
      generalize hq : (if k = 0 then [ev 7 noT] else []) ++ [ev 8 (names.getD k noT), ev 4 (bs o)] = q at hE hF
      have hv : toldX ({ t with at_ := i } : TX) k names o = { t with at_ := i, q := t.q ++ q } := by unfold toldX; rw [← hq]
      rw [hv]
      by_cases c44 : isT ({ t with at_ := i } : TX) 44 = true
      · have hil : i < t.s.length := isT_at c44
        have hd : t.s.drop i = 44 :: t.s.drop (i + 1) := isT_drop c44
        rw [c44]
        by_cases hlt : k + 1 < names.length
        · rw [if_pos (decide_eq_true hlt).symm]
          rw [if_pos hlt] at hE
          have hrun : runM (t.s.drop t.at_) m t.at_ = pre q (runM (t.s.drop (i + 1)) { m with cell := [], st := 0, cells := k + 1 } (i + 1)) := by
            rw [h6, hd]
            exact run_told (hs1.trans hE)
          have hr := ih (k + 1) ({ t with at_ := i, q := t.q ++ q } : TX).next { m with cell := [], st := 0, cells := k + 1 } (by omega) (by omega) hi rfl rfl hn hh rfl hil he
          generalize cellsR names f (k + 1) ({ t with at_ := i, q := t.q ++ q } : TX).next = y at hr
          obtain ⟨v, ok⟩ := y
          cases ok with
          | false =>
            show Fin _ _ _ _ _
            rw [hrun]
            exact Fin.pre hr
          | true => exact After.pre (t' := ({ t with at_ := i, q := t.q ++ q } : TX).next) rfl rfl (by show t.at_ ≤ i + 1; omega) rfl hrun hr
        · rw [if_neg (by rw [decide_eq_false hlt]; decide)]
          rw [if_neg hlt] at hE
          show Fin _ _ _ _ _
          rw [h6, hd, run_bad (hs1.trans hE) (by decide), badT_new (by exact he)]
          exact ⟨rfl, by decide, hil, rfl, rfl, rfl⟩
      · have c44' : isT ({ t with at_ := i } : TX) 44 = false := by simpa using c44
        rw [c44']
        rcases h5 with ⟨hl, hcl⟩ | h5 | h5
        · have hd : runM (t.s.drop i) ({ m with cell := o, st := st } : MS) i = (({ m with cell := o, st := st } : MS), [], none) := by
            rw [List.drop_of_length_le (by omega)]; rfl
          have hend := end_row hi2 h4
          by_cases hlt : k + 1 < names.length
          · rw [if_neg (by rw [decide_eq_true hlt]; decide)]
            rw [if_pos hlt] at hF
            rw [hF] at hend
            simp only at hend
            rw [if_neg (by decide)] at hend
            show Fin _ _ _ _ _
            rw [h6, hd, badT_new (by exact he)]
            refine ⟨rfl, ?_⟩
            show if t.closed = true then _ else _
            rw [if_pos hcl, hend]
            exact ⟨by show t.q ++ q = t.q ++ [] ++ q; simp, rfl, fun _ => by show (i : Int) = _; rw [hl]⟩
          · rw [if_pos (decide_eq_false hlt).symm]
            rw [if_neg hlt] at hF
            rw [hF] at hend
            simp only [if_true] at hend
            have f0 : f = 0 := by omega
            subst f0
            refine ⟨he, rfl, rfl, .inr ⟨hcl, by show i + 1 = _; rw [hl], _, [], q ++ [ev 9 noT], ?_, h6.trans hd, hend⟩⟩
            show t.q ++ q ++ [ev 9 noT] = t.q ++ [] ++ (q ++ [ev 9 noT])
            simp
        · exact absurd h5 c44
        · have hil : i < t.s.length := isT_at h5
          have hd : t.s.drop i = 10 :: t.s.drop (i + 1) := isT_drop h5
          by_cases hlt : k + 1 < names.length
          · rw [if_neg (by rw [decide_eq_true hlt]; decide)]
            rw [if_pos hlt] at hF
            show Fin _ _ _ _ _
            rw [h6, hd, run_bad (hs2.trans hF) (by decide), badT_new (by exact he)]
            exact ⟨rfl, by decide, hil, rfl, rfl, rfl⟩
          · rw [if_pos (decide_eq_false hlt).symm]
            rw [if_neg hlt] at hF
            have f0 : f = 0 := by omega
            subst f0
            refine ⟨he, rfl, rfl, .inl ⟨by show t.at_ < i + 1; omega, hil, { m with cell := [], st := 0, cells := 0, row := false }, q ++ [ev 9 noT], ⟨hi.1, rfl, hn, hh, rfl, rfl, rfl⟩, ?_, ?_⟩⟩
            · show t.q ++ q ++ [ev 9 noT] = t.q ++ (q ++ [ev 9 noT])
              simp
            · rw [h6, hd]
              exact run_told (hs2.trans hF)
theorem rowsR_end {names : List ByteArray} {t : TX} (h : ¬ t.at_ < t.s.length) (f : Nat) : rowsR names f t = (t, true) := by
  cases f with
  | zero => rfl
  | succ f => rw [rowsR, if_neg h]
def finR (x : TX × Bool) : TX := match x with | (v, true) => endX v | (v, false) => v
theorem rows_run (names : List ByteArray) (hne : 1 ≤ names.length) : ∀ (f : Nat) (u : TX) (m : MS), RowS m names → u.at_ ≤ u.s.length → u.s.length - u.at_ < f → u.e = 0 →
    Fin u.s.length u.closed (finR (rowsR names f u)) u.q (runM (u.s.drop u.at_) m u.at_) := by
  intro f
  induction f with
  | zero => intro u m _ _ h; exact absurd h (Nat.not_lt_zero _)
  | succ f ih =>
    intro u m hm ha hf he
    by_cases hlt : u.at_ < u.s.length
    · have hd := drop_cons hlt
      have hm1 : runM (u.s.drop u.at_) m u.at_ = runM (u.s.drop u.at_) (m1 m) u.at_ := by
        rw [hd, run_m1]
        have : ev0 m = [] := by unfold ev0; rw [if_pos hm.started]
        rw [this]
        rfl
      rw [hm1, rowsR, if_pos hlt]
      have hr := cells_run names names.length 0 u (m1 m) rfl hne ⟨rfl, rfl⟩ hm.st hm.cell hm.named hm.hdr hm.cells ha he
      generalize cellsR names names.length 0 u = y at hr
      obtain ⟨v, ok⟩ := y
      cases ok with
      | false => exact hr
      | true =>
        obtain ⟨g1, g2, g3, g4⟩ := hr
        simp only
        rcases g4 with ⟨k1, k2, m2, q2, k3, k4, k5⟩ | ⟨k1, k2, m2, q1, q2, k3, k4, k5⟩
        · rw [k5]
          apply Fin.pre
          rw [← k4]
          have := ih (tellX v 9) m2 k3 (by rw [g2]; exact k2) (by rw [g2]; omega) g1
          rw [g2, g3] at this
          exact this
        · rw [rowsR_end (by rw [g2, k2]; omega), k4]
          refine ⟨?_, ?_⟩
          · show (endX (tellX v 9)).s.length = _
            unfold endX
            split <;> (show (tellX v 9).s.length = _; rw [g2])
          · show if u.closed = true then _ else _
            rw [if_pos k1, k5]
            have hx : finR (tellX v 9, true) = tellX (tellX v 9) 6 := by show endX _ = _; unfold endX; rw [if_pos (by rw [g3]; exact k1)]
            rw [hx]
            refine ⟨?_, g1, fun h => absurd g1 h⟩
            show (tellX v 9).q ++ [ev 6 noT] = u.q ++ q1 ++ (q2 ++ [ev 6 noT])
            rw [k3]
            simp
    · rw [rowsR_end hlt]
      have hl : u.at_ = u.s.length := by omega
      rw [List.drop_of_length_le (by omega)]
      have hend : (endM m).2 = ([ev 6 noT], 0) := by
        unfold endM ev0
        rw [if_neg (by rw [hm.st]; decide), if_neg (by rw [hm.row]; decide), if_pos hm.started]
        rfl
      refine ⟨?_, ?_⟩
      · show (endX u).s.length = _
        unfold endX
        split <;> rfl
      · show if u.closed = true then _ else _
        by_cases hc : u.closed = true
        · rw [if_pos hc, hend]
          have hx : finR (u, true) = tellX u 6 := by show endX _ = _; unfold endX; rw [if_pos hc]
          rw [hx]
          exact ⟨by show u.q ++ [ev 6 noT] = u.q ++ [] ++ [ev 6 noT]; simp, he, fun h => absurd he h⟩
        · rw [if_neg hc]
          have hx : finR (u, true) = u := by show endX _ = _; unfold endX; rw [if_neg hc]
          rw [hx]
          exact ⟨by simp, .inl he⟩
theorem head_run : ∀ (k : Nat) (t : TX) (l : List ByteArray) (m : MS), k + l.length = 9 → l.length ≤ 7 → InR m → m.st = 0 → m.cell = [] → m.named = false → m.hdr = l → m.cells = 0 → t.at_ ≤ t.s.length → t.e = 0 →
    match headR k t l with
    | (u, none) => Fin t.s.length t.closed u t.q (runM (t.s.drop t.at_) m t.at_)
    | (u, some names) => 1 ≤ names.length ∧ names.length ≤ 8 ∧ After t m u names := by
  intro k
  induction k with
  | zero => intro t l m h1 h2; omega
  | succ k ih =>
    intro t l m hf h7 hi hst hc hn hh hk ha he
    have hcr := cell_run ha hi hc hst
    rw [headR]
    generalize cellC t = x at hcr
    obtain ⟨u, o⟩ := x
    cases o with
    | none => exact fin_cell he hcr
    | some o =>
      obtain ⟨i, st, rfl, h2, h3, h4, h5, h6⟩ := hcr
      simp only
      have hi2 : InR ({ m with cell := o, st := st } : MS) := hi
      obtain ⟨hs1, hs2⟩ := sep_step hi2 h4
      have hE : ∀ more, endsM ({ m with cell := o, st := st } : MS) more = ((namesM { m with cell := [], st := 0 } (bs o) more).1, [], (namesM { m with cell := [], st := 0 } (bs o) more).2) := by
        intro more
        unfold endsM
        rw [if_pos (by exact hn)]
      have hend := end_row hi2 h4
      have hhas : hasT m.hdr (bs o) = hasL l (bs o) := by rw [hh]; rfl
      have hlen : (l ++ [bs o]).length = l.length + 1 := by rw [List.length_append, List.length_singleton]
      by_cases c1 : hasL l (bs o) = true
      · rw [if_pos c1]
        have hN : ∀ more, namesM ({ m with cell := [], st := 0 } : MS) (bs o) more = ({ m with cell := [], st := 0 }, 6) := by
          intro more
          unfold namesM
          rw [if_pos (by show hasT m.hdr _ = true; rw [hhas]; exact c1)]
        simp only [hN] at hE
        show Fin _ _ _ _ _
        rw [h6, badT_new (by exact he)]
        rcases h5 with ⟨hl, hcl⟩ | h5 | h5
        · rw [List.drop_of_length_le (by omega)]
          rw [hE] at hend
          simp only at hend
          rw [if_neg (by decide)] at hend
          refine ⟨rfl, ?_⟩
          show if t.closed = true then _ else _
          rw [if_pos hcl, hend]
          exact ⟨by show t.q = t.q ++ [] ++ []; simp, rfl, fun _ => by show (i : Int) = _; rw [hl]⟩
        · have hil : i < t.s.length := isT_at h5
          have hd : t.s.drop i = 44 :: t.s.drop (i + 1) := isT_drop h5
          rw [hd, run_bad (hs1.trans (hE true)) (by decide)]
          exact ⟨rfl, by decide, hil, by simp, rfl, rfl⟩
        · have hil : i < t.s.length := isT_at h5
          have hd : t.s.drop i = 10 :: t.s.drop (i + 1) := isT_drop h5
          rw [hd, run_bad (hs2.trans (hE false)) (by decide)]
          exact ⟨rfl, by decide, hil, by simp, rfl, rfl⟩
      · rw [if_neg c1]
        have c1' : ¬ hasT m.hdr (bs o) = true := by rw [hhas]; exact c1
        have hN1 : namesM ({ m with cell := [], st := 0 } : MS) (bs o) false = ({ m with cell := [], st := 0, hdr := l ++ [bs o], named := true, row := false }, 0) := by
          unfold namesM
          rw [if_neg (by exact c1'), if_neg (by decide)]
          subst hh; rfl
        have hN2 : namesM ({ m with cell := [], st := 0 } : MS) (bs o) true = if 8 ≤ l.length + 1 then ({ m with cell := [], st := 0, hdr := l ++ [bs o] }, 16) else ({ m with cell := [], st := 0, hdr := l ++ [bs o] }, 0) := by
          unfold namesM
          rw [if_neg (by exact c1'), if_pos rfl]
          subst hh; rfl
        by_cases c44 : isT ({ t with at_ := i } : TX) 44 = true
        · have hil : i < t.s.length := isT_at c44
          have hd : t.s.drop i = 44 :: t.s.drop (i + 1) := isT_drop c44
          rw [c44, if_neg (by decide)]
          have hE1 := hE true
          rw [hN2] at hE1
          by_cases c8 : 8 ≤ (l ++ [bs o]).length
          · rw [if_pos c8]
            rw [if_pos (by omega)] at hE1
            show Fin _ _ _ _ _
            rw [h6, badT_new (by exact he), hd, run_bad (hs1.trans hE1) (by show (16 : Int) ≠ 0; decide)]
            exact ⟨rfl, by show (16 : Int) ≠ 0; decide, hil, by simp, rfl, rfl⟩
          · rw [if_neg c8]
            rw [if_neg (by omega)] at hE1
            have hrun : runM (t.s.drop t.at_) m t.at_ = pre [] (runM (t.s.drop (i + 1)) { m with cell := [], st := 0, hdr := l ++ [bs o] } (i + 1)) := by
              rw [h6, hd]
              exact run_go (hs1.trans hE1)
            have hr := ih ({ t with at_ := i } : TX).next (l ++ [bs o]) { m with cell := [], st := 0, hdr := l ++ [bs o] } (by omega) (by omega) hi rfl rfl hn rfl hk hil he
            generalize headR k ({ t with at_ := i } : TX).next (l ++ [bs o]) = y at hr
            obtain ⟨v, ok⟩ := y
            cases ok with
            | none =>
              show Fin _ _ _ _ _
              rw [hrun, pre_nil]
              exact hr
            | some names => exact ⟨hr.1, hr.2.1, After.pre (t' := ({ t with at_ := i } : TX).next) rfl rfl (by show t.at_ ≤ i + 1; omega) (by show t.q = _; simp) hrun hr.2.2⟩
        · have c44' : isT ({ t with at_ := i } : TX) 44 = false := by simpa using c44
          rw [if_pos c44']
          have hE1 := hE false
          rw [hN1] at hE1
          refine ⟨by omega, by omega, he, rfl, rfl, ?_⟩
          rcases h5 with ⟨hl, hcl⟩ | h5 | h5
          · rw [hE1] at hend
            simp only [if_true] at hend
            refine .inr ⟨hcl, by show i + 1 = _; rw [hl], ({ m with cell := o, st := st } : MS), [], [], by show t.q = _; simp, ?_, hend⟩
            rw [h6, List.drop_of_length_le (by omega)]
            rfl
          · exact absurd h5 c44
          · have hil : i < t.s.length := isT_at h5
            have hd : t.s.drop i = 10 :: t.s.drop (i + 1) := isT_drop h5
            refine .inl ⟨by show t.at_ < i + 1; omega, hil, { m with cell := [], st := 0, hdr := l ++ [bs o], named := true, row := false }, [], ⟨hi.1, rfl, rfl, rfl, rfl, rfl, hk⟩, by show t.q = _; simp, ?_⟩
            rw [pre_nil, h6, hd]
            exact run_go (hs2.trans hE1)
theorem spec_run (t : TX) (hq : t.q = []) (he : t.e = 0) (ha : t.at_ = 0) : Fin t.s.length t.closed (specR t) [] (runM t.s MS.new 0) := by
  unfold specR
  by_cases hs : t.s = []
  · rw [if_pos hs]
    by_cases hc : t.closed = true
    · have hL : endX (listX t) = tellX (tellX t 5) 6 := by unfold listX; rw [if_pos (.inr hc)]; unfold endX; rw [if_pos (by exact hc)]
      rw [hL]
      rw [hs]
      refine ⟨by show t.s.length = _; rw [hs], ?_⟩
      show if t.closed = true then _ else _
      rw [if_pos hc]
      exact ⟨by show t.q ++ [ev 5 noT] ++ [ev 6 noT] = _; rw [hq]; rfl, he, fun h => absurd he h⟩
    · have hL : endX (listX t) = t := by unfold listX; rw [if_neg (by intro h; rcases h with h | h; exact h hs; exact hc h)]; unfold endX; rw [if_neg hc]
      rw [hL]
      rw [hs]
      refine ⟨by rw [hs], ?_⟩
      show if t.closed = true then _ else _
      rw [if_neg hc]
      exact ⟨hq, .inl he⟩
  · rw [if_neg hs]
    have hL : listX t = tellX t 5 := by unfold listX; rw [if_pos (.inl hs)]
    have hrun : runM t.s MS.new 0 = pre [ev 5 noT] (runM ((tellX t 5).s.drop (tellX t 5).at_) (m1 MS.new) (tellX t 5).at_) := by
      show _ = pre _ (runM (t.s.drop t.at_) _ t.at_)
      rw [ha, List.drop_zero]
      cases hl : t.s with
      | nil => exact absurd hl hs
      | cons b r => exact run_m1 b r MS.new 0
    rw [hL, hrun]
    apply Fin.pre
    have hr := head_run 9 (tellX t 5) [] (m1 MS.new) rfl (by decide) ⟨rfl, rfl⟩ rfl rfl rfl rfl rfl (by show t.at_ ≤ _; omega) he
    generalize headR 9 (tellX t 5) [] = y at hr
    obtain ⟨u, o⟩ := y
    have hq5 : (tellX t 5).q = [] ++ [ev 5 noT] := by show t.q ++ _ = _; rw [hq]
    cases o with
    | none =>
      show Fin _ _ u _ _
      rw [← hq5]
      exact hr
    | some names =>
      obtain ⟨g0, g1, g2, g3, g4, g5⟩ := hr
      show Fin _ _ (finR (rowsR names (t.s.length + 2) u)) _ _
      rw [← hq5]
      rcases g5 with ⟨k1, k2, m2, q2, k3, k4, k5⟩ | ⟨k1, k2, m2, q1, q2, k3, k4, k5⟩
      · rw [k5]
        apply Fin.pre
        rw [← k4]
        have := rows_run names g0 (t.s.length + 2) u m2 k3 (by rw [g3]; exact k2) (by rw [g3]; show t.s.length - u.at_ < _; omega) g2
        rw [g3, g4] at this
        exact this
      · rw [rowsR_end (by rw [g3, k2]; show ¬ _ + 1 < _; omega), k4]
        refine ⟨?_, ?_⟩
        · show (endX u).s.length = _
          unfold endX
          split <;> (show u.s.length = _; rw [g3]; rfl)
        · show if t.closed = true then _ else _
          have k1' : t.closed = true := k1
          rw [if_pos k1', k5]
          have hx : finR (u, true) = tellX u 6 := by show endX _ = _; unfold endX; rw [if_pos (by rw [g4]; exact k1)]
          rw [hx]
          refine ⟨?_, g2, fun h => absurd g2 h⟩
          show u.q ++ [ev 6 noT] = _ ++ q1 ++ (q2 ++ [ev 6 noT])
          rw [k3]
          simp
end Go.Proofs.Ytalaedpiimdcbaa.Tx

namespace Go.Proofs.Ytalaedpiimdcbaa.Tx
open Go Go.Lib Go.RowKit Go.Proofs.YtalaedpiimdcbaaW.PrintWords Go.Proofs.YtalaedpiimdcbaaW.PrintLast Go.Proofs.Ytalaedpiimdcbaa.Own Go.Proofs.Ytalaedpiimdcbaa.Hp Go.Proofs.Ytalaedpiimdcbaa.Cr Go.Proofs.Ytalaedpiimdcbaa.Dl
set_option linter.unusedVariables false
set_option linter.unusedSimpArgs false
/-- What a cell's reader leaves as it was. -/
theorem cell_keeps {t : TX} (ha : t.at_ ≤ t.s.length) (he : t.e = 0) : (cellC t).1.s = t.s ∧ (cellC t).1.closed = t.closed ∧ (cellC t).1.q = t.q ∧ (cellC t).1.at_ ≤ t.s.length ∧ ((cellC t).2.isSome = true → (cellC t).1.e = 0 ∧ t.at_ ≤ (cellC t).1.at_) := by
  have h := cell_run (m := m1 MS.new) ha ⟨rfl, rfl⟩ rfl rfl
  generalize cellC t = x at h ⊢
  obtain ⟨u, o⟩ := x
  cases o with
  | some o =>
    obtain ⟨i, st, rfl, h2, h3, h4, h5, h6⟩ := h
    exact ⟨rfl, rfl, rfl, h3, fun _ => ⟨he, h2⟩⟩
  | none =>
    rcases h with ⟨e, i, m2, h1, rfl, h3, h4⟩ | ⟨m2, rfl, h2, h3⟩
    · rw [badT_new (t := { t with at_ := i }) he]
      exact ⟨rfl, rfl, rfl, by show i ≤ _; omega, fun h => by cases h⟩
    · rw [badT_new (t := { t with at_ := t.s.length }) he]
      exact ⟨rfl, rfl, rfl, Nat.le_refl _, fun h => by cases h⟩
theorem TAt.chS {F G : Nat → Prop} {w w1 : World} {g : Nat} {t : TX} (h : TAt F w g t) (hc : Ch (fun t => t = some 9) G w w1) : TAt F w1 g t := by
  obtain ⟨lv, h1, h2⟩ := h.core
  exact ⟨h.fg, ⟨lv, hc.blk h1 (fun hx => absurd hx.2 (by decide)), h2.ch hc (by decide)⟩, h.len⟩
def HeadPost (F : Nat → Prop) (w : World) (g : Nat) (r : TX × Option (List ByteArray)) (e : Ending) (w' : World) : Prop :=
  ∃ v, e = .returned (.tuple #[v, .bool r.2.isSome]) ∧ (∀ names, r.2 = some names → Row (fun k => w.heap.size ≤ k) w' 9 1 v names.length (stC names)) ∧ TAt F w' g r.1 ∧ Ch txT F w w'
set_option maxHeartbeats 32000000 in
set_option maxRecDepth 100000 in
theorem head_calls {F : Nat → Prop} {w : World} {g : Nat} {t : TX} (h : TAt F w g t) (hF : ∀ k, w.heap.size ≤ k → F k) (ha : t.at_ ≤ t.s.length) (he : t.e = 0) :
    Calls Try.prog 29 #[.pointer (some ⟨g, 0, none⟩)] w (HeadPost F w g (headR 9 t [])) := by
  have H := Aside0.mk h
  have HF := Aside0.mk hF
  have HA := Aside0.mk ha
  have HE := Aside0.mk he
  clear h hF ha he
  go_enter Try.func29, Try.ntmps29
  go_wp2
  go_loopg [4] (10) (fun gk v4 wr => ∃ (k : Nat) (u : TX) (l : List ByteArray), Aside0 (headR 9 t [] = headR k u l) ∧ Aside0 (k + l.length = 9 ∧ l.length ≤ 7 ∧ k < gk) ∧ Aside0 (u.at_ ≤ u.s.length ∧ u.e = 0) ∧ Aside0 (TAt F wr g u) ∧ Aside0 (Row (fun k => w.heap.size ≤ k) wr 9 1 v4 l.length (stC l)) ∧ Aside0 (Ch txT F w wr))
  case atStart => exact ⟨9, t, [], ⟨rfl⟩, ⟨by decide, by decide, by omega⟩, ⟨HA.out, HE.out⟩, H, ⟨Row.nil _ _ _ _⟩, ⟨Ch.refl _ _ _⟩⟩
  case round =>
    obtain ⟨k, u, l, P1, P2, P3, P4, P5, P6⟩ := hrel
    have hp2 := P2.out
    cases k with
    | zero => omega
    | succ k =>
    cases gk with
    | zero => omega
    | succ k1 =>
    clear hp2
    have HK := Aside0.mk (cell_keeps P3.out.1 P3.out.2)
    obtain ⟨⟨x, o⟩, hu⟩ : ∃ r, cellC u = r := ⟨_, rfl⟩
    have HU := Aside0.mk hu
    have HK2 := Aside0.mk (hu ▸ HK.out)
    clear hu
    cases o with
    | none =>
      have HR := Aside0.mk (show headR 9 t [] = (x, none) by rw [P1.out, headR, HU.out])
      go_wp2_with (go_at_call 30; refine (cell_calls P4.out (fun k hk => HF.out k (Nat.le_trans P6.out.size hk))).mono ?_; rintro e w3 ⟨rfl, ht, hc⟩; rw [HU.out] at ht ⊢; have T3 := Aside0.mk ht; have C3 := Aside0.mk (P6.out.trans (hc.mono (fun _ h => h) (fun _ h => ext_of h))); clear ht hc)
      go_ret2
      unfold HeadPost
      rw [HR.out]
      exact ⟨_, rfl, (fun _ h => by cases h), T3.out, C3.out⟩
    | some y =>
      cases hh : hasL l (bs y) with
      | true =>
        have HH := Aside0.mk hh
        have HR := Aside0.mk (show headR 9 t [] = (badT x 6 x.at_, none) by rw [P1.out, headR, HU.out]; simp only; rw [if_pos hh])
        clear hh
        go_wp2_with (first
          | (go_at_call 30; refine (cell_calls P4.out (fun k hk => HF.out k (Nat.le_trans P6.out.size hk))).mono ?_; rintro e w3 ⟨rfl, ht, hc⟩; rw [HU.out] at ht ⊢; have T3 := Aside0.mk ht; have C3 := Aside0.mk (P6.out.trans (hc.mono (fun _ h => h) (fun _ h => ext_of h))); have R3 := Aside0.mk (P5.out.ch hc (by unfold txT; decide)); have k1c : w3.cell? ⟨g, 1, none⟩ = some (.int .i64 x.at_) := ht.cells.2.1; clear ht hc)
          | (go_at_call 35; refine (has_calls (bs y) R3.out (by have := P2.out; omega)).mono ?_; rintro e w4 ⟨rfl, rfl⟩; rw [HH.out])
          | (go_at_call 32; refine (bad_calls 6 x.at_ T3.out).mono ?_; rintro e w5 ⟨rfl, ht, hc⟩; have T5 := Aside0.mk ht; have C5 := Aside0.mk (C3.out.trans (hc.mono (fun _ h => h) (fun _ h => ext_of h))); clear ht hc k1c))
        go_ret2
        unfold HeadPost
        rw [HR.out]
        exact ⟨_, rfl, (fun _ h => by cases h), T5.out, C5.out⟩
      | false =>
        have HH := Aside0.mk hh
        have HR0 := Aside0.mk (show headR 9 t [] = if isT x 44 = false then (x.next, some (l ++ [bs y])) else if 8 ≤ (l ++ [bs y]).length then (badT x 16 x.at_, none) else headR k x.next (l ++ [bs y]) by rw [P1.out, headR, HU.out]; simp only; rw [if_neg (by rw [hh]; decide)])
        clear hh
        cases hi : isT x 44 with
        | false =>
          have HI := Aside0.mk hi
          have HR := Aside0.mk (HR0.out.trans (if_pos hi))
          clear hi
          go_wp2_with (first
            | (go_at_call 30; refine (cell_calls P4.out (fun k hk => HF.out k (Nat.le_trans P6.out.size hk))).mono ?_; rintro e w3 ⟨rfl, ht, hc⟩; rw [HU.out] at ht ⊢; have T3 := Aside0.mk ht; have C3 := Aside0.mk (P6.out.trans (hc.mono (fun _ h => h) (fun _ h => ext_of h))); have R3 := Aside0.mk (P5.out.ch hc (by unfold txT; decide)); clear ht hc)
            | (go_at_call 35; refine (has_calls (bs y) R3.out (by have := P2.out; omega)).mono ?_; rintro e w4 ⟨rfl, rfl⟩; rw [HH.out])
            | ((with_reducible refine gate_builtin (b := .append) (xs := #[.tmp 25, .tmp 27]) rfl ?_); at_builtin; refine row_append rfl (.tmp 25) (.tmp 27) 53 9 (.string ⟨#[]⟩) 1 16 rfl Try.underlying53 infoStr rfl (by decide) _ l.length (stC l) [.string (bs y)] rfl rfl rfl (by simp [Value.oneCell']) R3.out (by have := P2.out; omega) (by have := P2.out; unfold maxLen; omega) ?_; intro v7 w7 hr7 hc7; have R7 := Aside0.mk hr7; have T7 := Aside0.mk (T3.out.chS hc7); have C7 := Aside0.mk hc7; clear hr7 hc7)
            | (go_at_call 31; refine (is_q 44 _ rfl T7.out HI.out).mono ?_; rintro e w8 ⟨rfl, n8, rfl⟩; have D8 := Aside0.mk (pw_below_drewN (Below.refl w7.heap.size w7) n8); have T8 := Aside0.mk (T7.out.below D8.out); have R8 := Aside0.mk (R7.out.below D8.out); have C8 := Aside0.mk (C7.out.trans (Ch.of_below D8.out)); generalize w7.drewN n8 = w8 at D8 T8 R8 C8 ⊢; have k1c : w8.cell? ⟨g, 1, none⟩ = some (.int .i64 x.at_) := T8.out.cells.2.1; have tw : wrap64 ((x.at_ : Int) + 1) = (x.at_ : Int) + 1 := w64 (by omega) (by have := T8.out.len.2.1; omega); have f1 := blk_frozen T8.out.core.choose_spec.1 1))
          go_ret2
          obtain ⟨q1, q2⟩ := T8.out.step2 (by have h1 := HK2.out.2.2.2.1; have h2 := P4.out.len.1; have h3 : x.at_ ≤ u.s.length := h1; omega)
          have hs := C3.out.size
          unfold HeadPost
          rw [HR.out]
          refine ⟨_, rfl, fun names h => ?_, q1, ?_⟩
          · injection h with h
            subst h
            rw [stC_one, List.length_append, List.length_singleton]
            exact (R8.out.mono (fun k hk => by rcases hk with hk | hk; exact hk; exact Nat.le_trans hs hk)).ch q2 (by unfold txT; decide)
          · exact (ch_low C3.out (C8.out.below (B := w.heap.size) (fun _ h => h) hs)).trans (q2.mono (fun _ h => h) (fun _ h => ext_of h))
        | true =>
          have HI := Aside0.mk hi
          have HR1 := Aside0.mk (HR0.out.trans (if_neg (by rw [hi]; decide)))
          clear hi
          by_cases h8 : 8 ≤ (l ++ [bs y]).length
          · have HR := Aside0.mk (HR1.out.trans (if_pos h8))
            rw [List.length_append, List.length_singleton] at h8
            have z1 : decide ((8 : Int) ≤ (l.length : Int) + 1) = true := decide_eq_true (by omega)
            have z2 : decide (8 ≤ l.length + 1) = true := decide_eq_true h8
            have z3 : decide ((8 : Int) ≤ ((l.length + 1 : Nat) : Int)) = true := decide_eq_true (by omega)
            clear h8
            go_wp2_with (first
              | (go_at_call 30; refine (cell_calls P4.out (fun k hk => HF.out k (Nat.le_trans P6.out.size hk))).mono ?_; rintro e w3 ⟨rfl, ht, hc⟩; rw [HU.out] at ht ⊢; have T3 := Aside0.mk ht; have C3 := Aside0.mk (P6.out.trans (hc.mono (fun _ h => h) (fun _ h => ext_of h))); have R3 := Aside0.mk (P5.out.ch hc (by unfold txT; decide)); clear ht hc)
              | (go_at_call 35; refine (has_calls (bs y) R3.out (by have := P2.out; omega)).mono ?_; rintro e w4 ⟨rfl, rfl⟩; rw [HH.out])
              | ((with_reducible refine gate_builtin (b := .append) (xs := #[.tmp 25, .tmp 27]) rfl ?_); at_builtin; refine row_append rfl (.tmp 25) (.tmp 27) 53 9 (.string ⟨#[]⟩) 1 16 rfl Try.underlying53 infoStr rfl (by decide) _ l.length (stC l) [.string (bs y)] rfl rfl rfl (by simp [Value.oneCell']) R3.out (by have := P2.out; omega) (by have := P2.out; unfold maxLen; omega) ?_; intro v7 w7 hr7 hc7; have R7 := Aside0.mk hr7; have T7 := Aside0.mk (T3.out.chS hc7); have C7 := Aside0.mk hc7; obtain ⟨A7, n7, hv7, _, _⟩ := hr7.slice; clear hr7 hc7; subst hv7)
              | (go_at_call 31; refine (is_q 44 _ rfl T7.out HI.out).mono ?_; rintro e w8 ⟨rfl, n8, rfl⟩; have D8 := Aside0.mk (pw_below_drewN (Below.refl w7.heap.size w7) n8); have T8 := Aside0.mk (T7.out.below D8.out); have C8 := Aside0.mk (C7.out.trans (Ch.of_below D8.out)); generalize w7.drewN n8 = w8 at D8 T8 C8 ⊢; have k1c : w8.cell? ⟨g, 1, none⟩ = some (.int .i64 x.at_) := T8.out.cells.2.1)
              | (go_at_call 32; refine (bad_calls 16 x.at_ T8.out).mono ?_; rintro e w9 ⟨rfl, ht, hc⟩; have T9 := Aside0.mk ht; have C9 := Aside0.mk hc; clear ht hc k1c))
            go_ret2
            have hs := C3.out.size
            unfold HeadPost
            rw [HR.out]
            exact ⟨_, rfl, (fun _ h => by cases h), T9.out, (ch_low C3.out (C8.out.below (B := w.heap.size) (fun _ h => h) hs)).trans (C9.out.mono (fun _ h => h) (fun _ h => ext_of h))⟩
          · have HR := Aside0.mk (HR1.out.trans (if_neg h8))
            rw [List.length_append, List.length_singleton] at h8
            have H8 := Aside0.mk h8
            have z1 : decide ((8 : Int) ≤ (l.length : Int) + 1) = false := decide_eq_false (by omega)
            have z2 : decide (8 ≤ l.length + 1) = false := decide_eq_false h8
            have z3 : decide ((8 : Int) ≤ ((l.length + 1 : Nat) : Int)) = false := decide_eq_false (by omega)
            clear h8
            go_wp2_with (first
              | (go_at_call 30; refine (cell_calls P4.out (fun k hk => HF.out k (Nat.le_trans P6.out.size hk))).mono ?_; rintro e w3 ⟨rfl, ht, hc⟩; rw [HU.out] at ht ⊢; have T3 := Aside0.mk ht; have C3 := Aside0.mk (P6.out.trans (hc.mono (fun _ h => h) (fun _ h => ext_of h))); have R3 := Aside0.mk (P5.out.ch hc (by unfold txT; decide)); clear ht hc)
              | (go_at_call 35; refine (has_calls (bs y) R3.out (by have := P2.out; omega)).mono ?_; rintro e w4 ⟨rfl, rfl⟩; rw [HH.out])
              | ((with_reducible refine gate_builtin (b := .append) (xs := #[.tmp 25, .tmp 27]) rfl ?_); at_builtin; refine row_append rfl (.tmp 25) (.tmp 27) 53 9 (.string ⟨#[]⟩) 1 16 rfl Try.underlying53 infoStr rfl (by decide) _ l.length (stC l) [.string (bs y)] rfl rfl rfl (by simp [Value.oneCell']) R3.out (by have := P2.out; omega) (by have := P2.out; unfold maxLen; omega) ?_; intro v7 w7 hr7 hc7; have R7 := Aside0.mk hr7; have T7 := Aside0.mk (T3.out.chS hc7); have C7 := Aside0.mk hc7; obtain ⟨A7, n7, hv7, _, _⟩ := hr7.slice; clear hr7 hc7; subst hv7)
              | (go_at_call 31; refine (is_q 44 _ rfl T7.out HI.out).mono ?_; rintro e w8 ⟨rfl, n8, rfl⟩; have D8 := Aside0.mk (pw_below_drewN (Below.refl w7.heap.size w7) n8); have T8 := Aside0.mk (T7.out.below D8.out); have R8 := Aside0.mk (R7.out.below D8.out); have C8 := Aside0.mk (C7.out.trans (Ch.of_below D8.out)); generalize w7.drewN n8 = w8 at D8 T8 R8 C8 ⊢; have k1c : w8.cell? ⟨g, 1, none⟩ = some (.int .i64 x.at_) := T8.out.cells.2.1; have tw : wrap64 ((x.at_ : Int) + 1) = (x.at_ : Int) + 1 := w64 (by omega) (by have := T8.out.len.2.1; omega); have f1 := blk_frozen T8.out.core.choose_spec.1 1))
            go_roundg k1
            case measure => exact Nat.lt_succ_self _
            case rel =>
              have hlt := isT_at HI.out
              obtain ⟨q1, q2⟩ := T8.out.step hlt
              have hs := C3.out.size
              have hk2 := HK2.out.2.2.2.2 rfl
              refine ⟨k, x.next, l ++ [bs y], HR, ⟨by have := P2.out; have := H8.out; rw [List.length_append, List.length_singleton]; omega⟩, ⟨hlt, hk2.1⟩, ⟨q1⟩, ⟨?_⟩, ⟨?_⟩⟩
              · rw [stC_one, List.length_append, List.length_singleton]
                exact (R8.out.mono (fun k hk => by rcases hk with hk | hk; exact hk; exact Nat.le_trans hs hk)).ch q2 (by unfold txT; decide)
              · exact (ch_low C3.out (C8.out.below (B := w.heap.size) (fun _ h => h) hs)).trans (q2.mono (fun _ h => h) (fun _ h => ext_of h))
end Go.Proofs.Ytalaedpiimdcbaa.Tx
