/- delim: names and ends, walked. -/
import Derived.Test.YtalaedpiimdcbaaDelM
import Derived.Test.YtalaedpiimdcbaaOwnStr
import Derived.Deep.LoopGhost
import Derived.Deep.QuietTactic
import Derived.BigQuiet
namespace Go.Proofs.Ytalaedpiimdcbaa.Dl
open Go Go.Lib Go.RowKit Go.Proofs.YtalaedpiimdcbaaW.PrintWords Go.Proofs.YtalaedpiimdcbaaW.PrintLast Go.Proofs.Ytalaedpiimdcbaa.Own Go.Proofs.Ytalaedpiimdcbaa.Hp Go.Proofs.Ytalaedpiimdcbaa.Srcw Go.Proofs.Ytalaedpiimdcbaa.Cr
set_option linter.unusedVariables false
set_option linter.unusedSimpArgs false
theorem stC_get (l : List ByteArray) (i : Nat) (h : i < l.length) : (stC l)[i]? = some (.string (l[i])) := by
  unfold stC
  rw [List.getElem?_map, List.getElem?_eq_getElem h]
  rfl
theorem hasT_take_succ {l : List ByteArray} {s : ByteArray} {i : Nat} (h : i < l.length) (h0 : hasT (l.take i) s = false) (hne : l[i] ≠ s) : hasT (l.take (i + 1)) s = false := by
  rw [List.take_succ_eq_append_getElem h]
  unfold hasT at *
  rw [List.any_append, h0, List.any_cons, List.any_nil, decide_eq_false hne]
  rfl
theorem hasT_at {l : List ByteArray} {s : ByteArray} {i : Nat} (h : i < l.length) (he : l[i] = s) : hasT l s = true := by
  unfold hasT
  rw [List.any_eq_true]
  exact ⟨l[i], List.getElem_mem h, decide_eq_true he⟩

set_option maxHeartbeats 4000000 in
set_option maxRecDepth 100000 in
theorem index_calls {F : Nat → Prop} {w : World} {A : Option Addr} {n c : Nat} {l : List ByteArray} (s : ByteArray) (hr : Row F w 9 1 (.slice A n c) l.length (stC l)) (hl : l.length ≤ 1000000) :
    Calls Try.prog 64 #[.slice A n c, .string s] w fun e w' => ∃ x : Int, e = .returned (.int .i64 x) ∧ ((hasT l s = true ∧ 0 ≤ x) ∨ (hasT l s = false ∧ x = -1)) ∧ Drawn0 w w' := by
  have HR := Aside0.mk hr
  obtain ⟨A', c', hv, _, _⟩ := hr.slice
  injection hv with hv1 hv2 hv3
  subst hv1; subst hv2; subst hv3
  clear hr
  go_enter Try.func64, Try.ntmps64
  go_wp2
  go_loopg [8] (l.length + 1) (fun gk v8 wr => ∃ (i : Nat), v8 = .int .i64 i ∧ Aside0 (i ≤ l.length) ∧ Aside0 (l.length - i < gk) ∧ Aside0 (hasT (l.take i) s = false) ∧ Aside0 (Drawn0 w wr))
  case atStart => exact ⟨0, rfl, ⟨Nat.zero_le _⟩, ⟨by omega⟩, ⟨by rw [List.take_zero]; rfl⟩, ⟨Drawn0.refl _⟩⟩
  case round =>
    obtain ⟨i, rfl, P1, P2, P3, P4⟩ := hrel
    cases gk with
    | zero => exact absurd P2.out (by omega)
    | succ k1 =>
    have hp1 := P1.out
    by_cases hlt : i < l.length
    · obtain ⟨b, o, c2, hv, _, _, hcell, _⟩ := (HR.out.below P4.out.below).open_ (by omega)
      injection hv with hv1 hv2 hv3
      subst hv1
      subst hv3
      clear hv2
      have d0 := hcell i _ (stC_get l i hlt)
      have t1 : decide ((i : Int) < (l.length : Int)) = true := decide_eq_true (by omega)
      have t2 : decide (i < l.length) = true := decide_eq_true hlt
      have tw : wrap64 ((i : Int) + 1) = (i : Int) + 1 := w64 (by omega) (by omega)
      obtain ⟨x, hx⟩ : ∃ x, l[i] = x := ⟨_, rfl⟩
      rw [hx] at d0
      have HX := Aside0.mk hx
      clear hcell hx
      by_cases hn : s = x
      · have q1 := seq_true hn
        have q2 := sdec_true hn
        have HN := Aside0.mk hn
        clear hn
        go_wp2
        go_ret
        exact ⟨_, rfl, .inl ⟨hasT_at hlt (by rw [HX.out]; exact HN.out.symm), by omega⟩, P4.out⟩
      · have q1 := seq_false hn
        have q2 := sdec_false hn
        have HN := Aside0.mk hn
        clear hn
        go_wp2
        go_roundg k1
        case measure => have := P2.out; omega
        case rel => exact ⟨i + 1, by go_num, ⟨by omega⟩, ⟨by have := P2.out; omega⟩, ⟨hasT_take_succ hlt P3.out (by rw [HX.out]; exact fun h => HN.out h.symm)⟩, P4⟩
    · have hi : i = l.length := by omega
      have t1 : decide ((i : Int) < (l.length : Int)) = false := decide_eq_false (by omega)
      have t2 : decide (i < l.length) = false := decide_eq_false (by omega)
      have HF := Aside0.mk (show hasT l s = false by have := P3.out; rwa [hi, List.take_length] at this)
      clear hi
      go_wp2
      go_ret
      exact ⟨_, rfl, .inr ⟨HF.out, rfl⟩, P4.out⟩
set_option maxHeartbeats 4000000 in
set_option maxRecDepth 100000 in
theorem contains_calls {F : Nat → Prop} {w : World} {A : Option Addr} {n c : Nat} {l : List ByteArray} (s : ByteArray) (hr : Row F w 9 1 (.slice A n c) l.length (stC l)) (hl : l.length ≤ 1000000) :
    Calls Try.prog 63 #[.slice A n c, .string s] w fun e w' => e = .returned (.bool (hasT l s)) ∧ Drawn0 w w' := by
  have HR := Aside0.mk hr
  obtain ⟨q, hq⟩ : ∃ q, hasT l s = q := ⟨_, rfl⟩
  have HQ := Aside0.mk hq
  rw [hq]
  clear hr hq
  go_enter Try.func63, Try.ntmps63
  go_wp2_with fail
  refine (index_calls s HR.out hl).mono ?_
  rintro e w1 ⟨x, rfl, hx, hw⟩
  have HW := Aside0.mk hw
  clear hw
  rw [HQ.out] at hx
  rcases hx with ⟨rfl, h2⟩ | ⟨rfl, rfl⟩
  · have t1 : decide (0 ≤ x) = true := decide_eq_true h2
    go_wp2
    go_ret
    exact ⟨rfl, HW.out⟩
  · go_wp2
    go_ret
    exact ⟨rfl, HW.out⟩
theorem hdr_added {F : Nat → Prop} {w w1 : World} {gM : Nat} {m : MS} {s : ByteArray} {hv cv : Value} {A : Option Addr} {n : Nat} (hF : F gM) (h1 : w1.heap[gM]? = some (.cells (machCells hv cv m) 55 (0, 0)))
    (hr : Row (ext F w) w1 9 1 (.slice A (m.hdr.length + 1) n) (m.hdr.length + 1) (stC m.hdr ++ [.string s])) (hc : Ch (fun t => t = some 9) F w w1) (hb : Row F w1 5 1 cv m.cell.length (u8C m.cell)) :
    IsM (ext F w) (w1.setCell ⟨gM, 3, none⟩ (.slice A (m.hdr.length + 1) n)) gM { m with hdr := m.hdr ++ [s] } ∧ Ch machT F w (w1.setCell ⟨gM, 3, none⟩ (.slice A (m.hdr.length + 1) n)) := by
  have hs : Ch (fun t => t = some 55) (ext F w) w1 (w1.setCell ⟨gM, 3, none⟩ (.slice A (m.hdr.length + 1) n)) := Ch.set (T := fun t => t = some 55) h1 (ext_of hF) rfl 3 _
  refine ⟨⟨ext_of hF, _, _, blk_put (cs' := machCells (.slice A (m.hdr.length + 1) n) cv { m with hdr := m.hdr ++ [s] }) h1 3 _ rfl, ?_, (hb.mono (fun _ h => ext_of h)).ch hs (by decide)⟩, (hc.mono (fun t ht => by rw [ht]; exact not_coreS) (fun _ h => h)).trans (hs.mono (fun t ht => by rw [ht]; exact not_coreM) (fun _ h => h))⟩
  show Row _ _ _ 1 _ (m.hdr ++ [s]).length (stC (m.hdr ++ [s]))
  rw [stC_one, List.length_append, List.length_singleton]
  exact hr.ch hs (by decide)

set_option maxHeartbeats 8000000 in
set_option maxRecDepth 100000 in
theorem names_calls {F : Nat → Prop} {w : World} {gM : Nat} {m : MS} (s : ByteArray) (more : Bool) (h : IsM F w gM m) (hl : m.hdr.length ≤ 8) :
    Calls Try.prog 62 #[ptr gM, .string s, .bool more] w fun e w' => e = .returned (.int .i64 (namesM m s more).2) ∧ IsM (ext F w) w' gM (namesM m s more).1 ∧ Ch machT F w w' := by
  have H := Aside0.mk h
  have HL := Aside0.mk hl
  obtain ⟨hv, cv, h1, h2, h3⟩ := h.mach
  have c3 : w.cell? ⟨gM, 3, none⟩ = some hv := (blk_cell h1 3).trans rfl
  obtain ⟨A3, n3, hv3, _, _⟩ := h2.slice
  have H1 := Aside0.mk h1
  have H2 := Aside0.mk h2
  have H3 := Aside0.mk h3
  clear h h1 h2 h3 hl
  subst hv3
  cases hq : hasT m.hdr s with
  | true =>
    have HQ := Aside0.mk hq
    have HG := Aside0.mk (show namesM m s more = (m, 6) by unfold namesM; rw [if_pos hq])
    clear hq
    go_enter Try.func62, Try.ntmps62
    go_wp2_with (go_at_call 63; refine (contains_calls s H2.out (by have := HL.out; omega)).mono ?_; rintro e w1 ⟨rfl, hw⟩; rw [HQ.out]; have W1 := Aside0.mk hw.below; clear hw)
    go_ret
    rw [HG.out]
    exact ⟨rfl, (H.out.below W1.out).mono (fun _ h => ext_of h), Ch.of_below W1.out⟩
  | false =>
    have HQ := Aside0.mk hq
    have hq2 : ¬ hasT m.hdr s = true := by rw [hq]; decide
    cases more with
    | true =>
      by_cases h8 : 8 ≤ m.hdr.length + 1
      · have HG := Aside0.mk (show namesM m s true = ({ m with hdr := m.hdr ++ [s] }, 16) by unfold namesM; rw [if_neg hq2, if_pos rfl, if_pos h8])
        have t1 : decide (8 ≤ (m.hdr.length : Int) + 1) = true := decide_eq_true (by omega)
        have t2 : decide (7 ≤ (m.hdr.length : Int)) = true := decide_eq_true (by omega)
        clear hq hq2 h8
        go_enter Try.func62, Try.ntmps62
        go_wp2_with (first
          | (go_at_call 63; refine (contains_calls s H2.out (by have := HL.out; omega)).mono ?_; rintro e w1 ⟨rfl, hw⟩; rw [HQ.out]; have W1 := Aside0.mk hw.below; clear hw c3; have c3 : w1.cell? ⟨gM, 3, none⟩ = some _ := (blk_cell ((W1.out.block gM H.out.lt).trans H1.out) 3).trans rfl)
          | ((with_reducible refine gate_builtin (b := .append) (xs := #[.tmp 17, .tmp 19]) rfl ?_); at_builtin; refine row_append rfl (.tmp 17) (.tmp 19) 53 9 (.string ⟨#[]⟩) 1 16 rfl Try.underlying53 infoStr rfl (by decide) _ m.hdr.length (stC m.hdr) [.string s] rfl rfl rfl (by simp [Value.oneCell']) (H2.out.below W1.out) (by have := HL.out; omega) (by have := HL.out; unfold maxLen; omega) ?_; intro v2 w2 hr hc; have R1 := Aside0.mk (hr.mono (F' := ext F w) (fun k hk => by rcases hk with hk | hk; exact .inl hk; exact .inr (Nat.le_trans W1.out.size hk))); have C1 := Aside0.mk ((Ch.of_below W1.out : Ch (fun t => t = some 9) F w w1).trans (hc.mono (fun _ h => h) (fun _ h => ext_of h))); have G1 := Aside0.mk (hc.blk ((W1.out.block gM H.out.lt).trans H1.out) (fun h => absurd h.2 (by decide))); have S1 := Aside0.mk ((H3.out.below W1.out).ch hc (by decide)); clear c3; have c3 : w2.cell? ⟨gM, 3, none⟩ = some _ := (blk_cell G1.out 3).trans rfl; have f3 := blk_frozen G1.out 3; obtain ⟨A4, n4, hv4, _, _⟩ := hr.slice; clear hr hc; subst hv4; have MM := Aside0.mk (hdr_added H.out.fM G1.out R1.out C1.out S1.out)))
        go_ret
        rw [HG.out]
        exact ⟨rfl, MM.out.1, MM.out.2⟩
      · have HG := Aside0.mk (show namesM m s true = ({ m with hdr := m.hdr ++ [s] }, 0) by unfold namesM; rw [if_neg hq2, if_pos rfl, if_neg h8])
        have t1 : decide (8 ≤ (m.hdr.length : Int) + 1) = false := decide_eq_false (by omega)
        have t2 : decide (7 ≤ (m.hdr.length : Int)) = false := decide_eq_false (by omega)
        clear hq hq2 h8
        go_enter Try.func62, Try.ntmps62
        go_wp2_with (first
          | (go_at_call 63; refine (contains_calls s H2.out (by have := HL.out; omega)).mono ?_; rintro e w1 ⟨rfl, hw⟩; rw [HQ.out]; have W1 := Aside0.mk hw.below; clear hw c3; have c3 : w1.cell? ⟨gM, 3, none⟩ = some _ := (blk_cell ((W1.out.block gM H.out.lt).trans H1.out) 3).trans rfl)
          | ((with_reducible refine gate_builtin (b := .append) (xs := #[.tmp 17, .tmp 19]) rfl ?_); at_builtin; refine row_append rfl (.tmp 17) (.tmp 19) 53 9 (.string ⟨#[]⟩) 1 16 rfl Try.underlying53 infoStr rfl (by decide) _ m.hdr.length (stC m.hdr) [.string s] rfl rfl rfl (by simp [Value.oneCell']) (H2.out.below W1.out) (by have := HL.out; omega) (by have := HL.out; unfold maxLen; omega) ?_; intro v2 w2 hr hc; have R1 := Aside0.mk (hr.mono (F' := ext F w) (fun k hk => by rcases hk with hk | hk; exact .inl hk; exact .inr (Nat.le_trans W1.out.size hk))); have C1 := Aside0.mk ((Ch.of_below W1.out : Ch (fun t => t = some 9) F w w1).trans (hc.mono (fun _ h => h) (fun _ h => ext_of h))); have G1 := Aside0.mk (hc.blk ((W1.out.block gM H.out.lt).trans H1.out) (fun h => absurd h.2 (by decide))); have S1 := Aside0.mk ((H3.out.below W1.out).ch hc (by decide)); clear c3; have c3 : w2.cell? ⟨gM, 3, none⟩ = some _ := (blk_cell G1.out 3).trans rfl; have f3 := blk_frozen G1.out 3; obtain ⟨A4, n4, hv4, _, _⟩ := hr.slice; clear hr hc; subst hv4; have MM := Aside0.mk (hdr_added H.out.fM G1.out R1.out C1.out S1.out)))
        go_ret
        rw [HG.out]
        exact ⟨rfl, MM.out.1, MM.out.2⟩
    | false =>
      have HG := Aside0.mk (show namesM m s false = ({ m with hdr := m.hdr ++ [s], named := true, row := false }, 0) by unfold namesM; rw [if_neg hq2, if_neg (by decide)])
      clear hq hq2
      go_enter Try.func62, Try.ntmps62
      go_wp2_with (first
        | (go_at_call 63; refine (contains_calls s H2.out (by have := HL.out; omega)).mono ?_; rintro e w1 ⟨rfl, hw⟩; rw [HQ.out]; have W1 := Aside0.mk hw.below; clear hw c3; have c3 : w1.cell? ⟨gM, 3, none⟩ = some _ := (blk_cell ((W1.out.block gM H.out.lt).trans H1.out) 3).trans rfl)
        | ((with_reducible refine gate_builtin (b := .append) (xs := #[.tmp 17, .tmp 19]) rfl ?_); at_builtin; refine row_append rfl (.tmp 17) (.tmp 19) 53 9 (.string ⟨#[]⟩) 1 16 rfl Try.underlying53 infoStr rfl (by decide) _ m.hdr.length (stC m.hdr) [.string s] rfl rfl rfl (by simp [Value.oneCell']) (H2.out.below W1.out) (by have := HL.out; omega) (by have := HL.out; unfold maxLen; omega) ?_; intro v2 w2 hr hc; have R1 := Aside0.mk (hr.mono (F' := ext F w) (fun k hk => by rcases hk with hk | hk; exact .inl hk; exact .inr (Nat.le_trans W1.out.size hk))); have C1 := Aside0.mk ((Ch.of_below W1.out : Ch (fun t => t = some 9) F w w1).trans (hc.mono (fun _ h => h) (fun _ h => ext_of h))); have G1 := Aside0.mk (hc.blk ((W1.out.block gM H.out.lt).trans H1.out) (fun h => absurd h.2 (by decide))); have S1 := Aside0.mk ((H3.out.below W1.out).ch hc (by decide)); clear c3; have c3 : w2.cell? ⟨gM, 3, none⟩ = some _ := (blk_cell G1.out 3).trans rfl; have f3 := blk_frozen G1.out 3; obtain ⟨A4, n4, hv4, _, _⟩ := hr.slice; clear hr hc; subst hv4; have MM := hdr_added H.out.fM G1.out R1.out C1.out S1.out; obtain ⟨hv5, cv5, g5, _⟩ := MM.1.mach; have c4 := (blk_cell g5 4).trans rfl; have f4 := blk_frozen g5 4; have M2 := MM.1.put (m' := { m with hdr := m.hdr ++ [s], named := true }) 4 (.bool true) (fun _ _ => rfl) rfl rfl; obtain ⟨hv6, cv6, g6, _⟩ := M2.1.mach; have c2 := (blk_cell g6 2).trans rfl; have f2 := blk_frozen g6 2; have M3 := M2.1.put (m' := { m with hdr := m.hdr ++ [s], named := true, row := false }) 2 (.bool false) (fun _ _ => rfl) rfl rfl; have MF := Aside0.mk M3.1; have CF := Aside0.mk ((MM.2.trans M2.2).trans (M3.2.mono (fun _ h => h) (fun _ h => h))); clear MM M2 M3 g5 g6))
      go_ret
      rw [HG.out]
      exact ⟨rfl, MF.out, CF.out⟩
end Go.Proofs.Ytalaedpiimdcbaa.Dl
