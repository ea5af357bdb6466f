/- A decoder is made; Decode. -/
import Derived.Test.YtalaedpiimdcbaaCoreM
namespace Go.Proofs.Ytalaedpiimdcbaa.Cr
open Go Go.Lib Go.RowKit Go.Proofs.YtalaedpiimdcbaaW.PrintWords Go.Proofs.YtalaedpiimdcbaaW.PrintLast Go.Proofs.Ytalaedpiimdcbaa.Own Go.Proofs.Ytalaedpiimdcbaa.Hp Go.Proofs.Ytalaedpiimdcbaa.Srcw Go.Proofs.Ytalaedpiimdcbaa.Dl
set_option linter.unusedVariables false
set_option linter.unusedSimpArgs false
set_option maxHeartbeats 4000000 in
set_option maxRecDepth 100000 in
theorem scan_new (w : World) : Calls Try.prog 33 #[] w fun e w' => ∃ gS, e = .returned (ptr gS) ∧ w.heap.size ≤ gS ∧ ScanAt w' gS 0 128 191 ∧ Below w.heap.size w w' := by
  go_enter Try.func33, Try.ntmps33
  go_wp2_with ((with_reducible refine gate_dst (N := 2) rfl ?_); refine box_event ?hg (N := 2) ?hd (cs := #[.int .i64 0, .int .u8 128, .int .u8 191]) (t := 78) ?hr ?_; (case hd => rfl); (case hg => rfl); (case hr => first | (go_simp; done) | (go_simp; rfl)); intro b hg w1 hbox hb; have HBB := Aside0.mk hg; have H1 := Aside0.mk hbox; have B1 := Aside0.mk hb; clear hg hbox hb)
  go_ret
  exact ⟨b, rfl, by rw [HBB.out]; exact Nat.le_refl _, H1.out, B1.out⟩
set_option maxHeartbeats 8000000 in
set_option maxRecDepth 100000 in
theorem core_new (gM : Nat) (w : World) : Calls Try.prog 19 #[mval gM] w fun e w' => ∃ gS, e = .returned (.agg #[mval gM, ptr gS, .slice none 0 0, .int .i64 0, .bool false, .bool false, .int .i64 0, .bool false]) ∧ w.heap.size ≤ gS ∧ ScanAt w' gS 0 128 191 ∧ Below w.heap.size w w' := by
  go_enter Try.func19, Try.ntmps19
  go_wp2_with (first
    | ((with_reducible refine gate_dst (N := 2) rfl ?_); refine box_event ?hg (N := 2) ?hd (cs := #[.nilIface, .pointer none, .slice none 0 0, .int .i64 0, .bool false, .bool false, .int .i64 0, .bool false]) (t := 36) ?hr ?_; (case hd => rfl); (case hg => rfl); (case hr => first | (go_simp; done) | (go_simp; rfl)); intro b hg w1 hbox hb; have HBB := Aside0.mk hg; have H1 := Aside0.mk hbox; have B1 := Aside0.mk hb; clear hg hbox hb)
    | (go_at_call 33; refine (scan_new _).mono ?_; rintro e w2 ⟨gS, rfl, hgs, hs, hb⟩; have HS := Aside0.mk hs; have HGS := Aside0.mk hgs; have B2 := Aside0.mk hb; have HB2 := Aside0.mk ((hb.block b (blk_lt H1.out)).trans H1.out); have e0 := (blk_cell HB2.out 0).trans rfl; have e1 := (blk_cell HB2.out 1).trans rfl; have e2 := (blk_cell HB2.out 2).trans rfl; have e3 := (blk_cell HB2.out 3).trans rfl; have e4 := (blk_cell HB2.out 4).trans rfl; have e5 := (blk_cell HB2.out 5).trans rfl; have e6 := (blk_cell HB2.out 6).trans rfl; have e7 := (blk_cell HB2.out 7).trans rfl; have g0 := blk_frozen HB2.out 0; have g1 := blk_frozen HB2.out 1; have g2 := blk_frozen HB2.out 2; have g3 := blk_frozen HB2.out 3; have g4 := blk_frozen HB2.out 4; have g5 := blk_frozen HB2.out 5; have g6 := blk_frozen HB2.out 6; have g7 := blk_frozen HB2.out 7; clear hs hgs hb))
  have q0 := blk_put (cs' := #[mval gM, .pointer none, .slice none 0 0, .int .i64 0, .bool false, .bool false, .int .i64 0, .bool false]) HB2.out 0 (mval gM) rfl
  have q1 := blk_put (cs' := #[mval gM, ptr gS, .slice none 0 0, .int .i64 0, .bool false, .bool false, .int .i64 0, .bool false]) q0 1 (ptr gS) rfl
  have q2 := blk_put (cs' := #[mval gM, ptr gS, .slice none 0 0, .int .i64 0, .bool false, .bool false, .int .i64 0, .bool false]) q1 2 (.slice none 0 0) rfl
  have q3 := blk_put (cs' := #[mval gM, ptr gS, .slice none 0 0, .int .i64 0, .bool false, .bool false, .int .i64 0, .bool false]) q2 3 (.int .i64 0) rfl
  have q4 := blk_put (cs' := #[mval gM, ptr gS, .slice none 0 0, .int .i64 0, .bool false, .bool false, .int .i64 0, .bool false]) q3 4 (.bool false) rfl
  have q5 := blk_put (cs' := #[mval gM, ptr gS, .slice none 0 0, .int .i64 0, .bool false, .bool false, .int .i64 0, .bool false]) q4 5 (.bool false) rfl
  have q6 := blk_put (cs' := #[mval gM, ptr gS, .slice none 0 0, .int .i64 0, .bool false, .bool false, .int .i64 0, .bool false]) q5 6 (.int .i64 0) rfl
  have q7 := blk_put (cs' := #[mval gM, ptr gS, .slice none 0 0, .int .i64 0, .bool false, .bool false, .int .i64 0, .bool false]) q6 7 (.bool false) rfl
  have hbg : b ≠ gS := by have := blk_lt H1.out; have := HGS.out; omega
  have hs := HS.out
  have s0 := blk_far (p := ⟨b, 0, none⟩) HS.out (fun h => hbg h.symm) (mval gM)
  have s1 := blk_far (p := ⟨b, 1, none⟩) s0 (fun h => hbg h.symm) (ptr gS)
  have s2 := blk_far (p := ⟨b, 2, none⟩) s1 (fun h => hbg h.symm) (.slice none 0 0)
  have s3 := blk_far (p := ⟨b, 3, none⟩) s2 (fun h => hbg h.symm) (.int .i64 0)
  have s4 := blk_far (p := ⟨b, 4, none⟩) s3 (fun h => hbg h.symm) (.bool false)
  have s5 := blk_far (p := ⟨b, 5, none⟩) s4 (fun h => hbg h.symm) (.bool false)
  have s6 := blk_far (p := ⟨b, 6, none⟩) s5 (fun h => hbg h.symm) (.int .i64 0)
  have s7 := blk_far (p := ⟨b, 7, none⟩) s6 (fun h => hbg h.symm) (.bool false)
  have hbw : w.heap.size ≤ b := by have := HBB.out; omega
  have BB : Below w.heap.size w _ := (((((((((B1.out.trans (B2.out.mono B1.out.size)).setCell (p := ⟨b, 0, none⟩) hbw (mval gM)).setCell (p := ⟨b, 1, none⟩) hbw (ptr gS)).setCell (p := ⟨b, 2, none⟩) hbw (.slice none 0 0)).setCell (p := ⟨b, 3, none⟩) hbw (.int .i64 0)).setCell (p := ⟨b, 4, none⟩) hbw (.bool false)).setCell (p := ⟨b, 5, none⟩) hbw (.bool false)).setCell (p := ⟨b, 6, none⟩) hbw (.int .i64 0)).setCell (p := ⟨b, 7, none⟩) hbw (.bool false))
  have r0 := (blk_cell q7 0).trans rfl
  have r1 := (blk_cell q7 1).trans rfl
  have r2 := (blk_cell q7 2).trans rfl
  have r3 := (blk_cell q7 3).trans rfl
  have r4 := (blk_cell q7 4).trans rfl
  have r5 := (blk_cell q7 5).trans rfl
  have r6 := (blk_cell q7 6).trans rfl
  have r7 := (blk_cell q7 7).trans rfl
  exact bodyPost_ret (v := .agg #[mval gM, ptr gS, .slice none 0 0, .int .i64 0, .bool false, .bool false, .int .i64 0, .bool false]) (by simp [results, Try.results19, go_sem, r0, r1, r2, r3, r4, r5, r6, r7]) rfl ⟨gS, rfl, Nat.le_trans B1.out.size HGS.out, s7, BB⟩
set_option maxHeartbeats 8000000 in
set_option maxRecDepth 100000 in
theorem new_calls (w : World) : Calls Try.prog 10 #[] w fun e w' => ∃ g gM gS, e = .returned (ptr g) ∧ D2 (fun k => w.heap.size ≤ k) w' g gM gS DS.new.m DS.new.c ∧ Below w.heap.size w w' := by
  go_enter Try.func10, Try.ntmps10
  go_wp2_with (first
    | ((with_reducible refine gate_dst (N := 2) rfl ?_); refine box_event ?hg (N := 2) ?hd (cs := newCells) (t := 55) ?hr ?_; (case hd => rfl); (case hg => rfl); (case hr => first | (go_simp; done) | (go_simp; rfl)); intro gM hg w1 hbox hb; have HBB := Aside0.mk hg; have H1 := Aside0.mk hbox; have B1 := Aside0.mk hb; clear hg hbox hb)
    | (go_at_call 19; refine (core_new gM _).mono ?_; rintro e w2 ⟨gS, rfl, hgs, hs, hb⟩; have HS := Aside0.mk hs; have HGS := Aside0.mk hgs; have B2 := Aside0.mk hb; have HB2 := Aside0.mk ((hb.block gM (blk_lt H1.out)).trans H1.out); clear hs hgs hb)
    | ((with_reducible refine gate_dst (N := 6) rfl ?_); refine box_event ?hg (N := 6) ?hd (cs := #[mval gM, ptr gS, .slice none 0 0, .int .i64 0, .bool false, .bool false, .int .i64 0, .bool false]) (t := 38) ?hr ?_; (case hd => rfl); (case hg => rfl); (case hr => first | (go_simp; done) | (go_simp; rfl)); intro g hg w3 hbox hb; have HG := Aside0.mk hg; have H3 := Aside0.mk hbox; have B3 := Aside0.mk hb; clear hg hbox hb))
  go_ret
  refine ⟨g, gM, gS, rfl, ⟨new_mach (by have := HBB.out; omega) ((B3.out.block gM (blk_lt HB2.out)).trans HB2.out), ⟨by have := HG.out; have := B1.out.size; have := B2.out.size; omega, by have := HGS.out; have := B1.out.size; omega, ⟨_, H3.out, Row.nil _ _ _ _⟩, (B3.out.block gS (blk_lt HS.out)).trans HS.out⟩⟩, B1.out.trans ((B2.out.trans (B3.out.mono B2.out.size)).mono B1.out.size)⟩
set_option maxHeartbeats 8000000 in
set_option maxRecDepth 100000 in
theorem decode_calls {w : World} {n : Nat} {A : Option Addr} {l : List UInt8} (hl : l.length ≤ 10000) (hr : Rd8 (fun k => w.heap.size ≤ k) w A l) :
    Calls Try.prog 9 #[.slice A l.length n] w (AllPost (fun k => w.heap.size ≤ k) w (closeD (feedD DS.new l))) := by
  have HL := Aside0.mk hl
  have HR := Aside0.mk hr
  clear hl hr
  go_enter Try.func9, Try.ntmps9
  go_wp2_with (first
    | (go_at_call 10; refine (new_calls _).mono ?_; rintro e w1 ⟨g, gM, gS, rfl, hd, hb⟩; have D1 := Aside0.mk hd; have B1 := Aside0.mk hb; have R1 := Aside0.mk ((HR.out.ch (Ch.of_below hb : Ch allT (fun k => w.heap.size ≤ k) w w1)).mono (F' := fun k => w.heap.size ≤ k) (fun k hk => .inl hk)); clear hd hb)
    | (go_at_call 18; refine (all_calls (d := DS.new) D1.out DOK.new HL.out R1.out rfl).mono ?_; rintro e w2 ⟨v, rfl, hv, hc⟩; have HV := Aside0.mk hv; have HC := Aside0.mk hc; clear hv hc))
  go_ret3
  exact ⟨v, rfl, HV.out.mono (fun k hk => by rcases hk with hk | hk; exact .inl hk; exact .inl (Nat.le_trans B1.out.size hk)), (Ch.of_below B1.out).trans (HC.out.mono (fun _ h => h) (fun _ h => .inl h))⟩
end Go.Proofs.Ytalaedpiimdcbaa.Cr
