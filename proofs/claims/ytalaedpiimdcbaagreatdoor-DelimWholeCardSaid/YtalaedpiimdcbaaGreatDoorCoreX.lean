/- pull.Core over a machine: Close, Next, End, All. -/
import Derived.Test.YtalaedpiimdcbaaGreatDoorCoreF
import Derived.Deep.QuietTactic
import Derived.BigQuiet
namespace Go.Proofs.YtalaedpiimdcbaaGreatDoor.Cr
open Go Go.Lib Go.RowKit Go.Proofs.YtalaedpiimdcbaaGreatDoorW.PrintWords Go.Proofs.YtalaedpiimdcbaaGreatDoorW.PrintLast Go.Proofs.YtalaedpiimdcbaaGreatDoor.Own Go.Proofs.YtalaedpiimdcbaaGreatDoor.Hp Go.Proofs.YtalaedpiimdcbaaGreatDoor.Srcw Go.Proofs.YtalaedpiimdcbaaGreatDoor.Dl
set_option linter.unusedVariables false
set_option linter.unusedSimpArgs false
set_option maxHeartbeats 8000000 in
set_option maxRecDepth 100000 in
theorem close_calls {F : Nat → Prop} {w : World} {g gM gS n0 : Nat} {d : DS} (h : D2 F w g gM gS d.m d.c) (hd : DOK n0 d) (hn : n0 ≤ 10000) :
    Calls Tryz.prog 15 #[ptr g] w fun e w' => e = .returned (.tuple #[]) ∧ D2 (ext F w) w' g gM gS (closeD d).m (closeD d).c ∧ Ch allT F w w' := by
  have H := Aside0.mk h
  have HD := Aside0.mk hd
  have HN := Aside0.mk hn
  obtain ⟨qv, k1, _⟩ := h.c.core
  have c4' : w.cell? ⟨g, 4, none⟩ = some (.bool d.c.closed) := (blk_cell k1 4).trans rfl
  have c5' : w.cell? ⟨g, 5, none⟩ = some (.bool d.c.over) := (blk_cell k1 5).trans rfl
  have f4 := blk_frozen k1 4
  have P1 := Aside0.mk (h.c.put (c' := { d.c with closed := true }) 4 (.bool true) (fun qv => rfl) rfl ⟨rfl, rfl, rfl⟩)
  have DP := Aside0.mk (show D2 F (w.setCell ⟨g, 4, none⟩ (.bool true)) g gM gS d.m { d.c with closed := true } from ⟨h.m.stay P1.out.2, P1.out.1⟩)
  clear h hd hn k1
  cases hcl : d.c.closed with
  | true =>
    have HS := Aside0.mk (show closeD d = ⟨d.m, { d.c with closed := true }⟩ by unfold closeD; rw [if_pos (.inl hcl)])
    rw [hcl] at c4'
    clear hcl c5'
    go_enter Tryz.func15, Tryz.ntmps15
    go_wp2
    refine bodyPost_ret (v := .tuple #[]) (results_none rfl _ _ _) rfl ?_
    rw [HS.out]
    exact ⟨rfl, DP.out.mono (fun _ h => ext_of h), Ch.core_all P1.out.2⟩
  | false =>
    cases hov : d.c.over with
    | true =>
      have HS := Aside0.mk (show closeD d = ⟨d.m, { d.c with closed := true }⟩ by unfold closeD; rw [if_pos (.inr hov)])
      rw [hcl] at c4'
      rw [hov] at c5'
      clear hcl hov
      go_enter Tryz.func15, Tryz.ntmps15
      go_wp2
      refine bodyPost_ret (v := .tuple #[]) (results_none rfl _ _ _) rfl ?_
      rw [HS.out]
      exact ⟨rfl, DP.out.mono (fun _ h => ext_of h), Ch.core_all P1.out.2⟩
    | false =>
      have hno : ¬ (d.c.closed = true ∨ d.c.over = true) := by rw [hcl, hov]; simp
      have HMOK := Aside0.mk (HD.out.ok hov)
      rw [hcl] at c4'
      rw [hov] at c5'
      obtain ⟨qv2, k2, _⟩ := P1.out.1.core
      have z1 : (w.setCell ⟨g, 4, none⟩ (.bool true)).cell? ⟨g, 1, none⟩ = some (ptr gS) := (blk_cell k2 1).trans rfl
      have z0 : (w.setCell ⟨g, 4, none⟩ (.bool true)).cell? ⟨g, 0, none⟩ = some (mval gM) := (blk_cell k2 0).trans rfl
      clear hcl hov k2
      by_cases hl : d.c.l = 0
      · have HS := Aside0.mk (show closeD d = ⟨(endM d.m).1, ({ d.c with closed := true, q := d.c.q ++ (endM d.m).2.1 } : CS).fail (endM d.m).2.2⟩ by unfold closeD; rw [if_neg hno, if_neg (by simp [hl])])
        have HW := Aside0.mk (show decide (({ d.c with closed := true } : CS).l = 0) = true from decide_eq_true hl)
        clear hl hno
        have hme := end_method ⟨gM, 0, none⟩
        go_enter Tryz.func15, Tryz.ntmps15
        go_wp2_with (first
          | (go_at_call 26; refine (whole_calls DP.out.c).mono ?_; rintro e w3 ⟨rfl, rfl⟩; rw [HW.out])
          | (go_at_call 140; refine (end_calls DP.out HMOK.out (by have := HD.out.q; have := HN.out; show d.c.q.length ≤ 90000; unfold stepMax at *; omega)).mono ?_; rintro e w4 ⟨rfl, hd4, hc4⟩; have D4 := Aside0.mk hd4; have C4 := Aside0.mk hc4; clear hd4 hc4)
          | (go_at_call 25; refine (met_calls D4.out.c).mono ?_; rintro e w5 ⟨rfl, hs, hh⟩; have S5 := Aside0.mk hs; have C5 := Aside0.mk hh; clear hs hh))
        go_end0
        rw [HS.out]
        refine ⟨rfl, ⟨(D4.out.m.stay C5.out).mono (fun k hk => ?_), S5.out.mono (fun k hk => ?_)⟩, (Ch.core_all P1.out.2).trans ((C4.out.trans (Ch.core_all C5.out)).mono (fun _ h => h) (fun _ h => ext_of h))⟩
        · rcases hk with hk | hk
          · exact .inl hk
          · exact .inr (by simpa using hk)
        · rcases hk with hk | hk
          · exact .inl hk
          · exact .inr (by simpa using hk)
      · have HS := Aside0.mk (show closeD d = ⟨d.m, ({ d.c with closed := true } : CS).fail 3⟩ by unfold closeD; rw [if_neg hno, if_pos hl])
        have HW := Aside0.mk (show decide (({ d.c with closed := true } : CS).l = 0) = false from decide_eq_false hl)
        clear hl hno
        go_enter Tryz.func15, Tryz.ntmps15
        go_wp2_with (first
          | (go_at_call 26; refine (whole_calls DP.out.c).mono ?_; rintro e w3 ⟨rfl, rfl⟩; rw [HW.out])
          | (go_at_call 23; refine (fails_calls DP.out.c).mono ?_; rintro e w4 ⟨rfl, hs, hh⟩; have S4 := Aside0.mk hs; have C4 := Aside0.mk hh; clear hs hh))
        refine bodyPost_ret (v := .tuple #[]) (results_none rfl _ _ _) rfl ?_
        rw [HS.out]
        exact ⟨rfl, ⟨(DP.out.m.stay C4.out).mono (fun _ h => ext_of h), S4.out.mono (fun _ h => ext_of h)⟩, (Ch.core_all P1.out.2).trans ((Ch.core_all C4.out).mono (fun _ h => h) (fun _ h => ext_of h))⟩

set_option maxHeartbeats 4000000 in
set_option maxRecDepth 100000 in
theorem endQ_calls {F : Nat → Prop} {w : World} {g gM gS : Nat} {c : CS} (h : IsC F w g gM gS c) :
    Calls Tryz.prog 138 #[ptr g] w fun e w' => e = .returned (.tuple #[.int .i64 (if c.told = true then c.err else 0), .int .i64 (if c.told = true then c.at_ else -1)]) ∧ Drawn0 w w' := by
  obtain ⟨qv, k1, _⟩ := h.core
  have c7' : w.cell? ⟨g, 7, none⟩ = some (.bool c.told) := (blk_cell k1 7).trans rfl
  have c6 : w.cell? ⟨g, 6, none⟩ = some (.int .i64 c.err) := (blk_cell k1 6).trans rfl
  have c3 : w.cell? ⟨g, 3, none⟩ = some (.int .i64 c.at_) := (blk_cell k1 3).trans rfl
  clear h k1
  cases ht : c.told with
  | true =>
    rw [ht] at c7'
    clear ht
    go_enter Tryz.func138, Tryz.ntmps138
    go_wp2
    go_quiet (fail)
    go_wp2
    go_ret2
    exact ⟨by simp, (Drawn0.refl w).step _⟩
  | false =>
    rw [ht] at c7'
    clear ht
    go_enter Tryz.func138, Tryz.ntmps138
    go_wp2
    go_ret2
    exact ⟨by simp, Drawn0.refl w⟩

def AllPost (F : Nat → Prop) (w : World) (d : DS) (e : Ending) (w' : World) : Prop :=
  ∃ v, e = .returned (.tuple #[v, .int .i64 d.c.err, .int .i64 d.c.at_]) ∧ Row (ext F w) w' 44 3 v d.c.q.length (evCs d.c.q) ∧ Ch allT F w w'
set_option maxHeartbeats 4000000 in
set_option maxRecDepth 100000 in
theorem all_calls {F : Nat → Prop} {w : World} {g gM gS n : Nat} {d : DS} {A : Option Addr} {l : List UInt8} (h : D2 F w g gM gS d.m d.c) (hd : DOK 0 d) (hl : l.length ≤ 10000) (hr : Rd8 F w A l) (hc : d.c.closed = false) :
    Calls Tryz.prog 9 #[ptr g, .slice A l.length n] w (AllPost F w (closeD (feedD d l))) := by
  have H := Aside0.mk h
  have HD := Aside0.mk hd
  have HL := Aside0.mk hl
  have HR := Aside0.mk hr
  have HC := Aside0.mk hc
  have HD2 := Aside0.mk (hd.feed l)
  clear h hd hl hr hc
  go_enter Tryz.func9, Tryz.ntmps9
  go_wp2_with (first
    | (go_at_call 14; refine (feed_open H.out HD.out (by have := HL.out; omega) HR.out HC.out).mono ?_; rintro e w1 ⟨rfl, hd1, hc1⟩; have D1 := Aside0.mk hd1; have C1 := Aside0.mk hc1; clear hd1 hc1)
    | (go_at_call 15; refine (close_calls (d := feedD d l) D1.out HD2.out (by have := HL.out; omega)).mono ?_; rintro e w2 ⟨rfl, hd2, hc2⟩; have D2' := Aside0.mk (hd2.mono (ext2 C1.out.size)); have C2 := Aside0.mk (C1.out.trans hc2); obtain ⟨qv, k2, kq⟩ := hd2.c.core; have KQ := Aside0.mk (kq.mono (ext2 C1.out.size)); have z2 : w2.cell? ⟨g, 2, none⟩ = some qv := (blk_cell k2 2).trans rfl; have z6 : w2.cell? ⟨g, 6, none⟩ = some (.int .i64 (closeD (feedD d l)).c.err) := (blk_cell k2 6).trans rfl; have z3 : w2.cell? ⟨g, 3, none⟩ = some (.int .i64 (closeD (feedD d l)).c.at_) := (blk_cell k2 3).trans rfl; clear hd2 hc2 k2 kq))
  go_quiet (fail)
  go_wp2
  go_ret3
  exact ⟨qv, rfl, KQ.out.below (pw_below_drewN (Below.refl _ _) _), C2.out.trans (Ch.of_below (pw_below_drewN (Below.refl _ _) _))⟩
end Go.Proofs.YtalaedpiimdcbaaGreatDoor.Cr
