/- names: the law NamesInner, walked. -/
import Derived.Test.YticlppojbbocbaaDoorScpM
namespace Go.Proofs.YticlppojbbocbaaDoor.Nm
open Go Go.Lib Go.Shelf Go.RowKit Go.Proofs.YticlppojbbocbaaDoorW.PrintWords Go.Proofs.YticlppojbbocbaaDoorW.PrintLast Go.Proofs.YticlppojbbocbaaDoor.Own Go.Proofs.YticlppojbbocbaaDoor.Srcw Go.Proofs.YticlppojbbocbaaDoor.Tab Go.Proofs.YticlppojbbocbaaDoor.PNamesScopes
set_option linter.unusedVariables false
set_option linter.unusedSimpArgs false
/-- Bind, whatever it answers: only the innermost scope is another. -/
theorem bind_any {B g : Nat} {w : World} {init : List Sc} {x : Sc} {p s : ByteArray} (h : IsSc B w g (init ++ [x])) (hl : init.length < 17000000000000) (hps : p.size ≤ 1048576) (hss : s.size ≤ 1048576) (hm : x.m ≤ 10) (hT : Tabs w) :
    Calls Tryd.prog 22 #[.pointer (some ⟨g, 0, none⟩), .string p, .string s] w (fun e w' => ∃ v x', e = .returned v ∧ IsSc B w' g (init ++ [x']) ∧ x'.m ≤ 10 ∧ Chs B w w') := by
  cases ha : argsOk p s with
  | false =>
    refine (bind_bad h hl hps hss hm hT ha).mono ?_
    rintro e w' ⟨rfl, h1, h2⟩
    exact ⟨_, x, rfl, h1, hm, h2⟩
  | true =>
    refine (bind_good h hl hps hss hm hT ha).mono ?_
    rintro e w' ⟨rfl, h1, h2⟩
    refine ⟨_, _, rfl, h1, ?_, h2⟩
    by_cases hz : bindE x p = 0
    · rw [if_pos hz]
      show x.m + 1 ≤ 10
      unfold bindE at hz
      by_cases hs : (x.f p).isSome = true
      · rw [if_pos hs] at hz; cases hz
      · rw [if_neg hs] at hz
        by_cases h10 : 10 ≤ x.m
        · rw [if_pos h10] at hz; cases hz
        · omega
    · rw [if_neg hz]; exact hm
set_option maxHeartbeats 16000000 in
set_option maxRecDepth 100000 in
theorem law_NamesInner (a : Option Addr) (len cap : Nat) (D : Nat → Dd) {w : World} (hd : IsDeeds w a len D) (hsz : len ≤ 1048576 ∧ ∀ i, i < len → (D i).n.size ≤ 1048576 ∧ (D i).t.size ≤ 1048576)
    (a2 : Option Addr) (len2 cap2 : Nat) (D2 : Nat → Dd) (hd2 : IsDeeds w a2 len2 D2) (hsz2 : len2 ≤ 1048576 ∧ ∀ i, i < len2 → (D2 i).n.size ≤ 1048576 ∧ (D2 i).t.size ≤ 1048576) (q : ByteArray) (hq : q.size ≤ 1048576) (hT : Tabs w) :
    Calls Tryd.prog 8 #[.slice a len cap, .slice a2 len2 cap2, .string q] w fun e w' => e = .returned (.bool true) ∧ Below w.heap.size w w' := by
  obtain ⟨hd0, hs⟩ := hsz
  obtain ⟨hd02, hs2⟩ := hsz2
  have HT := Aside0.mk hT
  have HD := Aside0.mk hd
  have HS := Aside0.mk hs
  have HL0 := Aside0.mk hd0
  have HD2 := Aside0.mk hd2
  have HS2 := Aside0.mk hs2
  have HL2 := Aside0.mk hd02
  have HQ := Aside0.mk hq
  clear hT hd hs hd2 hs2 hq
  go_enter Tryd.func8, Tryd.ntmps8
  go_wp2_with (first
    | (go_at_call 18; refine (new_calls w w (Below.refl _ _)).mono ?_; rintro e w1 ⟨g, rfl, he, hb⟩; have E1 := Aside0.mk he; have B1 := Aside0.mk hb; clear he hb)
    | ((with_reducible refine gate_dst (N := 23) rfl ?_); refine box_event ?hg (N := 23) ?hd (cs := #[.slice none 0 0, .int .i64 0]) (t := 35) ?hr ?_; (case hd => rfl); (case hg => rfl); (case hr => first | (go_simp; done) | (go_simp; rfl)); intro gr hg w2 hbox hb; have HG := Aside0.mk hg; have H1 := Aside0.mk hbox; have B2 := Aside0.mk hb; clear hg hbox hb))
  have HBO := Aside0.mk (show Bth w.heap.size w2 g gr [] [] 0 from ⟨E1.out.below B2.out, ⟨by have := HG.out; have := B1.out.size; omega, ⟨_, H1.out, Hp.Row.nil _ _ _ _⟩⟩, .nil, (fun l hl => by cases hl), ⟨Nat.le_refl _, Nat.le_refl _⟩⟩)
  have HBW := Aside0.mk (B1.out.trans (B2.out.mono B1.out.size))
  clear H1 B2 E1 HG
  go_loopg [9] (len + 1) (fun gk v9 wr => ∃ (i : Nat) (st : List Sc) (Ls : List Lvl), v9 = .int .i64 i ∧ Aside0 (i ≤ len) ∧ Aside0 (len - i < gk) ∧ Aside0 (Bth w.heap.size wr g gr st Ls i) ∧ Aside0 (Below w.heap.size w wr))
  case atStart => exact ⟨0, [], [], rfl, ⟨by omega⟩, ⟨by omega⟩, HBO, HBW⟩
  case round =>
    obtain ⟨i, st, Ls, rfl, P1, P2, P3, P4⟩ := hrel
    cases gk with
    | zero => exact absurd P2.out (by have := P1.out; omega)
    | succ k1 =>
    have hp1 := P1.out
    by_cases hlt : i < len
    · obtain ⟨x, rfl, d0, d1, d2, d3⟩ := (HD.out.below P4.out).2 i hlt
      have HK := Aside0.mk d3
      have HSI := Aside0.mk (HS.out i hlt)
      have t1 : decide ((i : Int) < (len : Int)) = true := decide_eq_true (by omega)
      have t2 : decide (i < len) = true := decide_eq_true (by omega)
      have tw : wrap64 ((i : Int) + 1) = (i : Int) + 1 := w64 (by omega) (by omega)
      clear d3
      go_wp2_with (go_at_call 19; refine (does_calls P3.out (by omega) HK.out HSI.out.1 HSI.out.2 (HT.out.below P4.out)).mono ?_; rintro e w4 ⟨st', Ls', rfl, hbo, hb⟩; have B4 := Aside0.mk (P4.out.trans hb); have BO4 := Aside0.mk hbo; clear hb hbo)
      go_roundg k1
      case measure => have := P2.out; omega
      case rel => exact ⟨i + 1, st', Ls', by go_num, ⟨by omega⟩, ⟨by have := P2.out; omega⟩, BO4, B4⟩
    · have hi : i = len := by omega
      have t1 : decide ((i : Int) < (len : Int)) = false := decide_eq_false (by omega)
      have t2 : decide (i < len) = false := decide_eq_false (by omega)
      have HST := Aside0.mk (show st.length < 17000000000000 by have := P3.out.len.1; omega)
      have HFL := Aside0.mk (show (flatF 1 Ls).length ≤ 100000000000 by have := P3.out.len.2; omega)
      obtain ⟨⟨xa, xb⟩, hx⟩ : ∃ y, askS st q = y := ⟨_, rfl⟩
      have HA := Aside0.mk hx
      clear hi hx
      go_wp2_with (first
        | (go_at_call 20; refine (ask_calls P3.out.s HST.out HQ.out).mono ?_; rintro e w5 ⟨rfl, hb⟩; rw [HA.out]; have S5 := Aside0.mk (P3.out.s.below hb); have R5 := Aside0.mk (P3.out.r.below hb); have B5 := Aside0.mk (P4.out.trans (hb.mono P4.out.size)); clear hb)
        | (go_at_call 21; refine (open_calls S5.out S5.out.keys HST.out).mono ?_; rintro e w6 ⟨⟨v, rfl⟩, ⟨b6, hb6, hsc⟩, hc⟩; have S6 := Aside0.mk hsc; have R6 := Aside0.mk (R5.out.ch hc (by unfold scT; decide) (by unfold scT; decide)); have B6 := Aside0.mk (B5.out.trans (Chs.below hc B5.out.size)); clear hsc hc hb6))
      -- LOOP2
      clear P2 hp1 hlt t1 t2
      go_loopg [13] (len2 + 1) (fun gk v13 wr => ∃ (j : Nat) (x : Sc), v13 = .int .i64 j ∧ Aside0 (j ≤ len2) ∧ Aside0 (len2 - j < gk) ∧ Aside0 (IsSc w.heap.size wr g (st ++ [x])) ∧ Aside0 (x.m ≤ 10) ∧ Aside0 (RAt (fun k => w.heap.size ≤ k) wr gr (flatF 1 Ls) ((Ls.length : Nat) : Int)) ∧ Aside0 (Below w.heap.size w wr))
      case atStart => exact ⟨0, _, rfl, ⟨by omega⟩, ⟨by omega⟩, S6, ⟨Nat.zero_le _⟩, R6, B6⟩
      case round =>
        obtain ⟨j, x, rfl, Q1, Q2, Q3, Q4, Q5, Q6⟩ := hrel
        cases gk with
        | zero => exact absurd Q2.out (by have := Q1.out; omega)
        | succ k2 =>
        have hq1 := Q1.out
        by_cases hlt : j < len2
        · obtain ⟨x2, rfl, d0, d1, d2, d3⟩ := (HD2.out.below Q6.out).2 j hlt
          have HSI := Aside0.mk (HS2.out j hlt)
          have t1 : decide ((j : Int) < (len2 : Int)) = true := decide_eq_true (by omega)
          have t2 : decide (j < len2) = true := decide_eq_true (by omega)
          have tw : wrap64 ((j : Int) + 1) = (j : Int) + 1 := w64 (by omega) (by omega)
          have y3 : (0 : Int) ≤ (j : Int) := by omega
          have y4 : (j : Int) < (len2 : Int) := by omega
          have HST2 := Aside0.mk HST.out
          clear d3 d0
          go_wp2_with fail
          refine start_ (n := 12) (S := (fun w' => w'.cell? ⟨(x2.add (j * 3)).block, (x2.add (j * 3)).off + 1, none⟩ = some (.string (D2 j).n) ∧ w'.cell? ⟨(x2.add (j * 3)).block, (x2.add (j * 3)).off + 2, none⟩ = some (.string (D2 j).t))) (ds := [11]) #[false, false, false, false, false, false, false, false, false, false, false, false] (by kernel_rfl) rfl rfl ⟨d1, d2⟩ (fun hHeld => ?_)
          -- T55 := move (tmp 7) :30
          refine pure_ (i := 0) (N := some 55) (v := ?_) (a' := ?_) #[true, false, false, false, false, false, false, false, false, false, false, false] rfl rfl (by kernel_rfl) (fun _ _ _ h => h) (Or.inl ⟨by rfl, ?_⟩) ?_ ?_
          rotate_left
          · intro w'
            go_simp
            with_reducible rfl
          rotate_left
          · simp only [Act.put, List.setIfInBounds_toArray, List.set_cons_zero, List.set_cons_succ]
            rfl
          -- T56 := move (tmp 1) :29
          refine pure_ (i := 1) (N := some 56) (v := ?_) (a' := ?_) #[true, true, false, false, false, false, false, false, false, false, false, false] rfl rfl (by kernel_rfl) (fun _ _ _ h => h) (Or.inl ⟨by rfl, ?_⟩) ?_ ?_
          rotate_left
          · intro w'
            go_simp
            with_reducible rfl
          rotate_left
          · simp only [Act.put, List.setIfInBounds_toArray, List.set_cons_zero, List.set_cons_succ]
            rfl
          -- T57 := move (tmp 13) :3
          refine pure_ (i := 2) (N := some 57) (v := ?_) (a' := ?_) #[true, true, true, false, false, false, false, false, false, false, false, false] rfl rfl (by kernel_rfl) (fun _ _ _ h => h) (Or.inl ⟨by rfl, ?_⟩) ?_ ?_
          rotate_left
          · intro w'
            go_simp
            with_reducible rfl
          rotate_left
          · simp only [Act.put, List.setIfInBounds_toArray, List.set_cons_zero, List.set_cons_succ]
            rfl
          -- T58 := indexAddr 29 (tmp 56) (tmp 57) :0
          refine pure_ (i := 3) (N := some 58) (v := ?_) (a' := ?_) #[true, true, true, true, false, false, false, false, false, false, false, false] rfl rfl (by kernel_rfl) (fun _ _ _ h => h) (Or.inl ⟨by rfl, ?_⟩) ?_ ?_
          rotate_left
          · intro w'
            go_simp
            with_reducible rfl
          rotate_left
          · simp only [Act.put, List.setIfInBounds_toArray, List.set_cons_zero, List.set_cons_succ]
            rfl
          -- T59 := fieldAddr 38 (tmp 58) 1 :0
          refine pure_ (i := 4) (N := some 59) (v := ?_) (a' := ?_) #[true, true, true, true, true, false, false, false, false, false, false, false] rfl rfl (by kernel_rfl) (fun _ _ _ h => h) (Or.inl ⟨by rfl, ?_⟩) ?_ ?_
          rotate_left
          · intro w'
            go_simp
            with_reducible rfl
          rotate_left
          · simp only [Act.put, List.setIfInBounds_toArray, List.set_cons_zero, List.set_cons_succ]
            rfl
          -- T60 := load 9 (tmp 59) :9
          refine take_ (i := 5) (N := some 60) (v := ?_) (a' := ?_) #[true, true, true, true, true, true, false, false, false, false, false, false] rfl rfl (by kernel_rfl) (fun _ _ _ h => h) (Or.inl ⟨by rfl, ?_⟩) hHeld ?_ ?_
          rotate_left
          · intro w' hw'
            (have d1 := hw'.1; have d2 := hw'.2)
            go_simp
            with_reducible rfl
          rotate_left
          · simp only [Act.put, List.setIfInBounds_toArray, List.set_cons_zero, List.set_cons_succ]
            rfl
          -- T61 := move (tmp 1) :29
          refine pure_ (i := 6) (N := some 61) (v := ?_) (a' := ?_) #[true, true, true, true, true, true, true, false, false, false, false, false] rfl rfl (by kernel_rfl) (fun _ _ _ h => h) (Or.inl ⟨by rfl, ?_⟩) ?_ ?_
          rotate_left
          · intro w'
            go_simp
            with_reducible rfl
          rotate_left
          · simp only [Act.put, List.setIfInBounds_toArray, List.set_cons_zero, List.set_cons_succ]
            rfl
          -- T62 := move (tmp 13) :3
          refine pure_ (i := 7) (N := some 62) (v := ?_) (a' := ?_) #[true, true, true, true, true, true, true, true, false, false, false, false] rfl rfl (by kernel_rfl) (fun _ _ _ h => h) (Or.inl ⟨by rfl, ?_⟩) ?_ ?_
          rotate_left
          · intro w'
            go_simp
            with_reducible rfl
          rotate_left
          · simp only [Act.put, List.setIfInBounds_toArray, List.set_cons_zero, List.set_cons_succ]
            rfl
          -- T63 := indexAddr 29 (tmp 61) (tmp 62) :0
          refine pure_ (i := 8) (N := some 63) (v := ?_) (a' := ?_) #[true, true, true, true, true, true, true, true, true, false, false, false] rfl rfl (by kernel_rfl) (fun _ _ _ h => h) (Or.inl ⟨by rfl, ?_⟩) ?_ ?_
          rotate_left
          · intro w'
            go_simp
            with_reducible rfl
          rotate_left
          · simp only [Act.put, List.setIfInBounds_toArray, List.set_cons_zero, List.set_cons_succ]
            rfl
          -- T64 := fieldAddr 38 (tmp 63) 2 :0
          refine pure_ (i := 9) (N := some 64) (v := ?_) (a' := ?_) #[true, true, true, true, true, true, true, true, true, true, false, false] rfl rfl (by kernel_rfl) (fun _ _ _ h => h) (Or.inl ⟨by rfl, ?_⟩) ?_ ?_
          rotate_left
          · intro w'
            go_simp
            with_reducible rfl
          rotate_left
          · simp only [Act.put, List.setIfInBounds_toArray, List.set_cons_zero, List.set_cons_succ]
            rfl
          -- T65 := load 9 (tmp 64) :9
          refine take_ (i := 10) (N := some 65) (v := ?_) (a' := ?_) #[true, true, true, true, true, true, true, true, true, true, true, false] rfl rfl (by kernel_rfl) (fun _ _ _ h => h) (Or.inl ⟨by rfl, ?_⟩) hHeld ?_ ?_
          rotate_left
          · intro w' hw'
            (have d1 := hw'.1; have d2 := hw'.2)
            go_simp
            with_reducible rfl
          rotate_left
          · simp only [Act.put, List.setIfInBounds_toArray, List.set_cons_zero, List.set_cons_succ]
            rfl
          refine tailI_ [11] (by kernel_rfl) (by decide) rfl ?_
          simp only [List.filterMap_cons, List.filterMap_nil]
          have DB := Aside0.mk (below_drew (Below.refl wr.heap.size wr))
          clear hHeld
          go_wp2_with (go_at_call 22; refine (bind_any (Q3.out.below DB.out) HST2.out HSI.out.1 HSI.out.2 Q4.out ((HT.out.below Q6.out).below DB.out)).mono ?_; rintro e w7 ⟨v7, x7, rfl, hsc, hx7, hc⟩; have S7 := Aside0.mk hsc; have M7 := Aside0.mk hx7; have R7 := Aside0.mk ((Q5.out.below DB.out).ch hc (by unfold scT; decide) (by unfold scT; decide)); have B7 := Aside0.mk ((Q6.out.trans (DB.out.mono Q6.out.size)).trans (Chs.below hc (Nat.le_trans Q6.out.size DB.out.size))); clear hsc hx7 hc)
          go_roundg k2
          case measure => have := Q2.out; omega
          case rel => exact ⟨j + 1, x7, by go_num, ⟨by omega⟩, ⟨by have := Q2.out; omega⟩, S7, M7, R7, B7⟩
        · have t1 : decide ((j : Int) < (len2 : Int)) = false := decide_eq_false (by omega)
          have t2 : decide (j < len2) = false := decide_eq_false (by omega)
          clear Q1 Q2 hq1 hlt
          go_wp2_with (first
            | (go_at_call 23; refine (close_some Q3.out HST.out).mono ?_; rintro e w8 ⟨rfl, hsc, hc⟩; have S8 := Aside0.mk hsc; have R8 := Aside0.mk (Q5.out.ch hc (by unfold scT; decide) (by unfold scT; decide)); have B8 := Aside0.mk (Q6.out.trans (Chs.below hc Q6.out.size)); clear hsc hc)
            | (go_at_call 20; refine (ask_calls S8.out HST.out HQ.out).mono ?_; rintro e w9 ⟨rfl, hb⟩; rw [HA.out]; have S9 := Aside0.mk (S8.out.below hb); have R9 := Aside0.mk (R8.out.below hb); have B9 := Aside0.mk (B8.out.trans (hb.mono B8.out.size)); clear hb))
          clear t1 t2
          go_loopg [16] (len2 + 1) (fun gk v16 wr => ∃ (j : Nat), v16 = .int .i64 j ∧ Aside0 (j ≤ len2) ∧ Aside0 (len2 - j < gk) ∧ Aside0 (IsSc w.heap.size wr g st) ∧ Aside0 (RAt (fun k => w.heap.size ≤ k) wr gr (flatF 1 Ls) ((Ls.length : Nat) : Int)) ∧ Aside0 (Below w.heap.size w wr))
          case atStart => exact ⟨0, rfl, ⟨by omega⟩, ⟨by omega⟩, S9, R9, B9⟩
          case round =>
            obtain ⟨m, rfl, U1, U2, U3, U4, U5⟩ := hrel
            cases gk with
            | zero => exact absurd U2.out (by have := U1.out; omega)
            | succ k3 =>
            have hu1 := U1.out
            by_cases hlt : m < len2
            · obtain ⟨x2, rfl, d0, d1, d2, d3⟩ := (HD2.out.below U5.out).2 m hlt
              have HSI := Aside0.mk (HS2.out m hlt)
              have t1 : decide ((m : Int) < (len2 : Int)) = true := decide_eq_true (by omega)
              have t2 : decide (m < len2) = true := decide_eq_true (by omega)
              have tw : wrap64 ((m : Int) + 1) = (m : Int) + 1 := w64 (by omega) (by omega)
              have y3 : (0 : Int) ≤ (m : Int) := by omega
              have y4 : (m : Int) < (len2 : Int) := by omega
              obtain ⟨⟨ya, yb⟩, hy⟩ : ∃ y, askS st (D2 m).n = y := ⟨_, rfl⟩
              have HY := Aside0.mk hy
              have HRY := Aside0.mk ((rAsk_is P3.out.rel P3.out.nd (D2 m).n).trans hy)
              have bb : (yb != yb) = false := by cases yb <;> rfl
              clear d3 d0 d2 hy
              go_wp2_with (first
                | (go_at_call 20; refine (ask_calls U3.out HST.out HSI.out.1).mono ?_; rintro e wa ⟨rfl, hb⟩; rw [HY.out]; have SA := Aside0.mk (U3.out.below hb); have RA := Aside0.mk (U4.out.below hb); have BA := Aside0.mk (U5.out.trans (hb.mono U5.out.size)); have d1 := below_cell hb d1; clear hb)
                | (go_at_call 24; refine (raskw_calls (D2 m).n RA.out HFL.out).mono ?_; rintro e wb ⟨rfl, rfl⟩; rw [HRY.out]))
              go_roundg k3
              case measure => have := U2.out; omega
              case rel => exact ⟨m + 1, by go_num, ⟨by omega⟩, ⟨by have := U2.out; omega⟩, SA, RA, BA⟩
            · have t1 : decide ((m : Int) < (len2 : Int)) = false := decide_eq_false (by omega)
              have t2 : decide (m < len2) = false := decide_eq_false (by omega)
              have bb : (xb == xb) = true := by cases xb <;> rfl
              clear U1 U2 hu1 hlt
              go_wp2_with (go_at_call 15; refine (lives_calls _ (HT.out.below U5.out)).mono ?_; rintro e wc ⟨rfl, hb⟩; have BC := Aside0.mk (U5.out.trans (hb.mono U5.out.size)); clear hb)
              all_goals go_ret
              all_goals exact ⟨rfl, BC.out⟩
end Go.Proofs.YticlppojbbocbaaDoor.Nm
