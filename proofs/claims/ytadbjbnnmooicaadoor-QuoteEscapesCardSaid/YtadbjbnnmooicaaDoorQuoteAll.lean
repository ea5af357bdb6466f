/- quote: all steps of a text. -/
import Derived.Test.YtadbjbnnmooicaaDoorQuoteStep2
import Derived.Outline
import Derived.Deep.LoopGhost
namespace Go.Proofs.YtadbjbnnmooicaaDoor.Qw
open Go.RowKit Go.Proofs.YtadbjbnnmooicaaDoorW.PrintWords Go.Proofs.YtadbjbnnmooicaaDoorW.PrintLast Go.Proofs.YtadbjbnnmooicaaDoor.Own Go.Proofs.YtadbjbnnmooicaaDoor.Srcw
set_option linter.unusedVariables false
set_option linter.unusedSimpArgs false

theorem results_tmp4 {fn : Func} {t u v x : Tmp} (h : fn.results = #[.tmp t, .tmp u, .tmp v, .tmp x]) (tmps : Array Value) (P : Program) (w : World) :
    (results fn tmps).run P w = .ok (.tuple #[tmps.getD t undef, tmps.getD u undef, tmps.getD v undef, tmps.getD x undef]) w := by
  simp [results, h]
/-- All steps: the state, the bytes taken, whether the last was the end, an error. -/
def allL : List UInt8 → QS → Nat → QS × Nat × Bool × Int
  | [], s, i => (s, i, false, 0)
  | b :: r, s, i => if (stepQ s (b.toNat : Int)).1 = true ∨ (stepQ s (b.toNat : Int)).2.1 ≠ 0 then ((stepQ s (b.toNat : Int)).2.2, i, (stepQ s (b.toNat : Int)).1, (stepQ s (b.toNat : Int)).2.1) else allL r (stepQ s (b.toNat : Int)).2.2 (i + 1)
def allS (s : ByteArray) : QS × Nat × Bool × Int := allL s.data.toList QS.new 0

theorem drop_at (s : ByteArray) (i : Nat) (h : i < s.size) : s.data.toList.drop i = s[i] :: s.data.toList.drop (i + 1) := by
  have hl : i < s.data.toList.length := by rw [size_data]; exact h
  rw [List.drop_eq_getElem_cons hl]
  simp
  rfl

set_option maxHeartbeats 2000000 in
set_option maxRecDepth 100000 in
theorem new_calls (w0 w : World) (hB : Below w0.heap.size w0 w) :
    Calls Tryd.prog 12 #[] w fun e w' => ∃ g : Nat, e = .returned (.pointer (some ⟨g, 0, none⟩)) ∧ QAt w0.heap.size w' g QS.new ∧ Below w0.heap.size w0 w' := by
  have HB := Aside0.mk hB
  clear hB
  go_enter Tryd.func12, Tryd.ntmps12
  go_wp2_with ((with_reducible refine gate_dst (N := 2) rfl ?_); refine box_event ?hg (N := 2) ?hd (cs := #[.slice none 0 0, .bool false, .int .i64 0, .int .i64 0, .bool false]) (t := 38) ?hr ?_; (case hd => rfl); (case hg => rfl); (case hr => first | (go_simp; done) | (go_simp; rfl)); intro g hg w1 hbox hb; have HG := Aside0.mk hg; have H1 := Aside0.mk hbox; have H2 := Aside0.mk hb; clear hg hbox hb)
  go_ret
  exact ⟨g, rfl, ⟨by rw [HG.out]; exact HB.out.size, _, H1.out, Kd.R_nil _ _ _ _ _⟩, HB.out.trans (below_mono H2.out HB.out.size)⟩

def AllPost (s : ByteArray) (w : World) (e : Ending) (w' : World) : Prop :=
  ∃ (t : ByteArray) (n : Int) (d : Bool) (f : Int), e = .returned (.tuple #[.string t, .int .i64 n, .bool d, .int .i64 f]) ∧ (t = strOfNums (allS s).1.l ∧ n = (allS s).2.1 ∧ d = (allS s).2.2.1 ∧ f = (allS s).2.2.2) ∧ Below w.heap.size w w'

set_option maxHeartbeats 4000000 in
set_option maxRecDepth 100000 in
theorem all_calls (s : ByteArray) (hs : s.size ≤ 140737488355328) (w : World) : Calls Tryd.prog 9 #[.string s] w (AllPost s w) := by
  go_enter Tryd.func9, Tryd.ntmps9
  go_wp2_with fail
  refine (new_calls w w (Below.refl _ _)).mono ?_
  rintro e w1 ⟨g, rfl, hq, hb⟩
  have Q1 := Aside0.mk hq
  have B1 := Aside0.mk hb
  clear hq hb
  go_wp2_with fail
  go_loopg [7] (s.size + 1) (fun gk v7 wr => ∃ (i : Nat) (st : QS), v7 = .int .i64 i ∧ Aside0 (i ≤ s.size) ∧ Aside0 (s.size - i < gk) ∧ Aside0 (allS s = allL (s.data.toList.drop i) st i) ∧ Aside0 st.Ok ∧ Aside0 (QAt w.heap.size wr g st) ∧ Aside0 (Below w.heap.size w wr))
  case atStart => exact ⟨0, QS.new, rfl, ⟨Nat.zero_le _⟩, ⟨by omega⟩, ⟨rfl⟩, ⟨QS.ok_new⟩, Q1, B1⟩
  case round =>
    obtain ⟨i, st, rfl, P1, P2, P3, P4, P5, P6⟩ := hrel
    cases gk with
    | zero => exact absurd P2.out (by omega)
    | succ k1 =>
    by_cases hlt : i < s.size
    · go_wp2_with fail
      refine (step_calls (b := (s[i].toNat : Int)) P5.out P6.out.size P4.out (by omega) (by have := s[i].toNat_lt; omega)).mono ?_
      rintro e w2 ⟨x, y, rfl, hx, hy, hq, hb⟩
      have H1 := Aside0.mk hx
      have H2 := Aside0.mk hy
      have H3 := Aside0.mk hq
      have H4 := Aside0.mk (P6.out.trans hb)
      have H5 := Aside0.mk (stepQ_ok P4.out (s[i].toNat : Int))
      have P7 := P3.out
      rw [drop_at s i hlt] at P7
      have H7 := Aside0.mk P7
      clear hx hy hq hb P7
      by_cases hd : x = true ∨ y ≠ 0
      · have H8 : Aside0 (allS s = ((stepQ st (s[i].toNat : Int)).2.2, i, x, y)) := ⟨by rw [H7.out]; show (if _ then _ else _) = _; rw [← H1.out, ← H2.out, if_pos hd]⟩
        have hd' : (x || (!(y == 0))) = true := by rcases hd with hd | hd <;> simp [hd]
        have fin : AllPost s w (.returned (.tuple #[.string (strOfNums (stepQ st (s[i].toNat : Int)).2.2.l), .int .i64 i, .bool x, .int .i64 y])) w2 := ⟨_, _, _, _, rfl, by rw [H8.out]; exact ⟨rfl, rfl, rfl, rfl⟩, H4.out⟩
        cases x
        · have hy : (y == 0) = false := by simpa using hd
          have hy2 : decide (y = 0) = false := by simpa using hd
          clear hd hd'
          go_wp2_with fail
          refine (text_calls H3.out).mono ?_
          rintro e w3 ⟨rfl, rfl⟩
          go_wp2
          (try simp only [Exit.inBlock, Exit.then]); refine bodyPost_ret (results_tmp4 rfl _ _ _) rfl ?_
          exact fin
        · clear hd hd'
          go_wp2_with fail
          refine (text_calls H3.out).mono ?_
          rintro e w3 ⟨rfl, rfl⟩
          go_wp2
          (try simp only [Exit.inBlock, Exit.then]); refine bodyPost_ret (results_tmp4 rfl _ _ _) rfl ?_
          exact fin
      · have hx0 : x = false := by cases x <;> simp_all
        have hy0 : y = 0 := by simpa [hx0] using hd
        have H8 : Aside0 (allS s = allL (s.data.toList.drop (i + 1)) (stepQ st (s[i].toNat : Int)).2.2 (i + 1)) := ⟨by rw [H7.out]; show (if _ then _ else _) = _; rw [← H1.out, ← H2.out, if_neg hd]⟩
        subst hx0 hy0
        clear hd
        go_wp2
        go_roundg k1
        case measure => have := P2.out; omega
        case rel => exact ⟨i + 1, _, by go_num, ⟨by omega⟩, ⟨by have := P2.out; omega⟩, H8, H5, H3, H4⟩
    · have hi : i = s.size := by have := P1.out; omega
      have P7 := P3.out
      rw [hi, List.drop_of_length_le (by rw [size_data]; exact Nat.le_refl _)] at P7
      have fin : AllPost s w (.returned (.tuple #[.string (strOfNums st.l), .int .i64 s.size, .bool false, .int .i64 0])) wr := ⟨_, _, _, _, rfl, by rw [P7]; exact ⟨rfl, rfl, rfl, rfl⟩, P6.out⟩
      clear hi P7
      go_wp2_with fail
      refine (text_calls P5.out).mono ?_
      rintro e w3 ⟨rfl, rfl⟩
      go_wp2
      (try simp only [Exit.inBlock, Exit.then]); refine bodyPost_ret (results_tmp4 rfl _ _ _) rfl ?_
      exact fin
end Go.Proofs.YtadbjbnnmooicaaDoor.Qw
