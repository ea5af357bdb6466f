/- What src.Runes computes, for every text: its characters, or none; given what utf8.ValidString answers. -/
import Derived.Test.YticlppojbbocbaaDoorCharsF
import Derived.Test.YticlppojbbocbaaDoorOwn
import Derived.Lib.OthersKept
import Derived.WalkKit
import Derived.KernelRfl
import Derived.Outline
import Derived.Deep.LoopGhost
import Derived.OwnWalk
import Derived.Test.YticlppojbbocbaaDoorProg
namespace Go.Proofs.YticlppojbbocbaaDoor.Srcw
open Go.RowKit Go.Proofs.YticlppojbbocbaaDoorW.PrintWords Go.Proofs.YticlppojbbocbaaDoorW.PrintLast Go.Proofs.YticlppojbbocbaaDoor.Own
set_option linter.unusedVariables false
set_option linter.unusedSimpArgs false

theorem infoInt : (Tryd.prog.info? 3).map (fun i => (i.zero, i.size, i.bytes)) = some (some (.int .i64 0), 1, 8) := by kernel_rfl

def ValidSaid (s : ByteArray) (w : World) : Prop := Calls Tryd.prog 38 #[.string s] w fun e w' => e = .returned (.bool (Lib.validD s.data.toList)) ∧ Below w.heap.size w w'

def RunesPost (l : List UInt8) (w : World) (e : Ending) (w' : World) : Prop :=
  ∃ v : Value, e = .returned (.tuple #[v, .bool (Lib.validD l)]) ∧ Kd.R (Kd.int .i64) 3 w' w.heap.size (fun _ => True) v (charsL l) ∧ Below w.heap.size w w'

set_option maxHeartbeats 1000000 in
set_option maxRecDepth 100000 in
theorem runes_none (s : ByteArray) (w : World) (hv : Lib.validD s.data.toList = false) (hV : ValidSaid s w) :
    Calls Tryd.prog 27 #[.string s] w (RunesPost s.data.toList w) := by
  unfold ValidSaid at hV
  rw [hv] at hV
  have HV := Aside0.mk hV
  have Hv := Aside0.mk hv
  clear hv hV
  go_enter Tryd.func27, Tryd.ntmps27
  go_wp2_with (go_at_call 38; refine HV.out.mono ?_; rintro e w1 ⟨rfl, hb⟩)
  go_ret2
  unfold RunesPost charsL
  rw [Hv.out]
  exact ⟨_, rfl, Kd.R_nil _ _ _ _ _, hb⟩

set_option maxHeartbeats 2000000 in
set_option maxRecDepth 100000 in
theorem runes_some (s : ByteArray) (w : World) (hs : s.size < 17592186044416) (hv : Lib.validD s.data.toList = true) (hV : ValidSaid s w) :
    Calls Tryd.prog 27 #[.string s] w (RunesPost s.data.toList w) := by
  unfold ValidSaid at hV
  rw [hv] at hV
  have HV := Aside0.mk hV
  have Hv := Aside0.mk hv
  clear hv hV
  go_enter Tryd.func27, Tryd.ntmps27
  go_wp2_with (go_at_call 38; refine HV.out.mono ?_; rintro e w1 ⟨rfl, hb⟩)
  obtain ⟨it, hit⟩ : ∃ it, it = w1.heap.size := ⟨_, rfl⟩
  have hits : w.heap.size ≤ it := by rw [hit]; exact hb.size
  have HB0 := Aside0.mk (show Below w.heap.size w (w1.iter s 0) from below_alloc hb _)
  have HI0 := Aside0.mk (show (w1.iter s 0).heap[it]? = some (.stringIter s 0) by rw [hit]; exact World.iter_heap w1 s 0)
  have HIT := Aside0.mk hits
  have HIE := Aside0.mk hit
  clear hb hits
  go_loopg [4, 6] (s.size + 1) (fun gk v _ wr => ∃ (pos : Nat) (acc : List Int), Aside0 (pos ≤ s.size) ∧ Aside0 (acc.length ≤ pos) ∧ Aside0 (s.size - pos < gk) ∧ Aside0 (acc ++ runesR (s.data.toList.drop pos) = runesR s.data.toList) ∧ Aside0 (wr.heap[it]? = some (.stringIter s pos)) ∧ Aside0 (Kd.R (Kd.int .i64) 3 wr w.heap.size (fun k => k ≠ it) v acc) ∧ Aside0 (Below w.heap.size w wr))
  case atStart => exact ⟨0, [], ⟨Nat.zero_le _⟩, ⟨Nat.zero_le _⟩, ⟨by omega⟩, ⟨by simp⟩, HI0, ⟨Kd.R_nil _ _ _ _ _⟩, HB0⟩
  case round =>
    obtain ⟨pos, acc, P1, P2, P3, P4, P5, P6, P7⟩ := hrel
    cases gk with
    | zero => exact absurd P3.out (by omega)
    | succ k1 =>
    by_cases hlt : pos < s.size
    · have hn := fun ty => Lib.run_next_any_at (P := Tryd.prog) wr it s pos ty P5.out hlt
      obtain ⟨hw1, hle, hr, hst⟩ := rune_at s pos hlt
      generalize hq : Utf8.decode s pos = q at *
      obtain ⟨r, n⟩ := q
      simp only at *
      have P4' := Aside0.mk (show (acc ++ [(r : Int)]) ++ runesR (s.data.toList.drop (pos + n)) = runesR s.data.toList by rw [← P4.out, hst]; simp)
      have Q1 := Aside0.mk hle
      have Q2 := Aside0.mk hw1
      have P5' : (wr.iterAt it s (pos + n)).heap[it]? = some (.stringIter s (pos + n)) := Lib.iterAt_heap wr it s pos (pos + n) P5.out
      have P6' : Kd.R (Kd.int .i64) 3 (wr.iterAt it s (pos + n)) w.heap.size (fun k => k ≠ it) u4 acc := Kd.R_move P6.out (fun k hk => Lib.iterAt_other wr it k s (pos + n) hk)
      have P7' : Below w.heap.size w (wr.iterAt it s (pos + n)) := Lib.below_iterAt P7.out HIT.out s (pos + n)
      have hits := Lib.iterAt_size wr it s (pos + n)
      generalize hW : wr.iterAt it s (pos + n) = W at *
      clear hW hits hst hq hle hw1
      have R5 := Aside0.mk P5'
      have R6 := Aside0.mk P6'
      have R7 := Aside0.mk P7'
      clear P5' P6' P7'
      rw [HIE.out] at hn
      have hu : (acc.length + 1) * 8 ≤ 140737488355328 := by have := P2.out; have := P1.out; omega
      have HU := Aside0.mk hu
      have HF := Aside0.mk (show ∀ k, W.heap.size ≤ k → k ≠ it from fun k hk => by have := blk_lt R5.out; omega)
      clear hu
      go_wp2_with ((with_reducible refine gate_builtin (b := .append) (xs := #[.tmp 15, .tmp 18]) rfl ?_); at_builtin; refine Kd.R_append (Kd.int .i64) (w0 := w) w.heap.size rfl (.tmp 15) (.tmp 18) 47 3 (.int .i64 0) 8 rfl Tryd.underlying47 infoInt rfl (by decide) (by omega) u4 acc (r : Int) [.int .i64 (r : Int)] (fun k => k ≠ it) (fun _ => False) rfl rfl ?aP (fun _ hk => hk.elim) HF.out R6.out R7.out R7.out.size HU.out ?_; (case aP => exact rfl); intro v2 w2 ho hb hg hat)
      have R8 : w2.heap[it]? = some (.stringIter s (pos + n)) := blk_grown R5.out hg (fun h => (R6.out.1 it h.symm) rfl)
      go_roundg k1
      case measure => have := P3.out; have := Q2.out; omega
      case rel => exact ⟨pos + n, acc ++ [(r : Int)], ⟨Q1.out⟩, ⟨by rw [List.length_append]; have := P2.out; have := Q2.out; simp; omega⟩, ⟨by have := P3.out; have := Q2.out; omega⟩, P4', ⟨R8⟩, ⟨ho⟩, ⟨hb⟩⟩
    · have hpe : pos = s.size := by have := P1.out; omega
      have hn := fun ty => Lib.run_next_end_at (P := Tryd.prog) wr it s pos ty P5.out hlt
      rw [HIE.out] at hn
      have HPE := Aside0.mk hpe
      clear hpe
      go_wp2
      go_ret2
      unfold RunesPost charsL
      rw [Hv.out, if_pos rfl]
      have hfin := P4.out
      rw [HPE.out, List.drop_of_length_le (by simp), runesR_nil, List.append_nil] at hfin
      exact ⟨_, rfl, Kd.R_mono (by rw [← hfin]; exact P6.out) (fun _ _ => trivial), P7.out⟩
/-- src.Runes, for every text. -/
theorem runes_calls (s : ByteArray) (w : World) (hs : s.size < 17592186044416) (hV : ValidSaid s w) :
    Calls Tryd.prog 27 #[.string s] w (RunesPost s.data.toList w) := by
  cases hv : Lib.validD s.data.toList
  · exact runes_none s w hv hV
  · exact runes_some s w hs hv hV
end Go.Proofs.YticlppojbbocbaaDoor.Srcw
