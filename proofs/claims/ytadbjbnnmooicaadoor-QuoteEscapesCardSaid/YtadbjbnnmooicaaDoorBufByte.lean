/- strings.Builder beside other rows of bytes: WriteByte. -/
import Derived.Test.YtadbjbnnmooicaaDoorBuf
namespace Go.Proofs.YtadbjbnnmooicaaDoor.Bld
open Go Go.RowKit Go.Proofs.YtadbjbnnmooicaaDoorW.PrintWords Go.Proofs.YtadbjbnnmooicaaDoorW.PrintLast Go.Proofs.YtadbjbnnmooicaaDoor.Own
set_option linter.unusedVariables false
set_option linter.unusedSimpArgs false

set_option maxHeartbeats 2000000 in
set_option maxRecDepth 100000 in
theorem buf_byte {B b : Nat} {ok : Nat → Prop} {w : World} {l : List Int} {c : Int} (h : BufAt B ok w b l) (hB : B ≤ w.heap.size) (hf : ∀ k, w.heap.size ≤ k → ok k) (hl : l.length + 1 ≤ 140737488355328) :
    Calls Tryd.prog 24 #[.pointer (some ⟨b, 0, none⟩), .int .u8 c] w fun e w' => e = .returned .nilIface ∧ BufAt B ok w' b (l ++ [c]) ∧ Left B ok b w w' := by
  have hlt := h.lt
  obtain ⟨h0, v, h1, h2⟩ := h
  have H0 := Aside0.mk h0
  have H1 := Aside0.mk h1
  have H2 := Aside0.mk h2
  have HB := Aside0.mk hB
  have HL := Aside0.mk (show (l.length + 1) * 1 ≤ 140737488355328 by omega)
  have HF := Aside0.mk (show ∀ k, w.heap.size ≤ k → ok k ∧ k ≠ b from fun k hk => ⟨hf k hk, by omega⟩)
  have c0 := (blk_cell h1 0).trans rfl
  have c1 := (blk_cell h1 1).trans rfl
  have HK := Aside0.mk (Any.Builder_copyCheck_used Tryd.laysB240 ⟨by kernel_rfl, by kernel_rfl⟩ b w c0)
  obtain ⟨A1, n1, hv⟩ := Kd.R_slice h2
  clear h0 h1 h2 hB hl hf
  subst hv
  go_enter Tryd.func24, Tryd.ntmps24
  go_wp2_with (first
    | (go_at_call 33; refine HK.out.mono ?_; rintro e w1 ⟨rfl, rfl⟩)
    | ((with_reducible refine gate_builtin (b := .append) (xs := #[.tmp 11, .tmp 13]) rfl ?_); at_builtin; refine Kd.R_append (Kd.int .u8) (w0 := w1) B rfl (.tmp 11) (.tmp 13) 34 5 (.int .u8 0) 1 rfl Tryd.underlying34 infoByte rfl (by decide) (by omega) _ l c [.int .u8 c] (fun k => ok k ∧ k ≠ b) (fun _ => False) rfl rfl ?aP (fun _ hk => hk.elim) HF.out H2.out (Below.refl _ _) HB.out HL.out ?_; (case aP => exact rfl); intro v1 w2 ho hb hg hat; have hb1 := (hg.block b hlt (fun e => (H2.out.1 b e.symm).2 rfl)).trans H1.out; have f1 := blk_frozen hb1 1; have d1 := (blk_cell hb1 1).trans rfl; have K1 := Aside0.mk ho; have K2 := Aside0.mk hb; have K3 := Aside0.mk hb1; have K4 := Aside0.mk hg; obtain ⟨A2, n2, hv2⟩ := Kd.R_slice ho; clear ho hb hb1 hg hat; subst hv2))
  go_ret
  refine ⟨rfl, ⟨H0.out, _, blk_put (cs' := #[.pointer (some ⟨b, 0, none⟩), .slice A2 (l ++ [c]).length n2]) K3.out 1 _ (by simp), Kd.R_far (p := ⟨b, 1, none⟩) K1.out (fun k hk => hk.2) _⟩, K2.out.setCell (p := ⟨b, 1, none⟩) H0.out _, fun k hk h3 h4 => ?_⟩
  rw [Below.heap_setCell _ _ _ _ h4]
  exact K4.out.block k hk (fun e => h3 (H2.out.1 k e.symm).1)
end Go.Proofs.YtadbjbnnmooicaaDoor.Bld
