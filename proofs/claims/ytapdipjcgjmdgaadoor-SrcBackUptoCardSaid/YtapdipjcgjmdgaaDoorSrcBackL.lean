/- The law SrcBack, walked: it returns true at all numbers, in every world that holds utf8's two tables. -/
import Derived.Test.YtapdipjcgjmdgaaDoorSrcBackP
import Derived.Test.YtapdipjcgjmdgaaDoorSrcSameSrcBack
import Derived.Test.YtapdipjcgjmdgaaDoorSrcLives
import Derived.Test.YtapdipjcgjmdgaaDoorOwn2
import Derived.Outline
namespace Go.Proofs.YtapdipjcgjmdgaaDoor.Srcw
open Go.RowKit Go.Proofs.YtapdipjcgjmdgaaDoorW.PrintWords Go.Proofs.YtapdipjcgjmdgaaDoorW.PrintLast Go.Proofs.YtapdipjcgjmdgaaDoor.Own Go.Proofs.YtapdipjcgjmdgaaDoor.Tab
set_option linter.unusedVariables false
set_option linter.unusedSimpArgs false

/-- What was gathered: the text of some characters. -/
def Text (T : ByteArray) (own : List Int) (i : Nat) : Prop := T.data.toList = encs own ∧ (∀ r ∈ own, mayN r = true) ∧ own.length ≤ i ∧ T.size ≤ 4 * i

theorem text_snoc {T : ByteArray} {own : List Int} {i : Nat} {r : Int} (h : Text T own i) (hm : mayN r = true) : Text (T ++ putS r) (own ++ [r]) (i + 1) := by
  obtain ⟨h1, h2, h3, h4⟩ := h
  obtain ⟨_, _, h5⟩ := enc_head r [] hm
  have hp : (putS r).data.toList = encL r := by rw [putS_yes hm]; rfl
  have hps : (putS r).size ≤ 4 := by rw [← size_data, hp]; exact h5
  refine ⟨?_, ?_, ?_, ?_⟩
  · rw [encs_snoc, ← h1, ← hp]; simp
  · intro x hx
    rcases List.mem_append.1 hx with hx | hx
    · exact h2 x hx
    · rw [List.mem_singleton] at hx; rw [hx]; exact hm
  · simp; omega
  · rw [ByteArray.size_append]; omega
theorem text_on {T : ByteArray} {own : List Int} {i : Nat} (h : Text T own i) : Text T own (i + 1) := ⟨h.1, h.2.1, by have := h.2.2.1; omega, by have := h.2.2.2; omega⟩

set_option maxHeartbeats 4000000 in
set_option maxRecDepth 100000 in
theorem law_SrcBack (A : Option Addr) (len cap : Nat) (zs : List Int) (w : World) (hr : IsRow .i64 w A len cap zs) (hx : len ≤ 1048576) (hT : Tabs w) :
    Calls Tryd.prog 6 #[.slice A len cap] w fun e w' => e = .returned (.bool true) ∧ Below w.heap.size w w' := by
  have HT := Aside0.mk hT
  have HR := Aside0.mk hr
  have hlc := hr.len_le
  unfold maxLen at hlc
  clear hT hr
  go_enter Tryd.func6, Tryd.ntmps6
  go_wp2_with fail
  go_loopg [3, 4, 5, 6, 7, 8] (len + 1) (fun gk v3 v4 v5 _ _ _ wr => ∃ (i : Nat) (T : ByteArray) (own : List Int), v5 = .int .i64 i ∧ v3 = .string T ∧ Aside0 (i ≤ len) ∧ Aside0 (len - i < gk) ∧ Aside0 (Text T own i) ∧ Aside0 (Kd.R (Kd.int .i64) 3 wr w.heap.size (fun _ => True) v4 own) ∧ Aside0 (Below w.heap.size w wr))
  case atStart => exact ⟨0, _, [], rfl, rfl, ⟨Nat.zero_le _⟩, ⟨by omega⟩, ⟨rfl, (fun _ h => by cases h), Nat.le_refl _, Nat.le_refl _⟩, ⟨Kd.R_nil _ _ _ _ _⟩, ⟨Below.refl _ _⟩⟩
  case round =>
    obtain ⟨i, T, own, rfl, rfl, P1, P2, PT, P5, P6⟩ := hrel
    cases gk with
    | zero => exact absurd P2.out (by omega)
    | succ k1 =>
    by_cases hlt : i < len
    · obtain ⟨xa, hA, hcell0, hwf⟩ := HR.out.at_ i hlt
      generalize hr : zs.getD i 0 = r at hcell0 hwf
      have H0W := Aside0.mk hcell0
      have hcell := below_cell P6.out hcell0
      clear hcell0 hr hwf
      subst hA
      go_wp2_with fail
      refine (put_calls r wr).mono ?_
      rintro e w2 ⟨rfl, hb2⟩
      have B2 : Aside0 (Below w.heap.size w w2) := ⟨below_step P6.out hb2⟩
      have R2 : Aside0 (Kd.R (Kd.int .i64) 3 w2 w.heap.size (fun _ => True) u4 own) := ⟨Kd.R_below P5.out hb2⟩
      clear hcell
      have hcell2 := below_cell B2.out H0W.out
      clear hb2
      go_wp2_with fail
      refine (PSrcPuts.hexaplaref01_May.calls r (mayN r) w2 (by rw [PSrcPuts.may_is]; rfl)).mono ?_
      rintro e w3 ⟨rfl, ⟨nd, rfl⟩⟩
      have B3 : Aside0 (Below w.heap.size w (w2.drewN nd)) := ⟨pw_below_drewN B2.out nd⟩
      have R3 : Aside0 (Kd.R (Kd.int .i64) 3 (w2.drewN nd) w.heap.size (fun _ => True) u4 own) := ⟨R2.out⟩
      cases hm : mayN r
      · have hp := putS_no hm
        rw [hp]
        have PT2 : Aside0 (Text T own (i + 1)) := ⟨text_on PT.out⟩
        clear hm hp
        go_wp2
        go_roundg k1
        case measure => have := P2.out; omega
        case rel => exact ⟨i + 1, T, own, by go_num, rfl, ⟨by omega⟩, ⟨by have := P2.out; omega⟩, PT2, R3, B3⟩
      · have PT2 : Aside0 (Text (T ++ putS r) (own ++ [r]) (i + 1)) := ⟨text_snoc PT.out hm⟩
        have hs1 : T.size ≤ 4194304 := by have := PT.out.2.2.2; have := P1.out; omega
        have hs2 : (putS r).size ≤ 4 := by rw [← size_data, putS_yes hm]; exact (enc_head r [] hm).2.2
        have HO := Aside0.mk (show own.length ≤ 1048576 from by have := PT.out.2.2.1; have := P1.out; omega)
        clear hm
        generalize putS r = S at *
        go_wp2_with ((with_reducible refine gate_builtin (b := .append) (xs := #[.tmp 46, .tmp 51]) rfl ?_); at_builtin; refine Kd.R_append (Kd.int .i64) (w0 := w) w.heap.size rfl (.tmp 46) (.tmp 51) 31 3 (.int .i64 0) 8 rfl Tryd.underlying31 infoInt rfl (by decide) (by omega) u4 own r [.int .i64 r] (fun _ => True) (fun _ => False) rfl rfl ?aP (fun _ hk => hk.elim) (fun _ _ => trivial) R3.out B3.out B3.out.size (by have := HO.out; omega) ?_; (case aP => exact rfl); intro v4 w4 ho hb hg hat; have R4 := Aside0.mk ho; have B4 := Aside0.mk hb; clear ho hb hg hat)
        go_roundg k1
        case measure => have := P2.out; omega
        case rel => exact ⟨i + 1, T ++ S, own ++ [r], by go_num, rfl, ⟨by omega⟩, ⟨by have := P2.out; omega⟩, PT2, R4, B4⟩
    · have hs1 : T.size ≤ 4194304 := by have := PT.out.2.2.2; have := P1.out; omega
      have HO := Aside0.mk (show own.length ≤ 1048576 from by have := PT.out.2.2.1; have := P1.out; omega)
      obtain ⟨hv, _⟩ := encs_back own PT.out.2.1
      have hch := charsL_encs own PT.out.2.1
      rw [← PT.out.1] at hv hch
      have HV := Aside0.mk hv
      have HCH := Aside0.mk hch
      clear hv hch
      obtain ⟨A4, c4, hv4, hc4, hC4⟩ := Kd.R_reads P5.out
      subst hv4
      have C4 := Aside0.mk hc4
      clear hc4 hC4
      go_wp2_with fail
      refine (runes_calls T wr (by omega) (valid_calls T wr (by omega) (HT.out.below P6.out))).mono ?_
      rintro e w5 ⟨v5, rfl, ho5, hb5⟩
      rw [show charsL T.data.toList = own from HCH.out] at ho5
      rw [show Lib.validD T.data.toList = true from HV.out]
      obtain ⟨A5, c5, hv5, hc5, hC5⟩ := Kd.R_reads ho5
      subst hv5
      obtain ⟨_, _, hC4⟩ := Kd.R_reads' (Kd.R_below P5.out hb5)
      have B5 : Aside0 (Below w.heap.size w w5) := ⟨below_step P6.out hb5⟩
      have K4 := Aside0.mk hC4
      have K5 := Aside0.mk hC5
      have C5 := Aside0.mk hc5
      clear ho5 hb5 hC4 hC5 hc5
      go_wp2_with fail
      refine (PSrcBack.hexaplalaw01_same.calls (own.length + 1) A5 c5 own A4 c4 own true w5 K5.out C5.out K4.out C4.out (PSrcBack.same_self own (by have := HO.out; omega))).mono ?_
      rintro e w6 ⟨rfl, ⟨nd, rfl⟩⟩
      have B6 : Aside0 (Below w.heap.size w (w5.drewN nd)) := Aside0.mk (pw_below_drewN B5.out nd)
      go_wp2_with (go_at_call 15; refine (lives_calls (w5.drewN nd) (HT.out.below B6.out)).mono ?_; rintro en w7 ⟨rfl, hb7⟩)
      go_ret
      exact ⟨rfl, below_step B6.out hb7⟩
end Go.Proofs.YtapdipjcgjmdgaaDoor.Srcw
