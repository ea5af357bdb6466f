/- The reference's Join, walked. -/
import Derived.Test.YticlppojbbocbaaDoorNameRef
namespace Go.Proofs.YticlppojbbocbaaDoor.Nm
open Go Go.Lib Go.Shelf Go.RowKit Go.Proofs.YticlppojbbocbaaDoorW.PrintWords Go.Proofs.YticlppojbbocbaaDoorW.PrintLast Go.Proofs.YticlppojbbocbaaDoor.Own Go.Proofs.YticlppojbbocbaaDoor.Srcw Go.Proofs.YticlppojbbocbaaDoor.Tab Go.Proofs.YticlppojbbocbaaDoor.PNamesKinds
set_option linter.unusedVariables false
set_option linter.unusedSimpArgs false
theorem join_no {a b : List UInt8} (h : ¬ (localL b = true ∧ (a = [] ∨ spaceL a = true) ∧ (fullL a b).length ≤ 48)) : joinL a b = ([], false) := by
  unfold joinL
  rw [if_neg (by simp only [Bool.and_eq_true, decide_eq_true_eq, Bool.or_eq_true, beq_iff_eq]; exact fun h1 => h ⟨h1.1.1, h1.1.2, h1.2⟩)]
theorem join_yes {a b : List UInt8} (h1 : localL b = true) (h2 : a = [] ∨ spaceL a = true) (h3 : (fullL a b).length ≤ 48) : joinL a b = (fullL a b, true) := by
  unfold joinL
  rw [if_pos (by simp only [Bool.and_eq_true, decide_eq_true_eq, Bool.or_eq_true, beq_iff_eq]; exact ⟨⟨h1, h2⟩, h3⟩)]
theorem list_ne {a : ByteArray} (h : a.size ≠ 0) : a.data.toList ≠ [] := fun e => h (by have := size_data a; rw [e] at this; exact this.symm)

set_option maxHeartbeats 4000000 in
set_option maxRecDepth 100000 in
theorem rjoin_calls (a b : ByteArray) (w : World) (ha : a.size ≤ 1048576) (hb : b.size ≤ 1048576) : Calls Tryd.prog 17 #[.string a, .string b] w (JoinPost a.data.toList b.data.toList w) := by
  have HSb := Aside0.mk (str_of b)
  have HL := Aside0.mk (rlocal_calls b w)
  have HP := Aside0.mk (fun w1 => rspace_calls a (by omega) w1)
  have HLb := Aside0.mk (size_data b)
  cases hlo : localL b.data.toList
  · rw [hlo] at HL
    have HLO := Aside0.mk hlo
    clear hlo ha hb
    go_enter Tryd.func17, Tryd.ntmps17
    go_wp2_with fail
    refine HL.out.mono ?_
    rintro e w1 ⟨rfl, hb1⟩
    go_wp2_with fail
    refine (HP.out w1).mono ?_
    rintro e w2 ⟨rfl, hb2⟩
    have B2 := Aside0.mk (hb1.trans (hb2.mono hb1.size))
    clear hb1 hb2
    generalize spaceL a.data.toList = sp
    go_wp2
    go_ret2
    exact join_post (join_no (fun h => by rw [HLO.out] at h; cases h.1)) rfl B2.out
  rw [hlo] at HL
  have HLO := Aside0.mk hlo
  have h16 := (local_parts hlo).2.1
  rw [HLb.out] at h16
  clear hlo
  by_cases h0 : a.size = 0
  · have he := empty_of h0
    subst he
    have hfl : (fullL (⟨#[]⟩ : ByteArray).data.toList b.data.toList).length = b.size := by rw [show fullL (⟨#[]⟩ : ByteArray).data.toList b.data.toList = b.data.toList from rfl]; exact HLb.out
    have HJ := Aside0.mk (join_yes (a := (⟨#[]⟩ : ByteArray).data.toList) HLO.out (.inl rfl) (by rw [hfl]; omega))
    have t1 : decide (48 < (b.size : Int)) = false := decide_eq_false (by omega)
    have t2 : decide (48 < b.size) = false := decide_eq_false (by omega)
    clear hfl h0 ha
    go_enter Tryd.func17, Tryd.ntmps17
    go_wp2_with fail
    refine HL.out.mono ?_
    rintro e w1 ⟨rfl, hb1⟩
    go_wp2_with fail
    refine (HP.out w1).mono ?_
    rintro e w2 ⟨rfl, hb2⟩
    have B2 := Aside0.mk (hb1.trans (hb2.mono hb1.size))
    clear hb1 hb2
    generalize spaceL (⟨#[]⟩ : ByteArray).data.toList = sp
    go_wp2
    go_ret2
    exact join_post HJ.out HSb.out.symm B2.out
  have t0 := ne_empty h0
  have t3 := ne_empty2 h0
  have HN := Aside0.mk (list_ne h0)
  cases hsp : spaceL a.data.toList
  · rw [hsp] at HP
    have HSP := Aside0.mk hsp
    clear hsp ha hb h16 h0
    go_enter Tryd.func17, Tryd.ntmps17
    go_wp2_with fail
    refine HL.out.mono ?_
    rintro e w1 ⟨rfl, hb1⟩
    go_wp2_with fail
    refine (HP.out w1).mono ?_
    rintro e w2 ⟨rfl, hb2⟩
    have B2 := Aside0.mk (hb1.trans (hb2.mono hb1.size))
    clear hb1 hb2
    go_wp2
    go_ret2
    exact join_post (join_no (fun h => by rcases h.2.1 with h1 | h1 <;> first | exact HN.out h1 | (rw [HSP.out] at h1; cases h1))) rfl B2.out
  · rw [hsp] at HP
    have HSP := Aside0.mk hsp
    have hf := full_str a b h0
    have hsz : (⟨#[123]⟩ ++ a ++ ⟨#[125]⟩ ++ b : ByteArray).size = (fullL a.data.toList b.data.toList).length := by rw [hf, str_size]
    generalize hg : (⟨#[123]⟩ ++ a ++ ⟨#[125]⟩ ++ b : ByteArray) = full at hf hsz
    have HF := Aside0.mk hf
    have HZ := Aside0.mk hsz
    by_cases h48 : full.size ≤ 48
    · have t1 : decide (48 < (full.size : Int)) = false := decide_eq_false (by omega)
      have t2 : decide (48 < full.size) = false := decide_eq_false (by omega)
      have HJ := Aside0.mk (join_yes HLO.out (.inr HSP.out) (by rw [← HZ.out]; exact h48))
      clear hsp h16 h0 hf hsz h48
      go_enter Tryd.func17, Tryd.ntmps17
      go_wp2_with fail
      refine HL.out.mono ?_
      rintro e w1 ⟨rfl, hb1⟩
      go_wp2_with fail
      refine (HP.out w1).mono ?_
      rintro e w2 ⟨rfl, hb2⟩
      have B2 := Aside0.mk (hb1.trans (hb2.mono hb1.size))
      clear hb1 hb2
      go_wp2
      go_ret2
      exact join_post HJ.out HF.out B2.out
    · have t1 : decide (48 < (full.size : Int)) = true := decide_eq_true (by omega)
      have t2 : decide (48 < full.size) = true := decide_eq_true (by omega)
      have HJ := Aside0.mk (join_no (a := a.data.toList) (b := b.data.toList) (fun h => h48 (by rw [HZ.out]; exact h.2.2)))
      clear hsp h16 h0 hf hsz h48
      go_enter Tryd.func17, Tryd.ntmps17
      go_wp2_with fail
      refine HL.out.mono ?_
      rintro e w1 ⟨rfl, hb1⟩
      go_wp2_with fail
      refine (HP.out w1).mono ?_
      rintro e w2 ⟨rfl, hb2⟩
      have B2 := Aside0.mk (hb1.trans (hb2.mono hb1.size))
      clear hb1 hb2
      go_wp2
      go_ret2
      exact join_post HJ.out rfl B2.out
end Go.Proofs.YticlppojbbocbaaDoor.Nm
