/- names.Space, walked. -/
import Derived.Test.YticlppojbbocbaaDoorNameLocal
import Derived.Test.YticlppojbbocbaaDoorSrcRunesW
import Derived.Test.YticlppojbbocbaaDoorTabs
namespace Go.Proofs.YticlppojbbocbaaDoor.Nm
open Go Go.Lib Go.Shelf Go.RowKit Go.Proofs.YticlppojbbocbaaDoorW.PrintWords Go.Proofs.YticlppojbbocbaaDoorW.PrintLast Go.Proofs.YticlppojbbocbaaDoor.Own Go.Proofs.YticlppojbbocbaaDoor.Srcw Go.Proofs.YticlppojbbocbaaDoor.Tab
set_option linter.unusedVariables false
set_option linter.unusedSimpArgs false

theorem and7_fin : ∀ n : Fin 128, bits BinOp.and IntKind.i32 (n.val : Int) 127 = (n.val : Int) := by decide +kernel
def oddIx (c : Int) : Int := Lib.indexByte [123, 125, 34, 60, 62, 38, 92] c.toNat.toUInt8
theorem odd_fin : ∀ n : Fin 128, oddB n.val = (decide (n.val < 33) || decide (0 ≤ oddIx (n.val : Int))) := by decide +kernel
theorem oddix_calls (c : Int) (w : World) : Calls Tryd.prog 29 #[.string ⟨#[123, 125, 34, 60, 62, 38, 92]⟩, .int .u8 c] w fun e w' => e = .returned (.int .i64 (oddIx c)) ∧ w' = w :=
  Tryd.strings_IndexByte _ _ _

set_option maxHeartbeats 2000000 in
set_option maxRecDepth 100000 in
theorem odd_calls (x : Nat) (w : World) : Calls Tryd.prog 28 #[.int .i32 x] w fun e w' => e = .returned (.bool (oddB x)) ∧ Below w.heap.size w w' := by
  by_cases h0 : x < 33
  · have hO : oddB x = true := by unfold oddB; rw [decide_eq_true (by omega)]
    rw [hO]
    have t1 : decide ((x : Int) < 33) = true := decide_eq_true (by omega)
    have t2 : decide (x < 33) = true := decide_eq_true h0
    clear hO h0
    go_enter Tryd.func28, Tryd.ntmps28
    go_wp2
    go_ret
    exact ⟨rfl, Below.refl _ _⟩
  have t1 : decide ((x : Int) < 33) = false := decide_eq_false (by omega)
  have t2 : decide (x < 33) = false := decide_eq_false h0
  by_cases h1 : x < 128
  · have ha : bits BinOp.and IntKind.i32 (x : Int) 127 = (x : Int) := and7_fin ⟨x, h1⟩
    have hO : oddB x = decide (0 ≤ oddIx (x : Int)) := by
      have h := odd_fin ⟨x, h1⟩
      simp only at h
      rw [t2, Bool.false_or] at h
      exact h
    have t3 : decide ((x : Int) < 128) = true := decide_eq_true (by omega)
    have t4 : decide (x < 128) = true := decide_eq_true h1
    have hu : IntKind.u8.wrap (x : Int) = (x : Int) := by simp [IntKind.wrap, IntKind.signed, IntKind.bits]; omega
    have HC := Aside0.mk (oddix_calls (x : Int))
    rw [hO]
    clear hO h0 h1
    generalize oddIx (x : Int) = v at HC ⊢
    go_enter Tryd.func28, Tryd.ntmps28
    by_cases hv : 0 ≤ v
    · have t5 : decide (0 ≤ v) = true := decide_eq_true hv
      go_wp2_with (go_at_call 29; refine (HC.out _).mono ?_; rintro e w1 ⟨rfl, rfl⟩)
      go_ret
      exact ⟨by rw [t5]; rfl, Below.refl _ _⟩
    · have t5 : decide (0 ≤ v) = false := decide_eq_false hv
      go_wp2_with (go_at_call 29; refine (HC.out _).mono ?_; rintro e w1 ⟨rfl, rfl⟩)
      go_ret
      exact ⟨by rw [t5]; rfl, Below.refl _ _⟩
  · have hO : oddB x = false := odd_high (by omega)
    rw [hO]
    have t3 : decide ((x : Int) < 128) = false := decide_eq_false (by omega)
    have t4 : decide (x < 128) = false := decide_eq_false h1
    clear hO h0 h1
    go_enter Tryd.func28, Tryd.ntmps28
    go_wp2_with fail
    refine (oddix_calls _ _).mono ?_
    rintro e w1 ⟨rfl, rfl⟩
    generalize oddIx _ = v
    by_cases hv : 0 ≤ v
    · have t5 : decide (0 ≤ v) = true := decide_eq_true hv
      go_wp2
      go_ret
      exact ⟨rfl, Below.refl _ _⟩
    · have t5 : decide (0 ≤ v) = false := decide_eq_false hv
      go_wp2
      go_ret
      exact ⟨rfl, Below.refl _ _⟩

/-- What ContainsFunc answers of it. -/
theorem contains_calls (s : ByteArray) (w : World) : Calls Tryd.prog 30 #[.string s, .func (.func 28) #[] #[]] w fun e w' => e = .returned (.bool (!(s.data.toList.all (fun c => !oddB c.toNat)))) ∧ Below w.heap.size w w' := by
  rw [← odd_contains s]
  exact Tryd.strings_ContainsFunc_grows 28 #[] (fun args w => by rfl) oddB s w (fun W x _ _ => odd_calls x W)

theorem space_valid {l : List UInt8} (h : validD l = false) : spaceL l = false := by unfold spaceL; rw [h]; rfl
theorem space_size {l : List UInt8} (h : ¬ (1 ≤ l.length ∧ l.length ≤ 48)) : spaceL l = false := by unfold spaceL; rw [decide_eq_false h]; simp
theorem space_rest {l : List UInt8} (h : validD l = true) (h1 : 1 ≤ l.length) (h2 : l.length ≤ 48) : spaceL l = l.all (fun c => !oddB c.toNat) := by unfold spaceL; rw [h, decide_eq_true ⟨h1, h2⟩]; rfl

set_option maxHeartbeats 2000000 in
set_option maxRecDepth 100000 in
theorem space_calls (s : ByteArray) (w : World) (hs : s.size < 17592186044416) (hT : Tabs w) : Calls Tryd.prog 13 #[.string s] w fun e w' => e = .returned (.bool (spaceL s.data.toList)) ∧ Below w.heap.size w w' := by
  have HC := Aside0.mk (runes_calls s w hs (valid_calls s w (by omega) hT))
  have HL := Aside0.mk (size_data s)
  clear hT
  go_enter Tryd.func13, Tryd.ntmps13
  go_wp2_with fail
  refine HC.out.mono ?_
  rintro e w1 ⟨v, rfl, hr, hb⟩
  obtain ⟨A1, n1, hv⟩ := Kd.R_slice hr
  have HB := Aside0.mk hb
  clear hr hb
  subst hv
  cases hv : validD s.data.toList
  · have HV := Aside0.mk (space_valid hv)
    clear hv
    go_wp2
    go_ret
    exact ⟨by rw [HV.out]; rfl, HB.out⟩
  by_cases h0 : s.size = 0
  · have he : s = ⟨#[]⟩ := by
      cases s with
      | mk d => congr 1; exact Array.eq_empty_of_size_eq_zero h0
    have HV := Aside0.mk (space_size (l := s.data.toList) (by rw [HL.out]; omega))
    subst he
    clear hv h0
    go_wp2
    go_ret
    exact ⟨by rw [HV.out]; rfl, HB.out⟩
  have t0 := ne_empty h0
  have t3 := ne_empty2 h0
  by_cases h1 : 48 < s.size
  · have HV := Aside0.mk (space_size (l := s.data.toList) (by rw [HL.out]; omega))
    have t1 : decide ((s.size : Int) ≤ 48) = false := decide_eq_false (by omega)
    have t2 : decide (s.size ≤ 48) = false := decide_eq_false (by omega)
    clear hv h0 h1
    go_wp2
    go_ret
    exact ⟨by rw [HV.out]; rfl, HB.out⟩
  · have HV := Aside0.mk (space_rest hv (by rw [HL.out]; omega) (by rw [HL.out]; omega))
    have t1 : decide ((s.size : Int) ≤ 48) = true := decide_eq_true (by omega)
    have t2 : decide (s.size ≤ 48) = true := decide_eq_true (by omega)
    clear hv h0 h1
    go_wp2_with fail
    refine (contains_calls s w1).mono ?_
    rintro e w2 ⟨rfl, hb2⟩
    have B2 := Aside0.mk (HB.out.trans (hb2.mono HB.out.size))
    clear hb2
    generalize s.data.toList.all (fun c => !oddB c.toNat) = r at HV ⊢
    cases r
    all_goals
      go_wp2
      go_ret
      exact ⟨by rw [HV.out]; rfl, B2.out⟩
end Go.Proofs.YticlppojbbocbaaDoor.Nm
