/- The law EntitiesTells, walked. -/
import Derived.Test.YtohkioijdokegaaDoorEntPlainL
import Derived.Test.YtohkioijdokegaaDoorEntScan
namespace Go.Proofs.YtohkioijdokegaaDoor.En
open Go Go.Lib Go.RowKit Go.Proofs.YtohkioijdokegaaDoorW.PrintWords Go.Proofs.YtohkioijdokegaaDoorW.PrintLast Go.Proofs.YtohkioijdokegaaDoor.Own Go.Proofs.YtohkioijdokegaaDoor.Nm Go.Proofs.YtohkioijdokegaaDoor.Srcw Go.Proofs.YtohkioijdokegaaDoor.Tab
set_option linter.unusedVariables false
set_option linter.unusedSimpArgs false
/-- What is known of the state once a name is defined. -/
theorem def_known {n t : ByteArray} {S1 : ES} (h : defE ES.new n t = (0, S1)) : localL n.data.toList = true ∧ fourN n = none ∧ S1.f n = some t ∧ S1.told = 0 := by
  unfold defE at h
  by_cases h1 : localL n.data.toList = false
  · rw [if_pos h1] at h; cases h
  by_cases h2 : validD t.data.toList = false
  · rw [if_neg h1, if_pos h2] at h; cases h
  by_cases h3 : ((fourN n).isSome || (ES.new.f n).isSome) = true
  · rw [if_neg h1, if_neg h2, if_pos h3] at h; cases h
  by_cases h4 : 200 < ES.new.size + n.size + t.size
  · rw [if_neg h1, if_neg h2, if_neg h3, if_pos h4] at h; cases h
  rw [if_neg h1, if_neg h2, if_neg h3, if_neg h4] at h
  injection h with _ h
  subst h
  refine ⟨by simpa using h1, ?_, by simp, rfl⟩
  cases h5 : fourN n with
  | none => rfl
  | some x => rw [h5] at h3; exact absurd rfl h3
def toldS (S1 : ES) (k : Nat) : ES := { S1 with told := (k : Int) }
theorem get_some {n t : ByteArray} {s : ES} (h4 : fourN n = none) (hf : s.f n = some t) (h : ¬ 40 ≤ s.told) : getE s n = (t, 0, { s with told := s.told + 1 }) := by
  unfold getE; rw [h4]; simp only [hf]; rw [if_neg h]
theorem get_over {n t : ByteArray} {s : ES} (h4 : fourN n = none) (hf : s.f n = some t) (h : 40 ≤ s.told) : getE s n = (⟨#[]⟩, 13, s) := by
  unfold getE; rw [h4]; simp only [hf]; rw [if_pos h]
theorem told_get {n t : ByteArray} {S1 : ES} (h4 : fourN n = none) (hf : S1.f n = some t) (k : Nat) (hk : k < 40) : getE (toldS S1 k) n = (t, 0, toldS S1 (k + 1)) := by
  refine (get_some (s := toldS S1 k) h4 hf (by show ¬ (40 : Int) ≤ (k : Int); omega)).trans ?_
  unfold toldS
  push_cast
  rfl
theorem told_getx {n t : ByteArray} {S1 : ES} (h4 : fourN n = none) (hf : S1.f n = some t) : getE (toldS S1 40) n = (⟨#[]⟩, 13, toldS S1 40) := get_over (s := toldS S1 40) h4 hf (by show (40 : Int) ≤ (40 : Nat); decide)
theorem SI.told {S1 : ES} (h : SI S1) {k : Nat} (hk : k ≤ 40) : SI (toldS S1 k) := ⟨by show 0 ≤ (k : Int) ∧ (k : Int) ≤ 1000000000; omega, h.2⟩

theorem ref_list (a n : ByteArray) : (a ++ ⟨#[38]⟩ ++ n ++ ⟨#[59]⟩ : ByteArray).data.toList = a.data.toList ++ 38 :: (n.data.toList ++ [59]) := by
  simp [ByteArray.data_append]
theorem app_str (a b : ByteArray) : str (a.data.toList ++ b.data.toList) = a ++ b := by
  have : (a ++ b).data.toList = a.data.toList ++ b.data.toList := by simp [ByteArray.data_append]
  rw [← this, str_of]

set_option maxHeartbeats 8000000 in
set_option maxRecDepth 100000 in
theorem law_EntitiesTells (n : ByteArray) (hn : n.size ≤ 1048576) (t : ByteArray) (ht : t.size ≤ 1048576) (fr0 : ByteArray) (hf0 : fr0.size ≤ 1048576) (w : World) (hT : Tabs w) :
    Calls Tryd.prog 5 #[.string n, .string t, .string fr0] w fun e w' => e = .returned (.bool true) ∧ Below w.heap.size w w' := by
  have HT := Aside0.mk hT
  have HNS := Aside0.mk hn
  have HTS := Aside0.mk ht
  have HSD := Aside0.mk (SI.def SI.new (n := n) ht)
  obtain ⟨dx, S1, hd⟩ : ∃ dx S1, defE ES.new n t = (dx, S1) := ⟨_, _, rfl⟩
  rw [hd] at HSD
  have HD := Aside0.mk hd
  clear hT hn ht hd
  by_cases hdx : dx = 0
  case neg =>
    have q1 : decide (dx = 0) = false := decide_eq_false hdx
    have q2 : (dx == 0) = false := by simpa using hdx
    clear hdx
    go_enter Tryd.func5, Tryd.ntmps5
    go_wp2_with (first
      | (go_at_call 7; refine (new_calls _).mono ?_; rintro e w1 ⟨g, rfl, he, hb⟩; have E1 := Aside0.mk he; have B1 := Aside0.mk hb; clear he hb)
      | (go_at_call 15; refine (def_calls E1.out HNS.out HTS.out (by decide) (by decide) (HT.out.below B1.out)).mono ?_; rintro e w2 ⟨x, rfl, hx, he, hb, ha⟩; rw [HD.out] at hx he; (have hx1 : x = dx := hx); rw [hx1]; have E2 := Aside0.mk he; have B2 := Aside0.mk (B1.out.trans hb); clear hx hx1 he hb ha)
      | (go_at_call 13; refine (lives_calls _ (HT.out.below B2.out)).mono ?_; rintro e w5 ⟨rfl, hb⟩; have B5 := Aside0.mk (B2.out.trans (below_mono hb B2.out.size)); clear hb))
    go_ret
    exact ⟨rfl, B5.out⟩
  case pos =>
    subst hdx
    obtain ⟨k1, k2, k3, k4⟩ := def_known HD.out
    have HL := Aside0.mk k1
    have H4 := Aside0.mk k2
    have H5 := Aside0.mk k3
    have HS0 := Aside0.mk (show S1 = toldS S1 0 by cases S1; simp only at k4; subst k4; rfl)
    clear k1 k2 k3 k4
    have ways : ∀ (P : Prop), (fr0.size ≤ 100 → decide (100 < (fr0.size : Int)) = false → decide (100 < fr0.size) = false → P) → (100 ≤ fr0.size → (100 : Int) ≤ (fr0.size : Int) → decide (100 < (fr0.size : Int)) = true → decide (100 < fr0.size) = true → P) → P := by
      intro P ha hb
      by_cases h : fr0.size ≤ 100
      · exact ha h (by simp; omega) (by simp; omega)
      · exact hb (by omega) (by omega) (by simp; omega) (by simp; omega)
    refine ways _ (fun q0 q1 q2 => ?_) (fun q0 qz q1 q2 => ?_) <;> clear ways
    all_goals
      go_enter Tryd.func5, Tryd.ntmps5
      go_wp2_with (first
        | (go_at_call 7; refine (new_calls _).mono ?_; rintro e w1 ⟨g, rfl, he, hb⟩; have E1 := Aside0.mk he; have B1 := Aside0.mk hb; clear he hb)
        | (go_at_call 15; refine (def_calls E1.out HNS.out HTS.out (by decide) (by decide) (HT.out.below B1.out)).mono ?_; rintro e w2 ⟨x, rfl, hx, he, hb, ha⟩; rw [HD.out] at hx he; (have hx1 : x = 0 := hx); rw [hx1]; have E2 := Aside0.mk he; have B2 := Aside0.mk (B1.out.trans hb); clear hx hx1 he hb ha))
      first
        | (have := qz; obtain ⟨fr, hfr⟩ : ∃ fr, fr0.extract 0 100 = fr := ⟨_, rfl⟩; have hfs : fr.size ≤ 100 := (by have h9 : (fr0.extract 0 100).size = min 100 fr0.size - 0 := ByteArray.size_extract; rw [hfr] at h9; omega); rw [hfr]; clear hfr)
        | (obtain ⟨fr, hfr⟩ : ∃ fr, fr = fr0 := ⟨_, rfl⟩; subst hfr; have hfs : fr.size ≤ 100 := q0)
      go_loopg [8] (fr.size + 1) (fun gk v8 wr => ∃ (i : Nat), v8 = .int .i64 i ∧ Aside0 (i ≤ fr.size) ∧ Aside0 (fr.size - i < gk) ∧ Aside0 (∀ c ∈ fr.data.toList.take i, c ≠ 38) ∧ Aside0 (IsE w.heap.size wr g S1) ∧ Aside0 (Below w.heap.size w wr))
      case atStart => exact ⟨0, rfl, ⟨Nat.zero_le _⟩, ⟨by omega⟩, ⟨fun c hc => by rw [List.take_zero] at hc; cases hc⟩, E2, B2⟩
      case round =>
        obtain ⟨i, rfl, P1, P2, P3, P4, P5⟩ := hrel
        cases gk with
        | zero => exact absurd P2.out (by omega)
        | succ k1 =>
        have hp1 := P1.out
        by_cases hlt : i < fr.size
        · have t1 : decide ((i : Int) < (fr.size : Int)) = true := decide_eq_true (by omega)
          have t2 : decide (i < fr.size) = true := decide_eq_true (by omega)
          have tw : wrap64 ((i : Int) + 1) = (i : Int) + 1 := w64 (by omega) (by omega)
          by_cases h38 : fr[i].toNat = 38
          · have q1 : (fr[i].toNat == 38) = true := by simp [h38]
            have q2 : ((fr[i].toNat : Int) == 38) = true := by simp [h38]
            have q3 : decide ((fr[i].toNat : Int) = 38) = true := by simp [h38]
            clear h38
            go_wp2_with (first
              | (go_at_call 13; refine (lives_calls _ (HT.out.below P5.out)).mono ?_; rintro e w5 ⟨rfl, hb⟩; have B5 := Aside0.mk (P5.out.trans (below_mono hb P5.out.size)); clear hb))
            go_ret
            exact ⟨rfl, B5.out⟩
          · have q1 : (fr[i].toNat == 38) = false := by simp; omega
            have q2 : ((fr[i].toNat : Int) == 38) = false := by simp; omega
            have q3 : decide ((fr[i].toNat : Int) = 38) = false := by simp; omega
            have HNX := Aside0.mk (show ∀ c ∈ fr.data.toList.take (i + 1), c ≠ 38 from fun c hc => by
              rw [take_snoc fr i hlt] at hc
              rcases List.mem_append.1 hc with h | h
              · exact P3.out c h
              · rw [List.mem_singleton, List.getD_eq_getElem?_getD, List.getElem?_eq_getElem (by rw [size_data]; exact hlt)] at h
                subst h
                intro e
                exact h38 (congrArg UInt8.toNat e))
            clear h38
            go_wp2
            go_roundg k1
            case measure => have := P2.out; omega
            case rel => exact ⟨i + 1, by go_num, ⟨by omega⟩, ⟨by have := P2.out; omega⟩, HNX, P4, P5⟩
        · have hi : i = fr.size := by omega
          have HNF := Aside0.mk (show ∀ c ∈ fr.data.toList, c ≠ 38 from by
            have := P3.out
            rwa [hi, List.take_of_length_le (by rw [size_data]; exact Nat.le_refl _)] at this)
          have t1 : decide ((i : Int) < (fr.size : Int)) = false := decide_eq_false (by omega)
          have t2 : decide (i < fr.size) = false := decide_eq_false (by omega)
          go_wp2
          clear hi t1 t2 hlt hp1
          have hns : n.size ≤ 16 := by have := ((local_iff _).1 HL.out).1.2; rwa [size_data] at this
          have E0 := Aside0.mk (show IsE w.heap.size wr g (toldS S1 0) from by rw [← HS0.out]; exact P4.out)
          go_loopg [9] 46 (fun gk v9 wr => ∃ (k : Nat), v9 = .int .i64 k ∧ Aside0 (k ≤ 45) ∧ Aside0 (45 - k < gk) ∧ Aside0 (IsE w.heap.size wr g (toldS S1 (min k 40))) ∧ Aside0 (Below w.heap.size w wr))
          case atStart => exact ⟨0, rfl, ⟨by omega⟩, ⟨by omega⟩, E0, P5⟩
          case round =>
            obtain ⟨k, rfl, D1, D2, D3, D4⟩ := hrel
            cases gk with
            | zero => exact absurd D2.out (by omega)
            | succ k2 =>
            have hk := D1.out
            by_cases hk45 : k < 45
            · have z1 : decide ((k : Int) < 45) = true := decide_eq_true (by omega)
              have z2 : decide (k < 45) = true := decide_eq_true (by omega)
              have z3 : wrap64 ((k : Int) + 1) = (k : Int) + 1 := w64 (by omega) (by omega)
              have HZ := Aside0.mk (show (fr ++ ⟨#[38]⟩ ++ n ++ ⟨#[59]⟩ : ByteArray).size ≤ 1048576 by
                rw [ByteArray.size_append, ByteArray.size_append, ByteArray.size_append]
                show fr.size + 1 + n.size + 1 ≤ _
                omega)
              have hpar : (Int.tmod (k : Int) 2 = 0) ∨ (Int.tmod (k : Int) 2 = 1) := by rw [Int.tmod_eq_emod_of_nonneg (by omega)]; omega
              have hts := HTS.out
              by_cases hk40 : k < 40
              · have z4 : decide (40 ≤ (k : Int)) = false := decide_eq_false (by omega)
                have z5 : decide (40 ≤ k) = false := decide_eq_false (by omega)
                have hmin : min k 40 = k := by omega
                have hmin1 : min (k + 1) 40 = k + 1 := by omega
                rw [hmin] at D3
                have HGT := Aside0.mk (told_get H4.out H5.out k hk40)
                have HFT := Aside0.mk (show fillE (toldS S1 k) (fr ++ ⟨#[38]⟩ ++ n ++ ⟨#[59]⟩ : ByteArray).data.toList = (fr.data.toList ++ t.data.toList, 0, (fr ++ ⟨#[38]⟩ ++ n ++ ⟨#[59]⟩ : ByteArray).data.toList.length, toldS S1 (k + 1)) by
                  rw [ref_list]
                  exact fill_tell HL.out HNF.out (by rw [str_of]; exact HGT.out))
                have HM := Aside0.mk hmin1
                have HKS := Aside0.mk hk40
                have HSI := Aside0.mk (HSD.out.told (k := k) (by omega))
                clear hmin hmin1 hk40
                rcases hpar with hp | hp
                all_goals
                  go_wp2_with (first
                    | (go_at_call 16; refine (get_calls D3.out HNS.out HSI.out.1).mono ?_; rintro e w5 ⟨t', x', rfl, ht, he, hb, hj⟩; rw [HGT.out] at ht he; (have ht1 : t' = t := ht.1); (have ht2 : x' = 0 := ht.2); rw [ht1, ht2]; have E5 := Aside0.mk he; have B5 := Aside0.mk (D4.out.trans hb); clear ht ht1 ht2 he hb hj)
                    | (go_at_call 14; refine (fill_calls D3.out HZ.out HSI.out).mono ?_; rintro e w5 ⟨t', x', p, rfl, ht, hs, he, hf⟩; rw [HFT.out] at ht he; (have ht1 : t' = fr ++ t := ht.1.trans (app_str _ _)); (have ht2 : x' = 0 := ht.2.1); rw [ht1, ht2]; have E5 := Aside0.mk he; have B5 := Aside0.mk (D4.out.trans hf.1); clear ht ht1 ht2 hs he hf))
                  go_roundg k2
                  case measure => have := D2.out; omega
                  case rel => exact ⟨k + 1, by go_num, ⟨by omega⟩, ⟨by have := D2.out; omega⟩, ⟨by rw [HM.out]; exact E5.out⟩, B5⟩
              · have z4 : decide (40 ≤ (k : Int)) = true := decide_eq_true (by omega)
                have z5 : decide (40 ≤ k) = true := decide_eq_true (by omega)
                have hmin : min k 40 = 40 := by omega
                have hmin1 : min (k + 1) 40 = 40 := by omega
                rw [hmin] at D3
                have HGT := Aside0.mk (told_getx H4.out H5.out)
                obtain ⟨fp, hfp⟩ := fill_tellx (s := toldS S1 40) (s' := toldS S1 40) (t := ⟨#[]⟩) (x := 13) HL.out HNF.out (by rw [str_of]; exact HGT.out) (by decide)
                have HFT := Aside0.mk (show fillE (toldS S1 40) (fr ++ ⟨#[38]⟩ ++ n ++ ⟨#[59]⟩ : ByteArray).data.toList = ([], 13, fp, toldS S1 40) by
                  rw [ref_list]
                  exact hfp)
                have HM := Aside0.mk hmin1
                have HSI := Aside0.mk (HSD.out.told (k := 40) (by omega))
                clear hmin hmin1 hk40 hfp
                rcases hpar with hp | hp
                all_goals
                  go_wp2_with (first
                    | (go_at_call 16; refine (get_calls D3.out HNS.out HSI.out.1).mono ?_; rintro e w5 ⟨t', x', rfl, ht, he, hb, hj⟩; rw [HGT.out] at ht he; (have ht1 : t' = ⟨#[]⟩ := ht.1); (have ht2 : x' = 13 := ht.2); rw [ht1, ht2]; have E5 := Aside0.mk he; have B5 := Aside0.mk (D4.out.trans hb); clear ht ht1 ht2 he hb hj)
                    | (go_at_call 14; refine (fill_calls D3.out HZ.out HSI.out).mono ?_; rintro e w5 ⟨t', x', p, rfl, ht, hs, he, hf⟩; rw [HFT.out] at ht he; (have ht1 : t' = ⟨#[]⟩ := ht.1); (have ht2 : x' = 13 := ht.2.1); rw [ht1, ht2]; have E5 := Aside0.mk he; have B5 := Aside0.mk (D4.out.trans hf.1); clear ht ht1 ht2 hs he hf))
                  go_roundg k2
                  case measure => have := D2.out; omega
                  case rel => exact ⟨k + 1, by go_num, ⟨by omega⟩, ⟨by have := D2.out; omega⟩, ⟨by rw [HM.out]; exact E5.out⟩, B5⟩
            · obtain rfl : k = 45 := by omega
              go_wp2_with (first
                | (go_at_call 12; refine (told_calls D3.out).mono ?_; rintro e w4 ⟨rfl, rfl⟩; rw [show (toldS S1 (min 45 40)).told = 40 from rfl])
                | (go_at_call 13; refine (lives_calls _ (HT.out.below D4.out)).mono ?_; rintro e w5 ⟨rfl, hb⟩; have B5 := Aside0.mk (D4.out.trans (below_mono hb D4.out.size)); clear hb))
              go_ret
              exact ⟨rfl, B5.out⟩
end Go.Proofs.YtohkioijdokegaaDoor.En
