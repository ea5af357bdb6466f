/- The law EntitiesPlain, walked. -/
import Derived.Test.YtohkioijdokegaaDoorEntLives
import Derived.Test.YtohkioijdokegaaDoorOwn3
import Derived.Test.YtohkioijdokegaaDoorOwnStr
namespace Go.Proofs.YtohkioijdokegaaDoor.En
open Go Go.Lib Go.RowKit Go.Proofs.YtohkioijdokegaaDoorW.PrintWords Go.Proofs.YtohkioijdokegaaDoorW.PrintLast Go.Proofs.YtohkioijdokegaaDoor.Own Go.Proofs.YtohkioijdokegaaDoor.Nm Go.Proofs.YtohkioijdokegaaDoor.Srcw Go.Proofs.YtohkioijdokegaaDoor.Tab
set_option linter.unusedVariables false
set_option linter.unusedSimpArgs false
theorem infoByte : (Tryd.prog.info? 5).map (fun i => (i.zero, i.size, i.bytes)) = some (some (.int .u8 0), 1, 1) := by kernel_rfl
theorem index_no {l : List UInt8} (h : ∀ c ∈ l, c ≠ 38) : indexByte l 38 < 0 := by
  by_cases h1 : indexByte l 38 < 0
  · exact h1
  · obtain ⟨i, hi⟩ := Int.eq_ofNat_of_zero_le (Int.not_lt.1 h1)
    obtain ⟨h2, _⟩ := indexByte_some hi
    exact absurd rfl (h 38 (List.mem_of_getElem? h2))
theorem fill_plain {l : List UInt8} (h : ∀ c ∈ l, c ≠ 38) (s : ES) : fillE s l = (l, 0, l.length, s) := by
  unfold fillE
  rw [fill_end (Nat.lt_succ_self _) (index_no h), List.nil_append, Nat.zero_add]
theorem strNums_str (l : List UInt8) : strOfNums (bnums l) = str l := by
  rw [← str_of (strOfNums (bnums l)), bnums_str]

set_option maxHeartbeats 4000000 in
set_option maxRecDepth 100000 in
theorem law_EntitiesPlain (A : Option Addr) (len cap : Nat) (zs : List Int) (w : World) (hr : IsRow .u8 w A len cap zs) (hx : len * 1 ≤ 140737488351232) (hT : Tabs w) :
    Calls Tryd.prog 4 #[.slice A len cap] w fun e w' => e = .returned (.bool true) ∧ Below w.heap.size w w' := by
  have HT := Aside0.mk hT
  have HR := Aside0.mk hr
  have hlc := hr.len_le
  unfold maxLen at hlc
  clear hT hr
  obtain ⟨i0, hi0, _, hsz0, _⟩ := info_parts infoByte
  go_enter Tryd.func4, Tryd.ntmps4
  go_wp2_with (go_at_call 7; refine (new_calls _).mono ?_; rintro e w1 ⟨g, rfl, he, hb⟩; have E1 := Aside0.mk he; have B1 := Aside0.mk hb; clear he hb)
  go_loopg [4, 5] (len + 1) (fun gk v4 v5 wr => ∃ (i : Nat) (l : List UInt8), v5 = .int .i64 i ∧ Aside0 (i ≤ len ∧ i ≤ 400) ∧ Aside0 (len - i < gk) ∧ Aside0 (∀ c ∈ l, c ≠ 38) ∧ Aside0 (l.length ≤ i) ∧ Aside0 (IsE w.heap.size wr g ES.new) ∧ Aside0 (Kd.R (Kd.int .u8) 5 wr w.heap.size (fun k => g < k) v4 (bnums l)) ∧ Aside0 (Below w.heap.size w wr))
  case atStart => exact ⟨0, [], rfl, ⟨⟨Nat.zero_le _, by omega⟩⟩, ⟨by omega⟩, ⟨fun c hc => by cases hc⟩, ⟨Nat.le_refl _⟩, E1, ⟨Kd.R_nil _ _ _ _ _⟩, B1⟩
  case round =>
    obtain ⟨i, l, rfl, P1, P2, P3, PL, P4, P5, P6⟩ := hrel
    cases gk with
    | zero => exact absurd P2.out (by omega)
    | succ k1 =>
    have hp1 := P1.out
    by_cases hlt : i < len ∧ i < 400
    · obtain ⟨hlt, hlt4⟩ := hlt
      obtain ⟨xa, hA, hcell0, hwf⟩ := HR.out.at_ i hlt
      obtain ⟨b, hb⟩ := byte_of hwf
      rw [hb] at hcell0
      clear hwf
      have hcell := below_cell P6.out hcell0
      have tw : wrap64 ((i : Int) + 1) = (i : Int) + 1 := w64 (by omega) (by omega)
      have HF := Aside0.mk (show ∀ k, wr.heap.size ≤ k → g < k from fun k hk => by have := P4.out.lt; omega)
      have t1 : decide ((i : Int) < (len : Int)) = true := decide_eq_true (by omega)
      have t2 : decide ((i : Int) < 400) = true := decide_eq_true (by omega)
      have t3 : decide (i < len) = true := decide_eq_true (by omega)
      have t4 : decide (i < 400) = true := decide_eq_true (by omega)
      clear hb hcell0
      subst hA
      by_cases h38 : (b.toNat : Int) = 38
      · have q1 : ((b.toNat : Int) == 38) = true := by simp [h38]
        have q2 : decide ((b.toNat : Int) = 38) = true := by simp [h38]
        have q3 : (b.toNat == 38) = true := by simp; omega
        clear h38
        go_wp2
        go_roundg k1
        case measure => have := P2.out; omega
        case rel => exact ⟨i + 1, l, by go_num, ⟨⟨by omega, by omega⟩⟩, ⟨by have := P2.out; omega⟩, P3, ⟨by have := PL.out; omega⟩, P4, P5, P6⟩
      · have q1 : ((b.toNat : Int) == 38) = false := by simp; omega
        have q2 : decide ((b.toNat : Int) = 38) = false := by simp; omega
        have q3 : (b.toNat == 38) = false := by simp; omega
        have HNB := Aside0.mk (show ∀ c ∈ l ++ [b], c ≠ 38 from fun c hc => by
          rcases List.mem_append.1 hc with h | h
          · exact P3.out c h
          · rw [List.mem_singleton] at h; subst h; intro e; subst e; exact h38 rfl)
        have HN := Aside0.mk (show (bnums l).length ≤ 400 by rw [bnums_len]; have := PL.out; omega)
        clear h38
        go_wp2_with ((with_reducible refine gate_builtin (b := .append) (xs := #[.tmp 27, .tmp 32]) rfl ?_); at_builtin; refine Kd.R_append (Kd.int .u8) (w0 := w) w.heap.size rfl (.tmp 27) (.tmp 32) 36 5 (.int .u8 0) 1 rfl Tryd.underlying36 infoByte rfl (by decide) (by omega) u4 (bnums l) (b.toNat : Int) [.int .u8 (b.toNat : Int)] (fun k => g < k) (fun _ => False) rfl rfl ?aP (fun _ hk => hk.elim) HF.out P5.out P6.out P6.out.size (by have := HN.out; omega) ?_; (case aP => exact rfl); intro v2 w2 ho hb2 hg2 hat; rw [← bnums_app] at ho; have P7 := Aside0.mk ho; have P8 := Aside0.mk hb2; have P9 := Aside0.mk (P4.out.keep (fun k hk => hg2.block k (by have := P4.out.lt; omega) (fun h => by have := P5.out.1 k h.symm; omega))); clear ho hb2 hg2 hat)
        go_roundg k1
        case measure => have := P2.out; omega
        case rel => exact ⟨i + 1, l ++ [b], by go_num, ⟨⟨by omega, by omega⟩⟩, ⟨by have := P2.out; omega⟩, HNB, ⟨by have := PL.out; simp; omega⟩, P9, P7, P8⟩
    · have HFP := Aside0.mk (show fillE ES.new (str l).data.toList = (l, 0, l.length, ES.new) by rw [str_list, fill_plain P3.out])
      obtain ⟨A1, n1, hv⟩ := Kd.R_slice P5.out
      rw [bnums_len] at hv
      subst hv
      have HZ := Aside0.mk (show (str l).size ≤ 1048576 by rw [str_size]; have := PL.out; omega)
      have ways : ∀ (P : Prop), (decide ((i : Int) < (len : Int)) = false → decide (i < len) = false → P) → (decide ((i : Int) < (len : Int)) = true → decide (i < len) = true → decide ((i : Int) < 400) = false → decide (i < 400) = false → P) → P := by
        intro P ha hb
        by_cases h : i < len
        · exact hb (by simp; omega) (by simp; omega) (by simp; omega) (by simp; omega)
        · exact ha (by simp; omega) (by simp; omega)
      clear hlt hp1
      refine ways _ (fun q1 q2 => ?_) (fun q1 q2 q3 q4 => ?_) <;> clear ways
      all_goals
        go_wp2_with (first
          | ((with_reducible refine gate_dst (N := 37) rfl ?_); refine str_event rfl rfl rfl Tryd.underlying36 Tryd.underlying5 Tryd.underlying9 P5.out ?_; rw [strNums_str])
          | (go_at_call 14; refine (fill_calls P4.out HZ.out SI.new).mono ?_; rintro e w3 ⟨t, x, p, rfl, ht, hs, he, hf⟩; rw [HFP.out] at ht he; (have ht1 : t = str l := ht.1); (have ht2 : x = 0 := ht.2.1); (have ht3 : p = (l.length : Int) := ht.2.2); rw [ht1, ht2, ht3]; have E3 := Aside0.mk he; have B3 := Aside0.mk (P6.out.trans hf.1); have R3 := Aside0.mk (Kd.R_step P5.out (fun k h1 h2 => hf.2 k h1 h2)); clear ht ht1 ht2 ht3 hs he hf)
          | ((with_reducible refine gate_dst (N := 44) rfl ?_); refine str_event rfl rfl rfl Tryd.underlying36 Tryd.underlying5 Tryd.underlying9 R3.out ?_; rw [strNums_str])
          | (go_at_call 12; refine (told_calls E3.out).mono ?_; rintro e w4 ⟨rfl, rfl⟩; rw [show ES.new.told = 0 from rfl])
          | (go_at_call 13; refine (lives_calls _ (HT.out.below B3.out)).mono ?_; rintro e w5 ⟨rfl, hb⟩; have B5 := Aside0.mk (B3.out.trans (below_mono hb B3.out.size)); clear hb))
        go_ret
        exact ⟨rfl, B5.out⟩
end Go.Proofs.YtohkioijdokegaaDoor.En
