/- The law EntitiesQuotes, walked. (Printed by gen_quotes.py.) -/
import Derived.Test.YtohkioijdokegaaDoorEntPlainL
import Derived.Test.YtohkioijdokegaaDoorEntScan
import Derived.Test.YtohkioijdokegaaDoorOwnBytes
namespace Go.Proofs.YtohkioijdokegaaDoor.En
open Go Go.Lib Go.RowKit Go.Proofs.YtohkioijdokegaaDoorW.PrintWords Go.Proofs.YtohkioijdokegaaDoorW.PrintLast Go.Proofs.YtohkioijdokegaaDoor.Own Go.Proofs.YtohkioijdokegaaDoor.Nm Go.Proofs.YtohkioijdokegaaDoor.Srcw Go.Proofs.YtohkioijdokegaaDoor.Tab
set_option linter.unusedVariables false
set_option linter.unusedSimpArgs false
/-- A byte, its sign written as a reference. -/
def encB (c : UInt8) : List UInt8 := if c = 60 then [38, 108, 116, 59] else if c = 62 then [38, 103, 116, 59] else if c = 38 then [38, 97, 109, 112, 59] else if c = 34 then [38, 113, 117, 111, 116, 59] else [c]
def encL (l : List UInt8) : List UInt8 := l.flatMap encB
theorem enc_len (l : List UInt8) : (encL l).length ≤ 6 * l.length := by
  induction l with
  | nil => simp [encL]
  | cons c t ih =>
    have : (encB c).length ≤ 6 := by unfold encB; repeat' split
                                     all_goals simp
    simp only [encL, List.flatMap_cons, List.length_append, List.length_cons] at ih ⊢
    omega
theorem get_four {s : ES} {n t : ByteArray} (h : fourN n = some t) : getE s n = (t, 0, s) := by unfold getE; rw [h]
theorem fill_enc (s : ES) : ∀ (l : List UInt8) (k p : Nat) (out : List UInt8), (encL l).length < k → fillB k p (encL l) out s = (out ++ l, 0, p + (encL l).length, s) := by
  intro l
  induction l with
  | nil =>
    intro k p out hk
    obtain ⟨k, rfl⟩ : ∃ d, k = d + 1 := ⟨k - 1, by simp [encL] at hk; omega⟩
    simp [encL, fillB]
  | cons c t ih =>
    intro k p out hk
    obtain ⟨k, rfl⟩ : ∃ d, k = d + 1 := ⟨k - 1, by omega⟩
    have e : encL (c :: t) = encB c ++ encL t := by simp [encL]
    rw [e] at hk ⊢
    rw [List.length_append] at hk
    have one : ∀ (nm : List UInt8) (z : UInt8), encB c = 38 :: (nm ++ [59]) → localL nm = true → fourN (str nm) = some ⟨#[z]⟩ → c = z → fillB (k + 1) p (encB c ++ encL t) out s = (out ++ c :: t, 0, p + (encB c ++ encL t).length, s) := by
      intro nm z h1 h2 h3 h4
      subst h4
      rw [h1] at hk ⊢
      simp only [List.length_cons, List.length_append, List.length_nil] at hk
      rw [show (38 :: (nm ++ [59])) ++ encL t = 38 :: (nm ++ 59 :: encL t) by simp, fill_ref h2 (get_four h3), ih _ _ _ (by omega)]
      simp
      omega
    by_cases h1 : c = 60
    · exact one [108, 116] 60 (by subst h1; rfl) (by decide) (by decide) h1
    by_cases h2 : c = 62
    · exact one [103, 116] 62 (by subst h2; rfl) (by decide) (by decide) h2
    by_cases h3 : c = 38
    · exact one [97, 109, 112] 38 (by subst h3; rfl) (by decide) (by decide) h3
    by_cases h4 : c = 34
    · exact one [113, 117, 111, 116] 34 (by subst h4; rfl) (by decide) (by decide) h4
    have h5 : encB c = [c] := by unfold encB; rw [if_neg h1, if_neg h2, if_neg h3, if_neg h4]
    rw [h5] at hk ⊢
    simp only [List.length_cons, List.length_nil] at hk
    rw [List.singleton_append, fillB, if_neg h3, ih _ _ _ (by omega)]
    simp
    omega
theorem fill_quotes (s : ES) (l : List UInt8) : fillE s (encL l) = (l, 0, (encL l).length, s) := by
  unfold fillE
  rw [fill_enc s l _ _ _ (Nat.lt_succ_self _), List.nil_append, Nat.zero_add]
theorem str_mk (l : List UInt8) : (⟨l.toArray⟩ : ByteArray) = str l := rfl
theorem told_new : ES.new.told = 0 := rfl
theorem below_mono' {w w' : World} (h : Below w.heap.size w w') : Below w.heap.size w w' := h
theorem enc_ways (c : UInt8) : (c = 60 ∧ encB c = [38, 108, 116, 59]) ∨ (c = 62 ∧ encB c = [38, 103, 116, 59]) ∨ (c = 38 ∧ encB c = [38, 97, 109, 112, 59]) ∨ (c = 34 ∧ encB c = [38, 113, 117, 111, 116, 59]) ∨ ((c ≠ 60 ∧ c ≠ 62 ∧ c ≠ 38 ∧ c ≠ 34) ∧ encB c = [c]) := by
  by_cases h1 : c = 60
  · subst h1; exact .inl ⟨rfl, rfl⟩
  by_cases h2 : c = 62
  · subst h2; exact .inr (.inl ⟨rfl, rfl⟩)
  by_cases h3 : c = 38
  · subst h3; exact .inr (.inr (.inl ⟨rfl, rfl⟩))
  by_cases h4 : c = 34
  · subst h4; exact .inr (.inr (.inr (.inl ⟨rfl, rfl⟩)))
  · exact .inr (.inr (.inr (.inr ⟨⟨h1, h2, h3, h4⟩, by unfold encB; rw [if_neg h1, if_neg h2, if_neg h3, if_neg h4]⟩)))
theorem enc_snoc (l : List UInt8) (i : Nat) (hi : i < l.length) (x : List UInt8) (hx : encB l[i] = x) : str (encL (l.take i)) ++ (str x) = str (encL (l.take (i + 1))) := by
  rw [List.take_succ_eq_append_getElem hi]
  simp only [encL, List.flatMap_append, List.flatMap_cons, List.flatMap_nil, List.append_nil, hx]
  apply ByteArray.ext
  simp [str, ByteArray.data_append]

set_option maxHeartbeats 8000000 in
set_option maxRecDepth 100000 in
theorem law_EntitiesQuotes (A : Option Addr) (len cap : Nat) (zs : List Int) (w : World) (hr : IsRow .u8 w A len cap zs) (hx : len * 1 ≤ 140737488351232) (hT : Tabs w) :
    Calls Tryd.prog 6 #[.slice A len cap] w fun e w' => e = .returned (.bool true) ∧ Below w.heap.size w w' := by
  have HT := Aside0.mk hT
  have hlc := hr.len_le
  unfold maxLen at hlc
  obtain ⟨tl0, hl0, hb0⟩ := hr.bytes
  have hlencap : len ≤ cap := by omega
  clear hT hr
  obtain ⟨i0, hi0, _, hsz0, _⟩ := info_parts infoByte
  by_cases hlen : 200 < len
  · obtain ⟨tl, htl, hbt⟩ : ∃ tl : List UInt8, tl.length = 200 ∧ IsBytes w A tl := ⟨tl0.take 200, by rw [List.length_take]; omega, hb0.take 200⟩
    have HTL := Aside0.mk htl
    have HBT := Aside0.mk hbt
    have hcap : 200 ≤ cap := by omega
    have hm200 : 200 ≤ 200 := by omega
    have q1 : decide (200 < (len : Int)) = true := decide_eq_true (by omega)
    have q2 : decide (200 < len) = true := decide_eq_true (by omega)
    have hct := cut_to (P := Tryd.prog) 36 5 .i64 Tryd.underlying36 hi0 A len cap 200 (by omega) (by omega) hlencap
    rw [show Int.toNat 200 = 200 from rfl] at hct
    clear htl hbt hb0 hl0
    go_enter Tryd.func6, Tryd.ntmps6
    go_wp2_with (first
      | (go_at_call 7; refine (new_calls _).mono ?_; rintro e w1 ⟨g, rfl, he, hb⟩; have E1 := Aside0.mk he; have B1 := Aside0.mk hb; clear he hb))
    go_loopg [4, 5] (200 + 1) (fun gk v4 v5 wr => ∃ (i : Nat) (raw : ByteArray), v5 = .int .i64 i ∧ v4 = .string raw ∧ Aside0 (i ≤ 200) ∧ Aside0 (200 - i < gk) ∧ Aside0 (raw = str (encL (tl.take i))) ∧ Aside0 (IsE w.heap.size wr g ES.new) ∧ Aside0 (Below w.heap.size w wr))
    case atStart => exact ⟨0, _, rfl, rfl, ⟨Nat.zero_le _⟩, ⟨by omega⟩, ⟨by rfl⟩, E1, B1⟩
    case round =>
      obtain ⟨i, raw, rfl, rfl, P1, P2, P3, P4, P5⟩ := hrel
      cases gk with
      | zero => exact absurd P2.out (by omega)
      | succ k1 =>
      have hp1 := P1.out
      have hrs : raw.size ≤ 1200 := by rw [P3.out, str_size]; have h1 := enc_len (tl.take i); have h2 : (tl.take i).length ≤ i := by rw [List.length_take]; omega
                                       omega
      by_cases hlt : i < 200
      · have hit : i < tl.length := by rw [HTL.out]; exact hlt
        obtain ⟨xa, hA, hcell, hone⟩ := (HBT.out.below (below_mono' P5.out)).at_ i hit
        have HSN := Aside0.mk (enc_snoc tl i hit)
        have HONE := Aside0.mk hone
        obtain ⟨c, hc⟩ : ∃ c, tl[i] = c := ⟨_, rfl⟩
        rw [hc] at HSN HONE hcell
        have hcut := cut_mid (P := Tryd.prog) 36 5 .i64 .i64 Tryd.underlying36 hi0 1 hsz0 A 200 cap (i : Int) ((i : Int) + 1) (by omega) (by omega) (by omega) hcap
        rw [Int.toNat_natCast, if_neg (by omega), hA, show ((i : Int) + 1).toNat - i = 1 by omega, Nat.mul_one] at hcut
        simp only [Option.map_some] at hcut
        subst hA
        have t1 : decide ((i : Int) < 200) = true := decide_eq_true (by omega)
        have t2 : decide (i < 200) = true := decide_eq_true (by omega)
        have tw : wrap64 ((i : Int) + 1) = (i : Int) + 1 := w64 (by omega) (by omega)
        clear hone hc hit
        rcases enc_ways c with ⟨hz, hq⟩ | ⟨hz, hq⟩ | ⟨hz, hq⟩ | ⟨hz, hq⟩ | ⟨hz, hq⟩
        · have hcn : (c.toNat : Int) = 60 := by rw [hz]; rfl
          rw [hcn] at hcell
          have HS2 := Aside0.mk (show raw ++ ⟨#[38, 108, 116, 59]⟩ = str (encL (tl.take (i + 1))) by rw [P3.out]; exact HSN.out _ hq)
          clear hz hq hcn
          go_wp2
          go_roundg k1
          case measure => have := P2.out; omega
          case rel => exact ⟨i + 1, _, by go_num, rfl, ⟨by omega⟩, ⟨by have := P2.out; omega⟩, HS2, P4, P5⟩
        · have hcn : (c.toNat : Int) = 62 := by rw [hz]; rfl
          rw [hcn] at hcell
          have HS2 := Aside0.mk (show raw ++ ⟨#[38, 103, 116, 59]⟩ = str (encL (tl.take (i + 1))) by rw [P3.out]; exact HSN.out _ hq)
          clear hz hq hcn
          go_wp2
          go_roundg k1
          case measure => have := P2.out; omega
          case rel => exact ⟨i + 1, _, by go_num, rfl, ⟨by omega⟩, ⟨by have := P2.out; omega⟩, HS2, P4, P5⟩
        · have hcn : (c.toNat : Int) = 38 := by rw [hz]; rfl
          rw [hcn] at hcell
          have HS2 := Aside0.mk (show raw ++ ⟨#[38, 97, 109, 112, 59]⟩ = str (encL (tl.take (i + 1))) by rw [P3.out]; exact HSN.out _ hq)
          clear hz hq hcn
          go_wp2
          go_roundg k1
          case measure => have := P2.out; omega
          case rel => exact ⟨i + 1, _, by go_num, rfl, ⟨by omega⟩, ⟨by have := P2.out; omega⟩, HS2, P4, P5⟩
        · have hcn : (c.toNat : Int) = 34 := by rw [hz]; rfl
          rw [hcn] at hcell
          have HS2 := Aside0.mk (show raw ++ ⟨#[38, 113, 117, 111, 116, 59]⟩ = str (encL (tl.take (i + 1))) by rw [P3.out]; exact HSN.out _ hq)
          clear hz hq hcn
          go_wp2
          go_roundg k1
          case measure => have := P2.out; omega
          case rel => exact ⟨i + 1, _, by go_num, rfl, ⟨by omega⟩, ⟨by have := P2.out; omega⟩, HS2, P4, P5⟩
        · have HS2 := Aside0.mk (show raw ++ str [c] = str (encL (tl.take (i + 1))) by rw [P3.out]; exact HSN.out _ hq)
          have hsz1 : (str [c]).size ≤ 1 := by rw [str_size]; exact Nat.le_refl _
          have hcv : ∀ K : UInt8, c ≠ K → ¬ c.toNat = K.toNat := fun K h e => h (UInt8.toNat_inj.1 e)
          have n1 := hcv _ hz.1
          have n2 := hcv _ hz.2.1
          have n3 := hcv _ hz.2.2.1
          have n4 := hcv _ hz.2.2.2
          rw [show (60 : UInt8).toNat = 60 from rfl] at n1
          rw [show (62 : UInt8).toNat = 62 from rfl] at n2
          rw [show (38 : UInt8).toNat = 38 from rfl] at n3
          rw [show (34 : UInt8).toNat = 34 from rfl] at n4
          obtain ⟨cn, hcn⟩ : ∃ cn : Int, (c.toNat : Int) = cn := ⟨_, rfl⟩
          rw [hcn] at hcell
          have m1 : decide (cn = 60) = false := decide_eq_false (by omega)
          have m2 : decide (cn = 62) = false := decide_eq_false (by omega)
          have m3 : decide (cn = 38) = false := decide_eq_false (by omega)
          have m4 : decide (cn = 34) = false := decide_eq_false (by omega)
          have l1 : (cn == 60) = false := by simp; omega
          have l2 : (cn == 62) = false := by simp; omega
          have l3 : (cn == 38) = false := by simp; omega
          have l4 : (cn == 34) = false := by simp; omega
          clear hz hq hcn hcv n1 n2 n3 n4
          go_wp2_with (first
            | ((with_reducible refine gate_dst (N := 33) rfl ?_); refine arg_event rfl rfl rfl (tl := [c]) rfl Tryd.underlying36 Tryd.underlying5 Tryd.underlying9 HONE.out ?_; rw [str_mk]))
          go_roundg k1
          case measure => have := P2.out; omega
          case rel => exact ⟨i + 1, _, by go_num, rfl, ⟨by omega⟩, ⟨by have := P2.out; omega⟩, HS2, P4, P5⟩
      · have hi : i = 200 := by omega
        have hfin : raw = str (encL tl) := by rw [P3.out, hi, List.take_of_length_le (by rw [HTL.out]; exact Nat.le_refl _)]
        have HFQ := Aside0.mk (show fillE ES.new raw.data.toList = (tl, 0, raw.size, ES.new) by rw [hfin, str_list, fill_quotes, str_size])
        have HZ := Aside0.mk (show raw.size ≤ 1048576 by omega)
        have t1 : decide ((i : Int) < 200) = false := decide_eq_false (by omega)
        have t2 : decide (i < 200) = false := decide_eq_false (by omega)
        clear hi hfin hlt hp1
        go_wp2_with (first
          | (go_at_call 14; refine (fill_calls P4.out HZ.out SI.new).mono ?_; rintro e w3 ⟨t, x, p, rfl, ht, hs, he, hf⟩; rw [HFQ.out] at ht he; (have ht1 : t = str tl := ht.1); (have ht2 : x = 0 := ht.2.1); (have ht3 : p = (raw.size : Int) := ht.2.2); rw [ht1, ht2, ht3]; have E3 := Aside0.mk he; have B3 := Aside0.mk (P5.out.trans hf.1); clear ht ht1 ht2 ht3 hs he hf)
          | ((with_reducible refine gate_dst (N := 60) rfl ?_); refine arg_event rfl rfl rfl HTL.out.symm Tryd.underlying36 Tryd.underlying5 Tryd.underlying9 (HBT.out.below B3.out) ?_; rw [str_mk])
          | (go_at_call 12; refine (told_calls E3.out).mono ?_; rintro e w4 ⟨rfl, rfl⟩; rw [told_new])
          | (go_at_call 13; refine (lives_calls _ (HT.out.below B3.out)).mono ?_; rintro e w5 ⟨rfl, hb⟩; have B5 := Aside0.mk (B3.out.trans (below_mono hb B3.out.size)); clear hb))
        go_ret
        exact ⟨rfl, B5.out⟩

  · obtain ⟨tl, htl, hbt⟩ : ∃ tl : List UInt8, tl.length = len ∧ IsBytes w A tl := ⟨tl0, hl0, hb0⟩
    have HTL := Aside0.mk htl
    have HBT := Aside0.mk hbt
    have hcap : len ≤ cap := by omega
    have hm200 : len ≤ 200 := by omega
    have q1 : decide (200 < (len : Int)) = false := decide_eq_false (by omega)
    have q2 : decide (200 < len) = false := decide_eq_false (by omega)
    clear htl hbt hb0 hl0
    go_enter Tryd.func6, Tryd.ntmps6
    go_wp2_with (first
      | (go_at_call 7; refine (new_calls _).mono ?_; rintro e w1 ⟨g, rfl, he, hb⟩; have E1 := Aside0.mk he; have B1 := Aside0.mk hb; clear he hb))
    go_loopg [4, 5] (len + 1) (fun gk v4 v5 wr => ∃ (i : Nat) (raw : ByteArray), v5 = .int .i64 i ∧ v4 = .string raw ∧ Aside0 (i ≤ len) ∧ Aside0 (len - i < gk) ∧ Aside0 (raw = str (encL (tl.take i))) ∧ Aside0 (IsE w.heap.size wr g ES.new) ∧ Aside0 (Below w.heap.size w wr))
    case atStart => exact ⟨0, _, rfl, rfl, ⟨Nat.zero_le _⟩, ⟨by omega⟩, ⟨by rfl⟩, E1, B1⟩
    case round =>
      obtain ⟨i, raw, rfl, rfl, P1, P2, P3, P4, P5⟩ := hrel
      cases gk with
      | zero => exact absurd P2.out (by omega)
      | succ k1 =>
      have hp1 := P1.out
      have hrs : raw.size ≤ 1200 := by rw [P3.out, str_size]; have h1 := enc_len (tl.take i); have h2 : (tl.take i).length ≤ i := by rw [List.length_take]; omega
                                       omega
      by_cases hlt : i < len
      · have hit : i < tl.length := by rw [HTL.out]; exact hlt
        obtain ⟨xa, hA, hcell, hone⟩ := (HBT.out.below (below_mono' P5.out)).at_ i hit
        have HSN := Aside0.mk (enc_snoc tl i hit)
        have HONE := Aside0.mk hone
        obtain ⟨c, hc⟩ : ∃ c, tl[i] = c := ⟨_, rfl⟩
        rw [hc] at HSN HONE hcell
        have hcut := cut_mid (P := Tryd.prog) 36 5 .i64 .i64 Tryd.underlying36 hi0 1 hsz0 A len cap (i : Int) ((i : Int) + 1) (by omega) (by omega) (by omega) hcap
        rw [Int.toNat_natCast, if_neg (by omega), hA, show ((i : Int) + 1).toNat - i = 1 by omega, Nat.mul_one] at hcut
        simp only [Option.map_some] at hcut
        subst hA
        have t1 : decide ((i : Int) < (len : Int)) = true := decide_eq_true (by omega)
        have t2 : decide (i < len) = true := decide_eq_true (by omega)
        have tw : wrap64 ((i : Int) + 1) = (i : Int) + 1 := w64 (by omega) (by omega)
        clear hone hc hit
        rcases enc_ways c with ⟨hz, hq⟩ | ⟨hz, hq⟩ | ⟨hz, hq⟩ | ⟨hz, hq⟩ | ⟨hz, hq⟩
        · have hcn : (c.toNat : Int) = 60 := by rw [hz]; rfl
          rw [hcn] at hcell
          have HS2 := Aside0.mk (show raw ++ ⟨#[38, 108, 116, 59]⟩ = str (encL (tl.take (i + 1))) by rw [P3.out]; exact HSN.out _ hq)
          clear hz hq hcn
          go_wp2
          go_roundg k1
          case measure => have := P2.out; omega
          case rel => exact ⟨i + 1, _, by go_num, rfl, ⟨by omega⟩, ⟨by have := P2.out; omega⟩, HS2, P4, P5⟩
        · have hcn : (c.toNat : Int) = 62 := by rw [hz]; rfl
          rw [hcn] at hcell
          have HS2 := Aside0.mk (show raw ++ ⟨#[38, 103, 116, 59]⟩ = str (encL (tl.take (i + 1))) by rw [P3.out]; exact HSN.out _ hq)
          clear hz hq hcn
          go_wp2
          go_roundg k1
          case measure => have := P2.out; omega
          case rel => exact ⟨i + 1, _, by go_num, rfl, ⟨by omega⟩, ⟨by have := P2.out; omega⟩, HS2, P4, P5⟩
        · have hcn : (c.toNat : Int) = 38 := by rw [hz]; rfl
          rw [hcn] at hcell
          have HS2 := Aside0.mk (show raw ++ ⟨#[38, 97, 109, 112, 59]⟩ = str (encL (tl.take (i + 1))) by rw [P3.out]; exact HSN.out _ hq)
          clear hz hq hcn
          go_wp2
          go_roundg k1
          case measure => have := P2.out; omega
          case rel => exact ⟨i + 1, _, by go_num, rfl, ⟨by omega⟩, ⟨by have := P2.out; omega⟩, HS2, P4, P5⟩
        · have hcn : (c.toNat : Int) = 34 := by rw [hz]; rfl
          rw [hcn] at hcell
          have HS2 := Aside0.mk (show raw ++ ⟨#[38, 113, 117, 111, 116, 59]⟩ = str (encL (tl.take (i + 1))) by rw [P3.out]; exact HSN.out _ hq)
          clear hz hq hcn
          go_wp2
          go_roundg k1
          case measure => have := P2.out; omega
          case rel => exact ⟨i + 1, _, by go_num, rfl, ⟨by omega⟩, ⟨by have := P2.out; omega⟩, HS2, P4, P5⟩
        · have HS2 := Aside0.mk (show raw ++ str [c] = str (encL (tl.take (i + 1))) by rw [P3.out]; exact HSN.out _ hq)
          have hsz1 : (str [c]).size ≤ 1 := by rw [str_size]; exact Nat.le_refl _
          have hcv : ∀ K : UInt8, c ≠ K → ¬ c.toNat = K.toNat := fun K h e => h (UInt8.toNat_inj.1 e)
          have n1 := hcv _ hz.1
          have n2 := hcv _ hz.2.1
          have n3 := hcv _ hz.2.2.1
          have n4 := hcv _ hz.2.2.2
          rw [show (60 : UInt8).toNat = 60 from rfl] at n1
          rw [show (62 : UInt8).toNat = 62 from rfl] at n2
          rw [show (38 : UInt8).toNat = 38 from rfl] at n3
          rw [show (34 : UInt8).toNat = 34 from rfl] at n4
          obtain ⟨cn, hcn⟩ : ∃ cn : Int, (c.toNat : Int) = cn := ⟨_, rfl⟩
          rw [hcn] at hcell
          have m1 : decide (cn = 60) = false := decide_eq_false (by omega)
          have m2 : decide (cn = 62) = false := decide_eq_false (by omega)
          have m3 : decide (cn = 38) = false := decide_eq_false (by omega)
          have m4 : decide (cn = 34) = false := decide_eq_false (by omega)
          have l1 : (cn == 60) = false := by simp; omega
          have l2 : (cn == 62) = false := by simp; omega
          have l3 : (cn == 38) = false := by simp; omega
          have l4 : (cn == 34) = false := by simp; omega
          clear hz hq hcn hcv n1 n2 n3 n4
          go_wp2_with (first
            | ((with_reducible refine gate_dst (N := 33) rfl ?_); refine arg_event rfl rfl rfl (tl := [c]) rfl Tryd.underlying36 Tryd.underlying5 Tryd.underlying9 HONE.out ?_; rw [str_mk]))
          go_roundg k1
          case measure => have := P2.out; omega
          case rel => exact ⟨i + 1, _, by go_num, rfl, ⟨by omega⟩, ⟨by have := P2.out; omega⟩, HS2, P4, P5⟩
      · have hi : i = len := by omega
        have hfin : raw = str (encL tl) := by rw [P3.out, hi, List.take_of_length_le (by rw [HTL.out]; exact Nat.le_refl _)]
        have HFQ := Aside0.mk (show fillE ES.new raw.data.toList = (tl, 0, raw.size, ES.new) by rw [hfin, str_list, fill_quotes, str_size])
        have HZ := Aside0.mk (show raw.size ≤ 1048576 by omega)
        have t1 : decide ((i : Int) < (len : Int)) = false := decide_eq_false (by omega)
        have t2 : decide (i < len) = false := decide_eq_false (by omega)
        clear hi hfin hlt hp1
        go_wp2_with (first
          | (go_at_call 14; refine (fill_calls P4.out HZ.out SI.new).mono ?_; rintro e w3 ⟨t, x, p, rfl, ht, hs, he, hf⟩; rw [HFQ.out] at ht he; (have ht1 : t = str tl := ht.1); (have ht2 : x = 0 := ht.2.1); (have ht3 : p = (raw.size : Int) := ht.2.2); rw [ht1, ht2, ht3]; have E3 := Aside0.mk he; have B3 := Aside0.mk (P5.out.trans hf.1); clear ht ht1 ht2 ht3 hs he hf)
          | ((with_reducible refine gate_dst (N := 60) rfl ?_); refine arg_event rfl rfl rfl HTL.out.symm Tryd.underlying36 Tryd.underlying5 Tryd.underlying9 (HBT.out.below B3.out) ?_; rw [str_mk])
          | (go_at_call 12; refine (told_calls E3.out).mono ?_; rintro e w4 ⟨rfl, rfl⟩; rw [told_new])
          | (go_at_call 13; refine (lives_calls _ (HT.out.below B3.out)).mono ?_; rintro e w5 ⟨rfl, hb⟩; have B5 := Aside0.mk (B3.out.trans (below_mono hb B3.out.size)); clear hb))
        go_ret
        exact ⟨rfl, B5.out⟩
end Go.Proofs.YtohkioijdokegaaDoor.En
