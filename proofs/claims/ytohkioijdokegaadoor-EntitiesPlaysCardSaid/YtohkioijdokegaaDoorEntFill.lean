/- entities: Fill, walked. -/
import Derived.Test.YtohkioijdokegaaDoorEntF
import Derived.Test.YtohkioijdokegaaDoorBuilder
import Derived.Deep.QuietTactic
import Derived.BigQuiet
import Derived.IntWalk
namespace Go.Proofs.YtohkioijdokegaaDoor.En
open Go Go.Lib Go.RowKit Go.Proofs.YtohkioijdokegaaDoorW.PrintWords Go.Proofs.YtohkioijdokegaaDoorW.PrintLast Go.Proofs.YtohkioijdokegaaDoor.Own Go.Proofs.YtohkioijdokegaaDoor.Nm Go.Proofs.YtohkioijdokegaaDoor.Srcw Go.Proofs.YtohkioijdokegaaDoor.Tab
set_option linter.unusedVariables false
set_option linter.unusedSimpArgs false

/-- Few told; short texts. -/
def SI (s : ES) : Prop := (0 ≤ s.told ∧ s.told ≤ 1000000000) ∧ ∀ n t, s.f n = some t → t.size ≤ 1048576
theorem four_short {n t : ByteArray} (h : fourN n = some t) : t.size ≤ 1048576 := by
  unfold fourN at h
  repeat' split at h
  all_goals first | (injection h with h; subst h; decide) | cases h
theorem SI.get {s : ES} (h : SI s) (n : ByteArray) : SI (getE s n).2.2 ∧ (getE s n).1.size ≤ 1048576 := by
  unfold getE
  cases h4 : fourN n with
  | some t => exact ⟨h, four_short h4⟩
  | none =>
    cases hf : s.f n with
    | none => exact ⟨h, by show (0 : Nat) ≤ _; omega⟩
    | some t =>
      by_cases h40 : 40 ≤ s.told
      · simp only [if_pos h40]; exact ⟨h, by show (0 : Nat) ≤ _; omega⟩
      · simp only [if_neg h40]; exact ⟨⟨by have := h.1; show 0 ≤ s.told + 1 ∧ s.told + 1 ≤ 1000000000; omega, h.2⟩, h.2 n t hf⟩
theorem SI.new : SI ES.new := ⟨by decide, fun n t h => by cases h⟩
def Fr (B g : Nat) (w w' : World) : Prop := Below B w w' ∧ Abv g w w'
theorem Fr.low {B g : Nat} {w w1 w2 : World} (h : Fr B g w w1) (hb : Below w.heap.size w1 w2) (hB : B ≤ w.heap.size) : Fr B g w w2 :=
  ⟨h.1.trans (hb.mono hB), fun k h1 h2 => (hb.block k h2).trans (h.2 k h1 h2)⟩
theorem Fr.get {B g : Nat} {w w1 w2 : World} (h : Fr B g w w1) (hb : Below B w1 w2) (hj : Just g w1 w2) : Fr B g w w2 :=
  ⟨h.1.trans hb, fun k h1 h2 => (hj.2 k (by have := h.1.size; omega) (by omega)).trans (h.2 k h1 h2)⟩
def FillPost (B g : Nat) (s : ES) (l : List UInt8) (w : World) (e : Ending) (w' : World) : Prop :=
  ∃ t x p, e = .returned (.tuple #[.string t, .int .i64 x, .int .i64 p]) ∧ (t = str (fillE s l).1 ∧ x = (fillE s l).2.1 ∧ p = ((fillE s l).2.2.1 : Nat)) ∧ SI (fillE s l).2.2.2 ∧ IsE B w' g (fillE s l).2.2.2 ∧ Fr B g w w'
theorem fill_post {B g : Nat} {s s' : ES} {l out : List UInt8} {t : ByteArray} {x : Int} {p : Nat} {w w' : World} (h : fillE s l = (out, x, p, s')) (ht : t = str out) (h0 : SI s') (h1 : IsE B w' g s') (h2 : Fr B g w w') : FillPost B g s l w (.returned (.tuple #[.string t, .int .i64 x, .int .i64 p])) w' :=
  ⟨t, x, p, rfl, by rw [h]; exact ⟨ht, rfl, rfl⟩, by rw [h]; exact h0, by rw [h]; exact h1, h2⟩

set_option maxHeartbeats 8000000 in
set_option maxRecDepth 100000 in
theorem fill_calls {B g : Nat} {w : World} {s : ES} {r : ByteArray} (h : IsE B w g s) (hr : r.size ≤ 1048576) (hs : SI s) :
    Calls Tryd.prog 14 #[.pointer (some ⟨g, 0, none⟩), .string r] w (FillPost B g s r.data.toList w) := by
  have HL := Aside0.mk (size_data r)
  have HB := Aside0.mk (show B ≤ w.heap.size by have := h.lt; have := h.1; omega)
  have HGW := Aside0.mk h.lt
  have H := Aside0.mk h
  have HS := Aside0.mk hs
  have HR := Aside0.mk hr
  clear h hr hs
  go_enter Tryd.func14, Tryd.ntmps14
  go_wp2
  go_step3
  go_wp2_with ((with_reducible refine gate_dst (N := 7) rfl ?_); refine box_event ?hg (N := 7) ?hd (cs := #[.pointer none, .slice none 0 0]) (t := 53) ?hr ?_; (case hd => rfl); (case hg => rfl); (case hr => first | (go_simp; done) | (go_simp; rfl)); intro b hg w2 hbox hb; have HG := Aside0.mk hg; have H1 := Aside0.mk hbox; have H2 := Aside0.mk hb; clear hg hbox hb)
  go_step3
  go_wp2
  go_loopg [8] (r.size + 1) (fun gk v8 wr => ∃ (p kf : Nat) (out : List UInt8) (s' : ES), v8 = .int .i64 p ∧ Aside0 (p ≤ r.size) ∧ Aside0 (r.size - p < gk ∧ r.size - p < kf) ∧ Aside0 (fillE s r.data.toList = fillB kf p (r.data.toList.drop p) out s') ∧ Aside0 (SI s') ∧ Aside0 (out.length ≤ p * 1048576) ∧ Aside0 (IsE B wr g s') ∧ Aside0 (Bld.Is w.heap.size b out wr) ∧ Aside0 (Fr B g w wr))
  case atStart => exact ⟨0, r.size + 1, [], s, rfl, ⟨Nat.zero_le _⟩, ⟨⟨by omega, by omega⟩⟩, ⟨by unfold fillE; rw [HL.out, List.drop_zero]⟩, HS, ⟨by simp⟩, ⟨H.out.below H2.out⟩, ⟨Bld.Is.fresh (by rw [HG.out]; exact Nat.le_refl _) H1.out⟩, ⟨⟨H2.out.mono HB.out, abv_below H2.out⟩⟩⟩
  case round =>
    obtain ⟨p, kf, out, s', rfl, P1, P2, P3, P4, P5, P6, P7, P8⟩ := hrel
    cases gk with
    | zero => exact absurd P2.out.1 (by omega)
    | succ k1 =>
    have hp := P1.out
    have hR := HR.out
    have e2 : (p : Int) ≤ (r.size : Int) := by omega
    have hsub : (r.extract p r.size).data.toList = r.data.toList.drop p := by rw [cut_str, str_list, List.take_of_length_le]; rw [List.length_drop, HL.out]; exact Nat.le_refl _
    have HSUB := Aside0.mk hsub
    clear hsub
    have HRL := Aside0.mk (show (r.data.toList.drop p).length = r.size - p by rw [List.length_drop, HL.out])
    by_cases hiv : indexByte (r.data.toList.drop p) 38 < 0
    · have HF := Aside0.mk (show fillE s r.data.toList = (out ++ r.data.toList.drop p, 0, r.size, s') by rw [P3.out.trans (fill_end (by rw [HRL.out]; have := P2.out.2; omega) hiv), HRL.out, Nat.add_sub_cancel' hp])
      obtain ⟨iv, hiv2⟩ : ∃ x, indexByte (r.data.toList.drop p) 38 = x := ⟨_, rfl⟩
      rw [hiv2] at hiv
      have HIV := Aside0.mk hiv2
      have t1 : decide (iv < 0) = true := decide_eq_true hiv
      clear hiv hiv2
      have HLE := Aside0.mk (show out.length + (r.extract p r.size).size ≤ 140737488355328 by
        have h1 := P5.out
        rw [ByteArray.size_extract]
        have : p * 1048576 ≤ 1048576 * 1048576 := Nat.mul_le_mul_right _ (by omega)
        omega)
      go_wp2_with (first
        | (go_at_call 21; refine (Tryd.strings_IndexByte _ _ _).mono ?_; rintro e w3 ⟨rfl, rfl⟩; rw [HSUB.out]; rw [show indexByte (r.data.toList.drop p) (Int.toNat 38).toUInt8 = iv from HIV.out])
        | (go_at_call 22; refine (Bld.write_calls _ _ _ _ _ P7.out HLE.out P8.out.1.size).mono ?_; rintro e w4 ⟨rfl, hb4, hl4⟩; rw [HSUB.out] at hb4; have G1 := Aside0.mk hb4; have G2 := Aside0.mk (P8.out.low hl4 HB.out); have G3 := Aside0.mk (P6.out.keep (fun k hk => hl4.block k (by have := HGW.out; omega))); clear hb4 hl4)
        | (go_at_call 23; refine (Bld.string_calls _ _ _ _ G1.out G2.out.1.size).mono ?_; rintro e w5 ⟨rfl, hl5⟩; have G4 := Aside0.mk (G2.out.low hl5 HB.out); have G5 := Aside0.mk (G3.out.keep (fun k hk => hl5.block k (by have := HGW.out; omega))); clear hl5))
      go_ret3
      exact fill_post HF.out rfl P4.out G5.out G4.out
    · obtain ⟨i, hi⟩ := Int.eq_ofNat_of_zero_le (Int.not_lt.1 hiv)
      have hkf : (r.data.toList.drop p).length < kf := by rw [HRL.out]; exact P2.out.2
      obtain ⟨hil, kf', hk', hfa⟩ := fill_at (p := p) (out := out) (s := s') hkf hi
      rw [HRL.out] at hil
      have HFA := Aside0.mk (P3.out.trans hfa)
      have HKF := Aside0.mk hk'
      have HIV := Aside0.mk hi
      rw [List.drop_drop] at HFA
      have t1 : decide ((i : Int) < 0) = false := decide_eq_false (by omega)
      have y1 : wrap64 ((p : Int) + i) = (p : Int) + i := w64 (by omega) (by omega)
      have y2 : wrap64 ((p : Int) + i + 1) = (p : Int) + i + 1 := w64 (by omega) (by omega)
      have y3 : (0 : Int) ≤ (p : Int) + i := by omega
      have y4 : (p : Int) + i ≤ (r.size : Int) := by omega
      have y5 : (p : Int) ≤ (p : Int) + i := by omega
      have y6 : ((p : Int) + i).toNat = p + i := by omega
      clear hiv hi hfa hkf hk'
      have HLE := Aside0.mk (show out.length + (r.extract p (p + i)).size ≤ 140737488355328 by
        have h1 := P5.out
        rw [ByteArray.size_extract]
        have : p * 1048576 ≤ 1048576 * 1048576 := Nat.mul_le_mul_right _ (by omega)
        omega)
      have HSUB2 := Aside0.mk (show (r.extract p (p + i)).data.toList = (r.data.toList.drop p).take i by rw [cut_str, str_list, Nat.add_sub_cancel_left])
      go_wp2_with (first
        | (go_at_call 21; refine (Tryd.strings_IndexByte _ _ _).mono ?_; rintro e w3 ⟨rfl, rfl⟩; rw [HSUB.out]; rw [show indexByte (r.data.toList.drop p) (Int.toNat 38).toUInt8 = (i : Int) from HIV.out])
        | (go_at_call 22; refine (Bld.write_calls _ _ _ _ _ P7.out HLE.out P8.out.1.size).mono ?_; rintro e w4 ⟨rfl, hb4, hl4⟩; rw [HSUB2.out] at hb4; have G1 := Aside0.mk hb4; have G2 := Aside0.mk (P8.out.low hl4 HB.out); have G3 := Aside0.mk (P6.out.keep (fun k hk => hl4.block k (by have := HGW.out; omega))); clear hb4 hl4))
      clear y1 y2 y3 y4 y5 y6 t1
      obtain ⟨f, hf⟩ : ∃ f, f = p + i + 1 := ⟨_, rfl⟩
      have hfi : (p : Int) + (i : Int) + 1 = (f : Int) := by rw [hf]; push_cast; rfl
      have HFE := Aside0.mk hf
      have hfs : f ≤ r.size := by omega
      rw [hfi]
      have HFB := Aside0.mk (show fillE s r.data.toList = fillB (kf' + 1) (p + i) (38 :: r.data.toList.drop f) (out ++ (r.data.toList.drop p).take i) s' by rw [hf]; exact HFA.out)
      clear hf hfi HFA
      go_loopg [8] (r.size + 1) (fun gk v8 wr => ∃ (q : Nat), v8 = .int .i64 q ∧ Aside0 (f ≤ q ∧ q ≤ r.size) ∧ Aside0 (r.size - q < gk) ∧ Aside0 (scanR [] (r.data.toList.drop f) = scanR ((r.data.toList.drop f).take (q - f)) (r.data.toList.drop q)) ∧ Aside0 (IsE B wr g s') ∧ Aside0 (Bld.Is w.heap.size b (out ++ (r.data.toList.drop p).take i) wr) ∧ Aside0 (Fr B g w wr))
      case atStart => exact ⟨f, rfl, ⟨⟨Nat.le_refl _, hfs⟩⟩, ⟨by omega⟩, ⟨by rw [Nat.sub_self, List.take_zero]⟩, G3, G1, G2⟩
      case round =>
        obtain ⟨q, rfl, D1, D2, D3, D4, D5, D6⟩ := hrel
        cases gk with
        | zero => exact absurd D2.out (by omega)
        | succ k2 =>
        have hfq := D1.out.1
        have hqs := D1.out.2
        obtain ⟨nm, hnm⟩ : ∃ nm, (r.data.toList.drop f).take (q - f) = nm := ⟨_, rfl⟩
        have hnl : nm.length = q - f := by rw [← hnm, List.length_take, List.length_drop, HL.out]; omega
        have HNM := Aside0.mk hnm
        have HNL := Aside0.mk hnl
        rw [hnm] at D3
        clear hnm hnl
        by_cases hlt : q < r.size
        · have hg9 : r.data.toList[q]'(by rw [HL.out]; exact hlt) = r[q] := rfl
          have HD := Aside0.mk (show (r.data.toList.drop q) = r[q] :: r.data.toList.drop (q + 1) by
            rw [List.drop_eq_getElem_cons (by rw [HL.out]; exact hlt), hg9])
          have HSN := Aside0.mk (show (r.extract f (q + 1)).data.toList = nm ++ [r[q]] by
            rw [cut_str, str_list, ← HNM.out, show q + 1 - f = (q - f) + 1 by omega, List.take_add_one, List.getElem?_drop, show f + (q - f) = q by omega, List.getElem?_eq_getElem (by rw [HL.out]; exact hlt), hg9]
            rfl)
          clear hg9
          have z1 : (0 : Int) ≤ (q : Int) + 1 := by omega
          have z2 : (q : Int) + 1 ≤ (r.size : Int) := by omega
          have z3 : (f : Int) ≤ (q : Int) + 1 := by omega
          have z4 : ((q : Int) + 1).toNat = q + 1 := by omega
          have z5 : wrap64 ((q : Int) + 1) = (q : Int) + 1 := w64 (by omega) (by omega)
          have z6 : (f : Int) ≤ (q : Int) := by omega
          have z7 : (q : Int) ≤ (r.size : Int) := by omega
          by_cases hc : r[q].toNat = 59 ∧ f < q
          · have h8 : r[q] = 59 := UInt8.toNat_inj.1 hc.1
            have HSC := Aside0.mk (show scanR [] (r.data.toList.drop f) = (nm, true) by
              rw [D3.out, HD.out, h8]
              exact scan_hit (fun e => by have h9 := HNL.out; rw [e, List.length_nil] at h9; have := hc.2; omega))
            have HNS := Aside0.mk (show r.extract f q = str nm by rw [cut_str, HNM.out])
            obtain ⟨t, x, s2, hg⟩ : ∃ t x s2, getE s' (r.extract f q) = (t, x, s2) := ⟨_, _, _, rfl⟩
            have HG2 := Aside0.mk hg
            have HS2 := Aside0.mk (show SI s2 ∧ t.size ≤ 1048576 by have := P4.out.get (r.extract f q); rw [hg] at this; exact this)
            clear hg
            have HZ := Aside0.mk (show (r.extract f q).size ≤ 1048576 by rw [ByteArray.size_extract]; omega)
            have q1 : (r[q].toNat == 59) = true := by simp [hc.1]
            have q2 : ((r[q].toNat : Int) == 59) = true := by simp [hc.1]
            have q3 : decide ((r[q].toNat : Int) = 59) = true := by simp [hc.1]
            have q4 : decide ((f : Int) < (q : Int)) = true := by simp; exact hc.2
            have q5 : decide (f < q) = true := by simp; exact hc.2
            have t1 : decide ((q : Int) < (r.size : Int)) = true := decide_eq_true (by omega)
            have t2 : decide (q < r.size) = true := decide_eq_true hlt
            clear hc h8
            by_cases hx : x = 0
            · subst hx
              have HNX := Aside0.mk (show fillE s r.data.toList = fillB kf' (q + 1) (r.data.toList.drop (q + 1)) (out ++ (r.data.toList.drop p).take i ++ t.data.toList) s2 by
                rw [HFB.out, fill_ok HSC.out (by rw [← HNS.out]; exact HG2.out), HNL.out, List.drop_drop]
                have := HFE.out
                congr 1
                · omega
                · congr 1; omega)
              have HLN := Aside0.mk (show (out ++ (r.data.toList.drop p).take i ++ t.data.toList).length ≤ (q + 1) * 1048576 by
                have h1 := P5.out
                have h2 := HFE.out
                have h3 := HS2.out.2
                rw [List.length_append, List.length_append, List.length_take, HRL.out, size_data]
                have : p * 1048576 + (i + 1) * 1048576 ≤ (q + 1) * 1048576 := by rw [← Nat.add_mul]; exact Nat.mul_le_mul_right _ (by omega)
                omega)
              have HLE2 := Aside0.mk (show (out ++ (r.data.toList.drop p).take i).length + t.size ≤ 140737488355328 by
                have h1 := HLN.out
                rw [List.length_append, size_data] at h1
                have : (q + 1) * 1048576 ≤ 1048576 * 1048576 := Nat.mul_le_mul_right _ (by omega)
                omega)
              go_wp2_with (first
                | (go_at_call 16; refine (get_calls D4.out (Nat.le_trans HZ.out (by decide)) P4.out.1).mono ?_; rintro e w5 ⟨t', x', rfl, ht, he, hb, hj⟩; rw [HG2.out] at ht he; (have ht1 : t' = t := ht.1); (have ht2 : x' = 0 := ht.2); rw [ht1, ht2]; have E5 := Aside0.mk he; have F5 := Aside0.mk (D6.out.get hb hj); have I5 := Aside0.mk (D5.out.keep (fun k h1 h2 => hj.2 k h2 (by have := HGW.out; omega)) hb.size); clear ht ht1 ht2 he hb hj)
                | (go_at_call 22; refine (Bld.write_calls _ _ _ _ _ I5.out HLE2.out F5.out.1.size).mono ?_; rintro e w6 ⟨rfl, hb4, hl4⟩; have G6 := Aside0.mk hb4; have F6 := Aside0.mk (F5.out.low hl4 HB.out); have E6 := Aside0.mk (E5.out.keep (fun k hk => hl4.block k (by have := HGW.out; omega))); clear hb4 hl4))
              go_roundg k1
              case measure => have := P2.out.1; have := HFE.out; omega
              case rel => exact ⟨q + 1, kf', _, s2, by go_num, ⟨by omega⟩, ⟨⟨by have := P2.out.1; have := HFE.out; omega, by have := P2.out.2; have := HFE.out; have := HKF.out; omega⟩⟩, HNX, ⟨HS2.out.1⟩, HLN, E6, G6, F6⟩
            · have HF := Aside0.mk (show fillE s r.data.toList = ([], x, q, s2) by
                rw [HFB.out, fill_err HSC.out (by rw [← HNS.out]; exact HG2.out) hx, HNL.out]
                have := HFE.out
                congr 3
                omega)
              have t3 : decide (x = 0) = false := decide_eq_false hx
              have t4 : (x == 0) = false := by simp; exact hx
              clear hx
              go_wp2_with (first
                | (go_at_call 16; refine (get_calls D4.out (Nat.le_trans HZ.out (by decide)) P4.out.1).mono ?_; rintro e w5 ⟨t', x', rfl, ht, he, hb, hj⟩; rw [HG2.out] at ht he; (have ht1 : t' = t := ht.1); (have ht2 : x' = x := ht.2); rw [ht1, ht2]; have E5 := Aside0.mk he; have F5 := Aside0.mk (D6.out.get hb hj); clear ht ht1 ht2 he hb hj))
              go_ret3
              exact fill_post HF.out rfl HS2.out.1 E5.out F5.out
          · have HCN := Aside0.mk (show ¬ (r[q] = 59 ∧ nm ≠ []) from fun h => hc ⟨by rw [h.1]; rfl, by
              rcases Nat.lt_or_ge f q with h2 | h2
              · exact h2
              · exact absurd (List.length_eq_zero_iff.1 (by rw [HNL.out]; omega)) h.2⟩)
            obtain ⟨ql, hql⟩ : ∃ b, localL (nm ++ [r[q]]) = b := ⟨_, rfl⟩
            have HQL := Aside0.mk hql
            clear hql
            have ways : ∀ (P : Prop), ((r[q].toNat == 59) = false → ((r[q].toNat : Int) == 59) = false → decide ((r[q].toNat : Int) = 59) = false → P) → ((r[q].toNat == 59) = true → ((r[q].toNat : Int) == 59) = true → decide ((r[q].toNat : Int) = 59) = true → decide ((f : Int) < (q : Int)) = false → decide (f < q) = false → P) → P := by
              intro P ha hb
              by_cases h59 : r[q].toNat = 59
              · exact hb (by simp [h59]) (by simp [h59]) (by simp [h59]) (by have := mt (And.intro h59) hc; simp; omega) (by have := mt (And.intro h59) hc; simp; omega)
              · exact ha (by simp [h59]) (by simp; omega) (by simp; omega)
            have t1 : decide ((q : Int) < (r.size : Int)) = true := decide_eq_true (by omega)
            have t2 : decide (q < r.size) = true := decide_eq_true hlt
            clear hc
            cases ql
            · have HF := Aside0.mk (show fillE s r.data.toList = ([], 2, q, s') by
                rw [HFB.out, fill_bad (D3.out.trans (by rw [HD.out]; exact scan_bad HCN.out HQL.out)), HNL.out]
                have := HFE.out
                congr 3
                omega)
              refine ways _ (fun q1 q2 q3 => ?_) (fun q1 q2 q3 q4 q5 => ?_) <;> clear ways
              all_goals
                go_wp2_with (first
                  | (go_at_call 24; refine (local_calls _ _).mono ?_; rintro e w5 ⟨rfl, hb⟩; rw [HSN.out, HQL.out]; have E5 := Aside0.mk (D4.out.below hb); have F5 := Aside0.mk (D6.out.low (hb.mono D6.out.1.size) HB.out); clear hb))
                go_ret3
                exact fill_post HF.out rfl P4.out E5.out F5.out
            · have HNX := Aside0.mk (show scanR [] (r.data.toList.drop f) = scanR ((r.data.toList.drop f).take (q + 1 - f)) (r.data.toList.drop (q + 1)) by
                rw [D3.out, HD.out, scan_next HCN.out HQL.out, ← HSN.out, cut_str, str_list])
              refine ways _ (fun q1 q2 q3 => ?_) (fun q1 q2 q3 q4 q5 => ?_) <;> clear ways
              all_goals
                go_wp2_with (first
                  | (go_at_call 24; refine (local_calls _ _).mono ?_; rintro e w5 ⟨rfl, hb⟩; rw [HSN.out, HQL.out]; have E5 := Aside0.mk (D4.out.below hb); have F5 := Aside0.mk (D6.out.low (hb.mono D6.out.1.size) HB.out); have I5 := Aside0.mk (D5.out.below hb); clear hb))
                go_roundg k2
                case measure => have := D2.out; omega
                case rel => exact ⟨q + 1, by go_num, ⟨⟨by omega, by omega⟩⟩, ⟨by have := D2.out; omega⟩, HNX, E5, I5, F5⟩
        · have hqe : q = r.size := by omega
          have HF := Aside0.mk (show fillE s r.data.toList = ([], 2, q, s') by
            rw [HFB.out, fill_bad (D3.out.trans (by rw [List.drop_of_length_le (by rw [HL.out]; omega)]; exact scan_end _)), HNL.out]
            have := HFE.out
            congr 3
            omega)
          have t1 : decide ((q : Int) < (r.size : Int)) = false := decide_eq_false (by omega)
          have t2 : decide (q < r.size) = false := decide_eq_false (by omega)
          go_wp2
          go_ret3
          exact fill_post HF.out rfl P4.out D4.out D6.out
end Go.Proofs.YtohkioijdokegaaDoor.En
