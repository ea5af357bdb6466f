/- The reference's Ref: what a scan finds. The reference's Fill, walked. The reference's Define, walked. Arguments that are slices of structs (a whole number and two texts): their cells, as data. entities: a deed, done by the program and by the reference. The law EntitiesPlays, walked. -/
import Derived.Test.YtohkioijdokegaaDoorEntRefG
import Derived.Test.YtohkioijdokegaaDoorEntLocal
import Derived.Test.YtohkioijdokegaaDoorEntLives
import Derived.Test.YtohkioijdokegaaDoorEntChars
import Derived.Test.YtohkioijdokegaaDoorOwn2
import Derived.Deep.Slices
import Derived.Deep.Fields
import Derived.ChangeSame
import Derived.OpenShut
import Derived.Test.YtohkioijdokegaaDoorEntDef
import Derived.Test.YtohkioijdokegaaDoorEntFill
import Derived.Test.YtohkioijdokegaaDoorOwn4
import Derived.Test.YtohkioijdokegaaDoorPEntitiesPlaysx6
import Derived.Deep.LoopGhost
namespace Go.Proofs.YtohkioijdokegaaDoor.En
open Go Go.Lib Go.RowKit Go.Proofs.YtohkioijdokegaaDoorW.PrintWords Go.Proofs.YtohkioijdokegaaDoorW.PrintLast Go.Proofs.YtohkioijdokegaaDoor.Own Go.Proofs.YtohkioijdokegaaDoor.Nm Go.Proofs.YtohkioijdokegaaDoor.Srcw Go.Proofs.YtohkioijdokegaaDoor.Tab
set_option linter.unusedVariables false
set_option linter.unusedSimpArgs false
def RefPost (r : ByteArray) (f : Nat) (w : World) (e : Ending) (w' : World) : Prop :=
  ∃ (t : ByteArray) (p q : Int), e = .returned (.tuple #[.string t, .int .i64 p, .int .i64 q]) ∧ Below w.heap.size w w' ∧ ∃ nm ok, scanR [] (r.data.toList.drop f) = (nm, ok) ∧ (ok = true → t = str nm ∧ p = ((f + nm.length : Nat) : Int)) ∧ (ok = false → p = -1 ∧ q = ((f + nm.length : Nat) : Int)) ∧ f + nm.length ≤ r.size ∧ (ok = true → f + nm.length < r.size)
set_option maxHeartbeats 4000000 in
set_option maxRecDepth 100000 in
theorem ref_calls (r : ByteArray) (f : Nat) (w : World) (hf : f ≤ r.size) (hR : r.size ≤ 1048576) :
    Calls Tryd.prog 31 #[.string r, .int .i64 f] w (RefPost r f w) := by
  have HL := Aside0.mk (size_data r)
  go_enter Tryd.func31, Tryd.ntmps31
  go_wp2
  go_loopg [7] (r.size + 1) (fun gk v7 wr => ∃ (q : Nat), v7 = .int .i64 q ∧ Aside0 (f ≤ q ∧ q ≤ r.size) ∧ Aside0 (r.size - q < gk) ∧ Aside0 (scanR [] (r.data.toList.drop f) = scanR ((r.data.toList.drop f).take (q - f)) (r.data.toList.drop q)) ∧ Aside0 (Below w.heap.size w wr))
  case atStart => exact ⟨f, rfl, ⟨⟨Nat.le_refl _, hf⟩⟩, ⟨by omega⟩, ⟨by rw [Nat.sub_self, List.take_zero]⟩, ⟨Below.refl _ _⟩⟩
  case round =>
    obtain ⟨q, rfl, D1, D2, D3, D6⟩ := hrel
    cases gk with
    | zero => exact absurd D2.out (by omega)
    | succ k2 =>
    have hfq := D1.out.1
    have hqs := D1.out.2
    obtain ⟨nm, hnm⟩ : ∃ nm, (r.data.toList.drop f).take (q - f) = nm := ⟨_, rfl⟩
    have hnl : nm.length = q - f := by rw [← hnm, List.length_take, List.length_drop, HL.out]; omega
    have HNM := Aside0.mk hnm
    have HNL := Aside0.mk hnl
    rw [hnm] at D3
    clear hnm hnl
    by_cases hlt : q < r.size
    · have hg9 : r.data.toList[q]'(by rw [HL.out]; exact hlt) = r[q] := rfl
      have HD := Aside0.mk (show (r.data.toList.drop q) = r[q] :: r.data.toList.drop (q + 1) by
        rw [List.drop_eq_getElem_cons (by rw [HL.out]; exact hlt), hg9])
      have HSN := Aside0.mk (show (r.extract f (q + 1)).data.toList = nm ++ [r[q]] by
        rw [cut_str, str_list, ← HNM.out, show q + 1 - f = (q - f) + 1 by omega, List.take_add_one, List.getElem?_drop, show f + (q - f) = q by omega, List.getElem?_eq_getElem (by rw [HL.out]; exact hlt), hg9]
        rfl)
      clear hg9
      have z1 : (0 : Int) ≤ (q : Int) + 1 := by omega
      have z2 : (q : Int) + 1 ≤ (r.size : Int) := by omega
      have z3 : (f : Int) ≤ (q : Int) + 1 := by omega
      have z4 : ((q : Int) + 1).toNat = q + 1 := by omega
      have z5 : wrap64 ((q : Int) + 1) = (q : Int) + 1 := w64 (by omega) (by omega)
      have z6 : (f : Int) ≤ (q : Int) := by omega
      have z7 : (q : Int) ≤ (r.size : Int) := by omega
      have t1 : decide ((q : Int) < (r.size : Int)) = true := decide_eq_true (by omega)
      have t2 : decide (q < r.size) = true := decide_eq_true hlt
      by_cases hc : r[q].toNat = 59 ∧ f < q
      · have h8 : r[q] = 59 := UInt8.toNat_inj.1 hc.1
        have HSC := Aside0.mk (show scanR [] (r.data.toList.drop f) = (nm, true) by
          rw [D3.out, HD.out, h8]
          exact scan_hit (fun e => by have h9 := HNL.out; rw [e, List.length_nil] at h9; have := hc.2; omega))
        have HNS := Aside0.mk (show r.extract f q = str nm by rw [cut_str, HNM.out])
        have q1 : (r[q].toNat == 59) = true := by simp [hc.1]
        have q2 : ((r[q].toNat : Int) == 59) = true := by simp [hc.1]
        have q3 : decide ((r[q].toNat : Int) = 59) = true := by simp [hc.1]
        have q4 : decide ((f : Int) < (q : Int)) = true := by simp; exact hc.2
        have q5 : decide (f < q) = true := by simp; exact hc.2
        clear hc h8
        go_wp2
        go_ret3
        exact ⟨_, _, _, rfl, D6.out, nm, true, HSC.out, fun _ => ⟨HNS.out, by rw [HNL.out]; congr 1; omega⟩, fun h => (by cases h), by rw [HNL.out]; omega, fun _ => by rw [HNL.out]; omega⟩
      · have HCN := Aside0.mk (show ¬ (r[q] = 59 ∧ nm ≠ []) from fun h => hc ⟨by rw [h.1]; rfl, by
          rcases Nat.lt_or_ge f q with h2 | h2
          · exact h2
          · exact absurd (List.length_eq_zero_iff.1 (by rw [HNL.out]; omega)) h.2⟩)
        obtain ⟨ql, hql⟩ : ∃ b, localL (nm ++ [r[q]]) = b := ⟨_, rfl⟩
        have HQL := Aside0.mk hql
        clear hql
        have ways : ∀ (P : Prop), ((r[q].toNat == 59) = false → ((r[q].toNat : Int) == 59) = false → decide ((r[q].toNat : Int) = 59) = false → P) → ((r[q].toNat == 59) = true → ((r[q].toNat : Int) == 59) = true → decide ((r[q].toNat : Int) = 59) = true → decide ((f : Int) < (q : Int)) = false → decide (f < q) = false → P) → P := by
          intro P ha hb
          by_cases h59 : r[q].toNat = 59
          · exact hb (by simp [h59]) (by simp [h59]) (by simp [h59]) (by have := mt (And.intro h59) hc; simp; omega) (by have := mt (And.intro h59) hc; simp; omega)
          · exact ha (by simp [h59]) (by simp; omega) (by simp; omega)
        clear hc
        cases ql
        · have HF := Aside0.mk (show scanR [] (r.data.toList.drop f) = (nm, false) from D3.out.trans (by rw [HD.out]; exact scan_bad HCN.out HQL.out))
          refine ways _ (fun q1 q2 q3 => ?_) (fun q1 q2 q3 q4 q5 => ?_) <;> clear ways
          all_goals
            go_wp2_with (first
              | (go_at_call 27; refine (rlocal_calls _ _).mono ?_; rintro e w5 ⟨rfl, hb⟩; rw [HSN.out, HQL.out]; have F5 := Aside0.mk (D6.out.trans (hb.mono D6.out.size)); clear hb))
            go_ret3
            exact ⟨_, _, _, rfl, F5.out, nm, false, HF.out, fun h => (by cases h), fun _ => ⟨rfl, by rw [HNL.out]; congr 1; omega⟩, by rw [HNL.out]; omega, fun h => (by cases h)⟩
        · have HNX := Aside0.mk (show scanR [] (r.data.toList.drop f) = scanR ((r.data.toList.drop f).take (q + 1 - f)) (r.data.toList.drop (q + 1)) by
            rw [D3.out, HD.out, scan_next HCN.out HQL.out, ← HSN.out, cut_str, str_list])
          refine ways _ (fun q1 q2 q3 => ?_) (fun q1 q2 q3 q4 q5 => ?_) <;> clear ways
          all_goals
            go_wp2_with (first
              | (go_at_call 27; refine (rlocal_calls _ _).mono ?_; rintro e w5 ⟨rfl, hb⟩; rw [HSN.out, HQL.out]; have F5 := Aside0.mk (D6.out.trans (hb.mono D6.out.size)); clear hb))
            go_roundg k2
            case measure => have := D2.out; omega
            case rel => exact ⟨q + 1, by go_num, ⟨⟨by omega, by omega⟩⟩, ⟨by have := D2.out; omega⟩, HNX, F5⟩
    · have hqe : q = r.size := by omega
      have HF := Aside0.mk (show scanR [] (r.data.toList.drop f) = (nm, false) from D3.out.trans (by rw [List.drop_of_length_le (by rw [HL.out]; omega)]; exact scan_end _))
      have t1 : decide ((q : Int) < (r.size : Int)) = false := decide_eq_false (by omega)
      have t2 : decide (q < r.size) = false := decide_eq_false (by omega)
      go_wp2
      go_ret3
      exact ⟨_, _, _, rfl, D6.out, nm, false, HF.out, fun h => (by cases h), fun _ => ⟨rfl, by rw [HNL.out]; congr 1; omega⟩, by rw [HNL.out]; omega, fun h => (by cases h)⟩
end Go.Proofs.YtohkioijdokegaaDoor.En

namespace Go.Proofs.YtohkioijdokegaaDoor.En
open Go Go.Lib Go.RowKit Go.Proofs.YtohkioijdokegaaDoorW.PrintWords Go.Proofs.YtohkioijdokegaaDoorW.PrintLast Go.Proofs.YtohkioijdokegaaDoor.Own Go.Proofs.YtohkioijdokegaaDoor.Nm Go.Proofs.YtohkioijdokegaaDoor.Srcw Go.Proofs.YtohkioijdokegaaDoor.Tab
set_option linter.unusedVariables false
set_option linter.unusedSimpArgs false
def RFillPost (B g : Nat) (s : ES) (l : List Ent) (raw : List UInt8) (w : World) (e : Ending) (w' : World) : Prop :=
  ∃ t x p told', e = .returned (.tuple #[.string t, .int .i64 x, .int .i64 p]) ∧ (t = str (fillE s raw).1 ∧ x = (fillE s raw).2.1 ∧ p = ((fillE s raw).2.2.1 : Nat)) ∧ IsR B w' g l told' ∧ Rel (fillE s raw).2.2.2 l told' ∧ Below B w w'
theorem rfill_post {B g : Nat} {s s' : ES} {l : List Ent} {raw out : List UInt8} {t : ByteArray} {x told' : Int} {p : Nat} {w w' : World} (h : fillE s raw = (out, x, p, s')) (ht : t = str out) (h1 : IsR B w' g l told') (h2 : Rel s' l told') (h3 : Below B w w') : RFillPost B g s l raw w (.returned (.tuple #[.string t, .int .i64 x, .int .i64 p])) w' :=
  ⟨t, x, p, told', rfl, by rw [h]; exact ⟨ht, rfl, rfl⟩, h1, by rw [h]; exact h2, h3⟩
theorem str_app (a b : List UInt8) : str a ++ str b = str (a ++ b) := by
  apply ByteArray.ext
  simp [str, ByteArray.data_append]
theorem fill_byte {k p : Nat} {c : UInt8} {r out : List UInt8} {s : ES} (h : c ≠ 38) : fillB (k + 1) p (c :: r) out s = fillB k (p + 1) r (out ++ [c]) s := by
  rw [fillB, if_neg h]

set_option maxHeartbeats 8000000 in
set_option maxRecDepth 100000 in
theorem rfill_calls {B g : Nat} {w : World} {s : ES} {l : List Ent} {told : Int} (r : ByteArray) (h : IsR B w g l told) (hR : Rel s l told) (hS : SI s) (hl : l.length ≤ 1000000000) (hr : r.size ≤ 1048576) :
    Calls Tryd.prog 20 #[.pointer (some ⟨g, 0, none⟩), .string r] w (RFillPost B g s l r.data.toList w) := by
  have HL := Aside0.mk (size_data r)
  have H := Aside0.mk h
  have HR := Aside0.mk hR
  have HS := Aside0.mk hS
  have HB := Aside0.mk (show B ≤ w.heap.size by have := h.lt; have := h.1; omega)
  clear h hR hS
  go_enter Tryd.func20, Tryd.ntmps20
  go_wp2
  go_loopg [7, 8] (r.size + 1) (fun gk v7 v8 wr => ∃ (p kf : Nat) (out : List UInt8) (s' : ES) (told' : Int) (ob : ByteArray), v8 = .int .i64 p ∧ v7 = .string ob ∧ Aside0 (ob = str out) ∧ Aside0 (p ≤ r.size) ∧ Aside0 (r.size - p < gk ∧ r.size - p < kf) ∧ Aside0 (fillE s r.data.toList = fillB kf p (r.data.toList.drop p) out s') ∧ Aside0 (SI s') ∧ Aside0 (out.length ≤ p * 1048576) ∧ Aside0 (IsR B wr g l told') ∧ Aside0 (Rel s' l told') ∧ Aside0 (Below B w wr))
  case atStart => exact ⟨0, r.size + 1, [], s, told, _, rfl, rfl, ⟨rfl⟩, ⟨Nat.zero_le _⟩, ⟨⟨by omega, by omega⟩⟩, ⟨by unfold fillE; rw [HL.out, List.drop_zero]⟩, HS, ⟨by simp⟩, H, HR, ⟨Below.refl _ _⟩⟩
  case round =>
    obtain ⟨p, kf, out, s', told', ob, rfl, rfl, P0, P1, P2, P3, P4, P5, P6, P7, P8⟩ := hrel
    cases gk with
    | zero => exact absurd P2.out.1 (by omega)
    | succ k1 =>
    have hp := P1.out
    have hob : ob.size ≤ 1099511627776 := by
      rw [P0.out, str_size]
      have h1 := P5.out
      have : p * 1048576 ≤ 1048576 * 1048576 := Nat.mul_le_mul_right _ (by omega)
      omega
    obtain ⟨kf', hkf⟩ : ∃ d, kf = d + 1 := ⟨kf - 1, by have := P2.out.2; omega⟩
    subst hkf
    by_cases hlt : p < r.size
    · have hg9 : r.data.toList[p]'(by rw [HL.out]; exact hlt) = r[p] := rfl
      have HD := Aside0.mk (show (r.data.toList.drop p) = r[p] :: r.data.toList.drop (p + 1) by
        rw [List.drop_eq_getElem_cons (by rw [HL.out]; exact hlt), hg9])
      have HCU := Aside0.mk (show r.extract p (p + 1) = str [r[p]] by
        rw [cut_str, HD.out, show p + 1 - p = 1 by omega]; rfl)
      clear hg9
      have z1 : (0 : Int) ≤ (p : Int) + 1 := by omega
      have z2 : (p : Int) + 1 ≤ (r.size : Int) := by omega
      have z3 : (p : Int) ≤ (p : Int) + 1 := by omega
      have z4 : ((p : Int) + 1).toNat = p + 1 := by omega
      have z5 : wrap64 ((p : Int) + 1) = (p : Int) + 1 := w64 (by omega) (by omega)
      have t1 : decide ((p : Int) < (r.size : Int)) = true := decide_eq_true (by omega)
      have t2 : decide (p < r.size) = true := decide_eq_true hlt
      by_cases hc : r[p].toNat = 38
      · have h8 : r[p] = 38 := UInt8.toNat_inj.1 hc
        have HD2 := Aside0.mk (show fillE s r.data.toList = fillB (kf' + 1) p (38 :: r.data.toList.drop (p + 1)) out s' by rw [P3.out, HD.out, h8])
        have q1 : (r[p].toNat == 38) = true := by simp [hc]
        have q2 : ((r[p].toNat : Int) == 38) = true := by simp [hc]
        have q3 : decide ((r[p].toNat : Int) = 38) = true := by simp [hc]
        have HRC : Aside0 (∀ W, Calls Tryd.prog 31 #[.string r, .int .i64 ((p : Int) + 1)] W (RefPost r (p + 1) W)) := ⟨fun W => by have := ref_calls r (p + 1) W (by omega) hr; rwa [show (((p + 1 : Nat)) : Int) = (p : Int) + 1 from by push_cast; rfl] at this⟩
        clear hc h8
        go_wp2_with (fail)
        refine (HRC.out _).mono ?_
        rintro e w2 ⟨t, a, b, rfl, hb, nm, ok, hsc, h1, h2, h3, h4⟩
        have B2 := Aside0.mk (P8.out.trans (hb.mono (show B ≤ wr.heap.size by have := P8.out.size; have := HB.out; omega)))
        cases ok
        · obtain ⟨ha, hb2⟩ := h2 rfl
          have HF := Aside0.mk (show fillE s r.data.toList = ([], 2, p + 1 + nm.length, s') by rw [HD2.out, fill_bad hsc])
          subst ha hb2
          have HI := Aside0.mk (P6.out.below hb)
          clear hsc h1 h2 h3 h4 hb
          go_wp2
          go_ret3
          exact rfill_post HF.out rfl HI.out P7.out B2.out
        · obtain ⟨ha, hb2⟩ := h1 rfl
          have h5 := h4 rfl
          subst ha hb2
          obtain ⟨q, hq⟩ : ∃ q, q = p + 1 + nm.length := ⟨_, rfl⟩
          rw [← hq]
          have HQ := Aside0.mk hq
          have hqs : q < r.size := by omega
          have HI := Aside0.mk (P6.out.below hb)
          have HSC := Aside0.mk hsc
          obtain ⟨t2, x, s2, hg⟩ : ∃ t x s2, getE s' (str nm) = (t, x, s2) := ⟨_, _, _, rfl⟩
          have HG2 := Aside0.mk hg
          have HS2 := Aside0.mk (show SI s2 ∧ t2.size ≤ 1048576 by have := P4.out.get (str nm); rw [hg] at this; exact this)
          have HTL := Aside0.mk (show 0 ≤ told' ∧ told' ≤ 1000000000 by rw [← P7.out.told]; exact P4.out.1)
          have u0 : decide ((q : Int) < 0) = false := decide_eq_false (by omega)
          have u1 : wrap64 ((q : Int) + 1) = (q : Int) + 1 := w64 (by omega) (by omega)
          clear hsc h1 h2 h3 h4 h5 hb hg hq
          by_cases hx : x = 0
          · subst hx
            have hts : t2.size ≤ 1048576 := HS2.out.2
            have HNX := Aside0.mk (show fillE s r.data.toList = fillB kf' (q + 1) (r.data.toList.drop (q + 1)) (out ++ t2.data.toList) s2 by
              rw [HD2.out, fill_ok HSC.out HG2.out, List.drop_drop]
              have := HQ.out
              congr 1
              · omega
              · congr 1; omega)
            have HO := Aside0.mk (show ob ++ t2 = str (out ++ t2.data.toList) by rw [P0.out, ← str_app, str_of])
            have HLN := Aside0.mk (show (out ++ t2.data.toList).length ≤ (q + 1) * 1048576 by
              have h1 := P5.out
              have h2 := HQ.out
              rw [List.length_append, size_data]
              have : p * 1048576 + 1 * 1048576 ≤ (q + 1) * 1048576 := by rw [← Nat.add_mul]; exact Nat.mul_le_mul_right _ (by omega)
              omega)
            go_wp2_with (fail)
            refine (rget_calls (str nm) HI.out P7.out hl HTL.out).mono ?_
            rintro e w3 ⟨t', x', told2, rfl, ht, hi, hr2, hb⟩
            rw [HG2.out] at ht hr2
            have ht1 : t' = t2 := ht.1
            have ht2 : x' = 0 := ht.2
            rw [ht1, ht2]
            have E3 := Aside0.mk hi
            have R3 := Aside0.mk hr2
            have B3 := Aside0.mk (B2.out.trans hb)
            clear ht ht1 ht2 hi hr2 hb
            go_wp2
            go_roundg k1
            case measure => have := P2.out.1; have := HQ.out; omega
            case rel => exact ⟨q + 1, kf', _, s2, told2, _, by go_num, rfl, HO, ⟨by omega⟩, ⟨⟨by have := P2.out.1; have := HQ.out; omega, by have := P2.out.2; have := HQ.out; omega⟩⟩, HNX, ⟨HS2.out.1⟩, HLN, E3, R3, B3⟩
          · have HF := Aside0.mk (show fillE s r.data.toList = ([], x, q, s2) by
              rw [HD2.out, fill_err HSC.out HG2.out hx, HQ.out])
            have u3 : decide (x = 0) = false := decide_eq_false hx
            have u4 : (x == 0) = false := by simp; exact hx
            clear hx
            go_wp2_with (fail)
            refine (rget_calls (str nm) HI.out P7.out hl HTL.out).mono ?_
            rintro e w3 ⟨t', x', told2, rfl, ht, hi, hr2, hb⟩
            rw [HG2.out] at ht hr2
            have ht1 : t' = t2 := ht.1
            have ht2 : x' = x := ht.2
            rw [ht1, ht2]
            have E3 := Aside0.mk hi
            have R3 := Aside0.mk hr2
            have B3 := Aside0.mk (B2.out.trans hb)
            clear ht ht1 ht2 hi hr2 hb
            go_wp2
            go_ret3
            exact rfill_post HF.out rfl E3.out R3.out B3.out
      · have h38 : r[p] ≠ 38 := fun e => hc (by rw [e]; rfl)
        have HNX := Aside0.mk (show fillE s r.data.toList = fillB kf' (p + 1) (r.data.toList.drop (p + 1)) (out ++ [r[p]]) s' by rw [P3.out, HD.out, fill_byte h38])
        have q1 : (r[p].toNat == 38) = false := by simp [hc]
        have q2 : ((r[p].toNat : Int) == 38) = false := by simp; omega
        have q3 : decide ((r[p].toNat : Int) = 38) = false := by simp; omega
        have hex : (r.extract p (p + 1)).size ≤ 1 := by rw [ByteArray.size_extract]; omega
        have HO := Aside0.mk (show ob ++ r.extract p (p + 1) = str (out ++ [r[p]]) by rw [HCU.out, P0.out, str_app])
        clear hc h38
        go_wp2
        go_roundg k1
        case measure => have := P2.out.1; omega
        case rel => exact ⟨p + 1, kf', _, s', told', _, by go_num, rfl, HO, ⟨by omega⟩, ⟨⟨by have := P2.out.1; omega, by have := P2.out.2; omega⟩⟩, HNX, P4, ⟨by have h := P5.out; rw [List.length_append, Nat.add_mul, List.length_singleton]; omega⟩, P6, P7, P8⟩
    · have hpe : p = r.size := by omega
      have HF := Aside0.mk (show fillE s r.data.toList = (out, 0, r.size, s') by rw [P3.out, List.drop_of_length_le (by rw [HL.out]; omega), fillB, hpe])
      have t1 : decide ((p : Int) < (r.size : Int)) = false := decide_eq_false (by omega)
      have t2 : decide (p < r.size) = false := decide_eq_false (by omega)
      clear hpe
      go_wp2
      go_ret3
      exact rfill_post HF.out P0.out P6.out P7.out P8.out
end Go.Proofs.YtohkioijdokegaaDoor.En

namespace Go.Proofs.YtohkioijdokegaaDoor.En
open Go Go.Lib Go.RowKit Go.Proofs.YtohkioijdokegaaDoorW.PrintWords Go.Proofs.YtohkioijdokegaaDoorW.PrintLast Go.Proofs.YtohkioijdokegaaDoor.Own Go.Proofs.YtohkioijdokegaaDoor.Nm Go.Proofs.YtohkioijdokegaaDoor.Srcw Go.Proofs.YtohkioijdokegaaDoor.Tab Go.Proofs.YtohkioijdokegaaDoor.PEntitiesPlays
set_option linter.unusedVariables false
set_option linter.unusedSimpArgs false
theorem infoEnt : (Tryd.prog.info? 50).map (fun i => (i.zero, i.size, i.bytes)) = some (some (.agg #[.string ⟨#[]⟩, .string ⟨#[]⟩]), 2, 32) := by kernel_rfl
theorem sum_app (l : List Ent) (x : Ent) : sumR (l ++ [x]) = sumR l + (x.f0.size + x.f1.size) := by
  unfold sumR
  rw [List.map_append, List.sum_append]
  simp only [List.map_cons, List.map_nil, List.sum_cons, List.sum_nil, Nat.add_zero]
theorem rel_add {s : ES} {l : List Ent} {told : Int} (h : Rel s l told) {n t : ByteArray} (hn : s.f n = none) :
    Rel { s with f := fun y => if y = n then some t else s.f y, n := s.n + 1, size := s.size + (n.size + t.size) } (l ++ [⟨n, t⟩]) told := by
  refine ⟨fun y hy => ?_, fun m x hx => ?_, ?_, h.told, ?_⟩
  · rcases List.mem_append.1 hy with h1 | h1
    · have h2 := h.mem y h1
      have h3 : y.f0 ≠ n := fun e => by rw [e, hn] at h2; cases h2
      show (if y.f0 = n then some t else s.f y.f0) = some y.f1
      rw [if_neg h3, h2]
    · rw [List.mem_singleton] at h1
      subst h1
      show (if n = n then some t else s.f n) = some t
      rw [if_pos rfl]
  · by_cases e : m = n
    · exact ⟨⟨n, t⟩, by simp, e.symm⟩
    · have hx' : (if m = n then some t else s.f m) = some x := hx
      rw [if_neg e] at hx'
      obtain ⟨y, h1, h2⟩ := h.ex m x hx'
      exact ⟨y, List.mem_append.2 (.inl h1), h2⟩
  · show s.size + (n.size + t.size) = _
    rw [sum_app, h.size]
    push_cast
    rfl
  · show s.n + 1 = _
    rw [h.n]; simp
def RDefPost (B g : Nat) (s : ES) (n t : ByteArray) (w : World) (e : Ending) (w' : World) : Prop :=
  ∃ x l' told', e = .returned (.int .i64 x) ∧ x = (defE s n t).1 ∧ IsR B w' g l' told' ∧ Rel (defE s n t).2 l' told' ∧ Below B w w'
theorem rdef_post {B g : Nat} {s s' : ES} {l' : List Ent} {n t : ByteArray} {x told' : Int} {w w' : World} (h : defE s n t = (x, s')) (h1 : IsR B w' g l' told') (h2 : Rel s' l' told') (h3 : Below B w w') : RDefPost B g s n t w (.returned (.int .i64 x)) w' :=
  ⟨x, l', told', rfl, by rw [h], h1, by rw [h]; exact h2, h3⟩
theorem def_1 {s : ES} {n t : ByteArray} (h : localL n.data.toList = false) : defE s n t = (1, s) := by unfold defE; rw [if_pos h]
theorem def_3 {s : ES} {n t : ByteArray} (h1 : localL n.data.toList = true) (h : validD t.data.toList = false) : defE s n t = (3, s) := by unfold defE; rw [if_neg (by rw [h1]; decide), if_pos h]
theorem def_6 {s : ES} {n t : ByteArray} (h1 : localL n.data.toList = true) (h2 : validD t.data.toList = true) (h : ((fourN n).isSome || (s.f n).isSome) = true) : defE s n t = (6, s) := by unfold defE; rw [if_neg (by rw [h1]; decide), if_neg (by rw [h2]; decide), if_pos h]
theorem def_15 {s : ES} {n t : ByteArray} (h1 : localL n.data.toList = true) (h2 : validD t.data.toList = true) (h3 : ((fourN n).isSome || (s.f n).isSome) = false) (h : 200 < s.size + n.size + t.size) : defE s n t = (15, s) := by unfold defE; rw [if_neg (by rw [h1]; decide), if_neg (by rw [h2]; decide), if_neg (by rw [h3]; decide), if_pos h]
theorem def_0 {s : ES} {n t : ByteArray} (h1 : localL n.data.toList = true) (h2 : validD t.data.toList = true) (h3 : ((fourN n).isSome || (s.f n).isSome) = false) (h : ¬ 200 < s.size + n.size + t.size) : defE s n t = (0, { s with f := fun y => if y = n then some t else s.f y, n := s.n + 1, size := s.size + (n.size + t.size) }) := by unfold defE; rw [if_neg (by rw [h1]; decide), if_neg (by rw [h2]; decide), if_neg (by rw [h3]; decide), if_neg h]

set_option maxHeartbeats 8000000 in
set_option maxRecDepth 100000 in
theorem rdef_calls {B g : Nat} {w : World} {s : ES} {l : List Ent} {told : Int} (n t : ByteArray) (h : IsR B w g l told) (hR : Rel s l told) (hl : l.length ≤ 1000000) (hs : sumR l ≤ 1000000000) (hn : n.size ≤ 140737488351232) (ht : t.size ≤ 1048576) :
    Calls Tryd.prog 18 #[.pointer (some ⟨g, 0, none⟩), .string n, .string t] w (RDefPost B g s n t w) := by
  have H := Aside0.mk h
  have HR := Aside0.mk hR
  have HB := Aside0.mk (show B ≤ w.heap.size by have := h.lt; have := h.1; omega)
  have HSU := Aside0.mk hs
  clear h hR hs
  have hl2 : l.length ≤ 1000000000 := by omega
  obtain ⟨q4, hq4⟩ : ∃ q, (fourN n).isSome = q := ⟨_, rfl⟩
  obtain ⟨qv, hqv⟩ : ∃ q, validD t.data.toList = q := ⟨_, rfl⟩
  obtain ⟨ql, hql⟩ : ∃ q, localL n.data.toList = q := ⟨_, rfl⟩
  have Q4 := Aside0.mk hq4
  have QV := Aside0.mk hqv
  have QL := Aside0.mk hql
  clear hq4 hqv hql
  have hall : ql = false ∨ (ql = true ∧ qv = false) ∨ (ql = true ∧ qv = true ∧ q4 = true) ∨ (ql = true ∧ qv = true ∧ q4 = false) := by
    cases ql <;> cases qv <;> cases q4 <;> simp
  rcases hall with rfl | ⟨rfl, rfl⟩ | ⟨rfl, rfl, rfl⟩ | ⟨rfl, rfl, rfl⟩
  · have HG := Aside0.mk (def_1 (s := s) (t := t) QL.out)
    go_enter Tryd.func18, Tryd.ntmps18
    go_wp2_with (first
      | (go_at_call 27; refine (rlocal_calls n _).mono ?_; rintro e w1 ⟨rfl, hb⟩; rw [QL.out]; have B1 := Aside0.mk hb; clear hb))
    go_ret
    exact rdef_post HG.out (H.out.below B1.out) HR.out (B1.out.mono HB.out)
  · have HG := Aside0.mk (def_3 (s := s) QL.out QV.out)
    go_enter Tryd.func18, Tryd.ntmps18
    go_wp2_with (first
      | (go_at_call 27; refine (rlocal_calls n _).mono ?_; rintro e w1 ⟨rfl, hb⟩; rw [QL.out]; have B1 := Aside0.mk hb; clear hb)
      | (go_at_call 28; refine (refvalid_calls t (by omega) _).mono ?_; rintro e w2 ⟨rfl, hb⟩; rw [QV.out]; have B2 := Aside0.mk (B1.out.trans (hb.mono B1.out.size)); clear hb))
    go_ret
    exact rdef_post HG.out (H.out.below B2.out) HR.out (B2.out.mono HB.out)
  · have HG := Aside0.mk (def_6 (s := s) QL.out QV.out (by rw [Q4.out]; rfl))
    go_enter Tryd.func18, Tryd.ntmps18
    go_wp2_with (first
      | (go_at_call 27; refine (rlocal_calls n _).mono ?_; rintro e w1 ⟨rfl, hb⟩; rw [QL.out]; have B1 := Aside0.mk hb; clear hb)
      | (go_at_call 28; refine (refvalid_calls t (by omega) _).mono ?_; rintro e w2 ⟨rfl, hb⟩; rw [QV.out]; have B2 := Aside0.mk (B1.out.trans (hb.mono B1.out.size)); clear hb)
      | (go_at_call 29; refine (rfour_calls n _).mono ?_; rintro e w3 ⟨rfl, hb⟩; rw [Q4.out]; have B3 := Aside0.mk (B2.out.trans (hb.mono B2.out.size)); clear hb))
    go_ret
    exact rdef_post HG.out (H.out.below B3.out) HR.out (B3.out.mono HB.out)
  · go_enter Tryd.func18, Tryd.ntmps18
    go_wp2_with (first
      | (go_at_call 27; refine (rlocal_calls n _).mono ?_; rintro e w1 ⟨rfl, hb⟩; rw [QL.out]; have B1 := Aside0.mk hb; clear hb)
      | (go_at_call 28; refine (refvalid_calls t (by omega) _).mono ?_; rintro e w2 ⟨rfl, hb⟩; rw [QV.out]; have B2 := Aside0.mk (B1.out.trans (hb.mono B1.out.size)); clear hb)
      | (go_at_call 29; refine (rfour_calls n _).mono ?_; rintro e w3 ⟨rfl, hb⟩; rw [Q4.out]; have B3 := Aside0.mk (B2.out.trans (hb.mono B2.out.size)); clear hb))
    refine (rfind_calls n (H.out.below B3.out) hl2).mono ?_
    rintro e w4 ⟨x, rfl, hx, hb⟩
    have B4 := Aside0.mk (B3.out.trans (hb.mono B3.out.size))
    clear hb
    rcases hx with ⟨rfl, hx⟩ | ⟨i, rfl, hi, hx⟩
    · have HNO := Aside0.mk (HR.out.none hx)
      clear hx
      have h36 : ((fourN n).isSome || (s.f n).isSome) = false := by rw [Q4.out, HNO.out]; rfl
      go_wp2_with fail
      refine (rsize_calls (H.out.below B4.out) HSU.out hl2).mono ?_
      rintro e w5 ⟨rfl, hb⟩
      have B5 := Aside0.mk (B4.out.trans (hb.below.mono B4.out.size))
      clear hb
      obtain ⟨sm, hsm⟩ : ∃ sm, sumR l = sm := ⟨_, rfl⟩
      have hsm1 : sm ≤ 1000000000 := by rw [← hsm]; exact HSU.out
      have hss : s.size = (sm : Int) := by rw [HR.out.size, hsm]
      rw [hsm]
      clear hsm
      have u1 : wrap64 ((sm : Int) + n.size) = (sm : Int) + n.size := w64 (by omega) (by omega)
      have u2 : wrap64 ((sm : Int) + n.size + t.size) = (sm : Int) + n.size + t.size := w64 (by omega) (by omega)
      by_cases h2 : 200 < (sm : Int) + n.size + t.size
      · have HG := Aside0.mk (def_15 QL.out QV.out h36 (by rw [hss]; exact h2))
        have t5 : decide (200 < (sm : Int) + n.size + t.size) = true := decide_eq_true h2
        clear h36 h2 hss
        go_wp2
        go_ret
        exact rdef_post HG.out (H.out.below B5.out) HR.out (B5.out.mono HB.out)
      · have HG := Aside0.mk (def_0 QL.out QV.out h36 (by rw [hss]; exact h2))
        have t5 : decide (200 < (sm : Int) + n.size + t.size) = false := decide_eq_false h2
        clear h36 h2 hss
        obtain ⟨h0, v, h1, h2⟩ := H.out.below B5.out
        have c0 := (blk_cell h1 0).trans rfl
        have f0 := blk_frozen h1 0
        have R1 := Aside0.mk h2
        have G1 := Aside0.mk h1
        have HFR := Aside0.mk (show ∀ k, w5.heap.size ≤ k → k ≠ g from fun k hk => by have := blk_lt h1; omega)
        clear h0 h1 h2
        go_wp2_with (first
          | ((with_reducible refine gate_builtin (b := .append) (xs := #[.tmp 44, .tmp 48]) rfl ?_); at_builtin; refine Kd.R_append k50 (w0 := w) B rfl (.tmp 44) (.tmp 48) 26 50 (.agg #[.string ⟨#[]⟩, .string ⟨#[]⟩]) 32 rfl Tryd.underlying26 infoEnt rfl (by decide) (by omega) v l (⟨n, t⟩ : Ent) [.string n, .string t] (fun k => k ≠ g) (fun _ => False) rfl rfl ?aP (fun _ hk => hk.elim) HFR.out R1.out (B5.out.mono HB.out) (by have := B5.out.size; have := HB.out; omega) (by omega) ?_; (case aP => exact k50_mkM _ _ _ _); intro v2 w6 ho hb6 hg6 hat; have R6 := Aside0.mk ho; have B6 := Aside0.mk hb6; have G6 := Aside0.mk (blk_grown G1.out hg6 (fun h => (R1.out.1 g h.symm) rfl)); have c0 := (blk_cell G6.out 0).trans rfl; have f0 := blk_frozen G6.out 0; obtain ⟨A2, n2, hv2⟩ := Kd.R_slice ho; rw [List.length_append, List.length_singleton] at hv2; clear ho hb6 hg6 hat; subst hv2))
        go_ret
        exact rdef_post HG.out ⟨H.out.1, _, blk_put (cs' := #[.slice A2 _ n2, .int .i64 told]) G6.out 0 _ rfl, Kd.R_far (p := ⟨g, 0, none⟩) R6.out (fun k hk => hk) _⟩ (rel_add HR.out HNO.out) (B6.out.setCell (p := ⟨g, 0, none⟩) H.out.1 _)
    · have HG := Aside0.mk (def_6 (s := s) QL.out QV.out (by have := HR.out.some hi; rw [hx] at this; rw [this, Q4.out]; rfl))
      have t0 : decide (0 ≤ (i : Int)) = true := decide_eq_true (by omega)
      clear hx
      go_wp2
      go_ret
      exact rdef_post HG.out (H.out.below B4.out) HR.out (B4.out.mono HB.out)
end Go.Proofs.YtohkioijdokegaaDoor.En

namespace Go.Proofs.YtohkioijdokegaaDoor.Own
open Go Go.ChangeShapes Go.WideShapes Go.Deep Go.RowKit Go.Proofs.YtohkioijdokegaaDoorW.PrintWords
set_option linter.unusedVariables false
set_option linter.unusedSimpArgs false
section
variable {H : Type} {enc : TypeId × Value → H} {P : Program} {w : World} {base : Nat} {spare : Nat → Bool} {held : Bool}
theorem open_slice_fields {t e : TypeId} {fs : Array Field} {fuel : Nat} {cs : List Value} {x : DataW H × List MemPlace} (ht : P.underlying t = some (.slice e)) (he : P.underlying e = some (.struct fs))
    (hone : oneCellFields P fs = true) (hC : P.cellsOf e = fs.size) (h : DataW.trod enc P w base spare held fuel t cs = some x) :
    (cs = [.slice none 0 0] ∧ x = (.nil, [])) ∨
    ∃ (a : Addr) (len cap m : Nat) (D : Nat → DataW H) (Pl : Nat → List MemPlace), cs = [.slice (some a) len cap] ∧ base ≤ a.block ∧ len ≤ cap ∧ cap ≤ maxLen ∧ m = (if spare a.block then cap else len) ∧
      x = (.slice ((List.range len).map D) ((List.range (m - len)).map fun j => D (len + j)), MemPlace.row a (m * fs.size) ++ (List.range m).flatMap Pl) ∧
      ∀ i, i < m → ∃ (ys : List (DataW H × List MemPlace)) (n : Nat), D i = .agg (ys.map (·.1)) ∧ Pl i = ys.flatMap (·.2) ∧ ys.length = fs.size ∧
        ∀ (j : Nat) (f : Field), fs[j]? = some f → ∃ (v : Value) (y : DataW H × List MemPlace), w.cell? (a.add (i * fs.size + j)) = some v ∧ ys[j]? = some y ∧ DataW.trod enc P w base spare held n f.type [v] = some y := by
  rcases open_slice ht h with h0 | ⟨a, len, cap, m, n, D, Pl, hcs, hb, hl, hm, hmm, hx, hi⟩
  · exact .inl h0
  · refine .inr ⟨a, len, cap, m, D, Pl, hcs, hb, hl, hm, hmm, by rw [hC] at hx; exact hx, fun i him => ?_⟩
    obtain ⟨cs', hc, ht'⟩ := hi i him
    rw [hC] at hc
    obtain ⟨ys, n', hn', hy, hlen, hyl, hf⟩ := DataW.trod_struct he ht'
    obtain ⟨_, hcl, hat⟩ := World.cells?_some hc
    simp only [Prod.mk.injEq] at hy
    refine ⟨ys, n', hy.1, hy.2, hyl, fun j f hj => ?_⟩
    obtain ⟨ho, hk⟩ := hone_of hone j f hj
    have hjl : j < fs.size := (Array.getElem?_eq_some_iff.1 hj).1
    have hcell := hat j hjl
    have hv : cs'[j]? = some (cs'[j]'(by omega)) := List.getElem?_eq_getElem (by omega)
    have h1 := hf j f hj
    rw [ho, hk] at h1
    have hone' : (cs'.drop j).take 1 = [cs'[j]'(by omega)] := by
      rw [List.drop_eq_getElem_cons (by omega)]
      rfl
    rw [hone'] at h1
    have hys : ys[j]? = some (ys[j]'(by omega)) := List.getElem?_eq_getElem (by omega)
    refine ⟨_, _, ?_, hys, h1.trans hys⟩
    rw [← Go.Deep.add_add, hcell, hv]
end
/-- A deed as data. -/
structure Dd where
  k : Int
  n : ByteArray
  t : ByteArray
/-- A slice of deeds that came in. -/
def IsDeeds (w : World) (a : Option Addr) (len : Nat) (D : Nat → Dd) : Prop :=
  len ≤ 9223372036854775807 ∧ ∀ i, i < len → ∃ x, a = some x ∧ w.cell? (x.add (i * 3)) = some (.int .i64 (D i).k) ∧ w.cell? ⟨(x.add (i * 3)).block, (x.add (i * 3)).off + 1, none⟩ = some (.string (D i).n) ∧ w.cell? ⟨(x.add (i * 3)).block, (x.add (i * 3)).off + 2, none⟩ = some (.string (D i).t) ∧
    (-9223372036854775808 ≤ (D i).k ∧ (D i).k ≤ 9223372036854775807)
theorem IsDeeds.below {w w' : World} {a : Option Addr} {len : Nat} {D : Nat → Dd} (h : IsDeeds w a len D) (hb : Below w.heap.size w w') : IsDeeds w' a len D :=
  ⟨h.1, fun i hi => by
    obtain ⟨x, h1, h2, h3, h4, h5⟩ := h.2 i hi
    exact ⟨x, h1, below_cell hb h2, below_cell hb h3, below_cell hb h4, h5⟩⟩
theorem open_deeds {H : Type} {enc : TypeId × Value → H} {P : Program} {w : World} {base : Nat} {held : Bool} {t e : TypeId} {f0 f1 f2 : Field} {a : Option Addr} {len cap : Nat} {d : DataW H} {p : List MemPlace} (ht : P.underlying t = some (.slice e)) (he : P.underlying e = some (.struct #[f0, f1, f2]))
    (hone : oneCellFields P #[f0, f1, f2] = true) (hC : P.cellsOf e = 3) (h0 : P.underlying f0.type = some (.int .i64)) (h1 : P.underlying f1.type = some .string) (h2 : P.underlying f2.type = some .string)
    (h : DataW.Trod enc P w base (fun _ => true) held t (.slice a len cap) d p) :
    ∃ D : Nat → Dd, IsDeeds w a len D ∧ (len = 0 ∨ ∃ spare, d = .slice ((List.range len).map fun i => .agg [.lit (.int .i64 (D i).k), .lit (.string (D i).n.data.toList), .lit (.string (D i).t.data.toList)]) spare) := by
  obtain ⟨fuel, hf⟩ := h
  rcases open_slice_fields ht he hone hC hf with ⟨hcs, _⟩ | ⟨x, l, c, m, DD, Pl, hcs, hb, hl, hm, hmm, hx, hi⟩
  · simp [Value.cells] at hcs
    obtain ⟨rfl, rfl, rfl⟩ := hcs
    exact ⟨fun _ => ⟨0, ⟨#[]⟩, ⟨#[]⟩⟩, ⟨by omega, fun i hi => absurd hi (Nat.not_lt_zero _)⟩, .inl rfl⟩
  · simp [Value.cells] at hcs
    obtain ⟨rfl, rfl, rfl⟩ := hcs
    have hmc : m = cap := by rw [hmm]; simp
    have each : ∀ i, i < len → ∃ q : Dd, (w.cell? (x.add (i * 3)) = some (.int .i64 q.k) ∧ w.cell? ⟨(x.add (i * 3)).block, (x.add (i * 3)).off + 1, none⟩ = some (.string q.n) ∧ w.cell? ⟨(x.add (i * 3)).block, (x.add (i * 3)).off + 2, none⟩ = some (.string q.t) ∧
        (-9223372036854775808 ≤ q.k ∧ q.k ≤ 9223372036854775807)) ∧ DD i = .agg [.lit (.int .i64 q.k), .lit (.string q.n.data.toList), .lit (.string q.t.data.toList)] := by
      intro i hil
      obtain ⟨ys, n', hy, _, hyl, hff⟩ := hi i (by omega)
      obtain ⟨v0, y0, c0, e0, t0⟩ := hff 0 f0 rfl
      obtain ⟨v1, y1, c1, e1, t1⟩ := hff 1 f1 rfl
      obtain ⟨v2, y2, c2, e2, t2⟩ := hff 2 f2 rfl
      obtain ⟨k, hk1, rfl, hk3⟩ := DataW.trod_int h0 t0
      obtain ⟨s1, hs1, rfl, _⟩ := DataW.trod_string h1 t1
      obtain ⟨s2, hs2, rfl, _⟩ := DataW.trod_string h2 t2
      injection hk1 with hk1; subst hk1
      injection hs1 with hs1; subst hs1
      injection hs2 with hs2; subst hs2
      have hys : ys = [(.lit (.int .i64 k), []), (.lit (.string s1.data.toList), []), (.lit (.string s2.data.toList), [])] := by
        match ys, hyl with
        | [z0, z1, z2], _ =>
          injection e0 with e0; injection e1 with e1; injection e2 with e2
          rw [e0, e1, e2]
      refine ⟨⟨k, s1, s2⟩, ⟨by simpa using c0, ?_, ?_, bounds_i64 hk3⟩, by rw [hy, hys]; rfl⟩
      · rw [← add_field _ _ 1 (by omega)]; exact c1
      · rw [← add_field _ _ 2 (by omega)]; exact c2
    haveI : Inhabited Dd := ⟨⟨0, ⟨#[]⟩, ⟨#[]⟩⟩⟩
    obtain ⟨q, hq⟩ := choose_lt each
    refine ⟨q, ⟨by have hM : cap ≤ 9223372036854775807 := hm; omega, fun i hil => ⟨x, rfl, (hq i hil).1⟩⟩, .inr ⟨(List.range (m - len)).map fun j => DD (len + j), ?_⟩⟩
    · have hx1 := congrArg Prod.fst hx
      simp only at hx1
      rw [hx1]
      congr 1
      exact List.map_congr_left (fun i hir => (hq i (by simpa using hir)).2)
theorem weightsAll_mem {H : Type} {P : Program} {e : TypeId} {l : List (DataW H)} {x : DataW H} (hx : x ∈ l) {y : Nat} (hy : y ∈ x.weights P e) : y ∈ DataW.weightsAll P e l := by
  induction l with
  | nil => cases hx
  | cons d r ih =>
    simp only [DataW.weightsAll, List.mem_append]
    rcases List.mem_cons.1 hx with rfl | h
    · exact .inl hy
    · exact .inr (ih h)
theorem deeds_sized {H : Type} {P : Program} {t e : TypeId} {f0 f1 f2 : Field} {len : Nat} {D : Nat → Dd} {spare : List (DataW H)} (ht : P.underlying t = some (.slice e)) (he : P.underlying e = some (.struct #[f0, f1, f2])) {r : Nat}
    (h : ∀ y ∈ (DataW.slice ((List.range len).map fun i => (.agg [.lit (.int .i64 (D i).k), .lit (.string (D i).n.data.toList), .lit (.string (D i).t.data.toList)] : DataW H)) spare).weights P t, y ≤ r) :
    ∀ i, i < len → (D i).n.size ≤ r ∧ (D i).t.size ≤ r := by
  intro i hi
  simp only [DataW.weights, ht] at h
  have hm : ∀ y, y ∈ (DataW.agg [.lit (.int .i64 (D i).k), .lit (.string (D i).n.data.toList), .lit (.string (D i).t.data.toList)] : DataW H).weights P e → y ≤ r := fun y hy =>
    h y (List.mem_cons_of_mem _ (List.mem_append_left _ (weightsAll_mem (List.mem_map.2 ⟨i, List.mem_range.2 hi, rfl⟩) hy)))
  simp only [DataW.weights, he, List.map_cons, List.map_nil, DataW.weightsEach, List.nil_append, List.append_nil, List.mem_append, List.mem_singleton] at hm
  have e1 : (D i).n.data.toList.length = (D i).n.size := by simp
  have e2 : (D i).t.data.toList.length = (D i).t.size := by simp
  exact ⟨e1 ▸ hm _ (.inl rfl), e2 ▸ hm _ (.inr rfl)⟩
end Go.Proofs.YtohkioijdokegaaDoor.Own

namespace Go.Proofs.YtohkioijdokegaaDoor.En
open Go Go.Lib Go.RowKit Go.Proofs.YtohkioijdokegaaDoorW.PrintWords Go.Proofs.YtohkioijdokegaaDoorW.PrintLast Go.Proofs.YtohkioijdokegaaDoor.Own Go.Proofs.YtohkioijdokegaaDoor.Nm Go.Proofs.YtohkioijdokegaaDoor.Srcw Go.Proofs.YtohkioijdokegaaDoor.Tab Go.Proofs.YtohkioijdokegaaDoor.PEntitiesPlays
set_option linter.unusedVariables false
set_option linter.unusedSimpArgs false

theorem get_same (s : ES) (n : ByteArray) : (getE s n).2.2.size = s.size ∧ (getE s n).2.2.n = s.n := by
  unfold getE
  cases fourN n with
  | some t => exact ⟨rfl, rfl⟩
  | none =>
    cases s.f n with
    | none => exact ⟨rfl, rfl⟩
    | some t =>
      by_cases h : 40 ≤ s.told
      · simp only [if_pos h]; exact ⟨trivial, trivial⟩
      · simp only [if_neg h]; exact ⟨trivial, trivial⟩
theorem fillB_same : ∀ (k p : Nat) (l out : List UInt8) (s : ES), (fillB k p l out s).2.2.2.size = s.size ∧ (fillB k p l out s).2.2.2.n = s.n := by
  intro k
  induction k with
  | zero => intro p l out s; exact ⟨rfl, rfl⟩
  | succ k ih =>
    intro p l out s
    cases l with
    | nil => exact ⟨rfl, rfl⟩
    | cons c r =>
      unfold fillB
      by_cases h1 : c = 38
      · rw [if_pos h1]
        by_cases h2 : (scanR [] r).2 = true
        · rw [if_pos h2]
          by_cases h3 : (getE s (str (scanR [] r).1)).2.1 = 0
          · rw [if_pos h3]
            have h4 := ih (p + 1 + (scanR [] r).1.length + 1) (r.drop ((scanR [] r).1.length + 1)) (out ++ (getE s (str (scanR [] r).1)).1.data.toList) (getE s (str (scanR [] r).1)).2.2
            have h5 := get_same s (str (scanR [] r).1)
            exact ⟨h4.1.trans h5.1, h4.2.trans h5.2⟩
          · rw [if_neg h3]; exact get_same s _
        · rw [if_neg h2]; exact ⟨rfl, rfl⟩
      · rw [if_neg h1]; exact ih _ _ _ _
/-- Bounds on what stands behind m deeds. -/
structure Good (s : ES) (m : Nat) : Prop where
  sz : 0 ≤ s.size ∧ s.size ≤ 200
  n : s.n ≤ m
  si : SI s
theorem Good.def {s : ES} {m : Nat} (h : Good s m) (n t : ByteArray) (ht : t.size ≤ 1048576) : Good (defE s n t).2 (m + 1) := by
  refine ⟨?_, ?_, SI.def h.si ht⟩
  · unfold defE
    have := h.sz
    by_cases h1 : localL n.data.toList = false
    · rw [if_pos h1]; exact h.sz
    by_cases h2 : validD t.data.toList = false
    · rw [if_neg h1, if_pos h2]; exact h.sz
    by_cases h3 : ((fourN n).isSome || (s.f n).isSome) = true
    · rw [if_neg h1, if_neg h2, if_pos h3]; exact h.sz
    by_cases h4 : 200 < s.size + n.size + t.size
    · rw [if_neg h1, if_neg h2, if_neg h3, if_pos h4]; exact h.sz
    · rw [if_neg h1, if_neg h2, if_neg h3, if_neg h4]
      show 0 ≤ s.size + ((n.size : Int) + t.size) ∧ s.size + ((n.size : Int) + t.size) ≤ 200
      omega
  · unfold defE
    have := h.n
    by_cases h1 : localL n.data.toList = false
    · rw [if_pos h1]; show s.n ≤ m + 1; omega
    by_cases h2 : validD t.data.toList = false
    · rw [if_neg h1, if_pos h2]; show s.n ≤ m + 1; omega
    by_cases h3 : ((fourN n).isSome || (s.f n).isSome) = true
    · rw [if_neg h1, if_neg h2, if_pos h3]; show s.n ≤ m + 1; omega
    by_cases h4 : 200 < s.size + n.size + t.size
    · rw [if_neg h1, if_neg h2, if_neg h3, if_pos h4]; show s.n ≤ m + 1; omega
    · rw [if_neg h1, if_neg h2, if_neg h3, if_neg h4]; show s.n + 1 ≤ m + 1; omega
theorem Good.get {s : ES} {m : Nat} (h : Good s m) (n : ByteArray) : Good (getE s n).2.2 (m + 1) := by
  have h1 := get_same s n
  exact ⟨by rw [h1.1]; exact h.sz, by rw [h1.2]; have := h.n; omega, (h.si.get n).1⟩
theorem Good.fill {s : ES} {m : Nat} (h : Good s m) (l : List UInt8) (hs : SI (fillE s l).2.2.2) : Good (fillE s l).2.2.2 (m + 1) := by
  have h1 := fillB_same (l.length + 1) 0 l [] s
  exact ⟨by show 0 ≤ (fillE s l).2.2.2.size ∧ (fillE s l).2.2.2.size ≤ 200; unfold fillE; rw [h1.1]; exact h.sz, by show (fillE s l).2.2.2.n ≤ m + 1; unfold fillE; rw [h1.2]; have := h.n; omega, hs⟩
/-- The program's and the reference's stand side by side. -/
structure Both (B Br : Nat) (w : World) (g gr : Nat) (s : ES) (l : List Ent) (told : Int) (m : Nat) : Prop where
  e : IsE B w g s
  lt : g < Br
  r : IsR Br w gr l told
  rel : Rel s l told
  good : Good s m
  few : m ≤ 1000
theorem Both.below {B Br : Nat} {w w' : World} {g gr : Nat} {s : ES} {l : List Ent} {told : Int} {m : Nat} (h : Both B Br w g gr s l told m) (hb : Below w.heap.size w w') : Both B Br w' g gr s l told m :=
  ⟨h.e.below hb, h.lt, h.r.below hb, h.rel, h.good, h.few⟩
theorem Both.len {B Br : Nat} {w : World} {g gr : Nat} {s : ES} {l : List Ent} {told : Int} {m : Nat} (h : Both B Br w g gr s l told m) : l.length ≤ 1000 ∧ sumR l ≤ 200 ∧ (0 ≤ told ∧ told ≤ 1000000000) ∧ s.n ≤ 1000000 ∧ B ≤ Br ∧ Br ≤ w.heap.size := by
  have h1 := h.rel.n
  have h2 := h.good.n
  have h3 := h.few
  have h4 := h.rel.size
  have h5 := h.good.sz
  have h6 := h.good.si.1
  have h7 := h.rel.told
  have h8 := h.e.1
  have h9 := h.lt
  have h10 := h.r.1
  have h11 := h.r.lt
  refine ⟨by omega, ?_, by omega, by omega, by omega, by omega⟩
  rw [h4] at h5
  generalize sumR l = q at h5
  omega
def pickV (k : Int) : Int := if k < 0 then Int.tmod (wrap64 (-(wrap64 (k + 1)))) 3 else Int.tmod k 3
theorem pick_is (k : Int) : hexaplalaw13_pick.f k 3 = some (pickV k) := by
  unfold hexaplalaw13_pick.f pickV
  by_cases h : k < 0
  · rw [if_pos h, if_pos h, if_neg (by decide)]
  · rw [if_neg h, if_neg h, if_neg (by decide)]
theorem pick_in (k : Int) (h : -9223372036854775808 ≤ k ∧ k ≤ 9223372036854775807) : pickV k = 0 ∨ pickV k = 1 ∨ pickV k = 2 := by
  unfold pickV
  by_cases h0 : k < 0
  · rw [if_pos h0, w64 (x := k + 1) (by omega) (by omega), w64 (by omega) (by omega), Int.tmod_eq_emod_of_nonneg (by omega)]
    omega
  · rw [if_neg h0, Int.tmod_eq_emod_of_nonneg (by omega)]
    omega
def DoesPost (B Br g gr m : Nat) (w : World) (e : Ending) (w' : World) : Prop :=
  ∃ s l told, e = .returned (.bool true) ∧ Both B Br w' g gr s l told (m + 1) ∧ Below B w w'

set_option maxHeartbeats 8000000 in
set_option maxRecDepth 100000 in
theorem does_def {B Br g gr m : Nat} {w : World} {s : ES} {l : List Ent} {told k : Int} {n t : ByteArray} (h : Both B Br w g gr s l told m) (hm : m ≤ 500) (hk : pickV k = 0) (hn : n.size ≤ 140737488351232) (ht : t.size ≤ 400) (hT : Tabs w) :
    Calls Tryd.prog 8 #[.pointer (some ⟨g, 0, none⟩), .pointer (some ⟨gr, 0, none⟩), .agg #[.int .i64 k, .string n, .string t]] w (DoesPost B Br g gr m w) := by
  have H := Aside0.mk h
  have HL := Aside0.mk h.len
  have HP := Aside0.mk (pick_is k)
  have HK := Aside0.mk hk
  have HT := Aside0.mk hT
  have HN := Aside0.mk hn
  have HTT := Aside0.mk ht
  have HM := Aside0.mk hm
  clear h hk hT hn ht hm
  go_enter Tryd.func8, Tryd.ntmps8
  go_wp2_with (first
    | ((with_reducible refine gate_dst (N := 5) rfl ?_); refine box_event ?hg (N := 5) ?hd (cs := #[.int .i64 k, .string n, .string t]) (t := 31) ?hr ?_; (case hd => rfl); (case hg => rfl); (case hr => first | (go_simp; done) | (go_simp; rfl)); intro b hg w1 hbox hb; have HG := Aside0.mk hg; have H1 := Aside0.mk hbox; have B1 := Aside0.mk hb; have c0 := (blk_cell hbox 0).trans rfl; clear hg hbox hb)
    | (go_at_call 17; refine (hexaplalaw13_pick.calls k 3 _ _ HP.out).mono ?_; rintro e w2 ⟨rfl, hd⟩; rw [HK.out]; have B2 := Aside0.mk (B1.out.trans (hd.below.mono B1.out.size)); have H2 := Aside0.mk ((hd.below.block b (blk_lt H1.out)).trans H1.out); clear hd))
  refine start_ (n := 14) (S := fun w' => w'.heap[b]? = some (.cells #[.int .i64 k, .string n, .string t] 31 (0, 0))) (ds := [11, 12, 13]) #[false, false, false, false, false, false, false, false, false, false, false, false, false, false] (by kernel_rfl) rfl rfl (show w2.drew.heap[b]? = _ from H2.out) (fun hHeld => ?_)
  -- T22 := move (tmp 0) :23,
  refine pure_ (i := 0) (N := some 22) (v := ?_) (a' := ?_) #[true, false, false, false, false, false, false, false, false, false, false, false, false, false] rfl rfl (by kernel_rfl) (fun _ _ _ h => h) (Or.inl ⟨by rfl, ?_⟩) ?_ ?_
  rotate_left
  · intro w'
    go_simp
    with_reducible rfl
  rotate_left
  · simp only [Act.put, List.setIfInBounds_toArray, List.set_cons_zero, List.set_cons_succ]
    rfl
  -- T23 := fieldAddr 31 (tmp 5) 1 :0,
  refine pure_ (i := 1) (N := some 23) (v := ?_) (a' := ?_) #[true, true, false, false, false, false, false, false, false, false, false, false, false, false] rfl rfl (by kernel_rfl) (fun _ _ _ h => h) (Or.inl ⟨by rfl, ?_⟩) ?_ ?_
  rotate_left
  · intro w'
    go_simp
    with_reducible rfl
  rotate_left
  · simp only [Act.put, List.setIfInBounds_toArray, List.set_cons_zero, List.set_cons_succ]
    rfl
  -- T25 := fieldAddr 31 (tmp 5) 2 :0,
  refine pure_ (i := 3) (N := some 25) (v := ?_) (a' := ?_) #[true, true, false, true, false, false, false, false, false, false, false, false, false, false] rfl rfl (by kernel_rfl) (fun _ _ _ h => h) (Or.inl ⟨by rfl, ?_⟩) ?_ ?_
  rotate_left
  · intro w'
    go_simp
    with_reducible rfl
  rotate_left
  · simp only [Act.put, List.setIfInBounds_toArray, List.set_cons_zero, List.set_cons_succ]
    rfl
  -- T28 := move (tmp 1) :25,
  refine pure_ (i := 6) (N := some 28) (v := ?_) (a' := ?_) #[true, true, false, true, false, false, true, false, false, false, false, false, false, false] rfl rfl (by kernel_rfl) (fun _ _ _ h => h) (Or.inl ⟨by rfl, ?_⟩) ?_ ?_
  rotate_left
  · intro w'
    go_simp
    with_reducible rfl
  rotate_left
  · simp only [Act.put, List.setIfInBounds_toArray, List.set_cons_zero, List.set_cons_succ]
    rfl
  -- T29 := fieldAddr 31 (tmp 5) 1 :0,
  refine pure_ (i := 7) (N := some 29) (v := ?_) (a' := ?_) #[true, true, false, true, false, false, true, true, false, false, false, false, false, false] rfl rfl (by kernel_rfl) (fun _ _ _ h => h) (Or.inl ⟨by rfl, ?_⟩) ?_ ?_
  rotate_left
  · intro w'
    go_simp
    with_reducible rfl
  rotate_left
  · simp only [Act.put, List.setIfInBounds_toArray, List.set_cons_zero, List.set_cons_succ]
    rfl
  -- T31 := fieldAddr 31 (tmp 5) 2 :0,
  refine pure_ (i := 9) (N := some 31) (v := ?_) (a' := ?_) #[true, true, false, true, false, false, true, true, false, true, false, false, false, false] rfl rfl (by kernel_rfl) (fun _ _ _ h => h) (Or.inl ⟨by rfl, ?_⟩) ?_ ?_
  rotate_left
  · intro w'
    go_simp
    with_reducible rfl
  rotate_left
  · simp only [Act.put, List.setIfInBounds_toArray, List.set_cons_zero, List.set_cons_succ]
    rfl
  -- T24 := load 9 (tmp 23) :9,
  refine take_ (i := 2) (N := some 24) (v := ?_) (a' := ?_) #[true, true, true, true, false, false, true, true, false, true, false, false, false, false] rfl rfl (by kernel_rfl) (fun _ _ _ h => h) (Or.inl ⟨by rfl, ?_⟩) hHeld ?_ ?_
  rotate_left
  · intro w' hw'
    (have c1 := (blk_cell hw' 1).trans rfl; have c2 := (blk_cell hw' 2).trans rfl)
    go_simp
    with_reducible rfl
  rotate_left
  · simp only [Act.put, List.setIfInBounds_toArray, List.set_cons_zero, List.set_cons_succ]
    rfl
  -- T26 := load 9 (tmp 25) :9,
  refine take_ (i := 4) (N := some 26) (v := ?_) (a' := ?_) #[true, true, true, true, true, false, true, true, false, true, false, false, false, false] rfl rfl (by kernel_rfl) (fun _ _ _ h => h) (Or.inl ⟨by rfl, ?_⟩) hHeld ?_ ?_
  rotate_left
  · intro w' hw'
    (have c1 := (blk_cell hw' 1).trans rfl; have c2 := (blk_cell hw' 2).trans rfl)
    go_simp
    with_reducible rfl
  rotate_left
  · simp only [Act.put, List.setIfInBounds_toArray, List.set_cons_zero, List.set_cons_succ]
    rfl
  -- T30 := load 9 (tmp 29) :9,
  refine take_ (i := 8) (N := some 30) (v := ?_) (a' := ?_) #[true, true, true, true, true, false, true, true, true, true, false, false, false, false] rfl rfl (by kernel_rfl) (fun _ _ _ h => h) (Or.inl ⟨by rfl, ?_⟩) hHeld ?_ ?_
  rotate_left
  · intro w' hw'
    (have c1 := (blk_cell hw' 1).trans rfl; have c2 := (blk_cell hw' 2).trans rfl)
    go_simp
    with_reducible rfl
  rotate_left
  · simp only [Act.put, List.setIfInBounds_toArray, List.set_cons_zero, List.set_cons_succ]
    rfl
  -- T32 := load 9 (tmp 31) :9,
  refine take_ (i := 10) (N := some 32) (v := ?_) (a' := ?_) #[true, true, true, true, true, false, true, true, true, true, true, false, false, false] rfl rfl (by kernel_rfl) (fun _ _ _ h => h) (Or.inl ⟨by rfl, ?_⟩) hHeld ?_ ?_
  rotate_left
  · intro w' hw'
    (have c1 := (blk_cell hw' 1).trans rfl; have c2 := (blk_cell hw' 2).trans rfl)
    go_simp
    with_reducible rfl
  rotate_left
  · simp only [Act.put, List.setIfInBounds_toArray, List.set_cons_zero, List.set_cons_succ]
    rfl
  -- T27 := call { callee := value (func 15), args := #[tmp 22, tmp 24, tmp 26], argTypes := #[23, 9, 9] :37 },
  refine one_ (i := 5) (N := some 27) #[true, true, true, true, true, true, true, true, true, true, true, false, false, false] rfl rfl (by kernel_rfl) (by decide) (fun K hK => ?_)
  refine goes_ Tryd.func15 (by kernel_rfl) rfl #[.pointer (some ⟨g, 0, none⟩), .string n, .string t] (by rfl) rfl rfl (by go_simp) ?_
  have HH := Aside0.mk ((H.out.below B2.out).below (below_drew (Below.refl _ _)))
  refine (def_calls HH.out.e HN.out (by have := HTT.out; omega) (by have := HH.out.good.sz; omega) (by have := HH.out.len; omega) ((HT.out.below B2.out).below (below_drew (Below.refl _ _)))).mono ?_
  rintro e w3 ⟨x, rfl, hx, he, hb3, ha3⟩
  subst hx
  refine ⟨_, rfl, hK _ _ ?_ (fun hHeld3 => ?_)⟩
  · exact (ha3 b (by rw [HG.out]; have := H.out.lt; have := HL.out; omega) (blk_lt hHeld)).trans hHeld
  have HH3 := Aside0.mk hHeld3
  clear hK hHeld hHeld3
  have E3 := Aside0.mk he
  have R3 := Aside0.mk (HH.out.r.keep (w' := w3) (fun k hk hlt => ha3 k (by have := H.out.lt; omega) hlt))
  have B3 := Aside0.mk (((B2.out.mono (by have := HL.out; omega)).trans ((below_drew (Below.refl _ _)))).trans hb3)
  clear he ha3 hb3
  refine norm_ (a' := ?_) ?_ ?_
  rotate_left
  · simp only [Act.put, List.setIfInBounds_toArray, List.set_cons_zero, List.set_cons_succ]
    rfl
  refine tailI_ [11, 12, 13] (by kernel_rfl) (by decide) rfl ?_
  go_wp2_with (first
    | (go_at_call 18; refine (rdef_calls n t R3.out H.out.rel (by have := HL.out; omega) (by have := HL.out; omega) HN.out (by have := HTT.out; omega)).mono ?_; rintro e w4 ⟨x, l', told', rfl, hx, hr, hrel, hb4⟩; subst hx; have R4 := Aside0.mk hr; have REL := Aside0.mk hrel; have B4 := Aside0.mk hb4; clear hr hrel hb4))
  simp only [List.filterMap_nil]
  go_wp2
  go_ret
  exact ⟨_, l', told', rfl, ⟨E3.out.keep (fun k hk => B4.out.block k (by have := H.out.lt; omega)), H.out.lt, R4.out, REL.out, H.out.good.def n t (by have := HTT.out; omega), by have := HM.out; omega⟩, B3.out.trans (B4.out.mono (by have := HL.out; omega))⟩
set_option maxHeartbeats 8000000 in
set_option maxRecDepth 100000 in
theorem does_get {B Br g gr m : Nat} {w : World} {s : ES} {l : List Ent} {told k : Int} {n t : ByteArray} (h : Both B Br w g gr s l told m) (hm : m ≤ 500) (hk : pickV k = 1) (hn : n.size ≤ 140737488351232) :
    Calls Tryd.prog 8 #[.pointer (some ⟨g, 0, none⟩), .pointer (some ⟨gr, 0, none⟩), .agg #[.int .i64 k, .string n, .string t]] w (DoesPost B Br g gr m w) := by
  have H := Aside0.mk h
  have HL := Aside0.mk h.len
  have HP := Aside0.mk (pick_is k)
  have HK := Aside0.mk hk
  have HN := Aside0.mk hn
  have HM := Aside0.mk hm
  clear h hk hn hm
  go_enter Tryd.func8, Tryd.ntmps8
  go_wp2_with (first
    | ((with_reducible refine gate_dst (N := 5) rfl ?_); refine box_event ?hg (N := 5) ?hd (cs := #[.int .i64 k, .string n, .string t]) (t := 31) ?hr ?_; (case hd => rfl); (case hg => rfl); (case hr => first | (go_simp; done) | (go_simp; rfl)); intro b hg w1 hbox hb; have HG := Aside0.mk hg; have H1 := Aside0.mk hbox; have B1 := Aside0.mk hb; have c0 := (blk_cell hbox 0).trans rfl; clear hg hbox hb)
    | (go_at_call 17; refine (hexaplalaw13_pick.calls k 3 _ _ HP.out).mono ?_; rintro e w2 ⟨rfl, hd⟩; rw [HK.out]; have B2 := Aside0.mk (B1.out.trans (hd.below.mono B1.out.size)); have H2 := Aside0.mk ((hd.below.block b (blk_lt H1.out)).trans H1.out); clear hd; have c1 := (blk_cell H2.out 1).trans rfl)
    | (go_at_call 16; refine (get_calls (H.out.below B2.out).e HN.out (H.out.good.si.1)).mono ?_; rintro e w3 ⟨t1, x1, rfl, ⟨ht1, hx1⟩, he, hb3, hj⟩; subst ht1; subst hx1; have E3 := Aside0.mk he; have R3 := Aside0.mk ((H.out.below B2.out).r.keep (w' := w3) (fun k hk hlt => hj.2 k hlt (by have := H.out.lt; omega))); have B3 := Aside0.mk ((B2.out.mono (by have := HL.out; omega)).trans hb3); have H3 := Aside0.mk ((hj.2 b (blk_lt H2.out) (by have := HG.out; have := H.out.lt; have := HL.out; omega)).trans H2.out); clear he hb3 hj c0 c1; have c1 := (blk_cell H3.out 1).trans rfl)
    | (go_at_call 19; refine (rget_calls n R3.out H.out.rel (by have := HL.out; omega) (by have := HL.out; omega)).mono ?_; rintro e w4 ⟨t1, x1, told', rfl, ⟨ht1, hx1⟩, hr, hrel, hb4⟩; subst ht1; subst hx1; have R4 := Aside0.mk hr; have REL := Aside0.mk hrel; have B4 := Aside0.mk hb4; clear hr hrel hb4))
  go_ret
  exact ⟨_, l, told', rfl, ⟨E3.out.keep (fun k hk => B4.out.block k (by have := H.out.lt; omega)), H.out.lt, R4.out, REL.out, H.out.good.get n, by have := HM.out; omega⟩, B3.out.trans (B4.out.mono (by have := HL.out; omega))⟩

set_option maxHeartbeats 8000000 in
set_option maxRecDepth 100000 in
theorem does_fill {B Br g gr m : Nat} {w : World} {s : ES} {l : List Ent} {told k : Int} {n t : ByteArray} (h : Both B Br w g gr s l told m) (hm : m ≤ 500) (hk : pickV k = 2) (ht : t.size ≤ 400) :
    Calls Tryd.prog 8 #[.pointer (some ⟨g, 0, none⟩), .pointer (some ⟨gr, 0, none⟩), .agg #[.int .i64 k, .string n, .string t]] w (DoesPost B Br g gr m w) := by
  have H := Aside0.mk h
  have HL := Aside0.mk h.len
  have HP := Aside0.mk (pick_is k)
  have HK := Aside0.mk hk
  have HTT := Aside0.mk ht
  have HM := Aside0.mk hm
  clear h hk ht hm
  go_enter Tryd.func8, Tryd.ntmps8
  go_wp2_with (first
    | ((with_reducible refine gate_dst (N := 5) rfl ?_); refine box_event ?hg (N := 5) ?hd (cs := #[.int .i64 k, .string n, .string t]) (t := 31) ?hr ?_; (case hd => rfl); (case hg => rfl); (case hr => first | (go_simp; done) | (go_simp; rfl)); intro b hg w1 hbox hb; have HG := Aside0.mk hg; have H1 := Aside0.mk hbox; have B1 := Aside0.mk hb; have c0 := (blk_cell hbox 0).trans rfl; clear hg hbox hb)
    | (go_at_call 17; refine (hexaplalaw13_pick.calls k 3 _ _ HP.out).mono ?_; rintro e w2 ⟨rfl, hd⟩; rw [HK.out]; have B2 := Aside0.mk (B1.out.trans (hd.below.mono B1.out.size)); have H2 := Aside0.mk ((hd.below.block b (blk_lt H1.out)).trans H1.out); clear hd; have c2 := (blk_cell H2.out 2).trans rfl)
    | (go_at_call 14; refine (fill_calls (H.out.below B2.out).e (by have := HTT.out; omega) (H.out.good.si)).mono ?_; rintro e w3 ⟨t1, x1, p1, rfl, ⟨ht1, hx1, hp1⟩, hsi, he, hb3, hj⟩; subst ht1; subst hx1; subst hp1; have E3 := Aside0.mk he; have SI3 := Aside0.mk hsi; have R3 := Aside0.mk ((H.out.below B2.out).r.keep (w' := w3) (fun k hk hlt => hj k (by have := H.out.lt; omega) hlt)); have B3 := Aside0.mk ((B2.out.mono (by have := HL.out; omega)).trans hb3); have H3 := Aside0.mk ((hj b (by have := HG.out; have := H.out.lt; have := HL.out; omega) (blk_lt H2.out)).trans H2.out); clear he hsi hb3 hj c0 c2; have c2 := (blk_cell H3.out 2).trans rfl)
    | (go_at_call 20; refine (rfill_calls t R3.out H.out.rel H.out.good.si (by have := HL.out; omega) (by have := HTT.out; omega)).mono ?_; rintro e w4 ⟨t1, x1, p1, told', rfl, ⟨ht1, hx1, hp1⟩, hr, hrel, hb4⟩; subst ht1; subst hx1; subst hp1; have R4 := Aside0.mk hr; have REL := Aside0.mk hrel; have B4 := Aside0.mk hb4; clear hr hrel hb4))
  go_ret
  exact ⟨_, l, told', rfl, ⟨E3.out.keep (fun k hk => B4.out.block k (by have := H.out.lt; omega)), H.out.lt, R4.out, REL.out, H.out.good.fill _ SI3.out, by have := HM.out; omega⟩, B3.out.trans (B4.out.mono (by have := HL.out; omega))⟩
end Go.Proofs.YtohkioijdokegaaDoor.En

namespace Go.Proofs.YtohkioijdokegaaDoor.En
open Go Go.Lib Go.RowKit Go.Proofs.YtohkioijdokegaaDoorW.PrintWords Go.Proofs.YtohkioijdokegaaDoorW.PrintLast Go.Proofs.YtohkioijdokegaaDoor.Own Go.Proofs.YtohkioijdokegaaDoor.Nm Go.Proofs.YtohkioijdokegaaDoor.Srcw Go.Proofs.YtohkioijdokegaaDoor.Tab Go.Proofs.YtohkioijdokegaaDoor.PEntitiesPlays
set_option linter.unusedVariables false
set_option linter.unusedSimpArgs false
theorem does_calls {B Br g gr m : Nat} {w : World} {s : ES} {l : List Ent} {told k : Int} {n t : ByteArray} (h : Both B Br w g gr s l told m) (hm : m ≤ 500) (hk : -9223372036854775808 ≤ k ∧ k ≤ 9223372036854775807) (hn : n.size ≤ 140737488351232) (ht : t.size ≤ 400) (hT : Tabs w) :
    Calls Tryd.prog 8 #[.pointer (some ⟨g, 0, none⟩), .pointer (some ⟨gr, 0, none⟩), .agg #[.int .i64 k, .string n, .string t]] w (DoesPost B Br g gr m w) := by
  rcases pick_in k hk with h0 | h0 | h0
  · exact does_def h hm h0 hn ht hT
  · exact does_get h hm h0 hn
  · exact does_fill h hm h0 ht
def cut4 (t : ByteArray) : ByteArray := if (t.size : Int) > 400 then t.extract 0 400 else t
theorem cut4_size (t : ByteArray) : (cut4 t).size ≤ 400 := by
  unfold cut4
  split
  · rw [ByteArray.size_extract]; omega
  · omega
theorem few_is (k : Int) (n t : ByteArray) : hexaplalaw13_few.f k n t = some (k, n, cut4 t) := by
  unfold hexaplalaw13_few.f cut4
  by_cases h : (t.size : Int) > 400
  · rw [if_pos h, if_pos h, if_pos (by decide), if_pos (by omega)]
  · rw [if_neg h, if_neg h]
theorem size_q {B g : Nat} {w : World} {s : ES} {q : Int} (h : IsE B w g s) (hq : s.size = q) : Calls Tryd.prog 10 #[.pointer (some ⟨g, 0, none⟩)] w fun e w' => e = .returned (.int .i64 q) ∧ w' = w := by
  subst hq; exact size_calls h
theorem told_q {B g : Nat} {w : World} {s : ES} {q : Int} (h : IsE B w g s) (hq : s.told = q) : Calls Tryd.prog 12 #[.pointer (some ⟨g, 0, none⟩)] w fun e w' => e = .returned (.int .i64 q) ∧ w' = w := by
  subst hq; exact told_calls h
theorem rsize_q {B g : Nat} {w : World} {l : List Ent} {told : Int} {q : Int} (h : IsR B w g l told) (hs : sumR l ≤ 1000000000) (hl : l.length ≤ 1000000000) (hq : ((sumR l : Nat) : Int) = q) :
    Calls Tryd.prog 11 #[.pointer (some ⟨g, 0, none⟩)] w fun e w' => e = .returned (.int .i64 q) ∧ ∃ n, w' = w.drewN n := by
  subst hq
  exact (rsize_calls h hs hl).mono fun _ _ h => ⟨h.1, h.2.out⟩
theorem Both.drewN {B Br : Nat} {w : World} {g gr : Nat} {s : ES} {l : List Ent} {told : Int} {m : Nat} (h : Both B Br w g gr s l told m) (n : Nat) : Both B Br (w.drewN n) g gr s l told m := h.below (pw_below_drewN (Below.refl _ _) n)
theorem Both.new {w w1 w2 : World} {g gr : Nat} (h : IsE w.heap.size w1 g ES.new) (hg : gr = w1.heap.size) (h2 : w2.heap[gr]? = some (.cells #[.slice none 0 0, .int .i64 0] 28 (0, 0))) (hb : Below w1.heap.size w1 w2) : Both w.heap.size w1.heap.size w2 g gr ES.new [] 0 0 :=
  ⟨h.below hb, h.lt, ⟨by omega, _, h2, Kd.R_nil _ _ _ _ _⟩, ⟨(fun y hy => by cases hy), (fun n t h => by cases h), by decide, rfl, rfl⟩, ⟨by decide, Nat.le_refl _, SI.new⟩, by omega⟩

set_option maxHeartbeats 8000000 in
set_option maxRecDepth 100000 in
theorem law_EntitiesPlays (a : Option Addr) (len cap : Nat) (D : Nat → Dd) (w : World) (hd : IsDeeds w a len D) (hs : ∀ i, i < len → (D i).n.size ≤ 140737488351232 ∧ (D i).t.size ≤ 140737488351232) (hT : Tabs w) :
    Calls Tryd.prog 3 #[.slice a len cap] w fun e w' => e = .returned (.bool true) ∧ Below w.heap.size w w' := by
  have HT := Aside0.mk hT
  have HD := Aside0.mk hd
  have HS := Aside0.mk hs
  have hlen := hd.1
  clear hT hd hs
  go_enter Tryd.func3, Tryd.ntmps3
  go_wp2_with (first
    | (go_at_call 7; refine (new_calls _).mono ?_; rintro e w1 ⟨g, rfl, he, hb⟩; have E1 := Aside0.mk he; have B1 := Aside0.mk hb; clear he hb)
    | ((with_reducible refine gate_dst (N := 9) rfl ?_); refine box_event ?hg (N := 9) ?hd (cs := #[.slice none 0 0, .int .i64 0]) (t := 28) ?hr ?_; (case hd => rfl); (case hg => rfl); (case hr => first | (go_simp; done) | (go_simp; rfl)); intro gr hg w2 hbox hb; have HG := Aside0.mk hg; have H1 := Aside0.mk hbox; have B2 := Aside0.mk hb; clear hg hbox hb))
  have HBO := Aside0.mk (Both.new E1.out HG.out H1.out B2.out)
  have HBW := Aside0.mk (B1.out.trans (B2.out.mono B1.out.size))
  clear H1 B2 E1 HG
  go_loopg [5] (len + 1) (fun gk v5 wr => ∃ (i : Nat) (s : ES) (l : List Ent) (told : Int), v5 = .int .i64 i ∧ Aside0 (i ≤ len ∧ i ≤ 150) ∧ Aside0 (len - i < gk) ∧ Aside0 (Both w.heap.size w1.heap.size wr g gr s l told i) ∧ Aside0 (Below w.heap.size w wr))
  case atStart => exact ⟨0, ES.new, [], 0, rfl, ⟨by omega⟩, ⟨by omega⟩, HBO, HBW⟩
  case round =>
    obtain ⟨i, s, l, told, rfl, P1, P2, P3, P4⟩ := hrel
    cases gk with
    | zero => exact absurd P2.out (by have := P1.out; omega)
    | succ k1 =>
    have hp1 := P1.out
    by_cases hlt : i < len ∧ i < 150
    · obtain ⟨hlt, hlt2⟩ := hlt
      obtain ⟨x, rfl, d0, d1, d2, d3⟩ := (HD.out.below P4.out).2 i hlt
      have HK := Aside0.mk d3
      have HSI := Aside0.mk (HS.out i hlt)
      have HF := Aside0.mk (few_is (D i).k (D i).n (D i).t)
      have HC4 := Aside0.mk (cut4_size (D i).t)
      have t1 : decide ((i : Int) < (len : Int)) = true := decide_eq_true (by omega)
      have t2 : decide (i < len) = true := decide_eq_true (by omega)
      have t3 : decide ((i : Int) < 150) = true := decide_eq_true (by omega)
      have tw : wrap64 ((i : Int) + 1) = (i : Int) + 1 := w64 (by omega) (by omega)
      clear d3
      go_wp2_with (first
        | (go_at_call 9; refine (hexaplalaw13_few.calls _ _ _ _ _ _ _ HF.out).mono ?_; rintro e w3 ⟨rfl, hb⟩; have B3 := Aside0.mk (P4.out.trans (hb.mono P4.out.size)); have BO3 := Aside0.mk (P3.out.below hb); clear hb d0 d1 d2)
        | (go_at_call 8; refine (does_calls BO3.out (by omega) HK.out HSI.out.1 HC4.out (HT.out.below B3.out)).mono ?_; rintro e w4 ⟨s', l', told', rfl, hbo, hb⟩; have B4 := Aside0.mk (B3.out.trans hb); have BO4 := Aside0.mk hbo; clear hb hbo))
      have hsz := BO4.out.rel.size
      obtain ⟨q, hq⟩ : ∃ q : Int, ((sumR l' : Nat) : Int) = q := ⟨_, rfl⟩
      rw [hq] at hsz
      have HQ1 := Aside0.mk hsz
      have HQ2 := Aside0.mk hq
      have HLN := Aside0.mk BO4.out.len
      have HTO := Aside0.mk BO4.out.rel.told
      have HR4 := BO4.out.r
      obtain ⟨r0, v, r1, r2⟩ := HR4
      have c1 := (blk_cell r1 1).trans rfl
      clear hsz hq r0 r1 r2
      go_quiet ((first
        | (go_at_call 10; exact Calls.quiet_of_same (size_q (BO4.out.drewN _).e HQ1.out))
        | (go_at_call 11; exact Calls.quiet_of (rsize_q (BO4.out.drewN _).r (by have := HLN.out; omega) (by have := HLN.out; omega) HQ2.out))
        | (go_at_call 12; exact Calls.quiet_of_same (told_q (BO4.out.drewN _).e HTO.out))))
      go_wp2
      go_roundg k1
      case measure => have := P2.out; omega
      case rel => exact ⟨i + 1, s', l', told', by go_num, ⟨by omega⟩, ⟨by have := P2.out; omega⟩, ⟨BO4.out.drewN _⟩, ⟨pw_below_drewN B4.out _⟩⟩
    · have HTW := Aside0.mk (HT.out.below P4.out)
      by_cases hl : i < len
      · have t1 : decide ((i : Int) < (len : Int)) = true := decide_eq_true (by omega)
        have t2 : decide (i < len) = true := decide_eq_true (by omega)
        have t3 : decide ((i : Int) < 150) = false := decide_eq_false (by omega)
        clear hlt
        go_wp2_with (go_at_call 13; refine (lives_calls _ HTW.out).mono ?_; rintro e w3 ⟨rfl, hb⟩; have B3 := Aside0.mk (P4.out.trans (hb.mono P4.out.size)); clear hb)
        go_ret
        exact ⟨rfl, B3.out⟩
      · have t1 : decide ((i : Int) < (len : Int)) = false := decide_eq_false (by omega)
        have t2 : decide (i < len) = false := decide_eq_false (by omega)
        clear hlt
        go_wp2_with (go_at_call 13; refine (lives_calls _ HTW.out).mono ?_; rintro e w3 ⟨rfl, hb⟩; have B3 := Aside0.mk (P4.out.trans (hb.mono P4.out.size)); clear hb)
        go_ret
        exact ⟨rfl, B3.out⟩
end Go.Proofs.YtohkioijdokegaaDoor.En
