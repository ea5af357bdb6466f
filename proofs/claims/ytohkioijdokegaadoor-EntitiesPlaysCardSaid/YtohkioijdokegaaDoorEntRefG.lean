/- The reference's entities: Get. -/
import Derived.Test.YtohkioijdokegaaDoorEntRef
import Derived.Test.YtohkioijdokegaaDoorPEntitiesPlaysx5
namespace Go.Proofs.YtohkioijdokegaaDoor.En
open Go Go.Lib Go.RowKit Go.Proofs.YtohkioijdokegaaDoorW.PrintWords Go.Proofs.YtohkioijdokegaaDoorW.PrintLast Go.Proofs.YtohkioijdokegaaDoor.Own Go.Proofs.YtohkioijdokegaaDoor.Nm Go.Proofs.YtohkioijdokegaaDoor.Srcw Go.Proofs.YtohkioijdokegaaDoor.Tab Go.Proofs.YtohkioijdokegaaDoor.PEntitiesPlays
set_option linter.unusedVariables false
set_option linter.unusedSimpArgs false
theorem list_eq (n : ByteArray) (l : List UInt8) : n.toList = l ↔ n = str l := by
  rw [ByteArray.toList_eq]
  constructor
  · intro h; rw [← h, str_of]
  · intro h; rw [h, str_list]
theorem four_is (n : ByteArray) : hexaplaref13_four.f n = some ((fourN n).getD ⟨#[]⟩, (fourN n).isSome) := by
  unfold hexaplaref13_four.f fourN
  simp only [list_eq]
  by_cases h1 : n = str [108, 116]
  · subst h1; decide
  by_cases h2 : n = str [103, 116]
  · subst h2; decide
  by_cases h3 : n = str [97, 109, 112]
  · subst h3; decide
  by_cases h4 : n = str [113, 117, 111, 116]
  · subst h4; decide
  have e1 : str [108, 116] = ⟨#[108, 116]⟩ := rfl
  have e2 : str [103, 116] = ⟨#[103, 116]⟩ := rfl
  have e3 : str [97, 109, 112] = ⟨#[97, 109, 112]⟩ := rfl
  have e4 : str [113, 117, 111, 116] = ⟨#[113, 117, 111, 116]⟩ := rfl
  rw [if_neg h1, if_neg h2, if_neg h3, if_neg h4]
  rw [e1] at h1
  rw [e2] at h2
  rw [e3] at h3
  rw [e4] at h4
  rw [if_neg h4, if_neg h3, if_neg h2, if_neg h1]
  rfl
theorem rfour_calls (n : ByteArray) (w : World) : Calls Tryd.prog 29 #[.string n] w fun e w' => e = .returned (.tuple #[.string ((fourN n).getD ⟨#[]⟩), .bool (fourN n).isSome]) ∧ Below w.heap.size w w' :=
  hexaplaref13_four.calls n _ _ w (four_is n)
/-- The program's state and the reference's list. -/
structure Rel (s : ES) (l : List Ent) (told : Int) : Prop where
  mem : ∀ y ∈ l, s.f y.f0 = some y.f1
  ex : ∀ n t, s.f n = some t → ∃ y ∈ l, y.f0 = n
  size : s.size = (sumR l : Nat)
  told : s.told = told
  n : s.n = l.length
theorem Rel.none {s : ES} {l : List Ent} {told : Int} (h : Rel s l told) {n : ByteArray} (hn : ∀ y ∈ l, y.f0 ≠ n) : s.f n = none := by
  cases hf : s.f n with
  | none => rfl
  | some t => obtain ⟨y, hy, he⟩ := h.ex n t hf; exact absurd he (hn y hy)
theorem Rel.some {s : ES} {l : List Ent} {told : Int} (h : Rel s l told) {i : Nat} (hi : i < l.length) : s.f (l.getD i z50).f0 = some (l.getD i z50).f1 := by
  have e : l.getD i z50 = l[i] := by rw [List.getD_eq_getElem?_getD, List.getElem?_eq_getElem hi]; rfl
  rw [e]
  exact h.mem _ (List.getElem_mem hi)

theorem get_some' {n t : ByteArray} {s : ES} (h4 : fourN n = none) (hf : s.f n = some t) (h : ¬ 40 ≤ s.told) : getE s n = (t, 0, { s with told := s.told + 1 }) := by
  unfold getE; rw [h4]; simp only [hf]; rw [if_neg h]
theorem get_over' {n t : ByteArray} {s : ES} (h4 : fourN n = none) (hf : s.f n = some t) (h : 40 ≤ s.told) : getE s n = (⟨#[]⟩, 13, s) := by
  unfold getE; rw [h4]; simp only [hf]; rw [if_pos h]
def RGetPost (B g : Nat) (s : ES) (l : List Ent) (n : ByteArray) (w : World) (e : Ending) (w' : World) : Prop :=
  ∃ t x told', e = .returned (.tuple #[.string t, .int .i64 x]) ∧ (t = (getE s n).1 ∧ x = (getE s n).2.1) ∧ IsR B w' g l told' ∧ Rel (getE s n).2.2 l told' ∧ Below B w w'
theorem rget_post {B g : Nat} {s s' : ES} {l : List Ent} {n t : ByteArray} {x told' : Int} {w w' : World} (h : getE s n = (t, x, s')) (h1 : IsR B w' g l told') (h2 : Rel s' l told') (h3 : Below B w w') : RGetPost B g s l n w (.returned (.tuple #[.string t, .int .i64 x])) w' :=
  ⟨t, x, told', rfl, by rw [h]; exact ⟨rfl, rfl⟩, h1, by rw [h]; exact h2, h3⟩
set_option maxHeartbeats 4000000 in
set_option maxRecDepth 100000 in
theorem rget_calls {B g : Nat} {w : World} {s : ES} {l : List Ent} {told : Int} (n : ByteArray) (h : IsR B w g l told) (hR : Rel s l told) (hl : l.length ≤ 1000000000) (ht : 0 ≤ told ∧ told ≤ 1000000000) :
    Calls Tryd.prog 19 #[.pointer (some ⟨g, 0, none⟩), .string n] w (RGetPost B g s l n w) := by
  have H := Aside0.mk h
  have HR := Aside0.mk hR
  have HB := Aside0.mk (show B ≤ w.heap.size by have := h.lt; have := h.1; omega)
  clear h hR
  cases h4 : fourN n with
  | some t =>
    have H4 := Aside0.mk h4
    have HG := Aside0.mk (show getE s n = (t, 0, s) by unfold getE; rw [h4])
    clear h4
    go_enter Tryd.func19, Tryd.ntmps19
    go_wp2_with (go_at_call 29; refine (rfour_calls n _).mono ?_; rintro e w1 ⟨rfl, hb⟩; rw [H4.out, Option.getD_some, Option.isSome_some]; have B1 := Aside0.mk hb; clear hb)
    go_ret2
    exact rget_post HG.out (H.out.below B1.out) HR.out (B1.out.mono HB.out)
  | none =>
    have H4 := Aside0.mk h4
    go_enter Tryd.func19, Tryd.ntmps19
    go_wp2_with (go_at_call 29; refine (rfour_calls n _).mono ?_; rintro e w1 ⟨rfl, hb⟩; rw [H4.out, Option.getD_none, Option.isSome_none]; have B1 := Aside0.mk hb; clear hb)
    refine (rfind_calls n (H.out.below B1.out) hl).mono ?_
    rintro e w2 ⟨x, rfl, hx, hb⟩
    have B2 := Aside0.mk (B1.out.trans (hb.mono B1.out.size))
    clear hb
    rcases hx with ⟨rfl, hx⟩ | ⟨i, rfl, hi, hx⟩
    · have HG := Aside0.mk (show getE s n = (⟨#[]⟩, 14, s) by unfold getE; rw [h4]; simp only [HR.out.none hx])
      clear h4 hx
      go_wp2
      go_ret2
      exact rget_post HG.out (H.out.below B2.out) HR.out (B2.out.mono HB.out)
    · have hf : s.f n = some (l.getD i z50).f1 := by have := HR.out.some hi; rwa [hx] at this
      have t0 : decide ((i : Int) < 0) = false := decide_eq_false (by omega)
      obtain ⟨h0, v, h1, h2⟩ := H.out.below B2.out
      have c1 := (blk_cell h1 1).trans rfl
      have f1 := blk_frozen h1 1
      clear h0 h1 h2 hx
      by_cases h40 : 40 ≤ told
      · have HG := Aside0.mk (show getE s n = (⟨#[]⟩, 13, s) from get_over' h4 hf (by rw [HR.out.told]; exact h40))
        have t1 : decide (40 ≤ told) = true := decide_eq_true h40
        clear h4 hf h40
        go_wp2
        go_ret2
        exact rget_post HG.out (H.out.below B2.out) HR.out (B2.out.mono HB.out)
      · have hf2 : s.f n = some l[i].f1 := by rw [hf, List.getD_eq_getElem?_getD, List.getElem?_eq_getElem hi]; rfl
        have HG := Aside0.mk (show getE s n = (l[i].f1, 0, { s with told := s.told + 1 }) from get_some' h4 hf2 (by rw [HR.out.told]; exact h40))
        have t1 : decide (40 ≤ told) = false := decide_eq_false h40
        have y1 : wrap64 (told + 1) = told + 1 := w64 (by omega) (by omega)
        have HT := Aside0.mk ((H.out.below B2.out).tell (told + 1))
        obtain ⟨h0, v, h1, h2⟩ := HT.out
        obtain ⟨A, c, hv, hc, hC⟩ := Kd.R_reads h2
        subst hv
        have c0 := (blk_cell h1 0).trans rfl
        obtain ⟨ad, rfl, d0, d1⟩ := at_T50 hC (i : Int) (by omega) (by omega)
        rw [Int.toNat_natCast] at d0 d1
        have hrd : rd_T50 l (i : Int) = l.getD i z50 := by unfold rd_T50; rw [Int.toNat_natCast]
        rw [hrd] at d0 d1
        clear hrd h0 h1 h2 hC h4 hf hf2 h40
        go_wp2
        go_ret2
        exact rget_post HG.out HT.out ⟨HR.out.mem, HR.out.ex, HR.out.size, by show s.told + 1 = told + 1; rw [HR.out.told], HR.out.n⟩ ((B2.out.mono HB.out).setCell (p := ⟨g, 1, none⟩) H.out.1 _)
end Go.Proofs.YtohkioijdokegaaDoor.En
