/- entities: the state of an Entities, and what New, four, Get, Define, Size and Told do with it. -/
import Derived.Test.YtohkioijdokegaaDoorNameLocal
import Derived.Test.YtohkioijdokegaaDoorOwnMap
import Derived.Test.YtohkioijdokegaaDoorSrcRunesW
import Derived.Test.YtohkioijdokegaaDoorTabs
namespace Go.Proofs.YtohkioijdokegaaDoor.En
open Go Go.Lib Go.RowKit Go.Proofs.YtohkioijdokegaaDoorW.PrintWords Go.Proofs.YtohkioijdokegaaDoorW.PrintLast Go.Proofs.YtohkioijdokegaaDoor.Own Go.Proofs.YtohkioijdokegaaDoor.Nm Go.Proofs.YtohkioijdokegaaDoor.Srcw Go.Proofs.YtohkioijdokegaaDoor.Tab
set_option linter.unusedVariables false
set_option linter.unusedSimpArgs false

theorem tS : TS Tryd.prog 45 9 9 := ⟨Tryd.underlying45, Tryd.underlying9, Tryd.underlying9, Tryd.zeroValue9⟩
theorem vvS (v : ByteArray) : (mkS tS).vv v = .string v := rfl
/-- What the four names stand for. -/
def fourN (n : ByteArray) : Option ByteArray :=
  if n = ⟨#[113, 117, 111, 116]⟩ then some ⟨#[34]⟩ else if n = ⟨#[97, 109, 112]⟩ then some ⟨#[38]⟩ else if n = ⟨#[103, 116]⟩ then some ⟨#[62]⟩ else if n = ⟨#[108, 116]⟩ then some ⟨#[60]⟩ else none
/-- What stands in an Entities: what was defined, how many, how much, how many were told. -/
structure ES where
  f : ByteArray → Option ByteArray
  n : Nat
  size : Int
  told : Int
def ES.new : ES := ⟨fun _ => none, 0, 0, 0⟩
def IsE (B : Nat) (w : World) (g : Nat) (s : ES) : Prop :=
  B ≤ g ∧ ∃ b, w.heap[g]? = some (.cells #[.map (some b), .int .i64 s.size, .int .i64 s.told] 47 (0, 0)) ∧ B ≤ b ∧ b < g ∧ (mkS tS).Is w b s.n s.n s.f
theorem IsE.lt {B g : Nat} {w : World} {s : ES} (h : IsE B w g s) : g < w.heap.size := by obtain ⟨_, b, h1, _⟩ := h; exact blk_lt h1
theorem IsE.keep {B g : Nat} {w w' : World} {s : ES} (h : IsE B w g s) (hk : ∀ k, k ≤ g → w'.heap[k]? = w.heap[k]?) : IsE B w' g s := by
  obtain ⟨h0, b, h1, h2, h3, h4⟩ := h
  exact ⟨h0, b, (hk g (Nat.le_refl _)).trans h1, h2, h3, h4.same (hk b (by omega))⟩
theorem IsE.below {B g : Nat} {w w' : World} {s : ES} (h : IsE B w g s) (hb : Below w.heap.size w w') : IsE B w' g s := h.keep (fun k hk => hb.block k (by have := h.lt; omega))
theorem IsE.tell {B g : Nat} {w : World} {s : ES} (h : IsE B w g s) (x : Int) : IsE B (w.setCell ⟨g, 2, none⟩ (.int .i64 x)) g { s with told := x } := by
  obtain ⟨h0, b, h1, h2, h3, h4⟩ := h
  exact ⟨h0, b, blk_put (cs' := #[.map (some b), .int .i64 s.size, .int .i64 x]) h1 2 _ rfl, h2, h3, h4.set (p := ⟨g, 2, none⟩) (by show b ≠ g; omega) _⟩
theorem IsE.grow {B g : Nat} {w : World} {s : ES} (h : IsE B w g s) (x : Int) : IsE B (w.setCell ⟨g, 1, none⟩ (.int .i64 x)) g { s with size := x } := by
  obtain ⟨h0, b, h1, h2, h3, h4⟩ := h
  exact ⟨h0, b, blk_put (cs' := #[.map (some b), .int .i64 x, .int .i64 s.told]) h1 1 _ rfl, h2, h3, h4.set (p := ⟨g, 1, none⟩) (by show b ≠ g; omega) _⟩
theorem below_mono {B : Nat} {w1 w2 : World} (h : Below w1.heap.size w1 w2) (hB : B ≤ w1.heap.size) : Below B w1 w2 := ⟨h.os, h.tape, h.output, h.size, fun k hk => h.block k (by omega)⟩

set_option maxHeartbeats 2000000 in
set_option maxRecDepth 100000 in
theorem new_calls (w : World) :
    Calls Tryd.prog 7 #[] w fun e w' => ∃ g : Nat, e = .returned (.pointer (some ⟨g, 0, none⟩)) ∧ IsE w.heap.size w' g ES.new ∧ Below w.heap.size w w' := by
  go_enter Tryd.func7, Tryd.ntmps7
  go_wp2_with (first
    | (refine MKind.make_event (mkS tS) rfl rfl ?_; intro b hb w1 hm b1; have M1 := Aside0.mk hm; have B1 := Aside0.mk b1; have G1 := Aside0.mk hb; clear hm b1 hb)
    | ((with_reducible refine gate_dst (N := 3) rfl ?_); refine box_event ?hg (N := 3) ?hd (cs := #[.map (some b), .int .i64 0, .int .i64 0]) (t := 47) ?hr ?_; (case hd => rfl); (case hg => rfl); (case hr => first | (go_simp; done) | (go_simp; rfl)); intro g hg w2 hbox hb; have HG := Aside0.mk hg; have H1 := Aside0.mk hbox; have H2 := Aside0.mk hb; clear hg hbox hb))
  go_ret
  have hbg : b < g := by rw [HG.out]; exact M1.out.lt
  exact ⟨g, rfl, ⟨by rw [HG.out]; exact B1.out.size, b, H1.out, G1.out, hbg, M1.out.below H2.out⟩, B1.out.trans (below_mono H2.out B1.out.size)⟩

set_option maxHeartbeats 2000000 in
set_option maxRecDepth 100000 in
theorem four_calls (w : World) : Calls Tryd.prog 25 #[] w fun e w' => ∃ b m, e = .returned (.map (some b)) ∧ (mkS tS).Is w' b 4 m fourN ∧ w.heap.size ≤ b ∧ Below w.heap.size w w' := by
  go_enter Tryd.func25, Tryd.ntmps25
  go_wp2_with (first
    | (refine MKind.make_event (mkS tS) rfl rfl ?_; intro g hg w1 h1 b1; have HG := Aside0.mk hg; clear hg)
    | (refine MKind.put_event rfl (.inl rfl) (mkS tS) rfl _ _ rfl rfl h1 (by decide) (show ByteArray.size _ ≤ maxLen by decide) (show ByteArray.size _ ≤ maxLen by decide) ?_; intro w2 h2 g2; have b2 := b1.grown g2 b1.size (fun k hk => by injection hk with hk; have := HG.out; omega); clear b1 h1 g2; have h1 := h2; have b1 := b2; clear h2 b2))
  go_ret
  exact ⟨g, _, rfl, h1.ext (fun b => by unfold fourN; rfl), HG.out, b1⟩

set_option maxHeartbeats 2000000 in
set_option maxRecDepth 100000 in
theorem told_calls {B g : Nat} {w : World} {s : ES} (h : IsE B w g s) : Calls Tryd.prog 12 #[.pointer (some ⟨g, 0, none⟩)] w fun e w' => e = .returned (.int .i64 s.told) ∧ w' = w := by
  obtain ⟨h0, b, h1, h2, h3, h4⟩ := h
  have c2 := (blk_cell h1 2).trans rfl
  clear h0 h1 h2 h3 h4
  go_enter Tryd.func12, Tryd.ntmps12
  go_wp2
  go_ret
  exact ⟨rfl, rfl⟩
set_option maxHeartbeats 2000000 in
set_option maxRecDepth 100000 in
theorem size_calls {B g : Nat} {w : World} {s : ES} (h : IsE B w g s) : Calls Tryd.prog 10 #[.pointer (some ⟨g, 0, none⟩)] w fun e w' => e = .returned (.int .i64 s.size) ∧ w' = w := by
  obtain ⟨h0, b, h1, h2, h3, h4⟩ := h
  have c1 := (blk_cell h1 1).trans rfl
  clear h0 h1 h2 h3 h4
  go_enter Tryd.func10, Tryd.ntmps10
  go_wp2
  go_ret
  exact ⟨rfl, rfl⟩

/-- What Get answers. -/
def getE (s : ES) (n : ByteArray) : ByteArray × Int × ES :=
  match fourN n with
  | some t => (t, 0, s)
  | none => match s.f n with
    | none => (⟨#[]⟩, 14, s)
    | some t => if 40 ≤ s.told then (⟨#[]⟩, 13, s) else (t, 0, { s with told := s.told + 1 })
def Just (g : Nat) (w w' : World) : Prop := w.heap.size ≤ w'.heap.size ∧ ∀ k, k < w.heap.size → k ≠ g → w'.heap[k]? = w.heap[k]?
def GetPost (B g : Nat) (s : ES) (n : ByteArray) (w : World) (e : Ending) (w' : World) : Prop :=
  ∃ t x, e = .returned (.tuple #[.string t, .int .i64 x]) ∧ (t = (getE s n).1 ∧ x = (getE s n).2.1) ∧ IsE B w' g (getE s n).2.2 ∧ Below B w w' ∧ Just g w w'
theorem get_post {B g : Nat} {s s' : ES} {n t : ByteArray} {x : Int} {w w' : World} (h : getE s n = (t, x, s')) (h1 : IsE B w' g s') (h2 : Below B w w') (h3 : Just g w w') : GetPost B g s n w (.returned (.tuple #[.string t, .int .i64 x])) w' :=
  ⟨t, x, rfl, by rw [h]; exact ⟨rfl, rfl⟩, by rw [h]; exact h1, h2, h3⟩
theorem just_below {g : Nat} {w w' : World} (h : Below w.heap.size w w') : Just g w w' := ⟨h.size, fun k hk _ => h.block k hk⟩

set_option maxHeartbeats 4000000 in
set_option maxRecDepth 100000 in
theorem get_calls {B g : Nat} {w : World} {s : ES} {n : ByteArray} (h : IsE B w g s) (hn : n.size ≤ 140737488351232) (hto : 0 ≤ s.told ∧ s.told ≤ 1000000000) :
    Calls Tryd.prog 16 #[.pointer (some ⟨g, 0, none⟩), .string n] w (GetPost B g s n w) := by
  have H := Aside0.mk h
  have HB := Aside0.mk (show B ≤ w.heap.size by have := h.lt; have := h.1; omega)
  have HTO := Aside0.mk hto
  have PK := Aside0.mk (show (mkS tS).okk n from by show n.size ≤ maxLen; unfold maxLen; omega)
  clear h hto hn
  cases h4 : fourN n with
  | some t =>
    have HF := Aside0.mk h4
    have HG := Aside0.mk (show getE s n = (t, 0, s) by unfold getE; rw [h4])
    clear h4
    go_enter Tryd.func16, Tryd.ntmps16
    go_wp2_with (first
      | (go_at_call 25; refine (four_calls _).mono ?_; rintro e w1 ⟨mb, mm, rfl, hm, hmb, hb⟩; have M1 := Aside0.mk hm; have B1 := Aside0.mk hb; clear hm hb hmb)
      | (at_lookup; refine MKind.look_event rfl rfl (mkS tS) rfl n rfl M1.out PK.out ?_; rw [HF.out, Option.getD_some, vvS, Option.isSome_some]))
    go_ret2
    exact get_post HG.out (H.out.below B1.out) (below_mono B1.out HB.out) (just_below B1.out)
  | none =>
    have HF := Aside0.mk h4
    cases hf : s.f n with
    | none =>
      have HFF := Aside0.mk hf
      have HG := Aside0.mk (show getE s n = (⟨#[]⟩, 14, s) by unfold getE; rw [h4]; simp only [hf])
      clear h4 hf
      go_enter Tryd.func16, Tryd.ntmps16
      go_wp2_with (first
        | (go_at_call 25; refine (four_calls _).mono ?_; rintro e w1 ⟨mb, mm, rfl, hm, hmb, hb⟩; have M1 := Aside0.mk hm; have B1 := Aside0.mk hb; have E1 := Aside0.mk (H.out.below hb); obtain ⟨q0, b, q1, q2, q3, q4⟩ := H.out.below hb; have c0 := (blk_cell q1 0).trans rfl; have X1 := Aside0.mk q4; clear hm hb hmb q0 q1 q2 q3 q4)
        | ((with_reducible refine gate_dst (N := 13) rfl ?_); at_lookup; refine MKind.look_event rfl rfl (mkS tS) rfl n rfl M1.out PK.out ?_; rw [HF.out]; rw [(rfl : (mkS tS).vv ((none : Option ByteArray).getD (mkS tS).d) = .string ⟨#[]⟩), Option.isSome_none])
        | ((with_reducible refine gate_dst (N := 24) rfl ?_); at_lookup; refine MKind.look_event rfl rfl (mkS tS) rfl n rfl X1.out PK.out ?_; rw [HFF.out]; rw [(rfl : (mkS tS).vv ((none : Option ByteArray).getD (mkS tS).d) = .string ⟨#[]⟩), Option.isSome_none]))
      go_ret2
      exact get_post HG.out E1.out (below_mono B1.out HB.out) (just_below B1.out)
    | some t =>
      have HFF := Aside0.mk hf
      by_cases h40 : 40 ≤ s.told
      · have HG := Aside0.mk (show getE s n = (⟨#[]⟩, 13, s) by unfold getE; rw [h4]; simp only [hf]; rw [if_pos h40])
        have t1 : decide (40 ≤ s.told) = true := decide_eq_true h40
        clear h4 hf h40
        go_enter Tryd.func16, Tryd.ntmps16
        go_wp2_with (first
          | (go_at_call 25; refine (four_calls _).mono ?_; rintro e w1 ⟨mb, mm, rfl, hm, hmb, hb⟩; have M1 := Aside0.mk hm; have B1 := Aside0.mk hb; have E1 := Aside0.mk (H.out.below hb); obtain ⟨q0, b, q1, q2, q3, q4⟩ := H.out.below hb; have c0 := (blk_cell q1 0).trans rfl; have c2 := (blk_cell q1 2).trans rfl; have X1 := Aside0.mk q4; clear hm hb hmb q0 q1 q2 q3 q4)
          | ((with_reducible refine gate_dst (N := 13) rfl ?_); at_lookup; refine MKind.look_event rfl rfl (mkS tS) rfl n rfl M1.out PK.out ?_; rw [HF.out]; rw [(rfl : (mkS tS).vv ((none : Option ByteArray).getD (mkS tS).d) = .string ⟨#[]⟩), Option.isSome_none])
          | ((with_reducible refine gate_dst (N := 24) rfl ?_); at_lookup; refine MKind.look_event rfl rfl (mkS tS) rfl n rfl X1.out PK.out ?_; rw [HFF.out, Option.getD_some, vvS, Option.isSome_some]))
        go_ret2
        exact get_post HG.out E1.out (below_mono B1.out HB.out) (just_below B1.out)
      · have HG := Aside0.mk (show getE s n = (t, 0, { s with told := s.told + 1 }) by unfold getE; rw [h4]; simp only [hf]; rw [if_neg h40])
        have t1 : decide (40 ≤ s.told) = false := decide_eq_false h40
        have t2 : wrap64 (s.told + 1) = s.told + 1 := by have := HTO.out; exact w64 (by omega) (by omega)
        clear h4 hf h40
        go_enter Tryd.func16, Tryd.ntmps16
        go_wp2_with (first
          | (go_at_call 25; refine (four_calls _).mono ?_; rintro e w1 ⟨mb, mm, rfl, hm, hmb, hb⟩; have M1 := Aside0.mk hm; have B1 := Aside0.mk hb; have E1 := Aside0.mk (H.out.below hb); obtain ⟨q0, b, q1, q2, q3, q4⟩ := H.out.below hb; have c0 := (blk_cell q1 0).trans rfl; have c2 := (blk_cell q1 2).trans rfl; have f2 := blk_frozen q1 2; have X1 := Aside0.mk q4; clear hm hb hmb q0 q1 q2 q3 q4)
          | ((with_reducible refine gate_dst (N := 13) rfl ?_); at_lookup; refine MKind.look_event rfl rfl (mkS tS) rfl n rfl M1.out PK.out ?_; rw [HF.out]; rw [(rfl : (mkS tS).vv ((none : Option ByteArray).getD (mkS tS).d) = .string ⟨#[]⟩), Option.isSome_none])
          | ((with_reducible refine gate_dst (N := 24) rfl ?_); at_lookup; refine MKind.look_event rfl rfl (mkS tS) rfl n rfl X1.out PK.out ?_; rw [HFF.out, Option.getD_some, vvS, Option.isSome_some]))
        go_ret2
        exact get_post HG.out (E1.out.tell _) ((below_mono B1.out HB.out).setCell (p := ⟨g, 2, none⟩) H.out.1 _) ⟨by rw [World.size_setCell]; exact B1.out.size, fun k hk hne => by rw [Below.heap_setCell _ _ _ _ hne]; exact B1.out.block k hk⟩
end Go.Proofs.YtohkioijdokegaaDoor.En
