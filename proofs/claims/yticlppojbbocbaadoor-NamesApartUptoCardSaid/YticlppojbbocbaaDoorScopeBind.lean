/- names.Bind, walked. -/
import Derived.Test.YticlppojbbocbaaDoorScopeB
namespace Go.Proofs.YticlppojbbocbaaDoor.Nm
open Go Go.Lib Go.Shelf Go.RowKit Go.Proofs.YticlppojbbocbaaDoorW.PrintWords Go.Proofs.YticlppojbbocbaaDoorW.PrintLast Go.Proofs.YticlppojbbocbaaDoor.Own Go.Proofs.YticlppojbbocbaaDoor.Srcw Go.Proofs.YticlppojbbocbaaDoor.Tab
set_option linter.unusedVariables false
set_option linter.unusedSimpArgs false
/-- May a prefix stand for a space? -/
def argsOk (p s : ByteArray) : Bool := (decide (p.size = 0) || localL p.data.toList) && (decide (s.size = 0) || spaceL s.data.toList) && !(decide (s.size = 0) && !decide (p.size = 0))
def bindF (x : Sc) (p s : ByteArray) : Sc := ⟨x.b, x.m + 1, fun y => if y = p then some s else x.f y⟩
/-- What Bind answers of the last scope. -/
def bindE (x : Sc) (p : ByteArray) : Int := if (x.f p).isSome then 6 else if 10 ≤ x.m then 7 else 0
def BindPost (B g : Nat) (init : List Sc) (x : Sc) (p s : ByteArray) (w : World) (e : Ending) (w' : World) : Prop :=
  e = .returned (.int .i64 (bindE x p)) ∧ IsSc B w' g (init ++ [if bindE x p = 0 then bindF x p s else x]) ∧ Below B w w'
theorem IsSc.keys {B g : Nat} {w : World} {st : List Sc} (h : IsSc B w g st) : B ≤ w.heap.size := by have := h.lt; have := h.1; omega
theorem IsSc.last {B g : Nat} {w w' : World} {init : List Sc} {x y : Sc} (h : IsSc B w g (init ++ [x])) (hb : w.grownBy w' (some x.b)) (hy : y.b = x.b) (hm : (mkS tS).Is w' y.b y.m y.m y.f) : IsSc B w' g (init ++ [y]) := by
  obtain ⟨h0, v, h1, h2, h3, h4⟩ := h
  have hxg := (h3 x (by simp)).2.1
  have hbb : (init ++ [y]).map Sc.b = (init ++ [x]).map Sc.b := by simp [hy]
  have hno : some x.b ≠ v.ownBlock := fun e => (h2.1 _ e.symm).2 x (by simp) rfl
  refine ⟨h0, v, (hb.block g (blk_lt h1) (fun e => hxg (Option.some.inj e).symm)).trans h1, ?_, fun z hz => ?_, by rw [hbb]; exact h4⟩
  · rw [hbb]
    refine Kd.R_mono (Kd.R_grown h2 hb (fun k hk e => hk.2 x (by simp) (Option.some.inj e))) (fun k hk => ⟨hk.1, fun z hz => ?_⟩)
    rcases List.mem_append.1 hz with hz | hz
    · exact hk.2 z (List.mem_append_left _ hz)
    · rw [List.mem_singleton] at hz; subst hz; rw [hy]; exact hk.2 x (by simp)
  · rcases List.mem_append.1 hz with hz | hz
    · obtain ⟨q1, q2, q3⟩ := h3 z (List.mem_append_left _ hz)
      refine ⟨q1, q2, q3.grown hb (fun e => ?_)⟩
      have hzx := Option.some.inj e
      rw [List.map_append, List.nodup_append] at h4
      exact h4.2.2 z.b (List.mem_map.2 ⟨z, hz, rfl⟩) x.b (by simp) hzx
    · rw [List.mem_singleton] at hz; subst hz
      rw [hy] at hm ⊢
      exact ⟨(h3 x (by simp)).1, hxg, hm⟩


set_option maxHeartbeats 2000000 in
set_option maxRecDepth 100000 in
theorem bind_none {B g : Nat} {w : World} {p s : ByteArray} (h : IsSc B w g []) :
    Calls Tryd.prog 22 #[.pointer (some ⟨g, 0, none⟩), .string p, .string s] w fun e w' => e = .returned (.int .i64 1) ∧ IsSc B w' g [] ∧ Below B w w' := by
  have H := Aside0.mk h
  obtain ⟨h0, v, h1, h2, h3, h4⟩ := h
  have c0 := (blk_cell h1 0).trans rfl
  obtain ⟨A1, n1, hv⟩ := Kd.R_slice h2
  simp only [List.map_nil, List.length_nil] at hv
  clear h0 h1 h2 h3 h4
  subst hv
  go_enter Tryd.func22, Tryd.ntmps22
  go_wp2
  go_ret
  exact ⟨rfl, H.out, Below.refl _ _⟩


set_option maxHeartbeats 4000000 in
set_option maxRecDepth 100000 in
theorem bind_p {B g : Nat} {w : World} {init : List Sc} {x : Sc} {p s : ByteArray} (h : IsSc B w g (init ++ [x])) (hl : init.length < 17000000000000) (hps : p.size ≤ 1048576) (hss : s.size ≤ 1048576) (hm : x.m ≤ 10) (hT : Tabs w) (hp0 : ¬ p.size = 0) (hpl : localL p.data.toList = false) :
    Calls Tryd.prog 22 #[.pointer (some ⟨g, 0, none⟩), .string p, .string s] w (fun e w' => e = .returned (.int .i64 1) ∧ IsSc B w' g (init ++ [x]) ∧ Below B w w') := by
  have HT := Aside0.mk hT
  have HSC := Aside0.mk h
  have HM := Aside0.mk hm
  have HPS := Aside0.mk hps
  have HSS := Aside0.mk hss
  have p1 := ne_empty hp0
  have p2 := ne_empty2 hp0
  have HPL := Aside0.mk hpl
  obtain ⟨h0, v, h1, h2, h3, h4⟩ := h
  have c0 := (blk_cell h1 0).trans rfl
  obtain ⟨gr, cr, hv, hgb, hgo, hgl, hgc⟩ := mrow_at h2 (by simp)
  rw [List.length_map, List.length_append, List.length_singleton] at hv
  have e4 : ((init.length : Int) + 1 == 0) = false := by rw [beq_eq_false_iff_ne]; omega
  have HC := Aside0.mk (show w.cell? ⟨gr, init.length, none⟩ = some (.map (some x.b)) from hgc init.length x.b (by simp))
  have HGR := Aside0.mk hgl
  have HGL := Aside0.mk (blk_lt h1)
  have HX := Aside0.mk (h3 x (by simp)).2.2
  have HL := Aside0.mk hl
  clear h0 h1 h2 h3 h4 hgb hgo hgl hgc hl hps hss hm hT hp0 hpl
  subst hv
  go_enter Tryd.func22, Tryd.ntmps22
  have B0 := Aside0.mk (Below.refl w.heap.size w)
  go_wp2_with fail
  refine (local_calls p w).mono ?_
  rintro e w1 ⟨rfl, hb⟩
  rw [HPL.out]
  have B1 := Aside0.mk (B0.out.trans (hb.mono B0.out.size))
  clear hb
  go_wp2
  go_ret
  exact ⟨rfl, HSC.out.below B1.out, below_mono B1.out HSC.out.keys⟩

set_option maxHeartbeats 4000000 in
set_option maxRecDepth 100000 in
theorem bind_s {B g : Nat} {w : World} {init : List Sc} {x : Sc} {p s : ByteArray} (h : IsSc B w g (init ++ [x])) (hl : init.length < 17000000000000) (hps : p.size ≤ 1048576) (hss : s.size ≤ 1048576) (hm : x.m ≤ 10) (hT : Tabs w) (hp0 : p.size = 0) (hs0 : ¬ s.size = 0) (hsl : spaceL s.data.toList = false) :
    Calls Tryd.prog 22 #[.pointer (some ⟨g, 0, none⟩), .string p, .string s] w (fun e w' => e = .returned (.int .i64 1) ∧ IsSc B w' g (init ++ [x]) ∧ Below B w w') := by
  have HT := Aside0.mk hT
  have HSC := Aside0.mk h
  have HM := Aside0.mk hm
  have HPS := Aside0.mk hps
  have HSS := Aside0.mk hss
  obtain rfl : p = ⟨#[]⟩ := empty_of hp0
  have s1 := ne_empty hs0
  have s2 := ne_empty2 hs0
  have HSL := Aside0.mk hsl
  obtain ⟨h0, v, h1, h2, h3, h4⟩ := h
  have c0 := (blk_cell h1 0).trans rfl
  obtain ⟨gr, cr, hv, hgb, hgo, hgl, hgc⟩ := mrow_at h2 (by simp)
  rw [List.length_map, List.length_append, List.length_singleton] at hv
  have e4 : ((init.length : Int) + 1 == 0) = false := by rw [beq_eq_false_iff_ne]; omega
  have HC := Aside0.mk (show w.cell? ⟨gr, init.length, none⟩ = some (.map (some x.b)) from hgc init.length x.b (by simp))
  have HGR := Aside0.mk hgl
  have HGL := Aside0.mk (blk_lt h1)
  have HX := Aside0.mk (h3 x (by simp)).2.2
  have HL := Aside0.mk hl
  clear h0 h1 h2 h3 h4 hgb hgo hgl hgc hl hps hss hm hT hp0 hs0 hsl
  subst hv
  go_enter Tryd.func22, Tryd.ntmps22
  have B0 := Aside0.mk (Below.refl w.heap.size w)
  go_wp2_with fail
  refine (space_calls s w (by have := HSS.out; omega) (HT.out.below B0.out)).mono ?_
  rintro e w1 ⟨rfl, hb⟩
  rw [HSL.out]
  have B1 := Aside0.mk (B0.out.trans (hb.mono B0.out.size))
  clear hb
  go_wp2
  go_ret
  exact ⟨rfl, HSC.out.below B1.out, below_mono B1.out HSC.out.keys⟩

set_option maxHeartbeats 4000000 in
set_option maxRecDepth 100000 in
theorem bind_ps {B g : Nat} {w : World} {init : List Sc} {x : Sc} {p s : ByteArray} (h : IsSc B w g (init ++ [x])) (hl : init.length < 17000000000000) (hps : p.size ≤ 1048576) (hss : s.size ≤ 1048576) (hm : x.m ≤ 10) (hT : Tabs w) (hp0 : ¬ p.size = 0) (hpl : localL p.data.toList = true) (hs0 : ¬ s.size = 0) (hsl : spaceL s.data.toList = false) :
    Calls Tryd.prog 22 #[.pointer (some ⟨g, 0, none⟩), .string p, .string s] w (fun e w' => e = .returned (.int .i64 1) ∧ IsSc B w' g (init ++ [x]) ∧ Below B w w') := by
  have HT := Aside0.mk hT
  have HSC := Aside0.mk h
  have HM := Aside0.mk hm
  have HPS := Aside0.mk hps
  have HSS := Aside0.mk hss
  have p1 := ne_empty hp0
  have p2 := ne_empty2 hp0
  have HPL := Aside0.mk hpl
  have s1 := ne_empty hs0
  have s2 := ne_empty2 hs0
  have HSL := Aside0.mk hsl
  obtain ⟨h0, v, h1, h2, h3, h4⟩ := h
  have c0 := (blk_cell h1 0).trans rfl
  obtain ⟨gr, cr, hv, hgb, hgo, hgl, hgc⟩ := mrow_at h2 (by simp)
  rw [List.length_map, List.length_append, List.length_singleton] at hv
  have e4 : ((init.length : Int) + 1 == 0) = false := by rw [beq_eq_false_iff_ne]; omega
  have HC := Aside0.mk (show w.cell? ⟨gr, init.length, none⟩ = some (.map (some x.b)) from hgc init.length x.b (by simp))
  have HGR := Aside0.mk hgl
  have HGL := Aside0.mk (blk_lt h1)
  have HX := Aside0.mk (h3 x (by simp)).2.2
  have HL := Aside0.mk hl
  clear h0 h1 h2 h3 h4 hgb hgo hgl hgc hl hps hss hm hT hp0 hpl hs0 hsl
  subst hv
  go_enter Tryd.func22, Tryd.ntmps22
  have B0 := Aside0.mk (Below.refl w.heap.size w)
  go_wp2_with fail
  refine (local_calls p w).mono ?_
  rintro e w1 ⟨rfl, hb⟩
  rw [HPL.out]
  have B1 := Aside0.mk (B0.out.trans (hb.mono B0.out.size))
  clear hb
  go_wp2_with fail
  refine (space_calls s w1 (by have := HSS.out; omega) (HT.out.below B1.out)).mono ?_
  rintro e w2 ⟨rfl, hb⟩
  rw [HSL.out]
  have B2 := Aside0.mk (B1.out.trans (hb.mono B1.out.size))
  clear hb
  go_wp2
  go_ret
  exact ⟨rfl, HSC.out.below B2.out, below_mono B2.out HSC.out.keys⟩

set_option maxHeartbeats 4000000 in
set_option maxRecDepth 100000 in
theorem bind_pe {B g : Nat} {w : World} {init : List Sc} {x : Sc} {p s : ByteArray} (h : IsSc B w g (init ++ [x])) (hl : init.length < 17000000000000) (hps : p.size ≤ 1048576) (hss : s.size ≤ 1048576) (hm : x.m ≤ 10) (hT : Tabs w) (hp0 : ¬ p.size = 0) (hpl : localL p.data.toList = true) (hs0 : s.size = 0) :
    Calls Tryd.prog 22 #[.pointer (some ⟨g, 0, none⟩), .string p, .string s] w (fun e w' => e = .returned (.int .i64 1) ∧ IsSc B w' g (init ++ [x]) ∧ Below B w w') := by
  have HT := Aside0.mk hT
  have HSC := Aside0.mk h
  have HM := Aside0.mk hm
  have HPS := Aside0.mk hps
  have HSS := Aside0.mk hss
  have p1 := ne_empty hp0
  have p2 := ne_empty2 hp0
  have HPL := Aside0.mk hpl
  obtain rfl : s = ⟨#[]⟩ := empty_of hs0
  obtain ⟨h0, v, h1, h2, h3, h4⟩ := h
  have c0 := (blk_cell h1 0).trans rfl
  obtain ⟨gr, cr, hv, hgb, hgo, hgl, hgc⟩ := mrow_at h2 (by simp)
  rw [List.length_map, List.length_append, List.length_singleton] at hv
  have e4 : ((init.length : Int) + 1 == 0) = false := by rw [beq_eq_false_iff_ne]; omega
  have HC := Aside0.mk (show w.cell? ⟨gr, init.length, none⟩ = some (.map (some x.b)) from hgc init.length x.b (by simp))
  have HGR := Aside0.mk hgl
  have HGL := Aside0.mk (blk_lt h1)
  have HX := Aside0.mk (h3 x (by simp)).2.2
  have HL := Aside0.mk hl
  clear h0 h1 h2 h3 h4 hgb hgo hgl hgc hl hps hss hm hT hp0 hpl hs0
  subst hv
  go_enter Tryd.func22, Tryd.ntmps22
  have B0 := Aside0.mk (Below.refl w.heap.size w)
  go_wp2_with fail
  refine (local_calls p w).mono ?_
  rintro e w1 ⟨rfl, hb⟩
  rw [HPL.out]
  have B1 := Aside0.mk (B0.out.trans (hb.mono B0.out.size))
  clear hb
  go_wp2
  go_ret
  exact ⟨rfl, HSC.out.below B1.out, below_mono B1.out HSC.out.keys⟩

set_option maxHeartbeats 4000000 in
set_option maxRecDepth 100000 in
theorem bind_a {B g : Nat} {w : World} {init : List Sc} {x : Sc} {p s : ByteArray} (h : IsSc B w g (init ++ [x])) (hl : init.length < 17000000000000) (hps : p.size ≤ 1048576) (hss : s.size ≤ 1048576) (hm : x.m ≤ 10) (hT : Tabs w) (hp0 : p.size = 0) (hs0 : s.size = 0) :
    Calls Tryd.prog 22 #[.pointer (some ⟨g, 0, none⟩), .string p, .string s] w (BindPost B g init x p s w) := by
  have HT := Aside0.mk hT
  have HSC := Aside0.mk h
  have HM := Aside0.mk hm
  have HPS := Aside0.mk hps
  have HSS := Aside0.mk hss
  obtain rfl : p = ⟨#[]⟩ := empty_of hp0
  obtain rfl : s = ⟨#[]⟩ := empty_of hs0
  obtain ⟨h0, v, h1, h2, h3, h4⟩ := h
  have c0 := (blk_cell h1 0).trans rfl
  obtain ⟨gr, cr, hv, hgb, hgo, hgl, hgc⟩ := mrow_at h2 (by simp)
  rw [List.length_map, List.length_append, List.length_singleton] at hv
  have e4 : ((init.length : Int) + 1 == 0) = false := by rw [beq_eq_false_iff_ne]; omega
  have HC := Aside0.mk (show w.cell? ⟨gr, init.length, none⟩ = some (.map (some x.b)) from hgc init.length x.b (by simp))
  have HGR := Aside0.mk hgl
  have HGL := Aside0.mk (blk_lt h1)
  have HX := Aside0.mk (h3 x (by simp)).2.2
  have HL := Aside0.mk hl
  clear h0 h1 h2 h3 h4 hgb hgo hgl hgc hl hps hss hm hT hp0 hs0
  subst hv
  go_enter Tryd.func22, Tryd.ntmps22
  have B0 := Aside0.mk (Below.refl w.heap.size w)
  have K1 := Aside0.mk (HSC.out.below B0.out)
  have K2 := Aside0.mk (below_mono B0.out HSC.out.keys)
  have HX1 := Aside0.mk (HX.out.below B0.out)
  have c1 : w.cell? ⟨g, 0, none⟩ = _ := (B0.out.cell (p := ⟨g, 0, none⟩) HGL.out).trans c0
  have c2 : w.cell? ⟨gr, init.length, none⟩ = some (.map (some x.b)) := (B0.out.cell (p := ⟨gr, init.length, none⟩) HGR.out).trans HC.out
  clear c0 HX
  go_wp2_with fail
  have hl := HL.out
  have q1 : IntKind.i64.wrap ((init.length : Int)) = (init.length : Int) := Go.IntWalk.i64_in _ (by omega)
  have q0 : IntKind.i64.wrap ((init.length : Int) + 1 - 1) = (init.length : Int) := by rw [Int.add_sub_cancel]; exact q1
  have q2 : (0 : Int) ≤ (init.length : Int) := by omega
  have q3 : (init.length : Int) < (init.length : Int) + 1 := by omega
  clear hl
  go_quiet (fail)
  have D0 : Below w.heap.size w (w.drewN nq) := pw_below_drewN (Below.refl _ _) _
  generalize w.drewN nq = w5 at D0 ⊢
  have B5 := Aside0.mk D0
  have K5 := Aside0.mk (K1.out.below D0)
  have L5 := Aside0.mk (K2.out.trans (below_mono D0 (Nat.le_trans HSC.out.keys K2.out.size)))
  have X5 := Aside0.mk (HX1.out.below D0)
  have hlen : ∀ ty, (Builtin.len_ #[60] ty #[.map (some x.b)]).run Tryd.prog w5 = .ok (.int .i64 x.m) w5 := fun ty => X5.out.len ty
  have PK := Aside0.mk (show (mkS tS).okk ⟨#[]⟩ from by show ByteArray.size _ ≤ maxLen; have := HPS.out; unfold maxLen; omega)
  have SK := Aside0.mk (show (mkS tS).okv ⟨#[]⟩ from by show ByteArray.size _ ≤ maxLen; have := HSS.out; unfold maxLen; omega)
  have MN := Aside0.mk (show x.m < maxLen by have := HM.out; unfold maxLen; omega)
  clear c1 c2 D0 q0 q1 q2 q3 e4
  cases hf : x.f ⟨#[]⟩ with
  | some c =>
    have HF := Aside0.mk hf
    have HE := Aside0.mk (show bindE x ⟨#[]⟩ = 6 by unfold bindE; rw [hf]; rfl)
    clear hf hlen
    go_wp2_with (at_lookup; refine MKind.look_event rfl rfl (mkS tS) rfl ⟨#[]⟩ rfl X5.out PK.out ?_; rw [HF.out]; rw [(rfl : (mkS tS).vv ((some c).getD (mkS tS).d) = .string c), Option.isSome_some])
    go_ret
    exact ⟨by rw [HE.out]; rfl, by rw [HE.out, if_neg (by decide)]; exact K5.out, L5.out⟩
  | none =>
    have HF := Aside0.mk hf
    by_cases h10 : 10 ≤ x.m
    · have HE := Aside0.mk (show bindE x ⟨#[]⟩ = 7 by unfold bindE; rw [hf, if_neg (by simp), if_pos h10])
      have r1 : decide ((10 : Int) ≤ (x.m : Int)) = true := decide_eq_true (by omega)
      have r2 : decide (10 ≤ x.m) = true := decide_eq_true h10
      clear hf h10
      go_wp2_with (at_lookup; refine MKind.look_event rfl rfl (mkS tS) rfl ⟨#[]⟩ rfl X5.out PK.out ?_; rw [HF.out]; rw [(rfl : (mkS tS).vv ((none : Option ByteArray).getD (mkS tS).d) = .string ⟨#[]⟩), Option.isSome_none])
      go_ret
      exact ⟨by rw [HE.out]; rfl, by rw [HE.out, if_neg (by decide)]; exact K5.out, L5.out⟩
    · have HE := Aside0.mk (show bindE x ⟨#[]⟩ = 0 by unfold bindE; rw [hf, if_neg (by simp), if_neg h10])
      have r1 : decide ((10 : Int) ≤ (x.m : Int)) = false := decide_eq_false (by omega)
      have r2 : decide (10 ≤ x.m) = false := decide_eq_false h10
      clear hf h10
      go_wp2_with (first
        | (at_lookup; refine MKind.look_event rfl rfl (mkS tS) rfl ⟨#[]⟩ rfl X5.out PK.out ?_; rw [HF.out]; rw [(rfl : (mkS tS).vv ((none : Option ByteArray).getD (mkS tS).d) = .string ⟨#[]⟩), Option.isSome_none])
        | (refine MKind.put_event rfl (.inr rfl) (mkS tS) rfl ⟨#[]⟩ ⟨#[]⟩ rfl rfl X5.out MN.out PK.out SK.out ?_; intro w6 hm6 g6; have M6 := Aside0.mk hm6; have G6 := Aside0.mk g6; clear hm6 g6 hlen))
      go_ret
      have hM := M6.out
      rw [HF.out] at hM
      refine ⟨by rw [HE.out]; rfl, ?_, L5.out.grown G6.out (Nat.le_trans HSC.out.keys L5.out.size) (fun k e => by have := Option.some.inj e; have := (HSC.out.2.choose_spec.2.2.1 x (by simp)).1; omega)⟩
      rw [HE.out, if_pos rfl]
      exact IsSc.last K5.out G6.out rfl hM

set_option maxHeartbeats 4000000 in
set_option maxRecDepth 100000 in
theorem bind_b {B g : Nat} {w : World} {init : List Sc} {x : Sc} {p s : ByteArray} (h : IsSc B w g (init ++ [x])) (hl : init.length < 17000000000000) (hps : p.size ≤ 1048576) (hss : s.size ≤ 1048576) (hm : x.m ≤ 10) (hT : Tabs w) (hp0 : p.size = 0) (hs0 : ¬ s.size = 0) (hsl : spaceL s.data.toList = true) :
    Calls Tryd.prog 22 #[.pointer (some ⟨g, 0, none⟩), .string p, .string s] w (BindPost B g init x p s w) := by
  have HT := Aside0.mk hT
  have HSC := Aside0.mk h
  have HM := Aside0.mk hm
  have HPS := Aside0.mk hps
  have HSS := Aside0.mk hss
  obtain rfl : p = ⟨#[]⟩ := empty_of hp0
  have s1 := ne_empty hs0
  have s2 := ne_empty2 hs0
  have HSL := Aside0.mk hsl
  obtain ⟨h0, v, h1, h2, h3, h4⟩ := h
  have c0 := (blk_cell h1 0).trans rfl
  obtain ⟨gr, cr, hv, hgb, hgo, hgl, hgc⟩ := mrow_at h2 (by simp)
  rw [List.length_map, List.length_append, List.length_singleton] at hv
  have e4 : ((init.length : Int) + 1 == 0) = false := by rw [beq_eq_false_iff_ne]; omega
  have HC := Aside0.mk (show w.cell? ⟨gr, init.length, none⟩ = some (.map (some x.b)) from hgc init.length x.b (by simp))
  have HGR := Aside0.mk hgl
  have HGL := Aside0.mk (blk_lt h1)
  have HX := Aside0.mk (h3 x (by simp)).2.2
  have HL := Aside0.mk hl
  clear h0 h1 h2 h3 h4 hgb hgo hgl hgc hl hps hss hm hT hp0 hs0 hsl
  subst hv
  go_enter Tryd.func22, Tryd.ntmps22
  have B0 := Aside0.mk (Below.refl w.heap.size w)
  go_wp2_with fail
  refine (space_calls s w (by have := HSS.out; omega) (HT.out.below B0.out)).mono ?_
  rintro e w1 ⟨rfl, hb⟩
  rw [HSL.out]
  have B1 := Aside0.mk (B0.out.trans (hb.mono B0.out.size))
  clear hb
  have K1 := Aside0.mk (HSC.out.below B1.out)
  have K2 := Aside0.mk (below_mono B1.out HSC.out.keys)
  have HX1 := Aside0.mk (HX.out.below B1.out)
  have c1 : w1.cell? ⟨g, 0, none⟩ = _ := (B1.out.cell (p := ⟨g, 0, none⟩) HGL.out).trans c0
  have c2 : w1.cell? ⟨gr, init.length, none⟩ = some (.map (some x.b)) := (B1.out.cell (p := ⟨gr, init.length, none⟩) HGR.out).trans HC.out
  clear c0 HX
  go_wp2_with fail
  have hl := HL.out
  have q1 : IntKind.i64.wrap ((init.length : Int)) = (init.length : Int) := Go.IntWalk.i64_in _ (by omega)
  have q0 : IntKind.i64.wrap ((init.length : Int) + 1 - 1) = (init.length : Int) := by rw [Int.add_sub_cancel]; exact q1
  have q2 : (0 : Int) ≤ (init.length : Int) := by omega
  have q3 : (init.length : Int) < (init.length : Int) + 1 := by omega
  clear hl
  go_quiet (fail)
  have D0 : Below w1.heap.size w1 (w1.drewN nq) := pw_below_drewN (Below.refl _ _) _
  generalize w1.drewN nq = w5 at D0 ⊢
  have B5 := Aside0.mk D0
  have K5 := Aside0.mk (K1.out.below D0)
  have L5 := Aside0.mk (K2.out.trans (below_mono D0 (Nat.le_trans HSC.out.keys K2.out.size)))
  have X5 := Aside0.mk (HX1.out.below D0)
  have hlen : ∀ ty, (Builtin.len_ #[60] ty #[.map (some x.b)]).run Tryd.prog w5 = .ok (.int .i64 x.m) w5 := fun ty => X5.out.len ty
  have PK := Aside0.mk (show (mkS tS).okk ⟨#[]⟩ from by show ByteArray.size _ ≤ maxLen; have := HPS.out; unfold maxLen; omega)
  have SK := Aside0.mk (show (mkS tS).okv s from by show ByteArray.size _ ≤ maxLen; have := HSS.out; unfold maxLen; omega)
  have MN := Aside0.mk (show x.m < maxLen by have := HM.out; unfold maxLen; omega)
  clear c1 c2 D0 q0 q1 q2 q3 e4
  cases hf : x.f ⟨#[]⟩ with
  | some c =>
    have HF := Aside0.mk hf
    have HE := Aside0.mk (show bindE x ⟨#[]⟩ = 6 by unfold bindE; rw [hf]; rfl)
    clear hf hlen
    go_wp2_with (at_lookup; refine MKind.look_event rfl rfl (mkS tS) rfl ⟨#[]⟩ rfl X5.out PK.out ?_; rw [HF.out]; rw [(rfl : (mkS tS).vv ((some c).getD (mkS tS).d) = .string c), Option.isSome_some])
    go_ret
    exact ⟨by rw [HE.out]; rfl, by rw [HE.out, if_neg (by decide)]; exact K5.out, L5.out⟩
  | none =>
    have HF := Aside0.mk hf
    by_cases h10 : 10 ≤ x.m
    · have HE := Aside0.mk (show bindE x ⟨#[]⟩ = 7 by unfold bindE; rw [hf, if_neg (by simp), if_pos h10])
      have r1 : decide ((10 : Int) ≤ (x.m : Int)) = true := decide_eq_true (by omega)
      have r2 : decide (10 ≤ x.m) = true := decide_eq_true h10
      clear hf h10
      go_wp2_with (at_lookup; refine MKind.look_event rfl rfl (mkS tS) rfl ⟨#[]⟩ rfl X5.out PK.out ?_; rw [HF.out]; rw [(rfl : (mkS tS).vv ((none : Option ByteArray).getD (mkS tS).d) = .string ⟨#[]⟩), Option.isSome_none])
      go_ret
      exact ⟨by rw [HE.out]; rfl, by rw [HE.out, if_neg (by decide)]; exact K5.out, L5.out⟩
    · have HE := Aside0.mk (show bindE x ⟨#[]⟩ = 0 by unfold bindE; rw [hf, if_neg (by simp), if_neg h10])
      have r1 : decide ((10 : Int) ≤ (x.m : Int)) = false := decide_eq_false (by omega)
      have r2 : decide (10 ≤ x.m) = false := decide_eq_false h10
      clear hf h10
      go_wp2_with (first
        | (at_lookup; refine MKind.look_event rfl rfl (mkS tS) rfl ⟨#[]⟩ rfl X5.out PK.out ?_; rw [HF.out]; rw [(rfl : (mkS tS).vv ((none : Option ByteArray).getD (mkS tS).d) = .string ⟨#[]⟩), Option.isSome_none])
        | (refine MKind.put_event rfl (.inr rfl) (mkS tS) rfl ⟨#[]⟩ s rfl rfl X5.out MN.out PK.out SK.out ?_; intro w6 hm6 g6; have M6 := Aside0.mk hm6; have G6 := Aside0.mk g6; clear hm6 g6 hlen))
      go_ret
      have hM := M6.out
      rw [HF.out] at hM
      refine ⟨by rw [HE.out]; rfl, ?_, L5.out.grown G6.out (Nat.le_trans HSC.out.keys L5.out.size) (fun k e => by have := Option.some.inj e; have := (HSC.out.2.choose_spec.2.2.1 x (by simp)).1; omega)⟩
      rw [HE.out, if_pos rfl]
      exact IsSc.last K5.out G6.out rfl hM

set_option maxHeartbeats 4000000 in
set_option maxRecDepth 100000 in
theorem bind_c {B g : Nat} {w : World} {init : List Sc} {x : Sc} {p s : ByteArray} (h : IsSc B w g (init ++ [x])) (hl : init.length < 17000000000000) (hps : p.size ≤ 1048576) (hss : s.size ≤ 1048576) (hm : x.m ≤ 10) (hT : Tabs w) (hp0 : ¬ p.size = 0) (hpl : localL p.data.toList = true) (hs0 : ¬ s.size = 0) (hsl : spaceL s.data.toList = true) :
    Calls Tryd.prog 22 #[.pointer (some ⟨g, 0, none⟩), .string p, .string s] w (BindPost B g init x p s w) := by
  have HT := Aside0.mk hT
  have HSC := Aside0.mk h
  have HM := Aside0.mk hm
  have HPS := Aside0.mk hps
  have HSS := Aside0.mk hss
  have p1 := ne_empty hp0
  have p2 := ne_empty2 hp0
  have HPL := Aside0.mk hpl
  have s1 := ne_empty hs0
  have s2 := ne_empty2 hs0
  have HSL := Aside0.mk hsl
  obtain ⟨h0, v, h1, h2, h3, h4⟩ := h
  have c0 := (blk_cell h1 0).trans rfl
  obtain ⟨gr, cr, hv, hgb, hgo, hgl, hgc⟩ := mrow_at h2 (by simp)
  rw [List.length_map, List.length_append, List.length_singleton] at hv
  have e4 : ((init.length : Int) + 1 == 0) = false := by rw [beq_eq_false_iff_ne]; omega
  have HC := Aside0.mk (show w.cell? ⟨gr, init.length, none⟩ = some (.map (some x.b)) from hgc init.length x.b (by simp))
  have HGR := Aside0.mk hgl
  have HGL := Aside0.mk (blk_lt h1)
  have HX := Aside0.mk (h3 x (by simp)).2.2
  have HL := Aside0.mk hl
  clear h0 h1 h2 h3 h4 hgb hgo hgl hgc hl hps hss hm hT hp0 hpl hs0 hsl
  subst hv
  go_enter Tryd.func22, Tryd.ntmps22
  have B0 := Aside0.mk (Below.refl w.heap.size w)
  go_wp2_with fail
  refine (local_calls p w).mono ?_
  rintro e w1 ⟨rfl, hb⟩
  rw [HPL.out]
  have B1 := Aside0.mk (B0.out.trans (hb.mono B0.out.size))
  clear hb
  go_wp2_with fail
  refine (space_calls s w1 (by have := HSS.out; omega) (HT.out.below B1.out)).mono ?_
  rintro e w2 ⟨rfl, hb⟩
  rw [HSL.out]
  have B2 := Aside0.mk (B1.out.trans (hb.mono B1.out.size))
  clear hb
  have K1 := Aside0.mk (HSC.out.below B2.out)
  have K2 := Aside0.mk (below_mono B2.out HSC.out.keys)
  have HX1 := Aside0.mk (HX.out.below B2.out)
  have c1 : w2.cell? ⟨g, 0, none⟩ = _ := (B2.out.cell (p := ⟨g, 0, none⟩) HGL.out).trans c0
  have c2 : w2.cell? ⟨gr, init.length, none⟩ = some (.map (some x.b)) := (B2.out.cell (p := ⟨gr, init.length, none⟩) HGR.out).trans HC.out
  clear c0 HX
  go_wp2_with fail
  have hl := HL.out
  have q1 : IntKind.i64.wrap ((init.length : Int)) = (init.length : Int) := Go.IntWalk.i64_in _ (by omega)
  have q0 : IntKind.i64.wrap ((init.length : Int) + 1 - 1) = (init.length : Int) := by rw [Int.add_sub_cancel]; exact q1
  have q2 : (0 : Int) ≤ (init.length : Int) := by omega
  have q3 : (init.length : Int) < (init.length : Int) + 1 := by omega
  clear hl
  go_quiet (fail)
  have D0 : Below w2.heap.size w2 (w2.drewN nq) := pw_below_drewN (Below.refl _ _) _
  generalize w2.drewN nq = w5 at D0 ⊢
  have B5 := Aside0.mk D0
  have K5 := Aside0.mk (K1.out.below D0)
  have L5 := Aside0.mk (K2.out.trans (below_mono D0 (Nat.le_trans HSC.out.keys K2.out.size)))
  have X5 := Aside0.mk (HX1.out.below D0)
  have hlen : ∀ ty, (Builtin.len_ #[60] ty #[.map (some x.b)]).run Tryd.prog w5 = .ok (.int .i64 x.m) w5 := fun ty => X5.out.len ty
  have PK := Aside0.mk (show (mkS tS).okk p from by show ByteArray.size _ ≤ maxLen; have := HPS.out; unfold maxLen; omega)
  have SK := Aside0.mk (show (mkS tS).okv s from by show ByteArray.size _ ≤ maxLen; have := HSS.out; unfold maxLen; omega)
  have MN := Aside0.mk (show x.m < maxLen by have := HM.out; unfold maxLen; omega)
  clear c1 c2 D0 q0 q1 q2 q3 e4
  cases hf : x.f p with
  | some c =>
    have HF := Aside0.mk hf
    have HE := Aside0.mk (show bindE x p = 6 by unfold bindE; rw [hf]; rfl)
    clear hf hlen
    go_wp2_with (at_lookup; refine MKind.look_event rfl rfl (mkS tS) rfl p rfl X5.out PK.out ?_; rw [HF.out]; rw [(rfl : (mkS tS).vv ((some c).getD (mkS tS).d) = .string c), Option.isSome_some])
    go_ret
    exact ⟨by rw [HE.out]; rfl, by rw [HE.out, if_neg (by decide)]; exact K5.out, L5.out⟩
  | none =>
    have HF := Aside0.mk hf
    by_cases h10 : 10 ≤ x.m
    · have HE := Aside0.mk (show bindE x p = 7 by unfold bindE; rw [hf, if_neg (by simp), if_pos h10])
      have r1 : decide ((10 : Int) ≤ (x.m : Int)) = true := decide_eq_true (by omega)
      have r2 : decide (10 ≤ x.m) = true := decide_eq_true h10
      clear hf h10
      go_wp2_with (at_lookup; refine MKind.look_event rfl rfl (mkS tS) rfl p rfl X5.out PK.out ?_; rw [HF.out]; rw [(rfl : (mkS tS).vv ((none : Option ByteArray).getD (mkS tS).d) = .string ⟨#[]⟩), Option.isSome_none])
      go_ret
      exact ⟨by rw [HE.out]; rfl, by rw [HE.out, if_neg (by decide)]; exact K5.out, L5.out⟩
    · have HE := Aside0.mk (show bindE x p = 0 by unfold bindE; rw [hf, if_neg (by simp), if_neg h10])
      have r1 : decide ((10 : Int) ≤ (x.m : Int)) = false := decide_eq_false (by omega)
      have r2 : decide (10 ≤ x.m) = false := decide_eq_false h10
      clear hf h10
      go_wp2_with (first
        | (at_lookup; refine MKind.look_event rfl rfl (mkS tS) rfl p rfl X5.out PK.out ?_; rw [HF.out]; rw [(rfl : (mkS tS).vv ((none : Option ByteArray).getD (mkS tS).d) = .string ⟨#[]⟩), Option.isSome_none])
        | (refine MKind.put_event rfl (.inr rfl) (mkS tS) rfl p s rfl rfl X5.out MN.out PK.out SK.out ?_; intro w6 hm6 g6; have M6 := Aside0.mk hm6; have G6 := Aside0.mk g6; clear hm6 g6 hlen))
      go_ret
      have hM := M6.out
      rw [HF.out] at hM
      refine ⟨by rw [HE.out]; rfl, ?_, L5.out.grown G6.out (Nat.le_trans HSC.out.keys L5.out.size) (fun k e => by have := Option.some.inj e; have := (HSC.out.2.choose_spec.2.2.1 x (by simp)).1; omega)⟩
      rw [HE.out, if_pos rfl]
      exact IsSc.last K5.out G6.out rfl hM
end Go.Proofs.YticlppojbbocbaaDoor.Nm
