/- strings.Builder beside other rows of bytes: which blocks a write leaves. -/
import Derived.Test.YtadbjbnnmooicaaDoorBuilder
import Derived.WalkMore
import Derived.WalkKit
import Derived.KernelRfl
namespace Go.Proofs.YtadbjbnnmooicaaDoor.Bld
open Go Go.RowKit Go.Proofs.YtadbjbnnmooicaaDoorW.PrintWords Go.Proofs.YtadbjbnnmooicaaDoorW.PrintLast Go.Proofs.YtadbjbnnmooicaaDoor.Own
set_option linter.unusedVariables false
set_option linter.unusedSimpArgs false

section
variable {P : Program} (w : World)
theorem append_str_at (base : Nat) (t u ty e : TypeId) (i : TypeInfo) (ht : P.underlying t = some (.slice e)) (hu : P.underlying u = some .string) (hi : P.info? e = some i) (hz : i.zero = some (.int .u8 0))
    (hsize : i.size = 1) (hby : i.bytes = 1) (v : Value) (n : Nat) (xs : List Value) (hown : w.ownsRow base e 1 v n xs) (s : ByteArray) (hbytes : n + s.size ≤ 140737488355328) (hbase : base ≤ w.heap.size) :
    ∃ v' w', (Builtin.append_ #[t, u] ty #[v, .string s]).run P w = .ok v' w' ∧ w'.ownsRow base e 1 v' (n + s.size) (xs ++ Lib.strCells s) ∧ w.grownBy w' v.ownBlock ∧
      (v'.ownBlock = v.ownBlock ∨ ∃ b, v'.ownBlock = some b ∧ w.heap.size ≤ b) := by
  obtain ⟨v', w', hr, h2, h3, _⟩ := Lib.run_append_own_string (P := P) w base t u ty e i ht hu hi hz hsize hby v n xs hown s (by simp only [maxLen]; omega) hbytes hbase
  refine ⟨v', w', hr, h2, h3, ?_⟩
  have hxl : xs.length = n := by simpa using hown.1
  rcases hown.2 with ⟨rfl, rfl⟩ | ⟨g, cap, cur, rfl, hbg, hg, hnc, hcm, hcs, htake⟩
  · by_cases hm : s.size = 0
    · rcases h2.2 with ⟨rfl, _⟩ | ⟨g, cap, cur, rfl, hbg, hg, _⟩
      · exact .inl rfl
      · have hn : Lib.strCells s = [] := List.eq_nil_of_length_eq_zero (by rw [Lib.strCells_length]; exact hm)
        have hf := Lib.run_firstCells_string (P := P) w 1 s
        rw [hm] at hf
        simp [Builtin.append_, run_underlying ht, run_underlying hu, sizeOf, typeInfo, hi, hsize, Builtin.lenOf, hm, hf] at hr
    · have hr' := run_append_nil_string (P := P) w t u ty e i (.int .u8 0) ht hu hi hz s (by omega) (by omega) (by rw [hby]; omega)
      rw [hr'] at hr
      injection hr with hv _
      subst hv
      exact .inr ⟨_, rfl, Nat.le_refl _⟩
  · by_cases hroom : n + s.size ≤ cap
    · have hcs' : cur.size = cap := by simpa using hcs
      have hr' := Lib.run_append_room_string (P := P) w t u ty e i ht hu hi hsize g n cap cur hg s hroom (by omega)
      rw [hr'] at hr
      injection hr with hv _
      subst hv
      exact .inl rfl
    · have holds : ∀ j u, xs[j]? = some u → w.cell? ((⟨g, 0, none⟩ : Addr).add j) = some u := hown.cells (g := g) rfl
      have hr' := Lib.run_append_grow_string (P := P) w t u ty e i (.int .u8 0) ht hu hi hz ⟨g, 0, none⟩ n cap xs (by rw [hsize]; simpa using hxl) holds s (by omega) (by omega) (by rw [hby]; exact growslice_fits (by omega) (by omega))
      rw [hr'] at hr
      injection hr with hv _
      subst hv
      exact .inr ⟨_, rfl, Nat.le_refl _⟩
variable {w} {ops : Array Oper} {rest : List Oper} {o : Oper} {a : Act} {Q : Exit → Act → World → Prop}
theorem append_str {w0 W : World} (base : Nat) (hgd : o.guard = none) (s x : Operand) (t u e : TypeId)
    (ho : o.op = .call { callee := .builtin .append, args := #[s, x], argTypes := #[t, u] })
    (ht : P.underlying t = some (.slice e)) (hu : P.underlying u = some .string) (hinfo : (P.info? e).map (fun i => (i.zero, i.size, i.bytes)) = some (some (.int .u8 0), 1, 1))
    (v : Value) (xs : List Int) (y : ByteArray) (ok : Nat → Prop) (hs : a.eval s = v) (hx : a.eval x = .string y) (hfresh : ∀ k, W.heap.size ≤ k → ok k)
    (HO : (Kd.int .u8).R e W base ok v xs) (HB : Below base w0 W) (hbase : base ≤ W.heap.size) (hl : xs.length + y.size ≤ 140737488355328)
    (h : ∀ v1 w1, (Kd.int .u8).R e w1 base ok v1 (xs ++ bytesOf y) → Below base w0 w1 → W.grownBy w1 v.ownBlock → wpList P ops Q rest (a.put o.dst v1) w1) :
    wpList P ops Q (o :: rest) a W := by
  obtain ⟨i0, hi, hzz⟩ := Option.map_eq_some_iff.1 hinfo
  simp only [Prod.mk.injEq] at hzz
  obtain ⟨hz0, hz1, hz2⟩ := hzz
  have hown : W.ownsRow base e 1 v xs.length (nums .u8 xs) := Kd.own_of_R HO
  obtain ⟨v1, w1, hr, h2, h3, hat⟩ := append_str_at (P := P) W base t u o.type e i0 ht hu hi hz0 hz1 hz2 v xs.length (nums .u8 xs) hown y hl hbase
  refine wpList_plain hgd fun K hK => ?_
  unfold Oper.wp execOp
  simp only [ho, resolve, invoke, builtin, Sem.run_bind, Sem.run_pure, Result.andThen_ok, List.map_toArray, List.map_cons, List.map_nil, hs, hx, hr]
  refine hK _ _ (h v1 w1 ?_ (HB.grown h3 hbase (own_base hown)) h3)
  have hl2 : (xs ++ bytesOf y).length = xs.length + y.size := by rw [List.length_append, bytesOf_length]
  have hc : nums .u8 (xs ++ bytesOf y) = nums .u8 xs ++ Lib.strCells y := by
    rw [nums_append]
    congr 1
    simp [nums, bytesOf, Lib.strCells]
  refine Kd.R_of_own (enc := Value.int .u8) (by show w1.ownsRow base e 1 v1 (xs ++ bytesOf y).length (nums .u8 (xs ++ bytesOf y)); rw [hl2, hc]; exact h2) (fun k hk => ?_)
  rcases hat with e1 | ⟨b, e1, hbb⟩
  · exact HO.1 k (by rw [← e1]; exact hk)
  · rw [e1] at hk
    injection hk with hk
    subst hk
    exact hfresh _ hbb
end

theorem infoByte : (Tryd.prog.info? 5).map (fun i => (i.zero, i.size, i.bytes)) = some (some (.int .u8 0), 1, 1) := by kernel_rfl

/-- A builder that was written at block b, its row in a block of which ok holds. -/
def BufAt (B : Nat) (ok : Nat → Prop) (w : World) (b : Nat) (l : List Int) : Prop :=
  B ≤ b ∧ ∃ v, w.heap[b]? = some (.cells #[.pointer (some ⟨b, 0, none⟩), v] 58 (0, 0)) ∧ (Kd.int .u8).R 5 w B (fun k => ok k ∧ k ≠ b) v l
/-- What a write leaves. -/
def Left (B : Nat) (ok : Nat → Prop) (b : Nat) (w w' : World) : Prop := Below B w w' ∧ ∀ k, k < w.heap.size → ¬ ok k → k ≠ b → w'.heap[k]? = w.heap[k]?
theorem BufAt.lt {B b : Nat} {ok : Nat → Prop} {w : World} {l : List Int} (h : BufAt B ok w b l) : b < w.heap.size := by
  obtain ⟨_, v, h1, _⟩ := h
  exact blk_lt h1
theorem Left.refl (B : Nat) (ok : Nat → Prop) (b : Nat) (w : World) : Left B ok b w w := ⟨Below.refl _ _, fun _ _ _ _ => rfl⟩
theorem Left.trans {B : Nat} {ok : Nat → Prop} {b : Nat} {w w1 w2 : World} (h : Left B ok b w w1) (k : Left B ok b w1 w2) : Left B ok b w w2 :=
  ⟨h.1.trans k.1, fun j hj h1 h2 => (k.2 j (Nat.lt_of_lt_of_le hj h.1.size) h1 h2).trans (h.2 j hj h1 h2)⟩
theorem BufAt.below {B b : Nat} {ok : Nat → Prop} {w w' : World} {l : List Int} (h : BufAt B ok w b l) (hb : Below w.heap.size w w') : BufAt B ok w' b l := by
  obtain ⟨h0, v, h1, h2⟩ := h
  exact ⟨h0, v, (hb.block b (blk_lt h1)).trans h1, Kd.R_below h2 hb⟩
theorem BufAt.of_is {B b : Nat} {w : World} {l : List UInt8} (h : Lib.BuilderAt 58 5 B b (.pointer (some ⟨b, 0, none⟩)) (Lib.byteCells l) w) : BufAt B (fun _ => True) w b (bnums l) := by
  obtain ⟨h0, v, h1, h2, h3⟩ := h
  refine ⟨h0, v, h1, Kd.R_of_own (enc := Value.int .u8) ?_ (fun k hk => ⟨trivial, fun e => h3 (by rw [hk, e])⟩)⟩
  have e1 : Lib.byteCells l = (bnums l).map (Value.int .u8) := by simp [Lib.byteCells, bnums]
  rw [Lib.byteCells_length, e1] at h2
  rw [bnums_len]
  exact h2
theorem BufAt.but {B b : Nat} {ok : Nat → Prop} {w : World} {l : List Int} (h : BufAt B ok w b l) (g : Nat) (hg : w.heap.size ≤ g) : BufAt B (fun k => ok k ∧ k ≠ g) w b l := by
  obtain ⟨h0, v, h1, h2⟩ := h
  exact ⟨h0, v, h1, Kd.R_mono (Kd.R_elderB h2 g hg) (fun k hk => ⟨⟨hk.1.1, hk.2⟩, hk.1.2⟩)⟩
theorem BufAt.is {B b : Nat} {ok : Nat → Prop} {w : World} {l : List UInt8} (h : BufAt B ok w b (bnums l)) : Is B b l w := by
  obtain ⟨h0, v, h1, h2⟩ := h
  refine .inr ⟨h0, v, h1, ?_, fun e => (h2.1 b e).2 rfl⟩
  have e1 : Lib.byteCells l = (bnums l).map (Value.int .u8) := by simp [Lib.byteCells, bnums]
  have := Kd.own_of_R (enc := Value.int .u8) h2
  rw [e1, List.length_map]
  exact this

set_option maxHeartbeats 2000000 in
set_option maxRecDepth 100000 in
theorem buf_string {B b : Nat} {ok : Nat → Prop} {w : World} {l : List Int} {s : ByteArray} (h : BufAt B ok w b l) (hB : B ≤ w.heap.size) (hf : ∀ k, w.heap.size ≤ k → ok k) (hl : l.length + s.size ≤ 140737488355328) :
    Calls Tryd.prog 25 #[.pointer (some ⟨b, 0, none⟩), .string s] w fun e w' => e = .returned (.tuple #[.int .i64 s.size, .nilIface]) ∧ BufAt B ok w' b (l ++ bytesOf s) ∧ Left B ok b w w' := by
  have hlt := h.lt
  obtain ⟨h0, v, h1, h2⟩ := h
  have H0 := Aside0.mk h0
  have H1 := Aside0.mk h1
  have H2 := Aside0.mk h2
  have HB := Aside0.mk hB
  have HL := Aside0.mk hl
  have HF := Aside0.mk (show ∀ k, w.heap.size ≤ k → ok k ∧ k ≠ b from fun k hk => ⟨hf k hk, by omega⟩)
  have c0 := (blk_cell h1 0).trans rfl
  have c1 := (blk_cell h1 1).trans rfl
  have HK := Aside0.mk (Any.Builder_copyCheck_used Tryd.laysB240 ⟨by kernel_rfl, by kernel_rfl⟩ b w c0)
  obtain ⟨A1, n1, hv⟩ := Kd.R_slice h2
  clear h0 h1 h2 hB hl hf
  subst hv
  go_enter Tryd.func25, Tryd.ntmps25
  go_wp2_with (first
    | (go_at_call 33; refine HK.out.mono ?_; rintro e w1 ⟨rfl, rfl⟩)
    | ((with_reducible refine gate_builtin (b := .append) (xs := #[.tmp 12, .tmp 13]) rfl ?_); at_builtin; refine append_str B rfl (.tmp 12) (.tmp 13) 34 9 5 rfl Tryd.underlying34 Tryd.underlying9 infoByte _ l s (fun k => ok k ∧ k ≠ b) rfl rfl HF.out H2.out (Below.refl _ _) HB.out HL.out ?_; intro v1 w2 ho hb hg; have hb1 := (hg.block b hlt (fun e => (H2.out.1 b e.symm).2 rfl)).trans H1.out; have f1 := blk_frozen hb1 1; have d1 := (blk_cell hb1 1).trans rfl; have K1 := Aside0.mk ho; have K2 := Aside0.mk hb; have K3 := Aside0.mk hb1; have K4 := Aside0.mk hg; obtain ⟨A2, n2, hv2⟩ := Kd.R_slice ho; clear ho hb hb1 hg; subst hv2))
  go_ret2
  refine ⟨rfl, ⟨H0.out, _, blk_put (cs' := #[.pointer (some ⟨b, 0, none⟩), .slice A2 (l ++ bytesOf s).length n2]) K3.out 1 _ (by simp), Kd.R_far (p := ⟨b, 1, none⟩) K1.out (fun k hk => hk.2) _⟩, K2.out.setCell (p := ⟨b, 1, none⟩) H0.out _, fun k hk h3 h4 => ?_⟩
  rw [Below.heap_setCell _ _ _ _ h4]
  exact K4.out.block k hk (fun e => h3 (H2.out.1 k e.symm).1)
end Go.Proofs.YtadbjbnnmooicaaDoor.Bld
