/- The law DelimChunks: what holds between its rounds. -/
import Derived.Test.YtalaedpiimdcbaaCoreL
import Derived.Test.YtalaedpiimdcbaaLawA
namespace Go.Proofs.Ytalaedpiimdcbaa.Lw
open Go Go.Lib Go.RowKit Go.Proofs.YtalaedpiimdcbaaW.PrintWords Go.Proofs.YtalaedpiimdcbaaW.PrintLast Go.Proofs.Ytalaedpiimdcbaa.Own Go.Proofs.Ytalaedpiimdcbaa.Hp Go.Proofs.Ytalaedpiimdcbaa.Srcw Go.Proofs.Ytalaedpiimdcbaa.Dl Go.Proofs.Ytalaedpiimdcbaa.Cr
set_option linter.unusedVariables false
set_option linter.unusedSimpArgs false
/-- A decoder and what was taken from it, above B2. -/
structure CRel (w2 wr : World) (g gM gS : Nat) (F G : Nat → Prop) (t : List Ev) (d : DS) (v : Value) : Prop where
  fr : Below w2.heap.size w2 wr
  inF : ∀ k, F k → w2.heap.size ≤ k ∧ k < wr.heap.size
  inG : ∀ k, G k → w2.heap.size ≤ k ∧ k < wr.heap.size
  dis : ∀ k, F k → ¬ G k
  d : D2 F wr g gM gS d.m d.c
  r : Row G wr 50 3 v t.length (evCs t)
section
variable {w2 wr w1 : World} {g gM gS : Nat} {F G : Nat → Prop} {t : List Ev} {d d1 : DS} {v : Value}
theorem CRel.below (h : CRel w2 wr g gM gS F G t d v) (hb : Below wr.heap.size wr w1) : CRel w2 w1 g gM gS F G t d v :=
  ⟨h.fr.trans (hb.mono h.fr.size), fun k hk => by have := h.inF k hk; have := hb.size; omega, fun k hk => by have := h.inG k hk; have := hb.size; omega, h.dis, h.d.below hb, h.r.below hb⟩
theorem CRel.fed (h : CRel w2 wr g gM gS F G t d v) (hd : D2 (ext F wr) w1 g gM gS d1.m d1.c) (hc : Ch allT F wr w1) : CRel w2 w1 g gM gS (fun k => ext F wr k ∧ k < w1.heap.size) G t d1 v :=
  ⟨h.fr.trans (hc.below (fun k hk => (h.inF k hk).1) h.fr.size), fun k hk => by
    have h2 := hk.2
    rcases hk.1 with h1 | h1
    · have := h.inF k h1; omega
    · have := h.fr.size; omega, fun k hk => by have := h.inG k hk; have := hc.size; omega, fun k hk hg => by
    rcases hk.1 with h1 | h1
    · exact h.dis k h1 hg
    · have := h.inG k hg; omega, hd.bound, h.r.far hc (fun k hg hf => h.dis k hf hg)⟩
theorem CRel.own {a b : Nat} (h : CRel w2 wr g gM gS F G t d v) (hc : Ch allT (fun k => a ≤ k ∧ k < b) wr w1) (ha : w2.heap.size ≤ a) (hF : ∀ k, F k → ¬ (a ≤ k ∧ k < b)) (hG : ∀ k, G k → ¬ (a ≤ k ∧ k < b)) : CRel w2 w1 g gM gS F G t d v :=
  ⟨h.fr.trans (hc.below (fun k hk => Nat.le_trans ha hk.1) h.fr.size), fun k hk => by have := h.inF k hk; have := hc.size; omega, fun k hk => by have := h.inG k hk; have := hc.size; omega, h.dis, h.d.far hc hF, h.r.far hc hG⟩
theorem CRel.took (h : CRel w2 wr g gM gS F G t d v) {l : List Ev} {v1 : Value} (hl : t ++ d.c.q = l) (hr : Row (ext G wr) w1 50 3 v1 (t ++ d.c.q).length (evCs (t ++ d.c.q))) (hd : D2 F w1 g gM gS d.m (takenC d.c)) (hc : Ch allT (fun k => F k ∨ G k) wr w1) :
    CRel w2 w1 g gM gS F (fun k => ext G wr k ∧ k < w1.heap.size) l ⟨d.m, takenC d.c⟩ v1 := by
  subst hl
  refine ⟨h.fr.trans (hc.below (fun k hk => by rcases hk with hk | hk; exact (h.inF k hk).1; exact (h.inG k hk).1) h.fr.size), fun k hk => by have := h.inF k hk; have := hc.size; omega, fun k hk => by
    have h2 := hk.2
    rcases hk.1 with h1 | h1
    · have := h.inG k h1; omega
    · have := h.fr.size; omega, fun k hk hg => by
    rcases hg.1 with h1 | h1
    · exact h.dis k hk h1
    · have := h.inF k hk; omega, hd, hr.bound⟩
theorem CRel.closed (h : CRel w2 wr g gM gS F G t d v) : v = v := rfl
end
theorem rd8_cut {F : Nat → Prop} {w : World} {A : Option Addr} {l : List UInt8} {c k : Nat} (h : Rd8 F w A l) (hc : l.length ≤ c) (hk : k ≤ l.length) : Rd8 F w (if c = k then A else A.map (·.add (k * 1))) (l.drop k) := by
  by_cases h1 : c = k
  · rw [if_pos h1, List.drop_of_length_le (by omega)]; exact Rd8.none_
  · rw [if_neg h1, Nat.mul_one]
    by_cases h2 : k < l.length
    · exact Rd8.drop_ h k h2
    · rw [List.drop_of_length_le (by omega)]; exact Rd8.none_
section
variable {P : Program} {ops : Array Oper} {rest : List Oper} {o : Oper} {a : Act} {Q : Exit → Act → World → Prop}
/-- 'b[k:]' of bytes. -/
theorem cut_event {W : World} (hgd : o.guard = none) {t e : TypeId} {x y : Operand} (hop : o.op = .slice t x (some y) none none) {A : Option Addr} {n c k : Nat} (hx : a.eval x = .slice A n c) (hy : a.eval y = .int .i64 k) (hk : k ≤ n)
    (ht : P.underlying t = some (.slice e)) (he : (P.info? e).map (fun i => (i.zero, i.size, i.bytes)) = some (some (.int .u8 0), 1, 1))
    (h : wpList P ops Q rest (a.put o.dst (.slice (if c = k then A else A.map (·.add (k * 1))) (n - k) (c - k))) W) : wpList P ops Q (o :: rest) a W := by
  obtain ⟨i, hi, _, hsz, _⟩ := info_parts he
  refine Kd.event_run hgd (v := .slice (if c = k then A else A.map (·.add (k * 1))) (n - k) (c - k)) (w1 := W) ?_ h
  have hr := cut_from t e .i64 ht hi 1 hsz A n c (k : Int) (by omega) (by omega) W
  have hel : P.elem t = e := by simp [Program.elem, ht]
  have hu : P.underlying t = some (.slice (P.elem t)) := by rw [hel]; exact ht
  have hs := run_sliceAt_slice (w := W) t (.slice A n c) (some (.int .i64 (k : Int))) none none hu
  unfold execOp
  simp only [hop, hx, hy, Option.map_some, Option.map_none, Sem.run_bind, hs, hr, Result.andThen_ok, Sem.run_pure, Int.toNat_natCast]
end
theorem small_ {k n L p : Nat} (h1 : k ≤ n) (h2 : L - p = n) (h3 : L ≤ 600) : k ≤ 1000000 := by omega
theorem few_ {k n p : Nat} {l : List UInt8} (h1 : k ≤ n) (h2 : l.length - p = n) (h3 : l.length ≤ 600) : 0 + (l.take p).length + k ≤ 10000 := by rw [List.length_take]; omega
theorem Like.on {t : List Ev} {d : DS} {l : List UInt8} {p : Nat} (h : Like t d (feedD DS.new (l.take p))) (k : Nat) : Like t (feedD d ((l.drop p).take k)) (feedD DS.new (l.take (p + k))) := by
  rw [List.take_add, feed_app]
  exact h.feed _
theorem go_on {p k n L c : Nat} (h : p ≤ L ∧ L - p ≤ c ∧ c ≤ 9223372036854775807) (hn : L - p = n) (hk : k ≤ n) : p + k ≤ L ∧ L - (p + k) ≤ c - k ∧ c - k ≤ 9223372036854775807 := by omega
theorem left_ {p k n L : Nat} (hn : L - p = n) : n - k = L - (p + k) := by omega
theorem low_ {a b c B : Nat} (h1 : B ≤ a) (h2 : a ≤ b) (h3 : b ≤ c) : B ≤ c := by omega
theorem Like.told_f {t : List Ev} {d2 d : DS} (h : Like t d2 d) (ho : d.c.over = false) : d2.c.told = false := by
  cases hb : d2.c.told with
  | false => rfl
  | true => have := h.told hb; rw [ho] at this; cases this
theorem Like.st2 {t : List Ev} {d2 d : DS} (h : Like t d2 d) (ho : d.c.over = false) : stQ d2.c = 2 := by unfold stQ; rw [if_pos (h.over.trans ho)]
theorem Like.st3 {t : List Ev} {d2 d : DS} (h : Like t d2 d) (ho : d.c.over = true) (he : d.c.err = 0) : stQ d2.c = 3 := by unfold stQ; rw [if_neg (by rw [h.over, ho]; decide), if_pos (h.err.trans he)]
theorem Like.st4 {t : List Ev} {d2 d : DS} (h : Like t d2 d) (ho : d.c.over = true) (he : d.c.err ≠ 0) : stQ d2.c = 4 := by unfold stQ; rw [if_neg (by rw [h.over, ho]; decide), if_neg (by rw [h.err]; exact he)]
theorem Like.told_t {t : List Ev} {d2 d : DS} (h : Like t d2 d) (ho : d.c.over = true) : (takenC d2.c).told = true := by unfold takenC; rw [if_neg (by rw [h.over, ho]; decide)]
theorem over_end {l : List UInt8} {k : Nat} (ho : (feedD DS.new (l.take k)).c.over = true) : (feedD DS.new (l.take k)).c.err = (dec l).c.err ∧ (feedD DS.new (l.take k)).c.at_ = (dec l).c.at_ := by
  have h1 := dec_over ho
  rw [close_over ho] at h1
  exact ⟨(congrArg (fun d => d.c.err) h1).symm, (congrArg (fun d => d.c.at_) h1).symm⟩
/-- The cut of a round. -/
theorem cut_nums {y : Int} {n c : Nat} (h1 : n ≤ c) (h6 : n ≤ 600) (hy : 0 ≤ y) : ∃ k : Nat, y % ((n : Int) + 1) = k ∧ k ≤ n ∧ (k : Int) ≤ (c : Int) ∧ (0 : Int) ≤ (k : Int) ∧ wrap64 ((n : Int) + 1) = (n : Int) + 1 ∧ ((n : Int) + 1 == 0) = false := by
  obtain ⟨k, hk⟩ : ∃ k : Nat, y % ((n : Int) + 1) = k := Int.eq_ofNat_of_zero_le (Int.emod_nonneg _ (by omega))
  have hkn : k ≤ n := by
    have := Int.emod_lt_of_pos y (show (0 : Int) < (n : Int) + 1 by omega)
    omega
  exact ⟨k, hk, hkn, by omega, by omega, w64 (by omega) (by omega), by rw [beq_eq_false_iff_ne]; omega⟩
end Go.Proofs.Ytalaedpiimdcbaa.Lw
