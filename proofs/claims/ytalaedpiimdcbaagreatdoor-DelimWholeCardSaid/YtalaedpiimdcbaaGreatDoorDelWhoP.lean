/- The law DelimWhole: the events of a text are taken: plain laws. -/
import Derived.Test.YtalaedpiimdcbaaGreatDoorCoreP
import Derived.Test.YtalaedpiimdcbaaGreatDoorEvcF
import Derived.Test.YtalaedpiimdcbaaGreatDoorScanP
namespace Go.Proofs.YtalaedpiimdcbaaGreatDoor.Lw
open Go Go.Proofs.YtalaedpiimdcbaaGreatDoor.Own Go.Proofs.YtalaedpiimdcbaaGreatDoor.Hp Go.Proofs.YtalaedpiimdcbaaGreatDoor.Srcw Go.Proofs.YtalaedpiimdcbaaGreatDoor.Dl Go.Proofs.YtalaedpiimdcbaaGreatDoor.Cr Go.Proofs.YtalaedpiimdcbaaGreatDoor.Ec
set_option linter.unusedVariables false
set_option linter.unusedSimpArgs false
/-- Of the kinds that delim tells: which are right. -/
def rightD (x : Ev) : Bool :=
  if x.k = 4 ∨ x.k = 8 then decide (x.v = noT) && mayT x.t
  else if x.k = 1 ∨ x.k = 5 ∨ x.k = 6 ∨ x.k = 7 ∨ x.k = 9 ∨ x.k = 12 then decide (x.t = noT) && decide (x.v = noT)
  else false
/-- The list that is open, and the map. -/
def Lst (o : OE) : Prop := o.k = 5 ∧ o.key = false
/-- Where the check stands while a machine tells. -/
def At (m : MS) (c : CK) : Prop :=
  if m.started = false then c = CK.new
  else c.over = true ∧ ∃ o, Lst o ∧ (if m.named = true ∧ m.cells ≠ 0 then ∃ p, c.op = [p, o] ∧ p.k = 7 ∧ p.key = false ∧ p.had = m.hdr.take m.cells else c.op = [o])
/-- What holds of the texts of a machine. -/
structure Tx (m : MS) (st : Int × Int × Int) : Prop where
  hdr : ∀ s ∈ m.hdr, mayT s = true
  dup : m.hdr.Nodup
  cell : Val m.cell st
  rowz : m.row = false → m.cells = 0
  start : m.started = false → m.row = false ∧ m.named = false ∧ m.cells = 0 ∧ m.st = 0
theorem right5 : rightD (ev 5 noT) = true := rfl
theorem right6 : rightD (ev 6 noT) = true := rfl
theorem right7 : rightD (ev 7 noT) = true := rfl
theorem right9 : rightD (ev 9 noT) = true := rfl
theorem right4 {s : ByteArray} (h : mayT s = true) : rightD (ev 4 s) = true := by
  show (decide (noT = noT) && mayT s) = true
  rw [h]; simp
theorem right8 {s : ByteArray} (h : mayT s = true) : rightD (ev 8 s) = true := by
  show (decide (noT = noT) && mayT s) = true
  rw [h]; simp
/-- Taken, one by one. -/
def Takes (c : CK) (l : List Ev) (c' : CK) : Prop := ∀ i, runC rightD c l i = (c', i + l.length, 0)
theorem Takes.nil (c : CK) : Takes c [] c := fun i => rfl
theorem Takes.app {c c1 c2 : CK} {a b : List Ev} (h1 : Takes c a c1) (h2 : Takes c1 b c2) : Takes c (a ++ b) c2 := fun i => by
  have h := h1 i
  rw [runC_app rightD a b c i (by rw [h]), h, h2, List.length_append]
  congr 2
  omega
theorem Takes.one {c c' : CK} {x : Ev} (hr : rightD x = true) (h : goesC c x = (c', 0)) : Takes c [x] c' := fun i => by
  have hs : stepC rightD c x = (c', 0) := by unfold stepC; rw [if_pos hr, h]
  unfold runC
  rw [hs, if_pos rfl]
  rfl
theorem take5 (c : CK) (h : c = CK.new) : Takes c [ev 5 noT] ⟨[OE.new 5], true⟩ := Takes.one right5 (by subst h; rfl)
theorem take7 {o : OE} (h : Lst o) : Takes ⟨[o], true⟩ [ev 7 noT] ⟨[OE.new 7, { o with key := false, full := true, text := false }], true⟩ := by
  refine Takes.one right7 ?_
  obtain ⟨h1, h2⟩ := h
  obtain ⟨k, key, text, full, had⟩ := o
  simp only at h1 h2
  subst h1; subst h2
  rfl
theorem take9 {p o : OE} (hp : p.k = 7 ∧ p.key = false) : Takes ⟨[p, o], true⟩ [ev 9 noT] ⟨[o], true⟩ := by
  refine Takes.one right9 ?_
  obtain ⟨h1, h2⟩ := hp
  obtain ⟨k, key, text, full, had⟩ := p
  simp only at h1 h2
  subst h1; subst h2
  rfl
theorem take6 {o : OE} (h : Lst o) : Takes ⟨[o], true⟩ [ev 6 noT] ⟨[], true⟩ := by
  refine Takes.one right6 ?_
  obtain ⟨h1, h2⟩ := h
  obtain ⟨k, key, text, full, had⟩ := o
  simp only at h1 h2
  subst h1; subst h2
  rfl
theorem take84 {p o : OE} {s t : ByteArray} (hp : p.k = 7 ∧ p.key = false) (hs : mayT s = true) (ht : mayT t = true) (hn : s ∉ p.had) (hl : p.had.length < 10) :
    Takes ⟨[p, o], true⟩ [ev 8 s, ev 4 t] ⟨[⟨7, false, true, true, p.had ++ [s]⟩, o], true⟩ := by
  obtain ⟨h1, h2⟩ := hp
  obtain ⟨k, key, text, full, had⟩ := p
  simp only at h1 h2 hn hl
  subst h1; subst h2
  have g8 : goesC ⟨[⟨7, false, text, full, had⟩, o], true⟩ (ev 8 s) = (⟨[⟨7, true, text, full, had ++ [s]⟩, o], true⟩, 0) := by
    have hnm : namedL ⟨7, false, text, full, had⟩ (ev 8 s) = (⟨7, true, text, full, had ++ [s]⟩, 0) := by
      unfold namedL
      rw [if_neg (show ¬ (ev 8 s).t ∈ (⟨7, false, text, full, had⟩ : OE).had from hn), if_neg (by show ¬ 10 ≤ had.length; omega)]
      rfl
    unfold goesC
    rw [if_neg (by show ¬ ((8 : Int) = 1 ∨ (8 : Int) = 2 ∨ (8 : Int) = 3 ∨ (8 : Int) = 4); omega), if_neg (by show ¬ ((8 : Int) = 5 ∨ (8 : Int) = 7 ∨ (8 : Int) = 10); omega), if_pos (show (ev 8 s).k = 8 from rfl)]
    show (if (7 : Int) = 7 ∧ false = false then _ else _) = _
    rw [if_pos ⟨rfl, rfl⟩, hnm]
  have h := Takes.app (Takes.one (right8 hs) g8) (Takes.one (c' := ⟨[⟨7, false, true, true, had ++ [s]⟩, o], true⟩) (right4 ht) rfl)
  exact h
/-- Taken, and where the check stands then, if nothing went wrong. -/
def Good (c : CK) (l : List Ev) (m' : MS) (e : Int) : Prop := ∃ c', Takes c l c' ∧ (e = 0 → At m' c')
theorem Good.app {c c1 : CK} {a b : List Ev} {m' : MS} {e : Int} (h1 : Takes c a c1) (h2 : Good c1 b m' e) : Good c (a ++ b) m' e := by
  obtain ⟨c2, h3, h4⟩ := h2
  exact ⟨c2, h1.app h3, h4⟩
theorem at_started {m : MS} {c : CK} (h : At m c) (hs : m.started = true) : c.over = true ∧ ∃ o, Lst o ∧ (if m.named = true ∧ m.cells ≠ 0 then ∃ p, c.op = [p, o] ∧ p.k = 7 ∧ p.key = false ∧ p.had = m.hdr.take m.cells else c.op = [o]) := by
  unfold At at h
  rw [if_neg (by rw [hs]; decide)] at h
  exact h
theorem at_of {m : MS} {c : CK} (hs : m.started = true) (h : c.over = true ∧ ∃ o, Lst o ∧ (if m.named = true ∧ m.cells ≠ 0 then ∃ p, c.op = [p, o] ∧ p.k = 7 ∧ p.key = false ∧ p.had = m.hdr.take m.cells else c.op = [o])) : At m c := by
  unfold At
  rw [if_neg (by rw [hs]; decide)]
  exact h
/-- A cell of a row that is not the header. -/
theorem cell_good {m : MS} {c : CK} (h : At m c) (hs : m.started = true) (hn : m.named = true) (hc : m.cells < m.hdr.length) (h8 : m.hdr.length ≤ 8) (hh : ∀ s ∈ m.hdr, mayT s = true) (hd : m.hdr.Nodup) (ht : mayT (bs m.cell) = true) :
    ∃ p o, Lst o ∧ Takes c (cellE m) ⟨[p, o], true⟩ ∧ p.k = 7 ∧ p.key = false ∧ p.had = m.hdr.take (m.cells + 1) := by
  obtain ⟨h1, o, h2, h3⟩ := at_started h hs
  have hget : m.hdr.getD m.cells noT = m.hdr[m.cells] := by rw [List.getD_eq_getElem?_getD, List.getElem?_eq_getElem hc]; rfl
  have hms := hh _ (List.getElem_mem hc)
  have hni : m.hdr[m.cells] ∉ m.hdr.take m.cells := by
    intro hm
    obtain ⟨i, hi, he⟩ := List.getElem_of_mem hm
    rw [List.getElem_take] at he
    have hi2 : i < m.cells := by rw [List.length_take] at hi; omega
    exact (List.pairwise_iff_getElem.1 hd) i m.cells (by omega) hc hi2 he
  have hlt : (m.hdr.take m.cells).length < 10 := by rw [List.length_take]; omega
  have htk : m.hdr.take (m.cells + 1) = m.hdr.take m.cells ++ [m.hdr[m.cells]] := List.take_succ_eq_append_getElem hc
  obtain ⟨op, ov⟩ := c
  simp only at h1
  subst h1
  unfold cellE
  rw [hget]
  by_cases hz : m.cells = 0
  · rw [if_neg (fun hx => hx.2 hz)] at h3
    simp only at h3
    subst h3
    rw [if_pos hz]
    refine ⟨⟨7, false, true, true, [] ++ [m.hdr[m.cells]]⟩, { o with key := false, full := true, text := false }, ⟨h2.1, rfl⟩, (take7 h2).app (take84 (p := OE.new 7) ⟨rfl, rfl⟩ hms ht (by simp [OE.new]) (by show (0 : Nat) < 10; omega)), rfl, rfl, ?_⟩
    rw [htk]
    have : m.hdr.take m.cells = [] := by rw [hz]; rfl
    rw [this]
  · rw [if_pos ⟨hn, hz⟩] at h3
    obtain ⟨p, hp, hk, hkey, hhad⟩ := h3
    simp only at hp
    subst hp
    rw [if_neg hz, List.nil_append]
    refine ⟨_, o, h2, take84 ⟨hk, hkey⟩ hms ht (by rw [hhad]; exact hni) (by rw [hhad]; exact hlt), rfl, rfl, ?_⟩
    rw [htk, hhad]
theorem ends_good {m : MS} {c : CK} (more : Bool) (h : At m c) (hs : m.started = true) (ok : MOK m) (hh : ∀ s ∈ m.hdr, mayT s = true) (hd : m.hdr.Nodup) (ht : mayT (bs m.cell) = true) :
    Good c (endsM m more).2.1 (endsM m more).1 (endsM m more).2.2 := by
  unfold endsM
  by_cases hn : m.named = false
  · rw [if_pos hn]
    have hz := (ok.open_ hn).2
    obtain ⟨h1, o, h2, h3⟩ := at_started h hs
    rw [if_neg (by rw [hn]; exact fun hx => by cases hx.1)] at h3
    refine ⟨c, Takes.nil c, fun _ => at_of ?_ ⟨h1, o, h2, ?_⟩⟩
    · unfold namesM
      repeat' split
      all_goals exact hs
    · rw [if_neg]
      · exact h3
      · rintro ⟨_, hx⟩
        refine hx ?_
        unfold namesM
        repeat' split
        all_goals exact hz
  · have hn' : m.named = true := by simpa using hn
    rw [if_neg hn]
    obtain ⟨p, o, h1, h2, h3, h4, h5⟩ := cell_good h hs hn' (ok.at_ hn') ok.hdr hh hd ht
    by_cases hm : more = true
    · rw [if_pos hm]
      by_cases hc : m.cells + 1 < m.hdr.length
      · rw [if_pos hc]
        refine ⟨_, h2, fun _ => at_of hs ⟨rfl, o, h1, ?_⟩⟩
        rw [if_pos ⟨hn', by show m.cells + 1 ≠ 0; omega⟩]
        exact ⟨p, rfl, h3, h4, h5⟩
      · rw [if_neg hc]
        exact ⟨_, h2, fun h0 => by cases h0⟩
    · rw [if_neg hm]
      by_cases hc : m.cells + 1 < m.hdr.length
      · rw [if_pos hc]
        exact ⟨_, h2, fun h0 => by cases h0⟩
      · rw [if_neg hc]
        refine ⟨_, h2.app (take9 ⟨h3, h4⟩), fun _ => at_of hs ⟨rfl, o, h1, ?_⟩⟩
        rw [if_neg (fun hx => hx.2 rfl)]
theorem at_same {m m' : MS} {c : CK} (h : At m c) (h0 : m'.started = m.started) (h1 : m'.hdr = m.hdr) (h2 : m'.named = m.named) (h3 : m'.cells = m.cells) : At m' c := by
  unfold At at *
  rw [h0, h1, h2, h3]; exact h
theorem ev0_good {m : MS} {c : CK} {st : Int × Int × Int} (h : At m c) (tx : Tx m st) : ∃ c', Takes c (ev0 m) c' ∧ At (m1 m) c' := by
  unfold ev0
  by_cases hs : m.started = true
  · rw [if_pos hs]
    refine ⟨c, Takes.nil c, at_same (m := m) h (by show true = m.started; rw [hs]) rfl rfl rfl⟩
  · rw [if_neg hs]
    have hs' : m.started = false := by simpa using hs
    unfold At at h
    rw [if_pos hs'] at h
    refine ⟨_, take5 c h, at_of (m := m1 m) rfl ⟨rfl, OE.new 5, ⟨rfl, rfl⟩, ?_⟩⟩
    rw [if_neg]
    rintro ⟨hx, _⟩
    have h2 := (tx.start hs').2.1
    rw [show (m1 m).named = m.named from rfl, h2] at hx
    cases hx
theorem may_of {l : List UInt8} (h : Lib.validD l = true) (h2 : l.length ≤ 48) : mayT (bs l) = true := by
  unfold mayT
  rw [bs_list, bs_size, h]
  simp [h2]
/-- A byte's step is taken. -/
theorem step_good {m : MS} {c : CK} {st : Int × Int × Int} {b : UInt8} (h : At m c) (ok : MOK m) (tx : Tx m st) (hs : (stepF st.1 st.2.1 st.2.2 b.toNat).1 = true) : Good c (stepM m b).2.1 (stepM m b).1 (stepM m b).2.2 := by
  obtain ⟨c1, h1, h2⟩ := ev0_good h tx
  have hok1 : MOK (m1 m) := ok.with ok.st rfl rfl rfl rfl
  have ends (more : Bool) (hb : b < 128) : Good c (ev0 m ++ (endsM (m1 m) more).2.1) (endsM (m1 m) more).1 (endsM (m1 m) more).2.2 :=
    Good.app h1 (ends_good more h2 rfl hok1 tx.hdr tx.dup (may_of (tx.cell.low hb hs).1 ok.cell))
  have plain (m' : MS) (e : Int) (g0 : m'.started = true) (g1 : m'.hdr = m.hdr) (g2 : m'.named = m.named) (g3 : m'.cells = m.cells) : Good c (ev0 m) m' e := ⟨c1, h1, fun _ => at_same h2 g0 g1 g2 g3⟩
  have says (m' : MS) (g0 : m'.started = true) (g1 : m'.hdr = m.hdr) (g2 : m'.named = m.named) (g3 : m'.cells = m.cells) : Good c (ev0 m) (saysM m' b).1 (saysM m' b).2 := by
    refine plain _ _ ?_ ?_ ?_ ?_ <;> (unfold saysM; split <;> assumption)
  unfold stepM
  by_cases a1 : m.st = 2
  · rw [if_pos a1]
    by_cases a2 : b = 34
    · rw [if_pos a2]; exact plain _ _ rfl rfl rfl rfl
    · rw [if_neg a2]; exact says _ rfl rfl rfl rfl
  rw [if_neg a1]
  by_cases a2 : b = 44
  · rw [if_pos a2]; exact ends true (by rw [a2]; decide)
  rw [if_neg a2]
  by_cases a3 : b = 10
  · rw [if_pos a3]; exact ends false (by rw [a3]; decide)
  rw [if_neg a3]
  by_cases a4 : m.st = 3
  · rw [if_pos a4]
    by_cases a5 : b = 34
    · rw [if_pos a5]; exact says _ rfl rfl rfl rfl
    · rw [if_neg a5]; exact plain _ _ rfl rfl rfl rfl
  rw [if_neg a4]
  by_cases a5 : b < 32
  · rw [if_pos a5]; exact plain _ _ rfl rfl rfl rfl
  rw [if_neg a5]
  by_cases a6 : b = 34
  · rw [if_pos a6]
    by_cases a7 : m.st = 1
    · rw [if_pos a7]; exact plain _ _ rfl rfl rfl rfl
    · rw [if_neg a7]; exact plain _ _ rfl rfl rfl rfl
  · rw [if_neg a6]; exact says _ rfl rfl rfl rfl
theorem hasT_iff {l : List ByteArray} {s : ByteArray} (h : ¬ hasT l s = true) : s ∉ l := fun hm => h (by
  unfold hasT
  rw [List.any_eq_true]
  exact ⟨s, hm, by simp⟩)
theorem ends_tx {m : MS} (more : Bool) (hh : ∀ s ∈ m.hdr, mayT s = true) (hd : m.hdr.Nodup) (ht : mayT (bs m.cell) = true) (hs : m.started = true) (hr : m.row = true) (ok : MOK m) (h0 : (endsM m more).2.2 = 0) : Tx (endsM m more).1 (0, 128, 191) := by
  unfold endsM at *
  by_cases hn : m.named = false
  · rw [if_pos hn] at h0 ⊢
    have hz := (ok.open_ hn).2
    unfold namesM at *
    simp only at h0 ⊢
    by_cases hq : hasT m.hdr (bs m.cell) = true
    · rw [if_pos hq] at h0; cases h0
    rw [if_neg hq] at h0 ⊢
    have hh2 : ∀ s ∈ m.hdr ++ [bs m.cell], mayT s = true := fun s hs => by
      rcases List.mem_append.1 hs with h | h
      · exact hh s h
      · rw [List.mem_singleton] at h; subst h; exact ht
    have hd2 : (m.hdr ++ [bs m.cell]).Nodup := by
      rw [List.nodup_append]
      refine ⟨hd, by simp, fun x hx y hy hxy => ?_⟩
      rw [List.mem_singleton] at hy
      subst hy; subst hxy
      exact hasT_iff hq hx
    by_cases hm : more = true
    · rw [if_pos hm] at h0 ⊢
      by_cases h8 : 8 ≤ m.hdr.length + 1
      · rw [if_pos h8] at h0; cases h0
      · rw [if_neg h8]
        exact ⟨hh2, hd2, Val.nil, fun _ => hz, fun hx => absurd hs (by rw [show m.started = false from hx]; decide)⟩
    · rw [if_neg hm]
      exact ⟨hh2, hd2, Val.nil, fun _ => hz, fun hx => absurd hs (by rw [show m.started = false from hx]; decide)⟩
  · rw [if_neg hn] at h0 ⊢
    by_cases hm : more = true
    · rw [if_pos hm] at h0 ⊢
      by_cases hc : m.cells + 1 < m.hdr.length
      · rw [if_pos hc]
        exact ⟨hh, hd, Val.nil, fun hx => absurd hr (by rw [show m.row = false from hx]; decide), fun hx => absurd hs (by rw [show m.started = false from hx]; decide)⟩
      · rw [if_neg hc] at h0; cases h0
    · rw [if_neg hm] at h0 ⊢
      by_cases hc : m.cells + 1 < m.hdr.length
      · rw [if_pos hc] at h0; cases h0
      · rw [if_neg hc]
        exact ⟨hh, hd, Val.nil, fun _ => rfl, fun hx => absurd hs (by rw [show m.started = false from hx]; decide)⟩
theorem step_tx {m : MS} {st : Int × Int × Int} {b : UInt8} (ok : MOK m) (tx : Tx m st) (hs : (stepF st.1 st.2.1 st.2.2 b.toNat).1 = true) (h0 : (stepM m b).2.2 = 0) : Tx (stepM m b).1 (stepF st.1 st.2.1 st.2.2 b.toNat).2 := by
  have hok1 : MOK (m1 m) := ok.with ok.st rfl rfl rfl rfl
  have ends (more : Bool) (hb : b < 128) (h : (endsM (m1 m) more).2.2 = 0) : Tx (endsM (m1 m) more).1 (stepF st.1 st.2.1 st.2.2 b.toNat).2 := by
    have hl := tx.cell.low hb hs
    rw [hl.2.1]
    exact ends_tx more tx.hdr tx.dup (may_of hl.1 ok.cell) rfl rfl hok1 h
  have plain (m' : MS) (hb : b < 128) (g0 : m'.started = true) (g1 : m'.hdr = m.hdr) (g2 : m'.cell = m.cell) (g3 : m'.row = true) : Tx m' (stepF st.1 st.2.1 st.2.2 b.toNat).2 := by
    have hl := tx.cell.low hb hs
    rw [hl.2.1]
    exact ⟨by rw [g1]; exact tx.hdr, by rw [g1]; exact tx.dup, by rw [g2]; exact hl.2.2, fun hx => absurd g3 (by rw [hx]; decide), fun hx => absurd g0 (by rw [hx]; decide)⟩
  have says (m' : MS) (g0 : m'.started = true) (g1 : m'.hdr = m.hdr) (g2 : m'.cell = m.cell) (g3 : m'.row = true) (h : (saysM m' b).2 = 0) : Tx (saysM m' b).1 (stepF st.1 st.2.1 st.2.2 b.toNat).2 := by
    unfold saysM at *
    by_cases hc : 48 ≤ m'.cell.length
    · rw [if_pos hc] at h; cases h
    · rw [if_neg hc]
      exact ⟨by show ∀ s ∈ m'.hdr, mayT s = true; rw [g1]; exact tx.hdr, by show m'.hdr.Nodup; rw [g1]; exact tx.dup, by show Val (m'.cell ++ [b]) _; rw [g2]; exact tx.cell.step hs, fun hx => absurd g3 (by rw [show m'.row = false from hx]; decide), fun hx => absurd g0 (by rw [show m'.started = false from hx]; decide)⟩
  unfold stepM at *
  by_cases a1 : m.st = 2
  · rw [if_pos a1] at h0 ⊢
    by_cases a2 : b = 34
    · rw [if_pos a2]; exact plain _ (by rw [a2]; decide) rfl rfl rfl rfl
    · rw [if_neg a2] at h0 ⊢; exact says _ rfl rfl rfl rfl h0
  rw [if_neg a1] at h0 ⊢
  by_cases a2 : b = 44
  · rw [if_pos a2] at h0 ⊢; exact ends true (by rw [a2]; decide) h0
  rw [if_neg a2] at h0 ⊢
  by_cases a3 : b = 10
  · rw [if_pos a3] at h0 ⊢; exact ends false (by rw [a3]; decide) h0
  rw [if_neg a3] at h0 ⊢
  by_cases a4 : m.st = 3
  · rw [if_pos a4] at h0 ⊢
    by_cases a5 : b = 34
    · rw [if_pos a5] at h0 ⊢; exact says _ rfl rfl rfl rfl h0
    · rw [if_neg a5] at h0; cases h0
  rw [if_neg a4] at h0 ⊢
  by_cases a5 : b < 32
  · rw [if_pos a5] at h0; cases h0
  rw [if_neg a5] at h0 ⊢
  by_cases a6 : b = 34
  · rw [if_pos a6] at h0 ⊢
    by_cases a7 : m.st = 1
    · rw [if_pos a7] at h0; cases h0
    · rw [if_neg a7]; exact plain _ (by rw [a6]; decide) rfl rfl rfl rfl
  · rw [if_neg a6] at h0 ⊢; exact says _ rfl rfl rfl rfl h0
theorem end_good {m : MS} {c : CK} {st : Int × Int × Int} (h : At m c) (ok : MOK m) (tx : Tx m st) (hz : st.1 = 0) : ∃ c', Takes c (endM m).2.1 c' ∧ ((endM m).2.2 = 0 → c' = ⟨[], true⟩) := by
  obtain ⟨c1, h1, h2⟩ := ev0_good h tx
  have fin {m' : MS} {c : CK} (h : At m' c) (hs : m'.started = true) (hc : m'.named = true → m'.cells = 0) : Takes c [ev 6 noT] ⟨[], true⟩ := by
    obtain ⟨g1, o, g2, g3⟩ := at_started h hs
    rw [if_neg (fun hx => hx.2 (hc hx.1))] at g3
    obtain ⟨op, ov⟩ := c
    simp only at g1 g3
    subst g1; subst g3
    exact take6 g2
  unfold endM
  by_cases a1 : m.st = 2
  · rw [if_pos a1]
    exact ⟨c1, h1, fun h0 => by cases h0⟩
  rw [if_neg a1]
  by_cases a2 : m.row = true
  · rw [if_pos a2]
    have hst : m.started = true := by
      cases hs : m.started
      · have := (tx.start hs).1; rw [a2] at this; cases this
      · rfl
    have hev : ev0 m = [] := by unfold ev0; rw [if_pos hst]
    have hg := ends_good false h hst ok tx.hdr tx.dup (may_of (tx.cell.zero hz) ok.cell)
    rw [hev, List.nil_append]
    obtain ⟨c2, h3, h4⟩ := hg
    by_cases a3 : (endsM m false).2.2 = 0
    · rw [if_pos a3]
      have hs2 : (endsM m false).1.started = true := by
        unfold endsM namesM
        repeat' split
        all_goals exact hst
      have hc2 : (endsM m false).1.named = true → (endsM m false).1.cells = 0 := by
        intro _
        have hz2 : m.named = false → m.cells = 0 := fun hn => (ok.open_ hn).2
        revert a3
        unfold endsM namesM
        repeat' split
        all_goals (first | (intro _; rfl) | (intro _; apply hz2; assumption) | (intro hx; cases hx) | (rename_i hx _ _; intro _; exact absurd hx (by decide)) | skip)
        all_goals simp_all
      exact ⟨_, h3.app (fin (h4 a3) hs2 hc2), fun _ => rfl⟩
    · rw [if_neg a3]
      exact ⟨c2, h3, fun h0 => absurd h0 a3⟩
  · rw [if_neg a2]
    have hz2 := tx.rowz (by simpa using a2)
    exact ⟨_, h1.app (fin h2 rfl (fun _ => hz2)), fun _ => rfl⟩
/-- What holds while bytes are fed. -/
def Inv (n : Nat) (d : DS) : Prop := DOK n d ∧ ∃ c, Takes CK.new d.c.q c ∧ (d.c.over = false → At d.m c ∧ Tx d.m (d.c.l, d.c.a, d.c.t))
theorem Inv.new : Inv 0 DS.new := ⟨DOK.new, CK.new, Takes.nil _, fun _ => ⟨by unfold At; rw [if_pos (show DS.new.m.started = false from rfl)], ⟨(fun s hs => by cases hs), List.nodup_nil, Val.nil, (fun _ => rfl), (fun _ => ⟨rfl, rfl, rfl, rfl⟩)⟩⟩⟩
theorem Inv.step {n : Nat} {d : DS} (h : Inv n d) (b : UInt8) : Inv (n + 1) (stepD d b) := by
  refine ⟨h.1.step b, ?_⟩
  obtain ⟨hok, c, ht, ha⟩ := h
  unfold stepD
  by_cases h1 : d.c.over = true
  · rw [if_pos h1]
    exact ⟨c, ht, ha⟩
  rw [if_neg h1]
  have h1' : d.c.over = false := by simpa using h1
  obtain ⟨hat, htx⟩ := ha h1'
  by_cases h2 : (stepF d.c.l d.c.a d.c.t b.toNat).1 = false
  · rw [if_pos h2]
    exact ⟨c, ht, fun hx => by cases hx⟩
  rw [if_neg h2]
  have h2' : (stepF d.c.l d.c.a d.c.t b.toNat).1 = true := by simpa using h2
  obtain ⟨c', g1, g2⟩ := step_good (b := b) hat (hok.ok h1') htx h2'
  by_cases h3 : (stepM d.m b).2.2 = 0
  · rw [if_pos h3]
    exact ⟨c', ht.app g1, fun _ => ⟨g2 h3, step_tx (hok.ok h1') htx h2' h3⟩⟩
  · rw [if_neg h3]
    exact ⟨c', ht.app g1, fun hx => by cases hx⟩
theorem Inv.feed {n : Nat} {d : DS} (h : Inv n d) (l : List UInt8) : Inv (n + l.length) (feedD d l) := by
  induction l generalizing n d with
  | nil => exact h
  | cons b r ih =>
    have := ih (h.step b)
    rw [Nat.add_assoc, Nat.add_comm 1] at this
    exact this
theorem whole_of {l : List Ev} {c : CK} (h : Takes CK.new l c) : wholeC rightD l = (l.length, if doneC c = true then 0 else 19) := by
  unfold wholeC
  rw [h 0, if_pos rfl]
/-- The law in plain words. -/
theorem whole_dec (l : List UInt8) : (wholeC rightD (dec l).c.q).1 = (dec l).c.q.length ∧ ((dec l).c.err = 0 → (wholeC rightD (dec l).c.q).2 = 0 ∧ (dec l).c.at_ = l.length) ∧ 0 ≤ (dec l).c.at_ ∧ (dec l).c.at_ ≤ l.length := by
  have hi := Inv.new.feed l
  have hg := Going.new.feed l
  rw [Nat.zero_add] at hi hg
  obtain ⟨hok, c, ht, ha⟩ := hi
  unfold dec closeD
  by_cases h1 : (feedD DS.new l).c.closed = true ∨ (feedD DS.new l).c.over = true
  · rw [if_pos h1]
    have hov : (feedD DS.new l).c.over = true := by
      rcases h1 with h1 | h1
      · rw [hg.closed] at h1; cases h1
      · exact h1
    have hst := hg.stop hov
    refine ⟨?_, fun h0 => absurd h0 hst.2, hg.at_.1, hg.at_.2⟩
    show (wholeC rightD (feedD DS.new l).c.q).1 = (feedD DS.new l).c.q.length
    rw [whole_of ht]
  rw [if_neg h1]
  have hov : (feedD DS.new l).c.over = false := by
    cases hx : (feedD DS.new l).c.over
    · rfl
    · exact absurd (.inr hx) h1
  have hop := hg.open_ hov
  by_cases h2 : (feedD DS.new l).c.l ≠ 0
  · rw [if_pos h2]
    refine ⟨?_, (fun h0 => by cases h0), hg.at_.1, hg.at_.2⟩
    show (wholeC rightD (feedD DS.new l).c.q).1 = (feedD DS.new l).c.q.length
    rw [whole_of ht]
  · rw [if_neg h2]
    obtain ⟨hat, htx⟩ := ha hov
    obtain ⟨c', g1, g2⟩ := end_good hat (hok.ok hov) htx (by simpa using h2)
    have hw := whole_of (ht.app g1)
    refine ⟨?_, fun h0 => ⟨?_, hop.2⟩, hg.at_.1, hg.at_.2⟩
    · show (wholeC rightD ((feedD DS.new l).c.q ++ (endM (feedD DS.new l).m).2.1)).1 = ((feedD DS.new l).c.q ++ (endM (feedD DS.new l).m).2.1).length
      rw [hw]
    · show (wholeC rightD ((feedD DS.new l).c.q ++ (endM (feedD DS.new l).m).2.1)).2 = 0
      rw [hw, g2 h0]
      rfl
end Go.Proofs.YtalaedpiimdcbaaGreatDoor.Lw
