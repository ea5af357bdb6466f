/- quote.Print. -/
import Derived.Test.YtadbjbnnmooicaaDoorQuoteAll
import Derived.Test.YtadbjbnnmooicaaDoorBufByte
import Derived.Test.YtadbjbnnmooicaaDoorSrcRunesW
import Derived.Test.YtadbjbnnmooicaaDoorTabs
import Derived.StillTailTactics
import Derived.BigQuiet
namespace Go.Proofs.YtadbjbnnmooicaaDoor.Qw
open Go.RowKit Go.Proofs.YtadbjbnnmooicaaDoorW.PrintWords Go.Proofs.YtadbjbnnmooicaaDoorW.PrintLast Go.Proofs.YtadbjbnnmooicaaDoor.Own Go.Proofs.YtadbjbnnmooicaaDoor.Srcw Go.Proofs.YtadbjbnnmooicaaDoor.Tab
set_option linter.unusedVariables false
set_option linter.unusedSimpArgs false

/-- A digit's letter. -/
def letN (d : Int) : Int := if d < 10 then 48 + d else 87 + d
theorem BufAt_mono {B b : Nat} {ok ok' : Nat → Prop} {w : World} {l : List Int} (h : Bld.BufAt B ok w b l) (hm : ∀ k, ok k → ok' k) : Bld.BufAt B ok' w b l := by
  obtain ⟨h0, v, h1, h2⟩ := h
  exact ⟨h0, v, h1, Kd.R_mono h2 (fun k hk => ⟨hm k hk.1, hk.2⟩)⟩
theorem cells_left {B b g n : Nat} {ok : Nat → Prop} {w w' : World} {f : Nat → Value} (h : Bld.Left B ok b w w') (hg : ¬ ok g) (hne : g ≠ b) (hc : ∀ j, j < n → w.cell? ⟨g, j, none⟩ = some (f j)) : ∀ j, j < n → w'.cell? ⟨g, j, none⟩ = some (f j) := fun j hj => by
  have h0 := hc j hj
  have hlt : g < w.heap.size := by
    rcases Nat.lt_or_ge g w.heap.size with h' | h'
    · exact h'
    · simp [World.cell?, Array.getElem?_eq_none h'] at h0
  rw [← h0]
  simp only [World.cell?]
  rw [h.2 g hlt hg hne]
/-- How a byte is printed. -/
def prtN (c : Int) : List Int :=
  if c = 34 ∨ c = 92 then [92, c] else if c = 10 then [92, 110] else if c = 9 then [92, 116] else if c = 13 then [92, 114]
  else if c < 32 then [92, 117, 48, 48, letN (c / 16), letN (c % 16)] else [c]
def prtL (l : List Int) : List Int := l.flatMap prtN

theorem prtL_app (l : List Int) (c : Int) : prtL (l ++ [c]) = prtL l ++ prtN c := by simp [prtL]
theorem prt_snoc (s : ByteArray) (i : Nat) (h : i < s.size) : ∀ q, prtN ((s.data.toList.getD i 0).toNat : Int) = q → [34] ++ prtL (bnums (s.data.toList.take (i + 1))) = [34] ++ prtL (bnums (s.data.toList.take i)) ++ q := by
  rintro q rfl
  rw [take_snoc s i h, bnums_app, prtL_app, List.append_assoc]
theorem prtN_len (c : Int) : (prtN c).length ≤ 6 := by
  unfold prtN
  (repeat' split) <;> simp
theorem prt_len : ∀ (l : List UInt8) (n : Nat), l.length ≤ n → (prtL (bnums l)).length ≤ 6 * n := by
  intro l
  induction l with
  | nil => intro n _; simp [prtL, bnums]
  | cons b r ih =>
    intro n hn
    cases n with
    | zero => simp at hn
    | succ n =>
      have h1 := ih n (by simpa using hn)
      have h2 := prtN_len (b.toNat : Int)
      have e1 : prtL (bnums (b :: r)) = prtN (b.toNat : Int) ++ prtL (bnums r) := by simp [prtL, bnums]
      rw [e1, List.length_append]
      omega

theorem enc_one (d : Int) (h0 : 0 ≤ d) (h1 : d < 128) : Utf8.encode d = ⟨#[UInt8.ofNat d.toNat]⟩ := by
  have hv : Utf8.valid d = true := by simp [Utf8.valid]; omega
  unfold Utf8.encode
  rw [hv]
  simp only [if_true]
  rw [if_pos (by omega)]
theorem enc_size (d : Int) (h0 : 0 ≤ d) (h1 : d < 128) : (Utf8.encode d).size = 1 := by rw [enc_one d h0 h1]; rfl
theorem let_fin : ∀ n : Fin 16, (((⟨#[48, 49, 50, 51, 52, 53, 54, 55, 56, 57, 97, 98, 99, 100, 101, 102]⟩ : ByteArray)[n.val]'(n.isLt)).toNat : Int) = letN (n.val : Int) := by decide +kernel
theorem let_all (c : Int) (h0 : 0 ≤ c) (h1 : c < 16) : (((⟨#[48, 49, 50, 51, 52, 53, 54, 55, 56, 57, 97, 98, 99, 100, 101, 102]⟩ : ByteArray)[c.toNat]'(by show c.toNat < 16; omega)).toNat : Int) = letN c := by
  have h := let_fin ⟨c.toNat, by omega⟩
  simp only at h
  rw [h, Int.toNat_of_nonneg h0]
theorem and_fin : ∀ n : Fin 256, bits BinOp.and IntKind.u8 (n.val : Int) 15 = (n.val : Int) % 16 := by decide +kernel
theorem and_all (c : Int) (h0 : 0 ≤ c) (h1 : c < 256) : bits BinOp.and IntKind.u8 c 15 = c % 16 := by
  have h := and_fin ⟨c.toNat, by omega⟩
  simp only at h
  rw [Int.toNat_of_nonneg h0] at h
  exact h
theorem pr_bytes (d x : Int) (h0 : 0 ≤ d) (h1 : d < 128) (h2 : 0 ≤ x) (h3 : x < 128) : bytesOf (⟨#[92, 117, 48, 48]⟩ ++ ⟨#[UInt8.ofNat d.toNat]⟩ ++ ⟨#[UInt8.ofNat x.toNat]⟩) = [92, 117, 48, 48, d, x] := by
  simp [bytesOf, ByteArray.data_append]
  omega
def byt (l : List Int) : List UInt8 := l.map fun c => c.toNat.toUInt8
theorem prtN_byte (c : Int) (h0 : 0 ≤ c) (h1 : c < 256) : ∀ x ∈ prtN c, 0 ≤ x ∧ x < 256 := by
  unfold prtN letN
  intro x hx
  (repeat' split at hx) <;> simp at hx <;> omega
theorem byt_nums (l : List Int) (h : ∀ x ∈ l, 0 ≤ x ∧ x < 256) : bnums (byt l) = l := by
  unfold bnums byt
  rw [List.map_map]
  conv => rhs; rw [← List.map_id l]
  apply List.map_congr_left
  intro x hx
  have := h x hx
  simp; omega
theorem prt_byt (s : ByteArray) : bnums (byt ([34] ++ prtL (bnums s.data.toList) ++ [34])) = [34] ++ prtL (bnums s.data.toList) ++ [34] := by
  apply byt_nums
  intro x hx
  simp only [List.mem_append, List.mem_singleton, prtL, List.mem_flatMap, bnums, List.mem_map] at hx
  rcases hx with (rfl | ⟨c, ⟨b, _, rfl⟩, hx⟩) | rfl
  · omega
  · exact prtN_byte _ (by omega) (by have := b.toNat_lt; omega) x hx
  · omega
/-- What Print answers. -/
def prtS (s : ByteArray) : ByteArray × Int :=
  if Lib.validD s.data.toList = false then (⟨#[]⟩, 3) else if 48 < s.size then (⟨#[]⟩, 4) else (strOfNums ([34] ++ prtL (bnums s.data.toList) ++ [34]), 0)
theorem byte_first {B b : Nat} {w : World} {c : Int} (h : w.heap[b]? = some (.cells #[.pointer none, .slice none 0 0] 58 (0, 0))) (hb : B ≤ b) (h0 : 0 ≤ c) (h1 : c < 256) (hB : B ≤ w.heap.size) :
    Calls Tryd.prog 24 #[.pointer (some ⟨b, 0, none⟩), .int .u8 c] w fun e w' => e = .returned .nilIface ∧ Bld.BufAt B (fun _ => True) w' b [c] ∧ Below B w w' := by
  refine (Any.Builder_WriteByte Tryd.laysB167 Tryd.laysBX B b (Lib.byteCells []) c w (Bld.Is.fresh hb h) (by simp [Lib.byteCells]) hB).mono ?_
  rintro e w' ⟨he, hb', hw⟩
  have e1 : (Lib.byteCells [] ++ [.int .u8 c] : List Value) = Lib.byteCells [c.toNat.toUInt8] := by
    simp [Lib.byteCells]; omega
  rw [e1] at hb'
  have := Bld.BufAt.of_is hb'
  refine ⟨he, ?_, hw⟩
  have e2 : bnums [c.toNat.toUInt8] = [c] := by simp [bnums]; omega
  rw [e2] at this
  exact this

set_option maxHeartbeats 2000000 in
set_option maxRecDepth 100000 in
theorem print_none (s : ByteArray) (w : World) (hs : s.size < 17592186044416) (hT : Tabs w) (hv : Lib.validD s.data.toList = false) :
    Calls Tryd.prog 15 #[.string s] w fun e w' => e = .returned (.tuple #[.string ⟨#[]⟩, .int .i64 3]) ∧ Below w.heap.size w w' := by
  have HC := Aside0.mk (runes_calls s w hs (valid_calls s w (by omega) hT))
  have HV := Aside0.mk hv
  clear hv hT hs
  go_enter Tryd.func15, Tryd.ntmps15
  go_wp2_with fail
  refine HC.out.mono ?_
  rintro e w1 ⟨v, rfl, hr, hb⟩
  rw [HV.out]
  obtain ⟨A1, n1, hv⟩ := Kd.R_slice hr
  have HB := Aside0.mk hb
  clear hr hb
  subst hv
  go_wp2
  go_ret2
  exact ⟨rfl, HB.out⟩

set_option maxHeartbeats 2000000 in
set_option maxRecDepth 100000 in
theorem print_long (s : ByteArray) (w : World) (hs : s.size < 17592186044416) (hT : Tabs w) (hv : Lib.validD s.data.toList = true) (hl : 48 < s.size) :
    Calls Tryd.prog 15 #[.string s] w fun e w' => e = .returned (.tuple #[.string ⟨#[]⟩, .int .i64 4]) ∧ Below w.heap.size w w' := by
  have HC := Aside0.mk (runes_calls s w hs (valid_calls s w (by omega) hT))
  have HV := Aside0.mk hv
  have t1 : decide (48 < (s.size : Int)) = true := decide_eq_true (by omega)
  have t2 : decide (48 < s.size) = true := decide_eq_true (by omega)
  clear hv hT hs hl
  go_enter Tryd.func15, Tryd.ntmps15
  go_wp2_with fail
  refine HC.out.mono ?_
  rintro e w1 ⟨v, rfl, hr, hb⟩
  rw [HV.out]
  obtain ⟨A1, n1, hv⟩ := Kd.R_slice hr
  have HB := Aside0.mk hb
  clear hr hb
  subst hv
  go_wp2
  go_ret2
  exact ⟨rfl, HB.out⟩

set_option maxHeartbeats 2000000 in
set_option maxRecDepth 100000 in
theorem print_text (s : ByteArray) (w : World) (hs : s.size < 17592186044416) (hT : Tabs w) (hv : Lib.validD s.data.toList = true) (hl : s.size ≤ 48) :
    Calls Tryd.prog 15 #[.string s] w fun e w' => e = .returned (.tuple #[.string (strOfNums ([34] ++ prtL (bnums s.data.toList) ++ [34])), .int .i64 0]) ∧ Below w.heap.size w w' := by
  have HC := Aside0.mk (runes_calls s w hs (valid_calls s w (by omega) hT))
  have HV := Aside0.mk hv
  have HS := Aside0.mk hl
  have t1 : decide (48 < (s.size : Int)) = false := decide_eq_false (by omega)
  have t2 : decide (48 < s.size) = false := decide_eq_false (by omega)
  clear hv hT hs hl
  go_enter Tryd.func15, Tryd.ntmps15
  go_wp2_with fail
  refine HC.out.mono ?_
  rintro e w1 ⟨v, rfl, hr, hb⟩
  rw [HV.out]
  obtain ⟨A1, n1, hv⟩ := Kd.R_slice hr
  have HB := Aside0.mk hb
  clear hr hb
  subst hv
  go_wp2_with (first
    | ((with_reducible refine gate_dst (N := 6) rfl ?_); refine box_event ?hg (N := 6) ?hd (cs := #[.pointer none, .slice none 0 0]) (t := 58) ?hr ?_; (case hd => rfl); (case hg => rfl); (case hr => first | (go_simp; done) | (go_simp; rfl)); intro b hg w2 hbox hb; have HG := Aside0.mk hg; have H1 := Aside0.mk hbox; have H2 := Aside0.mk (HB.out.trans (below_mono hb HB.out.size)); have H3 := Aside0.mk (show w.heap.size ≤ b by rw [hg]; exact HB.out.size); clear hg hbox hb)
    | (go_at_call 24; refine (byte_first H1.out H3.out (by omega) (by omega) H2.out.size).mono ?_; rintro e w3 ⟨rfl, hbuf, hb⟩; have F1 := Aside0.mk hbuf; have F2 := Aside0.mk (H2.out.trans hb); clear hbuf hb)
    | (refine conv_event rfl (N := 21) rfl (s := s) rfl rfl Tryd.underlying9 Tryd.underlying34 Tryd.underlying5 ?_; intro gc cc w4 hgc hcc hb4; have F3 := Aside0.mk ((F1.out.but gc hgc).below hb4); have F4 := Aside0.mk hgc; have F5 := Aside0.mk hcc; have F6 := Aside0.mk (F2.out.trans (below_mono hb4 F2.out.size)); clear hgc hcc hb4))
  have HNE := Aside0.mk (show gc ≠ b by have h1 := F4.out; have h2 := F1.out.lt; omega)
  go_loopg [23] (s.size + 1) (fun gk v23 wr => ∃ i : Nat, v23 = .int .i64 i ∧ Aside0 (i ≤ s.size) ∧ Aside0 (s.size - i < gk) ∧ Aside0 (Bld.BufAt w.heap.size (fun k => True ∧ k ≠ gc) wr b ([34] ++ prtL (bnums (s.data.toList.take i)))) ∧ Aside0 (Below w.heap.size w wr) ∧ Aside0 (∀ j, j < s.size → wr.cell? ⟨gc, j, none⟩ = some (.int .u8 (s.data.toList.getD j 0).toNat)))
  case atStart => exact ⟨0, rfl, ⟨Nat.zero_le _⟩, ⟨by omega⟩, F3, F6, F5⟩
  case round =>
    obtain ⟨i, rfl, P1, P2, P3, P4, P5⟩ := hrel
    cases gk with
    | zero => exact absurd P2.out (by omega)
    | succ k1 =>
    by_cases hlt : i < s.size
    · have hcell := P5.out i hlt
      have HT := Aside0.mk (prt_snoc s i hlt)
      have HLN := prt_len (s.data.toList.take i) i (by simp; omega)
      have HF := Aside0.mk (show ∀ k, wr.heap.size ≤ k → True ∧ k ≠ gc from fun k hk => ⟨trivial, by
        rcases Nat.lt_or_ge gc wr.heap.size with h' | h'
        · omega
        · simp [World.cell?, Array.getElem?_eq_none h'] at hcell⟩)
      have tw : wrap64 ((i : Int) + 1) = (i : Int) + 1 := by have := HS.out; exact w64 (by omega) (by omega)
      have HLE := Aside0.mk (show ∀ m, m ≤ 100 → ([34] ++ prtL (bnums (s.data.toList.take i))).length + m ≤ 140737488355328 from fun m hm => by
        have h1 := HS.out
        rw [List.length_append]
        show 1 + _ + m ≤ _
        omega)
      clear HLN
      generalize hc : (((s.data.toList.getD i 0).toNat : Nat) : Int) = c at hcell HT
      have hc0 : 0 ≤ c := by omega
      have hc1 : c < 256 := by rw [← hc]; have := (s.data.toList.getD i 0).toNat_lt; omega
      clear hc
      by_cases h34 : c = 34
      · subst h34
        go_wp2_with (go_at_call 25; refine (Bld.buf_string P3.out P4.out.size HF.out (HLE.out _ (by decide))).mono ?_; rintro e w6 ⟨rfl, hb6, hl6⟩; have G1 := Aside0.mk hb6; have G2 := Aside0.mk hl6; clear hb6 hl6)
        go_roundg k1
        case measure => have := P2.out; omega
        case rel => exact ⟨i + 1, by (have := HS.out; go_num), ⟨by omega⟩, ⟨by have := P2.out; omega⟩, ⟨by rw [HT.out [92, 34] rfl]; exact G1.out⟩, ⟨P4.out.trans G2.out.1⟩, ⟨cells_left G2.out (by simp) HNE.out P5.out⟩⟩
      by_cases h92 : c = 92
      · subst h92
        go_wp2_with (go_at_call 25; refine (Bld.buf_string P3.out P4.out.size HF.out (HLE.out _ (by decide))).mono ?_; rintro e w6 ⟨rfl, hb6, hl6⟩; have G1 := Aside0.mk hb6; have G2 := Aside0.mk hl6; clear hb6 hl6)
        go_roundg k1
        case measure => have := P2.out; omega
        case rel => exact ⟨i + 1, by (have := HS.out; go_num), ⟨by omega⟩, ⟨by have := P2.out; omega⟩, ⟨by rw [HT.out [92, 92] rfl]; exact G1.out⟩, ⟨P4.out.trans G2.out.1⟩, ⟨cells_left G2.out (by simp) HNE.out P5.out⟩⟩
      by_cases h10 : c = 10
      · subst h10
        go_wp2_with (first
          | (go_at_call 25; refine (Bld.buf_string P3.out P4.out.size HF.out (HLE.out _ (by decide))).mono ?_; rintro e w6 ⟨rfl, hb6, hl6⟩; have G1 := Aside0.mk hb6; have G2 := Aside0.mk hl6; clear hb6 hl6)
          | (go_at_call 24; refine (Bld.buf_byte P3.out P4.out.size HF.out (HLE.out _ (by decide))).mono ?_; rintro e w6 ⟨rfl, hb6, hl6⟩; have G1 := Aside0.mk hb6; have G2 := Aside0.mk hl6; clear hb6 hl6))
        go_roundg k1
        case measure => have := P2.out; omega
        case rel => exact ⟨i + 1, by (have := HS.out; go_num), ⟨by omega⟩, ⟨by have := P2.out; omega⟩, ⟨by rw [HT.out [92, 110] rfl]; exact G1.out⟩, ⟨P4.out.trans G2.out.1⟩, ⟨cells_left G2.out (by simp) HNE.out P5.out⟩⟩

      by_cases h9 : c = 9
      · subst h9
        go_wp2_with (first
          | (go_at_call 25; refine (Bld.buf_string P3.out P4.out.size HF.out (HLE.out _ (by decide))).mono ?_; rintro e w6 ⟨rfl, hb6, hl6⟩; have G1 := Aside0.mk hb6; have G2 := Aside0.mk hl6; clear hb6 hl6)
          | (go_at_call 24; refine (Bld.buf_byte P3.out P4.out.size HF.out (HLE.out _ (by decide))).mono ?_; rintro e w6 ⟨rfl, hb6, hl6⟩; have G1 := Aside0.mk hb6; have G2 := Aside0.mk hl6; clear hb6 hl6))
        go_roundg k1
        case measure => have := P2.out; omega
        case rel => exact ⟨i + 1, by (have := HS.out; go_num), ⟨by omega⟩, ⟨by have := P2.out; omega⟩, ⟨by rw [HT.out [92, 116] rfl]; exact G1.out⟩, ⟨P4.out.trans G2.out.1⟩, ⟨cells_left G2.out (by simp) HNE.out P5.out⟩⟩

      by_cases h13 : c = 13
      · subst h13
        go_wp2_with (first
          | (go_at_call 25; refine (Bld.buf_string P3.out P4.out.size HF.out (HLE.out _ (by decide))).mono ?_; rintro e w6 ⟨rfl, hb6, hl6⟩; have G1 := Aside0.mk hb6; have G2 := Aside0.mk hl6; clear hb6 hl6)
          | (go_at_call 24; refine (Bld.buf_byte P3.out P4.out.size HF.out (HLE.out _ (by decide))).mono ?_; rintro e w6 ⟨rfl, hb6, hl6⟩; have G1 := Aside0.mk hb6; have G2 := Aside0.mk hl6; clear hb6 hl6))
        go_roundg k1
        case measure => have := P2.out; omega
        case rel => exact ⟨i + 1, by (have := HS.out; go_num), ⟨by omega⟩, ⟨by have := P2.out; omega⟩, ⟨by rw [HT.out [92, 114] rfl]; exact G1.out⟩, ⟨P4.out.trans G2.out.1⟩, ⟨cells_left G2.out (by simp) HNE.out P5.out⟩⟩

      have t34 : (c == 34) = false := by simpa using h34
      have t92 : (c == 92) = false := by simpa using h92
      have t10 : (c == 10) = false := by simpa using h10
      have t9 : (c == 9) = false := by simpa using h9
      have t13 : (c == 13) = false := by simpa using h13
      have q34 : decide (c = 34) = false := by simpa using h34
      have q92 : decide (c = 92) = false := by simpa using h92
      have q10 : decide (c = 10) = false := by simpa using h10
      have q9 : decide (c = 9) = false := by simpa using h9
      have q13 : decide (c = 13) = false := by simpa using h13
      by_cases h32 : c < 32
      · skip
        have t32 : decide (c < 32) = true := decide_eq_true h32
        go_wp2_with fail
        have g1 : 0 ≤ c / 16 := by omega
        have g2 : c / 16 < 2 := by omega
        have g3 : 0 ≤ c % 16 := by omega
        have g4 : c % 16 < 16 := by omega
        have tb := and_all c hc0 hc1
        refine wp_region_still_tail 10 (by kernel_rfl) (by kernel_rfl) ?_
        simp only [List.take_succ_cons, List.take_zero, List.drop_succ_cons, List.drop_zero]
        iterate 3 still_step
        generalize hd : (((⟨#[48, 49]⟩ : ByteArray)[(c / 16).toNat]'(by show (c / 16).toNat < 2; omega)).toNat : Int) = d
        have hd' : d = 48 + c / 16 := by
          rw [← hd]
          rcases (by omega : c / 16 = 0 ∨ c / 16 = 1) with h | h <;> simp [h] <;> rfl
        have e1 := enc_size d (by omega) (by omega)
        have HD := Aside0.mk hd'
        clear hd hd'
        iterate 5 still_step
        generalize hx : (((⟨#[48, 49, 50, 51, 52, 53, 54, 55, 56, 57, 97, 98, 99, 100, 101, 102]⟩ : ByteArray)[(c % 16).toNat]'(by show (c % 16).toNat < 16; omega)).toNat : Int) = x
        have hx' : x = letN (c % 16) := by
          rw [← hx]
          exact let_all (c % 16) g3 g4
        have hx0 : 0 ≤ x ∧ x < 128 := by rw [hx']; unfold letN; split <;> omega
        have e2 := enc_size x hx0.1 hx0.2
        have HX := Aside0.mk hx'
        have HX0 := Aside0.mk hx0
        clear hx hx' hx0
        iterate 2 still_step
        refine wpStill_nil ?_
        change wpList _ _ _ _ _ wr.drew
        have D0 : Below wr.heap.size wr wr.drew := below_drew (Below.refl _ _)
        have D1 := Aside0.mk (P3.out.below D0)
        have D2 := Aside0.mk (P4.out.trans (below_mono D0 P4.out.size))
        have D3 := Aside0.mk (show ∀ k, wr.drew.heap.size ≤ k → True ∧ k ≠ gc from HF.out)
        have D4 := Aside0.mk (show ∀ j, j < s.size → wr.drew.cell? ⟨gc, j, none⟩ = some (.int .u8 (s.data.toList.getD j 0).toNat) from P5.out)
        clear D0
        generalize wr.drew = w5 at D1 D2 D3 D4 ⊢
        have hsz : (⟨#[92, 117, 48, 48]⟩ ++ Utf8.encode d ++ Utf8.encode x : ByteArray).size ≤ 100 := by
          rw [ByteArray.size_append, ByteArray.size_append, e1, e2]; decide
        go_wp2_with (go_at_call 25; refine (Bld.buf_string D1.out D2.out.size D3.out (HLE.out _ hsz)).mono ?_; rintro e w6 ⟨rfl, hb6, hl6⟩; have G1 := Aside0.mk hb6; have G2 := Aside0.mk hl6; clear hb6 hl6)
        go_roundg k1
        case measure => have := P2.out; omega
        case rel => exact ⟨i + 1, by (have := HS.out; go_num), ⟨by omega⟩, ⟨by have := P2.out; omega⟩, ⟨by
          rw [HT.out _ rfl]
          have e3 : bytesOf (⟨#[92, 117, 48, 48]⟩ ++ Utf8.encode d ++ Utf8.encode x) = prtN c := by
            rw [enc_one d (by have := HD.out; omega) (by have := HD.out; omega), enc_one x HX0.out.1 HX0.out.2]
            unfold prtN
            rw [if_neg (by omega), if_neg h10, if_neg h9, if_neg h13, if_pos h32, ← HX.out]
            have hl : letN (c / 16) = d := by rw [HD.out]; unfold letN; rw [if_pos (by omega)]
            rw [hl]
            exact pr_bytes d x (by have := HD.out; omega) (by have := HD.out; omega) HX0.out.1 HX0.out.2
          rw [← e3]
          exact G1.out⟩, ⟨D2.out.trans G2.out.1⟩, ⟨cells_left G2.out (by simp) HNE.out D4.out⟩⟩
      · have t32 : decide (c < 32) = false := decide_eq_false h32
        go_wp2_with (first
          | (go_at_call 25; refine (Bld.buf_string P3.out P4.out.size HF.out (HLE.out _ (by decide))).mono ?_; rintro e w6 ⟨rfl, hb6, hl6⟩; have G1 := Aside0.mk hb6; have G2 := Aside0.mk hl6; clear hb6 hl6)
          | (go_at_call 24; refine (Bld.buf_byte P3.out P4.out.size HF.out (HLE.out _ (by decide))).mono ?_; rintro e w6 ⟨rfl, hb6, hl6⟩; have G1 := Aside0.mk hb6; have G2 := Aside0.mk hl6; clear hb6 hl6))
        go_roundg k1
        case measure => have := P2.out; omega
        case rel => exact ⟨i + 1, by (have := HS.out; go_num), ⟨by omega⟩, ⟨by have := P2.out; omega⟩, ⟨by rw [HT.out [c] (by unfold prtN; rw [if_neg (by omega), if_neg h10, if_neg h9, if_neg h13, if_neg (by omega)])]; exact G1.out⟩, ⟨P4.out.trans G2.out.1⟩, ⟨cells_left G2.out (by simp) HNE.out P5.out⟩⟩

    · have hi : i = s.size := by have := P1.out; omega
      have P7 := P3.out
      rw [hi, List.take_of_length_le (by rw [size_data]; exact Nat.le_refl _)] at P7
      have H7 := Aside0.mk (BufAt_mono P7 (fun k _ => trivial) : Bld.BufAt w.heap.size (fun _ => True) wr b ([34] ++ prtL (bnums s.data.toList)))
      have HLN := prt_len s.data.toList s.size (by rw [size_data]; exact Nat.le_refl _)
      have HLE := Aside0.mk (show ([34] ++ prtL (bnums s.data.toList)).length + 1 ≤ 140737488355328 from by
        have h1 := HS.out
        rw [List.length_append]
        show 1 + _ + 1 ≤ _
        omega)
      clear HLN P7 hi
      go_wp2_with (first
        | (go_at_call 24; refine (Bld.buf_byte H7.out P4.out.size (fun _ _ => trivial) HLE.out).mono ?_; rintro e w6 ⟨rfl, hb6, hl6⟩; have G1 := Aside0.mk hb6; have G2 := Aside0.mk (P4.out.trans hl6.1); clear hb6 hl6)
        | (go_at_call 26; refine (Bld.string_calls w.heap.size b (byt ([34] ++ prtL (bnums s.data.toList) ++ [34])) w6 (by have := G1.out; rw [← prt_byt s] at this; exact this.is) G2.out.size).mono ?_; rintro e w7 ⟨rfl, hb7⟩; have G3 := Aside0.mk (G2.out.trans hb7); clear hb7))
      go_ret2
      exact ⟨rfl, G3.out⟩

theorem print_calls (s : ByteArray) (w : World) (hs : s.size < 17592186044416) (hT : Tabs w) :
    Calls Tryd.prog 15 #[.string s] w fun e w' => ∃ (t : ByteArray) (f : Int), e = .returned (.tuple #[.string t, .int .i64 f]) ∧ (t = (prtS s).1 ∧ f = (prtS s).2) ∧ Below w.heap.size w w' := by
  unfold prtS
  cases hv : Lib.validD s.data.toList
  · refine (print_none s w hs hT hv).mono ?_
    rintro e w' ⟨he, hb⟩
    exact ⟨_, _, he, ⟨rfl, rfl⟩, hb⟩
  · by_cases hl : 48 < s.size
    · refine (print_long s w hs hT hv hl).mono ?_
      rintro e w' ⟨he, hb⟩
      exact ⟨_, _, he, by rw [if_neg (by simp), if_pos hl]; exact ⟨rfl, rfl⟩, hb⟩
    · refine (print_text s w hs hT hv (by omega)).mono ?_
      rintro e w' ⟨he, hb⟩
      exact ⟨_, _, he, by rw [if_neg (by simp), if_neg hl]; exact ⟨rfl, rfl⟩, hb⟩
end Go.Proofs.YtadbjbnnmooicaaDoor.Qw
