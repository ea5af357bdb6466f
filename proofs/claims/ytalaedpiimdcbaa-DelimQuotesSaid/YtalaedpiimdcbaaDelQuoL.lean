/- The law DelimQuotes, walked. -/
import Derived.Test.YtalaedpiimdcbaaDelQuoP
import Derived.Test.YtalaedpiimdcbaaLawA
namespace Go.Proofs.Ytalaedpiimdcbaa.Lw
open Go Go.Lib Go.RowKit Go.Proofs.YtalaedpiimdcbaaW.PrintWords Go.Proofs.YtalaedpiimdcbaaW.PrintLast Go.Proofs.Ytalaedpiimdcbaa.Own Go.Proofs.Ytalaedpiimdcbaa.Hp Go.Proofs.Ytalaedpiimdcbaa.Srcw Go.Proofs.Ytalaedpiimdcbaa.Dl Go.Proofs.Ytalaedpiimdcbaa.Cr
set_option linter.unusedVariables false
set_option linter.unusedSimpArgs false
def owI (L : List UInt8) (i : Nat) : List UInt8 := (L.take i).filter okQ
theorem owI_yes {L : List UInt8} {i : Nat} (h : i < L.length) (h1 : okQ L[i] = true) : owI L (i + 1) = owI L i ++ [L[i]] := by
  unfold owI; rw [List.take_succ_eq_append_getElem h, List.filter_append]; simp [h1]
theorem owI_no {L : List UInt8} {i : Nat} (h : i < L.length) (h1 : okQ L[i] = false) : owI L (i + 1) = owI L i := by
  unfold owI; rw [List.take_succ_eq_append_getElem h, List.filter_append]; simp [h1]
theorem owI_len (L : List UInt8) (i : Nat) : (owI L i).length ≤ i := by
  have h := List.length_filter_le okQ (L.take i)
  rw [List.length_take] at h
  unfold owI
  omega
theorem owI_end {L : List UInt8} {i : Nat} (h1 : i ≤ 40) (h2 : 40 ≤ i ∨ L.length ≤ i) : owI L i = ownQ L := by
  unfold owI ownQ
  rcases h2 with h2 | h2
  · rw [show i = 40 by omega]
  · rw [List.take_of_length_le h2, List.take_of_length_le (by omega)]
theorem okQ_no {b : UInt8} (h : (b.toNat : Int) < 32 ∨ (b.toNat : Int) = 34 ∨ (b.toNat : Int) = 44) : okQ b = false := by
  cases h0 : okQ b with
  | false => rfl
  | true =>
    obtain ⟨h1, h2, h3, _⟩ := okQ_is h0
    exfalso
    rcases h with h | h | h
    · exact h1 (UInt8.lt_iff_toNat_lt.2 (by have : (32 : UInt8).toNat = 32 := rfl; omega))
    · exact h2 (UInt8.toNat_inj.1 (by have : (34 : UInt8).toNat = 34 := rfl; omega))
    · exact h3 (UInt8.toNat_inj.1 (by have : (44 : UInt8).toNat = 44 := rfl; omega))
theorem okQ_yes {b : UInt8} (h : ¬ (b.toNat : Int) < 32) (h1 : ¬ (b.toNat : Int) = 34) (h2 : ¬ (b.toNat : Int) = 44) : okQ b = true := by
  unfold okQ
  simp only [Bool.and_eq_true, decide_eq_true_eq, Bool.not_eq_true', decide_eq_false_iff_not]
  refine ⟨⟨UInt8.le_iff_toNat_le.2 (by have : (32 : UInt8).toNat = 32 := rfl; omega), fun h3 => h1 (by rw [h3]; rfl)⟩, fun h3 => h2 (by rw [h3]; rfl)⟩
theorem conv_rd8 {w1 : World} {g : Nat} {l : List UInt8} (hg : g < w1.heap.size) (h : ∀ j, j < (bs l).size → w1.cell? ⟨g, j, none⟩ = some (.int .u8 ((bs l).data.toList.getD j 0).toNat)) : Rd8 (fun k => w1.heap.size ≤ k) w1 (some ⟨g, 0, none⟩) l := fun i hi => by
  refine ⟨_, rfl, by show ¬ _ ≤ g; omega, ?_⟩
  rw [Addr.add_lit, Nat.zero_add, h i (by rw [bs_size]; exact hi), bs_list, List.getD_eq_getElem?_getD, List.getElem?_eq_getElem hi]
  rfl
theorem t1_is (O : List UInt8) : (⟨#[97, 10]⟩ ++ bs O ++ ⟨#[10, 120, 10]⟩ : ByteArray) = bs (t1Q O) := by
  rw [← bs_of (_ ++ _)]
  simp [t1Q, bs, ByteArray.data_append]
theorem t2_is (O : List UInt8) : (⟨#[97, 10, 34]⟩ ++ bs O ++ ⟨#[34, 10, 120, 10]⟩ : ByteArray) = bs (t2Q O) := by
  rw [← bs_of (_ ++ _)]
  simp [t2Q, bs, ByteArray.data_append]
set_option maxHeartbeats 16000000 in
set_option maxRecDepth 100000 in
theorem law_DelimQuotes (a : Option Addr) (len cap : Nat) (zs : List Int) {w : World} (hr : IsRow .u8 w a len cap zs) (_hx : len * 1 ≤ 140737488351232) :
    Calls Try.prog 7 #[.slice a len cap] w fun e w' => e = .returned (.bool true) ∧ Below w.heap.size w w' := by
  obtain ⟨L, hL, hR, hlc, hcm⟩ := row_bytes hr
  have HR := Aside0.mk hR
  have HL := Aside0.mk hL
  have HLN := Aside0.mk _hx
  clear hr hR hlc hcm hL _hx
  go_enter Try.func7, Try.ntmps7
  go_wp2
  go_loopg [3, 4] 41 (fun gk v3 v4 wr => ∃ (i : Nat), v4 = .int .i64 i ∧ Aside0 (i ≤ 40) ∧ Aside0 (i ≤ len) ∧ Aside0 (40 - i < gk) ∧ Aside0 (Row (fun k => w.heap.size ≤ k) wr 5 1 v3 (owI L i).length (u8C (owI L i))) ∧ Aside0 (Below w.heap.size w wr))
  case atStart => exact ⟨0, rfl, ⟨Nat.zero_le _⟩, ⟨Nat.zero_le _⟩, ⟨by omega⟩, ⟨Row.nil _ _ _ _⟩, ⟨Below.refl _ _⟩⟩
  case round =>
    obtain ⟨i, rfl, P1, P0, P2, P3, P4⟩ := hrel
    cases gk with
    | zero => exact absurd P2.out (by omega)
    | succ k1 =>
    have hp1 := P1.out
    have hp0 := P0.out
    have hln := HLN.out
    have tw : wrap64 ((i : Int) + 1) = (i : Int) + 1 := w64 (by omega) (by omega)
    obtain ⟨A3, c3, hv3, _, _⟩ := P3.out.slice
    subst hv3
    by_cases hlt : i < len
    · have t1 : decide ((i : Int) < (len : Int)) = true := decide_eq_true (by omega)
      have t2 : decide (i < len) = true := decide_eq_true hlt
      by_cases h40 : i < 40
      · have t3 : decide ((i : Int) < 40) = true := decide_eq_true (by omega)
        have hiL : i < L.length := by rw [HL.out]; exact hlt
        obtain ⟨ad, had, _, d0⟩ := (HR.out.ch (Ch.of_below P4.out : Ch allT (fun k => w.heap.size ≤ k) w wr)) i hiL
        subst had
        have HI := Aside0.mk hiL
        obtain ⟨x, hx⟩ : ∃ x : Int, (L[i].toNat : Int) = x := ⟨_, rfl⟩
        rw [hx] at d0
        have HX := Aside0.mk hx
        have hx0 : 0 ≤ x ∧ x ≤ 255 := by have := L[i].toNat_lt; omega
        obtain ⟨hx1, hx2⟩ := hx0
        have hy0 : (0 : Int) ≤ (i : Int) := by omega
        have H40 := Aside0.mk h40
        clear hx h40
        have no (h : x < 32 ∨ x = 34 ∨ x = 44) : Row (fun k => w.heap.size ≤ k) wr 5 1 (.slice A3 (owI L i).length c3) (owI L (i + 1)).length (u8C (owI L (i + 1))) := by
          rw [owI_no HI.out (okQ_no (by rw [HX.out]; exact h))]; exact P3.out
        have NO := Aside0.mk no
        clear no
        by_cases h32 : x < 32
        · have u1 : decide (32 ≤ x) = false := decide_eq_false (by omega)
          have N1 := Aside0.mk (NO.out (.inl h32))
          clear h32
          go_wp2
          go_roundg k1
          case measure => have := P2.out; have := H40.out; omega
          case rel => exact ⟨i + 1, by go_num, ⟨by have := H40.out; omega⟩, ⟨by omega⟩, ⟨by have := P2.out; have := H40.out; omega⟩, N1, P4⟩
        · have u1 : decide (32 ≤ x) = true := decide_eq_true (by omega)
          by_cases h34 : x = 34
          · have N1 := Aside0.mk (NO.out (.inr (.inl h34)))
            clear h32
            subst h34
            go_wp2
            go_roundg k1
            case measure => have := P2.out; have := H40.out; omega
            case rel => exact ⟨i + 1, by go_num, ⟨by have := H40.out; omega⟩, ⟨by omega⟩, ⟨by have := P2.out; have := H40.out; omega⟩, N1, P4⟩
          · have n34 : (x == 34) = false := by rw [beq_eq_false_iff_ne]; exact h34
            have m34 : decide (x = 34) = false := decide_eq_false h34
            have o34 : (x != 34) = true := by rw [bne_iff_ne]; exact h34
            by_cases h44 : x = 44
            · have N1 := Aside0.mk (NO.out (.inr (.inr h44)))
              clear h32 h34
              subst h44
              go_wp2
              go_roundg k1
              case measure => have := P2.out; have := H40.out; omega
              case rel => exact ⟨i + 1, by go_num, ⟨by have := H40.out; omega⟩, ⟨by omega⟩, ⟨by have := P2.out; have := H40.out; omega⟩, N1, P4⟩
            · have n44 : (x == 44) = false := by rw [beq_eq_false_iff_ne]; exact h44
              have m44 : decide (x = 44) = false := decide_eq_false h44
              have o44 : (x != 44) = true := by rw [bne_iff_ne]; exact h44
              have HY := Aside0.mk (owI_yes HI.out (okQ_yes (by rw [HX.out]; exact h32) (by rw [HX.out]; exact h34) (by rw [HX.out]; exact h44)))
              have HLN2 := Aside0.mk (owI_len L i)
              clear h32 h34 h44
              go_wp2_with ((with_reducible refine gate_builtin (b := .append) (xs := #[.tmp 41, .tmp 46]) rfl ?_); at_builtin; refine row_append rfl (.tmp 41) (.tmp 46) 22 5 (.int .u8 0) 1 1 rfl Try.underlying22 infoU8 rfl (by decide) _ (owI L i).length (u8C (owI L i)) [.int .u8 x] rfl rfl rfl (by simp [Value.oneCell']) P3.out (by have := HLN2.out; omega) (by have := HLN2.out; unfold maxLen; omega) ?_; intro v5 w5 hr5 hc5; have R5 := Aside0.mk hr5; have C5 := Aside0.mk hc5; clear hr5 hc5)
              go_roundg k1
              case measure => have := P2.out; have := H40.out; omega
              case rel => exact ⟨i + 1, by go_num, ⟨by have := H40.out; omega⟩, ⟨by omega⟩, ⟨by have := P2.out; have := H40.out; omega⟩, ⟨by rw [HY.out, u8C_one, List.length_append, List.length_singleton, HX.out]; exact R5.out.mono (fun k hk => by rcases hk with hk | hk; exact hk; exact Nat.le_trans P4.out.size hk)⟩, ⟨P4.out.trans (C5.out.below (fun _ h => h) P4.out.size)⟩⟩
      · have t3 : decide ((i : Int) < 40) = false := decide_eq_false (by omega)
        have HO := Aside0.mk (owI_end (L := L) hp1 (.inl (by omega)))
        clear h40 hlt hp1 hp0 hln P2
        have hol := ownQ_len L
        have hok := ownQ_ok L
        rw [← HO.out] at hol hok
        obtain ⟨O, hO⟩ : ∃ O, owI L i = O := ⟨_, rfl⟩
        rw [hO] at P3 hol hok ⊢
        have HOL := Aside0.mk hol
        have HOK := Aside0.mk hok
        clear hO HO hol hok
        have HLL := Aside0.mk (show (t1Q O).length = O.length + 5 ∧ (t2Q O).length = O.length + 7 by unfold t1Q t2Q; simp)
        have HS := Aside0.mk (quotes_same O HOK.out HOL.out)
        have V3 := Aside0.mk P3.out.bound
        have hwr := P4.out.size
        have HWR := Aside0.mk hwr
        have hbz : (bs O).size ≤ 40 := by rw [bs_size]; exact HOL.out
        clear hwr
        go_wp2_with (first
          | ((with_reducible refine gate_dst (N := 50) rfl ?_); refine rowstr_event rfl rfl rfl Try.underlying22 Try.underlying5 Try.underlying9 V3.out ?_)
          | (rw [t1_is]; refine conv_event rfl (N := 53) rfl (s := bs (t1Q O)) rfl rfl Try.underlying9 Try.underlying22 Try.underlying5 ?_; intro g5 c5 w5 hg5 hcc5 hb5; rw [bs_size]; have B5 := Aside0.mk hb5; have G5 := Aside0.mk hcc5; have GL5 := Aside0.mk hg5; clear hg5 hcc5 hb5)
          )
        have RD5 := Aside0.mk (conv_rd8 (l := t1Q O) (w1 := w5) (g := g5) (World.block_lt_of_cell? w5 _ (G5.out 0 (by rw [bs_size]; have := HLL.out; omega))) G5.out)
        have V5 := Aside0.mk (V3.out.below B5.out)
        refine (decode_calls (l := t1Q O) (by have := HLL.out; have := HOL.out; omega) RD5.out).mono ?_
        rintro e w6 ⟨v6, rfl, hv6, hc6⟩
        have V6 := Aside0.mk (V5.out.far hc6 (fun k hk hg => by have := hk.2; have := B5.out.size; have h2 : w5.heap.size ≤ k := hg; omega))
        have C6 := Aside0.mk hc6
        have Q6 := Aside0.mk hv6.bound
        clear hv6 hc6 RD5 G5 GL5
        rcases HS.out with ⟨e1, e2⟩ | ⟨e1, e2, q1, q2⟩
        · have E1 := Aside0.mk e1
          have E2 := Aside0.mk e2
          clear e1 e2
          rw [show (closeD (feedD DS.new (t1Q O))).c.err = 3 from E1.out]
          obtain ⟨A6, n6, hvs6, _, _⟩ := Q6.out.slice
          subst hvs6
          go_wp2_with (first
            | ((with_reducible refine gate_dst (N := 60) rfl ?_); refine rowstr_event rfl rfl rfl Try.underlying22 Try.underlying5 Try.underlying9 V6.out ?_)
            | (rw [t2_is]; refine conv_event rfl (N := 63) rfl (s := bs (t2Q O)) rfl rfl Try.underlying9 Try.underlying22 Try.underlying5 ?_; intro g7 c7 w7 hg7 hcc7 hb7; rw [bs_size]; have B7 := Aside0.mk hb7; have G7 := Aside0.mk hcc7; clear hg7 hcc7 hb7))
          have RD7 := Aside0.mk (conv_rd8 (l := t2Q O) (w1 := w7) (g := g7) (World.block_lt_of_cell? w7 _ (G7.out 0 (by rw [bs_size]; have := HLL.out; omega))) G7.out)
          refine (decode_calls (l := t2Q O) (by have := HLL.out; have := HOL.out; omega) RD7.out).mono ?_
          rintro e w8 ⟨v8, rfl, hv8, hc8⟩
          have C8 := Aside0.mk hc8
          obtain ⟨A8, n8, hvs8, _, _⟩ := hv8.slice
          subst hvs8
          clear hv8 hc8 RD7 G7
          rw [show (closeD (feedD DS.new (t2Q O))).c.err = 3 from E2.out]
          go_wp2_with (go_at_call 16; refine (lives_calls _).mono ?_; rintro e w9 ⟨rfl, hw9⟩; have W9 := Aside0.mk hw9; clear hw9)
          go_ret
          have z1 := P4.out.size
          have z2 := B5.out.size
          have z3 := C6.out.size
          have z4 := B7.out.size
          have z5 := C8.out.size
          exact ⟨rfl, (((P4.out.trans (B5.out.mono z1)).trans (C6.out.below (B := w.heap.size) (fun k hk => by have h2 : w5.heap.size ≤ k := hk; omega) (by omega))).trans (B7.out.mono (by omega))).trans ((C8.out.below (B := w.heap.size) (fun k hk => by have h2 : w7.heap.size ≤ k := hk; omega) (by omega)).trans (W9.out.mono (by omega)))⟩
        · have E1 := Aside0.mk e1
          have E2 := Aside0.mk e2
          have D1 := Aside0.mk q1
          have D2 := Aside0.mk q2
          clear e1 e2 q1 q2
          rw [show (closeD (feedD DS.new (t1Q O))).c.q = quoQ O from D1.out] at Q6
          rw [show (closeD (feedD DS.new (t1Q O))).c.err = 0 from E1.out]
          obtain ⟨b6, o6, n6, hvs6, hn6, _, hcell6, _⟩ := Q6.out.open_ (by show ¬ (10 = 0); decide)
          subst hvs6
          have HN6 := Aside0.mk hn6
          clear hcell6 hn6
          go_wp2_with (first
            | ((with_reducible refine gate_dst (N := 60) rfl ?_); refine rowstr_event rfl rfl rfl Try.underlying22 Try.underlying5 Try.underlying9 V6.out ?_)
            | (rw [t2_is]; refine conv_event rfl (N := 63) rfl (s := bs (t2Q O)) rfl rfl Try.underlying9 Try.underlying22 Try.underlying5 ?_; intro g7 c7 w7 hg7 hcc7 hb7; rw [bs_size]; have B7 := Aside0.mk hb7; have G7 := Aside0.mk hcc7; clear hg7 hcc7 hb7))
          have RD7 := Aside0.mk (conv_rd8 (l := t2Q O) (w1 := w7) (g := g7) (World.block_lt_of_cell? w7 _ (G7.out 0 (by rw [bs_size]; have := HLL.out; omega))) G7.out)
          have V7 := Aside0.mk (V6.out.below B7.out)
          have Q7 := Aside0.mk (Q6.out.below B7.out)
          refine (decode_calls (l := t2Q O) (by have := HLL.out; have := HOL.out; omega) RD7.out).mono ?_
          rintro e w8 ⟨v8, rfl, hv8, hc8⟩
          have C8 := Aside0.mk hc8
          have V8 := Aside0.mk (V7.out.far hc8 (fun k hk hg => by have := hk.2; have := B5.out.size; have := C6.out.size; have := B7.out.size; have h2 : w7.heap.size ≤ k := hg; omega))
          have Q8 := Aside0.mk (Q7.out.far hc8 (fun k hk hg => by have := hk.2; have := B7.out.size; have h2 : w7.heap.size ≤ k := hg; omega))
          rw [show (closeD (feedD DS.new (t2Q O))).c.q = quoQ O from D2.out] at hv8
          rw [show (closeD (feedD DS.new (t2Q O))).c.err = 0 from E2.out]
          have R8 := Aside0.mk hv8
          obtain ⟨A8, n8, hvs8, _, _⟩ := hv8.slice
          subst hvs8
          clear hv8 hc8 RD7 G7
          go_wp2_with (go_at_call 13; refine (same_k (l := quoQ O) rfl rfl Q8.out R8.out (by show (10 : Nat) ≤ 1000000; decide)).mono ?_; rintro e w9 ⟨rfl, hw9⟩; have W9 := Aside0.mk hw9.below; clear hw9)
          have V9 := Aside0.mk (V8.out.below W9.out)
          have Q9 := Aside0.mk (Q8.out.below W9.out)
          obtain ⟨b9, o9, n9, hvs9, _, _, hcell9, _⟩ := Q9.out.open_ (by show ¬ (10 = 0); decide)
          injection hvs9 with f1 f2 f3
          injection f1 with f1
          injection f1 with f1 f4
          subst f1; subst f4; subst f3
          have x1 : w9.cell? ⟨b6, o6 + 10, none⟩ = some (.string (bs O)) := hcell9 10 _ rfl
          have hcv := string_of_reads (c := c3) (src := 22) (dst := 9) Try.underlying22 Try.underlying5 Try.underlying9 (V9.out.below (below_drew (Below.refl w9.heap.size w9))).reads8
          rw [bnums_bs] at hcv
          have HSQ := seq_true (rfl : bs O = bs O)
          have HSD := sdec_true (rfl : bs O = bs O)
          clear hcell9 f2
          have hql : (quoQ O).length = 10 := rfl
          rw [hql]
          clear hql
          have hn10 := HN6.out
          rw [show (quoQ O).length = 10 from rfl] at hn10
          refine wp_region_still_tail 20 (by kernel_rfl) (by kernel_rfl) ?_
          simp only [List.take_succ_cons, List.take_zero, List.drop_succ_cons, List.drop_zero]
          iterate 20 still_step
          refine wpStill_nil ?_
          change wpList _ _ _ _ _ w9.drew
          have DB := Aside0.mk (below_drew (Below.refl w9.heap.size w9))
          clear x1 hcv
          generalize w9.drew = wd at DB ⊢
          go_wp2_with (go_at_call 16; refine (lives_calls _).mono ?_; rintro e wl ⟨rfl, hwl⟩; have WL := Aside0.mk hwl; clear hwl)
          go_ret
          have z1 := P4.out.size
          have z2 := B5.out.size
          have z3 := C6.out.size
          have z4 := B7.out.size
          have z5 := C8.out.size
          have z6 := W9.out.size
          have z7 := DB.out.size
          exact ⟨rfl, (((P4.out.trans (B5.out.mono z1)).trans (C6.out.below (B := w.heap.size) (fun k hk => by have h2 : w5.heap.size ≤ k := hk; omega) (by omega))).trans (B7.out.mono (by omega))).trans ((C8.out.below (B := w.heap.size) (fun k hk => by have h2 : w7.heap.size ≤ k := hk; omega) (by omega)).trans (((W9.out.mono (by omega)).trans (DB.out.mono (by omega))).trans (WL.out.mono (by omega))))⟩
    · have t1 : decide ((i : Int) < (len : Int)) = false := decide_eq_false (by omega)
      have t2 : decide (i < len) = false := decide_eq_false hlt
      have HO := Aside0.mk (owI_end (L := L) hp1 (.inr (by rw [HL.out]; omega)))
      clear hlt hp1 hp0 hln P2
      have hol := ownQ_len L
      have hok := ownQ_ok L
      rw [← HO.out] at hol hok
      obtain ⟨O, hO⟩ : ∃ O, owI L i = O := ⟨_, rfl⟩
      rw [hO] at P3 hol hok ⊢
      have HOL := Aside0.mk hol
      have HOK := Aside0.mk hok
      clear hO HO hol hok
      have HLL := Aside0.mk (show (t1Q O).length = O.length + 5 ∧ (t2Q O).length = O.length + 7 by unfold t1Q t2Q; simp)
      have HS := Aside0.mk (quotes_same O HOK.out HOL.out)
      have V3 := Aside0.mk P3.out.bound
      have hwr := P4.out.size
      have HWR := Aside0.mk hwr
      have hbz : (bs O).size ≤ 40 := by rw [bs_size]; exact HOL.out
      clear hwr
      go_wp2_with (first
        | ((with_reducible refine gate_dst (N := 50) rfl ?_); refine rowstr_event rfl rfl rfl Try.underlying22 Try.underlying5 Try.underlying9 V3.out ?_)
        | (rw [t1_is]; refine conv_event rfl (N := 53) rfl (s := bs (t1Q O)) rfl rfl Try.underlying9 Try.underlying22 Try.underlying5 ?_; intro g5 c5 w5 hg5 hcc5 hb5; rw [bs_size]; have B5 := Aside0.mk hb5; have G5 := Aside0.mk hcc5; have GL5 := Aside0.mk hg5; clear hg5 hcc5 hb5)
        )
      have RD5 := Aside0.mk (conv_rd8 (l := t1Q O) (w1 := w5) (g := g5) (World.block_lt_of_cell? w5 _ (G5.out 0 (by rw [bs_size]; have := HLL.out; omega))) G5.out)
      have V5 := Aside0.mk (V3.out.below B5.out)
      refine (decode_calls (l := t1Q O) (by have := HLL.out; have := HOL.out; omega) RD5.out).mono ?_
      rintro e w6 ⟨v6, rfl, hv6, hc6⟩
      have V6 := Aside0.mk (V5.out.far hc6 (fun k hk hg => by have := hk.2; have := B5.out.size; have h2 : w5.heap.size ≤ k := hg; omega))
      have C6 := Aside0.mk hc6
      have Q6 := Aside0.mk hv6.bound
      clear hv6 hc6 RD5 G5 GL5
      rcases HS.out with ⟨e1, e2⟩ | ⟨e1, e2, q1, q2⟩
      · have E1 := Aside0.mk e1
        have E2 := Aside0.mk e2
        clear e1 e2
        rw [show (closeD (feedD DS.new (t1Q O))).c.err = 3 from E1.out]
        obtain ⟨A6, n6, hvs6, _, _⟩ := Q6.out.slice
        subst hvs6
        go_wp2_with (first
          | ((with_reducible refine gate_dst (N := 60) rfl ?_); refine rowstr_event rfl rfl rfl Try.underlying22 Try.underlying5 Try.underlying9 V6.out ?_)
          | (rw [t2_is]; refine conv_event rfl (N := 63) rfl (s := bs (t2Q O)) rfl rfl Try.underlying9 Try.underlying22 Try.underlying5 ?_; intro g7 c7 w7 hg7 hcc7 hb7; rw [bs_size]; have B7 := Aside0.mk hb7; have G7 := Aside0.mk hcc7; clear hg7 hcc7 hb7))
        have RD7 := Aside0.mk (conv_rd8 (l := t2Q O) (w1 := w7) (g := g7) (World.block_lt_of_cell? w7 _ (G7.out 0 (by rw [bs_size]; have := HLL.out; omega))) G7.out)
        refine (decode_calls (l := t2Q O) (by have := HLL.out; have := HOL.out; omega) RD7.out).mono ?_
        rintro e w8 ⟨v8, rfl, hv8, hc8⟩
        have C8 := Aside0.mk hc8
        obtain ⟨A8, n8, hvs8, _, _⟩ := hv8.slice
        subst hvs8
        clear hv8 hc8 RD7 G7
        rw [show (closeD (feedD DS.new (t2Q O))).c.err = 3 from E2.out]
        go_wp2_with (go_at_call 16; refine (lives_calls _).mono ?_; rintro e w9 ⟨rfl, hw9⟩; have W9 := Aside0.mk hw9; clear hw9)
        go_ret
        have z1 := P4.out.size
        have z2 := B5.out.size
        have z3 := C6.out.size
        have z4 := B7.out.size
        have z5 := C8.out.size
        exact ⟨rfl, (((P4.out.trans (B5.out.mono z1)).trans (C6.out.below (B := w.heap.size) (fun k hk => by have h2 : w5.heap.size ≤ k := hk; omega) (by omega))).trans (B7.out.mono (by omega))).trans ((C8.out.below (B := w.heap.size) (fun k hk => by have h2 : w7.heap.size ≤ k := hk; omega) (by omega)).trans (W9.out.mono (by omega)))⟩
      · have E1 := Aside0.mk e1
        have E2 := Aside0.mk e2
        have D1 := Aside0.mk q1
        have D2 := Aside0.mk q2
        clear e1 e2 q1 q2
        rw [show (closeD (feedD DS.new (t1Q O))).c.q = quoQ O from D1.out] at Q6
        rw [show (closeD (feedD DS.new (t1Q O))).c.err = 0 from E1.out]
        obtain ⟨b6, o6, n6, hvs6, hn6, _, hcell6, _⟩ := Q6.out.open_ (by show ¬ (10 = 0); decide)
        subst hvs6
        have HN6 := Aside0.mk hn6
        clear hcell6 hn6
        go_wp2_with (first
          | ((with_reducible refine gate_dst (N := 60) rfl ?_); refine rowstr_event rfl rfl rfl Try.underlying22 Try.underlying5 Try.underlying9 V6.out ?_)
          | (rw [t2_is]; refine conv_event rfl (N := 63) rfl (s := bs (t2Q O)) rfl rfl Try.underlying9 Try.underlying22 Try.underlying5 ?_; intro g7 c7 w7 hg7 hcc7 hb7; rw [bs_size]; have B7 := Aside0.mk hb7; have G7 := Aside0.mk hcc7; clear hg7 hcc7 hb7))
        have RD7 := Aside0.mk (conv_rd8 (l := t2Q O) (w1 := w7) (g := g7) (World.block_lt_of_cell? w7 _ (G7.out 0 (by rw [bs_size]; have := HLL.out; omega))) G7.out)
        have V7 := Aside0.mk (V6.out.below B7.out)
        have Q7 := Aside0.mk (Q6.out.below B7.out)
        refine (decode_calls (l := t2Q O) (by have := HLL.out; have := HOL.out; omega) RD7.out).mono ?_
        rintro e w8 ⟨v8, rfl, hv8, hc8⟩
        have C8 := Aside0.mk hc8
        have V8 := Aside0.mk (V7.out.far hc8 (fun k hk hg => by have := hk.2; have := B5.out.size; have := C6.out.size; have := B7.out.size; have h2 : w7.heap.size ≤ k := hg; omega))
        have Q8 := Aside0.mk (Q7.out.far hc8 (fun k hk hg => by have := hk.2; have := B7.out.size; have h2 : w7.heap.size ≤ k := hg; omega))
        rw [show (closeD (feedD DS.new (t2Q O))).c.q = quoQ O from D2.out] at hv8
        rw [show (closeD (feedD DS.new (t2Q O))).c.err = 0 from E2.out]
        have R8 := Aside0.mk hv8
        obtain ⟨A8, n8, hvs8, _, _⟩ := hv8.slice
        subst hvs8
        clear hv8 hc8 RD7 G7
        go_wp2_with (go_at_call 13; refine (same_k (l := quoQ O) rfl rfl Q8.out R8.out (by show (10 : Nat) ≤ 1000000; decide)).mono ?_; rintro e w9 ⟨rfl, hw9⟩; have W9 := Aside0.mk hw9.below; clear hw9)
        have V9 := Aside0.mk (V8.out.below W9.out)
        have Q9 := Aside0.mk (Q8.out.below W9.out)
        obtain ⟨b9, o9, n9, hvs9, _, _, hcell9, _⟩ := Q9.out.open_ (by show ¬ (10 = 0); decide)
        injection hvs9 with f1 f2 f3
        injection f1 with f1
        injection f1 with f1 f4
        subst f1; subst f4; subst f3
        have x1 : w9.cell? ⟨b6, o6 + 10, none⟩ = some (.string (bs O)) := hcell9 10 _ rfl
        have hcv := string_of_reads (c := c3) (src := 22) (dst := 9) Try.underlying22 Try.underlying5 Try.underlying9 (V9.out.below (below_drew (Below.refl w9.heap.size w9))).reads8
        rw [bnums_bs] at hcv
        have HSQ := seq_true (rfl : bs O = bs O)
        have HSD := sdec_true (rfl : bs O = bs O)
        clear hcell9 f2
        have hql : (quoQ O).length = 10 := rfl
        rw [hql]
        clear hql
        have hn10 := HN6.out
        rw [show (quoQ O).length = 10 from rfl] at hn10
        refine wp_region_still_tail 20 (by kernel_rfl) (by kernel_rfl) ?_
        simp only [List.take_succ_cons, List.take_zero, List.drop_succ_cons, List.drop_zero]
        iterate 20 still_step
        refine wpStill_nil ?_
        change wpList _ _ _ _ _ w9.drew
        have DB := Aside0.mk (below_drew (Below.refl w9.heap.size w9))
        clear x1 hcv
        generalize w9.drew = wd at DB ⊢
        go_wp2_with (go_at_call 16; refine (lives_calls _).mono ?_; rintro e wl ⟨rfl, hwl⟩; have WL := Aside0.mk hwl; clear hwl)
        go_ret
        have z1 := P4.out.size
        have z2 := B5.out.size
        have z3 := C6.out.size
        have z4 := B7.out.size
        have z5 := C8.out.size
        have z6 := W9.out.size
        have z7 := DB.out.size
        exact ⟨rfl, (((P4.out.trans (B5.out.mono z1)).trans (C6.out.below (B := w.heap.size) (fun k hk => by have h2 : w5.heap.size ≤ k := hk; omega) (by omega))).trans (B7.out.mono (by omega))).trans ((C8.out.below (B := w.heap.size) (fun k hk => by have h2 : w7.heap.size ≤ k := hk; omega) (by omega)).trans (((W9.out.mono (by omega)).trans (DB.out.mono (by omega))).trans (WL.out.mono (by omega))))⟩
end Go.Proofs.Ytalaedpiimdcbaa.Lw
