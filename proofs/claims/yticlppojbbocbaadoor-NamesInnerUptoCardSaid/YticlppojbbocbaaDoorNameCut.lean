/- names.Cut and names.Join, walked. -/
import Derived.Test.YticlppojbbocbaaDoorNameSpace
import Derived.Test.YticlppojbbocbaaDoorNamesP
import Derived.Test.YticlppojbbocbaaDoorOwnStr
import Derived.Deep.QuietTactic
import Derived.BigQuiet
import Derived.IntWalk
namespace Go.Proofs.YticlppojbbocbaaDoor.Nm
open Go Go.Lib Go.Shelf Go.RowKit Go.Proofs.YticlppojbbocbaaDoorW.PrintWords Go.Proofs.YticlppojbbocbaaDoorW.PrintLast Go.Proofs.YticlppojbbocbaaDoor.Own Go.Proofs.YticlppojbbocbaaDoor.Srcw Go.Proofs.YticlppojbbocbaaDoor.Tab
set_option linter.unusedVariables false
set_option linter.unusedSimpArgs false
def str (l : List UInt8) : ByteArray := ⟨l.toArray⟩
theorem str_list (l : List UInt8) : (str l).data.toList = l := by simp [str]
theorem str_of (s : ByteArray) : str s.data.toList = s := by cases s; simp [str]
theorem str_size (l : List UInt8) : (str l).size = l.length := by simp [str, ByteArray.size]
theorem str_inj {a b : List UInt8} (h : str a = str b) : a = b := by rw [← str_list a, h, str_list]
theorem take_str (s : ByteArray) (k : Nat) : s.extract 0 k = str (s.data.toList.take k) := by
  have h : (s.extract 0 k).data.toList = s.data.toList.take k := by
    rw [ByteArray.data_extract, Array.toList_extract, List.extract_eq_take_drop]
    simp
  rw [← h, str_of]
theorem drop_str (s : ByteArray) (k : Nat) : s.extract k s.size = str (s.data.toList.drop k) := by
  have h : (s.extract k s.size).data.toList = s.data.toList.drop k := by
    rw [ByteArray.data_extract, Array.toList_extract, List.extract_eq_take_drop, List.take_of_length_le]
    rw [List.length_drop, size_data]; exact Nat.le_refl _
  rw [← h, str_of]

set_option maxHeartbeats 2000000 in
set_option maxRecDepth 100000 in
theorem lite_calls (s : ByteArray) (hs : s.size ≤ 140737488355328) (c : UInt8) (w : World) : Calls Tryd.prog 37 #[.string s, .string ⟨#[c]⟩] w fun e w' => e = .returned (if 0 ≤ indexByte s.data.toList c then .tuple #[.string (str (s.data.toList.take (indexByte s.data.toList c).toNat)), .string (str (s.data.toList.drop ((indexByte s.data.toList c).toNat + 1))), .bool true] else .tuple #[.string s, .string ⟨#[]⟩, .bool false]) ∧ Below w.heap.size w w' := by
  have HC := Aside0.mk (Tryd.stringslite_Index_one s c)
  have hge := indexByte_ge s.data.toList c
  have hlt : indexByte s.data.toList c < (s.size : Int) ∨ indexByte s.data.toList c < 0 := by
    by_cases h : 0 ≤ indexByte s.data.toList c
    · obtain ⟨k, hk⟩ := Int.eq_ofNat_of_zero_le h
      obtain ⟨h1, _⟩ := indexByte_some hk
      obtain ⟨hl, _⟩ := List.getElem?_eq_some_iff.1 h1
      rw [size_data] at hl
      left; omega
    · right; omega
  generalize indexByte s.data.toList c = v at HC hge hlt ⊢
  by_cases hv : 0 ≤ v
  · rw [if_pos hv]
    obtain ⟨k, rfl⟩ := Int.eq_ofNat_of_zero_le hv
    have hk : k < s.size := by omega
    have t1 : decide ((0 : Int) ≤ (k : Int)) = true := decide_eq_true (by omega)
    clear hge hlt hv
    go_enter Tryd.func37, Tryd.ntmps37
    go_wp2_with fail
    refine (HC.out _).mono ?_
    rintro e w1 ⟨rfl, rfl⟩
    go_wp2_with fail
    have e1 : IntKind.i64.wrap ((k : Int) + 1) = (k : Int) + 1 := Go.IntWalk.i64_in _ (by omega)
    have e2 : (0 : Int) ≤ (k : Int) + 1 := by omega
    have e3 : ((k : Int) + 1).toNat = k + 1 := by omega
    have e4 : (k : Int) + 1 ≤ (s.size : Int) := by omega
    have e5 : (k : Int) ≤ (s.size : Int) := by omega
    go_quiet (fail)
    go_wp2
    go_ret3
    rw [Int.toNat_natCast]
    exact ⟨by rw [← take_str, ← drop_str]; rfl, pw_below_drewN (Below.refl _ _) _⟩
  · rw [if_neg hv]
    have t1 : decide ((0 : Int) ≤ v) = false := decide_eq_false hv
    clear hge hlt hv
    go_enter Tryd.func37, Tryd.ntmps37
    go_wp2_with fail
    refine (HC.out _).mono ?_
    rintro e w1 ⟨rfl, rfl⟩
    go_wp2
    go_ret3
    exact ⟨rfl, Below.refl _ _⟩

set_option maxHeartbeats 2000000 in
set_option maxRecDepth 100000 in
theorem scut_calls (s : ByteArray) (hs : s.size ≤ 140737488355328) (c : UInt8) (w : World) : Calls Tryd.prog 26 #[.string s, .string ⟨#[c]⟩] w fun e w' => e = .returned (if 0 ≤ indexByte s.data.toList c then .tuple #[.string (str (s.data.toList.take (indexByte s.data.toList c).toNat)), .string (str (s.data.toList.drop ((indexByte s.data.toList c).toNat + 1))), .bool true] else .tuple #[.string s, .string ⟨#[]⟩, .bool false]) ∧ Below w.heap.size w w' := by
  have HC := Aside0.mk (lite_calls s hs c w)
  clear hs
  by_cases hv : 0 ≤ indexByte s.data.toList c
  · rw [if_pos hv] at HC ⊢
    generalize indexByte s.data.toList c = v at HC ⊢
    clear hv
    go_enter Tryd.func26, Tryd.ntmps26
    go_wp2_with fail
    refine HC.out.mono ?_
    rintro e w1 ⟨rfl, hb⟩
    go_wp2
    go_ret3
    exact ⟨rfl, hb⟩
  · rw [if_neg hv] at HC ⊢
    clear hv
    go_enter Tryd.func26, Tryd.ntmps26
    go_wp2_with fail
    refine HC.out.mono ?_
    rintro e w1 ⟨rfl, hb⟩
    go_wp2
    go_ret3
    exact ⟨rfl, hb⟩

def CutPost (l : List UInt8) (w : World) (e : Ending) (w' : World) : Prop := ∃ (a b : ByteArray) (c : Bool), e = .returned (.tuple #[.string a, .string b, .bool c]) ∧ (a = str (cutL l).1 ∧ b = str (cutL l).2.1 ∧ c = (cutL l).2.2) ∧ Below w.heap.size w w'
theorem cut_post {l a b : List UInt8} {c : Bool} {w w' : World} (h : cutL l = (a, b, c)) (hb : Below w.heap.size w w') : CutPost l w (.returned (.tuple #[.string (str a), .string (str b), .bool c])) w' :=
  ⟨_, _, _, rfl, by rw [h]; exact ⟨rfl, rfl, rfl⟩, hb⟩
theorem prefix_calls (s : ByteArray) (w : World) : Calls Tryd.prog 25 #[.string s, .string ⟨#[123]⟩] w fun e w' => e = .returned (if s.data.toList.head? = some 123 then .tuple #[.string (str (s.data.toList.drop 1)), .bool true] else .tuple #[.string s, .bool false]) ∧ w' = w := by
  refine (Tryd.strings_CutPrefix s ⟨#[123]⟩ w).mono ?_
  rintro e w' ⟨rfl, rfl⟩
  refine ⟨?_, rfl⟩
  have hp : hasPrefix s.data.toList [123] = decide (s.data.toList.head? = some 123) := by
    cases s.data.toList with
    | nil => rfl
    | cons x r =>
      show ((123 : UInt8) == x && ([] : List UInt8).isPrefixOf r) = _
      rw [show ([] : List UInt8).isPrefixOf r = true from by cases r <;> rfl, Bool.and_true]
      simp only [List.head?_cons, Option.some.injEq]
      rw [Bool.eq_iff_iff, beq_iff_eq, decide_eq_true_iff]
      exact eq_comm
  show Ending.returned (.tuple #[.string ⟨(trimPrefix s.data.toList [123]).toArray⟩, .bool (hasPrefix s.data.toList [123])]) = _
  unfold trimPrefix
  rw [hp]
  by_cases h : s.data.toList.head? = some 123
  · rw [if_pos h, if_pos (by simp [h]), decide_eq_true h]
    try rfl
  · rw [if_neg h, if_neg (by simp [h]), decide_eq_false h]
    try (rw [str_of])

set_option maxHeartbeats 4000000 in
set_option maxRecDepth 100000 in
theorem cut_calls (s : ByteArray) (w : World) (hs : s.size < 17592186044416) (hT : Tabs w) : Calls Tryd.prog 9 #[.string s] w (CutPost s.data.toList w) := by
  have HT := Aside0.mk hT
  have HS := Aside0.mk hs
  have HL := Aside0.mk (size_data s)
  have HP := Aside0.mk (prefix_calls s)
  clear hT hs
  by_cases hh : s.data.toList.head? = some 123
  · have hcut := cut_brace hh
    rw [if_pos hh] at HP
    have hrl : (str (s.data.toList.drop 1)).data.toList = s.data.toList.drop 1 := str_list _
    have HRS := Aside0.mk (show (s.data.toList.drop 1).length < 17592186044416 by have := HS.out; have := HL.out; rw [List.length_drop]; omega)
    generalize s.data.toList.drop 1 = r at hcut HP hrl HRS
    have HR := Aside0.mk hrl
    have hrs : (str r).size < 17592186044416 := by rw [str_size]; exact HRS.out
    have HK := Aside0.mk (fun w1 => scut_calls (str r) (by omega) 125 w1)
    rw [hrl] at HK
    clear hh hrl hrs
    by_cases hk : 0 ≤ indexByte r 125
    · rw [if_pos hk] at HK
      have H1 := Aside0.mk (show (r.take (indexByte r 125).toNat).length < 17592186044416 by rw [List.length_take]; have := HRS.out; omega)
      have hc2 : cutL s.data.toList = if spaceL (r.take (indexByte r 125).toNat) = true ∧ localL (r.drop ((indexByte r 125).toNat + 1)) = true ∧ s.size ≤ 48 then (r.take (indexByte r 125).toNat, r.drop ((indexByte r 125).toNat + 1), true) else ([], [], false) := by
        rw [hcut]
        by_cases hx : spaceL (r.take (indexByte r 125).toNat) = true ∧ localL (r.drop ((indexByte r 125).toNat + 1)) = true ∧ s.size ≤ 48
        · rw [if_pos hx, if_pos ⟨hk, hx.1, hx.2.1, by rw [HL.out]; exact hx.2.2⟩]
        · rw [if_neg hx, if_neg (fun h => hx ⟨h.2.1, h.2.2.1, by have := h.2.2.2; rwa [HL.out] at this⟩)]
      clear hcut hk
      generalize r.take (indexByte r 125).toNat = a at HK H1 hc2
      generalize r.drop ((indexByte r 125).toNat + 1) = b at HK hc2
      have HC := Aside0.mk hc2
      clear hc2
      go_enter Tryd.func9, Tryd.ntmps9
      go_wp2_with fail
      refine (HP.out w).mono ?_
      rintro e w1 ⟨rfl, rfl⟩
      go_wp2_with fail
      refine (HK.out _).mono ?_
      rintro e w2 ⟨rfl, hb2⟩
      have B2 := Aside0.mk hb2
      clear hb2
      go_wp2_with fail
      refine (space_calls (str a) w2 (by rw [str_size]; exact H1.out) (HT.out.below B2.out)).mono ?_
      rintro e w3 ⟨rfl, hb3⟩
      rw [str_list]
      have B3 := Aside0.mk (B2.out.trans (hb3.mono B2.out.size))
      clear hb3
      cases ha : spaceL a
      · have HA := Aside0.mk ha
        clear ha
        go_wp2
        go_ret3
        exact cut_post (by rw [HC.out, if_neg (fun h => by rw [HA.out] at h; cases h.1)]) B3.out
      · have HA := Aside0.mk ha
        clear ha
        go_wp2_with fail
        refine (local_calls (str b) w3).mono ?_
        rintro e w4 ⟨rfl, hb4⟩
        rw [str_list]
        have B4 := Aside0.mk (B3.out.trans (hb4.mono B3.out.size))
        clear hb4
        cases hb : localL b
        · have HBB := Aside0.mk hb
          clear hb
          go_wp2
          go_ret3
          exact cut_post (by rw [HC.out, if_neg (fun h => by rw [HBB.out] at h; cases h.2.1)]) B4.out
        · have HBB := Aside0.mk hb
          clear hb
          by_cases h48 : s.size ≤ 48
          · have t1 : decide (48 < (s.size : Int)) = false := decide_eq_false (by omega)
            have t2 : decide (48 < s.size) = false := decide_eq_false (by omega)
            have H48 := Aside0.mk h48
            clear h48
            go_wp2
            go_ret3
            exact cut_post (by rw [HC.out, if_pos ⟨HA.out, HBB.out, H48.out⟩]) B4.out
          · have t1 : decide (48 < (s.size : Int)) = true := decide_eq_true (by omega)
            have t2 : decide (48 < s.size) = true := decide_eq_true (by omega)
            have H48 := Aside0.mk h48
            clear h48
            go_wp2
            go_ret3
            exact cut_post (by rw [HC.out, if_neg (fun h => H48.out h.2.2)]) B4.out
    · rw [if_neg hk] at HK
      have HC := Aside0.mk (show cutL s.data.toList = ([], [], false) by rw [hcut, if_neg (fun h => hk h.1)])
      clear hcut hk
      go_enter Tryd.func9, Tryd.ntmps9
      go_wp2_with fail
      refine (HP.out w).mono ?_
      rintro e w1 ⟨rfl, rfl⟩
      go_wp2_with fail
      refine (HK.out _).mono ?_
      rintro e w2 ⟨rfl, hb2⟩
      go_wp2
      go_ret3
      exact cut_post HC.out hb2
  · have HC := Aside0.mk (cut_bare hh)
    rw [if_neg hh] at HP
    clear hh
    go_enter Tryd.func9, Tryd.ntmps9
    go_wp2_with fail
    refine (HP.out w).mono ?_
    rintro e w1 ⟨rfl, rfl⟩
    go_wp2_with fail
    refine (local_calls s w1).mono ?_
    rintro e w4 ⟨rfl, hb4⟩
    have B4 := Aside0.mk hb4
    clear hb4
    cases hb : localL s.data.toList
    · have HBB := Aside0.mk hb
      clear hb
      go_wp2
      go_ret3
      exact cut_post (by rw [HC.out, if_neg (fun h => by rw [HBB.out] at h; cases h.1)]) B4.out
    · have h16 := (local_parts hb).2.1
      rw [HL.out] at h16
      have HBB := Aside0.mk hb
      have t1 : decide (48 < (s.size : Int)) = false := decide_eq_false (by omega)
      have t2 : decide (48 < s.size) = false := decide_eq_false (by omega)
      have H48 := Aside0.mk (show s.data.toList.length ≤ 48 by rw [HL.out]; omega)
      clear hb h16
      go_wp2
      go_ret3
      have := cut_post (w := w1) (show cutL s.data.toList = ([], s.data.toList, true) by rw [HC.out, if_pos ⟨HBB.out, H48.out⟩]) B4.out
      rw [str_of] at this
      exact this
end Go.Proofs.YticlppojbbocbaaDoor.Nm
