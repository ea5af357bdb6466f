/- The reference's Local, Space, Cut and Join in plain words. -/
import Derived.Test.YticlppojbbocbaaDoorNameJoin
namespace Go.Proofs.YticlppojbbocbaaDoor.Nm
open Go Go.Lib Go.Shelf Go.RowKit Go.Proofs.YticlppojbbocbaaDoorW.PrintWords Go.Proofs.YticlppojbbocbaaDoorW.PrintLast Go.Proofs.YticlppojbbocbaaDoor.Own Go.Proofs.YticlppojbbocbaaDoor.Srcw Go.Proofs.YticlppojbbocbaaDoor.Tab Go.Proofs.YticlppojbbocbaaDoor.PNamesKinds
set_option linter.unusedVariables false
set_option linter.unusedSimpArgs false

theorem rl_end (k : Nat) (s : ByteArray) (i : Int) (hi : ¬ i < (s.size : Int)) : hexaplaref04_Local.l0 (k + 1) s i = some true := by
  conv => lhs; unfold hexaplaref04_Local.l0
  rw [if_neg hi]
set_option maxHeartbeats 4000000 in
theorem rl_round (k : Nat) (s : ByteArray) (i b : Nat) (hi : i < s.size) (hb : bt s i = b) (hb1 : b < 256) (hi1 : i < 100) :
    hexaplaref04_Local.l0 (k + 1) s i = if okB i b = true then hexaplaref04_Local.l0 k s ((i + 1 : Nat) : Int) else some false := by
  conv => lhs; unfold hexaplaref04_Local.l0
  have hw : wrap64 ((i : Int) + 1) = ((i + 1 : Nat) : Int) := by unfold wrap64; omega
  rw [if_pos (by omega), if_pos (by omega), hb, hw]
  generalize hexaplaref04_Local.l0 k s ((i + 1 : Nat) : Int) = X
  unfold okB
  by_cases h : ((97 ≤ b ∧ b ≤ 122) ∨ (65 ≤ b ∧ b ≤ 90) ∨ b = 95 ∨ (0 < i ∧ ((48 ≤ b ∧ b ≤ 57) ∨ b = 45 ∨ b = 46)))
  · rw [decide_eq_true h, if_pos rfl]
    clear hw hb hi
    (repeat' split) <;> (first | rfl | (exfalso; first | omega | (simp at *; done) | (simp at *; omega)))
  · rw [decide_eq_false h]
    rw [if_neg (c := false = true) Bool.false_ne_true]
    clear hw hb hi
    (repeat' split) <;> (first | rfl | (exfalso; first | omega | (simp at *; done) | (simp at *; omega)))

theorem leo_ge {α : Type} {f : Nat → Option α} (hm : ∀ k, LeO (f k) (f (k + 1))) {k : Nat} {r : α} (h : f k = some r) : ∀ j, k ≤ j → f j = some r := by
  intro j hj
  induction j with
  | zero => obtain rfl : k = 0 := by omega
            exact h
  | succ j ih =>
    by_cases e : k = j + 1
    · rw [← e]; exact h
    · exact hm j r (ih (by omega))
theorem bt_at (s : ByteArray) (i : Nat) (h : i < s.size) : bt s (i : Int) = (((s.data.toList.getD i 0).toNat : Nat) : Int) := bt_get s i h

theorem rl_loop (s : ByteArray) (hs : s.size ≤ 16) : ∀ (d k i : Nat), i + d = s.size → d < k → okTo s.data.toList i = true → hexaplaref04_Local.l0 k s i = some (okTo s.data.toList s.size) := by
  intro d
  induction d with
  | zero =>
    intro k i hi hk ho
    obtain ⟨k, rfl⟩ : ∃ m, k = m + 1 := ⟨k - 1, by omega⟩
    rw [rl_end k s i (by omega)]
    obtain rfl : i = s.size := by omega
    rw [ho]
  | succ d ih =>
    intro k i hi hk ho
    obtain ⟨k, rfl⟩ : ∃ m, k = m + 1 := ⟨k - 1, by omega⟩
    rw [rl_round k s i (s.data.toList.getD i 0).toNat (by omega) (bt_at s i (by omega)) ((s.data.toList.getD i 0).toNat_lt) (by omega)]
    by_cases hb : okB i (s.data.toList.getD i 0).toNat = true
    · rw [if_pos hb]
      exact ih k (i + 1) (by omega) (by omega) (by unfold okTo; rw [ho, hb]; rfl)
    · rw [if_neg hb, okTo_false (n := i + 1) (by unfold okTo; rw [Bool.not_eq_true] at hb; rw [hb]; simp) s.size (by omega)]
theorem lj (k : Nat) (s : ByteArray) (b : Bool) : hexaplaref04_Local.j0 (k + 1) s b = if b = true then some false else hexaplaref04_Local.l0 k s 0 := by simp only [hexaplaref04_Local.j0]
theorem sj (k : Nat) (s : ByteArray) (b : Bool) : hexaplaref04_Space.j0 (k + 1) s b = if b = true then some false else hexaplaref04_Space.l0 k s 0 := by simp only [hexaplaref04_Space.j0]
theorem rlocal_is (s : ByteArray) (k : Nat) (hk : s.size + 3 ≤ k) : hexaplaref04_Local.f k s = some (localL s.data.toList) := by
  have hl : s.data.toList.length = s.size := size_data s
  obtain ⟨k, rfl⟩ : ∃ m, k = m + 1 := ⟨k - 1, by omega⟩
  unfold hexaplaref04_Local.f localL
  rw [hl]
  by_cases h0 : (s.size : Int) < 1
  · rw [if_pos h0, decide_eq_false (by omega)]
    rw [lj]
    rfl
  · rw [if_neg h0]
    rw [lj]
    by_cases h1 : s.size ≤ 16
    · rw [decide_eq_true (show 1 ≤ s.size ∧ s.size ≤ 16 by omega), decide_eq_false (show ¬ (s.size : Int) > 16 by omega), if_neg (c := false = true) Bool.false_ne_true, Bool.true_and]
      exact rl_loop s h1 s.size k 0 (by omega) (by omega) rfl
    · rw [decide_eq_false (show ¬ (1 ≤ s.size ∧ s.size ≤ 16) by omega), decide_eq_true (show (s.size : Int) > 16 by omega), if_pos rfl]
      rfl
theorem rlocal_calls (s : ByteArray) (w : World) : Calls Tryd.prog 12 #[.string s] w fun e w' => e = .returned (.bool (localL s.data.toList)) ∧ Below w.heap.size w w' := by
  refine (hexaplaref04_Local.calls (s.size + 3) s _ w (rlocal_is s _ (Nat.le_refl _))).mono ?_
  rintro e w' ⟨he, nd, hd⟩
  exact ⟨he, by rw [hd]; exact pw_below_drewN (Below.refl _ _) nd⟩

theorem rs_end (k : Nat) (s : ByteArray) (i : Int) (hi : ¬ i < (s.size : Int)) : hexaplaref04_Space.l0 (k + 1) s i = some true := by
  conv => lhs; unfold hexaplaref04_Space.l0
  rw [if_neg hi]
theorem rs_round (k : Nat) (s : ByteArray) (i b : Nat) (hi : i < s.size) (hb : bt s i = b) (hi1 : i < 1000000) :
    hexaplaref04_Space.l0 (k + 1) s i = if oddB b = true then some false else hexaplaref04_Space.l0 k s ((i + 1 : Nat) : Int) := by
  conv => lhs; unfold hexaplaref04_Space.l0
  have hw : wrap64 ((i : Int) + 1) = ((i + 1 : Nat) : Int) := by unfold wrap64; omega
  rw [if_pos (by omega), if_pos (by omega), hb, hw]
  generalize hexaplaref04_Space.l0 k s ((i + 1 : Nat) : Int) = X
  unfold oddB
  by_cases h : (b < 33 ∨ b = 123 ∨ b = 125 ∨ b = 34 ∨ b = 60 ∨ b = 62 ∨ b = 38 ∨ b = 92)
  · rw [decide_eq_true h, if_pos rfl]
    clear hw hb hi
    (repeat' split) <;> (first | rfl | (exfalso; omega))
  · rw [decide_eq_false h]
    rw [if_neg (c := false = true) Bool.false_ne_true]
    clear hw hb hi
    (repeat' split) <;> (first | rfl | (exfalso; omega))
theorem rs_loop (s : ByteArray) (hs : s.size ≤ 48) : ∀ (d k i : Nat), i + d = s.size → d < k → hexaplaref04_Space.l0 k s i = some ((s.data.toList.drop i).all (fun c => !oddB c.toNat)) := by
  have hl : s.data.toList.length = s.size := size_data s
  intro d
  induction d with
  | zero =>
    intro k i hi hk
    obtain ⟨k, rfl⟩ : ∃ m, k = m + 1 := ⟨k - 1, by omega⟩
    rw [rs_end k s i (by omega), List.drop_of_length_le (by omega)]
    rfl
  | succ d ih =>
    intro k i hi hk
    obtain ⟨k, rfl⟩ : ∃ m, k = m + 1 := ⟨k - 1, by omega⟩
    have hlt : i < s.data.toList.length := by omega
    have hg : s.data.toList.getD i 0 = s.data.toList[i] := by simp only [List.getD, List.getElem?_eq_getElem hlt, Option.getD_some]
    rw [rs_round k s i (s.data.toList.getD i 0).toNat (by omega) (bt_at s i (by omega)) (by omega), ih k (i + 1) (by omega) (by omega), List.drop_eq_getElem_cons hlt, hg, List.all_cons]
    by_cases hb : oddB (s.data.toList[i]).toNat = true
    · rw [if_pos hb, hb]; rfl
    · rw [if_neg hb]
      rw [Bool.not_eq_true] at hb
      rw [hb]; rfl
theorem rvalid_is (s : ByteArray) (hs : s.size < 17592186044416) (k : Nat) (hk : s.size + 13 ≤ k) : hexaplaref01_Valid.f k s = some (validD s.data.toList) :=
  leo_ge (f := fun k => hexaplaref01_Valid.f k s) (fun k => hexaplaref01_Valid.mono s k) (k := s.size + 13) (by show hexaplaref01_Valid.f _ _ = _; unfold hexaplaref01_Valid.f; rw [refrunes_is s hs]; rfl) k hk
theorem rspace_is (s : ByteArray) (hs : s.size < 17592186044416) (k : Nat) (hk : s.size + 13 ≤ k) : hexaplaref04_Space.f k s = some (spaceL s.data.toList) := by
  have hl : s.data.toList.length = s.size := size_data s
  unfold hexaplaref04_Space.f
  rw [rvalid_is s hs k hk]
  obtain ⟨k, rfl⟩ : ∃ m, k = m + 1 := ⟨k - 1, by omega⟩
  simp only [Option.bind_some]
  cases hv : validD s.data.toList
  · rw [if_neg (c := false = true) Bool.false_ne_true, space_valid hv]
    rw [sj]
    rfl
  · rw [if_pos rfl]
    by_cases h0 : (s.size : Int) < 1
    · rw [if_pos h0, space_size (by omega)]
      rw [sj]
      rfl
    · rw [if_neg h0]
      rw [sj]
      by_cases h1 : s.size ≤ 48
      · rw [decide_eq_false (show ¬ (s.size : Int) > 48 by omega), if_neg (c := false = true) Bool.false_ne_true, space_rest hv (by omega) (by omega)]
        exact rs_loop s h1 s.size k 0 (by omega) (by omega)
      · rw [decide_eq_true (show (s.size : Int) > 48 by omega), if_pos rfl, space_size (by omega)]
theorem rspace_calls (s : ByteArray) (hs : s.size < 17592186044416) (w : World) : Calls Tryd.prog 14 #[.string s] w fun e w' => e = .returned (.bool (spaceL s.data.toList)) ∧ Below w.heap.size w w' :=
  hexaplaref04_Space.calls (s.size + 13) s _ w (rspace_is s hs _ (Nat.le_refl _))

theorem ext_str (s : ByteArray) (a b : Nat) : s.extract a b = str ((s.data.toList.drop a).take (b - a)) := by
  have h : (s.extract a b).data.toList = (s.data.toList.drop a).take (b - a) := by
    rw [ByteArray.data_extract, Array.toList_extract, List.extract_eq_take_drop]
  rw [← h, str_of]
theorem rc_round (k : Nat) (s : ByteArray) (i b : Nat) (hi : i < s.size) (h1 : 1 ≤ i) (hb : bt s i = b) (hi1 : s.size ≤ 48) (hk : 100 ≤ k) :
    hexaplaref04_Cut.l0 (k + 1) s i = if b = 125 then some (if spaceL ((s.data.toList.drop 1).take (i - 1)) && localL (s.data.toList.drop (i + 1)) then (str ((s.data.toList.drop 1).take (i - 1)), str (s.data.toList.drop (i + 1)), true) else (⟨#[]⟩, ⟨#[]⟩, false)) else hexaplaref04_Cut.l0 k s ((i + 1 : Nat) : Int) := by
  have hl : s.data.toList.length = s.size := size_data s
  conv => lhs; unfold hexaplaref04_Cut.l0
  have hw : wrap64 ((i : Int) + 1) = ((i + 1 : Nat) : Int) := by unfold wrap64; omega
  rw [if_pos (by omega), if_pos (by omega), hb, hw]
  by_cases h : b = 125
  · rw [if_pos (show (b : Int) = 125 by omega), if_pos h, if_pos (show (1 : Int) ≤ (i : Int) by omega), if_pos (show (i : Int) ≤ (s.size : Int) by omega), Int.toNat_natCast, ext_str s 1 i]
    rw [rspace_is (str ((s.data.toList.drop 1).take (i - 1))) (by rw [str_size, List.length_take]; omega) k (by rw [str_size, List.length_take]; omega), str_list]
    simp only [Option.bind_some]
    rw [if_pos (show (0 : Int) ≤ ((i + 1 : Nat) : Int) by omega), if_pos (show ((i + 1 : Nat) : Int) ≤ (s.size : Int) by omega), Int.toNat_natCast, drop_str]
    rw [rlocal_is (str (s.data.toList.drop (i + 1))) k (by rw [str_size, List.length_drop]; omega), str_list]
    simp only [Option.bind_some]
    cases spaceL ((s.data.toList.drop 1).take (i - 1)) <;> cases localL (s.data.toList.drop (i + 1)) <;> rfl
  · rw [if_neg (by omega), if_neg h]

theorem ixc (b : UInt8) (l : List UInt8) (c : UInt8) : indexByte (b :: l) c = if b == c then 0 else if indexByte l c == -1 then -1 else indexByte l c + 1 := rfl
/-- The first brace that closes, from place i on. -/
theorem rc_loop (s : ByteArray) (hs : s.size ≤ 48) : ∀ (d k i : Nat), i + d = s.size → 1 ≤ i → d + 101 < k →
    hexaplaref04_Cut.l0 k s i = some (if 0 ≤ indexByte (s.data.toList.drop i) 125 then
      (if spaceL ((s.data.toList.drop 1).take (i + (indexByte (s.data.toList.drop i) 125).toNat - 1)) && localL (s.data.toList.drop (i + (indexByte (s.data.toList.drop i) 125).toNat + 1)) then (str ((s.data.toList.drop 1).take (i + (indexByte (s.data.toList.drop i) 125).toNat - 1)), str (s.data.toList.drop (i + (indexByte (s.data.toList.drop i) 125).toNat + 1)), true) else (⟨#[]⟩, ⟨#[]⟩, false))
      else (⟨#[]⟩, ⟨#[]⟩, false)) := by
  have hl : s.data.toList.length = s.size := size_data s
  intro d
  induction d with
  | zero =>
    intro k i hi h1 hk
    obtain ⟨k, rfl⟩ : ∃ m, k = m + 1 := ⟨k - 1, by omega⟩
    rw [List.drop_of_length_le (i := i) (by omega), if_neg (by simp [indexByte])]
    conv => lhs; unfold hexaplaref04_Cut.l0
    rw [if_neg (by omega)]
  | succ d ih =>
    intro k i hi h1 hk
    obtain ⟨k, rfl⟩ : ∃ m, k = m + 1 := ⟨k - 1, by omega⟩
    have hlt : i < s.data.toList.length := by omega
    have hg : s.data.toList.getD i 0 = s.data.toList[i] := by simp only [List.getD, List.getElem?_eq_getElem hlt, Option.getD_some]
    rw [rc_round k s i (s.data.toList.getD i 0).toNat (by omega) h1 (bt_at s i (by omega)) hs (by omega), ih k (i + 1) (by omega) (by omega) (by omega), List.drop_eq_getElem_cons hlt, hg]
    have hge := indexByte_ge (s.data.toList.drop (i + 1)) 125
    rw [ixc]
    by_cases hb : s.data.toList[i] = 125
    · rw [hb]
      simp
    · have hn : ¬ (s.data.toList[i]).toNat = 125 := fun e => hb (UInt8.toNat_inj.1 (by rw [e]; rfl))
      have hbb : (s.data.toList[i] == (125 : UInt8)) = false := by simpa using hb
      rw [if_neg hn, hbb]
      simp only [Bool.false_eq_true, if_false]
      by_cases hx : indexByte (s.data.toList.drop (i + 1)) 125 = -1
      · have hx2 : (indexByte (s.data.toList.drop (i + 1)) 125 == -1) = true := by simpa using hx
        rw [hx2, if_pos rfl, hx]
        rfl
      · have hx2 : (indexByte (s.data.toList.drop (i + 1)) 125 == -1) = false := by simpa using hx
        rw [hx2, if_neg (c := false = true) Bool.false_ne_true]
        generalize indexByte (s.data.toList.drop (i + 1)) 125 = v at hge hx
        obtain ⟨n, rfl⟩ := Int.eq_ofNat_of_zero_le (show 0 ≤ v by omega)
        rw [if_pos (show (0 : Int) ≤ (n : Int) by omega), if_pos (show (0 : Int) ≤ (n : Int) + 1 by omega)]
        have e1 : ((n : Int) + 1).toNat = n + 1 := by omega
        rw [e1, Int.toNat_natCast]
        have e2 : i + 1 + n = i + (n + 1) := by omega
        rw [e2]
theorem cj (k : Nat) (s : ByteArray) (b : Bool) : hexaplaref04_Cut.j0 (k + 1) s b = if b = true then ((hexaplaref04_Local.f k s).bind fun t127 => (if t127 = true then (some ((⟨#[]⟩ : ByteArray), s, true)) else (some ((⟨#[]⟩ : ByteArray), (⟨#[]⟩ : ByteArray), false)))) else (hexaplaref04_Cut.l0 k s 1) := by simp only [hexaplaref04_Cut.j0]
theorem rcut_is (s : ByteArray) : ∃ k, hexaplaref04_Cut.f k s = some (str (cutL s.data.toList).1, str (cutL s.data.toList).2.1, (cutL s.data.toList).2.2) := by
  have hl : s.data.toList.length = s.size := size_data s
  refine ⟨s.size + 200, ?_⟩
  unfold hexaplaref04_Cut.f
  by_cases h48 : (s.size : Int) > 48
  · rw [if_pos h48]
    have : cutL s.data.toList = ([], [], false) := by
      unfold cutL
      rw [if_neg (fun h => by omega), if_neg (by rw [local_long (by omega)]; simp)]
    rw [this]; rfl
  rw [if_neg h48]
  have hbare : ∀ k, s.size + 3 ≤ k → s.data.toList.head? ≠ some 123 → hexaplaref04_Cut.j0 (k + 1) s true = some (str (cutL s.data.toList).1, str (cutL s.data.toList).2.1, (cutL s.data.toList).2.2) := by
    intro k hk hh
    rw [cj, if_pos rfl, rlocal_is s k hk, cut_bare hh]
    simp only [Option.bind_some]
    cases hb : localL s.data.toList
    · rw [if_neg (c := false = true) Bool.false_ne_true, if_neg (fun h => by cases h.1)]; rfl
    · rw [if_pos rfl, if_pos ⟨rfl, by omega⟩]
      simp only [str_of]; rfl
  by_cases h0 : (s.size : Int) = 0
  · rw [if_pos h0]
    refine hbare (s.size + 199) (by omega) ?_
    have : s.data.toList = [] := List.eq_nil_of_length_eq_zero (by omega)
    rw [this]; simp
  rw [if_neg h0, if_pos (show (0 : Int) < (s.size : Int) by omega)]
  have hb0 : bt s 0 = (((s.data.toList.getD 0 0).toNat : Nat) : Int) := bt_at s 0 (by omega)
  have hhead : s.data.toList.head? = some (s.data.toList.getD 0 0) := by
    cases h : s.data.toList with
    | nil => rw [h] at hl; simp at hl; omega
    | cons x r => simp
  rw [hb0]
  by_cases hh : s.data.toList.head? = some 123
  · have hx : s.data.toList.getD 0 0 = 123 := by rw [hhead] at hh; exact Option.some.inj hh
    have hne : (((((123 : UInt8).toNat : Nat) : Int)) != 123) = false := by decide
    rw [hx, hne, show s.size + 200 = s.size + 199 + 1 from rfl, cj, if_neg (c := false = true) Bool.false_ne_true]
    have hloop := rc_loop s (by omega) (s.size - 1) (s.size + 199) 1 (by omega) (by omega) (by omega)
    rw [show (((1 : Nat) : Int)) = 1 from rfl] at hloop
    rw [hloop]
    have e1 : 1 + (indexByte (s.data.toList.drop 1) 125).toNat - 1 = (indexByte (s.data.toList.drop 1) 125).toNat := by omega
    have e2 : 1 + (indexByte (s.data.toList.drop 1) 125).toNat + 1 = 1 + ((indexByte (s.data.toList.drop 1) 125).toNat + 1) := by omega
    rw [e1, e2, ← List.drop_drop]
    have hcv : cutL s.data.toList = if 0 ≤ indexByte (s.data.toList.drop 1) 125 then
        (if spaceL ((s.data.toList.drop 1).take (indexByte (s.data.toList.drop 1) 125).toNat) && localL ((s.data.toList.drop 1).drop ((indexByte (s.data.toList.drop 1) 125).toNat + 1)) then
          ((s.data.toList.drop 1).take (indexByte (s.data.toList.drop 1) 125).toNat, (s.data.toList.drop 1).drop ((indexByte (s.data.toList.drop 1) 125).toNat + 1), true) else ([], [], false))
        else ([], [], false) := by
      unfold cutL
      exact if_pos ⟨(by omega : s.data.toList.length ≤ 48), hh⟩
    rw [hcv]
    by_cases c1 : 0 ≤ indexByte (s.data.toList.drop 1) 125
    · rw [if_pos c1, if_pos c1]
      by_cases c2 : (spaceL ((s.data.toList.drop 1).take (indexByte (s.data.toList.drop 1) 125).toNat) && localL ((s.data.toList.drop 1).drop ((indexByte (s.data.toList.drop 1) 125).toNat + 1))) = true
      · rw [if_pos c2, if_pos c2]
      · rw [if_neg c2, if_neg c2]; rfl
    · rw [if_neg c1, if_neg c1]; rfl
  · have hx : ¬ s.data.toList.getD 0 0 = 123 := fun e => hh (by rw [hhead, e])
    have hn : ¬ (s.data.toList.getD 0 0).toNat = 123 := fun e => hx (UInt8.toNat_inj.1 (by rw [e]; rfl))
    have hne : ((((s.data.toList.getD 0 0).toNat : Nat) : Int) != 123) = true := by
      rw [bne_iff_ne]; omega
    rw [hne]
    exact hbare (s.size + 199) (by omega) hh
theorem rcut_calls (s : ByteArray) (w : World) : Calls Tryd.prog 10 #[.string s] w (CutPost s.data.toList w) := by
  obtain ⟨k, hk⟩ := rcut_is s
  refine (hexaplaref04_Cut.calls k s _ _ _ w hk).mono ?_
  rintro e w' ⟨he, hb⟩
  exact ⟨_, _, _, he, ⟨rfl, rfl, rfl⟩, hb⟩
end Go.Proofs.YticlppojbbocbaaDoor.Nm
