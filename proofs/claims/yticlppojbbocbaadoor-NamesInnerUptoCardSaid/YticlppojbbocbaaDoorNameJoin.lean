/- names.Join, walked; and the reference's Local, Space, Cut, Join. -/
import Derived.Test.YticlppojbbocbaaDoorNameCut
import Derived.Test.YticlppojbbocbaaDoorRefNames
import Derived.Test.YticlppojbbocbaaDoorRefChars
namespace Go.Proofs.YticlppojbbocbaaDoor.Nm
open Go Go.Lib Go.Shelf Go.RowKit Go.Proofs.YticlppojbbocbaaDoorW.PrintWords Go.Proofs.YticlppojbbocbaaDoorW.PrintLast Go.Proofs.YticlppojbbocbaaDoor.Own Go.Proofs.YticlppojbbocbaaDoor.Srcw Go.Proofs.YticlppojbbocbaaDoor.Tab Go.Proofs.YticlppojbbocbaaDoor.PNamesKinds
set_option linter.unusedVariables false
set_option linter.unusedSimpArgs false
theorem sne_false {a b : ByteArray} (h : a = b) : (!(a.toList == b.toList)) = false := by subst h; simp
theorem sne_true {a b : ByteArray} (h : a ≠ b) : (!(a.toList == b.toList)) = true := by rw [seq_false h]; rfl
theorem sbne_false {a b : ByteArray} (h : a = b) : (a.toList != b.toList) = false := by subst h; simp
theorem sbne_true {a b : ByteArray} (h : a ≠ b) : (a.toList != b.toList) = true := by simp [bne, seq_false h]
theorem empty_of {s : ByteArray} (h : s.size = 0) : s = ⟨#[]⟩ := by
  cases s with
  | mk d => congr 1; exact Array.eq_empty_of_size_eq_zero h
def JoinPost (a b : List UInt8) (w : World) (e : Ending) (w' : World) : Prop := ∃ (s : ByteArray) (c : Bool), e = .returned (.tuple #[.string s, .bool c]) ∧ (s = str (joinL a b).1 ∧ c = (joinL a b).2) ∧ Below w.heap.size w w'
theorem join_post {a b l : List UInt8} {c : Bool} {s : ByteArray} {w w' : World} (h : joinL a b = (l, c)) (hs : s = str l) (hb : Below w.heap.size w w') : JoinPost a b w (.returned (.tuple #[.string s, .bool c])) w' :=
  ⟨_, _, rfl, by rw [h]; exact ⟨hs, rfl⟩, hb⟩
theorem full_str (a b : ByteArray) (h : a.size ≠ 0) : (⟨#[123]⟩ ++ a ++ ⟨#[125]⟩ ++ b : ByteArray) = str (fullL a.data.toList b.data.toList) := by
  have hne : a.data.toList ≠ [] := fun e => h (by have := size_data a; rw [e] at this; exact this.symm)
  rw [← str_of (⟨#[123]⟩ ++ a ++ ⟨#[125]⟩ ++ b : ByteArray)]
  congr 1
  simp [fullL, hne, ByteArray.data_append]

set_option maxHeartbeats 4000000 in
set_option maxRecDepth 100000 in
theorem join_calls (a b : ByteArray) (w : World) (ha : a.size ≤ 1048576) (hb : b.size ≤ 1048576) (hT : Tabs w) : Calls Tryd.prog 16 #[.string a, .string b] w (JoinPost a.data.toList b.data.toList w) := by
  have HA := Aside0.mk (join_ask a.data.toList b.data.toList)
  have HSa := Aside0.mk (str_of a)
  have HSb := Aside0.mk (str_of b)
  by_cases h0 : a.size = 0
  · have he := empty_of h0
    subst he
    have hf : fullL (⟨#[]⟩ : ByteArray).data.toList b.data.toList = b.data.toList := rfl
    rw [hf] at HA
    have HC := Aside0.mk (cut_calls b w (by omega) hT)
    clear hT h0 hf ha
    go_enter Tryd.func16, Tryd.ntmps16
    go_wp2_with fail
    refine HC.out.mono ?_
    rintro e w1 ⟨x, y, c, rfl, ⟨h1, h2, h3⟩, hb1⟩
    have B1 := Aside0.mk hb1
    have H1 := Aside0.mk h1
    have H2 := Aside0.mk h2
    have H3 := Aside0.mk h3
    clear hb1 h1 h2 h3
    cases c
    · go_wp2
      go_ret2
      exact join_post (by rw [HA.out, if_neg (fun h => by have := H3.out; rw [h] at this; cases this)]) rfl B1.out
    by_cases e1 : x = ⟨#[]⟩
    · by_cases e2 : y = b
      · subst e1 e2
        have q1 := sne_false (rfl : y = y)
        have q2 := sbne_false (rfl : y = y)
        go_wp2
        go_ret2
        have hc : cutL y.data.toList = ([], y.data.toList, true) := by
          refine Prod.ext ?_ (Prod.ext ?_ ?_)
          · exact str_inj (H1.out.symm.trans rfl)
          · exact str_inj (H2.out.symm.trans HSb.out.symm)
          · exact H3.out.symm
        exact join_post (by rw [HA.out, if_pos hc]) HSb.out.symm B1.out
      · subst e1
        have q1 := sne_true e2
        have q2 := sbne_true e2
        have E2 := Aside0.mk e2
        clear e2
        go_wp2
        go_ret2
        exact join_post (by rw [HA.out, if_neg (fun h => E2.out (by rw [H2.out, h]; exact HSb.out))]) rfl B1.out
    · have q1 := ne_empty (s := x) (fun h => e1 (empty_of h))
      have q2 := ne_empty2 (s := x) (fun h => e1 (empty_of h))
      have E1 := Aside0.mk e1
      clear e1
      go_wp2
      go_ret2
      exact join_post (by rw [HA.out, if_neg (fun h => E1.out (by rw [H1.out, h]; rfl))]) rfl B1.out
  · have t0 := ne_empty h0
    have t3 := ne_empty2 h0
    have hf := full_str a b h0
    have HFS := Aside0.mk (str_list (fullL a.data.toList b.data.toList))
    have hsz : (⟨#[123]⟩ ++ a ++ ⟨#[125]⟩ ++ b : ByteArray).size < 17592186044416 := by
      rw [ByteArray.size_append, ByteArray.size_append, ByteArray.size_append]
      show 1 + a.size + 1 + b.size < _
      omega
    generalize hg : (⟨#[123]⟩ ++ a ++ ⟨#[125]⟩ ++ b : ByteArray) = full at hf hsz
    have HC := Aside0.mk (cut_calls full w hsz hT)
    have HF := Aside0.mk hf
    clear hT h0 hf hsz
    go_enter Tryd.func16, Tryd.ntmps16
    go_wp2_with fail
    clear hg
    refine HC.out.mono ?_
    rintro e w1 ⟨x, y, c, rfl, ⟨h1, h2, h3⟩, hb1⟩
    have hfl : full.data.toList = fullL a.data.toList b.data.toList := by rw [HF.out, HFS.out]
    rw [hfl] at h1 h2 h3
    have B1 := Aside0.mk hb1
    have H1 := Aside0.mk h1
    have H2 := Aside0.mk h2
    have H3 := Aside0.mk h3
    clear hb1 h1 h2 h3 hfl
    cases c
    · go_wp2
      go_ret2
      exact join_post (by rw [HA.out, if_neg (fun h => by have := H3.out; rw [h] at this; cases this)]) rfl B1.out
    by_cases e1 : x = a
    · by_cases e2 : y = b
      · subst e1 e2
        have q1 := sne_false (rfl : y = y)
        have q2 := sbne_false (rfl : y = y)
        have q3 := sne_false (rfl : x = x)
        have q4 := sbne_false (rfl : x = x)
        go_wp2
        go_ret2
        have hc : cutL (fullL x.data.toList y.data.toList) = (x.data.toList, y.data.toList, true) := by
          refine Prod.ext ?_ (Prod.ext ?_ ?_)
          · exact str_inj (H1.out.symm.trans HSa.out.symm)
          · exact str_inj (H2.out.symm.trans HSb.out.symm)
          · exact H3.out.symm
        exact join_post (by rw [HA.out, if_pos hc]) HF.out B1.out
      · subst e1
        have q3 := sne_false (rfl : x = x)
        have q4 := sbne_false (rfl : x = x)
        have q1 := sne_true e2
        have q2 := sbne_true e2
        have E2 := Aside0.mk e2
        clear e2
        go_wp2
        go_ret2
        exact join_post (by rw [HA.out, if_neg (fun h => E2.out (by rw [H2.out, h]; exact HSb.out))]) rfl B1.out
    · have q1 := sne_true e1
      have q2 := sbne_true e1
      have E1 := Aside0.mk e1
      clear e1
      go_wp2
      go_ret2
      exact join_post (by rw [HA.out, if_neg (fun h => E1.out (by rw [H1.out, h]; exact HSa.out))]) rfl B1.out
end Go.Proofs.YticlppojbbocbaaDoor.Nm
