/- entities: Fill in plain words. -/
import Derived.Test.YtohkioijdokegaaDoorEntDef
import Derived.Lib.IndexMore
namespace Go.Proofs.YtohkioijdokegaaDoor.En
open Go Go.Lib Go.RowKit Go.Proofs.YtohkioijdokegaaDoor.Own Go.Proofs.YtohkioijdokegaaDoor.Nm
set_option linter.unusedVariables false
set_option linter.unusedSimpArgs false
def str (l : List UInt8) : ByteArray := ⟨l.toArray⟩
theorem str_list (l : List UInt8) : (str l).data.toList = l := by simp [str]
theorem str_of (s : ByteArray) : str s.data.toList = s := by cases s; simp [str]
theorem str_size (l : List UInt8) : (str l).size = l.length := by simp [str, ByteArray.size]
theorem cut_str (s : ByteArray) (a b : Nat) : s.extract a b = str ((s.data.toList.drop a).take (b - a)) := by
  have h : (s.extract a b).data.toList = (s.data.toList.drop a).take (b - a) := by
    rw [ByteArray.data_extract, Array.toList_extract, List.extract_eq_take_drop]
  rw [← h, str_of]
/-- A name's bytes, up to its end; was there a ';'? -/
def scanR : List UInt8 → List UInt8 → List UInt8 × Bool
  | acc, [] => (acc, false)
  | acc, c :: r => if c = 59 ∧ acc ≠ [] then (acc, true) else if localL (acc ++ [c]) then scanR (acc ++ [c]) r else (acc, false)
/-- Fill from place p on, what stands there, what is out. -/
def fillB : Nat → Nat → List UInt8 → List UInt8 → ES → List UInt8 × Int × Nat × ES
  | 0, p, _, _, s => ([], 2, p, s)
  | k + 1, p, [], out, s => (out, 0, p, s)
  | k + 1, p, c :: r, out, s =>
    if c = 38 then
      (if (scanR [] r).2 then
        (if (getE s (str (scanR [] r).1)).2.1 = 0 then
          fillB k (p + 1 + (scanR [] r).1.length + 1) (r.drop ((scanR [] r).1.length + 1)) (out ++ (getE s (str (scanR [] r).1)).1.data.toList) (getE s (str (scanR [] r).1)).2.2
        else ([], (getE s (str (scanR [] r).1)).2.1, p + 1 + (scanR [] r).1.length, (getE s (str (scanR [] r).1)).2.2))
      else ([], 2, p + 1 + (scanR [] r).1.length, s))
    else fillB k (p + 1) r (out ++ [c]) s
def fillE (s : ES) (l : List UInt8) : List UInt8 × Int × Nat × ES := fillB (l.length + 1) 0 l [] s

theorem fill_skip (pre : List UInt8) : ∀ (k p : Nat) (r out : List UInt8) (s : ES), (∀ c ∈ pre, c ≠ 38) → fillB (k + pre.length) p (pre ++ r) out s = fillB k (p + pre.length) r (out ++ pre) s := by
  induction pre with
  | nil => intro k p r out s h; simp
  | cons c t ih =>
    intro k p r out s h
    rw [List.length_cons, ← Nat.add_assoc, List.cons_append]
    rw [fillB, if_neg (h c (by simp)), ih k (p + 1) r (out ++ [c]) s (fun x hx => h x (by simp [hx]))]
    rw [List.append_assoc, Nat.add_assoc, Nat.add_comm 1]
    rfl
theorem fill_end {k p : Nat} {rest out : List UInt8} {s : ES} (hk : rest.length < k) (h : indexByte rest 38 < 0) : fillB k p rest out s = (out ++ rest, 0, p + rest.length, s) := by
  have hn : indexByte rest 38 = -1 := by have := indexByte_ge rest 38; omega
  obtain ⟨d, rfl⟩ : ∃ d, k = d + 1 + rest.length := ⟨k - 1 - rest.length, by omega⟩
  have := fill_skip rest (d + 1) p [] out s (fun c hc e => by
    obtain ⟨i, hi, h1⟩ := List.getElem_of_mem hc
    exact indexByte_none hn i (by rw [List.getElem?_eq_getElem hi, h1, e]))
  rw [List.append_nil] at this
  rw [this]
  rfl
theorem fill_at {k p i : Nat} {rest out : List UInt8} {s : ES} (hk : rest.length < k) (h : indexByte rest 38 = i) : i < rest.length ∧ ∃ k', k' + i + 1 = k ∧ fillB k p rest out s = fillB (k' + 1) (p + i) (38 :: rest.drop (i + 1)) (out ++ rest.take i) s := by
  obtain ⟨h1, h2⟩ := indexByte_some h
  obtain ⟨hl, h3⟩ := List.getElem?_eq_some_iff.1 h1
  refine ⟨hl, k - i - 1, by omega, ?_⟩
  have e : rest = rest.take i ++ 38 :: rest.drop (i + 1) := by
    rw [← h3, List.getElem_cons_drop, List.take_append_drop]
  have hlen : (rest.take i).length = i := by rw [List.length_take]; omega
  have := fill_skip (rest.take i) (k - i - 1 + 1) p (38 :: rest.drop (i + 1)) out s (fun c hc e => by
    obtain ⟨j, hj, hx⟩ := List.getElem_of_mem hc
    rw [List.getElem_take] at hx
    exact h2 j (by omega) (by rw [List.getElem?_eq_getElem (by omega), hx, e]))
  rw [← e, hlen] at this
  rw [← this]
  congr 1
  omega
theorem fill_bad {k p : Nat} {r out nm : List UInt8} {s : ES} (h : scanR [] r = (nm, false)) : fillB (k + 1) p (38 :: r) out s = ([], 2, p + 1 + nm.length, s) := by
  unfold fillB
  simp only [if_true, h]
  rfl
theorem fill_err {k p : Nat} {r out nm : List UInt8} {s s' : ES} {t : ByteArray} {x : Int} (h : scanR [] r = (nm, true)) (hg : getE s (str nm) = (t, x, s')) (hx : x ≠ 0) : fillB (k + 1) p (38 :: r) out s = ([], x, p + 1 + nm.length, s') := by
  unfold fillB
  simp only [if_true, h, hg, if_neg hx]
theorem fill_ok {k p : Nat} {r out nm : List UInt8} {s s' : ES} {t : ByteArray} (h : scanR [] r = (nm, true)) (hg : getE s (str nm) = (t, 0, s')) : fillB (k + 1) p (38 :: r) out s = fillB k (p + 1 + nm.length + 1) (r.drop (nm.length + 1)) (out ++ t.data.toList) s' := by
  rw [fillB]
  simp only [if_true, h, hg]
theorem scan_end (acc : List UInt8) : scanR acc [] = (acc, false) := rfl
theorem scan_hit {acc r : List UInt8} (h : acc ≠ []) : scanR acc (59 :: r) = (acc, true) := by
  unfold scanR; rw [if_pos ⟨rfl, h⟩]
theorem scan_bad {acc r : List UInt8} {c : UInt8} (h : ¬ (c = 59 ∧ acc ≠ [])) (hl : localL (acc ++ [c]) = false) : scanR acc (c :: r) = (acc, false) := by
  unfold scanR; rw [if_neg h, hl]; rfl
theorem scan_next {acc r : List UInt8} {c : UInt8} (h : ¬ (c = 59 ∧ acc ≠ [])) (hl : localL (acc ++ [c]) = true) : scanR acc (c :: r) = scanR (acc ++ [c]) r := by
  rw [scanR, if_neg h, hl, if_pos rfl]
end Go.Proofs.YtohkioijdokegaaDoor.En
