/- Texts that are held against each other. -/
import Derived.Test.YtalaedpiimdcbaaOwn
import Derived.Lib.Strings
namespace Go.Proofs.Ytalaedpiimdcbaa.Own
theorem str_inj {a b : ByteArray} (h : a.toList = b.toList) : a = b := by
  rw [ByteArray.toList_eq, ByteArray.toList_eq] at h
  cases a; cases b
  congr 1
  exact Array.toList_inj.1 h
theorem seq_true {a b : ByteArray} (h : a = b) : (a.toList == b.toList) = true := by subst h; simp
theorem seq_false {a b : ByteArray} (h : a ≠ b) : (a.toList == b.toList) = false := by
  rw [beq_eq_false_iff_ne]
  exact fun e => h (str_inj e)
theorem sdec_true {a b : ByteArray} (h : a = b) : decide (a.toList = b.toList) = true := by subst h; simp
theorem sdec_false {a b : ByteArray} (h : a ≠ b) : decide (a.toList = b.toList) = false := decide_eq_false (fun e => h (str_inj e))
end Go.Proofs.Ytalaedpiimdcbaa.Own
