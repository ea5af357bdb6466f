/-
  NARROWER THAN 'FOR EVERY INPUT', by the rows' own cells (each row's printed sentence says how): NamesKinds: laid · NamesJoins: laid · NamesCuts: laid · NamesApart: laid · NamesScopes: laid · NamesInner: laid.
  DERIVED. THE GIVEN ROWS OF THIS SEAT. 6 by the template 'for every input the law returns true; each argument reads behind the call as it read before'; 0 by the template 'total and deterministic' (their statements: YticlppojbbocbaaDoorTotals.lean).
  GIVEN WITH THE SEED: the statements are not yours to turn. If you find one false, say at which input.
  Laid BY PROGRAM, IN A SANDBOX (cutbox-rows.mjs): the forced cells as the released guide's own fill.sh prints them over the translation 7fd8382e72650da1… (all of the seat's roots in one cut). By AI agents, Wed Nov 11 2026. No macro, syntax, notation, axiom, sorry.
-/
import Derived.Test.YticlppojbbocbaaDoorChecked
import GoSem.PinnedTables
import GoSem.Claim
import GoSem.ClaimJoined
import GoSem.ClaimMapViews
import Derived.JoinedTies
import Derived.KernelRfl
namespace Go.Proofs.YticlppojbbocbaaDoor
/- THE CELL 'sum', in the pinned program and in every row, IS THE sha256 OF THE DUMP (.gsa) THAT YticlppojbbocbaaDoorProg.lean LOADS. Nothing in Lean hashes anything: it is a label: what it is worth is what the hold of that sum in a sandbox is worth. -/
noncomputable def Tryd.pinned : Pinned := { name := "yticlppojbbocbaadoor", sum := "7fd8382e72650da16dd6fd9ededda193e0f5b980e7dd443a8f94126a84a9396f", checked := Tryd.checked }
namespace Rows
def none {H : Type} : Left H := { results := [], args := [] }

/- WHAT THE LISTED PACKAGE-LEVEL VARIABLES READ AS WHEN THE CALL BEGINS. Each datum BY PROGRAM (the guide's laid-datum.mjs) off the statement by which the dump's own 'gosem.cut.vars' lays the variable. In a bare row this is a premise. The card (YticlppojbbocbaaDoorCards.lean) ties it to the program's text. -/
def laid_unicode_utf8_acceptRanges {H : Type} : DataW H := .agg [.agg [.lit (.int .u8 128), .lit (.int .u8 191)], .agg [.lit (.int .u8 160), .lit (.int .u8 191)], .agg [.lit (.int .u8 128), .lit (.int .u8 159)], .agg [.lit (.int .u8 144), .lit (.int .u8 191)], .agg [.lit (.int .u8 128), .lit (.int .u8 143)], .agg [.lit (.int .u8 0), .lit (.int .u8 0)], .agg [.lit (.int .u8 0), .lit (.int .u8 0)], .agg [.lit (.int .u8 0), .lit (.int .u8 0)], .agg [.lit (.int .u8 0), .lit (.int .u8 0)], .agg [.lit (.int .u8 0), .lit (.int .u8 0)], .agg [.lit (.int .u8 0), .lit (.int .u8 0)], .agg [.lit (.int .u8 0), .lit (.int .u8 0)], .agg [.lit (.int .u8 0), .lit (.int .u8 0)], .agg [.lit (.int .u8 0), .lit (.int .u8 0)], .agg [.lit (.int .u8 0), .lit (.int .u8 0)], .agg [.lit (.int .u8 0), .lit (.int .u8 0)]]
/-- One of Go's own tables, pinned by name: the form's constant. -/
def laid_unicode_utf8_first : DataW Unit := Go.Pinned.utf8First

/-- 'hexaplalaw04.NamesKinds': WHATEVER THE INPUT: true; the input reads as it did. -/
def namesKindsSpec : ChangeSpec := { name := "namesKinds", fn := fun _ => fun
  | [d] => { results := [.lit (.bool true)], args := [d] }
  | _ => none }
def namesKindsRow : OpenClaim := { program := "yticlppojbbocbaadoor", sum := "7fd8382e72650da16dd6fd9ededda193e0f5b980e7dd443a8f94126a84a9396f", func := "hexapla/hexaplalaw04.NamesKinds", spec := "namesKinds", inPlace := ["internal/bytealg.IndexByteString", "internal/bytealg.IndexString"], unfollowed := true, recurses := true, named := ["internal/bytealg.MaxLen", "unicode/utf8.first", "unicode/utf8.acceptRanges"], apart := false, laid := [("unicode/utf8.acceptRanges", laid_unicode_utf8_acceptRanges), ("unicode/utf8.first", laid_unicode_utf8_first)] }
def NamesKindsSaid : Prop := namesKindsRow.holds Tryd.pinned (OpenSpec.ofChange namesKindsSpec)

/-- ITS FALSE NEIGHBOUR: 'it returns false'. Refute it at one input. -/
def namesKindsWrong : ChangeSpec := { name := "namesKinds", fn := fun _ => fun
  | [d] => { results := [.lit (.bool false)], args := [d] }
  | _ => none }
def NamesKindsWrongFalsely : Prop := namesKindsRow.holds Tryd.pinned (OpenSpec.ofChange namesKindsWrong)

/-- 'hexaplalaw04.NamesJoins': WHATEVER THE INPUT: true; the input reads as it did. -/
def namesJoinsSpec : ChangeSpec := { name := "namesJoins", fn := fun _ => fun
  | [d1, d2] => { results := [.lit (.bool true)], args := [d1, d2] }
  | _ => none }
def namesJoinsRow : OpenClaim := { program := "yticlppojbbocbaadoor", sum := "7fd8382e72650da16dd6fd9ededda193e0f5b980e7dd443a8f94126a84a9396f", func := "hexapla/hexaplalaw04.NamesJoins", spec := "namesJoins", inPlace := ["internal/bytealg.IndexByteString", "internal/bytealg.IndexString"], unfollowed := true, recurses := true, named := ["internal/bytealg.MaxLen", "unicode/utf8.first", "unicode/utf8.acceptRanges"], apart := false, laid := [("unicode/utf8.acceptRanges", laid_unicode_utf8_acceptRanges), ("unicode/utf8.first", laid_unicode_utf8_first)] }
def NamesJoinsSaid : Prop := namesJoinsRow.holds Tryd.pinned (OpenSpec.ofChange namesJoinsSpec)

/-- ITS FALSE NEIGHBOUR: 'it returns false'. Refute it at one input. -/
def namesJoinsWrong : ChangeSpec := { name := "namesJoins", fn := fun _ => fun
  | [d1, d2] => { results := [.lit (.bool false)], args := [d1, d2] }
  | _ => none }
def NamesJoinsWrongFalsely : Prop := namesJoinsRow.holds Tryd.pinned (OpenSpec.ofChange namesJoinsWrong)

/-- 'hexaplalaw04.NamesCuts': WHATEVER THE INPUT: true; the input reads as it did. -/
def namesCutsSpec : ChangeSpec := { name := "namesCuts", fn := fun _ => fun
  | [d] => { results := [.lit (.bool true)], args := [d] }
  | _ => none }
def namesCutsRow : OpenClaim := { program := "yticlppojbbocbaadoor", sum := "7fd8382e72650da16dd6fd9ededda193e0f5b980e7dd443a8f94126a84a9396f", func := "hexapla/hexaplalaw04.NamesCuts", spec := "namesCuts", inPlace := ["internal/bytealg.IndexByteString", "internal/bytealg.IndexString"], unfollowed := true, recurses := true, named := ["internal/bytealg.MaxLen", "unicode/utf8.first", "unicode/utf8.acceptRanges"], apart := false, laid := [("unicode/utf8.acceptRanges", laid_unicode_utf8_acceptRanges), ("unicode/utf8.first", laid_unicode_utf8_first)] }
def NamesCutsSaid : Prop := namesCutsRow.holds Tryd.pinned (OpenSpec.ofChange namesCutsSpec)

/-- ITS FALSE NEIGHBOUR: 'it returns false'. Refute it at one input. -/
def namesCutsWrong : ChangeSpec := { name := "namesCuts", fn := fun _ => fun
  | [d] => { results := [.lit (.bool false)], args := [d] }
  | _ => none }
def NamesCutsWrongFalsely : Prop := namesCutsRow.holds Tryd.pinned (OpenSpec.ofChange namesCutsWrong)

/-- 'hexaplalaw04.NamesApart': WHATEVER THE INPUT: true; the input reads as it did. -/
def namesApartSpec : ChangeSpec := { name := "namesApart", fn := fun _ => fun
  | [d1, d2] => { results := [.lit (.bool true)], args := [d1, d2] }
  | _ => none }
def namesApartRow : OpenClaim := { program := "yticlppojbbocbaadoor", sum := "7fd8382e72650da16dd6fd9ededda193e0f5b980e7dd443a8f94126a84a9396f", func := "hexapla/hexaplalaw04.NamesApart", spec := "namesApart", inPlace := ["internal/bytealg.IndexByteString", "internal/bytealg.IndexString"], unfollowed := true, recurses := true, named := ["internal/bytealg.MaxLen", "unicode/utf8.first", "unicode/utf8.acceptRanges"], apart := false, laid := [("unicode/utf8.acceptRanges", laid_unicode_utf8_acceptRanges), ("unicode/utf8.first", laid_unicode_utf8_first)] }
def NamesApartSaid : Prop := namesApartRow.holds Tryd.pinned (OpenSpec.ofChange namesApartSpec)

/-- ITS FALSE NEIGHBOUR: 'it returns false'. Refute it at one input. -/
def namesApartWrong : ChangeSpec := { name := "namesApart", fn := fun _ => fun
  | [d1, d2] => { results := [.lit (.bool false)], args := [d1, d2] }
  | _ => none }
def NamesApartWrongFalsely : Prop := namesApartRow.holds Tryd.pinned (OpenSpec.ofChange namesApartWrong)

/-- 'hexaplalaw04.NamesScopes': WHATEVER THE INPUT: true; the input reads as it did. -/
def namesScopesSpec : ChangeSpec := { name := "namesScopes", fn := fun _ => fun
  | [d] => { results := [.lit (.bool true)], args := [d] }
  | _ => none }
def namesScopesRow : OpenClaim := { program := "yticlppojbbocbaadoor", sum := "7fd8382e72650da16dd6fd9ededda193e0f5b980e7dd443a8f94126a84a9396f", func := "hexapla/hexaplalaw04.NamesScopes", spec := "namesScopes", inPlace := ["internal/bytealg.IndexByteString", "internal/bytealg.IndexString"], unfollowed := true, recurses := true, named := ["unicode/utf8.first", "unicode/utf8.acceptRanges", "internal/bytealg.MaxLen"], apart := false, laid := [("unicode/utf8.acceptRanges", laid_unicode_utf8_acceptRanges), ("unicode/utf8.first", laid_unicode_utf8_first)] }
def NamesScopesSaid : Prop := namesScopesRow.holds Tryd.pinned (OpenSpec.ofChange namesScopesSpec)

/-- ITS FALSE NEIGHBOUR: 'it returns false'. Refute it at one input. -/
def namesScopesWrong : ChangeSpec := { name := "namesScopes", fn := fun _ => fun
  | [d] => { results := [.lit (.bool false)], args := [d] }
  | _ => none }
def NamesScopesWrongFalsely : Prop := namesScopesRow.holds Tryd.pinned (OpenSpec.ofChange namesScopesWrong)

/-- 'hexaplalaw04.NamesInner': WHATEVER THE INPUT: true; the input reads as it did. -/
def namesInnerSpec : ChangeSpec := { name := "namesInner", fn := fun _ => fun
  | [d1, d2, d3] => { results := [.lit (.bool true)], args := [d1, d2, d3] }
  | _ => none }
def namesInnerRow : OpenClaim := { program := "yticlppojbbocbaadoor", sum := "7fd8382e72650da16dd6fd9ededda193e0f5b980e7dd443a8f94126a84a9396f", func := "hexapla/hexaplalaw04.NamesInner", spec := "namesInner", inPlace := ["internal/bytealg.IndexByteString", "internal/bytealg.IndexString"], unfollowed := true, recurses := true, named := ["unicode/utf8.first", "unicode/utf8.acceptRanges", "internal/bytealg.MaxLen"], apart := false, laid := [("unicode/utf8.acceptRanges", laid_unicode_utf8_acceptRanges), ("unicode/utf8.first", laid_unicode_utf8_first)] }
def NamesInnerSaid : Prop := namesInnerRow.holds Tryd.pinned (OpenSpec.ofChange namesInnerSpec)

/-- ITS FALSE NEIGHBOUR: 'it returns false'. Refute it at one input. -/
def namesInnerWrong : ChangeSpec := { name := "namesInner", fn := fun _ => fun
  | [d1, d2, d3] => { results := [.lit (.bool false)], args := [d1, d2, d3] }
  | _ => none }
def NamesInnerWrongFalsely : Prop := namesInnerRow.holds Tryd.pinned (OpenSpec.ofChange namesInnerWrong)

/- THE SECOND FORM. 'bulk': how many values and letters a reading holds, each counted each time it is reached (what is shared counts as often as it is met; a slice's spare places count too). A statement '..UptoSaid' is the law's where the arguments, and the package variables that the reading takes, are together of bulk at most 1048576: NARROWER than '..Said'. Prove '..Said' where nothing that the law and all that it calls make is longer than what came in: it says more and counts as full. Else prove '..UptoSaid'. A law counts once. -/
mutual
def uptoBulk {H : Type} : DataW H → Nat
  | .lit (.string bytes) => bytes.length + 1
  | .lit _ => 1
  | .nil => 1
  | .ptr d => uptoBulk d + 1
  | .slice elems spare => uptoBulkAll elems + uptoBulkAll spare + 1
  | .agg parts => uptoBulkAll parts + 1
  | .iface _ d => uptoBulk d + 1
  | .map entries => uptoBulkEntries entries + 1
  | .held _ => 1
def uptoBulkAll {H : Type} : List (DataW H) → Nat
  | [] => 0
  | d :: r => uptoBulk d + uptoBulkAll r
def uptoBulkEntries {H : Type} : List (Lit × DataW H) → Nat
  | [] => 0
  | x :: r => uptoBulkEntry x + uptoBulkEntries r
def uptoBulkEntry {H : Type} : Lit × DataW H → Nat
  | (.string bytes, d) => bytes.length + uptoBulk d + 1
  | (_, d) => uptoBulk d + 1
 end
def uptoSmall : (H : Type) → List (DataW H) → Bool := fun _ ds => decide (uptoBulkAll ds ≤ 1048576)
def OpenSpec.upto (s : _root_.Go.ChangeSpec) : _root_.Go.OpenSpec := { _root_.Go.OpenSpec.ofChange s with cond := some uptoSmall }

/-- 'hexaplalaw04.NamesKinds', WHERE WHAT IT READS IS OF BULK AT MOST 1048576: true; the input reads as it did. -/
def namesKindsUptoRow : OpenClaim := { program := "yticlppojbbocbaadoor", sum := "7fd8382e72650da16dd6fd9ededda193e0f5b980e7dd443a8f94126a84a9396f", func := "hexapla/hexaplalaw04.NamesKinds", spec := "namesKinds", inPlace := ["internal/bytealg.IndexByteString", "internal/bytealg.IndexString"], unfollowed := true, recurses := true, named := ["internal/bytealg.MaxLen", "unicode/utf8.first", "unicode/utf8.acceptRanges"], apart := false, laid := [("unicode/utf8.acceptRanges", laid_unicode_utf8_acceptRanges), ("unicode/utf8.first", laid_unicode_utf8_first)], narrowed := true }
def NamesKindsUptoSaid : Prop := namesKindsUptoRow.holds Tryd.pinned (OpenSpec.upto namesKindsSpec)

/-- 'hexaplalaw04.NamesJoins', WHERE WHAT IT READS IS OF BULK AT MOST 1048576: true; the input reads as it did. -/
def namesJoinsUptoRow : OpenClaim := { program := "yticlppojbbocbaadoor", sum := "7fd8382e72650da16dd6fd9ededda193e0f5b980e7dd443a8f94126a84a9396f", func := "hexapla/hexaplalaw04.NamesJoins", spec := "namesJoins", inPlace := ["internal/bytealg.IndexByteString", "internal/bytealg.IndexString"], unfollowed := true, recurses := true, named := ["internal/bytealg.MaxLen", "unicode/utf8.first", "unicode/utf8.acceptRanges"], apart := false, laid := [("unicode/utf8.acceptRanges", laid_unicode_utf8_acceptRanges), ("unicode/utf8.first", laid_unicode_utf8_first)], narrowed := true }
def NamesJoinsUptoSaid : Prop := namesJoinsUptoRow.holds Tryd.pinned (OpenSpec.upto namesJoinsSpec)

/-- 'hexaplalaw04.NamesCuts', WHERE WHAT IT READS IS OF BULK AT MOST 1048576: true; the input reads as it did. -/
def namesCutsUptoRow : OpenClaim := { program := "yticlppojbbocbaadoor", sum := "7fd8382e72650da16dd6fd9ededda193e0f5b980e7dd443a8f94126a84a9396f", func := "hexapla/hexaplalaw04.NamesCuts", spec := "namesCuts", inPlace := ["internal/bytealg.IndexByteString", "internal/bytealg.IndexString"], unfollowed := true, recurses := true, named := ["internal/bytealg.MaxLen", "unicode/utf8.first", "unicode/utf8.acceptRanges"], apart := false, laid := [("unicode/utf8.acceptRanges", laid_unicode_utf8_acceptRanges), ("unicode/utf8.first", laid_unicode_utf8_first)], narrowed := true }
def NamesCutsUptoSaid : Prop := namesCutsUptoRow.holds Tryd.pinned (OpenSpec.upto namesCutsSpec)

/-- 'hexaplalaw04.NamesApart', WHERE WHAT IT READS IS OF BULK AT MOST 1048576: true; the input reads as it did. -/
def namesApartUptoRow : OpenClaim := { program := "yticlppojbbocbaadoor", sum := "7fd8382e72650da16dd6fd9ededda193e0f5b980e7dd443a8f94126a84a9396f", func := "hexapla/hexaplalaw04.NamesApart", spec := "namesApart", inPlace := ["internal/bytealg.IndexByteString", "internal/bytealg.IndexString"], unfollowed := true, recurses := true, named := ["internal/bytealg.MaxLen", "unicode/utf8.first", "unicode/utf8.acceptRanges"], apart := false, laid := [("unicode/utf8.acceptRanges", laid_unicode_utf8_acceptRanges), ("unicode/utf8.first", laid_unicode_utf8_first)], narrowed := true }
def NamesApartUptoSaid : Prop := namesApartUptoRow.holds Tryd.pinned (OpenSpec.upto namesApartSpec)

/-- 'hexaplalaw04.NamesScopes', WHERE WHAT IT READS IS OF BULK AT MOST 1048576: true; the input reads as it did. -/
def namesScopesUptoRow : OpenClaim := { program := "yticlppojbbocbaadoor", sum := "7fd8382e72650da16dd6fd9ededda193e0f5b980e7dd443a8f94126a84a9396f", func := "hexapla/hexaplalaw04.NamesScopes", spec := "namesScopes", inPlace := ["internal/bytealg.IndexByteString", "internal/bytealg.IndexString"], unfollowed := true, recurses := true, named := ["unicode/utf8.first", "unicode/utf8.acceptRanges", "internal/bytealg.MaxLen"], apart := false, laid := [("unicode/utf8.acceptRanges", laid_unicode_utf8_acceptRanges), ("unicode/utf8.first", laid_unicode_utf8_first)], narrowed := true }
def NamesScopesUptoSaid : Prop := namesScopesUptoRow.holds Tryd.pinned (OpenSpec.upto namesScopesSpec)

/-- 'hexaplalaw04.NamesInner', WHERE WHAT IT READS IS OF BULK AT MOST 1048576: true; the input reads as it did. -/
def namesInnerUptoRow : OpenClaim := { program := "yticlppojbbocbaadoor", sum := "7fd8382e72650da16dd6fd9ededda193e0f5b980e7dd443a8f94126a84a9396f", func := "hexapla/hexaplalaw04.NamesInner", spec := "namesInner", inPlace := ["internal/bytealg.IndexByteString", "internal/bytealg.IndexString"], unfollowed := true, recurses := true, named := ["unicode/utf8.first", "unicode/utf8.acceptRanges", "internal/bytealg.MaxLen"], apart := false, laid := [("unicode/utf8.acceptRanges", laid_unicode_utf8_acceptRanges), ("unicode/utf8.first", laid_unicode_utf8_first)], narrowed := true }
def NamesInnerUptoSaid : Prop := namesInnerUptoRow.holds Tryd.pinned (OpenSpec.upto namesInnerSpec)

end Rows
end Go.Proofs.YticlppojbbocbaaDoor
