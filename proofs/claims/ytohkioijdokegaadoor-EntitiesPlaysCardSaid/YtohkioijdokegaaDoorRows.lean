/-
  NARROWER THAN 'FOR EVERY INPUT', by the rows' own cells (each row's printed sentence says how): EntitiesPlays: laid · EntitiesPlain: laid · EntitiesTells: laid · EntitiesQuotes: laid.
  DERIVED. THE GIVEN ROWS OF THIS SEAT. 4 by the template 'for every input the law returns true; each argument reads behind the call as it read before'; 0 by the template 'total and deterministic' (their statements: YtohkioijdokegaaDoorTotals.lean).
  GIVEN WITH THE SEED: the statements are not yours to turn. If you find one false, say at which input.
  Laid BY PROGRAM, IN A SANDBOX (cutbox-rows.mjs): the forced cells as the released guide's own fill.sh prints them over the translation a75f51fbfefbbc72… (all of the seat's roots in one cut). By AI agents, Wed Nov 11 2026. No macro, syntax, notation, axiom, sorry.
-/
import Derived.Test.YtohkioijdokegaaDoorChecked
import GoSem.PinnedTables
import GoSem.Claim
import GoSem.ClaimJoined
import GoSem.ClaimMapViews
import Derived.JoinedTies
import Derived.KernelRfl
namespace Go.Proofs.YtohkioijdokegaaDoor
/- THE CELL 'sum', in the pinned program and in every row, IS THE sha256 OF THE DUMP (.gsa) THAT YtohkioijdokegaaDoorProg.lean LOADS. Nothing in Lean hashes anything: it is a label: what it is worth is what the hold of that sum in a sandbox is worth. -/
noncomputable def Tryd.pinned : Pinned := { name := "ytohkioijdokegaadoor", sum := "a75f51fbfefbbc728195a0b8b70333685fa60024efc136e37da016e8ef784e84", checked := Tryd.checked }
namespace Rows
def none {H : Type} : Left H := { results := [], args := [] }

/- WHAT THE LISTED PACKAGE-LEVEL VARIABLES READ AS WHEN THE CALL BEGINS. Each datum BY PROGRAM (the guide's laid-datum.mjs) off the statement by which the dump's own 'gosem.cut.vars' lays the variable. In a bare row this is a premise. The card (YtohkioijdokegaaDoorCards.lean) ties it to the program's text. -/
def laid_unicode_utf8_acceptRanges {H : Type} : DataW H := .agg [.agg [.lit (.int .u8 128), .lit (.int .u8 191)], .agg [.lit (.int .u8 160), .lit (.int .u8 191)], .agg [.lit (.int .u8 128), .lit (.int .u8 159)], .agg [.lit (.int .u8 144), .lit (.int .u8 191)], .agg [.lit (.int .u8 128), .lit (.int .u8 143)], .agg [.lit (.int .u8 0), .lit (.int .u8 0)], .agg [.lit (.int .u8 0), .lit (.int .u8 0)], .agg [.lit (.int .u8 0), .lit (.int .u8 0)], .agg [.lit (.int .u8 0), .lit (.int .u8 0)], .agg [.lit (.int .u8 0), .lit (.int .u8 0)], .agg [.lit (.int .u8 0), .lit (.int .u8 0)], .agg [.lit (.int .u8 0), .lit (.int .u8 0)], .agg [.lit (.int .u8 0), .lit (.int .u8 0)], .agg [.lit (.int .u8 0), .lit (.int .u8 0)], .agg [.lit (.int .u8 0), .lit (.int .u8 0)], .agg [.lit (.int .u8 0), .lit (.int .u8 0)]]
/-- One of Go's own tables, pinned by name: the form's constant. -/
def laid_unicode_utf8_first : DataW Unit := Go.Pinned.utf8First

/-- 'hexaplalaw13.EntitiesPlays': WHATEVER THE INPUT: true; the input reads as it did. -/
def entitiesPlaysSpec : ChangeSpec := { name := "entitiesPlays", fn := fun _ => fun
  | [d] => { results := [.lit (.bool true)], args := [d] }
  | _ => none }
def entitiesPlaysRow : OpenClaim := { program := "ytohkioijdokegaadoor", sum := "a75f51fbfefbbc728195a0b8b70333685fa60024efc136e37da016e8ef784e84", func := "hexapla/hexaplalaw13.EntitiesPlays", spec := "entitiesPlays", inPlace := ["internal/bytealg.IndexByteString", "internal/abi.NoEscape"], named := ["unicode/utf8.first", "unicode/utf8.acceptRanges"], apart := false, laid := [("unicode/utf8.acceptRanges", laid_unicode_utf8_acceptRanges), ("unicode/utf8.first", laid_unicode_utf8_first)] }
def EntitiesPlaysSaid : Prop := entitiesPlaysRow.holds Tryd.pinned (OpenSpec.ofChange entitiesPlaysSpec)

/-- ITS FALSE NEIGHBOUR: 'it returns false'. Refute it at one input. -/
def entitiesPlaysWrong : ChangeSpec := { name := "entitiesPlays", fn := fun _ => fun
  | [d] => { results := [.lit (.bool false)], args := [d] }
  | _ => none }
def EntitiesPlaysWrongFalsely : Prop := entitiesPlaysRow.holds Tryd.pinned (OpenSpec.ofChange entitiesPlaysWrong)

/-- 'hexaplalaw13.EntitiesPlain': WHATEVER THE INPUT: true; the input reads as it did. -/
def entitiesPlainSpec : ChangeSpec := { name := "entitiesPlain", fn := fun _ => fun
  | [d] => { results := [.lit (.bool true)], args := [d] }
  | _ => none }
def entitiesPlainRow : OpenClaim := { program := "ytohkioijdokegaadoor", sum := "a75f51fbfefbbc728195a0b8b70333685fa60024efc136e37da016e8ef784e84", func := "hexapla/hexaplalaw13.EntitiesPlain", spec := "entitiesPlain", inPlace := ["internal/bytealg.IndexByteString", "internal/abi.NoEscape"], named := ["unicode/utf8.first", "unicode/utf8.acceptRanges"], apart := false, laid := [("unicode/utf8.acceptRanges", laid_unicode_utf8_acceptRanges), ("unicode/utf8.first", laid_unicode_utf8_first)] }
def EntitiesPlainSaid : Prop := entitiesPlainRow.holds Tryd.pinned (OpenSpec.ofChange entitiesPlainSpec)

/-- ITS FALSE NEIGHBOUR: 'it returns false'. Refute it at one input. -/
def entitiesPlainWrong : ChangeSpec := { name := "entitiesPlain", fn := fun _ => fun
  | [d] => { results := [.lit (.bool false)], args := [d] }
  | _ => none }
def EntitiesPlainWrongFalsely : Prop := entitiesPlainRow.holds Tryd.pinned (OpenSpec.ofChange entitiesPlainWrong)

/-- 'hexaplalaw13.EntitiesTells': WHATEVER THE INPUT: true; the input reads as it did. -/
def entitiesTellsSpec : ChangeSpec := { name := "entitiesTells", fn := fun _ => fun
  | [d1, d2, d3] => { results := [.lit (.bool true)], args := [d1, d2, d3] }
  | _ => none }
def entitiesTellsRow : OpenClaim := { program := "ytohkioijdokegaadoor", sum := "a75f51fbfefbbc728195a0b8b70333685fa60024efc136e37da016e8ef784e84", func := "hexapla/hexaplalaw13.EntitiesTells", spec := "entitiesTells", inPlace := ["internal/bytealg.IndexByteString", "internal/abi.NoEscape"], named := ["unicode/utf8.first", "unicode/utf8.acceptRanges"], apart := false, laid := [("unicode/utf8.acceptRanges", laid_unicode_utf8_acceptRanges), ("unicode/utf8.first", laid_unicode_utf8_first)] }
def EntitiesTellsSaid : Prop := entitiesTellsRow.holds Tryd.pinned (OpenSpec.ofChange entitiesTellsSpec)

/-- ITS FALSE NEIGHBOUR: 'it returns false'. Refute it at one input. -/
def entitiesTellsWrong : ChangeSpec := { name := "entitiesTells", fn := fun _ => fun
  | [d1, d2, d3] => { results := [.lit (.bool false)], args := [d1, d2, d3] }
  | _ => none }
def EntitiesTellsWrongFalsely : Prop := entitiesTellsRow.holds Tryd.pinned (OpenSpec.ofChange entitiesTellsWrong)

/-- 'hexaplalaw13.EntitiesQuotes': WHATEVER THE INPUT: true; the input reads as it did. -/
def entitiesQuotesSpec : ChangeSpec := { name := "entitiesQuotes", fn := fun _ => fun
  | [d] => { results := [.lit (.bool true)], args := [d] }
  | _ => none }
def entitiesQuotesRow : OpenClaim := { program := "ytohkioijdokegaadoor", sum := "a75f51fbfefbbc728195a0b8b70333685fa60024efc136e37da016e8ef784e84", func := "hexapla/hexaplalaw13.EntitiesQuotes", spec := "entitiesQuotes", inPlace := ["internal/bytealg.IndexByteString", "internal/abi.NoEscape"], named := ["unicode/utf8.first", "unicode/utf8.acceptRanges"], apart := false, laid := [("unicode/utf8.acceptRanges", laid_unicode_utf8_acceptRanges), ("unicode/utf8.first", laid_unicode_utf8_first)] }
def EntitiesQuotesSaid : Prop := entitiesQuotesRow.holds Tryd.pinned (OpenSpec.ofChange entitiesQuotesSpec)

/-- ITS FALSE NEIGHBOUR: 'it returns false'. Refute it at one input. -/
def entitiesQuotesWrong : ChangeSpec := { name := "entitiesQuotes", fn := fun _ => fun
  | [d] => { results := [.lit (.bool false)], args := [d] }
  | _ => none }
def EntitiesQuotesWrongFalsely : Prop := entitiesQuotesRow.holds Tryd.pinned (OpenSpec.ofChange entitiesQuotesWrong)

/- THE SECOND FORM. 'bulk': how many values and letters a reading holds, each counted each time it is reached (what is shared counts as often as it is met; a slice's spare places count too). A statement '..UptoSaid' is the law's where the arguments, and the package variables that the reading takes, are together of bulk at most 1048576: NARROWER than '..Said'. Prove '..Said' where nothing that the law and all that it calls make is longer than what came in: it says more and counts as full. Else prove '..UptoSaid'. A law counts once. -/
mutual
def uptoBulk {H : Type} : DataW H → Nat
  | .lit (.string bytes) => bytes.length + 1
  | .lit _ => 1
  | .nil => 1
  | .ptr d => uptoBulk d + 1
  | .slice elems spare => uptoBulkAll elems + uptoBulkAll spare + 1
  | .agg parts => uptoBulkAll parts + 1
  | .iface _ d => uptoBulk d + 1
  | .map entries => uptoBulkEntries entries + 1
  | .held _ => 1
def uptoBulkAll {H : Type} : List (DataW H) → Nat
  | [] => 0
  | d :: r => uptoBulk d + uptoBulkAll r
def uptoBulkEntries {H : Type} : List (Lit × DataW H) → Nat
  | [] => 0
  | x :: r => uptoBulkEntry x + uptoBulkEntries r
def uptoBulkEntry {H : Type} : Lit × DataW H → Nat
  | (.string bytes, d) => bytes.length + uptoBulk d + 1
  | (_, d) => uptoBulk d + 1
 end
def uptoSmall : (H : Type) → List (DataW H) → Bool := fun _ ds => decide (uptoBulkAll ds ≤ 1048576)
def OpenSpec.upto (s : _root_.Go.ChangeSpec) : _root_.Go.OpenSpec := { _root_.Go.OpenSpec.ofChange s with cond := some uptoSmall }

/-- 'hexaplalaw13.EntitiesPlays', WHERE WHAT IT READS IS OF BULK AT MOST 1048576: true; the input reads as it did. -/
def entitiesPlaysUptoRow : OpenClaim := { program := "ytohkioijdokegaadoor", sum := "a75f51fbfefbbc728195a0b8b70333685fa60024efc136e37da016e8ef784e84", func := "hexapla/hexaplalaw13.EntitiesPlays", spec := "entitiesPlays", inPlace := ["internal/bytealg.IndexByteString", "internal/abi.NoEscape"], named := ["unicode/utf8.first", "unicode/utf8.acceptRanges"], apart := false, laid := [("unicode/utf8.acceptRanges", laid_unicode_utf8_acceptRanges), ("unicode/utf8.first", laid_unicode_utf8_first)], narrowed := true }
def EntitiesPlaysUptoSaid : Prop := entitiesPlaysUptoRow.holds Tryd.pinned (OpenSpec.upto entitiesPlaysSpec)

/-- 'hexaplalaw13.EntitiesPlain', WHERE WHAT IT READS IS OF BULK AT MOST 1048576: true; the input reads as it did. -/
def entitiesPlainUptoRow : OpenClaim := { program := "ytohkioijdokegaadoor", sum := "a75f51fbfefbbc728195a0b8b70333685fa60024efc136e37da016e8ef784e84", func := "hexapla/hexaplalaw13.EntitiesPlain", spec := "entitiesPlain", inPlace := ["internal/bytealg.IndexByteString", "internal/abi.NoEscape"], named := ["unicode/utf8.first", "unicode/utf8.acceptRanges"], apart := false, laid := [("unicode/utf8.acceptRanges", laid_unicode_utf8_acceptRanges), ("unicode/utf8.first", laid_unicode_utf8_first)], narrowed := true }
def EntitiesPlainUptoSaid : Prop := entitiesPlainUptoRow.holds Tryd.pinned (OpenSpec.upto entitiesPlainSpec)

/-- 'hexaplalaw13.EntitiesTells', WHERE WHAT IT READS IS OF BULK AT MOST 1048576: true; the input reads as it did. -/
def entitiesTellsUptoRow : OpenClaim := { program := "ytohkioijdokegaadoor", sum := "a75f51fbfefbbc728195a0b8b70333685fa60024efc136e37da016e8ef784e84", func := "hexapla/hexaplalaw13.EntitiesTells", spec := "entitiesTells", inPlace := ["internal/bytealg.IndexByteString", "internal/abi.NoEscape"], named := ["unicode/utf8.first", "unicode/utf8.acceptRanges"], apart := false, laid := [("unicode/utf8.acceptRanges", laid_unicode_utf8_acceptRanges), ("unicode/utf8.first", laid_unicode_utf8_first)], narrowed := true }
def EntitiesTellsUptoSaid : Prop := entitiesTellsUptoRow.holds Tryd.pinned (OpenSpec.upto entitiesTellsSpec)

/-- 'hexaplalaw13.EntitiesQuotes', WHERE WHAT IT READS IS OF BULK AT MOST 1048576: true; the input reads as it did. -/
def entitiesQuotesUptoRow : OpenClaim := { program := "ytohkioijdokegaadoor", sum := "a75f51fbfefbbc728195a0b8b70333685fa60024efc136e37da016e8ef784e84", func := "hexapla/hexaplalaw13.EntitiesQuotes", spec := "entitiesQuotes", inPlace := ["internal/bytealg.IndexByteString", "internal/abi.NoEscape"], named := ["unicode/utf8.first", "unicode/utf8.acceptRanges"], apart := false, laid := [("unicode/utf8.acceptRanges", laid_unicode_utf8_acceptRanges), ("unicode/utf8.first", laid_unicode_utf8_first)], narrowed := true }
def EntitiesQuotesUptoSaid : Prop := entitiesQuotesUptoRow.holds Tryd.pinned (OpenSpec.upto entitiesQuotesSpec)

end Rows
end Go.Proofs.YtohkioijdokegaaDoor
