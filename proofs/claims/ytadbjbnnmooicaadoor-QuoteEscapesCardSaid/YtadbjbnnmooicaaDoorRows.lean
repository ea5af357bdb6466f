/-
  NARROWER THAN 'FOR EVERY INPUT', by the rows' own cells (each row's printed sentence says how): QuoteSteps: laid · QuoteGrows: laid · QuotePrints: laid · QuoteRound: laid · QuoteApart: laid · QuoteEscapes: laid.
  DERIVED. THE GIVEN ROWS OF THIS SEAT. 6 by the template 'for every input the law returns true; each argument reads behind the call as it read before'; 0 by the template 'total and deterministic' (their statements: YtadbjbnnmooicaaDoorTotals.lean).
  GIVEN WITH THE SEED: the statements are not yours to turn. If you find one false, say at which input.
  Laid BY PROGRAM, IN A SANDBOX (cutbox-rows.mjs): the forced cells as the released guide's own fill.sh prints them over the translation 117d9350bcf9a382… (all of the seat's roots in one cut). By AI agents, Wed Nov 11 2026. No macro, syntax, notation, axiom, sorry.
-/
import Derived.Test.YtadbjbnnmooicaaDoorChecked
import GoSem.PinnedTables
import GoSem.Claim
import GoSem.ClaimJoined
import GoSem.ClaimMapViews
import Derived.JoinedTies
import Derived.KernelRfl
namespace Go.Proofs.YtadbjbnnmooicaaDoor
/- THE CELL 'sum', in the pinned program and in every row, IS THE sha256 OF THE DUMP (.gsa) THAT YtadbjbnnmooicaaDoorProg.lean LOADS. Nothing in Lean hashes anything: it is a label: what it is worth is what the hold of that sum in a sandbox is worth. -/
noncomputable def Tryd.pinned : Pinned := { name := "ytadbjbnnmooicaadoor", sum := "117d9350bcf9a382b0c1fca4040ec01c3b5d898938f110dc5dcdef803c7464a1", checked := Tryd.checked }
namespace Rows
def none {H : Type} : Left H := { results := [], args := [] }

/- WHAT THE LISTED PACKAGE-LEVEL VARIABLES READ AS WHEN THE CALL BEGINS. Each datum BY PROGRAM (the guide's laid-datum.mjs) off the statement by which the dump's own 'gosem.cut.vars' lays the variable. In a bare row this is a premise. The card (YtadbjbnnmooicaaDoorCards.lean) ties it to the program's text. -/
def laid_unicode_utf8_acceptRanges {H : Type} : DataW H := .agg [.agg [.lit (.int .u8 128), .lit (.int .u8 191)], .agg [.lit (.int .u8 160), .lit (.int .u8 191)], .agg [.lit (.int .u8 128), .lit (.int .u8 159)], .agg [.lit (.int .u8 144), .lit (.int .u8 191)], .agg [.lit (.int .u8 128), .lit (.int .u8 143)], .agg [.lit (.int .u8 0), .lit (.int .u8 0)], .agg [.lit (.int .u8 0), .lit (.int .u8 0)], .agg [.lit (.int .u8 0), .lit (.int .u8 0)], .agg [.lit (.int .u8 0), .lit (.int .u8 0)], .agg [.lit (.int .u8 0), .lit (.int .u8 0)], .agg [.lit (.int .u8 0), .lit (.int .u8 0)], .agg [.lit (.int .u8 0), .lit (.int .u8 0)], .agg [.lit (.int .u8 0), .lit (.int .u8 0)], .agg [.lit (.int .u8 0), .lit (.int .u8 0)], .agg [.lit (.int .u8 0), .lit (.int .u8 0)], .agg [.lit (.int .u8 0), .lit (.int .u8 0)]]
/-- One of Go's own tables, pinned by name: the form's constant. -/
def laid_unicode_utf8_first : DataW Unit := Go.Pinned.utf8First

/-- 'hexaplalaw03.QuoteSteps': WHATEVER THE INPUT: true; the input reads as it did. -/
def quoteStepsSpec : ChangeSpec := { name := "quoteSteps", fn := fun _ => fun
  | [d] => { results := [.lit (.bool true)], args := [d] }
  | _ => none }
def quoteStepsRow : OpenClaim := { program := "ytadbjbnnmooicaadoor", sum := "117d9350bcf9a382b0c1fca4040ec01c3b5d898938f110dc5dcdef803c7464a1", func := "hexapla/hexaplalaw03.QuoteSteps", spec := "quoteSteps", inPlace := ["internal/bytealg.IndexByteString", "internal/abi.NoEscape"], named := ["unicode/utf8.first", "unicode/utf8.acceptRanges"], apart := false, laid := [("unicode/utf8.acceptRanges", laid_unicode_utf8_acceptRanges), ("unicode/utf8.first", laid_unicode_utf8_first)] }
def QuoteStepsSaid : Prop := quoteStepsRow.holds Tryd.pinned (OpenSpec.ofChange quoteStepsSpec)

/-- ITS FALSE NEIGHBOUR: 'it returns false'. Refute it at one input. -/
def quoteStepsWrong : ChangeSpec := { name := "quoteSteps", fn := fun _ => fun
  | [d] => { results := [.lit (.bool false)], args := [d] }
  | _ => none }
def QuoteStepsWrongFalsely : Prop := quoteStepsRow.holds Tryd.pinned (OpenSpec.ofChange quoteStepsWrong)

/-- 'hexaplalaw03.QuoteGrows': WHATEVER THE INPUT: true; the input reads as it did. -/
def quoteGrowsSpec : ChangeSpec := { name := "quoteGrows", fn := fun _ => fun
  | [d] => { results := [.lit (.bool true)], args := [d] }
  | _ => none }
def quoteGrowsRow : OpenClaim := { program := "ytadbjbnnmooicaadoor", sum := "117d9350bcf9a382b0c1fca4040ec01c3b5d898938f110dc5dcdef803c7464a1", func := "hexapla/hexaplalaw03.QuoteGrows", spec := "quoteGrows", inPlace := ["internal/bytealg.IndexByteString", "internal/abi.NoEscape"], named := ["unicode/utf8.first", "unicode/utf8.acceptRanges"], apart := false, laid := [("unicode/utf8.acceptRanges", laid_unicode_utf8_acceptRanges), ("unicode/utf8.first", laid_unicode_utf8_first)] }
def QuoteGrowsSaid : Prop := quoteGrowsRow.holds Tryd.pinned (OpenSpec.ofChange quoteGrowsSpec)

/-- ITS FALSE NEIGHBOUR: 'it returns false'. Refute it at one input. -/
def quoteGrowsWrong : ChangeSpec := { name := "quoteGrows", fn := fun _ => fun
  | [d] => { results := [.lit (.bool false)], args := [d] }
  | _ => none }
def QuoteGrowsWrongFalsely : Prop := quoteGrowsRow.holds Tryd.pinned (OpenSpec.ofChange quoteGrowsWrong)

/-- 'hexaplalaw03.QuotePrints': WHATEVER THE INPUT: true; the input reads as it did. -/
def quotePrintsSpec : ChangeSpec := { name := "quotePrints", fn := fun _ => fun
  | [d] => { results := [.lit (.bool true)], args := [d] }
  | _ => none }
def quotePrintsRow : OpenClaim := { program := "ytadbjbnnmooicaadoor", sum := "117d9350bcf9a382b0c1fca4040ec01c3b5d898938f110dc5dcdef803c7464a1", func := "hexapla/hexaplalaw03.QuotePrints", spec := "quotePrints", inPlace := ["internal/abi.NoEscape", "internal/bytealg.IndexByteString"], named := ["unicode/utf8.first", "unicode/utf8.acceptRanges"], apart := false, laid := [("unicode/utf8.acceptRanges", laid_unicode_utf8_acceptRanges), ("unicode/utf8.first", laid_unicode_utf8_first)] }
def QuotePrintsSaid : Prop := quotePrintsRow.holds Tryd.pinned (OpenSpec.ofChange quotePrintsSpec)

/-- ITS FALSE NEIGHBOUR: 'it returns false'. Refute it at one input. -/
def quotePrintsWrong : ChangeSpec := { name := "quotePrints", fn := fun _ => fun
  | [d] => { results := [.lit (.bool false)], args := [d] }
  | _ => none }
def QuotePrintsWrongFalsely : Prop := quotePrintsRow.holds Tryd.pinned (OpenSpec.ofChange quotePrintsWrong)

/-- 'hexaplalaw03.QuoteRound': WHATEVER THE INPUT: true; the input reads as it did. -/
def quoteRoundSpec : ChangeSpec := { name := "quoteRound", fn := fun _ => fun
  | [d] => { results := [.lit (.bool true)], args := [d] }
  | _ => none }
def quoteRoundRow : OpenClaim := { program := "ytadbjbnnmooicaadoor", sum := "117d9350bcf9a382b0c1fca4040ec01c3b5d898938f110dc5dcdef803c7464a1", func := "hexapla/hexaplalaw03.QuoteRound", spec := "quoteRound", inPlace := ["internal/abi.NoEscape", "internal/bytealg.IndexByteString"], named := ["unicode/utf8.first", "unicode/utf8.acceptRanges"], apart := false, laid := [("unicode/utf8.acceptRanges", laid_unicode_utf8_acceptRanges), ("unicode/utf8.first", laid_unicode_utf8_first)] }
def QuoteRoundSaid : Prop := quoteRoundRow.holds Tryd.pinned (OpenSpec.ofChange quoteRoundSpec)

/-- ITS FALSE NEIGHBOUR: 'it returns false'. Refute it at one input. -/
def quoteRoundWrong : ChangeSpec := { name := "quoteRound", fn := fun _ => fun
  | [d] => { results := [.lit (.bool false)], args := [d] }
  | _ => none }
def QuoteRoundWrongFalsely : Prop := quoteRoundRow.holds Tryd.pinned (OpenSpec.ofChange quoteRoundWrong)

/-- 'hexaplalaw03.QuoteApart': WHATEVER THE INPUT: true; the input reads as it did. -/
def quoteApartSpec : ChangeSpec := { name := "quoteApart", fn := fun _ => fun
  | [d1, d2] => { results := [.lit (.bool true)], args := [d1, d2] }
  | _ => none }
def quoteApartRow : OpenClaim := { program := "ytadbjbnnmooicaadoor", sum := "117d9350bcf9a382b0c1fca4040ec01c3b5d898938f110dc5dcdef803c7464a1", func := "hexapla/hexaplalaw03.QuoteApart", spec := "quoteApart", inPlace := ["internal/abi.NoEscape", "internal/bytealg.IndexByteString"], named := ["unicode/utf8.first", "unicode/utf8.acceptRanges"], apart := false, laid := [("unicode/utf8.acceptRanges", laid_unicode_utf8_acceptRanges), ("unicode/utf8.first", laid_unicode_utf8_first)] }
def QuoteApartSaid : Prop := quoteApartRow.holds Tryd.pinned (OpenSpec.ofChange quoteApartSpec)

/-- ITS FALSE NEIGHBOUR: 'it returns false'. Refute it at one input. -/
def quoteApartWrong : ChangeSpec := { name := "quoteApart", fn := fun _ => fun
  | [d1, d2] => { results := [.lit (.bool false)], args := [d1, d2] }
  | _ => none }
def QuoteApartWrongFalsely : Prop := quoteApartRow.holds Tryd.pinned (OpenSpec.ofChange quoteApartWrong)

/-- 'hexaplalaw03.QuoteEscapes': WHATEVER THE INPUT: true; the input reads as it did. -/
def quoteEscapesSpec : ChangeSpec := { name := "quoteEscapes", fn := fun _ => fun
  | [d1, d2] => { results := [.lit (.bool true)], args := [d1, d2] }
  | _ => none }
def quoteEscapesRow : OpenClaim := { program := "ytadbjbnnmooicaadoor", sum := "117d9350bcf9a382b0c1fca4040ec01c3b5d898938f110dc5dcdef803c7464a1", func := "hexapla/hexaplalaw03.QuoteEscapes", spec := "quoteEscapes", inPlace := ["internal/bytealg.IndexByteString", "internal/abi.NoEscape"], named := ["unicode/utf8.first", "unicode/utf8.acceptRanges"], apart := false, laid := [("unicode/utf8.acceptRanges", laid_unicode_utf8_acceptRanges), ("unicode/utf8.first", laid_unicode_utf8_first)] }
def QuoteEscapesSaid : Prop := quoteEscapesRow.holds Tryd.pinned (OpenSpec.ofChange quoteEscapesSpec)

/-- ITS FALSE NEIGHBOUR: 'it returns false'. Refute it at one input. -/
def quoteEscapesWrong : ChangeSpec := { name := "quoteEscapes", fn := fun _ => fun
  | [d1, d2] => { results := [.lit (.bool false)], args := [d1, d2] }
  | _ => none }
def QuoteEscapesWrongFalsely : Prop := quoteEscapesRow.holds Tryd.pinned (OpenSpec.ofChange quoteEscapesWrong)

/- THE SECOND FORM. 'bulk': how many values and letters a reading holds, each counted each time it is reached (what is shared counts as often as it is met; a slice's spare places count too). A statement '..UptoSaid' is the law's where the arguments, and the package variables that the reading takes, are together of bulk at most 1048576: NARROWER than '..Said'. Prove '..Said' where nothing that the law and all that it calls make is longer than what came in: it says more and counts as full. Else prove '..UptoSaid'. A law counts once. -/
mutual
def uptoBulk {H : Type} : DataW H → Nat
  | .lit (.string bytes) => bytes.length + 1
  | .lit _ => 1
  | .nil => 1
  | .ptr d => uptoBulk d + 1
  | .slice elems spare => uptoBulkAll elems + uptoBulkAll spare + 1
  | .agg parts => uptoBulkAll parts + 1
  | .iface _ d => uptoBulk d + 1
  | .map entries => uptoBulkEntries entries + 1
  | .held _ => 1
def uptoBulkAll {H : Type} : List (DataW H) → Nat
  | [] => 0
  | d :: r => uptoBulk d + uptoBulkAll r
def uptoBulkEntries {H : Type} : List (Lit × DataW H) → Nat
  | [] => 0
  | x :: r => uptoBulkEntry x + uptoBulkEntries r
def uptoBulkEntry {H : Type} : Lit × DataW H → Nat
  | (.string bytes, d) => bytes.length + uptoBulk d + 1
  | (_, d) => uptoBulk d + 1
 end
def uptoSmall : (H : Type) → List (DataW H) → Bool := fun _ ds => decide (uptoBulkAll ds ≤ 1048576)
def OpenSpec.upto (s : _root_.Go.ChangeSpec) : _root_.Go.OpenSpec := { _root_.Go.OpenSpec.ofChange s with cond := some uptoSmall }

/-- 'hexaplalaw03.QuoteSteps', WHERE WHAT IT READS IS OF BULK AT MOST 1048576: true; the input reads as it did. -/
def quoteStepsUptoRow : OpenClaim := { program := "ytadbjbnnmooicaadoor", sum := "117d9350bcf9a382b0c1fca4040ec01c3b5d898938f110dc5dcdef803c7464a1", func := "hexapla/hexaplalaw03.QuoteSteps", spec := "quoteSteps", inPlace := ["internal/bytealg.IndexByteString", "internal/abi.NoEscape"], named := ["unicode/utf8.first", "unicode/utf8.acceptRanges"], apart := false, laid := [("unicode/utf8.acceptRanges", laid_unicode_utf8_acceptRanges), ("unicode/utf8.first", laid_unicode_utf8_first)], narrowed := true }
def QuoteStepsUptoSaid : Prop := quoteStepsUptoRow.holds Tryd.pinned (OpenSpec.upto quoteStepsSpec)

/-- 'hexaplalaw03.QuoteGrows', WHERE WHAT IT READS IS OF BULK AT MOST 1048576: true; the input reads as it did. -/
def quoteGrowsUptoRow : OpenClaim := { program := "ytadbjbnnmooicaadoor", sum := "117d9350bcf9a382b0c1fca4040ec01c3b5d898938f110dc5dcdef803c7464a1", func := "hexapla/hexaplalaw03.QuoteGrows", spec := "quoteGrows", inPlace := ["internal/bytealg.IndexByteString", "internal/abi.NoEscape"], named := ["unicode/utf8.first", "unicode/utf8.acceptRanges"], apart := false, laid := [("unicode/utf8.acceptRanges", laid_unicode_utf8_acceptRanges), ("unicode/utf8.first", laid_unicode_utf8_first)], narrowed := true }
def QuoteGrowsUptoSaid : Prop := quoteGrowsUptoRow.holds Tryd.pinned (OpenSpec.upto quoteGrowsSpec)

/-- 'hexaplalaw03.QuotePrints', WHERE WHAT IT READS IS OF BULK AT MOST 1048576: true; the input reads as it did. -/
def quotePrintsUptoRow : OpenClaim := { program := "ytadbjbnnmooicaadoor", sum := "117d9350bcf9a382b0c1fca4040ec01c3b5d898938f110dc5dcdef803c7464a1", func := "hexapla/hexaplalaw03.QuotePrints", spec := "quotePrints", inPlace := ["internal/abi.NoEscape", "internal/bytealg.IndexByteString"], named := ["unicode/utf8.first", "unicode/utf8.acceptRanges"], apart := false, laid := [("unicode/utf8.acceptRanges", laid_unicode_utf8_acceptRanges), ("unicode/utf8.first", laid_unicode_utf8_first)], narrowed := true }
def QuotePrintsUptoSaid : Prop := quotePrintsUptoRow.holds Tryd.pinned (OpenSpec.upto quotePrintsSpec)

/-- 'hexaplalaw03.QuoteRound', WHERE WHAT IT READS IS OF BULK AT MOST 1048576: true; the input reads as it did. -/
def quoteRoundUptoRow : OpenClaim := { program := "ytadbjbnnmooicaadoor", sum := "117d9350bcf9a382b0c1fca4040ec01c3b5d898938f110dc5dcdef803c7464a1", func := "hexapla/hexaplalaw03.QuoteRound", spec := "quoteRound", inPlace := ["internal/abi.NoEscape", "internal/bytealg.IndexByteString"], named := ["unicode/utf8.first", "unicode/utf8.acceptRanges"], apart := false, laid := [("unicode/utf8.acceptRanges", laid_unicode_utf8_acceptRanges), ("unicode/utf8.first", laid_unicode_utf8_first)], narrowed := true }
def QuoteRoundUptoSaid : Prop := quoteRoundUptoRow.holds Tryd.pinned (OpenSpec.upto quoteRoundSpec)

/-- 'hexaplalaw03.QuoteApart', WHERE WHAT IT READS IS OF BULK AT MOST 1048576: true; the input reads as it did. -/
def quoteApartUptoRow : OpenClaim := { program := "ytadbjbnnmooicaadoor", sum := "117d9350bcf9a382b0c1fca4040ec01c3b5d898938f110dc5dcdef803c7464a1", func := "hexapla/hexaplalaw03.QuoteApart", spec := "quoteApart", inPlace := ["internal/abi.NoEscape", "internal/bytealg.IndexByteString"], named := ["unicode/utf8.first", "unicode/utf8.acceptRanges"], apart := false, laid := [("unicode/utf8.acceptRanges", laid_unicode_utf8_acceptRanges), ("unicode/utf8.first", laid_unicode_utf8_first)], narrowed := true }
def QuoteApartUptoSaid : Prop := quoteApartUptoRow.holds Tryd.pinned (OpenSpec.upto quoteApartSpec)

/-- 'hexaplalaw03.QuoteEscapes', WHERE WHAT IT READS IS OF BULK AT MOST 1048576: true; the input reads as it did. -/
def quoteEscapesUptoRow : OpenClaim := { program := "ytadbjbnnmooicaadoor", sum := "117d9350bcf9a382b0c1fca4040ec01c3b5d898938f110dc5dcdef803c7464a1", func := "hexapla/hexaplalaw03.QuoteEscapes", spec := "quoteEscapes", inPlace := ["internal/bytealg.IndexByteString", "internal/abi.NoEscape"], named := ["unicode/utf8.first", "unicode/utf8.acceptRanges"], apart := false, laid := [("unicode/utf8.acceptRanges", laid_unicode_utf8_acceptRanges), ("unicode/utf8.first", laid_unicode_utf8_first)], narrowed := true }
def QuoteEscapesUptoSaid : Prop := quoteEscapesUptoRow.holds Tryd.pinned (OpenSpec.upto quoteEscapesSpec)

end Rows
end Go.Proofs.YtadbjbnnmooicaaDoor
