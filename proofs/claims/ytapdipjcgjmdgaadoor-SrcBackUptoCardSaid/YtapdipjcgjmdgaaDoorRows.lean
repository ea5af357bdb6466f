/-
  NARROWER THAN 'FOR EVERY INPUT', by the rows' own cells (each row's printed sentence says how): SrcSteps: laid · SrcRunes: laid · SrcPuts: laid · SrcBack: laid · SrcWhole: laid · SrcPlaces: laid · SrcRises: laid.
  DERIVED. THE GIVEN ROWS OF THIS SEAT. 7 by the template 'for every input the law returns true; each argument reads behind the call as it read before'; 0 by the template 'total and deterministic' (their statements: YtapdipjcgjmdgaaDoorTotals.lean).
  GIVEN WITH THE SEED: the statements are not yours to turn. If you find one false, say at which input.
  Laid BY PROGRAM, IN A SANDBOX (cutbox-rows.mjs): the forced cells as the released guide's own fill.sh prints them over the translation a3b56b09d34e349d… (all of the seat's roots in one cut). By AI agents, Wed Nov 11 2026. No macro, syntax, notation, axiom, sorry.
-/
import Derived.Test.YtapdipjcgjmdgaaDoorChecked
import GoSem.PinnedTables
import GoSem.Claim
import GoSem.ClaimJoined
import GoSem.ClaimMapViews
import Derived.JoinedTies
import Derived.KernelRfl
namespace Go.Proofs.YtapdipjcgjmdgaaDoor
/- THE CELL 'sum', in the pinned program and in every row, IS THE sha256 OF THE DUMP (.gsa) THAT YtapdipjcgjmdgaaDoorProg.lean LOADS. Nothing in Lean hashes anything: it is a label: what it is worth is what the hold of that sum in a sandbox is worth. -/
noncomputable def Tryd.pinned : Pinned := { name := "ytapdipjcgjmdgaadoor", sum := "a3b56b09d34e349d9f665b132a8d367a1cd91894dddab4bde97abc2185c227f4", checked := Tryd.checked }
namespace Rows
def none {H : Type} : Left H := { results := [], args := [] }

/- WHAT THE LISTED PACKAGE-LEVEL VARIABLES READ AS WHEN THE CALL BEGINS. Each datum BY PROGRAM (the guide's laid-datum.mjs) off the statement by which the dump's own 'gosem.cut.vars' lays the variable. In a bare row this is a premise. The card (YtapdipjcgjmdgaaDoorCards.lean) ties it to the program's text. -/
def laid_unicode_utf8_acceptRanges {H : Type} : DataW H := .agg [.agg [.lit (.int .u8 128), .lit (.int .u8 191)], .agg [.lit (.int .u8 160), .lit (.int .u8 191)], .agg [.lit (.int .u8 128), .lit (.int .u8 159)], .agg [.lit (.int .u8 144), .lit (.int .u8 191)], .agg [.lit (.int .u8 128), .lit (.int .u8 143)], .agg [.lit (.int .u8 0), .lit (.int .u8 0)], .agg [.lit (.int .u8 0), .lit (.int .u8 0)], .agg [.lit (.int .u8 0), .lit (.int .u8 0)], .agg [.lit (.int .u8 0), .lit (.int .u8 0)], .agg [.lit (.int .u8 0), .lit (.int .u8 0)], .agg [.lit (.int .u8 0), .lit (.int .u8 0)], .agg [.lit (.int .u8 0), .lit (.int .u8 0)], .agg [.lit (.int .u8 0), .lit (.int .u8 0)], .agg [.lit (.int .u8 0), .lit (.int .u8 0)], .agg [.lit (.int .u8 0), .lit (.int .u8 0)], .agg [.lit (.int .u8 0), .lit (.int .u8 0)]]
/-- One of Go's own tables, pinned by name: the form's constant. -/
def laid_unicode_utf8_first : DataW Unit := Go.Pinned.utf8First

/-- 'hexaplalaw01.SrcSteps': WHATEVER THE INPUT: true; the input reads as it did. -/
def srcStepsSpec : ChangeSpec := { name := "srcSteps", fn := fun _ => fun
  | [d] => { results := [.lit (.bool true)], args := [d] }
  | _ => none }
def srcStepsRow : OpenClaim := { program := "ytapdipjcgjmdgaadoor", sum := "a3b56b09d34e349d9f665b132a8d367a1cd91894dddab4bde97abc2185c227f4", func := "hexapla/hexaplalaw01.SrcSteps", spec := "srcSteps", recurses := true, named := ["unicode/utf8.first", "unicode/utf8.acceptRanges"], apart := false, laid := [("unicode/utf8.acceptRanges", laid_unicode_utf8_acceptRanges), ("unicode/utf8.first", laid_unicode_utf8_first)] }
def SrcStepsSaid : Prop := srcStepsRow.holds Tryd.pinned (OpenSpec.ofChange srcStepsSpec)

/-- ITS FALSE NEIGHBOUR: 'it returns false'. Refute it at one input. -/
def srcStepsWrong : ChangeSpec := { name := "srcSteps", fn := fun _ => fun
  | [d] => { results := [.lit (.bool false)], args := [d] }
  | _ => none }
def SrcStepsWrongFalsely : Prop := srcStepsRow.holds Tryd.pinned (OpenSpec.ofChange srcStepsWrong)

/-- 'hexaplalaw01.SrcRunes': WHATEVER THE INPUT: true; the input reads as it did. -/
def srcRunesSpec : ChangeSpec := { name := "srcRunes", fn := fun _ => fun
  | [d] => { results := [.lit (.bool true)], args := [d] }
  | _ => none }
def srcRunesRow : OpenClaim := { program := "ytapdipjcgjmdgaadoor", sum := "a3b56b09d34e349d9f665b132a8d367a1cd91894dddab4bde97abc2185c227f4", func := "hexapla/hexaplalaw01.SrcRunes", spec := "srcRunes", named := ["unicode/utf8.first", "unicode/utf8.acceptRanges"], apart := false, laid := [("unicode/utf8.acceptRanges", laid_unicode_utf8_acceptRanges), ("unicode/utf8.first", laid_unicode_utf8_first)] }
def SrcRunesSaid : Prop := srcRunesRow.holds Tryd.pinned (OpenSpec.ofChange srcRunesSpec)

/-- ITS FALSE NEIGHBOUR: 'it returns false'. Refute it at one input. -/
def srcRunesWrong : ChangeSpec := { name := "srcRunes", fn := fun _ => fun
  | [d] => { results := [.lit (.bool false)], args := [d] }
  | _ => none }
def SrcRunesWrongFalsely : Prop := srcRunesRow.holds Tryd.pinned (OpenSpec.ofChange srcRunesWrong)

/-- 'hexaplalaw01.SrcPuts': WHATEVER THE INPUT: true; the input reads as it did. -/
def srcPutsSpec : ChangeSpec := { name := "srcPuts", fn := fun _ => fun
  | [d] => { results := [.lit (.bool true)], args := [d] }
  | _ => none }
def srcPutsRow : OpenClaim := { program := "ytapdipjcgjmdgaadoor", sum := "a3b56b09d34e349d9f665b132a8d367a1cd91894dddab4bde97abc2185c227f4", func := "hexapla/hexaplalaw01.SrcPuts", spec := "srcPuts", named := ["unicode/utf8.first", "unicode/utf8.acceptRanges"], apart := false, laid := [("unicode/utf8.acceptRanges", laid_unicode_utf8_acceptRanges), ("unicode/utf8.first", laid_unicode_utf8_first)] }
def SrcPutsSaid : Prop := srcPutsRow.holds Tryd.pinned (OpenSpec.ofChange srcPutsSpec)

/-- ITS FALSE NEIGHBOUR: 'it returns false'. Refute it at one input. -/
def srcPutsWrong : ChangeSpec := { name := "srcPuts", fn := fun _ => fun
  | [d] => { results := [.lit (.bool false)], args := [d] }
  | _ => none }
def SrcPutsWrongFalsely : Prop := srcPutsRow.holds Tryd.pinned (OpenSpec.ofChange srcPutsWrong)

/-- 'hexaplalaw01.SrcBack': WHATEVER THE INPUT: true; the input reads as it did. -/
def srcBackSpec : ChangeSpec := { name := "srcBack", fn := fun _ => fun
  | [d] => { results := [.lit (.bool true)], args := [d] }
  | _ => none }
def srcBackRow : OpenClaim := { program := "ytapdipjcgjmdgaadoor", sum := "a3b56b09d34e349d9f665b132a8d367a1cd91894dddab4bde97abc2185c227f4", func := "hexapla/hexaplalaw01.SrcBack", spec := "srcBack", named := ["unicode/utf8.first", "unicode/utf8.acceptRanges"], apart := false, laid := [("unicode/utf8.acceptRanges", laid_unicode_utf8_acceptRanges), ("unicode/utf8.first", laid_unicode_utf8_first)] }
def SrcBackSaid : Prop := srcBackRow.holds Tryd.pinned (OpenSpec.ofChange srcBackSpec)

/-- ITS FALSE NEIGHBOUR: 'it returns false'. Refute it at one input. -/
def srcBackWrong : ChangeSpec := { name := "srcBack", fn := fun _ => fun
  | [d] => { results := [.lit (.bool false)], args := [d] }
  | _ => none }
def SrcBackWrongFalsely : Prop := srcBackRow.holds Tryd.pinned (OpenSpec.ofChange srcBackWrong)

/-- 'hexaplalaw01.SrcWhole': WHATEVER THE INPUT: true; the input reads as it did. -/
def srcWholeSpec : ChangeSpec := { name := "srcWhole", fn := fun _ => fun
  | [d] => { results := [.lit (.bool true)], args := [d] }
  | _ => none }
def srcWholeRow : OpenClaim := { program := "ytapdipjcgjmdgaadoor", sum := "a3b56b09d34e349d9f665b132a8d367a1cd91894dddab4bde97abc2185c227f4", func := "hexapla/hexaplalaw01.SrcWhole", spec := "srcWhole", named := ["unicode/utf8.first", "unicode/utf8.acceptRanges"], apart := false, laid := [("unicode/utf8.acceptRanges", laid_unicode_utf8_acceptRanges), ("unicode/utf8.first", laid_unicode_utf8_first)] }
def SrcWholeSaid : Prop := srcWholeRow.holds Tryd.pinned (OpenSpec.ofChange srcWholeSpec)

/-- ITS FALSE NEIGHBOUR: 'it returns false'. Refute it at one input. -/
def srcWholeWrong : ChangeSpec := { name := "srcWhole", fn := fun _ => fun
  | [d] => { results := [.lit (.bool false)], args := [d] }
  | _ => none }
def SrcWholeWrongFalsely : Prop := srcWholeRow.holds Tryd.pinned (OpenSpec.ofChange srcWholeWrong)

/-- 'hexaplalaw01.SrcPlaces': WHATEVER THE INPUT: true; the input reads as it did. -/
def srcPlacesSpec : ChangeSpec := { name := "srcPlaces", fn := fun _ => fun
  | [d1, d2] => { results := [.lit (.bool true)], args := [d1, d2] }
  | _ => none }
def srcPlacesRow : OpenClaim := { program := "ytapdipjcgjmdgaadoor", sum := "a3b56b09d34e349d9f665b132a8d367a1cd91894dddab4bde97abc2185c227f4", func := "hexapla/hexaplalaw01.SrcPlaces", spec := "srcPlaces", named := ["unicode/utf8.first", "unicode/utf8.acceptRanges"], apart := false, laid := [("unicode/utf8.acceptRanges", laid_unicode_utf8_acceptRanges), ("unicode/utf8.first", laid_unicode_utf8_first)] }
def SrcPlacesSaid : Prop := srcPlacesRow.holds Tryd.pinned (OpenSpec.ofChange srcPlacesSpec)

/-- ITS FALSE NEIGHBOUR: 'it returns false'. Refute it at one input. -/
def srcPlacesWrong : ChangeSpec := { name := "srcPlaces", fn := fun _ => fun
  | [d1, d2] => { results := [.lit (.bool false)], args := [d1, d2] }
  | _ => none }
def SrcPlacesWrongFalsely : Prop := srcPlacesRow.holds Tryd.pinned (OpenSpec.ofChange srcPlacesWrong)

/-- 'hexaplalaw01.SrcRises': WHATEVER THE INPUT: true; the input reads as it did. -/
def srcRisesSpec : ChangeSpec := { name := "srcRises", fn := fun _ => fun
  | [d1, d2, d3] => { results := [.lit (.bool true)], args := [d1, d2, d3] }
  | _ => none }
def srcRisesRow : OpenClaim := { program := "ytapdipjcgjmdgaadoor", sum := "a3b56b09d34e349d9f665b132a8d367a1cd91894dddab4bde97abc2185c227f4", func := "hexapla/hexaplalaw01.SrcRises", spec := "srcRises", named := ["unicode/utf8.first", "unicode/utf8.acceptRanges"], apart := false, laid := [("unicode/utf8.acceptRanges", laid_unicode_utf8_acceptRanges), ("unicode/utf8.first", laid_unicode_utf8_first)] }
def SrcRisesSaid : Prop := srcRisesRow.holds Tryd.pinned (OpenSpec.ofChange srcRisesSpec)

/-- ITS FALSE NEIGHBOUR: 'it returns false'. Refute it at one input. -/
def srcRisesWrong : ChangeSpec := { name := "srcRises", fn := fun _ => fun
  | [d1, d2, d3] => { results := [.lit (.bool false)], args := [d1, d2, d3] }
  | _ => none }
def SrcRisesWrongFalsely : Prop := srcRisesRow.holds Tryd.pinned (OpenSpec.ofChange srcRisesWrong)

/- THE SECOND FORM. 'bulk': how many values and letters a reading holds, each counted each time it is reached (what is shared counts as often as it is met; a slice's spare places count too). A statement '..UptoSaid' is the law's where the arguments, and the package variables that the reading takes, are together of bulk at most 1048576: NARROWER than '..Said'. Prove '..Said' where nothing that the law and all that it calls make is longer than what came in: it says more and counts as full. Else prove '..UptoSaid'. A law counts once. -/
mutual
def uptoBulk {H : Type} : DataW H → Nat
  | .lit (.string bytes) => bytes.length + 1
  | .lit _ => 1
  | .nil => 1
  | .ptr d => uptoBulk d + 1
  | .slice elems spare => uptoBulkAll elems + uptoBulkAll spare + 1
  | .agg parts => uptoBulkAll parts + 1
  | .iface _ d => uptoBulk d + 1
  | .map entries => uptoBulkEntries entries + 1
  | .held _ => 1
def uptoBulkAll {H : Type} : List (DataW H) → Nat
  | [] => 0
  | d :: r => uptoBulk d + uptoBulkAll r
def uptoBulkEntries {H : Type} : List (Lit × DataW H) → Nat
  | [] => 0
  | x :: r => uptoBulkEntry x + uptoBulkEntries r
def uptoBulkEntry {H : Type} : Lit × DataW H → Nat
  | (.string bytes, d) => bytes.length + uptoBulk d + 1
  | (_, d) => uptoBulk d + 1
 end
def uptoSmall : (H : Type) → List (DataW H) → Bool := fun _ ds => decide (uptoBulkAll ds ≤ 1048576)
def OpenSpec.upto (s : _root_.Go.ChangeSpec) : _root_.Go.OpenSpec := { _root_.Go.OpenSpec.ofChange s with cond := some uptoSmall }

/-- 'hexaplalaw01.SrcSteps', WHERE WHAT IT READS IS OF BULK AT MOST 1048576: true; the input reads as it did. -/
def srcStepsUptoRow : OpenClaim := { program := "ytapdipjcgjmdgaadoor", sum := "a3b56b09d34e349d9f665b132a8d367a1cd91894dddab4bde97abc2185c227f4", func := "hexapla/hexaplalaw01.SrcSteps", spec := "srcSteps", recurses := true, named := ["unicode/utf8.first", "unicode/utf8.acceptRanges"], apart := false, laid := [("unicode/utf8.acceptRanges", laid_unicode_utf8_acceptRanges), ("unicode/utf8.first", laid_unicode_utf8_first)], narrowed := true }
def SrcStepsUptoSaid : Prop := srcStepsUptoRow.holds Tryd.pinned (OpenSpec.upto srcStepsSpec)

/-- 'hexaplalaw01.SrcRunes', WHERE WHAT IT READS IS OF BULK AT MOST 1048576: true; the input reads as it did. -/
def srcRunesUptoRow : OpenClaim := { program := "ytapdipjcgjmdgaadoor", sum := "a3b56b09d34e349d9f665b132a8d367a1cd91894dddab4bde97abc2185c227f4", func := "hexapla/hexaplalaw01.SrcRunes", spec := "srcRunes", named := ["unicode/utf8.first", "unicode/utf8.acceptRanges"], apart := false, laid := [("unicode/utf8.acceptRanges", laid_unicode_utf8_acceptRanges), ("unicode/utf8.first", laid_unicode_utf8_first)], narrowed := true }
def SrcRunesUptoSaid : Prop := srcRunesUptoRow.holds Tryd.pinned (OpenSpec.upto srcRunesSpec)

/-- 'hexaplalaw01.SrcPuts', WHERE WHAT IT READS IS OF BULK AT MOST 1048576: true; the input reads as it did. -/
def srcPutsUptoRow : OpenClaim := { program := "ytapdipjcgjmdgaadoor", sum := "a3b56b09d34e349d9f665b132a8d367a1cd91894dddab4bde97abc2185c227f4", func := "hexapla/hexaplalaw01.SrcPuts", spec := "srcPuts", named := ["unicode/utf8.first", "unicode/utf8.acceptRanges"], apart := false, laid := [("unicode/utf8.acceptRanges", laid_unicode_utf8_acceptRanges), ("unicode/utf8.first", laid_unicode_utf8_first)], narrowed := true }
def SrcPutsUptoSaid : Prop := srcPutsUptoRow.holds Tryd.pinned (OpenSpec.upto srcPutsSpec)

/-- 'hexaplalaw01.SrcBack', WHERE WHAT IT READS IS OF BULK AT MOST 1048576: true; the input reads as it did. -/
def srcBackUptoRow : OpenClaim := { program := "ytapdipjcgjmdgaadoor", sum := "a3b56b09d34e349d9f665b132a8d367a1cd91894dddab4bde97abc2185c227f4", func := "hexapla/hexaplalaw01.SrcBack", spec := "srcBack", named := ["unicode/utf8.first", "unicode/utf8.acceptRanges"], apart := false, laid := [("unicode/utf8.acceptRanges", laid_unicode_utf8_acceptRanges), ("unicode/utf8.first", laid_unicode_utf8_first)], narrowed := true }
def SrcBackUptoSaid : Prop := srcBackUptoRow.holds Tryd.pinned (OpenSpec.upto srcBackSpec)

/-- 'hexaplalaw01.SrcWhole', WHERE WHAT IT READS IS OF BULK AT MOST 1048576: true; the input reads as it did. -/
def srcWholeUptoRow : OpenClaim := { program := "ytapdipjcgjmdgaadoor", sum := "a3b56b09d34e349d9f665b132a8d367a1cd91894dddab4bde97abc2185c227f4", func := "hexapla/hexaplalaw01.SrcWhole", spec := "srcWhole", named := ["unicode/utf8.first", "unicode/utf8.acceptRanges"], apart := false, laid := [("unicode/utf8.acceptRanges", laid_unicode_utf8_acceptRanges), ("unicode/utf8.first", laid_unicode_utf8_first)], narrowed := true }
def SrcWholeUptoSaid : Prop := srcWholeUptoRow.holds Tryd.pinned (OpenSpec.upto srcWholeSpec)

/-- 'hexaplalaw01.SrcPlaces', WHERE WHAT IT READS IS OF BULK AT MOST 1048576: true; the input reads as it did. -/
def srcPlacesUptoRow : OpenClaim := { program := "ytapdipjcgjmdgaadoor", sum := "a3b56b09d34e349d9f665b132a8d367a1cd91894dddab4bde97abc2185c227f4", func := "hexapla/hexaplalaw01.SrcPlaces", spec := "srcPlaces", named := ["unicode/utf8.first", "unicode/utf8.acceptRanges"], apart := false, laid := [("unicode/utf8.acceptRanges", laid_unicode_utf8_acceptRanges), ("unicode/utf8.first", laid_unicode_utf8_first)], narrowed := true }
def SrcPlacesUptoSaid : Prop := srcPlacesUptoRow.holds Tryd.pinned (OpenSpec.upto srcPlacesSpec)

/-- 'hexaplalaw01.SrcRises', WHERE WHAT IT READS IS OF BULK AT MOST 1048576: true; the input reads as it did. -/
def srcRisesUptoRow : OpenClaim := { program := "ytapdipjcgjmdgaadoor", sum := "a3b56b09d34e349d9f665b132a8d367a1cd91894dddab4bde97abc2185c227f4", func := "hexapla/hexaplalaw01.SrcRises", spec := "srcRises", named := ["unicode/utf8.first", "unicode/utf8.acceptRanges"], apart := false, laid := [("unicode/utf8.acceptRanges", laid_unicode_utf8_acceptRanges), ("unicode/utf8.first", laid_unicode_utf8_first)], narrowed := true }
def SrcRisesUptoSaid : Prop := srcRisesUptoRow.holds Tryd.pinned (OpenSpec.upto srcRisesSpec)

end Rows
end Go.Proofs.YtapdipjcgjmdgaaDoor
