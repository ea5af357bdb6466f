/-
  No cell of these rows narrows 'for every input' (looked for: loops, veiled, ifaces, maps, wideKeys, modest, calm, conditions, laid).
  DERIVED. THE GIVEN ROWS OF THIS SEAT. 5 by the template 'for every input the law returns true; each argument reads behind the call as it read before'; 0 by the template 'total and deterministic' (their statements: YtalaedpiimdcbaaTotals.lean).
  GIVEN WITH THE SEED: the statements are not yours to turn. If you find one false, say at which input.
  Laid BY PROGRAM, IN A SANDBOX (cutbox-rows.mjs): the forced cells as the released guide's own fill.sh prints them over the translation 050ead762e9ee152… (all of the seat's roots in one cut). By AI agents, Wed Nov 11 2026. No macro, syntax, notation, axiom, sorry.
-/
import Derived.Test.YtalaedpiimdcbaaChecked
import GoSem.Claim
import GoSem.ClaimJoined
import GoSem.ClaimMapViews
import Derived.JoinedTies
import Derived.KernelRfl
namespace Go.Proofs.Ytalaedpiimdcbaa
/- THE CELL 'sum', in the pinned program and in every row, IS THE sha256 OF THE DUMP (.gsa) THAT YtalaedpiimdcbaaProg.lean LOADS. Nothing in Lean hashes anything: it is a label: what it is worth is what the hold of that sum in a sandbox is worth. -/
noncomputable def Try.pinned : Pinned := { name := "ytalaedpiimdcbaa", sum := "050ead762e9ee152cbfb17ed3d14a65016812c5e2aa252cdd5fc1d0fd8ad55bb", checked := Try.checked }
namespace Rows
def none {H : Type} : Left H := { results := [], args := [] }

/-- 'hexaplalaw09.DelimChunks': WHATEVER THE INPUT: true; the input reads as it did. -/
def delimChunksSpec : ChangeSpec := { name := "delimChunks", fn := fun _ => fun
  | [d1, d2, d3] => { results := [.lit (.bool true)], args := [d1, d2, d3] }
  | _ => none }
def delimChunksRow : OpenClaim := { program := "ytalaedpiimdcbaa", sum := "050ead762e9ee152cbfb17ed3d14a65016812c5e2aa252cdd5fc1d0fd8ad55bb", func := "hexapla/hexaplalaw09.DelimChunks", spec := "delimChunks", unfollowed := true, recurses := true, apart := false }
def DelimChunksSaid : Prop := delimChunksRow.holds Try.pinned (OpenSpec.ofChange delimChunksSpec)

/-- ITS FALSE NEIGHBOUR: 'it returns false'. Refute it at one input. -/
def delimChunksWrong : ChangeSpec := { name := "delimChunks", fn := fun _ => fun
  | [d1, d2, d3] => { results := [.lit (.bool false)], args := [d1, d2, d3] }
  | _ => none }
def DelimChunksWrongFalsely : Prop := delimChunksRow.holds Try.pinned (OpenSpec.ofChange delimChunksWrong)

/-- 'hexaplalaw09.DelimEarly': WHATEVER THE INPUT: true; the input reads as it did. -/
def delimEarlySpec : ChangeSpec := { name := "delimEarly", fn := fun _ => fun
  | [d1, d2] => { results := [.lit (.bool true)], args := [d1, d2] }
  | _ => none }
def delimEarlyRow : OpenClaim := { program := "ytalaedpiimdcbaa", sum := "050ead762e9ee152cbfb17ed3d14a65016812c5e2aa252cdd5fc1d0fd8ad55bb", func := "hexapla/hexaplalaw09.DelimEarly", spec := "delimEarly", unfollowed := true, recurses := true, apart := false }
def DelimEarlySaid : Prop := delimEarlyRow.holds Try.pinned (OpenSpec.ofChange delimEarlySpec)

/-- ITS FALSE NEIGHBOUR: 'it returns false'. Refute it at one input. -/
def delimEarlyWrong : ChangeSpec := { name := "delimEarly", fn := fun _ => fun
  | [d1, d2] => { results := [.lit (.bool false)], args := [d1, d2] }
  | _ => none }
def DelimEarlyWrongFalsely : Prop := delimEarlyRow.holds Try.pinned (OpenSpec.ofChange delimEarlyWrong)

/-- 'hexaplalaw09.DelimSpec': WHATEVER THE INPUT: true; the input reads as it did. -/
def delimSpecSpec : ChangeSpec := { name := "delimSpec", fn := fun _ => fun
  | [d] => { results := [.lit (.bool true)], args := [d] }
  | _ => none }
def delimSpecRow : OpenClaim := { program := "ytalaedpiimdcbaa", sum := "050ead762e9ee152cbfb17ed3d14a65016812c5e2aa252cdd5fc1d0fd8ad55bb", func := "hexapla/hexaplalaw09.DelimSpec", spec := "delimSpec", unfollowed := true, recurses := true, apart := false }
def DelimSpecSaid : Prop := delimSpecRow.holds Try.pinned (OpenSpec.ofChange delimSpecSpec)

/-- ITS FALSE NEIGHBOUR: 'it returns false'. Refute it at one input. -/
def delimSpecWrong : ChangeSpec := { name := "delimSpec", fn := fun _ => fun
  | [d] => { results := [.lit (.bool false)], args := [d] }
  | _ => none }
def DelimSpecWrongFalsely : Prop := delimSpecRow.holds Try.pinned (OpenSpec.ofChange delimSpecWrong)

/-- 'hexaplalaw09.DelimStays': WHATEVER THE INPUT: true; the input reads as it did. -/
def delimStaysSpec : ChangeSpec := { name := "delimStays", fn := fun _ => fun
  | [d] => { results := [.lit (.bool true)], args := [d] }
  | _ => none }
def delimStaysRow : OpenClaim := { program := "ytalaedpiimdcbaa", sum := "050ead762e9ee152cbfb17ed3d14a65016812c5e2aa252cdd5fc1d0fd8ad55bb", func := "hexapla/hexaplalaw09.DelimStays", spec := "delimStays", unfollowed := true, recurses := true, apart := false }
def DelimStaysSaid : Prop := delimStaysRow.holds Try.pinned (OpenSpec.ofChange delimStaysSpec)

/-- ITS FALSE NEIGHBOUR: 'it returns false'. Refute it at one input. -/
def delimStaysWrong : ChangeSpec := { name := "delimStays", fn := fun _ => fun
  | [d] => { results := [.lit (.bool false)], args := [d] }
  | _ => none }
def DelimStaysWrongFalsely : Prop := delimStaysRow.holds Try.pinned (OpenSpec.ofChange delimStaysWrong)

/-- 'hexaplalaw09.DelimQuotes': WHATEVER THE INPUT: true; the input reads as it did. -/
def delimQuotesSpec : ChangeSpec := { name := "delimQuotes", fn := fun _ => fun
  | [d] => { results := [.lit (.bool true)], args := [d] }
  | _ => none }
def delimQuotesRow : OpenClaim := { program := "ytalaedpiimdcbaa", sum := "050ead762e9ee152cbfb17ed3d14a65016812c5e2aa252cdd5fc1d0fd8ad55bb", func := "hexapla/hexaplalaw09.DelimQuotes", spec := "delimQuotes", unfollowed := true, recurses := true, apart := false }
def DelimQuotesSaid : Prop := delimQuotesRow.holds Try.pinned (OpenSpec.ofChange delimQuotesSpec)

/-- ITS FALSE NEIGHBOUR: 'it returns false'. Refute it at one input. -/
def delimQuotesWrong : ChangeSpec := { name := "delimQuotes", fn := fun _ => fun
  | [d] => { results := [.lit (.bool false)], args := [d] }
  | _ => none }
def DelimQuotesWrongFalsely : Prop := delimQuotesRow.holds Try.pinned (OpenSpec.ofChange delimQuotesWrong)

/- THE SECOND FORM. 'bulk': how many values and letters a reading holds, each counted each time it is reached (what is shared counts as often as it is met; a slice's spare places count too). A statement '..UptoSaid' is the law's where the arguments, and the package variables that the reading takes, are together of bulk at most 1048576: NARROWER than '..Said'. Prove '..Said' where nothing that the law and all that it calls make is longer than what came in: it says more and counts as full. Else prove '..UptoSaid'. A law counts once. -/
mutual
def uptoBulk {H : Type} : DataW H → Nat
  | .lit (.string bytes) => bytes.length + 1
  | .lit _ => 1
  | .nil => 1
  | .ptr d => uptoBulk d + 1
  | .slice elems spare => uptoBulkAll elems + uptoBulkAll spare + 1
  | .agg parts => uptoBulkAll parts + 1
  | .iface _ d => uptoBulk d + 1
  | .map entries => uptoBulkEntries entries + 1
  | .held _ => 1
def uptoBulkAll {H : Type} : List (DataW H) → Nat
  | [] => 0
  | d :: r => uptoBulk d + uptoBulkAll r
def uptoBulkEntries {H : Type} : List (Lit × DataW H) → Nat
  | [] => 0
  | x :: r => uptoBulkEntry x + uptoBulkEntries r
def uptoBulkEntry {H : Type} : Lit × DataW H → Nat
  | (.string bytes, d) => bytes.length + uptoBulk d + 1
  | (_, d) => uptoBulk d + 1
 end
def uptoSmall : (H : Type) → List (DataW H) → Bool := fun _ ds => decide (uptoBulkAll ds ≤ 1048576)
def OpenSpec.upto (s : _root_.Go.ChangeSpec) : _root_.Go.OpenSpec := { _root_.Go.OpenSpec.ofChange s with cond := some uptoSmall }

/-- 'hexaplalaw09.DelimChunks', WHERE WHAT IT READS IS OF BULK AT MOST 1048576: true; the input reads as it did. -/
def delimChunksUptoRow : OpenClaim := { program := "ytalaedpiimdcbaa", sum := "050ead762e9ee152cbfb17ed3d14a65016812c5e2aa252cdd5fc1d0fd8ad55bb", func := "hexapla/hexaplalaw09.DelimChunks", spec := "delimChunks", unfollowed := true, recurses := true, apart := false, narrowed := true }
def DelimChunksUptoSaid : Prop := delimChunksUptoRow.holds Try.pinned (OpenSpec.upto delimChunksSpec)

/-- 'hexaplalaw09.DelimEarly', WHERE WHAT IT READS IS OF BULK AT MOST 1048576: true; the input reads as it did. -/
def delimEarlyUptoRow : OpenClaim := { program := "ytalaedpiimdcbaa", sum := "050ead762e9ee152cbfb17ed3d14a65016812c5e2aa252cdd5fc1d0fd8ad55bb", func := "hexapla/hexaplalaw09.DelimEarly", spec := "delimEarly", unfollowed := true, recurses := true, apart := false, narrowed := true }
def DelimEarlyUptoSaid : Prop := delimEarlyUptoRow.holds Try.pinned (OpenSpec.upto delimEarlySpec)

/-- 'hexaplalaw09.DelimSpec', WHERE WHAT IT READS IS OF BULK AT MOST 1048576: true; the input reads as it did. -/
def delimSpecUptoRow : OpenClaim := { program := "ytalaedpiimdcbaa", sum := "050ead762e9ee152cbfb17ed3d14a65016812c5e2aa252cdd5fc1d0fd8ad55bb", func := "hexapla/hexaplalaw09.DelimSpec", spec := "delimSpec", unfollowed := true, recurses := true, apart := false, narrowed := true }
def DelimSpecUptoSaid : Prop := delimSpecUptoRow.holds Try.pinned (OpenSpec.upto delimSpecSpec)

/-- 'hexaplalaw09.DelimStays', WHERE WHAT IT READS IS OF BULK AT MOST 1048576: true; the input reads as it did. -/
def delimStaysUptoRow : OpenClaim := { program := "ytalaedpiimdcbaa", sum := "050ead762e9ee152cbfb17ed3d14a65016812c5e2aa252cdd5fc1d0fd8ad55bb", func := "hexapla/hexaplalaw09.DelimStays", spec := "delimStays", unfollowed := true, recurses := true, apart := false, narrowed := true }
def DelimStaysUptoSaid : Prop := delimStaysUptoRow.holds Try.pinned (OpenSpec.upto delimStaysSpec)

/-- 'hexaplalaw09.DelimQuotes', WHERE WHAT IT READS IS OF BULK AT MOST 1048576: true; the input reads as it did. -/
def delimQuotesUptoRow : OpenClaim := { program := "ytalaedpiimdcbaa", sum := "050ead762e9ee152cbfb17ed3d14a65016812c5e2aa252cdd5fc1d0fd8ad55bb", func := "hexapla/hexaplalaw09.DelimQuotes", spec := "delimQuotes", unfollowed := true, recurses := true, apart := false, narrowed := true }
def DelimQuotesUptoSaid : Prop := delimQuotesUptoRow.holds Try.pinned (OpenSpec.upto delimQuotesSpec)

end Rows
end Go.Proofs.Ytalaedpiimdcbaa
