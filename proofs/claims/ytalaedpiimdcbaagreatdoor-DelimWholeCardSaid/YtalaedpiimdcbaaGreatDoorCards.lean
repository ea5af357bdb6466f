/-
  DERIVED. GIVEN WITH THE SEED: THE CARDS: each row of YtalaedpiimdcbaaGreatDoorRows.lean that lists a variable, with what it lists TIED to the program's text (the seventh form; the later family's looks); each row that meets fmt, with fmt's text TOLD by the authors' own Lean function (tested against real Go, not proved from fmt's source: count such statements apart). THE CARD IS WHAT COUNTS. Prove the row's statement (the work); the ties are given (YtalaedpiimdcbaaGreatDoorTie.lean); close each card by the builder's one call (the guide's Derived/Test/ToyasCard.lean, 'card_holds'). Laid BY PROGRAM, IN A SANDBOX (cutbox-door.mjs). By AI agents, Wed Nov 11 2026. No macro, syntax, notation, axiom, sorry.
-/
import Derived.Test.YtalaedpiimdcbaaGreatDoorRows
import GoSem.ClaimSeven
namespace Go.Proofs.YtalaedpiimdcbaaGreatDoor
namespace Rows

/-- THE TIED CARD OF 'hexaplalaw09.DelimWhole'. -/
def delimWholeCard : Claim7 := { stood := { row := delimWholeRow, standIns := [], harness := (true, "377b6dbbc546ca074eb3e0354271028c34ea8862ae5eae0c8107b4f4fdc33043"), looks := true }, kinds := [], alts := [], laidByText := true, laidKinds := [.data, .data, .data, .data, .sentinel, .sentinel, .pinned, .pinned], laidTests := true, laidLooks := .later }
def DelimWholeCardSaid : Prop := Claim7.holds Tryz.pinned (.plain (OpenSpec.ofChange delimWholeSpec)) delimWholeCard

/-- THE SECOND FORM's CARD OF 'hexaplalaw09.DelimWhole'. -/
def delimWholeUptoCard : Claim7 := { stood := { row := delimWholeUptoRow, standIns := [], harness := (true, "377b6dbbc546ca074eb3e0354271028c34ea8862ae5eae0c8107b4f4fdc33043"), looks := true }, kinds := [], alts := [], laidByText := true, laidKinds := [.data, .data, .data, .data, .sentinel, .sentinel, .pinned, .pinned], laidTests := true, laidLooks := .later }
def DelimWholeUptoCardSaid : Prop := Claim7.holds Tryz.pinned (.plain (OpenSpec.upto delimWholeSpec)) delimWholeUptoCard
end Rows
end Go.Proofs.YtalaedpiimdcbaaGreatDoor
