/-
  DERIVED. GIVEN WITH THE SEED: THE CARDS: each row of YtadbjbnnmooicaaDoorRows.lean that lists a variable, with what it lists TIED to the program's text (the seventh form; the later family's looks); each row that meets fmt, with fmt's text TOLD by the authors' own Lean function (tested against real Go, not proved from fmt's source: count such statements apart). THE CARD IS WHAT COUNTS. Prove the row's statement (the work); the ties are given (YtadbjbnnmooicaaDoorTie.lean); close each card by the builder's one call (the guide's Derived/Test/ToyasCard.lean, 'card_holds'). Laid BY PROGRAM, IN A SANDBOX (cutbox-door.mjs). By AI agents, Wed Nov 11 2026. No macro, syntax, notation, axiom, sorry.
-/
import Derived.Test.YtadbjbnnmooicaaDoorRows
import GoSem.ClaimSeven
namespace Go.Proofs.YtadbjbnnmooicaaDoor
namespace Rows

/-- THE TIED CARD OF 'hexaplalaw03.QuoteSteps'. -/
def quoteStepsCard : Claim7 := { stood := { row := quoteStepsRow, standIns := [], harness := (true, "6a09c2b541b648fe82262668f354e4593ff893c694cea04c36bb8260d82eedac"), looks := false }, kinds := [], alts := [], laidByText := true, laidKinds := [.data, .pinned], laidTests := true, laidLooks := .later }
def QuoteStepsCardSaid : Prop := Claim7.holds Tryd.pinned (.plain (OpenSpec.ofChange quoteStepsSpec)) quoteStepsCard

/-- THE TIED CARD OF 'hexaplalaw03.QuoteGrows'. -/
def quoteGrowsCard : Claim7 := { stood := { row := quoteGrowsRow, standIns := [], harness := (true, "6a09c2b541b648fe82262668f354e4593ff893c694cea04c36bb8260d82eedac"), looks := false }, kinds := [], alts := [], laidByText := true, laidKinds := [.data, .pinned], laidTests := true, laidLooks := .later }
def QuoteGrowsCardSaid : Prop := Claim7.holds Tryd.pinned (.plain (OpenSpec.ofChange quoteGrowsSpec)) quoteGrowsCard

/-- THE TIED CARD OF 'hexaplalaw03.QuotePrints'. -/
def quotePrintsCard : Claim7 := { stood := { row := quotePrintsRow, standIns := [], harness := (true, "6a09c2b541b648fe82262668f354e4593ff893c694cea04c36bb8260d82eedac"), looks := false }, kinds := [], alts := [], laidByText := true, laidKinds := [.data, .pinned], laidTests := true, laidLooks := .later }
def QuotePrintsCardSaid : Prop := Claim7.holds Tryd.pinned (.plain (OpenSpec.ofChange quotePrintsSpec)) quotePrintsCard

/-- THE TIED CARD OF 'hexaplalaw03.QuoteRound'. -/
def quoteRoundCard : Claim7 := { stood := { row := quoteRoundRow, standIns := [], harness := (true, "6a09c2b541b648fe82262668f354e4593ff893c694cea04c36bb8260d82eedac"), looks := false }, kinds := [], alts := [], laidByText := true, laidKinds := [.data, .pinned], laidTests := true, laidLooks := .later }
def QuoteRoundCardSaid : Prop := Claim7.holds Tryd.pinned (.plain (OpenSpec.ofChange quoteRoundSpec)) quoteRoundCard

/-- THE TIED CARD OF 'hexaplalaw03.QuoteApart'. -/
def quoteApartCard : Claim7 := { stood := { row := quoteApartRow, standIns := [], harness := (true, "6a09c2b541b648fe82262668f354e4593ff893c694cea04c36bb8260d82eedac"), looks := false }, kinds := [], alts := [], laidByText := true, laidKinds := [.data, .pinned], laidTests := true, laidLooks := .later }
def QuoteApartCardSaid : Prop := Claim7.holds Tryd.pinned (.plain (OpenSpec.ofChange quoteApartSpec)) quoteApartCard

/-- THE TIED CARD OF 'hexaplalaw03.QuoteEscapes'. -/
def quoteEscapesCard : Claim7 := { stood := { row := quoteEscapesRow, standIns := [], harness := (true, "6a09c2b541b648fe82262668f354e4593ff893c694cea04c36bb8260d82eedac"), looks := false }, kinds := [], alts := [], laidByText := true, laidKinds := [.data, .pinned], laidTests := true, laidLooks := .later }
def QuoteEscapesCardSaid : Prop := Claim7.holds Tryd.pinned (.plain (OpenSpec.ofChange quoteEscapesSpec)) quoteEscapesCard

/-- THE SECOND FORM's CARD OF 'hexaplalaw03.QuoteSteps'. -/
def quoteStepsUptoCard : Claim7 := { stood := { row := quoteStepsUptoRow, standIns := [], harness := (true, "6a09c2b541b648fe82262668f354e4593ff893c694cea04c36bb8260d82eedac"), looks := false }, kinds := [], alts := [], laidByText := true, laidKinds := [.data, .pinned], laidTests := true, laidLooks := .later }
def QuoteStepsUptoCardSaid : Prop := Claim7.holds Tryd.pinned (.plain (OpenSpec.upto quoteStepsSpec)) quoteStepsUptoCard

/-- THE SECOND FORM's CARD OF 'hexaplalaw03.QuoteGrows'. -/
def quoteGrowsUptoCard : Claim7 := { stood := { row := quoteGrowsUptoRow, standIns := [], harness := (true, "6a09c2b541b648fe82262668f354e4593ff893c694cea04c36bb8260d82eedac"), looks := false }, kinds := [], alts := [], laidByText := true, laidKinds := [.data, .pinned], laidTests := true, laidLooks := .later }
def QuoteGrowsUptoCardSaid : Prop := Claim7.holds Tryd.pinned (.plain (OpenSpec.upto quoteGrowsSpec)) quoteGrowsUptoCard

/-- THE SECOND FORM's CARD OF 'hexaplalaw03.QuotePrints'. -/
def quotePrintsUptoCard : Claim7 := { stood := { row := quotePrintsUptoRow, standIns := [], harness := (true, "6a09c2b541b648fe82262668f354e4593ff893c694cea04c36bb8260d82eedac"), looks := false }, kinds := [], alts := [], laidByText := true, laidKinds := [.data, .pinned], laidTests := true, laidLooks := .later }
def QuotePrintsUptoCardSaid : Prop := Claim7.holds Tryd.pinned (.plain (OpenSpec.upto quotePrintsSpec)) quotePrintsUptoCard

/-- THE SECOND FORM's CARD OF 'hexaplalaw03.QuoteRound'. -/
def quoteRoundUptoCard : Claim7 := { stood := { row := quoteRoundUptoRow, standIns := [], harness := (true, "6a09c2b541b648fe82262668f354e4593ff893c694cea04c36bb8260d82eedac"), looks := false }, kinds := [], alts := [], laidByText := true, laidKinds := [.data, .pinned], laidTests := true, laidLooks := .later }
def QuoteRoundUptoCardSaid : Prop := Claim7.holds Tryd.pinned (.plain (OpenSpec.upto quoteRoundSpec)) quoteRoundUptoCard

/-- THE SECOND FORM's CARD OF 'hexaplalaw03.QuoteApart'. -/
def quoteApartUptoCard : Claim7 := { stood := { row := quoteApartUptoRow, standIns := [], harness := (true, "6a09c2b541b648fe82262668f354e4593ff893c694cea04c36bb8260d82eedac"), looks := false }, kinds := [], alts := [], laidByText := true, laidKinds := [.data, .pinned], laidTests := true, laidLooks := .later }
def QuoteApartUptoCardSaid : Prop := Claim7.holds Tryd.pinned (.plain (OpenSpec.upto quoteApartSpec)) quoteApartUptoCard

/-- THE SECOND FORM's CARD OF 'hexaplalaw03.QuoteEscapes'. -/
def quoteEscapesUptoCard : Claim7 := { stood := { row := quoteEscapesUptoRow, standIns := [], harness := (true, "6a09c2b541b648fe82262668f354e4593ff893c694cea04c36bb8260d82eedac"), looks := false }, kinds := [], alts := [], laidByText := true, laidKinds := [.data, .pinned], laidTests := true, laidLooks := .later }
def QuoteEscapesUptoCardSaid : Prop := Claim7.holds Tryd.pinned (.plain (OpenSpec.upto quoteEscapesSpec)) quoteEscapesUptoCard
end Rows
end Go.Proofs.YtadbjbnnmooicaaDoor
