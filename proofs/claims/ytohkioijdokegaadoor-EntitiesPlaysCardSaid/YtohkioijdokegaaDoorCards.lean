/-
  DERIVED. GIVEN WITH THE SEED: THE CARDS: each row of YtohkioijdokegaaDoorRows.lean that lists a variable, with what it lists TIED to the program's text (the seventh form; the later family's looks); each row that meets fmt, with fmt's text TOLD by the authors' own Lean function (tested against real Go, not proved from fmt's source: count such statements apart). THE CARD IS WHAT COUNTS. Prove the row's statement (the work); the ties are given (YtohkioijdokegaaDoorTie.lean); close each card by the builder's one call (the guide's Derived/Test/ToyasCard.lean, 'card_holds'). Laid BY PROGRAM, IN A SANDBOX (cutbox-door.mjs). By AI agents, Wed Nov 11 2026. No macro, syntax, notation, axiom, sorry.
-/
import Derived.Test.YtohkioijdokegaaDoorRows
import GoSem.ClaimSeven
namespace Go.Proofs.YtohkioijdokegaaDoor
namespace Rows

/-- THE TIED CARD OF 'hexaplalaw13.EntitiesPlays'. -/
def entitiesPlaysCard : Claim7 := { stood := { row := entitiesPlaysRow, standIns := [], harness := (true, "eb8b8ee1834a53cffc0796521292c23a0a77a582d82254010d61e81cf2bfb788"), looks := false }, kinds := [], alts := [], laidByText := true, laidKinds := [.data, .pinned], laidTests := true, laidLooks := .later }
def EntitiesPlaysCardSaid : Prop := Claim7.holds Tryd.pinned (.plain (OpenSpec.ofChange entitiesPlaysSpec)) entitiesPlaysCard

/-- THE TIED CARD OF 'hexaplalaw13.EntitiesPlain'. -/
def entitiesPlainCard : Claim7 := { stood := { row := entitiesPlainRow, standIns := [], harness := (true, "eb8b8ee1834a53cffc0796521292c23a0a77a582d82254010d61e81cf2bfb788"), looks := false }, kinds := [], alts := [], laidByText := true, laidKinds := [.data, .pinned], laidTests := true, laidLooks := .later }
def EntitiesPlainCardSaid : Prop := Claim7.holds Tryd.pinned (.plain (OpenSpec.ofChange entitiesPlainSpec)) entitiesPlainCard

/-- THE TIED CARD OF 'hexaplalaw13.EntitiesTells'. -/
def entitiesTellsCard : Claim7 := { stood := { row := entitiesTellsRow, standIns := [], harness := (true, "eb8b8ee1834a53cffc0796521292c23a0a77a582d82254010d61e81cf2bfb788"), looks := false }, kinds := [], alts := [], laidByText := true, laidKinds := [.data, .pinned], laidTests := true, laidLooks := .later }
def EntitiesTellsCardSaid : Prop := Claim7.holds Tryd.pinned (.plain (OpenSpec.ofChange entitiesTellsSpec)) entitiesTellsCard

/-- THE TIED CARD OF 'hexaplalaw13.EntitiesQuotes'. -/
def entitiesQuotesCard : Claim7 := { stood := { row := entitiesQuotesRow, standIns := [], harness := (true, "eb8b8ee1834a53cffc0796521292c23a0a77a582d82254010d61e81cf2bfb788"), looks := false }, kinds := [], alts := [], laidByText := true, laidKinds := [.data, .pinned], laidTests := true, laidLooks := .later }
def EntitiesQuotesCardSaid : Prop := Claim7.holds Tryd.pinned (.plain (OpenSpec.ofChange entitiesQuotesSpec)) entitiesQuotesCard

/-- THE SECOND FORM's CARD OF 'hexaplalaw13.EntitiesPlays'. -/
def entitiesPlaysUptoCard : Claim7 := { stood := { row := entitiesPlaysUptoRow, standIns := [], harness := (true, "eb8b8ee1834a53cffc0796521292c23a0a77a582d82254010d61e81cf2bfb788"), looks := false }, kinds := [], alts := [], laidByText := true, laidKinds := [.data, .pinned], laidTests := true, laidLooks := .later }
def EntitiesPlaysUptoCardSaid : Prop := Claim7.holds Tryd.pinned (.plain (OpenSpec.upto entitiesPlaysSpec)) entitiesPlaysUptoCard

/-- THE SECOND FORM's CARD OF 'hexaplalaw13.EntitiesPlain'. -/
def entitiesPlainUptoCard : Claim7 := { stood := { row := entitiesPlainUptoRow, standIns := [], harness := (true, "eb8b8ee1834a53cffc0796521292c23a0a77a582d82254010d61e81cf2bfb788"), looks := false }, kinds := [], alts := [], laidByText := true, laidKinds := [.data, .pinned], laidTests := true, laidLooks := .later }
def EntitiesPlainUptoCardSaid : Prop := Claim7.holds Tryd.pinned (.plain (OpenSpec.upto entitiesPlainSpec)) entitiesPlainUptoCard

/-- THE SECOND FORM's CARD OF 'hexaplalaw13.EntitiesTells'. -/
def entitiesTellsUptoCard : Claim7 := { stood := { row := entitiesTellsUptoRow, standIns := [], harness := (true, "eb8b8ee1834a53cffc0796521292c23a0a77a582d82254010d61e81cf2bfb788"), looks := false }, kinds := [], alts := [], laidByText := true, laidKinds := [.data, .pinned], laidTests := true, laidLooks := .later }
def EntitiesTellsUptoCardSaid : Prop := Claim7.holds Tryd.pinned (.plain (OpenSpec.upto entitiesTellsSpec)) entitiesTellsUptoCard

/-- THE SECOND FORM's CARD OF 'hexaplalaw13.EntitiesQuotes'. -/
def entitiesQuotesUptoCard : Claim7 := { stood := { row := entitiesQuotesUptoRow, standIns := [], harness := (true, "eb8b8ee1834a53cffc0796521292c23a0a77a582d82254010d61e81cf2bfb788"), looks := false }, kinds := [], alts := [], laidByText := true, laidKinds := [.data, .pinned], laidTests := true, laidLooks := .later }
def EntitiesQuotesUptoCardSaid : Prop := Claim7.holds Tryd.pinned (.plain (OpenSpec.upto entitiesQuotesSpec)) entitiesQuotesUptoCard
end Rows
end Go.Proofs.YtohkioijdokegaaDoor
