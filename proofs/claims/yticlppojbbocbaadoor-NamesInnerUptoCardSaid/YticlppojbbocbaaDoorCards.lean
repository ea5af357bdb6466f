/-
  DERIVED. GIVEN WITH THE SEED: THE CARDS: each row of YticlppojbbocbaaDoorRows.lean that lists a variable, with what it lists TIED to the program's text (the seventh form; the later family's looks); each row that meets fmt, with fmt's text TOLD by the authors' own Lean function (tested against real Go, not proved from fmt's source: count such statements apart). THE CARD IS WHAT COUNTS. Prove the row's statement (the work); the ties are given (YticlppojbbocbaaDoorTie.lean); close each card by the builder's one call (the guide's Derived/Test/ToyasCard.lean, 'card_holds'). Laid BY PROGRAM, IN A SANDBOX (cutbox-door.mjs). By AI agents, Wed Nov 11 2026. No macro, syntax, notation, axiom, sorry.
-/
import Derived.Test.YticlppojbbocbaaDoorRows
import GoSem.ClaimSeven
namespace Go.Proofs.YticlppojbbocbaaDoor
namespace Rows

/-- THE TIED CARD OF 'hexaplalaw04.NamesKinds'. -/
def namesKindsCard : Claim7 := { stood := { row := namesKindsRow, standIns := [], harness := (true, "ca1e2f2f2739d9c817290bba34d12837441673c9299faaef4a6fac793ed8b6a8"), looks := false }, kinds := [], alts := [], laidByText := true, laidKinds := [.data, .pinned], laidTests := true, laidLooks := .later }
def NamesKindsCardSaid : Prop := Claim7.holds Tryd.pinned (.plain (OpenSpec.ofChange namesKindsSpec)) namesKindsCard

/-- THE TIED CARD OF 'hexaplalaw04.NamesJoins'. -/
def namesJoinsCard : Claim7 := { stood := { row := namesJoinsRow, standIns := [], harness := (true, "ca1e2f2f2739d9c817290bba34d12837441673c9299faaef4a6fac793ed8b6a8"), looks := false }, kinds := [], alts := [], laidByText := true, laidKinds := [.data, .pinned], laidTests := true, laidLooks := .later }
def NamesJoinsCardSaid : Prop := Claim7.holds Tryd.pinned (.plain (OpenSpec.ofChange namesJoinsSpec)) namesJoinsCard

/-- THE TIED CARD OF 'hexaplalaw04.NamesCuts'. -/
def namesCutsCard : Claim7 := { stood := { row := namesCutsRow, standIns := [], harness := (true, "ca1e2f2f2739d9c817290bba34d12837441673c9299faaef4a6fac793ed8b6a8"), looks := false }, kinds := [], alts := [], laidByText := true, laidKinds := [.data, .pinned], laidTests := true, laidLooks := .later }
def NamesCutsCardSaid : Prop := Claim7.holds Tryd.pinned (.plain (OpenSpec.ofChange namesCutsSpec)) namesCutsCard

/-- THE TIED CARD OF 'hexaplalaw04.NamesApart'. -/
def namesApartCard : Claim7 := { stood := { row := namesApartRow, standIns := [], harness := (true, "ca1e2f2f2739d9c817290bba34d12837441673c9299faaef4a6fac793ed8b6a8"), looks := false }, kinds := [], alts := [], laidByText := true, laidKinds := [.data, .pinned], laidTests := true, laidLooks := .later }
def NamesApartCardSaid : Prop := Claim7.holds Tryd.pinned (.plain (OpenSpec.ofChange namesApartSpec)) namesApartCard

/-- THE TIED CARD OF 'hexaplalaw04.NamesScopes'. -/
def namesScopesCard : Claim7 := { stood := { row := namesScopesRow, standIns := [], harness := (true, "ca1e2f2f2739d9c817290bba34d12837441673c9299faaef4a6fac793ed8b6a8"), looks := false }, kinds := [], alts := [], laidByText := true, laidKinds := [.data, .pinned], laidTests := true, laidLooks := .later }
def NamesScopesCardSaid : Prop := Claim7.holds Tryd.pinned (.plain (OpenSpec.ofChange namesScopesSpec)) namesScopesCard

/-- THE TIED CARD OF 'hexaplalaw04.NamesInner'. -/
def namesInnerCard : Claim7 := { stood := { row := namesInnerRow, standIns := [], harness := (true, "ca1e2f2f2739d9c817290bba34d12837441673c9299faaef4a6fac793ed8b6a8"), looks := false }, kinds := [], alts := [], laidByText := true, laidKinds := [.data, .pinned], laidTests := true, laidLooks := .later }
def NamesInnerCardSaid : Prop := Claim7.holds Tryd.pinned (.plain (OpenSpec.ofChange namesInnerSpec)) namesInnerCard

/-- THE SECOND FORM's CARD OF 'hexaplalaw04.NamesKinds'. -/
def namesKindsUptoCard : Claim7 := { stood := { row := namesKindsUptoRow, standIns := [], harness := (true, "ca1e2f2f2739d9c817290bba34d12837441673c9299faaef4a6fac793ed8b6a8"), looks := false }, kinds := [], alts := [], laidByText := true, laidKinds := [.data, .pinned], laidTests := true, laidLooks := .later }
def NamesKindsUptoCardSaid : Prop := Claim7.holds Tryd.pinned (.plain (OpenSpec.upto namesKindsSpec)) namesKindsUptoCard

/-- THE SECOND FORM's CARD OF 'hexaplalaw04.NamesJoins'. -/
def namesJoinsUptoCard : Claim7 := { stood := { row := namesJoinsUptoRow, standIns := [], harness := (true, "ca1e2f2f2739d9c817290bba34d12837441673c9299faaef4a6fac793ed8b6a8"), looks := false }, kinds := [], alts := [], laidByText := true, laidKinds := [.data, .pinned], laidTests := true, laidLooks := .later }
def NamesJoinsUptoCardSaid : Prop := Claim7.holds Tryd.pinned (.plain (OpenSpec.upto namesJoinsSpec)) namesJoinsUptoCard

/-- THE SECOND FORM's CARD OF 'hexaplalaw04.NamesCuts'. -/
def namesCutsUptoCard : Claim7 := { stood := { row := namesCutsUptoRow, standIns := [], harness := (true, "ca1e2f2f2739d9c817290bba34d12837441673c9299faaef4a6fac793ed8b6a8"), looks := false }, kinds := [], alts := [], laidByText := true, laidKinds := [.data, .pinned], laidTests := true, laidLooks := .later }
def NamesCutsUptoCardSaid : Prop := Claim7.holds Tryd.pinned (.plain (OpenSpec.upto namesCutsSpec)) namesCutsUptoCard

/-- THE SECOND FORM's CARD OF 'hexaplalaw04.NamesApart'. -/
def namesApartUptoCard : Claim7 := { stood := { row := namesApartUptoRow, standIns := [], harness := (true, "ca1e2f2f2739d9c817290bba34d12837441673c9299faaef4a6fac793ed8b6a8"), looks := false }, kinds := [], alts := [], laidByText := true, laidKinds := [.data, .pinned], laidTests := true, laidLooks := .later }
def NamesApartUptoCardSaid : Prop := Claim7.holds Tryd.pinned (.plain (OpenSpec.upto namesApartSpec)) namesApartUptoCard

/-- THE SECOND FORM's CARD OF 'hexaplalaw04.NamesScopes'. -/
def namesScopesUptoCard : Claim7 := { stood := { row := namesScopesUptoRow, standIns := [], harness := (true, "ca1e2f2f2739d9c817290bba34d12837441673c9299faaef4a6fac793ed8b6a8"), looks := false }, kinds := [], alts := [], laidByText := true, laidKinds := [.data, .pinned], laidTests := true, laidLooks := .later }
def NamesScopesUptoCardSaid : Prop := Claim7.holds Tryd.pinned (.plain (OpenSpec.upto namesScopesSpec)) namesScopesUptoCard

/-- THE SECOND FORM's CARD OF 'hexaplalaw04.NamesInner'. -/
def namesInnerUptoCard : Claim7 := { stood := { row := namesInnerUptoRow, standIns := [], harness := (true, "ca1e2f2f2739d9c817290bba34d12837441673c9299faaef4a6fac793ed8b6a8"), looks := false }, kinds := [], alts := [], laidByText := true, laidKinds := [.data, .pinned], laidTests := true, laidLooks := .later }
def NamesInnerUptoCardSaid : Prop := Claim7.holds Tryd.pinned (.plain (OpenSpec.upto namesInnerSpec)) namesInnerUptoCard
end Rows
end Go.Proofs.YticlppojbbocbaaDoor
