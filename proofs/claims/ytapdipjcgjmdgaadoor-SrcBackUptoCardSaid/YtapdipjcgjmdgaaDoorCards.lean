/-
  DERIVED. GIVEN WITH THE SEED: THE CARDS: each row of YtapdipjcgjmdgaaDoorRows.lean that lists a variable, with what it lists TIED to the program's text (the seventh form; the later family's looks); each row that meets fmt, with fmt's text TOLD by the authors' own Lean function (tested against real Go, not proved from fmt's source: count such statements apart). THE CARD IS WHAT COUNTS. Prove the row's statement (the work); the ties are given (YtapdipjcgjmdgaaDoorTie.lean); close each card by the builder's one call (the guide's Derived/Test/ToyasCard.lean, 'card_holds'). Laid BY PROGRAM, IN A SANDBOX (cutbox-door.mjs). By AI agents, Wed Nov 11 2026. No macro, syntax, notation, axiom, sorry.
-/
import Derived.Test.YtapdipjcgjmdgaaDoorRows
import GoSem.ClaimSeven
namespace Go.Proofs.YtapdipjcgjmdgaaDoor
namespace Rows

/-- THE TIED CARD OF 'hexaplalaw01.SrcSteps'. -/
def srcStepsCard : Claim7 := { stood := { row := srcStepsRow, standIns := [], harness := (true, "591c0debf726fd2ce1dce95ed18d9d9ec146fc84e816c7b87d96dcabdbb226d2"), looks := false }, kinds := [], alts := [], laidByText := true, laidKinds := [.data, .pinned], laidTests := true, laidLooks := .later }
def SrcStepsCardSaid : Prop := Claim7.holds Tryd.pinned (.plain (OpenSpec.ofChange srcStepsSpec)) srcStepsCard

/-- THE TIED CARD OF 'hexaplalaw01.SrcRunes'. -/
def srcRunesCard : Claim7 := { stood := { row := srcRunesRow, standIns := [], harness := (true, "591c0debf726fd2ce1dce95ed18d9d9ec146fc84e816c7b87d96dcabdbb226d2"), looks := false }, kinds := [], alts := [], laidByText := true, laidKinds := [.data, .pinned], laidTests := true, laidLooks := .later }
def SrcRunesCardSaid : Prop := Claim7.holds Tryd.pinned (.plain (OpenSpec.ofChange srcRunesSpec)) srcRunesCard

/-- THE TIED CARD OF 'hexaplalaw01.SrcPuts'. -/
def srcPutsCard : Claim7 := { stood := { row := srcPutsRow, standIns := [], harness := (true, "591c0debf726fd2ce1dce95ed18d9d9ec146fc84e816c7b87d96dcabdbb226d2"), looks := false }, kinds := [], alts := [], laidByText := true, laidKinds := [.data, .pinned], laidTests := true, laidLooks := .later }
def SrcPutsCardSaid : Prop := Claim7.holds Tryd.pinned (.plain (OpenSpec.ofChange srcPutsSpec)) srcPutsCard

/-- THE TIED CARD OF 'hexaplalaw01.SrcBack'. -/
def srcBackCard : Claim7 := { stood := { row := srcBackRow, standIns := [], harness := (true, "591c0debf726fd2ce1dce95ed18d9d9ec146fc84e816c7b87d96dcabdbb226d2"), looks := false }, kinds := [], alts := [], laidByText := true, laidKinds := [.data, .pinned], laidTests := true, laidLooks := .later }
def SrcBackCardSaid : Prop := Claim7.holds Tryd.pinned (.plain (OpenSpec.ofChange srcBackSpec)) srcBackCard

/-- THE TIED CARD OF 'hexaplalaw01.SrcWhole'. -/
def srcWholeCard : Claim7 := { stood := { row := srcWholeRow, standIns := [], harness := (true, "591c0debf726fd2ce1dce95ed18d9d9ec146fc84e816c7b87d96dcabdbb226d2"), looks := false }, kinds := [], alts := [], laidByText := true, laidKinds := [.data, .pinned], laidTests := true, laidLooks := .later }
def SrcWholeCardSaid : Prop := Claim7.holds Tryd.pinned (.plain (OpenSpec.ofChange srcWholeSpec)) srcWholeCard

/-- THE TIED CARD OF 'hexaplalaw01.SrcPlaces'. -/
def srcPlacesCard : Claim7 := { stood := { row := srcPlacesRow, standIns := [], harness := (true, "591c0debf726fd2ce1dce95ed18d9d9ec146fc84e816c7b87d96dcabdbb226d2"), looks := false }, kinds := [], alts := [], laidByText := true, laidKinds := [.data, .pinned], laidTests := true, laidLooks := .later }
def SrcPlacesCardSaid : Prop := Claim7.holds Tryd.pinned (.plain (OpenSpec.ofChange srcPlacesSpec)) srcPlacesCard

/-- THE TIED CARD OF 'hexaplalaw01.SrcRises'. -/
def srcRisesCard : Claim7 := { stood := { row := srcRisesRow, standIns := [], harness := (true, "591c0debf726fd2ce1dce95ed18d9d9ec146fc84e816c7b87d96dcabdbb226d2"), looks := false }, kinds := [], alts := [], laidByText := true, laidKinds := [.data, .pinned], laidTests := true, laidLooks := .later }
def SrcRisesCardSaid : Prop := Claim7.holds Tryd.pinned (.plain (OpenSpec.ofChange srcRisesSpec)) srcRisesCard

/-- THE SECOND FORM's CARD OF 'hexaplalaw01.SrcSteps'. -/
def srcStepsUptoCard : Claim7 := { stood := { row := srcStepsUptoRow, standIns := [], harness := (true, "591c0debf726fd2ce1dce95ed18d9d9ec146fc84e816c7b87d96dcabdbb226d2"), looks := false }, kinds := [], alts := [], laidByText := true, laidKinds := [.data, .pinned], laidTests := true, laidLooks := .later }
def SrcStepsUptoCardSaid : Prop := Claim7.holds Tryd.pinned (.plain (OpenSpec.upto srcStepsSpec)) srcStepsUptoCard

/-- THE SECOND FORM's CARD OF 'hexaplalaw01.SrcRunes'. -/
def srcRunesUptoCard : Claim7 := { stood := { row := srcRunesUptoRow, standIns := [], harness := (true, "591c0debf726fd2ce1dce95ed18d9d9ec146fc84e816c7b87d96dcabdbb226d2"), looks := false }, kinds := [], alts := [], laidByText := true, laidKinds := [.data, .pinned], laidTests := true, laidLooks := .later }
def SrcRunesUptoCardSaid : Prop := Claim7.holds Tryd.pinned (.plain (OpenSpec.upto srcRunesSpec)) srcRunesUptoCard

/-- THE SECOND FORM's CARD OF 'hexaplalaw01.SrcPuts'. -/
def srcPutsUptoCard : Claim7 := { stood := { row := srcPutsUptoRow, standIns := [], harness := (true, "591c0debf726fd2ce1dce95ed18d9d9ec146fc84e816c7b87d96dcabdbb226d2"), looks := false }, kinds := [], alts := [], laidByText := true, laidKinds := [.data, .pinned], laidTests := true, laidLooks := .later }
def SrcPutsUptoCardSaid : Prop := Claim7.holds Tryd.pinned (.plain (OpenSpec.upto srcPutsSpec)) srcPutsUptoCard

/-- THE SECOND FORM's CARD OF 'hexaplalaw01.SrcBack'. -/
def srcBackUptoCard : Claim7 := { stood := { row := srcBackUptoRow, standIns := [], harness := (true, "591c0debf726fd2ce1dce95ed18d9d9ec146fc84e816c7b87d96dcabdbb226d2"), looks := false }, kinds := [], alts := [], laidByText := true, laidKinds := [.data, .pinned], laidTests := true, laidLooks := .later }
def SrcBackUptoCardSaid : Prop := Claim7.holds Tryd.pinned (.plain (OpenSpec.upto srcBackSpec)) srcBackUptoCard

/-- THE SECOND FORM's CARD OF 'hexaplalaw01.SrcWhole'. -/
def srcWholeUptoCard : Claim7 := { stood := { row := srcWholeUptoRow, standIns := [], harness := (true, "591c0debf726fd2ce1dce95ed18d9d9ec146fc84e816c7b87d96dcabdbb226d2"), looks := false }, kinds := [], alts := [], laidByText := true, laidKinds := [.data, .pinned], laidTests := true, laidLooks := .later }
def SrcWholeUptoCardSaid : Prop := Claim7.holds Tryd.pinned (.plain (OpenSpec.upto srcWholeSpec)) srcWholeUptoCard

/-- THE SECOND FORM's CARD OF 'hexaplalaw01.SrcPlaces'. -/
def srcPlacesUptoCard : Claim7 := { stood := { row := srcPlacesUptoRow, standIns := [], harness := (true, "591c0debf726fd2ce1dce95ed18d9d9ec146fc84e816c7b87d96dcabdbb226d2"), looks := false }, kinds := [], alts := [], laidByText := true, laidKinds := [.data, .pinned], laidTests := true, laidLooks := .later }
def SrcPlacesUptoCardSaid : Prop := Claim7.holds Tryd.pinned (.plain (OpenSpec.upto srcPlacesSpec)) srcPlacesUptoCard

/-- THE SECOND FORM's CARD OF 'hexaplalaw01.SrcRises'. -/
def srcRisesUptoCard : Claim7 := { stood := { row := srcRisesUptoRow, standIns := [], harness := (true, "591c0debf726fd2ce1dce95ed18d9d9ec146fc84e816c7b87d96dcabdbb226d2"), looks := false }, kinds := [], alts := [], laidByText := true, laidKinds := [.data, .pinned], laidTests := true, laidLooks := .later }
def SrcRisesUptoCardSaid : Prop := Claim7.holds Tryd.pinned (.plain (OpenSpec.upto srcRisesSpec)) srcRisesUptoCard
end Rows
end Go.Proofs.YtapdipjcgjmdgaaDoor
