/-
  DERIVED. GIVEN WITH THE SEED: THE CARDS: each row of YtifjghkgmfmneaaGreatDoorRows.lean that lists a variable, with what it lists TIED to the program's text (the seventh form; the later family's looks); each row that meets fmt, with fmt's text TOLD by the authors' own Lean function (tested against real Go, not proved from fmt's source: count such statements apart). THE CARD IS WHAT COUNTS. Prove the row's statement (the work); the ties are given (YtifjghkgmfmneaaGreatDoorTie.lean); close each card by the builder's one call (the guide's Derived/Test/ToyasCard.lean, 'card_holds'). Laid BY PROGRAM, IN A SANDBOX (cutbox-door.mjs). By AI agents, Wed Nov 11 2026. No macro, syntax, notation, axiom, sorry.
-/
import Derived.Test.YtifjghkgmfmneaaGreatDoorRows
import GoSem.ClaimSeven
namespace Go.Proofs.YtifjghkgmfmneaaGreatDoor
namespace Rows

/-- THE TIED CARD OF 'vergerlaw11.PolicyParts'. -/
def policyPartsCard : Claim7 := { stood := { row := policyPartsRow, standIns := [], harness := (true, "4cc94bb68918271cc0ddfce5560c7c8120d3da1b7cddbfb26e74358af6f66024"), looks := true }, kinds := [], alts := [], laidByText := true, laidKinds := [.data, .data, .data, .data, .sentinel, .sentinel, .pinned], laidTests := true, laidLooks := .later }
def PolicyPartsCardSaid : Prop := Claim7.holds Tryz.pinned (.plain (OpenSpec.ofChange policyPartsSpec)) policyPartsCard

/-- THE TIED CARD OF 'vergerlaw09.EntryMakes'. -/
def entryMakesCard : Claim7 := { stood := { row := entryMakesRow, standIns := [], harness := (true, "4cc94bb68918271cc0ddfce5560c7c8120d3da1b7cddbfb26e74358af6f66024"), looks := true }, kinds := [], alts := [], laidByText := true, laidKinds := [.data, .data, .data, .data, .sentinel, .sentinel, .pinned], laidTests := true, laidLooks := .later }
def EntryMakesCardSaid : Prop := Claim7.holds Tryz.pinned (.plain (OpenSpec.ofChange entryMakesSpec)) entryMakesCard

/-- THE TIED CARD OF 'vergerlaw13.ResolveRings'. -/
def resolveRingsCard : Claim7 := { stood := { row := resolveRingsRow, standIns := [], harness := (true, "4cc94bb68918271cc0ddfce5560c7c8120d3da1b7cddbfb26e74358af6f66024"), looks := true }, kinds := [], alts := [], laidByText := true, laidKinds := [.data, .data, .data, .data, .sentinel, .sentinel, .pinned], laidTests := true, laidLooks := .later }
def ResolveRingsCardSaid : Prop := Claim7.holds Tryz.pinned (.plain (OpenSpec.ofChange resolveRingsSpec)) resolveRingsCard

/-- THE TIED CARD OF 'vergerlaw09.EntryRenames'. -/
def entryRenamesCard : Claim7 := { stood := { row := entryRenamesRow, standIns := [], harness := (true, "4cc94bb68918271cc0ddfce5560c7c8120d3da1b7cddbfb26e74358af6f66024"), looks := true }, kinds := [], alts := [], laidByText := true, laidKinds := [.data, .data, .data, .data, .sentinel, .sentinel, .pinned], laidTests := true, laidLooks := .later }
def EntryRenamesCardSaid : Prop := Claim7.holds Tryz.pinned (.plain (OpenSpec.ofChange entryRenamesSpec)) entryRenamesCard

/-- THE TIED CARD OF 'vergerlaw12.ViewSees'. -/
def viewSeesCard : Claim7 := { stood := { row := viewSeesRow, standIns := [], harness := (true, "4cc94bb68918271cc0ddfce5560c7c8120d3da1b7cddbfb26e74358af6f66024"), looks := true }, kinds := [], alts := [], laidByText := true, laidKinds := [.data, .data, .data, .data, .sentinel, .sentinel, .pinned], laidTests := true, laidLooks := .later }
def ViewSeesCardSaid : Prop := Claim7.holds Tryz.pinned (.plain (OpenSpec.ofChange viewSeesSpec)) viewSeesCard

/-- THE TIED CARD OF 'vergerlaw12.ViewLess'. -/
def viewLessCard : Claim7 := { stood := { row := viewLessRow, standIns := [], harness := (true, "4cc94bb68918271cc0ddfce5560c7c8120d3da1b7cddbfb26e74358af6f66024"), looks := true }, kinds := [], alts := [], laidByText := true, laidKinds := [.data, .data, .data, .data, .sentinel, .sentinel, .pinned], laidTests := true, laidLooks := .later }
def ViewLessCardSaid : Prop := Claim7.holds Tryz.pinned (.plain (OpenSpec.ofChange viewLessSpec)) viewLessCard

/-- THE TIED CARD OF 'vergerlaw12.ViewAbove'. -/
def viewAboveCard : Claim7 := { stood := { row := viewAboveRow, standIns := [], harness := (true, "4cc94bb68918271cc0ddfce5560c7c8120d3da1b7cddbfb26e74358af6f66024"), looks := true }, kinds := [], alts := [], laidByText := true, laidKinds := [.data, .data, .data, .data, .sentinel, .sentinel, .pinned], laidTests := true, laidLooks := .later }
def ViewAboveCardSaid : Prop := Claim7.holds Tryz.pinned (.plain (OpenSpec.ofChange viewAboveSpec)) viewAboveCard

/-- THE TIED CARD OF 'vergerlaw12.ViewWhole'. -/
def viewWholeCard : Claim7 := { stood := { row := viewWholeRow, standIns := [], harness := (true, "4cc94bb68918271cc0ddfce5560c7c8120d3da1b7cddbfb26e74358af6f66024"), looks := true }, kinds := [], alts := [], laidByText := true, laidKinds := [.data, .data, .data, .data, .sentinel, .sentinel, .pinned], laidTests := true, laidLooks := .later }
def ViewWholeCardSaid : Prop := Claim7.holds Tryz.pinned (.plain (OpenSpec.ofChange viewWholeSpec)) viewWholeCard

/-- THE TIED CARD OF 'vergerlaw12.ViewRestricts'. -/
def viewRestrictsCard : Claim7 := { stood := { row := viewRestrictsRow, standIns := [], harness := (true, "4cc94bb68918271cc0ddfce5560c7c8120d3da1b7cddbfb26e74358af6f66024"), looks := true }, kinds := [], alts := [], laidByText := true, laidKinds := [.data, .data, .data, .data, .sentinel, .sentinel, .pinned], laidTests := true, laidLooks := .later }
def ViewRestrictsCardSaid : Prop := Claim7.holds Tryz.pinned (.plain (OpenSpec.ofChange viewRestrictsSpec)) viewRestrictsCard

/-- THE TIED CARD OF 'vergerlaw09.EntryModifies'. -/
def entryModifiesCard : Claim7 := { stood := { row := entryModifiesRow, standIns := [], harness := (true, "4cc94bb68918271cc0ddfce5560c7c8120d3da1b7cddbfb26e74358af6f66024"), looks := true }, kinds := [], alts := [], laidByText := true, laidKinds := [.data, .data, .data, .data, .sentinel, .sentinel, .pinned], laidTests := true, laidLooks := .later }
def EntryModifiesCardSaid : Prop := Claim7.holds Tryz.pinned (.plain (OpenSpec.ofChange entryModifiesSpec)) entryModifiesCard

/-- THE TIED CARD OF 'vergerlaw09.EntryUndoes'. -/
def entryUndoesCard : Claim7 := { stood := { row := entryUndoesRow, standIns := [], harness := (true, "4cc94bb68918271cc0ddfce5560c7c8120d3da1b7cddbfb26e74358af6f66024"), looks := true }, kinds := [], alts := [], laidByText := true, laidKinds := [.data, .data, .data, .data, .sentinel, .sentinel, .pinned], laidTests := true, laidLooks := .later }
def EntryUndoesCardSaid : Prop := Claim7.holds Tryz.pinned (.plain (OpenSpec.ofChange entryUndoesSpec)) entryUndoesCard

/-- THE TIED CARD OF 'vergerlaw09.EntryParts'. -/
def entryPartsCard : Claim7 := { stood := { row := entryPartsRow, standIns := [], harness := (true, "4cc94bb68918271cc0ddfce5560c7c8120d3da1b7cddbfb26e74358af6f66024"), looks := true }, kinds := [], alts := [], laidByText := true, laidKinds := [.data, .data, .data, .data, .sentinel, .sentinel, .pinned], laidTests := true, laidLooks := .later }
def EntryPartsCardSaid : Prop := Claim7.holds Tryz.pinned (.plain (OpenSpec.ofChange entryPartsSpec)) entryPartsCard

/-- THE TIED CARD OF 'vergerlaw09.EntryIncrements'. -/
def entryIncrementsCard : Claim7 := { stood := { row := entryIncrementsRow, standIns := [], harness := (true, "4cc94bb68918271cc0ddfce5560c7c8120d3da1b7cddbfb26e74358af6f66024"), looks := true }, kinds := [], alts := [], laidByText := true, laidKinds := [.data, .data, .data, .data, .sentinel, .sentinel, .pinned], laidTests := true, laidLooks := .later }
def EntryIncrementsCardSaid : Prop := Claim7.holds Tryz.pinned (.plain (OpenSpec.ofChange entryIncrementsSpec)) entryIncrementsCard

/-- THE TIED CARD OF 'vergerlaw07.FilterEvals'. -/
def filterEvalsCard : Claim7 := { stood := { row := filterEvalsRow, standIns := [], harness := (true, "4cc94bb68918271cc0ddfce5560c7c8120d3da1b7cddbfb26e74358af6f66024"), looks := true }, kinds := [], alts := [], laidByText := true, laidKinds := [.data, .data, .data, .data, .sentinel, .sentinel, .pinned], laidTests := true, laidLooks := .later }
def FilterEvalsCardSaid : Prop := Claim7.holds Tryz.pinned (.plain (OpenSpec.ofChange filterEvalsSpec)) filterEvalsCard

/-- THE TIED CARD OF 'vergerlaw07.FilterPieces'. -/
def filterPiecesCard : Claim7 := { stood := { row := filterPiecesRow, standIns := [], harness := (true, "4cc94bb68918271cc0ddfce5560c7c8120d3da1b7cddbfb26e74358af6f66024"), looks := true }, kinds := [], alts := [], laidByText := true, laidKinds := [.data, .data, .data, .data, .sentinel, .sentinel, .pinned], laidTests := true, laidLooks := .later }
def FilterPiecesCardSaid : Prop := Claim7.holds Tryz.pinned (.plain (OpenSpec.ofChange filterPiecesSpec)) filterPiecesCard

/-- THE TIED CARD OF 'vergerlaw07.FilterPrints'. -/
def filterPrintsCard : Claim7 := { stood := { row := filterPrintsRow, standIns := [], harness := (true, "4cc94bb68918271cc0ddfce5560c7c8120d3da1b7cddbfb26e74358af6f66024"), looks := true }, kinds := [], alts := [], laidByText := true, laidKinds := [.data, .data, .data, .data, .sentinel, .sentinel, .pinned], laidTests := true, laidLooks := .later }
def FilterPrintsCardSaid : Prop := Claim7.holds Tryz.pinned (.plain (OpenSpec.ofChange filterPrintsSpec)) filterPrintsCard

/-- THE TIED CARD OF 'vergerlaw07.FilterBack'. -/
def filterBackCard : Claim7 := { stood := { row := filterBackRow, standIns := [], harness := (true, "4cc94bb68918271cc0ddfce5560c7c8120d3da1b7cddbfb26e74358af6f66024"), looks := true }, kinds := [], alts := [], laidByText := true, laidKinds := [.data, .data, .data, .data, .sentinel, .sentinel, .pinned], laidTests := true, laidLooks := .later }
def FilterBackCardSaid : Prop := Claim7.holds Tryz.pinned (.plain (OpenSpec.ofChange filterBackSpec)) filterBackCard

/-- THE SECOND FORM's CARD OF 'vergerlaw11.PolicyParts'. -/
def policyPartsUptoCard : Claim7 := { stood := { row := policyPartsUptoRow, standIns := [], harness := (true, "4cc94bb68918271cc0ddfce5560c7c8120d3da1b7cddbfb26e74358af6f66024"), looks := true }, kinds := [], alts := [], laidByText := true, laidKinds := [.data, .data, .data, .data, .sentinel, .sentinel, .pinned], laidTests := true, laidLooks := .later }
def PolicyPartsUptoCardSaid : Prop := Claim7.holds Tryz.pinned (.plain (OpenSpec.upto policyPartsSpec)) policyPartsUptoCard

/-- THE SECOND FORM's CARD OF 'vergerlaw09.EntryMakes'. -/
def entryMakesUptoCard : Claim7 := { stood := { row := entryMakesUptoRow, standIns := [], harness := (true, "4cc94bb68918271cc0ddfce5560c7c8120d3da1b7cddbfb26e74358af6f66024"), looks := true }, kinds := [], alts := [], laidByText := true, laidKinds := [.data, .data, .data, .data, .sentinel, .sentinel, .pinned], laidTests := true, laidLooks := .later }
def EntryMakesUptoCardSaid : Prop := Claim7.holds Tryz.pinned (.plain (OpenSpec.upto entryMakesSpec)) entryMakesUptoCard

/-- THE SECOND FORM's CARD OF 'vergerlaw13.ResolveRings'. -/
def resolveRingsUptoCard : Claim7 := { stood := { row := resolveRingsUptoRow, standIns := [], harness := (true, "4cc94bb68918271cc0ddfce5560c7c8120d3da1b7cddbfb26e74358af6f66024"), looks := true }, kinds := [], alts := [], laidByText := true, laidKinds := [.data, .data, .data, .data, .sentinel, .sentinel, .pinned], laidTests := true, laidLooks := .later }
def ResolveRingsUptoCardSaid : Prop := Claim7.holds Tryz.pinned (.plain (OpenSpec.upto resolveRingsSpec)) resolveRingsUptoCard

/-- THE SECOND FORM's CARD OF 'vergerlaw09.EntryRenames'. -/
def entryRenamesUptoCard : Claim7 := { stood := { row := entryRenamesUptoRow, standIns := [], harness := (true, "4cc94bb68918271cc0ddfce5560c7c8120d3da1b7cddbfb26e74358af6f66024"), looks := true }, kinds := [], alts := [], laidByText := true, laidKinds := [.data, .data, .data, .data, .sentinel, .sentinel, .pinned], laidTests := true, laidLooks := .later }
def EntryRenamesUptoCardSaid : Prop := Claim7.holds Tryz.pinned (.plain (OpenSpec.upto entryRenamesSpec)) entryRenamesUptoCard

/-- THE SECOND FORM's CARD OF 'vergerlaw12.ViewSees'. -/
def viewSeesUptoCard : Claim7 := { stood := { row := viewSeesUptoRow, standIns := [], harness := (true, "4cc94bb68918271cc0ddfce5560c7c8120d3da1b7cddbfb26e74358af6f66024"), looks := true }, kinds := [], alts := [], laidByText := true, laidKinds := [.data, .data, .data, .data, .sentinel, .sentinel, .pinned], laidTests := true, laidLooks := .later }
def ViewSeesUptoCardSaid : Prop := Claim7.holds Tryz.pinned (.plain (OpenSpec.upto viewSeesSpec)) viewSeesUptoCard

/-- THE SECOND FORM's CARD OF 'vergerlaw12.ViewLess'. -/
def viewLessUptoCard : Claim7 := { stood := { row := viewLessUptoRow, standIns := [], harness := (true, "4cc94bb68918271cc0ddfce5560c7c8120d3da1b7cddbfb26e74358af6f66024"), looks := true }, kinds := [], alts := [], laidByText := true, laidKinds := [.data, .data, .data, .data, .sentinel, .sentinel, .pinned], laidTests := true, laidLooks := .later }
def ViewLessUptoCardSaid : Prop := Claim7.holds Tryz.pinned (.plain (OpenSpec.upto viewLessSpec)) viewLessUptoCard

/-- THE SECOND FORM's CARD OF 'vergerlaw12.ViewAbove'. -/
def viewAboveUptoCard : Claim7 := { stood := { row := viewAboveUptoRow, standIns := [], harness := (true, "4cc94bb68918271cc0ddfce5560c7c8120d3da1b7cddbfb26e74358af6f66024"), looks := true }, kinds := [], alts := [], laidByText := true, laidKinds := [.data, .data, .data, .data, .sentinel, .sentinel, .pinned], laidTests := true, laidLooks := .later }
def ViewAboveUptoCardSaid : Prop := Claim7.holds Tryz.pinned (.plain (OpenSpec.upto viewAboveSpec)) viewAboveUptoCard

/-- THE SECOND FORM's CARD OF 'vergerlaw12.ViewWhole'. -/
def viewWholeUptoCard : Claim7 := { stood := { row := viewWholeUptoRow, standIns := [], harness := (true, "4cc94bb68918271cc0ddfce5560c7c8120d3da1b7cddbfb26e74358af6f66024"), looks := true }, kinds := [], alts := [], laidByText := true, laidKinds := [.data, .data, .data, .data, .sentinel, .sentinel, .pinned], laidTests := true, laidLooks := .later }
def ViewWholeUptoCardSaid : Prop := Claim7.holds Tryz.pinned (.plain (OpenSpec.upto viewWholeSpec)) viewWholeUptoCard

/-- THE SECOND FORM's CARD OF 'vergerlaw12.ViewRestricts'. -/
def viewRestrictsUptoCard : Claim7 := { stood := { row := viewRestrictsUptoRow, standIns := [], harness := (true, "4cc94bb68918271cc0ddfce5560c7c8120d3da1b7cddbfb26e74358af6f66024"), looks := true }, kinds := [], alts := [], laidByText := true, laidKinds := [.data, .data, .data, .data, .sentinel, .sentinel, .pinned], laidTests := true, laidLooks := .later }
def ViewRestrictsUptoCardSaid : Prop := Claim7.holds Tryz.pinned (.plain (OpenSpec.upto viewRestrictsSpec)) viewRestrictsUptoCard

/-- THE SECOND FORM's CARD OF 'vergerlaw09.EntryModifies'. -/
def entryModifiesUptoCard : Claim7 := { stood := { row := entryModifiesUptoRow, standIns := [], harness := (true, "4cc94bb68918271cc0ddfce5560c7c8120d3da1b7cddbfb26e74358af6f66024"), looks := true }, kinds := [], alts := [], laidByText := true, laidKinds := [.data, .data, .data, .data, .sentinel, .sentinel, .pinned], laidTests := true, laidLooks := .later }
def EntryModifiesUptoCardSaid : Prop := Claim7.holds Tryz.pinned (.plain (OpenSpec.upto entryModifiesSpec)) entryModifiesUptoCard

/-- THE SECOND FORM's CARD OF 'vergerlaw09.EntryUndoes'. -/
def entryUndoesUptoCard : Claim7 := { stood := { row := entryUndoesUptoRow, standIns := [], harness := (true, "4cc94bb68918271cc0ddfce5560c7c8120d3da1b7cddbfb26e74358af6f66024"), looks := true }, kinds := [], alts := [], laidByText := true, laidKinds := [.data, .data, .data, .data, .sentinel, .sentinel, .pinned], laidTests := true, laidLooks := .later }
def EntryUndoesUptoCardSaid : Prop := Claim7.holds Tryz.pinned (.plain (OpenSpec.upto entryUndoesSpec)) entryUndoesUptoCard

/-- THE SECOND FORM's CARD OF 'vergerlaw09.EntryParts'. -/
def entryPartsUptoCard : Claim7 := { stood := { row := entryPartsUptoRow, standIns := [], harness := (true, "4cc94bb68918271cc0ddfce5560c7c8120d3da1b7cddbfb26e74358af6f66024"), looks := true }, kinds := [], alts := [], laidByText := true, laidKinds := [.data, .data, .data, .data, .sentinel, .sentinel, .pinned], laidTests := true, laidLooks := .later }
def EntryPartsUptoCardSaid : Prop := Claim7.holds Tryz.pinned (.plain (OpenSpec.upto entryPartsSpec)) entryPartsUptoCard

/-- THE SECOND FORM's CARD OF 'vergerlaw09.EntryIncrements'. -/
def entryIncrementsUptoCard : Claim7 := { stood := { row := entryIncrementsUptoRow, standIns := [], harness := (true, "4cc94bb68918271cc0ddfce5560c7c8120d3da1b7cddbfb26e74358af6f66024"), looks := true }, kinds := [], alts := [], laidByText := true, laidKinds := [.data, .data, .data, .data, .sentinel, .sentinel, .pinned], laidTests := true, laidLooks := .later }
def EntryIncrementsUptoCardSaid : Prop := Claim7.holds Tryz.pinned (.plain (OpenSpec.upto entryIncrementsSpec)) entryIncrementsUptoCard

/-- THE SECOND FORM's CARD OF 'vergerlaw07.FilterEvals'. -/
def filterEvalsUptoCard : Claim7 := { stood := { row := filterEvalsUptoRow, standIns := [], harness := (true, "4cc94bb68918271cc0ddfce5560c7c8120d3da1b7cddbfb26e74358af6f66024"), looks := true }, kinds := [], alts := [], laidByText := true, laidKinds := [.data, .data, .data, .data, .sentinel, .sentinel, .pinned], laidTests := true, laidLooks := .later }
def FilterEvalsUptoCardSaid : Prop := Claim7.holds Tryz.pinned (.plain (OpenSpec.upto filterEvalsSpec)) filterEvalsUptoCard

/-- THE SECOND FORM's CARD OF 'vergerlaw07.FilterPieces'. -/
def filterPiecesUptoCard : Claim7 := { stood := { row := filterPiecesUptoRow, standIns := [], harness := (true, "4cc94bb68918271cc0ddfce5560c7c8120d3da1b7cddbfb26e74358af6f66024"), looks := true }, kinds := [], alts := [], laidByText := true, laidKinds := [.data, .data, .data, .data, .sentinel, .sentinel, .pinned], laidTests := true, laidLooks := .later }
def FilterPiecesUptoCardSaid : Prop := Claim7.holds Tryz.pinned (.plain (OpenSpec.upto filterPiecesSpec)) filterPiecesUptoCard

/-- THE SECOND FORM's CARD OF 'vergerlaw07.FilterPrints'. -/
def filterPrintsUptoCard : Claim7 := { stood := { row := filterPrintsUptoRow, standIns := [], harness := (true, "4cc94bb68918271cc0ddfce5560c7c8120d3da1b7cddbfb26e74358af6f66024"), looks := true }, kinds := [], alts := [], laidByText := true, laidKinds := [.data, .data, .data, .data, .sentinel, .sentinel, .pinned], laidTests := true, laidLooks := .later }
def FilterPrintsUptoCardSaid : Prop := Claim7.holds Tryz.pinned (.plain (OpenSpec.upto filterPrintsSpec)) filterPrintsUptoCard

/-- THE SECOND FORM's CARD OF 'vergerlaw07.FilterBack'. -/
def filterBackUptoCard : Claim7 := { stood := { row := filterBackUptoRow, standIns := [], harness := (true, "4cc94bb68918271cc0ddfce5560c7c8120d3da1b7cddbfb26e74358af6f66024"), looks := true }, kinds := [], alts := [], laidByText := true, laidKinds := [.data, .data, .data, .data, .sentinel, .sentinel, .pinned], laidTests := true, laidLooks := .later }
def FilterBackUptoCardSaid : Prop := Claim7.holds Tryz.pinned (.plain (OpenSpec.upto filterBackSpec)) filterBackUptoCard
end Rows
end Go.Proofs.YtifjghkgmfmneaaGreatDoor
