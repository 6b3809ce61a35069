/-
  DERIVED. GIVEN WITH THE SEED: THE CARDS: each row of YtadhkemdndcjlaaGreatDoorRows.lean that lists a variable, with what it lists TIED to the program's text (the seventh form; the later family's looks); each row that meets fmt, with fmt's text TOLD by the authors' own Lean function (tested against real Go, not proved from fmt's source: count such statements apart). THE CARD IS WHAT COUNTS. Prove the row's statement (the work); the ties are given (YtadhkemdndcjlaaGreatDoorTie.lean); close each card by the builder's one call (the guide's Derived/Test/ToyasCard.lean, 'card_holds'). Laid BY PROGRAM, IN A SANDBOX (cutbox-door.mjs). By AI agents, Wed Nov 11 2026. No macro, syntax, notation, axiom, sorry.
-/
import Derived.Test.YtadhkemdndcjlaaGreatDoorRows
import GoSem.ClaimSeven
namespace Go.Proofs.YtadhkemdndcjlaaGreatDoor
namespace Rows

/-- THE TIED CARD OF 'vergerlaw06.DnPrints'. -/
def dnPrintsCard : Claim7 := { stood := { row := dnPrintsRow, standIns := [], harness := (true, "7c802595227d0d971ab4337e790151b02235ad9d26c3f8684789337e9ea3e4d0"), looks := true }, kinds := [], alts := [], laidByText := true, laidKinds := [.data, .data, .data, .data, .sentinel, .sentinel, .pinned], laidTests := true, laidLooks := .later }
def DnPrintsCardSaid : Prop := Claim7.holds Tryz.pinned (.plain (OpenSpec.ofChange dnPrintsSpec)) dnPrintsCard

/-- THE TIED CARD OF 'vergerlaw11.PolicyDecides'. -/
def policyDecidesCard : Claim7 := { stood := { row := policyDecidesRow, standIns := [], harness := (true, "7c802595227d0d971ab4337e790151b02235ad9d26c3f8684789337e9ea3e4d0"), looks := true }, kinds := [], alts := [], laidByText := true, laidKinds := [.data, .data, .data, .data, .sentinel, .sentinel, .pinned], laidTests := true, laidLooks := .later }
def PolicyDecidesCardSaid : Prop := Claim7.holds Tryz.pinned (.plain (OpenSpec.ofChange policyDecidesSpec)) policyDecidesCard

/-- THE TIED CARD OF 'vergerlaw11.PolicyFirst'. -/
def policyFirstCard : Claim7 := { stood := { row := policyFirstRow, standIns := [], harness := (true, "7c802595227d0d971ab4337e790151b02235ad9d26c3f8684789337e9ea3e4d0"), looks := true }, kinds := [], alts := [], laidByText := true, laidKinds := [.data, .data, .data, .data, .sentinel, .sentinel, .pinned], laidTests := true, laidLooks := .later }
def PolicyFirstCardSaid : Prop := Claim7.holds Tryz.pinned (.plain (OpenSpec.ofChange policyFirstSpec)) policyFirstCard

/-- THE TIED CARD OF 'vergerlaw11.PolicySpelt'. -/
def policySpeltCard : Claim7 := { stood := { row := policySpeltRow, standIns := [], harness := (true, "7c802595227d0d971ab4337e790151b02235ad9d26c3f8684789337e9ea3e4d0"), looks := true }, kinds := [], alts := [], laidByText := true, laidKinds := [.data, .data, .data, .data, .sentinel, .sentinel, .pinned], laidTests := true, laidLooks := .later }
def PolicySpeltCardSaid : Prop := Claim7.holds Tryz.pinned (.plain (OpenSpec.ofChange policySpeltSpec)) policySpeltCard

/-- THE TIED CARD OF 'vergerlaw11.PolicyParts'. -/
def policyPartsCard : Claim7 := { stood := { row := policyPartsRow, standIns := [], harness := (true, "7c802595227d0d971ab4337e790151b02235ad9d26c3f8684789337e9ea3e4d0"), looks := true }, kinds := [], alts := [], laidByText := true, laidKinds := [.data, .data, .data, .data, .sentinel, .sentinel, .pinned], laidTests := true, laidLooks := .later }
def PolicyPartsCardSaid : Prop := Claim7.holds Tryz.pinned (.plain (OpenSpec.ofChange policyPartsSpec)) policyPartsCard

/-- THE TIED CARD OF 'vergerlaw11.PolicyRestricts'. -/
def policyRestrictsCard : Claim7 := { stood := { row := policyRestrictsRow, standIns := [], harness := (true, "7c802595227d0d971ab4337e790151b02235ad9d26c3f8684789337e9ea3e4d0"), looks := true }, kinds := [], alts := [], laidByText := true, laidKinds := [.data, .data, .data, .data, .sentinel, .sentinel, .pinned], laidTests := true, laidLooks := .later }
def PolicyRestrictsCardSaid : Prop := Claim7.holds Tryz.pinned (.plain (OpenSpec.ofChange policyRestrictsSpec)) policyRestrictsCard

/-- THE TIED CARD OF 'vergerlaw09.EntryMakes'. -/
def entryMakesCard : Claim7 := { stood := { row := entryMakesRow, standIns := [], harness := (true, "7c802595227d0d971ab4337e790151b02235ad9d26c3f8684789337e9ea3e4d0"), looks := true }, kinds := [], alts := [], laidByText := true, laidKinds := [.data, .data, .data, .data, .sentinel, .sentinel, .pinned], laidTests := true, laidLooks := .later }
def EntryMakesCardSaid : Prop := Claim7.holds Tryz.pinned (.plain (OpenSpec.ofChange entryMakesSpec)) entryMakesCard

/-- THE TIED CARD OF 'vergerlaw09.EntryRenames'. -/
def entryRenamesCard : Claim7 := { stood := { row := entryRenamesRow, standIns := [], harness := (true, "7c802595227d0d971ab4337e790151b02235ad9d26c3f8684789337e9ea3e4d0"), looks := true }, kinds := [], alts := [], laidByText := true, laidKinds := [.data, .data, .data, .data, .sentinel, .sentinel, .pinned], laidTests := true, laidLooks := .later }
def EntryRenamesCardSaid : Prop := Claim7.holds Tryz.pinned (.plain (OpenSpec.ofChange entryRenamesSpec)) entryRenamesCard

/-- THE TIED CARD OF 'vergerlaw09.EntryModifies'. -/
def entryModifiesCard : Claim7 := { stood := { row := entryModifiesRow, standIns := [], harness := (true, "7c802595227d0d971ab4337e790151b02235ad9d26c3f8684789337e9ea3e4d0"), looks := true }, kinds := [], alts := [], laidByText := true, laidKinds := [.data, .data, .data, .data, .sentinel, .sentinel, .pinned], laidTests := true, laidLooks := .later }
def EntryModifiesCardSaid : Prop := Claim7.holds Tryz.pinned (.plain (OpenSpec.ofChange entryModifiesSpec)) entryModifiesCard

/-- THE TIED CARD OF 'vergerlaw09.EntryUndoes'. -/
def entryUndoesCard : Claim7 := { stood := { row := entryUndoesRow, standIns := [], harness := (true, "7c802595227d0d971ab4337e790151b02235ad9d26c3f8684789337e9ea3e4d0"), looks := true }, kinds := [], alts := [], laidByText := true, laidKinds := [.data, .data, .data, .data, .sentinel, .sentinel, .pinned], laidTests := true, laidLooks := .later }
def EntryUndoesCardSaid : Prop := Claim7.holds Tryz.pinned (.plain (OpenSpec.ofChange entryUndoesSpec)) entryUndoesCard

/-- THE TIED CARD OF 'vergerlaw09.EntryParts'. -/
def entryPartsCard : Claim7 := { stood := { row := entryPartsRow, standIns := [], harness := (true, "7c802595227d0d971ab4337e790151b02235ad9d26c3f8684789337e9ea3e4d0"), looks := true }, kinds := [], alts := [], laidByText := true, laidKinds := [.data, .data, .data, .data, .sentinel, .sentinel, .pinned], laidTests := true, laidLooks := .later }
def EntryPartsCardSaid : Prop := Claim7.holds Tryz.pinned (.plain (OpenSpec.ofChange entryPartsSpec)) entryPartsCard

/-- THE TIED CARD OF 'vergerlaw09.EntryIncrements'. -/
def entryIncrementsCard : Claim7 := { stood := { row := entryIncrementsRow, standIns := [], harness := (true, "7c802595227d0d971ab4337e790151b02235ad9d26c3f8684789337e9ea3e4d0"), looks := true }, kinds := [], alts := [], laidByText := true, laidKinds := [.data, .data, .data, .data, .sentinel, .sentinel, .pinned], laidTests := true, laidLooks := .later }
def EntryIncrementsCardSaid : Prop := Claim7.holds Tryz.pinned (.plain (OpenSpec.ofChange entryIncrementsSpec)) entryIncrementsCard

/-- THE TIED CARD OF 'vergerlaw13.ResolveSteps'. -/
def resolveStepsCard : Claim7 := { stood := { row := resolveStepsRow, standIns := [], harness := (true, "7c802595227d0d971ab4337e790151b02235ad9d26c3f8684789337e9ea3e4d0"), looks := true }, kinds := [], alts := [], laidByText := true, laidKinds := [.data, .data, .data, .data, .sentinel, .sentinel, .pinned], laidTests := true, laidLooks := .later }
def ResolveStepsCardSaid : Prop := Claim7.holds Tryz.pinned (.plain (OpenSpec.ofChange resolveStepsSpec)) resolveStepsCard

/-- THE TIED CARD OF 'vergerlaw13.ResolveFinds'. -/
def resolveFindsCard : Claim7 := { stood := { row := resolveFindsRow, standIns := [], harness := (true, "7c802595227d0d971ab4337e790151b02235ad9d26c3f8684789337e9ea3e4d0"), looks := true }, kinds := [], alts := [], laidByText := true, laidKinds := [.data, .data, .data, .data, .sentinel, .sentinel, .pinned], laidTests := true, laidLooks := .later }
def ResolveFindsCardSaid : Prop := Claim7.holds Tryz.pinned (.plain (OpenSpec.ofChange resolveFindsSpec)) resolveFindsCard

/-- THE TIED CARD OF 'vergerlaw13.ResolveEnds'. -/
def resolveEndsCard : Claim7 := { stood := { row := resolveEndsRow, standIns := [], harness := (true, "7c802595227d0d971ab4337e790151b02235ad9d26c3f8684789337e9ea3e4d0"), looks := true }, kinds := [], alts := [], laidByText := true, laidKinds := [.data, .data, .data, .data, .sentinel, .sentinel, .pinned], laidTests := true, laidLooks := .later }
def ResolveEndsCardSaid : Prop := Claim7.holds Tryz.pinned (.plain (OpenSpec.ofChange resolveEndsSpec)) resolveEndsCard

/-- THE TIED CARD OF 'vergerlaw13.ResolvePlain'. -/
def resolvePlainCard : Claim7 := { stood := { row := resolvePlainRow, standIns := [], harness := (true, "7c802595227d0d971ab4337e790151b02235ad9d26c3f8684789337e9ea3e4d0"), looks := true }, kinds := [], alts := [], laidByText := true, laidKinds := [.data, .data, .data, .data, .sentinel, .sentinel, .pinned], laidTests := true, laidLooks := .later }
def ResolvePlainCardSaid : Prop := Claim7.holds Tryz.pinned (.plain (OpenSpec.ofChange resolvePlainSpec)) resolvePlainCard

/-- THE TIED CARD OF 'vergerlaw13.ResolveRings'. -/
def resolveRingsCard : Claim7 := { stood := { row := resolveRingsRow, standIns := [], harness := (true, "7c802595227d0d971ab4337e790151b02235ad9d26c3f8684789337e9ea3e4d0"), looks := true }, kinds := [], alts := [], laidByText := true, laidKinds := [.data, .data, .data, .data, .sentinel, .sentinel, .pinned], laidTests := true, laidLooks := .later }
def ResolveRingsCardSaid : Prop := Claim7.holds Tryz.pinned (.plain (OpenSpec.ofChange resolveRingsSpec)) resolveRingsCard

/-- THE TIED CARD OF 'vergerlaw12.ViewSees'. -/
def viewSeesCard : Claim7 := { stood := { row := viewSeesRow, standIns := [], harness := (true, "7c802595227d0d971ab4337e790151b02235ad9d26c3f8684789337e9ea3e4d0"), looks := true }, kinds := [], alts := [], laidByText := true, laidKinds := [.data, .data, .data, .data, .sentinel, .sentinel, .pinned], laidTests := true, laidLooks := .later }
def ViewSeesCardSaid : Prop := Claim7.holds Tryz.pinned (.plain (OpenSpec.ofChange viewSeesSpec)) viewSeesCard

/-- THE TIED CARD OF 'vergerlaw12.ViewLess'. -/
def viewLessCard : Claim7 := { stood := { row := viewLessRow, standIns := [], harness := (true, "7c802595227d0d971ab4337e790151b02235ad9d26c3f8684789337e9ea3e4d0"), looks := true }, kinds := [], alts := [], laidByText := true, laidKinds := [.data, .data, .data, .data, .sentinel, .sentinel, .pinned], laidTests := true, laidLooks := .later }
def ViewLessCardSaid : Prop := Claim7.holds Tryz.pinned (.plain (OpenSpec.ofChange viewLessSpec)) viewLessCard

/-- THE TIED CARD OF 'vergerlaw12.ViewAbove'. -/
def viewAboveCard : Claim7 := { stood := { row := viewAboveRow, standIns := [], harness := (true, "7c802595227d0d971ab4337e790151b02235ad9d26c3f8684789337e9ea3e4d0"), looks := true }, kinds := [], alts := [], laidByText := true, laidKinds := [.data, .data, .data, .data, .sentinel, .sentinel, .pinned], laidTests := true, laidLooks := .later }
def ViewAboveCardSaid : Prop := Claim7.holds Tryz.pinned (.plain (OpenSpec.ofChange viewAboveSpec)) viewAboveCard

/-- THE TIED CARD OF 'vergerlaw12.ViewWhole'. -/
def viewWholeCard : Claim7 := { stood := { row := viewWholeRow, standIns := [], harness := (true, "7c802595227d0d971ab4337e790151b02235ad9d26c3f8684789337e9ea3e4d0"), looks := true }, kinds := [], alts := [], laidByText := true, laidKinds := [.data, .data, .data, .data, .sentinel, .sentinel, .pinned], laidTests := true, laidLooks := .later }
def ViewWholeCardSaid : Prop := Claim7.holds Tryz.pinned (.plain (OpenSpec.ofChange viewWholeSpec)) viewWholeCard

/-- THE TIED CARD OF 'vergerlaw12.ViewRestricts'. -/
def viewRestrictsCard : Claim7 := { stood := { row := viewRestrictsRow, standIns := [], harness := (true, "7c802595227d0d971ab4337e790151b02235ad9d26c3f8684789337e9ea3e4d0"), looks := true }, kinds := [], alts := [], laidByText := true, laidKinds := [.data, .data, .data, .data, .sentinel, .sentinel, .pinned], laidTests := true, laidLooks := .later }
def ViewRestrictsCardSaid : Prop := Claim7.holds Tryz.pinned (.plain (OpenSpec.ofChange viewRestrictsSpec)) viewRestrictsCard

/-- THE SECOND FORM's CARD OF 'vergerlaw06.DnPrints'. -/
def dnPrintsUptoCard : Claim7 := { stood := { row := dnPrintsUptoRow, standIns := [], harness := (true, "7c802595227d0d971ab4337e790151b02235ad9d26c3f8684789337e9ea3e4d0"), looks := true }, kinds := [], alts := [], laidByText := true, laidKinds := [.data, .data, .data, .data, .sentinel, .sentinel, .pinned], laidTests := true, laidLooks := .later }
def DnPrintsUptoCardSaid : Prop := Claim7.holds Tryz.pinned (.plain (OpenSpec.upto dnPrintsSpec)) dnPrintsUptoCard

/-- THE SECOND FORM's CARD OF 'vergerlaw11.PolicyDecides'. -/
def policyDecidesUptoCard : Claim7 := { stood := { row := policyDecidesUptoRow, standIns := [], harness := (true, "7c802595227d0d971ab4337e790151b02235ad9d26c3f8684789337e9ea3e4d0"), looks := true }, kinds := [], alts := [], laidByText := true, laidKinds := [.data, .data, .data, .data, .sentinel, .sentinel, .pinned], laidTests := true, laidLooks := .later }
def PolicyDecidesUptoCardSaid : Prop := Claim7.holds Tryz.pinned (.plain (OpenSpec.upto policyDecidesSpec)) policyDecidesUptoCard

/-- THE SECOND FORM's CARD OF 'vergerlaw11.PolicyFirst'. -/
def policyFirstUptoCard : Claim7 := { stood := { row := policyFirstUptoRow, standIns := [], harness := (true, "7c802595227d0d971ab4337e790151b02235ad9d26c3f8684789337e9ea3e4d0"), looks := true }, kinds := [], alts := [], laidByText := true, laidKinds := [.data, .data, .data, .data, .sentinel, .sentinel, .pinned], laidTests := true, laidLooks := .later }
def PolicyFirstUptoCardSaid : Prop := Claim7.holds Tryz.pinned (.plain (OpenSpec.upto policyFirstSpec)) policyFirstUptoCard

/-- THE SECOND FORM's CARD OF 'vergerlaw11.PolicySpelt'. -/
def policySpeltUptoCard : Claim7 := { stood := { row := policySpeltUptoRow, standIns := [], harness := (true, "7c802595227d0d971ab4337e790151b02235ad9d26c3f8684789337e9ea3e4d0"), looks := true }, kinds := [], alts := [], laidByText := true, laidKinds := [.data, .data, .data, .data, .sentinel, .sentinel, .pinned], laidTests := true, laidLooks := .later }
def PolicySpeltUptoCardSaid : Prop := Claim7.holds Tryz.pinned (.plain (OpenSpec.upto policySpeltSpec)) policySpeltUptoCard

/-- THE SECOND FORM's CARD OF 'vergerlaw11.PolicyParts'. -/
def policyPartsUptoCard : Claim7 := { stood := { row := policyPartsUptoRow, standIns := [], harness := (true, "7c802595227d0d971ab4337e790151b02235ad9d26c3f8684789337e9ea3e4d0"), looks := true }, kinds := [], alts := [], laidByText := true, laidKinds := [.data, .data, .data, .data, .sentinel, .sentinel, .pinned], laidTests := true, laidLooks := .later }
def PolicyPartsUptoCardSaid : Prop := Claim7.holds Tryz.pinned (.plain (OpenSpec.upto policyPartsSpec)) policyPartsUptoCard

/-- THE SECOND FORM's CARD OF 'vergerlaw11.PolicyRestricts'. -/
def policyRestrictsUptoCard : Claim7 := { stood := { row := policyRestrictsUptoRow, standIns := [], harness := (true, "7c802595227d0d971ab4337e790151b02235ad9d26c3f8684789337e9ea3e4d0"), looks := true }, kinds := [], alts := [], laidByText := true, laidKinds := [.data, .data, .data, .data, .sentinel, .sentinel, .pinned], laidTests := true, laidLooks := .later }
def PolicyRestrictsUptoCardSaid : Prop := Claim7.holds Tryz.pinned (.plain (OpenSpec.upto policyRestrictsSpec)) policyRestrictsUptoCard

/-- THE SECOND FORM's CARD OF 'vergerlaw09.EntryMakes'. -/
def entryMakesUptoCard : Claim7 := { stood := { row := entryMakesUptoRow, standIns := [], harness := (true, "7c802595227d0d971ab4337e790151b02235ad9d26c3f8684789337e9ea3e4d0"), looks := true }, kinds := [], alts := [], laidByText := true, laidKinds := [.data, .data, .data, .data, .sentinel, .sentinel, .pinned], laidTests := true, laidLooks := .later }
def EntryMakesUptoCardSaid : Prop := Claim7.holds Tryz.pinned (.plain (OpenSpec.upto entryMakesSpec)) entryMakesUptoCard

/-- THE SECOND FORM's CARD OF 'vergerlaw09.EntryRenames'. -/
def entryRenamesUptoCard : Claim7 := { stood := { row := entryRenamesUptoRow, standIns := [], harness := (true, "7c802595227d0d971ab4337e790151b02235ad9d26c3f8684789337e9ea3e4d0"), looks := true }, kinds := [], alts := [], laidByText := true, laidKinds := [.data, .data, .data, .data, .sentinel, .sentinel, .pinned], laidTests := true, laidLooks := .later }
def EntryRenamesUptoCardSaid : Prop := Claim7.holds Tryz.pinned (.plain (OpenSpec.upto entryRenamesSpec)) entryRenamesUptoCard

/-- THE SECOND FORM's CARD OF 'vergerlaw09.EntryModifies'. -/
def entryModifiesUptoCard : Claim7 := { stood := { row := entryModifiesUptoRow, standIns := [], harness := (true, "7c802595227d0d971ab4337e790151b02235ad9d26c3f8684789337e9ea3e4d0"), looks := true }, kinds := [], alts := [], laidByText := true, laidKinds := [.data, .data, .data, .data, .sentinel, .sentinel, .pinned], laidTests := true, laidLooks := .later }
def EntryModifiesUptoCardSaid : Prop := Claim7.holds Tryz.pinned (.plain (OpenSpec.upto entryModifiesSpec)) entryModifiesUptoCard

/-- THE SECOND FORM's CARD OF 'vergerlaw09.EntryUndoes'. -/
def entryUndoesUptoCard : Claim7 := { stood := { row := entryUndoesUptoRow, standIns := [], harness := (true, "7c802595227d0d971ab4337e790151b02235ad9d26c3f8684789337e9ea3e4d0"), looks := true }, kinds := [], alts := [], laidByText := true, laidKinds := [.data, .data, .data, .data, .sentinel, .sentinel, .pinned], laidTests := true, laidLooks := .later }
def EntryUndoesUptoCardSaid : Prop := Claim7.holds Tryz.pinned (.plain (OpenSpec.upto entryUndoesSpec)) entryUndoesUptoCard

/-- THE SECOND FORM's CARD OF 'vergerlaw09.EntryParts'. -/
def entryPartsUptoCard : Claim7 := { stood := { row := entryPartsUptoRow, standIns := [], harness := (true, "7c802595227d0d971ab4337e790151b02235ad9d26c3f8684789337e9ea3e4d0"), looks := true }, kinds := [], alts := [], laidByText := true, laidKinds := [.data, .data, .data, .data, .sentinel, .sentinel, .pinned], laidTests := true, laidLooks := .later }
def EntryPartsUptoCardSaid : Prop := Claim7.holds Tryz.pinned (.plain (OpenSpec.upto entryPartsSpec)) entryPartsUptoCard

/-- THE SECOND FORM's CARD OF 'vergerlaw09.EntryIncrements'. -/
def entryIncrementsUptoCard : Claim7 := { stood := { row := entryIncrementsUptoRow, standIns := [], harness := (true, "7c802595227d0d971ab4337e790151b02235ad9d26c3f8684789337e9ea3e4d0"), looks := true }, kinds := [], alts := [], laidByText := true, laidKinds := [.data, .data, .data, .data, .sentinel, .sentinel, .pinned], laidTests := true, laidLooks := .later }
def EntryIncrementsUptoCardSaid : Prop := Claim7.holds Tryz.pinned (.plain (OpenSpec.upto entryIncrementsSpec)) entryIncrementsUptoCard

/-- THE SECOND FORM's CARD OF 'vergerlaw13.ResolveSteps'. -/
def resolveStepsUptoCard : Claim7 := { stood := { row := resolveStepsUptoRow, standIns := [], harness := (true, "7c802595227d0d971ab4337e790151b02235ad9d26c3f8684789337e9ea3e4d0"), looks := true }, kinds := [], alts := [], laidByText := true, laidKinds := [.data, .data, .data, .data, .sentinel, .sentinel, .pinned], laidTests := true, laidLooks := .later }
def ResolveStepsUptoCardSaid : Prop := Claim7.holds Tryz.pinned (.plain (OpenSpec.upto resolveStepsSpec)) resolveStepsUptoCard

/-- THE SECOND FORM's CARD OF 'vergerlaw13.ResolveFinds'. -/
def resolveFindsUptoCard : Claim7 := { stood := { row := resolveFindsUptoRow, standIns := [], harness := (true, "7c802595227d0d971ab4337e790151b02235ad9d26c3f8684789337e9ea3e4d0"), looks := true }, kinds := [], alts := [], laidByText := true, laidKinds := [.data, .data, .data, .data, .sentinel, .sentinel, .pinned], laidTests := true, laidLooks := .later }
def ResolveFindsUptoCardSaid : Prop := Claim7.holds Tryz.pinned (.plain (OpenSpec.upto resolveFindsSpec)) resolveFindsUptoCard

/-- THE SECOND FORM's CARD OF 'vergerlaw13.ResolveEnds'. -/
def resolveEndsUptoCard : Claim7 := { stood := { row := resolveEndsUptoRow, standIns := [], harness := (true, "7c802595227d0d971ab4337e790151b02235ad9d26c3f8684789337e9ea3e4d0"), looks := true }, kinds := [], alts := [], laidByText := true, laidKinds := [.data, .data, .data, .data, .sentinel, .sentinel, .pinned], laidTests := true, laidLooks := .later }
def ResolveEndsUptoCardSaid : Prop := Claim7.holds Tryz.pinned (.plain (OpenSpec.upto resolveEndsSpec)) resolveEndsUptoCard

/-- THE SECOND FORM's CARD OF 'vergerlaw13.ResolvePlain'. -/
def resolvePlainUptoCard : Claim7 := { stood := { row := resolvePlainUptoRow, standIns := [], harness := (true, "7c802595227d0d971ab4337e790151b02235ad9d26c3f8684789337e9ea3e4d0"), looks := true }, kinds := [], alts := [], laidByText := true, laidKinds := [.data, .data, .data, .data, .sentinel, .sentinel, .pinned], laidTests := true, laidLooks := .later }
def ResolvePlainUptoCardSaid : Prop := Claim7.holds Tryz.pinned (.plain (OpenSpec.upto resolvePlainSpec)) resolvePlainUptoCard

/-- THE SECOND FORM's CARD OF 'vergerlaw13.ResolveRings'. -/
def resolveRingsUptoCard : Claim7 := { stood := { row := resolveRingsUptoRow, standIns := [], harness := (true, "7c802595227d0d971ab4337e790151b02235ad9d26c3f8684789337e9ea3e4d0"), looks := true }, kinds := [], alts := [], laidByText := true, laidKinds := [.data, .data, .data, .data, .sentinel, .sentinel, .pinned], laidTests := true, laidLooks := .later }
def ResolveRingsUptoCardSaid : Prop := Claim7.holds Tryz.pinned (.plain (OpenSpec.upto resolveRingsSpec)) resolveRingsUptoCard

/-- THE SECOND FORM's CARD OF 'vergerlaw12.ViewSees'. -/
def viewSeesUptoCard : Claim7 := { stood := { row := viewSeesUptoRow, standIns := [], harness := (true, "7c802595227d0d971ab4337e790151b02235ad9d26c3f8684789337e9ea3e4d0"), looks := true }, kinds := [], alts := [], laidByText := true, laidKinds := [.data, .data, .data, .data, .sentinel, .sentinel, .pinned], laidTests := true, laidLooks := .later }
def ViewSeesUptoCardSaid : Prop := Claim7.holds Tryz.pinned (.plain (OpenSpec.upto viewSeesSpec)) viewSeesUptoCard

/-- THE SECOND FORM's CARD OF 'vergerlaw12.ViewLess'. -/
def viewLessUptoCard : Claim7 := { stood := { row := viewLessUptoRow, standIns := [], harness := (true, "7c802595227d0d971ab4337e790151b02235ad9d26c3f8684789337e9ea3e4d0"), looks := true }, kinds := [], alts := [], laidByText := true, laidKinds := [.data, .data, .data, .data, .sentinel, .sentinel, .pinned], laidTests := true, laidLooks := .later }
def ViewLessUptoCardSaid : Prop := Claim7.holds Tryz.pinned (.plain (OpenSpec.upto viewLessSpec)) viewLessUptoCard

/-- THE SECOND FORM's CARD OF 'vergerlaw12.ViewAbove'. -/
def viewAboveUptoCard : Claim7 := { stood := { row := viewAboveUptoRow, standIns := [], harness := (true, "7c802595227d0d971ab4337e790151b02235ad9d26c3f8684789337e9ea3e4d0"), looks := true }, kinds := [], alts := [], laidByText := true, laidKinds := [.data, .data, .data, .data, .sentinel, .sentinel, .pinned], laidTests := true, laidLooks := .later }
def ViewAboveUptoCardSaid : Prop := Claim7.holds Tryz.pinned (.plain (OpenSpec.upto viewAboveSpec)) viewAboveUptoCard

/-- THE SECOND FORM's CARD OF 'vergerlaw12.ViewWhole'. -/
def viewWholeUptoCard : Claim7 := { stood := { row := viewWholeUptoRow, standIns := [], harness := (true, "7c802595227d0d971ab4337e790151b02235ad9d26c3f8684789337e9ea3e4d0"), looks := true }, kinds := [], alts := [], laidByText := true, laidKinds := [.data, .data, .data, .data, .sentinel, .sentinel, .pinned], laidTests := true, laidLooks := .later }
def ViewWholeUptoCardSaid : Prop := Claim7.holds Tryz.pinned (.plain (OpenSpec.upto viewWholeSpec)) viewWholeUptoCard

/-- THE SECOND FORM's CARD OF 'vergerlaw12.ViewRestricts'. -/
def viewRestrictsUptoCard : Claim7 := { stood := { row := viewRestrictsUptoRow, standIns := [], harness := (true, "7c802595227d0d971ab4337e790151b02235ad9d26c3f8684789337e9ea3e4d0"), looks := true }, kinds := [], alts := [], laidByText := true, laidKinds := [.data, .data, .data, .data, .sentinel, .sentinel, .pinned], laidTests := true, laidLooks := .later }
def ViewRestrictsUptoCardSaid : Prop := Claim7.holds Tryz.pinned (.plain (OpenSpec.upto viewRestrictsSpec)) viewRestrictsUptoCard
end Rows
end Go.Proofs.YtadhkemdndcjlaaGreatDoor
