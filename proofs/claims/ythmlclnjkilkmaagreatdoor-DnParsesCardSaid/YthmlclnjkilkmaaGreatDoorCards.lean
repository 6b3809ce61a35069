/-
  DERIVED. GIVEN WITH THE SEED: THE CARDS: each row of YthmlclnjkilkmaaGreatDoorRows.lean that lists a variable, with what it lists TIED to the program's text (the seventh form; the later family's looks); each row that meets fmt, with fmt's text TOLD by the authors' own Lean function (tested against real Go, not proved from fmt's source: count such statements apart). THE CARD IS WHAT COUNTS. Prove the row's statement (the work); the ties are given (YthmlclnjkilkmaaGreatDoorTie.lean); close each card by the builder's one call (the guide's Derived/Test/ToyasCard.lean, 'card_holds'). Laid BY PROGRAM, IN A SANDBOX (cutbox-door.mjs). By AI agents, Wed Nov 11 2026. No macro, syntax, notation, axiom, sorry.
-/
import Derived.Test.YthmlclnjkilkmaaGreatDoorRows
import GoSem.ClaimSeven
namespace Go.Proofs.YthmlclnjkilkmaaGreatDoor
namespace Rows

/-- THE TIED CARD OF 'vergerlaw06.DnParses'. -/
def dnParsesCard : Claim7 := { stood := { row := dnParsesRow, standIns := [], harness := (true, "41705a37ed59e21e2d3c8ca535322029c33d6193dd6848d2191c3725fa34e508"), looks := true }, kinds := [], alts := [], laidByText := true, laidKinds := [.data, .data, .data, .data, .sentinel, .sentinel, .pinned], laidTests := true, laidLooks := .later }
def DnParsesCardSaid : Prop := Claim7.holds Tryz.pinned (.plain (OpenSpec.ofChange dnParsesSpec)) dnParsesCard

/-- THE TIED CARD OF 'vergerlaw06.DnPrints'. -/
def dnPrintsCard : Claim7 := { stood := { row := dnPrintsRow, standIns := [], harness := (true, "41705a37ed59e21e2d3c8ca535322029c33d6193dd6848d2191c3725fa34e508"), looks := true }, kinds := [], alts := [], laidByText := true, laidKinds := [.data, .data, .data, .data, .sentinel, .sentinel, .pinned], laidTests := true, laidLooks := .later }
def DnPrintsCardSaid : Prop := Claim7.holds Tryz.pinned (.plain (OpenSpec.ofChange dnPrintsSpec)) dnPrintsCard

/-- THE TIED CARD OF 'vergerlaw06.DnJoins'. -/
def dnJoinsCard : Claim7 := { stood := { row := dnJoinsRow, standIns := [], harness := (true, "41705a37ed59e21e2d3c8ca535322029c33d6193dd6848d2191c3725fa34e508"), looks := true }, kinds := [], alts := [], laidByText := true, laidKinds := [.data, .data, .data, .data, .sentinel, .sentinel, .pinned], laidTests := true, laidLooks := .later }
def DnJoinsCardSaid : Prop := Claim7.holds Tryz.pinned (.plain (OpenSpec.ofChange dnJoinsSpec)) dnJoinsCard

/-- THE TIED CARD OF 'vergerlaw06.DnAbove'. -/
def dnAboveCard : Claim7 := { stood := { row := dnAboveRow, standIns := [], harness := (true, "41705a37ed59e21e2d3c8ca535322029c33d6193dd6848d2191c3725fa34e508"), looks := true }, kinds := [], alts := [], laidByText := true, laidKinds := [.data, .data, .data, .data, .sentinel, .sentinel, .pinned], laidTests := true, laidLooks := .later }
def DnAboveCardSaid : Prop := Claim7.holds Tryz.pinned (.plain (OpenSpec.ofChange dnAboveSpec)) dnAboveCard

/-- THE TIED CARD OF 'vergerlaw06.DnMoves'. -/
def dnMovesCard : Claim7 := { stood := { row := dnMovesRow, standIns := [], harness := (true, "41705a37ed59e21e2d3c8ca535322029c33d6193dd6848d2191c3725fa34e508"), looks := true }, kinds := [], alts := [], laidByText := true, laidKinds := [.data, .data, .data, .data, .sentinel, .sentinel, .pinned], laidTests := true, laidLooks := .later }
def DnMovesCardSaid : Prop := Claim7.holds Tryz.pinned (.plain (OpenSpec.ofChange dnMovesSpec)) dnMovesCard

/-- THE TIED CARD OF 'vergerlaw06.DnOrders'. -/
def dnOrdersCard : Claim7 := { stood := { row := dnOrdersRow, standIns := [], harness := (true, "41705a37ed59e21e2d3c8ca535322029c33d6193dd6848d2191c3725fa34e508"), looks := true }, kinds := [], alts := [], laidByText := true, laidKinds := [.data, .data, .data, .data, .sentinel, .sentinel, .pinned], laidTests := true, laidLooks := .later }
def DnOrdersCardSaid : Prop := Claim7.holds Tryz.pinned (.plain (OpenSpec.ofChange dnOrdersSpec)) dnOrdersCard

/-- THE TIED CARD OF 'vergerlaw06.DnNormals'. -/
def dnNormalsCard : Claim7 := { stood := { row := dnNormalsRow, standIns := [], harness := (true, "41705a37ed59e21e2d3c8ca535322029c33d6193dd6848d2191c3725fa34e508"), looks := true }, kinds := [], alts := [], laidByText := true, laidKinds := [.data, .data, .data, .data, .sentinel, .sentinel, .pinned], laidTests := true, laidLooks := .later }
def DnNormalsCardSaid : Prop := Claim7.holds Tryz.pinned (.plain (OpenSpec.ofChange dnNormalsSpec)) dnNormalsCard

/-- THE TIED CARD OF 'vergerlaw11.PolicyDecides'. -/
def policyDecidesCard : Claim7 := { stood := { row := policyDecidesRow, standIns := [], harness := (true, "41705a37ed59e21e2d3c8ca535322029c33d6193dd6848d2191c3725fa34e508"), looks := true }, kinds := [], alts := [], laidByText := true, laidKinds := [.data, .data, .data, .data, .sentinel, .sentinel, .pinned], laidTests := true, laidLooks := .later }
def PolicyDecidesCardSaid : Prop := Claim7.holds Tryz.pinned (.plain (OpenSpec.ofChange policyDecidesSpec)) policyDecidesCard

/-- THE TIED CARD OF 'vergerlaw11.PolicyFirst'. -/
def policyFirstCard : Claim7 := { stood := { row := policyFirstRow, standIns := [], harness := (true, "41705a37ed59e21e2d3c8ca535322029c33d6193dd6848d2191c3725fa34e508"), looks := true }, kinds := [], alts := [], laidByText := true, laidKinds := [.data, .data, .data, .data, .sentinel, .sentinel, .pinned], laidTests := true, laidLooks := .later }
def PolicyFirstCardSaid : Prop := Claim7.holds Tryz.pinned (.plain (OpenSpec.ofChange policyFirstSpec)) policyFirstCard

/-- THE TIED CARD OF 'vergerlaw11.PolicySpelt'. -/
def policySpeltCard : Claim7 := { stood := { row := policySpeltRow, standIns := [], harness := (true, "41705a37ed59e21e2d3c8ca535322029c33d6193dd6848d2191c3725fa34e508"), looks := true }, kinds := [], alts := [], laidByText := true, laidKinds := [.data, .data, .data, .data, .sentinel, .sentinel, .pinned], laidTests := true, laidLooks := .later }
def PolicySpeltCardSaid : Prop := Claim7.holds Tryz.pinned (.plain (OpenSpec.ofChange policySpeltSpec)) policySpeltCard

/-- THE TIED CARD OF 'vergerlaw11.PolicyParts'. -/
def policyPartsCard : Claim7 := { stood := { row := policyPartsRow, standIns := [], harness := (true, "41705a37ed59e21e2d3c8ca535322029c33d6193dd6848d2191c3725fa34e508"), looks := true }, kinds := [], alts := [], laidByText := true, laidKinds := [.data, .data, .data, .data, .sentinel, .sentinel, .pinned], laidTests := true, laidLooks := .later }
def PolicyPartsCardSaid : Prop := Claim7.holds Tryz.pinned (.plain (OpenSpec.ofChange policyPartsSpec)) policyPartsCard

/-- THE TIED CARD OF 'vergerlaw11.PolicyRestricts'. -/
def policyRestrictsCard : Claim7 := { stood := { row := policyRestrictsRow, standIns := [], harness := (true, "41705a37ed59e21e2d3c8ca535322029c33d6193dd6848d2191c3725fa34e508"), looks := true }, kinds := [], alts := [], laidByText := true, laidKinds := [.data, .data, .data, .data, .sentinel, .sentinel, .pinned], laidTests := true, laidLooks := .later }
def PolicyRestrictsCardSaid : Prop := Claim7.holds Tryz.pinned (.plain (OpenSpec.ofChange policyRestrictsSpec)) policyRestrictsCard

/-- THE SECOND FORM's CARD OF 'vergerlaw06.DnParses'. -/
def dnParsesUptoCard : Claim7 := { stood := { row := dnParsesUptoRow, standIns := [], harness := (true, "41705a37ed59e21e2d3c8ca535322029c33d6193dd6848d2191c3725fa34e508"), looks := true }, kinds := [], alts := [], laidByText := true, laidKinds := [.data, .data, .data, .data, .sentinel, .sentinel, .pinned], laidTests := true, laidLooks := .later }
def DnParsesUptoCardSaid : Prop := Claim7.holds Tryz.pinned (.plain (OpenSpec.upto dnParsesSpec)) dnParsesUptoCard

/-- THE SECOND FORM's CARD OF 'vergerlaw06.DnPrints'. -/
def dnPrintsUptoCard : Claim7 := { stood := { row := dnPrintsUptoRow, standIns := [], harness := (true, "41705a37ed59e21e2d3c8ca535322029c33d6193dd6848d2191c3725fa34e508"), looks := true }, kinds := [], alts := [], laidByText := true, laidKinds := [.data, .data, .data, .data, .sentinel, .sentinel, .pinned], laidTests := true, laidLooks := .later }
def DnPrintsUptoCardSaid : Prop := Claim7.holds Tryz.pinned (.plain (OpenSpec.upto dnPrintsSpec)) dnPrintsUptoCard

/-- THE SECOND FORM's CARD OF 'vergerlaw06.DnJoins'. -/
def dnJoinsUptoCard : Claim7 := { stood := { row := dnJoinsUptoRow, standIns := [], harness := (true, "41705a37ed59e21e2d3c8ca535322029c33d6193dd6848d2191c3725fa34e508"), looks := true }, kinds := [], alts := [], laidByText := true, laidKinds := [.data, .data, .data, .data, .sentinel, .sentinel, .pinned], laidTests := true, laidLooks := .later }
def DnJoinsUptoCardSaid : Prop := Claim7.holds Tryz.pinned (.plain (OpenSpec.upto dnJoinsSpec)) dnJoinsUptoCard

/-- THE SECOND FORM's CARD OF 'vergerlaw06.DnAbove'. -/
def dnAboveUptoCard : Claim7 := { stood := { row := dnAboveUptoRow, standIns := [], harness := (true, "41705a37ed59e21e2d3c8ca535322029c33d6193dd6848d2191c3725fa34e508"), looks := true }, kinds := [], alts := [], laidByText := true, laidKinds := [.data, .data, .data, .data, .sentinel, .sentinel, .pinned], laidTests := true, laidLooks := .later }
def DnAboveUptoCardSaid : Prop := Claim7.holds Tryz.pinned (.plain (OpenSpec.upto dnAboveSpec)) dnAboveUptoCard

/-- THE SECOND FORM's CARD OF 'vergerlaw06.DnMoves'. -/
def dnMovesUptoCard : Claim7 := { stood := { row := dnMovesUptoRow, standIns := [], harness := (true, "41705a37ed59e21e2d3c8ca535322029c33d6193dd6848d2191c3725fa34e508"), looks := true }, kinds := [], alts := [], laidByText := true, laidKinds := [.data, .data, .data, .data, .sentinel, .sentinel, .pinned], laidTests := true, laidLooks := .later }
def DnMovesUptoCardSaid : Prop := Claim7.holds Tryz.pinned (.plain (OpenSpec.upto dnMovesSpec)) dnMovesUptoCard

/-- THE SECOND FORM's CARD OF 'vergerlaw06.DnOrders'. -/
def dnOrdersUptoCard : Claim7 := { stood := { row := dnOrdersUptoRow, standIns := [], harness := (true, "41705a37ed59e21e2d3c8ca535322029c33d6193dd6848d2191c3725fa34e508"), looks := true }, kinds := [], alts := [], laidByText := true, laidKinds := [.data, .data, .data, .data, .sentinel, .sentinel, .pinned], laidTests := true, laidLooks := .later }
def DnOrdersUptoCardSaid : Prop := Claim7.holds Tryz.pinned (.plain (OpenSpec.upto dnOrdersSpec)) dnOrdersUptoCard

/-- THE SECOND FORM's CARD OF 'vergerlaw06.DnNormals'. -/
def dnNormalsUptoCard : Claim7 := { stood := { row := dnNormalsUptoRow, standIns := [], harness := (true, "41705a37ed59e21e2d3c8ca535322029c33d6193dd6848d2191c3725fa34e508"), looks := true }, kinds := [], alts := [], laidByText := true, laidKinds := [.data, .data, .data, .data, .sentinel, .sentinel, .pinned], laidTests := true, laidLooks := .later }
def DnNormalsUptoCardSaid : Prop := Claim7.holds Tryz.pinned (.plain (OpenSpec.upto dnNormalsSpec)) dnNormalsUptoCard

/-- THE SECOND FORM's CARD OF 'vergerlaw11.PolicyDecides'. -/
def policyDecidesUptoCard : Claim7 := { stood := { row := policyDecidesUptoRow, standIns := [], harness := (true, "41705a37ed59e21e2d3c8ca535322029c33d6193dd6848d2191c3725fa34e508"), looks := true }, kinds := [], alts := [], laidByText := true, laidKinds := [.data, .data, .data, .data, .sentinel, .sentinel, .pinned], laidTests := true, laidLooks := .later }
def PolicyDecidesUptoCardSaid : Prop := Claim7.holds Tryz.pinned (.plain (OpenSpec.upto policyDecidesSpec)) policyDecidesUptoCard

/-- THE SECOND FORM's CARD OF 'vergerlaw11.PolicyFirst'. -/
def policyFirstUptoCard : Claim7 := { stood := { row := policyFirstUptoRow, standIns := [], harness := (true, "41705a37ed59e21e2d3c8ca535322029c33d6193dd6848d2191c3725fa34e508"), looks := true }, kinds := [], alts := [], laidByText := true, laidKinds := [.data, .data, .data, .data, .sentinel, .sentinel, .pinned], laidTests := true, laidLooks := .later }
def PolicyFirstUptoCardSaid : Prop := Claim7.holds Tryz.pinned (.plain (OpenSpec.upto policyFirstSpec)) policyFirstUptoCard

/-- THE SECOND FORM's CARD OF 'vergerlaw11.PolicySpelt'. -/
def policySpeltUptoCard : Claim7 := { stood := { row := policySpeltUptoRow, standIns := [], harness := (true, "41705a37ed59e21e2d3c8ca535322029c33d6193dd6848d2191c3725fa34e508"), looks := true }, kinds := [], alts := [], laidByText := true, laidKinds := [.data, .data, .data, .data, .sentinel, .sentinel, .pinned], laidTests := true, laidLooks := .later }
def PolicySpeltUptoCardSaid : Prop := Claim7.holds Tryz.pinned (.plain (OpenSpec.upto policySpeltSpec)) policySpeltUptoCard

/-- THE SECOND FORM's CARD OF 'vergerlaw11.PolicyParts'. -/
def policyPartsUptoCard : Claim7 := { stood := { row := policyPartsUptoRow, standIns := [], harness := (true, "41705a37ed59e21e2d3c8ca535322029c33d6193dd6848d2191c3725fa34e508"), looks := true }, kinds := [], alts := [], laidByText := true, laidKinds := [.data, .data, .data, .data, .sentinel, .sentinel, .pinned], laidTests := true, laidLooks := .later }
def PolicyPartsUptoCardSaid : Prop := Claim7.holds Tryz.pinned (.plain (OpenSpec.upto policyPartsSpec)) policyPartsUptoCard

/-- THE SECOND FORM's CARD OF 'vergerlaw11.PolicyRestricts'. -/
def policyRestrictsUptoCard : Claim7 := { stood := { row := policyRestrictsUptoRow, standIns := [], harness := (true, "41705a37ed59e21e2d3c8ca535322029c33d6193dd6848d2191c3725fa34e508"), looks := true }, kinds := [], alts := [], laidByText := true, laidKinds := [.data, .data, .data, .data, .sentinel, .sentinel, .pinned], laidTests := true, laidLooks := .later }
def PolicyRestrictsUptoCardSaid : Prop := Claim7.holds Tryz.pinned (.plain (OpenSpec.upto policyRestrictsSpec)) policyRestrictsUptoCard
end Rows
end Go.Proofs.YthmlclnjkilkmaaGreatDoor
