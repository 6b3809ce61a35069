/-
  DERIVED. GIVEN WITH THE SEED: THE CARDS: each row of YtjjbkldlgjllnaaGreatDoorRows.lean that lists a variable, with what it lists TIED to the program's text (the seventh form; the later family's looks); each row that meets fmt, with fmt's text TOLD by the authors' own Lean function (tested against real Go, not proved from fmt's source: count such statements apart). THE CARD IS WHAT COUNTS. Prove the row's statement (the work); the ties are given (YtjjbkldlgjllnaaGreatDoorTie.lean); close each card by the builder's one call (the guide's Derived/Test/ToyasCard.lean, 'card_holds'). Laid BY PROGRAM, IN A SANDBOX (cutbox-door.mjs). By AI agents, Wed Nov 11 2026. No macro, syntax, notation, axiom, sorry.
-/
import Derived.Test.YtjjbkldlgjllnaaGreatDoorRows
import GoSem.ClaimSeven
namespace Go.Proofs.YtjjbkldlgjllnaaGreatDoor
namespace Rows

/-- THE TIED CARD OF 'vergerlaw04.RuleNormals'. -/
def ruleNormalsCard : Claim7 := { stood := { row := ruleNormalsRow, standIns := [], harness := (true, "8a63a65b155a7b75e56ce620889025096039b708085a6a8b32d5fb827fba605d"), looks := true }, kinds := [], alts := [], laidByText := true, laidKinds := [.data, .data, .data, .data, .sentinel, .sentinel, .pinned], laidTests := true, laidLooks := .later }
def RuleNormalsCardSaid : Prop := Claim7.holds Tryz.pinned (.plain (OpenSpec.ofChange ruleNormalsSpec)) ruleNormalsCard

/-- THE TIED CARD OF 'vergerlaw04.RuleSame'. -/
def ruleSameCard : Claim7 := { stood := { row := ruleSameRow, standIns := [], harness := (true, "8a63a65b155a7b75e56ce620889025096039b708085a6a8b32d5fb827fba605d"), looks := true }, kinds := [], alts := [], laidByText := true, laidKinds := [.data, .data, .data, .data, .sentinel, .sentinel, .pinned], laidTests := true, laidLooks := .later }
def RuleSameCardSaid : Prop := Claim7.holds Tryz.pinned (.plain (OpenSpec.ofChange ruleSameSpec)) ruleSameCard

/-- THE TIED CARD OF 'vergerlaw04.RuleNear'. -/
def ruleNearCard : Claim7 := { stood := { row := ruleNearRow, standIns := [], harness := (true, "8a63a65b155a7b75e56ce620889025096039b708085a6a8b32d5fb827fba605d"), looks := true }, kinds := [], alts := [], laidByText := true, laidKinds := [.data, .data, .data, .data, .sentinel, .sentinel, .pinned], laidTests := true, laidLooks := .later }
def RuleNearCardSaid : Prop := Claim7.holds Tryz.pinned (.plain (OpenSpec.ofChange ruleNearSpec)) ruleNearCard

/-- THE TIED CARD OF 'vergerlaw04.RuleIntegers'. -/
def ruleIntegersCard : Claim7 := { stood := { row := ruleIntegersRow, standIns := [], harness := (true, "8a63a65b155a7b75e56ce620889025096039b708085a6a8b32d5fb827fba605d"), looks := true }, kinds := [], alts := [], laidByText := true, laidKinds := [.data, .data, .data, .data, .sentinel, .sentinel, .pinned], laidTests := true, laidLooks := .later }
def RuleIntegersCardSaid : Prop := Claim7.holds Tryz.pinned (.plain (OpenSpec.ofChange ruleIntegersSpec)) ruleIntegersCard

/-- THE TIED CARD OF 'vergerlaw04.RuleCompares'. -/
def ruleComparesCard : Claim7 := { stood := { row := ruleComparesRow, standIns := [], harness := (true, "8a63a65b155a7b75e56ce620889025096039b708085a6a8b32d5fb827fba605d"), looks := true }, kinds := [], alts := [], laidByText := true, laidKinds := [.data, .data, .data, .data, .sentinel, .sentinel, .pinned], laidTests := true, laidLooks := .later }
def RuleComparesCardSaid : Prop := Claim7.holds Tryz.pinned (.plain (OpenSpec.ofChange ruleComparesSpec)) ruleComparesCard

/-- THE TIED CARD OF 'vergerlaw05.RdnParses'. -/
def rdnParsesCard : Claim7 := { stood := { row := rdnParsesRow, standIns := [], harness := (true, "8a63a65b155a7b75e56ce620889025096039b708085a6a8b32d5fb827fba605d"), looks := true }, kinds := [], alts := [], laidByText := true, laidKinds := [.data, .data, .data, .data, .sentinel, .sentinel, .pinned], laidTests := true, laidLooks := .later }
def RdnParsesCardSaid : Prop := Claim7.holds Tryz.pinned (.plain (OpenSpec.ofChange rdnParsesSpec)) rdnParsesCard

/-- THE TIED CARD OF 'vergerlaw05.RdnNormals'. -/
def rdnNormalsCard : Claim7 := { stood := { row := rdnNormalsRow, standIns := [], harness := (true, "8a63a65b155a7b75e56ce620889025096039b708085a6a8b32d5fb827fba605d"), looks := true }, kinds := [], alts := [], laidByText := true, laidKinds := [.data, .data, .data, .data, .sentinel, .sentinel, .pinned], laidTests := true, laidLooks := .later }
def RdnNormalsCardSaid : Prop := Claim7.holds Tryz.pinned (.plain (OpenSpec.ofChange rdnNormalsSpec)) rdnNormalsCard

/-- THE TIED CARD OF 'vergerlaw05.RdnPrints'. -/
def rdnPrintsCard : Claim7 := { stood := { row := rdnPrintsRow, standIns := [], harness := (true, "8a63a65b155a7b75e56ce620889025096039b708085a6a8b32d5fb827fba605d"), looks := true }, kinds := [], alts := [], laidByText := true, laidKinds := [.data, .data, .data, .data, .sentinel, .sentinel, .pinned], laidTests := true, laidLooks := .later }
def RdnPrintsCardSaid : Prop := Claim7.holds Tryz.pinned (.plain (OpenSpec.ofChange rdnPrintsSpec)) rdnPrintsCard

/-- THE TIED CARD OF 'vergerlaw05.RdnBack'. -/
def rdnBackCard : Claim7 := { stood := { row := rdnBackRow, standIns := [], harness := (true, "8a63a65b155a7b75e56ce620889025096039b708085a6a8b32d5fb827fba605d"), looks := true }, kinds := [], alts := [], laidByText := true, laidKinds := [.data, .data, .data, .data, .sentinel, .sentinel, .pinned], laidTests := true, laidLooks := .later }
def RdnBackCardSaid : Prop := Claim7.holds Tryz.pinned (.plain (OpenSpec.ofChange rdnBackSpec)) rdnBackCard

/-- THE TIED CARD OF 'vergerlaw05.RdnEscapes'. -/
def rdnEscapesCard : Claim7 := { stood := { row := rdnEscapesRow, standIns := [], harness := (true, "8a63a65b155a7b75e56ce620889025096039b708085a6a8b32d5fb827fba605d"), looks := true }, kinds := [], alts := [], laidByText := true, laidKinds := [.data, .data, .data, .data, .sentinel, .sentinel, .pinned], laidTests := true, laidLooks := .later }
def RdnEscapesCardSaid : Prop := Claim7.holds Tryz.pinned (.plain (OpenSpec.ofChange rdnEscapesSpec)) rdnEscapesCard

/-- THE TIED CARD OF 'vergerlaw06.DnParses'. -/
def dnParsesCard : Claim7 := { stood := { row := dnParsesRow, standIns := [], harness := (true, "8a63a65b155a7b75e56ce620889025096039b708085a6a8b32d5fb827fba605d"), looks := true }, kinds := [], alts := [], laidByText := true, laidKinds := [.data, .data, .data, .data, .sentinel, .sentinel, .pinned], laidTests := true, laidLooks := .later }
def DnParsesCardSaid : Prop := Claim7.holds Tryz.pinned (.plain (OpenSpec.ofChange dnParsesSpec)) dnParsesCard

/-- THE TIED CARD OF 'vergerlaw06.DnPrints'. -/
def dnPrintsCard : Claim7 := { stood := { row := dnPrintsRow, standIns := [], harness := (true, "8a63a65b155a7b75e56ce620889025096039b708085a6a8b32d5fb827fba605d"), looks := true }, kinds := [], alts := [], laidByText := true, laidKinds := [.data, .data, .data, .data, .sentinel, .sentinel, .pinned], laidTests := true, laidLooks := .later }
def DnPrintsCardSaid : Prop := Claim7.holds Tryz.pinned (.plain (OpenSpec.ofChange dnPrintsSpec)) dnPrintsCard

/-- THE TIED CARD OF 'vergerlaw06.DnJoins'. -/
def dnJoinsCard : Claim7 := { stood := { row := dnJoinsRow, standIns := [], harness := (true, "8a63a65b155a7b75e56ce620889025096039b708085a6a8b32d5fb827fba605d"), looks := true }, kinds := [], alts := [], laidByText := true, laidKinds := [.data, .data, .data, .data, .sentinel, .sentinel, .pinned], laidTests := true, laidLooks := .later }
def DnJoinsCardSaid : Prop := Claim7.holds Tryz.pinned (.plain (OpenSpec.ofChange dnJoinsSpec)) dnJoinsCard

/-- THE TIED CARD OF 'vergerlaw06.DnAbove'. -/
def dnAboveCard : Claim7 := { stood := { row := dnAboveRow, standIns := [], harness := (true, "8a63a65b155a7b75e56ce620889025096039b708085a6a8b32d5fb827fba605d"), looks := true }, kinds := [], alts := [], laidByText := true, laidKinds := [.data, .data, .data, .data, .sentinel, .sentinel, .pinned], laidTests := true, laidLooks := .later }
def DnAboveCardSaid : Prop := Claim7.holds Tryz.pinned (.plain (OpenSpec.ofChange dnAboveSpec)) dnAboveCard

/-- THE TIED CARD OF 'vergerlaw06.DnMoves'. -/
def dnMovesCard : Claim7 := { stood := { row := dnMovesRow, standIns := [], harness := (true, "8a63a65b155a7b75e56ce620889025096039b708085a6a8b32d5fb827fba605d"), looks := true }, kinds := [], alts := [], laidByText := true, laidKinds := [.data, .data, .data, .data, .sentinel, .sentinel, .pinned], laidTests := true, laidLooks := .later }
def DnMovesCardSaid : Prop := Claim7.holds Tryz.pinned (.plain (OpenSpec.ofChange dnMovesSpec)) dnMovesCard

/-- THE TIED CARD OF 'vergerlaw06.DnOrders'. -/
def dnOrdersCard : Claim7 := { stood := { row := dnOrdersRow, standIns := [], harness := (true, "8a63a65b155a7b75e56ce620889025096039b708085a6a8b32d5fb827fba605d"), looks := true }, kinds := [], alts := [], laidByText := true, laidKinds := [.data, .data, .data, .data, .sentinel, .sentinel, .pinned], laidTests := true, laidLooks := .later }
def DnOrdersCardSaid : Prop := Claim7.holds Tryz.pinned (.plain (OpenSpec.ofChange dnOrdersSpec)) dnOrdersCard

/-- THE TIED CARD OF 'vergerlaw06.DnNormals'. -/
def dnNormalsCard : Claim7 := { stood := { row := dnNormalsRow, standIns := [], harness := (true, "8a63a65b155a7b75e56ce620889025096039b708085a6a8b32d5fb827fba605d"), looks := true }, kinds := [], alts := [], laidByText := true, laidKinds := [.data, .data, .data, .data, .sentinel, .sentinel, .pinned], laidTests := true, laidLooks := .later }
def DnNormalsCardSaid : Prop := Claim7.holds Tryz.pinned (.plain (OpenSpec.ofChange dnNormalsSpec)) dnNormalsCard

/-- THE SECOND FORM's CARD OF 'vergerlaw04.RuleNormals'. -/
def ruleNormalsUptoCard : Claim7 := { stood := { row := ruleNormalsUptoRow, standIns := [], harness := (true, "8a63a65b155a7b75e56ce620889025096039b708085a6a8b32d5fb827fba605d"), looks := true }, kinds := [], alts := [], laidByText := true, laidKinds := [.data, .data, .data, .data, .sentinel, .sentinel, .pinned], laidTests := true, laidLooks := .later }
def RuleNormalsUptoCardSaid : Prop := Claim7.holds Tryz.pinned (.plain (OpenSpec.upto ruleNormalsSpec)) ruleNormalsUptoCard

/-- THE SECOND FORM's CARD OF 'vergerlaw04.RuleSame'. -/
def ruleSameUptoCard : Claim7 := { stood := { row := ruleSameUptoRow, standIns := [], harness := (true, "8a63a65b155a7b75e56ce620889025096039b708085a6a8b32d5fb827fba605d"), looks := true }, kinds := [], alts := [], laidByText := true, laidKinds := [.data, .data, .data, .data, .sentinel, .sentinel, .pinned], laidTests := true, laidLooks := .later }
def RuleSameUptoCardSaid : Prop := Claim7.holds Tryz.pinned (.plain (OpenSpec.upto ruleSameSpec)) ruleSameUptoCard

/-- THE SECOND FORM's CARD OF 'vergerlaw04.RuleNear'. -/
def ruleNearUptoCard : Claim7 := { stood := { row := ruleNearUptoRow, standIns := [], harness := (true, "8a63a65b155a7b75e56ce620889025096039b708085a6a8b32d5fb827fba605d"), looks := true }, kinds := [], alts := [], laidByText := true, laidKinds := [.data, .data, .data, .data, .sentinel, .sentinel, .pinned], laidTests := true, laidLooks := .later }
def RuleNearUptoCardSaid : Prop := Claim7.holds Tryz.pinned (.plain (OpenSpec.upto ruleNearSpec)) ruleNearUptoCard

/-- THE SECOND FORM's CARD OF 'vergerlaw04.RuleIntegers'. -/
def ruleIntegersUptoCard : Claim7 := { stood := { row := ruleIntegersUptoRow, standIns := [], harness := (true, "8a63a65b155a7b75e56ce620889025096039b708085a6a8b32d5fb827fba605d"), looks := true }, kinds := [], alts := [], laidByText := true, laidKinds := [.data, .data, .data, .data, .sentinel, .sentinel, .pinned], laidTests := true, laidLooks := .later }
def RuleIntegersUptoCardSaid : Prop := Claim7.holds Tryz.pinned (.plain (OpenSpec.upto ruleIntegersSpec)) ruleIntegersUptoCard

/-- THE SECOND FORM's CARD OF 'vergerlaw04.RuleCompares'. -/
def ruleComparesUptoCard : Claim7 := { stood := { row := ruleComparesUptoRow, standIns := [], harness := (true, "8a63a65b155a7b75e56ce620889025096039b708085a6a8b32d5fb827fba605d"), looks := true }, kinds := [], alts := [], laidByText := true, laidKinds := [.data, .data, .data, .data, .sentinel, .sentinel, .pinned], laidTests := true, laidLooks := .later }
def RuleComparesUptoCardSaid : Prop := Claim7.holds Tryz.pinned (.plain (OpenSpec.upto ruleComparesSpec)) ruleComparesUptoCard

/-- THE SECOND FORM's CARD OF 'vergerlaw05.RdnParses'. -/
def rdnParsesUptoCard : Claim7 := { stood := { row := rdnParsesUptoRow, standIns := [], harness := (true, "8a63a65b155a7b75e56ce620889025096039b708085a6a8b32d5fb827fba605d"), looks := true }, kinds := [], alts := [], laidByText := true, laidKinds := [.data, .data, .data, .data, .sentinel, .sentinel, .pinned], laidTests := true, laidLooks := .later }
def RdnParsesUptoCardSaid : Prop := Claim7.holds Tryz.pinned (.plain (OpenSpec.upto rdnParsesSpec)) rdnParsesUptoCard

/-- THE SECOND FORM's CARD OF 'vergerlaw05.RdnNormals'. -/
def rdnNormalsUptoCard : Claim7 := { stood := { row := rdnNormalsUptoRow, standIns := [], harness := (true, "8a63a65b155a7b75e56ce620889025096039b708085a6a8b32d5fb827fba605d"), looks := true }, kinds := [], alts := [], laidByText := true, laidKinds := [.data, .data, .data, .data, .sentinel, .sentinel, .pinned], laidTests := true, laidLooks := .later }
def RdnNormalsUptoCardSaid : Prop := Claim7.holds Tryz.pinned (.plain (OpenSpec.upto rdnNormalsSpec)) rdnNormalsUptoCard

/-- THE SECOND FORM's CARD OF 'vergerlaw05.RdnPrints'. -/
def rdnPrintsUptoCard : Claim7 := { stood := { row := rdnPrintsUptoRow, standIns := [], harness := (true, "8a63a65b155a7b75e56ce620889025096039b708085a6a8b32d5fb827fba605d"), looks := true }, kinds := [], alts := [], laidByText := true, laidKinds := [.data, .data, .data, .data, .sentinel, .sentinel, .pinned], laidTests := true, laidLooks := .later }
def RdnPrintsUptoCardSaid : Prop := Claim7.holds Tryz.pinned (.plain (OpenSpec.upto rdnPrintsSpec)) rdnPrintsUptoCard

/-- THE SECOND FORM's CARD OF 'vergerlaw05.RdnBack'. -/
def rdnBackUptoCard : Claim7 := { stood := { row := rdnBackUptoRow, standIns := [], harness := (true, "8a63a65b155a7b75e56ce620889025096039b708085a6a8b32d5fb827fba605d"), looks := true }, kinds := [], alts := [], laidByText := true, laidKinds := [.data, .data, .data, .data, .sentinel, .sentinel, .pinned], laidTests := true, laidLooks := .later }
def RdnBackUptoCardSaid : Prop := Claim7.holds Tryz.pinned (.plain (OpenSpec.upto rdnBackSpec)) rdnBackUptoCard

/-- THE SECOND FORM's CARD OF 'vergerlaw05.RdnEscapes'. -/
def rdnEscapesUptoCard : Claim7 := { stood := { row := rdnEscapesUptoRow, standIns := [], harness := (true, "8a63a65b155a7b75e56ce620889025096039b708085a6a8b32d5fb827fba605d"), looks := true }, kinds := [], alts := [], laidByText := true, laidKinds := [.data, .data, .data, .data, .sentinel, .sentinel, .pinned], laidTests := true, laidLooks := .later }
def RdnEscapesUptoCardSaid : Prop := Claim7.holds Tryz.pinned (.plain (OpenSpec.upto rdnEscapesSpec)) rdnEscapesUptoCard

/-- THE SECOND FORM's CARD OF 'vergerlaw06.DnParses'. -/
def dnParsesUptoCard : Claim7 := { stood := { row := dnParsesUptoRow, standIns := [], harness := (true, "8a63a65b155a7b75e56ce620889025096039b708085a6a8b32d5fb827fba605d"), looks := true }, kinds := [], alts := [], laidByText := true, laidKinds := [.data, .data, .data, .data, .sentinel, .sentinel, .pinned], laidTests := true, laidLooks := .later }
def DnParsesUptoCardSaid : Prop := Claim7.holds Tryz.pinned (.plain (OpenSpec.upto dnParsesSpec)) dnParsesUptoCard

/-- THE SECOND FORM's CARD OF 'vergerlaw06.DnPrints'. -/
def dnPrintsUptoCard : Claim7 := { stood := { row := dnPrintsUptoRow, standIns := [], harness := (true, "8a63a65b155a7b75e56ce620889025096039b708085a6a8b32d5fb827fba605d"), looks := true }, kinds := [], alts := [], laidByText := true, laidKinds := [.data, .data, .data, .data, .sentinel, .sentinel, .pinned], laidTests := true, laidLooks := .later }
def DnPrintsUptoCardSaid : Prop := Claim7.holds Tryz.pinned (.plain (OpenSpec.upto dnPrintsSpec)) dnPrintsUptoCard

/-- THE SECOND FORM's CARD OF 'vergerlaw06.DnJoins'. -/
def dnJoinsUptoCard : Claim7 := { stood := { row := dnJoinsUptoRow, standIns := [], harness := (true, "8a63a65b155a7b75e56ce620889025096039b708085a6a8b32d5fb827fba605d"), looks := true }, kinds := [], alts := [], laidByText := true, laidKinds := [.data, .data, .data, .data, .sentinel, .sentinel, .pinned], laidTests := true, laidLooks := .later }
def DnJoinsUptoCardSaid : Prop := Claim7.holds Tryz.pinned (.plain (OpenSpec.upto dnJoinsSpec)) dnJoinsUptoCard

/-- THE SECOND FORM's CARD OF 'vergerlaw06.DnAbove'. -/
def dnAboveUptoCard : Claim7 := { stood := { row := dnAboveUptoRow, standIns := [], harness := (true, "8a63a65b155a7b75e56ce620889025096039b708085a6a8b32d5fb827fba605d"), looks := true }, kinds := [], alts := [], laidByText := true, laidKinds := [.data, .data, .data, .data, .sentinel, .sentinel, .pinned], laidTests := true, laidLooks := .later }
def DnAboveUptoCardSaid : Prop := Claim7.holds Tryz.pinned (.plain (OpenSpec.upto dnAboveSpec)) dnAboveUptoCard

/-- THE SECOND FORM's CARD OF 'vergerlaw06.DnMoves'. -/
def dnMovesUptoCard : Claim7 := { stood := { row := dnMovesUptoRow, standIns := [], harness := (true, "8a63a65b155a7b75e56ce620889025096039b708085a6a8b32d5fb827fba605d"), looks := true }, kinds := [], alts := [], laidByText := true, laidKinds := [.data, .data, .data, .data, .sentinel, .sentinel, .pinned], laidTests := true, laidLooks := .later }
def DnMovesUptoCardSaid : Prop := Claim7.holds Tryz.pinned (.plain (OpenSpec.upto dnMovesSpec)) dnMovesUptoCard

/-- THE SECOND FORM's CARD OF 'vergerlaw06.DnOrders'. -/
def dnOrdersUptoCard : Claim7 := { stood := { row := dnOrdersUptoRow, standIns := [], harness := (true, "8a63a65b155a7b75e56ce620889025096039b708085a6a8b32d5fb827fba605d"), looks := true }, kinds := [], alts := [], laidByText := true, laidKinds := [.data, .data, .data, .data, .sentinel, .sentinel, .pinned], laidTests := true, laidLooks := .later }
def DnOrdersUptoCardSaid : Prop := Claim7.holds Tryz.pinned (.plain (OpenSpec.upto dnOrdersSpec)) dnOrdersUptoCard

/-- THE SECOND FORM's CARD OF 'vergerlaw06.DnNormals'. -/
def dnNormalsUptoCard : Claim7 := { stood := { row := dnNormalsUptoRow, standIns := [], harness := (true, "8a63a65b155a7b75e56ce620889025096039b708085a6a8b32d5fb827fba605d"), looks := true }, kinds := [], alts := [], laidByText := true, laidKinds := [.data, .data, .data, .data, .sentinel, .sentinel, .pinned], laidTests := true, laidLooks := .later }
def DnNormalsUptoCardSaid : Prop := Claim7.holds Tryz.pinned (.plain (OpenSpec.upto dnNormalsSpec)) dnNormalsUptoCard
end Rows
end Go.Proofs.YtjjbkldlgjllnaaGreatDoor
