/-
  DERIVED. GIVEN WITH THE SEED: THE CARDS: each row of YtmnhgbkdahdoiaaGreatDoorRows.lean that lists a variable, with what it lists TIED to the program's text (the seventh form; the later family's looks); each row that meets fmt, with fmt's text TOLD by the authors' own Lean function (tested against real Go, not proved from fmt's source: count such statements apart). THE CARD IS WHAT COUNTS. Prove the row's statement (the work); the ties are given (YtmnhgbkdahdoiaaGreatDoorTie.lean); close each card by the builder's one call (the guide's Derived/Test/ToyasCard.lean, 'card_holds'). Laid BY PROGRAM, IN A SANDBOX (cutbox-door.mjs). By AI agents, Wed Nov 11 2026. No macro, syntax, notation, axiom, sorry.
-/
import Derived.Test.YtmnhgbkdahdoiaaGreatDoorRows
import GoSem.ClaimSeven
namespace Go.Proofs.YtmnhgbkdahdoiaaGreatDoor
namespace Rows

/-- THE TIED CARD OF 'vergerlaw09.EntryModifies'. -/
def entryModifiesCard : Claim7 := { stood := { row := entryModifiesRow, standIns := [], harness := (true, "1cdee38d454946f85155c42aadb279b47771674c7101a6ae704d5cf134f1420e"), looks := true }, kinds := [], alts := [], laidByText := true, laidKinds := [.data, .data, .data, .data, .sentinel, .sentinel, .pinned], laidTests := true, laidLooks := .later }
def EntryModifiesCardSaid : Prop := Claim7.holds Tryz.pinned (.plain (OpenSpec.ofChange entryModifiesSpec)) entryModifiesCard

/-- THE TIED CARD OF 'vergerlaw09.EntryUndoes'. -/
def entryUndoesCard : Claim7 := { stood := { row := entryUndoesRow, standIns := [], harness := (true, "1cdee38d454946f85155c42aadb279b47771674c7101a6ae704d5cf134f1420e"), looks := true }, kinds := [], alts := [], laidByText := true, laidKinds := [.data, .data, .data, .data, .sentinel, .sentinel, .pinned], laidTests := true, laidLooks := .later }
def EntryUndoesCardSaid : Prop := Claim7.holds Tryz.pinned (.plain (OpenSpec.ofChange entryUndoesSpec)) entryUndoesCard

/-- THE TIED CARD OF 'vergerlaw09.EntryParts'. -/
def entryPartsCard : Claim7 := { stood := { row := entryPartsRow, standIns := [], harness := (true, "1cdee38d454946f85155c42aadb279b47771674c7101a6ae704d5cf134f1420e"), looks := true }, kinds := [], alts := [], laidByText := true, laidKinds := [.data, .data, .data, .data, .sentinel, .sentinel, .pinned], laidTests := true, laidLooks := .later }
def EntryPartsCardSaid : Prop := Claim7.holds Tryz.pinned (.plain (OpenSpec.ofChange entryPartsSpec)) entryPartsCard

/-- THE TIED CARD OF 'vergerlaw09.EntryIncrements'. -/
def entryIncrementsCard : Claim7 := { stood := { row := entryIncrementsRow, standIns := [], harness := (true, "1cdee38d454946f85155c42aadb279b47771674c7101a6ae704d5cf134f1420e"), looks := true }, kinds := [], alts := [], laidByText := true, laidKinds := [.data, .data, .data, .data, .sentinel, .sentinel, .pinned], laidTests := true, laidLooks := .later }
def EntryIncrementsCardSaid : Prop := Claim7.holds Tryz.pinned (.plain (OpenSpec.ofChange entryIncrementsSpec)) entryIncrementsCard

/-- THE SECOND FORM's CARD OF 'vergerlaw09.EntryModifies'. -/
def entryModifiesUptoCard : Claim7 := { stood := { row := entryModifiesUptoRow, standIns := [], harness := (true, "1cdee38d454946f85155c42aadb279b47771674c7101a6ae704d5cf134f1420e"), looks := true }, kinds := [], alts := [], laidByText := true, laidKinds := [.data, .data, .data, .data, .sentinel, .sentinel, .pinned], laidTests := true, laidLooks := .later }
def EntryModifiesUptoCardSaid : Prop := Claim7.holds Tryz.pinned (.plain (OpenSpec.upto entryModifiesSpec)) entryModifiesUptoCard

/-- THE SECOND FORM's CARD OF 'vergerlaw09.EntryUndoes'. -/
def entryUndoesUptoCard : Claim7 := { stood := { row := entryUndoesUptoRow, standIns := [], harness := (true, "1cdee38d454946f85155c42aadb279b47771674c7101a6ae704d5cf134f1420e"), looks := true }, kinds := [], alts := [], laidByText := true, laidKinds := [.data, .data, .data, .data, .sentinel, .sentinel, .pinned], laidTests := true, laidLooks := .later }
def EntryUndoesUptoCardSaid : Prop := Claim7.holds Tryz.pinned (.plain (OpenSpec.upto entryUndoesSpec)) entryUndoesUptoCard

/-- THE SECOND FORM's CARD OF 'vergerlaw09.EntryParts'. -/
def entryPartsUptoCard : Claim7 := { stood := { row := entryPartsUptoRow, standIns := [], harness := (true, "1cdee38d454946f85155c42aadb279b47771674c7101a6ae704d5cf134f1420e"), looks := true }, kinds := [], alts := [], laidByText := true, laidKinds := [.data, .data, .data, .data, .sentinel, .sentinel, .pinned], laidTests := true, laidLooks := .later }
def EntryPartsUptoCardSaid : Prop := Claim7.holds Tryz.pinned (.plain (OpenSpec.upto entryPartsSpec)) entryPartsUptoCard

/-- THE SECOND FORM's CARD OF 'vergerlaw09.EntryIncrements'. -/
def entryIncrementsUptoCard : Claim7 := { stood := { row := entryIncrementsUptoRow, standIns := [], harness := (true, "1cdee38d454946f85155c42aadb279b47771674c7101a6ae704d5cf134f1420e"), looks := true }, kinds := [], alts := [], laidByText := true, laidKinds := [.data, .data, .data, .data, .sentinel, .sentinel, .pinned], laidTests := true, laidLooks := .later }
def EntryIncrementsUptoCardSaid : Prop := Claim7.holds Tryz.pinned (.plain (OpenSpec.upto entryIncrementsSpec)) entryIncrementsUptoCard
end Rows
end Go.Proofs.YtmnhgbkdahdoiaaGreatDoor
