/-
  DERIVED. GIVEN WITH THE SEED: THE CARDS: each row of YtdcljilfnkmloaaGreatDoorRows.lean that lists a variable, with what it lists TIED to the program's text (the seventh form; the later family's looks); each row that meets fmt, with fmt's text TOLD by the authors' own Lean function (tested against real Go, not proved from fmt's source: count such statements apart). THE CARD IS WHAT COUNTS. Prove the row's statement (the work); the ties are given (YtdcljilfnkmloaaGreatDoorTie.lean); close each card by the builder's one call (the guide's Derived/Test/ToyasCard.lean, 'card_holds'). Laid BY PROGRAM, IN A SANDBOX (cutbox-door.mjs). By AI agents, Wed Nov 11 2026. No macro, syntax, notation, axiom, sorry.
-/
import Derived.Test.YtdcljilfnkmloaaGreatDoorRows
import GoSem.ClaimSeven
namespace Go.Proofs.YtdcljilfnkmloaaGreatDoor
namespace Rows

/-- THE TIED CARD OF 'vergerlaw09.EntryMakes'. -/
def entryMakesCard : Claim7 := { stood := { row := entryMakesRow, standIns := [], harness := (true, "a6adda931efe794f71f167ca9d0137e45226609e3e7825e3ff91a348e7d899c8"), looks := true }, kinds := [], alts := [], laidByText := true, laidKinds := [.data, .data, .data, .data, .sentinel, .sentinel, .pinned], laidTests := true, laidLooks := .later }
def EntryMakesCardSaid : Prop := Claim7.holds Tryz.pinned (.plain (OpenSpec.ofChange entryMakesSpec)) entryMakesCard

/-- THE TIED CARD OF 'vergerlaw09.EntryRenames'. -/
def entryRenamesCard : Claim7 := { stood := { row := entryRenamesRow, standIns := [], harness := (true, "a6adda931efe794f71f167ca9d0137e45226609e3e7825e3ff91a348e7d899c8"), looks := true }, kinds := [], alts := [], laidByText := true, laidKinds := [.data, .data, .data, .data, .sentinel, .sentinel, .pinned], laidTests := true, laidLooks := .later }
def EntryRenamesCardSaid : Prop := Claim7.holds Tryz.pinned (.plain (OpenSpec.ofChange entryRenamesSpec)) entryRenamesCard

/-- THE TIED CARD OF 'vergerlaw12.ViewAbove'. -/
def viewAboveCard : Claim7 := { stood := { row := viewAboveRow, standIns := [], harness := (true, "a6adda931efe794f71f167ca9d0137e45226609e3e7825e3ff91a348e7d899c8"), looks := true }, kinds := [], alts := [], laidByText := true, laidKinds := [.data, .data, .data, .data, .sentinel, .sentinel, .pinned], laidTests := true, laidLooks := .later }
def ViewAboveCardSaid : Prop := Claim7.holds Tryz.pinned (.plain (OpenSpec.ofChange viewAboveSpec)) viewAboveCard

/-- THE SECOND FORM's CARD OF 'vergerlaw09.EntryMakes'. -/
def entryMakesUptoCard : Claim7 := { stood := { row := entryMakesUptoRow, standIns := [], harness := (true, "a6adda931efe794f71f167ca9d0137e45226609e3e7825e3ff91a348e7d899c8"), looks := true }, kinds := [], alts := [], laidByText := true, laidKinds := [.data, .data, .data, .data, .sentinel, .sentinel, .pinned], laidTests := true, laidLooks := .later }
def EntryMakesUptoCardSaid : Prop := Claim7.holds Tryz.pinned (.plain (OpenSpec.upto entryMakesSpec)) entryMakesUptoCard

/-- THE SECOND FORM's CARD OF 'vergerlaw09.EntryRenames'. -/
def entryRenamesUptoCard : Claim7 := { stood := { row := entryRenamesUptoRow, standIns := [], harness := (true, "a6adda931efe794f71f167ca9d0137e45226609e3e7825e3ff91a348e7d899c8"), looks := true }, kinds := [], alts := [], laidByText := true, laidKinds := [.data, .data, .data, .data, .sentinel, .sentinel, .pinned], laidTests := true, laidLooks := .later }
def EntryRenamesUptoCardSaid : Prop := Claim7.holds Tryz.pinned (.plain (OpenSpec.upto entryRenamesSpec)) entryRenamesUptoCard

/-- THE SECOND FORM's CARD OF 'vergerlaw12.ViewAbove'. -/
def viewAboveUptoCard : Claim7 := { stood := { row := viewAboveUptoRow, standIns := [], harness := (true, "a6adda931efe794f71f167ca9d0137e45226609e3e7825e3ff91a348e7d899c8"), looks := true }, kinds := [], alts := [], laidByText := true, laidKinds := [.data, .data, .data, .data, .sentinel, .sentinel, .pinned], laidTests := true, laidLooks := .later }
def ViewAboveUptoCardSaid : Prop := Claim7.holds Tryz.pinned (.plain (OpenSpec.upto viewAboveSpec)) viewAboveUptoCard
end Rows
end Go.Proofs.YtdcljilfnkmloaaGreatDoor
