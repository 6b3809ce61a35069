/-
  DERIVED. GIVEN WITH THE SEED: THE CARDS: each row of YtjmfknfponjgkaaGreatDoorRows.lean that lists a variable, with what it lists TIED to the program's text (the seventh form; the later family's looks); each row that meets fmt, with fmt's text TOLD by the authors' own Lean function (tested against real Go, not proved from fmt's source: count such statements apart). THE CARD IS WHAT COUNTS. Prove the row's statement (the work); the ties are given (YtjmfknfponjgkaaGreatDoorTie.lean); close each card by the builder's one call (the guide's Derived/Test/ToyasCard.lean, 'card_holds'). Laid BY PROGRAM, IN A SANDBOX (cutbox-door.mjs). By AI agents, Wed Nov 11 2026. No macro, syntax, notation, axiom, sorry.
-/
import Derived.Test.YtjmfknfponjgkaaGreatDoorRows
import GoSem.ClaimSeven
namespace Go.Proofs.YtjmfknfponjgkaaGreatDoor
namespace Rows

/-- THE TIED CARD OF 'vergerlaw07.FilterEvals'. -/
def filterEvalsCard : Claim7 := { stood := { row := filterEvalsRow, standIns := [], harness := (true, "c857a87e929585c5c66a6eec8e30dfe5e12f0fb55f408ad9537b25e73c04cba0"), looks := true }, kinds := [], alts := [], laidByText := true, laidKinds := [.data, .data, .data, .data, .sentinel, .sentinel, .pinned], laidTests := true, laidLooks := .later }
def FilterEvalsCardSaid : Prop := Claim7.holds Tryz.pinned (.plain (OpenSpec.ofChange filterEvalsSpec)) filterEvalsCard

/-- THE TIED CARD OF 'vergerlaw07.FilterPieces'. -/
def filterPiecesCard : Claim7 := { stood := { row := filterPiecesRow, standIns := [], harness := (true, "c857a87e929585c5c66a6eec8e30dfe5e12f0fb55f408ad9537b25e73c04cba0"), looks := true }, kinds := [], alts := [], laidByText := true, laidKinds := [.data, .data, .data, .data, .sentinel, .sentinel, .pinned], laidTests := true, laidLooks := .later }
def FilterPiecesCardSaid : Prop := Claim7.holds Tryz.pinned (.plain (OpenSpec.ofChange filterPiecesSpec)) filterPiecesCard

/-- THE TIED CARD OF 'vergerlaw07.FilterPrints'. -/
def filterPrintsCard : Claim7 := { stood := { row := filterPrintsRow, standIns := [], harness := (true, "c857a87e929585c5c66a6eec8e30dfe5e12f0fb55f408ad9537b25e73c04cba0"), looks := true }, kinds := [], alts := [], laidByText := true, laidKinds := [.data, .data, .data, .data, .sentinel, .sentinel, .pinned], laidTests := true, laidLooks := .later }
def FilterPrintsCardSaid : Prop := Claim7.holds Tryz.pinned (.plain (OpenSpec.ofChange filterPrintsSpec)) filterPrintsCard

/-- THE TIED CARD OF 'vergerlaw07.FilterBack'. -/
def filterBackCard : Claim7 := { stood := { row := filterBackRow, standIns := [], harness := (true, "c857a87e929585c5c66a6eec8e30dfe5e12f0fb55f408ad9537b25e73c04cba0"), looks := true }, kinds := [], alts := [], laidByText := true, laidKinds := [.data, .data, .data, .data, .sentinel, .sentinel, .pinned], laidTests := true, laidLooks := .later }
def FilterBackCardSaid : Prop := Claim7.holds Tryz.pinned (.plain (OpenSpec.ofChange filterBackSpec)) filterBackCard

/-- THE SECOND FORM's CARD OF 'vergerlaw07.FilterEvals'. -/
def filterEvalsUptoCard : Claim7 := { stood := { row := filterEvalsUptoRow, standIns := [], harness := (true, "c857a87e929585c5c66a6eec8e30dfe5e12f0fb55f408ad9537b25e73c04cba0"), looks := true }, kinds := [], alts := [], laidByText := true, laidKinds := [.data, .data, .data, .data, .sentinel, .sentinel, .pinned], laidTests := true, laidLooks := .later }
def FilterEvalsUptoCardSaid : Prop := Claim7.holds Tryz.pinned (.plain (OpenSpec.upto filterEvalsSpec)) filterEvalsUptoCard

/-- THE SECOND FORM's CARD OF 'vergerlaw07.FilterPieces'. -/
def filterPiecesUptoCard : Claim7 := { stood := { row := filterPiecesUptoRow, standIns := [], harness := (true, "c857a87e929585c5c66a6eec8e30dfe5e12f0fb55f408ad9537b25e73c04cba0"), looks := true }, kinds := [], alts := [], laidByText := true, laidKinds := [.data, .data, .data, .data, .sentinel, .sentinel, .pinned], laidTests := true, laidLooks := .later }
def FilterPiecesUptoCardSaid : Prop := Claim7.holds Tryz.pinned (.plain (OpenSpec.upto filterPiecesSpec)) filterPiecesUptoCard

/-- THE SECOND FORM's CARD OF 'vergerlaw07.FilterPrints'. -/
def filterPrintsUptoCard : Claim7 := { stood := { row := filterPrintsUptoRow, standIns := [], harness := (true, "c857a87e929585c5c66a6eec8e30dfe5e12f0fb55f408ad9537b25e73c04cba0"), looks := true }, kinds := [], alts := [], laidByText := true, laidKinds := [.data, .data, .data, .data, .sentinel, .sentinel, .pinned], laidTests := true, laidLooks := .later }
def FilterPrintsUptoCardSaid : Prop := Claim7.holds Tryz.pinned (.plain (OpenSpec.upto filterPrintsSpec)) filterPrintsUptoCard

/-- THE SECOND FORM's CARD OF 'vergerlaw07.FilterBack'. -/
def filterBackUptoCard : Claim7 := { stood := { row := filterBackUptoRow, standIns := [], harness := (true, "c857a87e929585c5c66a6eec8e30dfe5e12f0fb55f408ad9537b25e73c04cba0"), looks := true }, kinds := [], alts := [], laidByText := true, laidKinds := [.data, .data, .data, .data, .sentinel, .sentinel, .pinned], laidTests := true, laidLooks := .later }
def FilterBackUptoCardSaid : Prop := Claim7.holds Tryz.pinned (.plain (OpenSpec.upto filterBackSpec)) filterBackUptoCard
end Rows
end Go.Proofs.YtjmfknfponjgkaaGreatDoor
