/-
  DERIVED. GIVEN WITH THE SEED: THE CARDS: each row of YtgngjfjaelgaeaaGreatDoorRows.lean that lists a variable, with what it lists TIED to the program's text (the seventh form; the later family's looks); each row that meets fmt, with fmt's text TOLD by the authors' own Lean function (tested against real Go, not proved from fmt's source: count such statements apart). THE CARD IS WHAT COUNTS. Prove the row's statement (the work); the ties are given (YtgngjfjaelgaeaaGreatDoorTie.lean); close each card by the builder's one call (the guide's Derived/Test/ToyasCard.lean, 'card_holds'). Laid BY PROGRAM, IN A SANDBOX (cutbox-door.mjs). By AI agents, Wed Nov 11 2026. No macro, syntax, notation, axiom, sorry.
-/
import Derived.Test.YtgngjfjaelgaeaaGreatDoorRows
import GoSem.ClaimSeven
namespace Go.Proofs.YtgngjfjaelgaeaaGreatDoor
namespace Rows

/-- THE TIED CARD OF 'vergerlaw14.SearchRuns'. -/
def searchRunsCard : Claim7 := { stood := { row := searchRunsRow, standIns := [], harness := (true, "588152887c3e62a52f6226be07e0f8be3433007360b6fe5333382227745f7ceb"), looks := true }, kinds := [], alts := [], laidByText := true, laidKinds := [.data, .data, .data, .data, .sentinel, .sentinel, .pinned], laidTests := true, laidLooks := .later }
def SearchRunsCardSaid : Prop := Claim7.holds Tryz.pinned (.plain (OpenSpec.ofChange searchRunsSpec)) searchRunsCard

/-- THE TIED CARD OF 'vergerlaw14.SearchSizes'. -/
def searchSizesCard : Claim7 := { stood := { row := searchSizesRow, standIns := [], harness := (true, "588152887c3e62a52f6226be07e0f8be3433007360b6fe5333382227745f7ceb"), looks := true }, kinds := [], alts := [], laidByText := true, laidKinds := [.data, .data, .data, .data, .sentinel, .sentinel, .pinned], laidTests := true, laidLooks := .later }
def SearchSizesCardSaid : Prop := Claim7.holds Tryz.pinned (.plain (OpenSpec.ofChange searchSizesSpec)) searchSizesCard

/-- THE TIED CARD OF 'vergerlaw14.SearchPlain'. -/
def searchPlainCard : Claim7 := { stood := { row := searchPlainRow, standIns := [], harness := (true, "588152887c3e62a52f6226be07e0f8be3433007360b6fe5333382227745f7ceb"), looks := true }, kinds := [], alts := [], laidByText := true, laidKinds := [.data, .data, .data, .data, .sentinel, .sentinel, .pinned], laidTests := true, laidLooks := .later }
def SearchPlainCardSaid : Prop := Claim7.holds Tryz.pinned (.plain (OpenSpec.ofChange searchPlainSpec)) searchPlainCard

/-- THE TIED CARD OF 'vergerlaw14.SearchParts'. -/
def searchPartsCard : Claim7 := { stood := { row := searchPartsRow, standIns := [], harness := (true, "588152887c3e62a52f6226be07e0f8be3433007360b6fe5333382227745f7ceb"), looks := true }, kinds := [], alts := [], laidByText := true, laidKinds := [.data, .data, .data, .data, .sentinel, .sentinel, .pinned], laidTests := true, laidLooks := .later }
def SearchPartsCardSaid : Prop := Claim7.holds Tryz.pinned (.plain (OpenSpec.ofChange searchPartsSpec)) searchPartsCard

/-- THE SECOND FORM's CARD OF 'vergerlaw14.SearchRuns'. -/
def searchRunsUptoCard : Claim7 := { stood := { row := searchRunsUptoRow, standIns := [], harness := (true, "588152887c3e62a52f6226be07e0f8be3433007360b6fe5333382227745f7ceb"), looks := true }, kinds := [], alts := [], laidByText := true, laidKinds := [.data, .data, .data, .data, .sentinel, .sentinel, .pinned], laidTests := true, laidLooks := .later }
def SearchRunsUptoCardSaid : Prop := Claim7.holds Tryz.pinned (.plain (OpenSpec.upto searchRunsSpec)) searchRunsUptoCard

/-- THE SECOND FORM's CARD OF 'vergerlaw14.SearchSizes'. -/
def searchSizesUptoCard : Claim7 := { stood := { row := searchSizesUptoRow, standIns := [], harness := (true, "588152887c3e62a52f6226be07e0f8be3433007360b6fe5333382227745f7ceb"), looks := true }, kinds := [], alts := [], laidByText := true, laidKinds := [.data, .data, .data, .data, .sentinel, .sentinel, .pinned], laidTests := true, laidLooks := .later }
def SearchSizesUptoCardSaid : Prop := Claim7.holds Tryz.pinned (.plain (OpenSpec.upto searchSizesSpec)) searchSizesUptoCard

/-- THE SECOND FORM's CARD OF 'vergerlaw14.SearchPlain'. -/
def searchPlainUptoCard : Claim7 := { stood := { row := searchPlainUptoRow, standIns := [], harness := (true, "588152887c3e62a52f6226be07e0f8be3433007360b6fe5333382227745f7ceb"), looks := true }, kinds := [], alts := [], laidByText := true, laidKinds := [.data, .data, .data, .data, .sentinel, .sentinel, .pinned], laidTests := true, laidLooks := .later }
def SearchPlainUptoCardSaid : Prop := Claim7.holds Tryz.pinned (.plain (OpenSpec.upto searchPlainSpec)) searchPlainUptoCard

/-- THE SECOND FORM's CARD OF 'vergerlaw14.SearchParts'. -/
def searchPartsUptoCard : Claim7 := { stood := { row := searchPartsUptoRow, standIns := [], harness := (true, "588152887c3e62a52f6226be07e0f8be3433007360b6fe5333382227745f7ceb"), looks := true }, kinds := [], alts := [], laidByText := true, laidKinds := [.data, .data, .data, .data, .sentinel, .sentinel, .pinned], laidTests := true, laidLooks := .later }
def SearchPartsUptoCardSaid : Prop := Claim7.holds Tryz.pinned (.plain (OpenSpec.upto searchPartsSpec)) searchPartsUptoCard
end Rows
end Go.Proofs.YtgngjfjaelgaeaaGreatDoor
