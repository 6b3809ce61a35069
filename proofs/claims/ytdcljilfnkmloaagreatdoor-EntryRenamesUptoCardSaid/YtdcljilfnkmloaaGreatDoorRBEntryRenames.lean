/- Closed facts of the row of EntryRenames. No condition. -/
import Derived.Test.YtdcljilfnkmloaaGreatDoorRRow
namespace Go.Proofs.YtdcljilfnkmloaaGreatDoor.lEntryRenames
open Go.ChangeShapes Go.WideShapes Go.ChangeAt Go.RowKit Go.ChangeMaps
theorem fact_recurses : (Rows.entryRenamesUptoRow.recurses == Tryz.pinned.checked.prog.recurses 4) = true := by kernel_rfl
theorem fact_named : (Rows.entryRenamesUptoRow.named == Tryz.pinned.checked.prog.varsNamed 4) = true := by kernel_rfl
end Go.Proofs.YtdcljilfnkmloaaGreatDoor.lEntryRenames
