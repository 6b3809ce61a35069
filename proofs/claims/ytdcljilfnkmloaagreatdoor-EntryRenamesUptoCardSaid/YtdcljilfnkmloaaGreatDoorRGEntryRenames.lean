/- Closed facts of the row of EntryRenames. No condition. -/
import Derived.Test.YtdcljilfnkmloaaGreatDoorRRow
namespace Go.Proofs.YtdcljilfnkmloaaGreatDoor.lEntryRenames
open Go.ChangeShapes Go.WideShapes Go.ChangeAt Go.RowKit Go.ChangeMaps
theorem fact_goes : false = Rows.entryRenamesUptoRow.goesBy Tryz.pinned.checked.prog := by kernel_rfl
end Go.Proofs.YtdcljilfnkmloaaGreatDoor.lEntryRenames
