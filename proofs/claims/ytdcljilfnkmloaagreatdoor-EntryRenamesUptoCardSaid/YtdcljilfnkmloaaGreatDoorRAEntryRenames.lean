/- Closed facts of the row of EntryRenames. No condition. -/
import Derived.Test.YtdcljilfnkmloaaGreatDoorRRow
namespace Go.Proofs.YtdcljilfnkmloaaGreatDoor.lEntryRenames
open Go.ChangeShapes Go.WideShapes Go.ChangeAt Go.RowKit Go.ChangeMaps
theorem fact_inPlace : (Rows.entryRenamesUptoRow.inPlace == Tryz.pinned.checked.prog.inPlace 4) = true := by kernel_rfl
theorem fact_unfollowed : (Rows.entryRenamesUptoRow.unfollowed == Tryz.pinned.checked.prog.unfollowed 4) = true := by kernel_rfl
end Go.Proofs.YtdcljilfnkmloaaGreatDoor.lEntryRenames
