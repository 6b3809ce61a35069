/- Closed facts of the row of EntryIncrements. No condition. -/
import Derived.Test.YtmnhgbkdahdoiaaGreatDoorIRow
namespace Go.Proofs.YtmnhgbkdahdoiaaGreatDoor.lEntryIncrements
open Go.ChangeShapes Go.WideShapes Go.ChangeAt Go.RowKit Go.ChangeMaps
theorem fact_inPlace : (Rows.entryIncrementsRow.inPlace == Tryz.pinned.checked.prog.inPlace 6) = true := by kernel_rfl
theorem fact_unfollowed : (Rows.entryIncrementsRow.unfollowed == Tryz.pinned.checked.prog.unfollowed 6) = true := by kernel_rfl
end Go.Proofs.YtmnhgbkdahdoiaaGreatDoor.lEntryIncrements
