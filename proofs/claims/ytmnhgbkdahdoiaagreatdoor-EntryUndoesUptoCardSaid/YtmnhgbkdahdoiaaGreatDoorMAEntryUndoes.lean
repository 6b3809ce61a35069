/- Closed facts of the row of EntryUndoes. No condition. -/
import Derived.Test.YtmnhgbkdahdoiaaGreatDoorMRow
namespace Go.Proofs.YtmnhgbkdahdoiaaGreatDoor.lEntryUndoes
open Go.ChangeShapes Go.WideShapes Go.ChangeAt Go.RowKit Go.ChangeMaps
theorem fact_inPlace : (Rows.entryUndoesUptoRow.inPlace == Tryz.pinned.checked.prog.inPlace 4) = true := by kernel_rfl
theorem fact_unfollowed : (Rows.entryUndoesUptoRow.unfollowed == Tryz.pinned.checked.prog.unfollowed 4) = true := by kernel_rfl
end Go.Proofs.YtmnhgbkdahdoiaaGreatDoor.lEntryUndoes
