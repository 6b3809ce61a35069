/- Closed facts of the row of ViewAbove. No condition. -/
import Derived.Test.YtdcljilfnkmloaaGreatDoorSRow
namespace Go.Proofs.YtdcljilfnkmloaaGreatDoor.lViewAbove
open Go.ChangeShapes Go.WideShapes Go.ChangeAt Go.RowKit Go.ChangeMaps
theorem fact_inPlace : (Rows.viewAboveUptoRow.inPlace == Tryz.pinned.checked.prog.inPlace 5) = true := by kernel_rfl
theorem fact_unfollowed : (Rows.viewAboveUptoRow.unfollowed == Tryz.pinned.checked.prog.unfollowed 5) = true := by kernel_rfl
end Go.Proofs.YtdcljilfnkmloaaGreatDoor.lViewAbove
