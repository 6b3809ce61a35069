/- Closed facts of the row of ViewLess. No condition. -/
import Derived.Test.YtifjghkgmfmneaaGreatDoorSRow
namespace Go.Proofs.YtifjghkgmfmneaaGreatDoor.lViewLess
open Go.ChangeShapes Go.WideShapes Go.ChangeAt Go.RowKit Go.ChangeMaps
theorem fact_inPlace : (Rows.viewLessUptoRow.inPlace == Tryz.pinned.checked.prog.inPlace 8) = true := by kernel_rfl
theorem fact_unfollowed : (Rows.viewLessUptoRow.unfollowed == Tryz.pinned.checked.prog.unfollowed 8) = true := by kernel_rfl
end Go.Proofs.YtifjghkgmfmneaaGreatDoor.lViewLess
