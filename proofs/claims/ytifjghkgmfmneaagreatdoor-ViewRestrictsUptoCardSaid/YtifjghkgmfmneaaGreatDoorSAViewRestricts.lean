/- Closed facts of the row of ViewRestricts. No condition. -/
import Derived.Test.YtifjghkgmfmneaaGreatDoorSRow
namespace Go.Proofs.YtifjghkgmfmneaaGreatDoor.lViewRestricts
open Go.ChangeShapes Go.WideShapes Go.ChangeAt Go.RowKit Go.ChangeMaps
theorem fact_inPlace : (Rows.viewRestrictsUptoRow.inPlace == Tryz.pinned.checked.prog.inPlace 11) = true := by kernel_rfl
theorem fact_unfollowed : (Rows.viewRestrictsUptoRow.unfollowed == Tryz.pinned.checked.prog.unfollowed 11) = true := by kernel_rfl
end Go.Proofs.YtifjghkgmfmneaaGreatDoor.lViewRestricts
