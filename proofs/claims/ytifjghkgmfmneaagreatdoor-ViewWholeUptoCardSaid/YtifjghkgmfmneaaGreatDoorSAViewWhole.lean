/- Closed facts of the row of ViewWhole. No condition. -/
import Derived.Test.YtifjghkgmfmneaaGreatDoorSRow
namespace Go.Proofs.YtifjghkgmfmneaaGreatDoor.lViewWhole
open Go.ChangeShapes Go.WideShapes Go.ChangeAt Go.RowKit Go.ChangeMaps
theorem fact_inPlace : (Rows.viewWholeUptoRow.inPlace == Tryz.pinned.checked.prog.inPlace 10) = true := by kernel_rfl
theorem fact_unfollowed : (Rows.viewWholeUptoRow.unfollowed == Tryz.pinned.checked.prog.unfollowed 10) = true := by kernel_rfl
end Go.Proofs.YtifjghkgmfmneaaGreatDoor.lViewWhole
