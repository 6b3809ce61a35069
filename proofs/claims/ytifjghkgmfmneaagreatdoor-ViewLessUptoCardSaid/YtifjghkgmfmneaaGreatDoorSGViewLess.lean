/- Closed facts of the row of ViewLess. No condition. -/
import Derived.Test.YtifjghkgmfmneaaGreatDoorSRow
namespace Go.Proofs.YtifjghkgmfmneaaGreatDoor.lViewLess
open Go.ChangeShapes Go.WideShapes Go.ChangeAt Go.RowKit Go.ChangeMaps
theorem fact_goes : false = Rows.viewLessUptoRow.goesBy Tryz.pinned.checked.prog := by kernel_rfl
end Go.Proofs.YtifjghkgmfmneaaGreatDoor.lViewLess
