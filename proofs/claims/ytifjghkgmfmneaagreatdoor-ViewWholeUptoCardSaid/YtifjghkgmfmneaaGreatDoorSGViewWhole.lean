/- Closed facts of the row of ViewWhole. No condition. -/
import Derived.Test.YtifjghkgmfmneaaGreatDoorSRow
namespace Go.Proofs.YtifjghkgmfmneaaGreatDoor.lViewWhole
open Go.ChangeShapes Go.WideShapes Go.ChangeAt Go.RowKit Go.ChangeMaps
theorem fact_goes : false = Rows.viewWholeUptoRow.goesBy Tryz.pinned.checked.prog := by kernel_rfl
end Go.Proofs.YtifjghkgmfmneaaGreatDoor.lViewWhole
