/- Closed facts of the row of ViewAbove. No condition. -/
import Derived.Test.YtdcljilfnkmloaaGreatDoorSRow
namespace Go.Proofs.YtdcljilfnkmloaaGreatDoor.lViewAbove
open Go.ChangeShapes Go.WideShapes Go.ChangeAt Go.RowKit Go.ChangeMaps
theorem fact_goes : false = Rows.viewAboveUptoRow.goesBy Tryz.pinned.checked.prog := by kernel_rfl
end Go.Proofs.YtdcljilfnkmloaaGreatDoor.lViewAbove
