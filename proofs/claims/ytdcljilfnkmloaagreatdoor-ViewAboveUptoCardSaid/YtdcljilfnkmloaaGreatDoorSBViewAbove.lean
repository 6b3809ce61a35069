/- Closed facts of the row of ViewAbove. No condition. -/
import Derived.Test.YtdcljilfnkmloaaGreatDoorSRow
namespace Go.Proofs.YtdcljilfnkmloaaGreatDoor.lViewAbove
open Go.ChangeShapes Go.WideShapes Go.ChangeAt Go.RowKit Go.ChangeMaps
theorem fact_recurses : (Rows.viewAboveUptoRow.recurses == Tryz.pinned.checked.prog.recurses 5) = true := by kernel_rfl
theorem fact_named : (Rows.viewAboveUptoRow.named == Tryz.pinned.checked.prog.varsNamed 5) = true := by kernel_rfl
end Go.Proofs.YtdcljilfnkmloaaGreatDoor.lViewAbove
