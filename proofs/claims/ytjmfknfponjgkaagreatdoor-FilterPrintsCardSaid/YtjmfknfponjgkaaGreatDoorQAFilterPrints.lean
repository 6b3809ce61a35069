/- Closed facts of the row of FilterPrints. No condition. -/
import Derived.Test.YtjmfknfponjgkaaGreatDoorQRow
namespace Go.Proofs.YtjmfknfponjgkaaGreatDoor.lFilterPrints
open Go.ChangeShapes Go.WideShapes Go.ChangeAt Go.RowKit Go.ChangeMaps
theorem fact_inPlace : (Rows.filterPrintsRow.inPlace == Tryz.pinned.checked.prog.inPlace 5) = true := by kernel_rfl
theorem fact_unfollowed : (Rows.filterPrintsRow.unfollowed == Tryz.pinned.checked.prog.unfollowed 5) = true := by kernel_rfl
end Go.Proofs.YtjmfknfponjgkaaGreatDoor.lFilterPrints
