/- Closed facts of the row of FilterBack. No condition. -/
import Derived.Test.YtjmfknfponjgkaaGreatDoorQRow
namespace Go.Proofs.YtjmfknfponjgkaaGreatDoor.lFilterBack
open Go.ChangeShapes Go.WideShapes Go.ChangeAt Go.RowKit Go.ChangeMaps
theorem fact_inPlace : (Rows.filterBackRow.inPlace == Tryz.pinned.checked.prog.inPlace 6) = true := by kernel_rfl
theorem fact_unfollowed : (Rows.filterBackRow.unfollowed == Tryz.pinned.checked.prog.unfollowed 6) = true := by kernel_rfl
end Go.Proofs.YtjmfknfponjgkaaGreatDoor.lFilterBack
