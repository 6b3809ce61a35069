/- Closed facts of the row of FilterEvals. Conditions: as stated. -/
import Derived.Test.YtjmfknfponjgkaaGreatDoorJRow
namespace Go.Proofs.YtjmfknfponjgkaaGreatDoor.lFilterEvals
open Go.ChangeShapes Go.WideShapes Go.ChangeAt Go.RowKit Go.ChangeMaps
theorem fact_inPlace : (Rows.filterEvalsUptoRow.inPlace == Tryz.pinned.checked.prog.inPlace 3) = true := by kernel_rfl
theorem fact_unfollowed : (Rows.filterEvalsUptoRow.unfollowed == Tryz.pinned.checked.prog.unfollowed 3) = true := by kernel_rfl
end Go.Proofs.YtjmfknfponjgkaaGreatDoor.lFilterEvals
