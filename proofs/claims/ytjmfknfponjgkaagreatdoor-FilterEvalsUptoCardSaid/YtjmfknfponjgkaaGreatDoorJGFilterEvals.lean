/- Closed facts of the row of FilterEvals. Conditions: as stated. -/
import Derived.Test.YtjmfknfponjgkaaGreatDoorJRow
namespace Go.Proofs.YtjmfknfponjgkaaGreatDoor.lFilterEvals
open Go.ChangeShapes Go.WideShapes Go.ChangeAt Go.RowKit Go.ChangeMaps
theorem fact_goes : false = Rows.filterEvalsUptoRow.goesBy Tryz.pinned.checked.prog := by kernel_rfl
end Go.Proofs.YtjmfknfponjgkaaGreatDoor.lFilterEvals
