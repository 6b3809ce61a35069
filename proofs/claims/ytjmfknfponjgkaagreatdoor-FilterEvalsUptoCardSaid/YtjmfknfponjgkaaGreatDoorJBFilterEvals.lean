/- Closed facts of the row of FilterEvals. Conditions: as stated. -/
import Derived.Test.YtjmfknfponjgkaaGreatDoorJRow
namespace Go.Proofs.YtjmfknfponjgkaaGreatDoor.lFilterEvals
open Go.ChangeShapes Go.WideShapes Go.ChangeAt Go.RowKit Go.ChangeMaps
theorem fact_recurses : (Rows.filterEvalsUptoRow.recurses == Tryz.pinned.checked.prog.recurses 3) = true := by kernel_rfl
theorem fact_named : (Rows.filterEvalsUptoRow.named == Tryz.pinned.checked.prog.varsNamed 3) = true := by kernel_rfl
end Go.Proofs.YtjmfknfponjgkaaGreatDoor.lFilterEvals
