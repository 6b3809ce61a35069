/- Closed facts of the row of FilterBack. No condition. -/
import Derived.Test.YtjmfknfponjgkaaGreatDoorQRow
namespace Go.Proofs.YtjmfknfponjgkaaGreatDoor.lFilterBack
open Go.ChangeShapes Go.WideShapes Go.ChangeAt Go.RowKit Go.ChangeMaps
theorem fact_goes : false = Rows.filterBackRow.goesBy Tryz.pinned.checked.prog := by kernel_rfl
end Go.Proofs.YtjmfknfponjgkaaGreatDoor.lFilterBack
