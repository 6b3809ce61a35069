/- Closed facts of the row of FilterPrints. No condition. -/
import Derived.Test.YtjmfknfponjgkaaGreatDoorQRow
namespace Go.Proofs.YtjmfknfponjgkaaGreatDoor.lFilterPrints
open Go.ChangeShapes Go.WideShapes Go.ChangeAt Go.RowKit Go.ChangeMaps
theorem fact_goes : false = Rows.filterPrintsRow.goesBy Tryz.pinned.checked.prog := by kernel_rfl
end Go.Proofs.YtjmfknfponjgkaaGreatDoor.lFilterPrints
