/- Closed facts of the row of FilterPrints. No condition. -/
import Derived.Test.YtjmfknfponjgkaaGreatDoorQRow
namespace Go.Proofs.YtjmfknfponjgkaaGreatDoor.lFilterPrints
open Go.ChangeShapes Go.WideShapes Go.ChangeAt Go.RowKit Go.ChangeMaps
theorem fact_recurses : (Rows.filterPrintsRow.recurses == Tryz.pinned.checked.prog.recurses 5) = true := by kernel_rfl
theorem fact_named : (Rows.filterPrintsRow.named == Tryz.pinned.checked.prog.varsNamed 5) = true := by kernel_rfl
end Go.Proofs.YtjmfknfponjgkaaGreatDoor.lFilterPrints
