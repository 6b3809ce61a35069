/- Closed facts of the row of FilterBack. No condition. -/
import Derived.Test.YtjmfknfponjgkaaGreatDoorQRow
namespace Go.Proofs.YtjmfknfponjgkaaGreatDoor.lFilterBack
open Go.ChangeShapes Go.WideShapes Go.ChangeAt Go.RowKit Go.ChangeMaps
theorem fact_recurses : (Rows.filterBackRow.recurses == Tryz.pinned.checked.prog.recurses 6) = true := by kernel_rfl
theorem fact_named : (Rows.filterBackRow.named == Tryz.pinned.checked.prog.varsNamed 6) = true := by kernel_rfl
end Go.Proofs.YtjmfknfponjgkaaGreatDoor.lFilterBack
