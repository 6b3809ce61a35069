/- Closed facts of the row of FilterPieces. No condition. -/
import Derived.Test.YtjmfknfponjgkaaGreatDoorPRow
namespace Go.Proofs.YtjmfknfponjgkaaGreatDoor.lFilterPieces
open Go.ChangeShapes Go.WideShapes Go.ChangeAt Go.RowKit Go.ChangeMaps
theorem fact_recurses : (Rows.filterPiecesUptoRow.recurses == Tryz.pinned.checked.prog.recurses 4) = true := by kernel_rfl
theorem fact_named : (Rows.filterPiecesUptoRow.named == Tryz.pinned.checked.prog.varsNamed 4) = true := by kernel_rfl
end Go.Proofs.YtjmfknfponjgkaaGreatDoor.lFilterPieces
