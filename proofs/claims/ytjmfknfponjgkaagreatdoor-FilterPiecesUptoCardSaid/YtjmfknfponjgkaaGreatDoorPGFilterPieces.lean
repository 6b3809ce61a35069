/- Closed facts of the row of FilterPieces. No condition. -/
import Derived.Test.YtjmfknfponjgkaaGreatDoorPRow
namespace Go.Proofs.YtjmfknfponjgkaaGreatDoor.lFilterPieces
open Go.ChangeShapes Go.WideShapes Go.ChangeAt Go.RowKit Go.ChangeMaps
theorem fact_goes : false = Rows.filterPiecesUptoRow.goesBy Tryz.pinned.checked.prog := by kernel_rfl
end Go.Proofs.YtjmfknfponjgkaaGreatDoor.lFilterPieces
