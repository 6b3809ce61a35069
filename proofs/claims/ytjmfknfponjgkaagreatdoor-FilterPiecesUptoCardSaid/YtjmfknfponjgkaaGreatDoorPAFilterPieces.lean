/- Closed facts of the row of FilterPieces. No condition. -/
import Derived.Test.YtjmfknfponjgkaaGreatDoorPRow
namespace Go.Proofs.YtjmfknfponjgkaaGreatDoor.lFilterPieces
open Go.ChangeShapes Go.WideShapes Go.ChangeAt Go.RowKit Go.ChangeMaps
theorem fact_inPlace : (Rows.filterPiecesUptoRow.inPlace == Tryz.pinned.checked.prog.inPlace 4) = true := by kernel_rfl
theorem fact_unfollowed : (Rows.filterPiecesUptoRow.unfollowed == Tryz.pinned.checked.prog.unfollowed 4) = true := by kernel_rfl
end Go.Proofs.YtjmfknfponjgkaaGreatDoor.lFilterPieces
