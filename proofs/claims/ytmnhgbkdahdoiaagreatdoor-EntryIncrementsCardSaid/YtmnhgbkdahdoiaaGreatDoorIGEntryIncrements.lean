/- Closed facts of the row of EntryIncrements. No condition. -/
import Derived.Test.YtmnhgbkdahdoiaaGreatDoorIRow
namespace Go.Proofs.YtmnhgbkdahdoiaaGreatDoor.lEntryIncrements
open Go.ChangeShapes Go.WideShapes Go.ChangeAt Go.RowKit Go.ChangeMaps
theorem fact_goes : false = Rows.entryIncrementsRow.goesBy Tryz.pinned.checked.prog := by kernel_rfl
end Go.Proofs.YtmnhgbkdahdoiaaGreatDoor.lEntryIncrements
