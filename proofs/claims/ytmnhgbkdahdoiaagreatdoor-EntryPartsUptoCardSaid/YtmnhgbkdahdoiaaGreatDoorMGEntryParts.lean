/- Closed facts of the row of EntryParts. No condition. -/
import Derived.Test.YtmnhgbkdahdoiaaGreatDoorMRow
namespace Go.Proofs.YtmnhgbkdahdoiaaGreatDoor.lEntryParts
open Go.ChangeShapes Go.WideShapes Go.ChangeAt Go.RowKit Go.ChangeMaps
theorem fact_goes : false = Rows.entryPartsUptoRow.goesBy Tryz.pinned.checked.prog := by kernel_rfl
end Go.Proofs.YtmnhgbkdahdoiaaGreatDoor.lEntryParts
