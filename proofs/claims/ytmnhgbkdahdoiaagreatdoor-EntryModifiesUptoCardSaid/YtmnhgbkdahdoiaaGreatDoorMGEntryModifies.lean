/- Closed facts of the row of EntryModifies. No condition. -/
import Derived.Test.YtmnhgbkdahdoiaaGreatDoorMRow
namespace Go.Proofs.YtmnhgbkdahdoiaaGreatDoor.lEntryModifies
open Go.ChangeShapes Go.WideShapes Go.ChangeAt Go.RowKit Go.ChangeMaps
theorem fact_goes : false = Rows.entryModifiesUptoRow.goesBy Tryz.pinned.checked.prog := by kernel_rfl
end Go.Proofs.YtmnhgbkdahdoiaaGreatDoor.lEntryModifies
