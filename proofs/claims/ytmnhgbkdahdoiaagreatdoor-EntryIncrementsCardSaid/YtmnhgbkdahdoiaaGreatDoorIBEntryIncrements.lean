/- Closed facts of the row of EntryIncrements. No condition. -/
import Derived.Test.YtmnhgbkdahdoiaaGreatDoorIRow
namespace Go.Proofs.YtmnhgbkdahdoiaaGreatDoor.lEntryIncrements
open Go.ChangeShapes Go.WideShapes Go.ChangeAt Go.RowKit Go.ChangeMaps
theorem fact_recurses : (Rows.entryIncrementsRow.recurses == Tryz.pinned.checked.prog.recurses 6) = true := by kernel_rfl
theorem fact_named : (Rows.entryIncrementsRow.named == Tryz.pinned.checked.prog.varsNamed 6) = true := by kernel_rfl
end Go.Proofs.YtmnhgbkdahdoiaaGreatDoor.lEntryIncrements
