/- Closed facts of the row of EntryUndoes. No condition. -/
import Derived.Test.YtmnhgbkdahdoiaaGreatDoorMRow
namespace Go.Proofs.YtmnhgbkdahdoiaaGreatDoor.lEntryUndoes
open Go.ChangeShapes Go.WideShapes Go.ChangeAt Go.RowKit Go.ChangeMaps
theorem fact_recurses : (Rows.entryUndoesUptoRow.recurses == Tryz.pinned.checked.prog.recurses 4) = true := by kernel_rfl
theorem fact_named : (Rows.entryUndoesUptoRow.named == Tryz.pinned.checked.prog.varsNamed 4) = true := by kernel_rfl
end Go.Proofs.YtmnhgbkdahdoiaaGreatDoor.lEntryUndoes
