/- Closed facts of the row of EntryParts. No condition. -/
import Derived.Test.YtmnhgbkdahdoiaaGreatDoorMRow
namespace Go.Proofs.YtmnhgbkdahdoiaaGreatDoor.lEntryParts
open Go.ChangeShapes Go.WideShapes Go.ChangeAt Go.RowKit Go.ChangeMaps
theorem fact_recurses : (Rows.entryPartsUptoRow.recurses == Tryz.pinned.checked.prog.recurses 5) = true := by kernel_rfl
theorem fact_named : (Rows.entryPartsUptoRow.named == Tryz.pinned.checked.prog.varsNamed 5) = true := by kernel_rfl
end Go.Proofs.YtmnhgbkdahdoiaaGreatDoor.lEntryParts
