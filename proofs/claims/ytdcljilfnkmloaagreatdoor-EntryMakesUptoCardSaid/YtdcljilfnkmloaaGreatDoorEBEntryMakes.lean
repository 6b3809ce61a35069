/- Closed facts of the row of EntryMakes. No condition. -/
import Derived.Test.YtdcljilfnkmloaaGreatDoorERow
namespace Go.Proofs.YtdcljilfnkmloaaGreatDoor.lEntryMakes
open Go.ChangeShapes Go.WideShapes Go.ChangeAt Go.RowKit Go.ChangeMaps
theorem fact_recurses : (Rows.entryMakesUptoRow.recurses == Tryz.pinned.checked.prog.recurses 3) = true := by kernel_rfl
theorem fact_named : (Rows.entryMakesUptoRow.named == Tryz.pinned.checked.prog.varsNamed 3) = true := by kernel_rfl
end Go.Proofs.YtdcljilfnkmloaaGreatDoor.lEntryMakes
