/- Closed facts of the row of EntryMakes. No condition. -/
import Derived.Test.YtdcljilfnkmloaaGreatDoorERow
namespace Go.Proofs.YtdcljilfnkmloaaGreatDoor.lEntryMakes
open Go.ChangeShapes Go.WideShapes Go.ChangeAt Go.RowKit Go.ChangeMaps
theorem fact_inPlace : (Rows.entryMakesUptoRow.inPlace == Tryz.pinned.checked.prog.inPlace 3) = true := by kernel_rfl
theorem fact_unfollowed : (Rows.entryMakesUptoRow.unfollowed == Tryz.pinned.checked.prog.unfollowed 3) = true := by kernel_rfl
end Go.Proofs.YtdcljilfnkmloaaGreatDoor.lEntryMakes
