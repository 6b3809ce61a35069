/- Closed facts of the row of EntryMakes. No condition. -/
import Derived.Test.YtdcljilfnkmloaaGreatDoorERow
namespace Go.Proofs.YtdcljilfnkmloaaGreatDoor.lEntryMakes
open Go.ChangeShapes Go.WideShapes Go.ChangeAt Go.RowKit Go.ChangeMaps
theorem fact_goes : false = Rows.entryMakesUptoRow.goesBy Tryz.pinned.checked.prog := by kernel_rfl
end Go.Proofs.YtdcljilfnkmloaaGreatDoor.lEntryMakes
