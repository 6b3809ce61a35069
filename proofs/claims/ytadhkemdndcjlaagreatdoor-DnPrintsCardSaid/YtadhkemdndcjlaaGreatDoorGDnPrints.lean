/- Closed facts of the row of DnPrints. No condition. -/
import Derived.Test.YtadhkemdndcjlaaGreatDoorRow
namespace Go.Proofs.YtadhkemdndcjlaaGreatDoor.lDnPrints
open Go.ChangeShapes Go.WideShapes Go.ChangeAt Go.RowKit Go.ChangeMaps
theorem fact_goes : false = Rows.dnPrintsRow.goesBy Tryz.pinned.checked.prog := by kernel_rfl
end Go.Proofs.YtadhkemdndcjlaaGreatDoor.lDnPrints
