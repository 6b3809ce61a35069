/- Closed facts of the row of PolicyDecides. No condition. -/
import Derived.Test.YtadhkemdndcjlaaGreatDoorRow
namespace Go.Proofs.YtadhkemdndcjlaaGreatDoor.lPolicyDecides
open Go.ChangeShapes Go.WideShapes Go.ChangeAt Go.RowKit Go.ChangeMaps
theorem fact_goes : false = Rows.policyDecidesRow.goesBy Tryz.pinned.checked.prog := by kernel_rfl
end Go.Proofs.YtadhkemdndcjlaaGreatDoor.lPolicyDecides
