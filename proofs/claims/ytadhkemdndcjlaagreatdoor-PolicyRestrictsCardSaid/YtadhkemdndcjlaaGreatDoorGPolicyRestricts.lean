/- Closed facts of the row of PolicyRestricts. No condition. -/
import Derived.Test.YtadhkemdndcjlaaGreatDoorRow
namespace Go.Proofs.YtadhkemdndcjlaaGreatDoor.lPolicyRestricts
open Go.ChangeShapes Go.WideShapes Go.ChangeAt Go.RowKit Go.ChangeMaps
theorem fact_goes : false = Rows.policyRestrictsRow.goesBy Tryz.pinned.checked.prog := by kernel_rfl
end Go.Proofs.YtadhkemdndcjlaaGreatDoor.lPolicyRestricts
