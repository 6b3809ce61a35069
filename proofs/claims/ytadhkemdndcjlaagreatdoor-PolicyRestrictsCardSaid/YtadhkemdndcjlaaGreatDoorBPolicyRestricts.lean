/- Closed facts of the row of PolicyRestricts. No condition. -/
import Derived.Test.YtadhkemdndcjlaaGreatDoorRow
namespace Go.Proofs.YtadhkemdndcjlaaGreatDoor.lPolicyRestricts
open Go.ChangeShapes Go.WideShapes Go.ChangeAt Go.RowKit Go.ChangeMaps
theorem fact_recurses : (Rows.policyRestrictsRow.recurses == Tryz.pinned.checked.prog.recurses 8) = true := by kernel_rfl
theorem fact_named : (Rows.policyRestrictsRow.named == Tryz.pinned.checked.prog.varsNamed 8) = true := by kernel_rfl
end Go.Proofs.YtadhkemdndcjlaaGreatDoor.lPolicyRestricts
