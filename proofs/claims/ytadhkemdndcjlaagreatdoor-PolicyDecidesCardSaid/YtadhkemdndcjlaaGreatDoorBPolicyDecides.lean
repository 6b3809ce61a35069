/- Closed facts of the row of PolicyDecides. No condition. -/
import Derived.Test.YtadhkemdndcjlaaGreatDoorRow
namespace Go.Proofs.YtadhkemdndcjlaaGreatDoor.lPolicyDecides
open Go.ChangeShapes Go.WideShapes Go.ChangeAt Go.RowKit Go.ChangeMaps
theorem fact_recurses : (Rows.policyDecidesRow.recurses == Tryz.pinned.checked.prog.recurses 4) = true := by kernel_rfl
theorem fact_named : (Rows.policyDecidesRow.named == Tryz.pinned.checked.prog.varsNamed 4) = true := by kernel_rfl
end Go.Proofs.YtadhkemdndcjlaaGreatDoor.lPolicyDecides
