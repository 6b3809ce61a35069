/- Closed facts of the row of PolicyParts. No condition. -/
import Derived.Test.YtifjghkgmfmneaaGreatDoorRow
namespace Go.Proofs.YtifjghkgmfmneaaGreatDoor.lPolicyParts
open Go.ChangeShapes Go.WideShapes Go.ChangeAt Go.RowKit Go.ChangeMaps
theorem fact_recurses : (Rows.policyPartsRow.recurses == Tryz.pinned.checked.prog.recurses 3) = true := by kernel_rfl
theorem fact_named : (Rows.policyPartsRow.named == Tryz.pinned.checked.prog.varsNamed 3) = true := by kernel_rfl
end Go.Proofs.YtifjghkgmfmneaaGreatDoor.lPolicyParts
