/- Closed facts of the row of PolicyParts. No condition. -/
import Derived.Test.YtifjghkgmfmneaaGreatDoorRow
namespace Go.Proofs.YtifjghkgmfmneaaGreatDoor.lPolicyParts
open Go.ChangeShapes Go.WideShapes Go.ChangeAt Go.RowKit Go.ChangeMaps
theorem fact_inPlace : (Rows.policyPartsRow.inPlace == Tryz.pinned.checked.prog.inPlace 3) = true := by kernel_rfl
theorem fact_unfollowed : (Rows.policyPartsRow.unfollowed == Tryz.pinned.checked.prog.unfollowed 3) = true := by kernel_rfl
theorem fact_goes : false = Rows.policyPartsRow.goesBy Tryz.pinned.checked.prog := by kernel_rfl
end Go.Proofs.YtifjghkgmfmneaaGreatDoor.lPolicyParts
