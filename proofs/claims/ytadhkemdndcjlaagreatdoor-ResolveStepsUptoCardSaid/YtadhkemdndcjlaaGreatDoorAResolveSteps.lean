/- Closed facts of the row of ResolveSteps. No condition. -/
import Derived.Test.YtadhkemdndcjlaaGreatDoorRow
namespace Go.Proofs.YtadhkemdndcjlaaGreatDoor.lResolveSteps
open Go.ChangeShapes Go.WideShapes Go.ChangeAt Go.RowKit Go.ChangeMaps
theorem fact_inPlace : (Rows.resolveStepsUptoRow.inPlace == Tryz.pinned.checked.prog.inPlace 15) = true := by kernel_rfl
theorem fact_unfollowed : (Rows.resolveStepsUptoRow.unfollowed == Tryz.pinned.checked.prog.unfollowed 15) = true := by kernel_rfl
end Go.Proofs.YtadhkemdndcjlaaGreatDoor.lResolveSteps
