/- Closed facts of the row of ResolveSteps. No condition. -/
import Derived.Test.YtadhkemdndcjlaaGreatDoorRow
namespace Go.Proofs.YtadhkemdndcjlaaGreatDoor.lResolveSteps
open Go.ChangeShapes Go.WideShapes Go.ChangeAt Go.RowKit Go.ChangeMaps
theorem fact_goes : false = Rows.resolveStepsUptoRow.goesBy Tryz.pinned.checked.prog := by kernel_rfl
end Go.Proofs.YtadhkemdndcjlaaGreatDoor.lResolveSteps
