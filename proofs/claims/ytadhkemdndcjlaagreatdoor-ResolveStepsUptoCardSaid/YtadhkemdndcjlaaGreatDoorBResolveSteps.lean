/- Closed facts of the row of ResolveSteps. No condition. -/
import Derived.Test.YtadhkemdndcjlaaGreatDoorRow
namespace Go.Proofs.YtadhkemdndcjlaaGreatDoor.lResolveSteps
open Go.ChangeShapes Go.WideShapes Go.ChangeAt Go.RowKit Go.ChangeMaps
theorem fact_recurses : (Rows.resolveStepsUptoRow.recurses == Tryz.pinned.checked.prog.recurses 15) = true := by kernel_rfl
theorem fact_named : (Rows.resolveStepsUptoRow.named == Tryz.pinned.checked.prog.varsNamed 15) = true := by kernel_rfl
end Go.Proofs.YtadhkemdndcjlaaGreatDoor.lResolveSteps
