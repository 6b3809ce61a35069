/- Closed facts of the row of ResolvePlain. No condition. -/
import Derived.Test.YtadhkemdndcjlaaGreatDoorRow
namespace Go.Proofs.YtadhkemdndcjlaaGreatDoor.lResolvePlain
open Go.ChangeShapes Go.WideShapes Go.ChangeAt Go.RowKit Go.ChangeMaps
theorem fact_recurses : (Rows.resolvePlainUptoRow.recurses == Tryz.pinned.checked.prog.recurses 18) = true := by kernel_rfl
theorem fact_named : (Rows.resolvePlainUptoRow.named == Tryz.pinned.checked.prog.varsNamed 18) = true := by kernel_rfl
end Go.Proofs.YtadhkemdndcjlaaGreatDoor.lResolvePlain
