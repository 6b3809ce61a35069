/- Closed facts of the row of ResolvePlain. No condition. -/
import Derived.Test.YtadhkemdndcjlaaGreatDoorRow
namespace Go.Proofs.YtadhkemdndcjlaaGreatDoor.lResolvePlain
open Go.ChangeShapes Go.WideShapes Go.ChangeAt Go.RowKit Go.ChangeMaps
theorem fact_inPlace : (Rows.resolvePlainUptoRow.inPlace == Tryz.pinned.checked.prog.inPlace 18) = true := by kernel_rfl
theorem fact_unfollowed : (Rows.resolvePlainUptoRow.unfollowed == Tryz.pinned.checked.prog.unfollowed 18) = true := by kernel_rfl
end Go.Proofs.YtadhkemdndcjlaaGreatDoor.lResolvePlain
