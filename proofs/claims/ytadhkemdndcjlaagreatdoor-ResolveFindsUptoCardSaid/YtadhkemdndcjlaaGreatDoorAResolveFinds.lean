/- Closed facts of the row of ResolveFinds. No condition. -/
import Derived.Test.YtadhkemdndcjlaaGreatDoorRow
namespace Go.Proofs.YtadhkemdndcjlaaGreatDoor.lResolveFinds
open Go.ChangeShapes Go.WideShapes Go.ChangeAt Go.RowKit Go.ChangeMaps
theorem fact_inPlace : (Rows.resolveFindsUptoRow.inPlace == Tryz.pinned.checked.prog.inPlace 16) = true := by kernel_rfl
theorem fact_unfollowed : (Rows.resolveFindsUptoRow.unfollowed == Tryz.pinned.checked.prog.unfollowed 16) = true := by kernel_rfl
end Go.Proofs.YtadhkemdndcjlaaGreatDoor.lResolveFinds
