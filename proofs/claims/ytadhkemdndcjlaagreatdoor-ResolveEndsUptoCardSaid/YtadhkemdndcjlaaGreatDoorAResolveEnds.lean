/- Closed facts of the row of ResolveEnds. No condition. -/
import Derived.Test.YtadhkemdndcjlaaGreatDoorRow
namespace Go.Proofs.YtadhkemdndcjlaaGreatDoor.lResolveEnds
open Go.ChangeShapes Go.WideShapes Go.ChangeAt Go.RowKit Go.ChangeMaps
theorem fact_inPlace : (Rows.resolveEndsUptoRow.inPlace == Tryz.pinned.checked.prog.inPlace 17) = true := by kernel_rfl
theorem fact_unfollowed : (Rows.resolveEndsUptoRow.unfollowed == Tryz.pinned.checked.prog.unfollowed 17) = true := by kernel_rfl
end Go.Proofs.YtadhkemdndcjlaaGreatDoor.lResolveEnds
