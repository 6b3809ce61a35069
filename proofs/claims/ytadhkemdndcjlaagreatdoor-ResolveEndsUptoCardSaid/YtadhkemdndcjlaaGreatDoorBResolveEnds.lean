/- Closed facts of the row of ResolveEnds. No condition. -/
import Derived.Test.YtadhkemdndcjlaaGreatDoorRow
namespace Go.Proofs.YtadhkemdndcjlaaGreatDoor.lResolveEnds
open Go.ChangeShapes Go.WideShapes Go.ChangeAt Go.RowKit Go.ChangeMaps
theorem fact_recurses : (Rows.resolveEndsUptoRow.recurses == Tryz.pinned.checked.prog.recurses 17) = true := by kernel_rfl
theorem fact_named : (Rows.resolveEndsUptoRow.named == Tryz.pinned.checked.prog.varsNamed 17) = true := by kernel_rfl
end Go.Proofs.YtadhkemdndcjlaaGreatDoor.lResolveEnds
