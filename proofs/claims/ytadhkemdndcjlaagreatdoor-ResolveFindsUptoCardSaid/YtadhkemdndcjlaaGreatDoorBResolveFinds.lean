/- Closed facts of the row of ResolveFinds. No condition. -/
import Derived.Test.YtadhkemdndcjlaaGreatDoorRow
namespace Go.Proofs.YtadhkemdndcjlaaGreatDoor.lResolveFinds
open Go.ChangeShapes Go.WideShapes Go.ChangeAt Go.RowKit Go.ChangeMaps
theorem fact_recurses : (Rows.resolveFindsUptoRow.recurses == Tryz.pinned.checked.prog.recurses 16) = true := by kernel_rfl
theorem fact_named : (Rows.resolveFindsUptoRow.named == Tryz.pinned.checked.prog.varsNamed 16) = true := by kernel_rfl
end Go.Proofs.YtadhkemdndcjlaaGreatDoor.lResolveFinds
