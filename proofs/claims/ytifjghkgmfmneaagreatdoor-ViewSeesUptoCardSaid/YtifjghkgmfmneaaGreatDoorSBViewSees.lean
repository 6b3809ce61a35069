/- Closed facts of the row of ViewSees. No condition. -/
import Derived.Test.YtifjghkgmfmneaaGreatDoorSRow
namespace Go.Proofs.YtifjghkgmfmneaaGreatDoor.lViewSees
open Go.ChangeShapes Go.WideShapes Go.ChangeAt Go.RowKit Go.ChangeMaps
theorem fact_recurses : (Rows.viewSeesUptoRow.recurses == Tryz.pinned.checked.prog.recurses 7) = true := by kernel_rfl
theorem fact_named : (Rows.viewSeesUptoRow.named == Tryz.pinned.checked.prog.varsNamed 7) = true := by kernel_rfl
end Go.Proofs.YtifjghkgmfmneaaGreatDoor.lViewSees
