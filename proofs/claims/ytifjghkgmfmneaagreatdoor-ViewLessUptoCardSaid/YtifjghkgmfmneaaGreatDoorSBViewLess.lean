/- Closed facts of the row of ViewLess. No condition. -/
import Derived.Test.YtifjghkgmfmneaaGreatDoorSRow
namespace Go.Proofs.YtifjghkgmfmneaaGreatDoor.lViewLess
open Go.ChangeShapes Go.WideShapes Go.ChangeAt Go.RowKit Go.ChangeMaps
theorem fact_recurses : (Rows.viewLessUptoRow.recurses == Tryz.pinned.checked.prog.recurses 8) = true := by kernel_rfl
theorem fact_named : (Rows.viewLessUptoRow.named == Tryz.pinned.checked.prog.varsNamed 8) = true := by kernel_rfl
end Go.Proofs.YtifjghkgmfmneaaGreatDoor.lViewLess
