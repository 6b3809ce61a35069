/- Closed facts of the row of ResolveRings. No condition. -/
import Derived.Test.YtifjghkgmfmneaaGreatDoorRow
namespace Go.Proofs.YtifjghkgmfmneaaGreatDoor.lResolveRings
open Go.ChangeShapes Go.WideShapes Go.ChangeAt Go.RowKit Go.ChangeMaps
theorem fact_recurses : (Rows.resolveRingsRow.recurses == Tryz.pinned.checked.prog.recurses 5) = true := by kernel_rfl
theorem fact_named : (Rows.resolveRingsRow.named == Tryz.pinned.checked.prog.varsNamed 5) = true := by kernel_rfl
end Go.Proofs.YtifjghkgmfmneaaGreatDoor.lResolveRings
