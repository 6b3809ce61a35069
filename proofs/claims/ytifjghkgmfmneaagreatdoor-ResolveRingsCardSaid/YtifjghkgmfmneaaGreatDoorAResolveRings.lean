/- Closed facts of the row of ResolveRings. No condition. -/
import Derived.Test.YtifjghkgmfmneaaGreatDoorRow
namespace Go.Proofs.YtifjghkgmfmneaaGreatDoor.lResolveRings
open Go.ChangeShapes Go.WideShapes Go.ChangeAt Go.RowKit Go.ChangeMaps
theorem fact_inPlace : (Rows.resolveRingsRow.inPlace == Tryz.pinned.checked.prog.inPlace 5) = true := by kernel_rfl
theorem fact_unfollowed : (Rows.resolveRingsRow.unfollowed == Tryz.pinned.checked.prog.unfollowed 5) = true := by kernel_rfl
theorem fact_goes : false = Rows.resolveRingsRow.goesBy Tryz.pinned.checked.prog := by kernel_rfl
end Go.Proofs.YtifjghkgmfmneaaGreatDoor.lResolveRings
