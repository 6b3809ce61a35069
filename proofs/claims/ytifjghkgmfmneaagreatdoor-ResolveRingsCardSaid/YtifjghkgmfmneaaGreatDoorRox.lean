/- Closed facts of the seat that each row asks for. No condition. -/
import Derived.Test.YtifjghkgmfmneaaGreatDoorRoy
namespace Go.Proofs.YtifjghkgmfmneaaGreatDoor
open Go.ChangeShapes Go.WideShapes Go.ChangeAt Go.RowKit Go.ChangeMaps
theorem shared_laid : laidOutB Tryz.pinned.checked.prog = true := by kernel_rfl
theorem shared_maps : mapsRowed Tryz.pinned.checked.prog = true := by kernel_rfl
theorem shared_looks : true = Tryz.pinned.checked.prog.looks [] := by kernel_rfl
end Go.Proofs.YtifjghkgmfmneaaGreatDoor
