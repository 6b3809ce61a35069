/- Closed facts of the seat that each row asks for. Conditions: as stated. -/
import Derived.Test.YtgngjfjaelgaeaaGreatDoorJRoy
namespace Go.Proofs.YtgngjfjaelgaeaaGreatDoor
open Go.ChangeShapes Go.WideShapes Go.ChangeAt Go.RowKit Go.ChangeMaps
theorem Oi:laidOutB Tryz.pinned.checked.prog=true:=by kernel_rfl
theorem Xl:mapsRowed Tryz.pinned.checked.prog=true:=by kernel_rfl
theorem VQ:true=Tryz.pinned.checked.prog.looks []:=by kernel_rfl
end Go.Proofs.YtgngjfjaelgaeaaGreatDoor
