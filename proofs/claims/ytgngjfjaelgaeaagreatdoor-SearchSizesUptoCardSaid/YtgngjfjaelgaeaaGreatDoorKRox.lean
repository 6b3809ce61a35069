/- Closed facts of the seat that each row asks for. Conditions: as stated. -/
import Derived.Test.YtgngjfjaelgaeaaGreatDoorKRoy
namespace Go.Proofs.YtgngjfjaelgaeaaGreatDoor
open Go.ChangeShapes Go.WideShapes Go.ChangeAt Go.RowKit Go.ChangeMaps
theorem NG:laidOutB Tryz.pinned.checked.prog=true:=by kernel_rfl
theorem Wu:mapsRowed Tryz.pinned.checked.prog=true:=by kernel_rfl
theorem UW:true=Tryz.pinned.checked.prog.looks []:=by kernel_rfl
end Go.Proofs.YtgngjfjaelgaeaaGreatDoor
