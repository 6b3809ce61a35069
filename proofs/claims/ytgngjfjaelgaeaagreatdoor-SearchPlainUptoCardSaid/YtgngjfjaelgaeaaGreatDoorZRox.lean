/- Closed facts of the seat that each row asks for. Conditions: as stated. -/
import Derived.Test.YtgngjfjaelgaeaaGreatDoorZRoy
namespace Go.Proofs.YtgngjfjaelgaeaaGreatDoor
open Go.ChangeShapes Go.WideShapes Go.ChangeAt Go.RowKit Go.ChangeMaps
theorem OT:laidOutB Tryz.pinned.checked.prog=true:=by kernel_rfl
theorem XY:mapsRowed Tryz.pinned.checked.prog=true:=by kernel_rfl
theorem Wv:true=Tryz.pinned.checked.prog.looks []:=by kernel_rfl
