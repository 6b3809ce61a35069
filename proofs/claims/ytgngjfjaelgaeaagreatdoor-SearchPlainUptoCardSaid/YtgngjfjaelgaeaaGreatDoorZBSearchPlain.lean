/- Closed facts of the row of SearchPlain. Conditions: as stated. -/
import Derived.Test.YtgngjfjaelgaeaaGreatDoorZRow
namespace Go.Proofs.YtgngjfjaelgaeaaGreatDoor.lSearchPlain
open Go.ChangeShapes Go.WideShapes Go.ChangeAt Go.RowKit Go.ChangeMaps
theorem Ue:(Rows.searchPlainUptoRow.recurses==Tryz.pinned.checked.prog.recurses 5)=true:=by kernel_rfl
theorem Zx:(Rows.searchPlainUptoRow.named==Tryz.pinned.checked.prog.varsNamed 5)=true:=by kernel_rfl
end Go.Proofs.YtgngjfjaelgaeaaGreatDoor.lSearchPlain
