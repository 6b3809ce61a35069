/- Closed facts of the row of SearchPlain. Conditions: as stated. -/
import Derived.Test.YtgngjfjaelgaeaaGreatDoorZRow
namespace Go.Proofs.YtgngjfjaelgaeaaGreatDoor.lSearchPlain
open Go.ChangeShapes Go.WideShapes Go.ChangeAt Go.RowKit Go.ChangeMaps
theorem UQ:(Rows.searchPlainUptoRow.inPlace==Tryz.pinned.checked.prog.inPlace 5)=true:=by kernel_rfl
theorem PW:(Rows.searchPlainUptoRow.unfollowed==Tryz.pinned.checked.prog.unfollowed 5)=true:=by kernel_rfl
end Go.Proofs.YtgngjfjaelgaeaaGreatDoor.lSearchPlain
