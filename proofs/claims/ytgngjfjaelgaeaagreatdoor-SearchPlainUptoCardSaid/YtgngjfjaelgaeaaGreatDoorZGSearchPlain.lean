/- Closed facts of the row of SearchPlain. Conditions: as stated. -/
import Derived.Test.YtgngjfjaelgaeaaGreatDoorZRow
namespace Go.Proofs.YtgngjfjaelgaeaaGreatDoor.lSearchPlain
open Go.ChangeShapes Go.WideShapes Go.ChangeAt Go.RowKit Go.ChangeMaps
theorem AbH:false=Rows.searchPlainUptoRow.goesBy Tryz.pinned.checked.prog:=by kernel_rfl
end Go.Proofs.YtgngjfjaelgaeaaGreatDoor.lSearchPlain
