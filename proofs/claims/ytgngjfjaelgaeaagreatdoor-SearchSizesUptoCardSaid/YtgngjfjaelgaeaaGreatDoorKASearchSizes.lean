/- Closed facts of the row of SearchSizes. Conditions: as stated. -/
import Derived.Test.YtgngjfjaelgaeaaGreatDoorKRow
namespace Go.Proofs.YtgngjfjaelgaeaaGreatDoor.lSearchSizes
open Go.ChangeShapes Go.WideShapes Go.ChangeAt Go.RowKit Go.ChangeMaps
theorem Tc:(Rows.searchSizesUptoRow.inPlace==Tryz.pinned.checked.prog.inPlace 4)=true:=by kernel_rfl
theorem Ot:(Rows.searchSizesUptoRow.unfollowed==Tryz.pinned.checked.prog.unfollowed 4)=true:=by kernel_rfl
end Go.Proofs.YtgngjfjaelgaeaaGreatDoor.lSearchSizes
