/- Closed facts of the row of SearchSizes. Conditions: as stated. -/
import Derived.Test.YtgngjfjaelgaeaaGreatDoorKRow
namespace Go.Proofs.YtgngjfjaelgaeaaGreatDoor.lSearchSizes
open Go.ChangeShapes Go.WideShapes Go.ChangeAt Go.RowKit Go.ChangeMaps
theorem RQ:(Rows.searchSizesUptoRow.recurses==Tryz.pinned.checked.prog.recurses 4)=true:=by kernel_rfl
theorem XI:(Rows.searchSizesUptoRow.named==Tryz.pinned.checked.prog.varsNamed 4)=true:=by kernel_rfl
end Go.Proofs.YtgngjfjaelgaeaaGreatDoor.lSearchSizes
