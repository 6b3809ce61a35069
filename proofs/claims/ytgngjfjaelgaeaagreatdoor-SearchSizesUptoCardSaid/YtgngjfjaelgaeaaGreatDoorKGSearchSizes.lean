/- Closed facts of the row of SearchSizes. Conditions: as stated. -/
import Derived.Test.YtgngjfjaelgaeaaGreatDoorKRow
namespace Go.Proofs.YtgngjfjaelgaeaaGreatDoor.lSearchSizes
open Go.ChangeShapes Go.WideShapes Go.ChangeAt Go.RowKit Go.ChangeMaps
theorem Aah:false=Rows.searchSizesUptoRow.goesBy Tryz.pinned.checked.prog:=by kernel_rfl
end Go.Proofs.YtgngjfjaelgaeaaGreatDoor.lSearchSizes
