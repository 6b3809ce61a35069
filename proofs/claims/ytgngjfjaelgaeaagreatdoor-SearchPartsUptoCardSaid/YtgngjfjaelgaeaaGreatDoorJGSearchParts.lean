/- Closed facts of the row of SearchParts. Conditions: as stated. -/
import Derived.Test.YtgngjfjaelgaeaaGreatDoorJRow
namespace Go.Proofs.YtgngjfjaelgaeaaGreatDoor.lSearchParts
open Go.ChangeShapes Go.WideShapes Go.ChangeAt Go.RowKit Go.ChangeMaps
theorem AaP:false=Rows.searchPartsUptoRow.goesBy Tryz.pinned.checked.prog:=by kernel_rfl
end Go.Proofs.YtgngjfjaelgaeaaGreatDoor.lSearchParts
