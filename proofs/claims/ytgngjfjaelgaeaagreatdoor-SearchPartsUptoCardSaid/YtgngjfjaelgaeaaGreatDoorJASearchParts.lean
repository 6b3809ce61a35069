/- Closed facts of the row of SearchParts. Conditions: as stated. -/
import Derived.Test.YtgngjfjaelgaeaaGreatDoorJRow
namespace Go.Proofs.YtgngjfjaelgaeaaGreatDoor.lSearchParts
open Go.ChangeShapes Go.WideShapes Go.ChangeAt Go.RowKit Go.ChangeMaps
theorem Ui:(Rows.searchPartsUptoRow.inPlace==Tryz.pinned.checked.prog.inPlace 6)=true:=by kernel_rfl
theorem Pe:(Rows.searchPartsUptoRow.unfollowed==Tryz.pinned.checked.prog.unfollowed 6)=true:=by kernel_rfl
end Go.Proofs.YtgngjfjaelgaeaaGreatDoor.lSearchParts
