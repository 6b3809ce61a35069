/- Closed facts of the row of SearchParts. Conditions: as stated. -/
import Derived.Test.YtgngjfjaelgaeaaGreatDoorJRow
namespace Go.Proofs.YtgngjfjaelgaeaaGreatDoor.lSearchParts
open Go.ChangeShapes Go.WideShapes Go.ChangeAt Go.RowKit Go.ChangeMaps
theorem Tf:(Rows.searchPartsUptoRow.recurses==Tryz.pinned.checked.prog.recurses 6)=true:=by kernel_rfl
theorem YI:(Rows.searchPartsUptoRow.named==Tryz.pinned.checked.prog.varsNamed 6)=true:=by kernel_rfl
end Go.Proofs.YtgngjfjaelgaeaaGreatDoor.lSearchParts
