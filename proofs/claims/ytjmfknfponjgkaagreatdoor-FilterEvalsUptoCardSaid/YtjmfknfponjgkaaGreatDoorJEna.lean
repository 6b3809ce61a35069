/- The walks of an entry's values, of what is alike one of them, and of aliases: the program's. Conditions: as stated. -/
import Derived.Lib.AppendZeros
import Derived.Maps.AppendAt
import Derived.Test.YtjmfknfponjgkaaGreatDoorJAva
import Derived.Test.YtjmfknfponjgkaaGreatDoorJDnh
namespace Go.Proofs.YtjmfknfponjgkaaGreatDoor
open Go.RowKit
def FitA (xs : List EnS.At) : Prop := xs.length <= 1048576 /\ ∀ x ∈ xs, x.vals.length <= 1048576 /\ ∀ v ∈ x.vals, v.length <= 1000000
end Go.Proofs.YtjmfknfponjgkaaGreatDoor
