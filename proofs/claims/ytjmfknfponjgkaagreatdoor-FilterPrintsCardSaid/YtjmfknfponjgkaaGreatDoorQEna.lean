/- The walks of an entry's values, of what is alike one of them, and of aliases: the program's. Conditions: an entry has at most 1048576 attributes of as many values each, of at most 1000000 bytes; the library's variables are laid. -/
import Derived.Lib.AppendZeros
import Derived.Maps.AppendAt
import Derived.Test.YtjmfknfponjgkaaGreatDoorQAva
import Derived.Test.YtjmfknfponjgkaaGreatDoorQDnh
namespace Go.Proofs.YtjmfknfponjgkaaGreatDoor
open Go.RowKit

/-- attributes of a size that can be looked at -/
def FitA (xs : List EnS.At) : Prop := xs.length ≤ 1048576 ∧ ∀ x ∈ xs, x.vals.length ≤ 1048576 ∧ ∀ v ∈ x.vals, v.length ≤ 1000000
end Go.Proofs.YtjmfknfponjgkaaGreatDoor
