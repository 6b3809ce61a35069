/- The walks of the document's 'text' and 'Integer'. Condition: a text has at most 1000000 bytes. -/
import Derived.Deep.DeepCutAuto
import Derived.Test.YtjmfknfponjgkaaGreatDoorQRuS
import Derived.Test.YtjmfknfponjgkaaGreatDoorQMem
import Derived.Test.YtjmfknfponjgkaaGreatDoorQRub
import Derived.Test.YtjmfknfponjgkaaGreatDoorQPhc
namespace Go.Proofs.YtjmfknfponjgkaaGreatDoor
open Go.RowKit

/-- what Integer hands back -/
def IntRet (l : List UInt8) (w : World) (e : Ending) (w' : World) : Prop := e = .returned (.tuple #[.int .i64 ((RuS.intR l).getD 0), .bool (RuS.intR l).isSome]) ∧ w = w'
theorem IntRet.no {l : List UInt8} {w : World} (h : RuS.intR l = none) : IntRet l w (.returned (.tuple #[.int .i64 0, .bool false])) w := by
  unfold IntRet; rw [h]; exact ⟨rfl, rfl⟩
end Go.Proofs.YtjmfknfponjgkaaGreatDoor
