/- The walk of the document's Copy of an entry. Conditions: an entry has at most 1048576 attributes of as many values each. -/
import Derived.Deep.DrawnRows
import Derived.Test.YtdcljilfnkmloaaGreatDoorEOwk
import Derived.Test.YtdcljilfnkmloaaGreatDoorEEna
import Derived.Test.YtdcljilfnkmloaaGreatDoorETai
namespace Go.Proofs.YtdcljilfnkmloaaGreatDoor
open Go.RowKit

/-- a block of another type stays while a row grows -/
theorem Whole.grown {α : Type} {L : KLay α} {T T' : TypeId} {Ts : List TypeId} {w w' : World} {C B g : Nat} {v : Value} {xs : List α} {cs : Array Value} (h : Whole w g T' cs) (ho : OwnK L T Ts C w B v xs) (hT : T ≠ T') (hg : w.grownBy w' v.ownBlock) : Whole w' g T' cs := by
  refine (hg.block g h.lt (fun e => ?_)).trans h
  obtain ⟨us, h1, _⟩ := ho
  obtain ⟨c, fz, h2⟩ := Lib.ownsRow_kind h1 g e.symm
  unfold Whole at h
  rw [h] at h2
  cases h2
  exact hT rfl
end Go.Proofs.YtdcljilfnkmloaaGreatDoor
