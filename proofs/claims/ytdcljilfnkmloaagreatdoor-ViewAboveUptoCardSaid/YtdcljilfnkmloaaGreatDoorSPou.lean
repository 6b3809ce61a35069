/- The walks of restricting rules to a context, the program's and the document's. Conditions: each rule's texts and the context have at most 100000 bytes, the list at most 1000000 rules; the library's variables are laid. Small walks and facts for the laws on rules: a slice of one rule that is laid anew, 'awake', what a call keeps. Condition: the library's variables are laid. -/
import Derived.Deep.RegionHeld3
import Derived.Deep.DeepCutAuto
import Derived.Test.YtdcljilfnkmloaaGreatDoorSPom
import Derived.Test.YtdcljilfnkmloaaGreatDoorSPol
import Derived.Test.YtdcljilfnkmloaaGreatDoorSPoq
namespace Go.Proofs.YtdcljilfnkmloaaGreatDoor
open Go.RowKit

theorem RulesIn.lit (T : TypeId) (w : World) (r : PoS.Rl) : RulesIn (w.alloc (.cells (oneC r).toArray T)) (.slice (some ⟨w.heap.size, 0, none⟩) 1 1) [r] := by
  have hw := Whole.made w T (oneC r).toArray
  refine ⟨some ⟨w.heap.size, 0, none⟩, 1, rfl, Nat.le_refl _, .inr ⟨w.heap.size, 0, rfl, hw.lt, fun j q hj => ?_⟩⟩
  match j, hj with
  | 0, hj =>
    have := Option.some.inj hj
    subst this
    exact ⟨hw.cell 0, hw.cell 1, hw.cell 2, hw.cell 3, hw.cell 4⟩
  | j + 1, hj => simp at hj
def awakeR : PoS.Rl := ⟨[42], [], [], 1, true⟩
/-- what is kept while calls run: the rules that came in, the library's variables, all that stood at the call's start -/
def PKeep (_B : Nat) (w : World) (v : Value) (xs : List PoS.Rl) (W : World) : Prop := Below w.heap.size w W ∧ RulesIn W v xs ∧ Env W
theorem PKeep.call {B : Nat} {w W W' : World} {v : Value} {xs : List PoS.Rl} (h : PKeep B w v xs W) (hb : Below W.heap.size W W') : PKeep B w v xs W' :=
  ⟨h.1.trans (hb.mono h.1.size), h.2.1.call hb (Nat.le_refl _), h.2.2.below hb⟩
theorem PKeep.rules {B : Nat} {w W : World} {v : Value} {xs : List PoS.Rl} (h : PKeep B w v xs W) : RulesIn W v xs := h.2.1
theorem PKeep.below {B : Nat} {w W : World} {v : Value} {xs : List PoS.Rl} (h : PKeep B w v xs W) : Below w.heap.size w W := h.1
theorem PKeep.drew {B : Nat} {w W : World} {v : Value} {xs : List PoS.Rl} (h : PKeep B w v xs W) : PKeep B w v xs W.drew := ⟨h.1.drew, h.2.1, h.2.2.drew⟩
theorem small_of {xs : List PoS.Rl} (h : xs.length ≤ 100 ∧ ∀ r ∈ xs, r.who.length ≤ 3000 ∧ r.target.length ≤ 3000 ∧ r.attr.length ≤ 3000) : xs.length ≤ 1000000 ∧ ∀ r ∈ xs, SmallR r :=
  ⟨by omega, fun r hr => by obtain ⟨a, b, c⟩ := h.2 r hr; exact ⟨by omega, by omega, by omega⟩⟩
end Go.Proofs.YtdcljilfnkmloaaGreatDoor
