/- The walk of the law ViewSees. Conditions: the entries that come in are of bulk at most 1048576; the library's variables are laid. The law ViewSees, as its row asks it. Conditions: those that it states; the library's variables are laid. -/
import Derived.Test.YtdcljilfnkmloaaGreatDoorSVif
import Derived.Test.YtdcljilfnkmloaaGreatDoorSTai
import Derived.Test.YtdcljilfnkmloaaGreatDoorSRwe
namespace Go.Proofs.YtdcljilfnkmloaaGreatDoor
open Go.RowKit
attribute [local go_sem ↓] Go.wp_at_zero Go.wp_at_succ

theorem ofV_fit {rl : List PoS.Rl} {subject : List UInt8} {xs : List EnS.En} (h : FitE xs) : FitE (EnS.ofV rl subject xs) := by
  refine ⟨Nat.le_trans (EnS.ofV_len rl subject xs) h.1, fun x hx => ?_⟩
  obtain ⟨e, he, _, _, rfl⟩ := EnS.ofV_mem.1 hx
  obtain ⟨h1, h2⟩ := h.2 e he
  exact ⟨h1, FitA.filter h2 _⟩
def nmO (o : Option EnS.En) : List UInt8 := match o with | none => [] | some x => x.name
def atO (o : Option EnS.En) : List EnS.At := match o with | none => [] | some x => x.attrs
/-- an entry and whether it is one -/
def OneAll (C : Nat) (o : Option EnS.En) (w : World) (e : Ending) (w' : World) : Prop := ∃ a c, e = .returned (.tuple #[.agg #[.string ⟨(nmO o).toArray⟩, .slice a (atO o).length c], .bool o.isSome]) ∧ OwnK atK 51 [9] C w' w.heap.size (.slice a (atO o).length c) (atO o) ∧ Below w.heap.size w w'
theorem OneRet.all {C : Nat} {o : Option EnS.En} {w w' : World} {e : Ending} (h : OneRet C o w e w') : OneAll C o w e w' := by
  rcases h with ⟨x, rfl, u, rfl, hown, hb⟩ | ⟨rfl, rfl, hb⟩
  · obtain ⟨a, c, rfl⟩ := hown.form
    exact ⟨a, c, rfl, hown, hb⟩
  · exact ⟨none, 0, rfl, OwnK.empty _ _ _ _ _ _, hb⟩
end Go.Proofs.YtdcljilfnkmloaaGreatDoor
namespace Go.Proofs.YtdcljilfnkmloaaGreatDoor
open Go.RowKit

theorem typs_of {xs : List EnS.En} (h : ∀ x ∈ xs, EnOf 1048576 x) : TypsE xs := fun x hx a ha => ((h x hx).2.2 a ha).1
end Go.Proofs.YtdcljilfnkmloaaGreatDoor
