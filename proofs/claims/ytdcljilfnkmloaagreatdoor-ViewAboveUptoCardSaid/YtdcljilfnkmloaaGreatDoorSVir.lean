/- The walk of the law ViewRestricts. Conditions: the entries that come in are of bulk at most 1048576; the library's variables are laid. -/
import Derived.Test.YtdcljilfnkmloaaGreatDoorSVig
namespace Go.Proofs.YtdcljilfnkmloaaGreatDoor
open Go.RowKit

theorem ens_base {w : World} {g o : Nat} {x : EnS.En} (Ts : List TypeId) (h : EnAt (fun _ => True) w g o x) (_hg : g < w.heap.size) : w.cell? ⟨g, o, none⟩ = some (.string ⟨x.name.toArray⟩) ∧ ∃ a c, w.cell? ⟨g, o + 1, none⟩ = some (.slice a x.attrs.length c) ∧ x.attrs.length ≤ c ∧ AttrsP (okT Ts w.heap.size w) w (.slice a x.attrs.length c) x.attrs := by
  obtain ⟨h1, a, c, h2, h3, h4⟩ := EnAt.parts h
  exact ⟨h1, a, c, h2, h3, AttrsP.base h4 Ts⟩
end Go.Proofs.YtdcljilfnkmloaaGreatDoor
