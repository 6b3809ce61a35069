/- The walk of the program's write: a filter's text in a builder. Conditions: as stated. -/
import Derived.Test.YtjmfknfponjgkaaGreatDoorJFif
import Derived.Test.YtjmfknfponjgkaaGreatDoorJFii
namespace Go.Proofs.YtjmfknfponjgkaaGreatDoor
open Go.RowKit
open FiS (Fi)
attribute [local go_sem ↓] Go.wp_at_zero Go.wp_at_succ
theorem FiV.partsO {n : Nat} {ok : Nat -> Prop} {w : World} {v : Value} {x : Fi} (h : FiV n ok w v x) : ∃ a5 c5 a6 c6, v = .agg #[.int .i64 x.kind, .string ⟨x.attr.toArray⟩, .string ⟨x.value.toArray⟩, .string ⟨x.first.toArray⟩, .string ⟨x.last.toArray⟩, .slice a5 x.any.length c5, .slice a6 x.parts.length c6] /\ StrsP ok w (.slice a5 x.any.length c5) x.any /\ x.parts.length <= c6 /\ FisP n ok w (.slice a6 x.parts.length c6) x.parts := by
 obtain ⟨ua, up, rfl, h1, h2⟩ := h
 obtain ⟨a5, c5, rfl, _⟩ := SliceP.form h1
 obtain ⟨a6, c6, rfl, hc⟩ := SliceP.form h2
 exact ⟨a5, c5, a6, c6, rfl, h1, hc, h2⟩
end Go.Proofs.YtjmfknfponjgkaaGreatDoor
