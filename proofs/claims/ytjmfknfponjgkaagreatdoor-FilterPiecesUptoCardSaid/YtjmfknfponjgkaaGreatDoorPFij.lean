/- The walk of a filter's text, the document's. Conditions: the text is at most 500000000 bytes. -/
import Derived.Test.YtjmfknfponjgkaaGreatDoorPFie
import Derived.Test.YtjmfknfponjgkaaGreatDoorPFii
namespace Go.Proofs.YtjmfknfponjgkaaGreatDoor
open Go.RowKit
open FiS (Fi)
attribute [local go_sem ↓] Go.wp_at_zero Go.wp_at_succ
/-- two texts, one behind the other -/
theorem cat3 (x y : List UInt8) (h : x.length + y.length ≤ 1000000000) : ∃ z, z = x ++ y ∧ (∀ w, (Op.stringOp .add ⟨x.toArray⟩ ⟨y.toArray⟩).run Tryz.prog w = .ok (.string ⟨z.toArray⟩) w) ∧ (⟨x.toArray⟩ ++ ⟨y.toArray⟩ : ByteArray) = ⟨z.toArray⟩ := by
  refine ⟨x ++ y, rfl, fun w => ?_, mk_app x y⟩
  rw [← mk_app]
  exact run_string_add_sum w _ _ (by show x.toArray.size + y.toArray.size ≤ _; simp; omega)

end Go.Proofs.YtjmfknfponjgkaaGreatDoor
