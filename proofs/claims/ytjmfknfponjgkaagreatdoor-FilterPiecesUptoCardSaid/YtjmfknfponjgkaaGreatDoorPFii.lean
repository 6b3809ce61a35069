/- The walks of how a filter's value is written: the document's escaped; sign, both. Conditions: at most 20000 bytes. -/
import Derived.Test.YtjmfknfponjgkaaGreatDoorPFih
import Derived.Test.YtjmfknfponjgkaaGreatDoorPRdo
namespace Go.Proofs.YtjmfknfponjgkaaGreatDoor
open Go.RowKit
open FiS (Fi)
attribute [local go_sem ↓] Go.wp_at_zero Go.wp_at_succ

set_option maxRecDepth 100000 in
theorem sign_c (k : Int) (w : World) : Calls Tryz.prog 44 #[.int .i64 k] w fun e w' => e = .returned (.string ⟨(FiS.signS k).toArray⟩) ∧ w = w' := by
  by_cases h5 : k = 5
  · subst h5
    go_enter Tryz.func44, Tryz.ntmps44
    go_wp2_with fail
    go_ret
    exact ⟨rfl, rfl⟩
  by_cases h6 : k = 6
  · subst h6
    go_enter Tryz.func44, Tryz.ntmps44
    go_wp2_with fail
    go_ret
    exact ⟨rfl, rfl⟩
  by_cases h8 : k = 8
  · subst h8
    go_enter Tryz.func44, Tryz.ntmps44
    go_wp2_with fail
    go_ret
    exact ⟨rfl, rfl⟩
  have e : FiS.signS k = [61] := by unfold FiS.signS; rw [if_neg h5, if_neg h6, if_neg h8]
  rw [e]
  have g5 : (k == 5) = false := by simpa using h5
  have g6 : (k == 6) = false := by simpa using h6
  have g8 : (k == 8) = false := by simpa using h8
  clear e
  go_enter Tryz.func44, Tryz.ntmps44
  go_wp2_with fail
  go_ret
  exact ⟨rfl, rfl⟩
end Go.Proofs.YtjmfknfponjgkaaGreatDoor
