/- The walk of the norm of a number. Conditions: the parts are whole numbers up to a million. -/
import Derived.Test.YtjjbkldlgjllnaaGreatDoorPhc
import Derived.Laws.ComplexArith
namespace Go.Proofs.YtjjbkldlgjllnaaGreatDoor
open Go.RowKit

theorem okB_off {n : Int} (h : n.natAbs < 2 ^ 53) (h1 : 1000000 < n.natAbs) : okB (Fl.D n) = false := by
  unfold okB Fl.numOf
  rw [Fl.toInt_val (Fl.read_D n h).val]
  simp only
  rw [if_neg (by omega)]
  rfl
theorem okB_inR {n m : Int} (hn : n.natAbs < 2 ^ 53) (hm : m.natAbs < 2 ^ 53) : (okB (Fl.D n) && okB (Fl.D m)) = PhS.inR n m := by
  by_cases h1 : n.natAbs ≤ 1000000
  · by_cases h2 : m.natAbs ≤ 1000000
    · rw [okB_D h1, okB_D h2]
      exact (decide_eq_true (show n.natAbs ≤ 1000000 ∧ m.natAbs ≤ 1000000 from ⟨h1, h2⟩)).symm
    · rw [okB_off hm (by omega), Bool.and_false]
      exact (decide_eq_false (show ¬ (n.natAbs ≤ 1000000 ∧ m.natAbs ≤ 1000000) from fun h => h2 h.2)).symm
  · rw [okB_off hn (by omega), Bool.false_and]
    exact (decide_eq_false (show ¬ (n.natAbs ≤ 1000000 ∧ m.natAbs ≤ 1000000) from fun h => h1 h.1)).symm

theorem mul_le {a c : Int} (ha : a.natAbs ≤ 1000000) (hc : c.natAbs ≤ 1000000) : (a * c).natAbs ≤ 1000000000000 := by
  rw [Int.natAbs_mul]
  exact Nat.mul_le_mul ha hc

set_option maxRecDepth 100000 in
theorem norm_c (a b : Int) (h : PhS.inR a b = true) (w : World) :
    Calls Tryz.prog 78 #[.complex .f64 (Fl.D a) (Fl.D b)] w fun e w' => e = .returned (.int .i64 (a * a + b * b)) ∧ Below w.heap.size w w' := by
  have hr : a.natAbs ≤ 1000000 ∧ b.natAbs ≤ 1000000 := of_decide_eq_true h
  have f := fun w => formed_c (Fl.D a) (Fl.D b) (wd_D (by omega)) (wd_D (by omega)) w
  rw [okB_inR (by omega) (by omega), h] at f
  have c1 := fun w => run_convert_float_int (P := Tryz.prog) w 137 2 .f64 .i64 (Fl.D a) a (by kernel_rfl) Tryz.underlying2 (toInt_D hr.1)
  have c2 := fun w => run_convert_float_int (P := Tryz.prog) w 137 2 .f64 .i64 (Fl.D b) b (by kernel_rfl) Tryz.underlying2 (toInt_D hr.2)
  have m1 := mul_le hr.1 hr.1
  have m2 := mul_le hr.2 hr.2
  have p1 : IntKind.i64.wrap (a * a) = a * a := Go.IntWalk.i64_in _ (by omega)
  have p2 : IntKind.i64.wrap (b * b) = b * b := Go.IntWalk.i64_in _ (by omega)
  have p3 : IntKind.i64.wrap (a * a + b * b) = a * a + b * b := Go.IntWalk.i64_in _ (by omega)
  clear h hr
  go_enter Tryz.func78, Tryz.ntmps78
  go_wp2_with fail
  refine (f _).mono ?_; rintro e w1 ⟨rfl, hb1⟩
  go_wp2_with fail
  go_ret
  exact ⟨by go_num, hb1⟩
end Go.Proofs.YtjjbkldlgjllnaaGreatDoor
