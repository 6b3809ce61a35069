/- The walks of sums, products and norms of numbers. Conditions: the parts are whole numbers up to a million. -/
import Derived.Test.YtffgicppidgcpaaDoorPhc
import Derived.Laws.ComplexArith
namespace Go.Proofs.YtffgicppidgcpaaDoor
open Go.RowKit

theorem okB_off {n : Int} (h : n.natAbs < 2 ^ 53) (h1 : 1000000 < n.natAbs) : okB (Fl.D n) = false := by
  unfold okB Fl.numOf
  rw [Fl.toInt_val (Fl.read_D n h).val]
  simp only
  rw [if_neg (by omega)]
  rfl
theorem okB_inR {n m : Int} (hn : n.natAbs < 2 ^ 53) (hm : m.natAbs < 2 ^ 53) : (okB (Fl.D n) && okB (Fl.D m)) = PhS.inR n m := by
  by_cases h1 : n.natAbs ≤ 1000000
  · by_cases h2 : m.natAbs ≤ 1000000
    · rw [okB_D h1, okB_D h2]
      exact (decide_eq_true (show n.natAbs ≤ 1000000 ∧ m.natAbs ≤ 1000000 from ⟨h1, h2⟩)).symm
    · rw [okB_off hm (by omega), Bool.and_false]
      exact (decide_eq_false (show ¬ (n.natAbs ≤ 1000000 ∧ m.natAbs ≤ 1000000) from fun h => h2 h.2)).symm
  · rw [okB_off hn (by omega), Bool.false_and]
    exact (decide_eq_false (show ¬ (n.natAbs ≤ 1000000 ∧ m.natAbs ≤ 1000000) from fun h => h1 h.1)).symm

set_option maxRecDepth 100000 in
theorem positive_c (x y : Nat) (n m : Int) (hx : Fl.IsW x n) (hy : Fl.IsW y m) (hn : n.natAbs < 2 ^ 53) (hm : m.natAbs < 2 ^ 53) (w : World) :
    Calls Tryd.prog 66 #[.complex .f64 x y] w fun e w' => e = .returned (.complex .f64 (Fl.D n) (Fl.D m)) ∧ w = w' := by
  have e1 : floatBits .add .f64 x 0 = some (Fl.D n) := by have := Fl.add_nought hx hn; rw [Fl.D_zero] at this; exact this
  have e2 : floatBits .add .f64 y 0 = some (Fl.D m) := by have := Fl.add_nought hy hm; rw [Fl.D_zero] at this; exact this
  have r1 := fun w => run_float_arith (P := Tryd.prog) w .add 22 .f64 x 0 (Fl.D n) e1
  have r2 := fun w => run_float_arith (P := Tryd.prog) w .add 22 .f64 y 0 (Fl.D m) e2
  clear e1 e2 hn hm hx hy
  go_enter Tryd.func66, Tryd.ntmps66
  go_wp2_with fail
  go_ret
  exact ⟨rfl, rfl⟩

def Reckoned (n m : Int) (w : World) (e : Ending) (w' : World) : Prop :=
  e = .returned (if PhS.inR n m = true then .tuple #[.complex .f64 (Fl.D n) (Fl.D m), .int .i64 0] else .tuple #[.complex .f64 0 0, .int .i64 3]) ∧ Below w.heap.size w w'

set_option maxRecDepth 100000 in
theorem checked_c (a b c d : Int) (h1 : PhS.inR a b = true) (h2 : PhS.inR c d = true) (x y : Nat) (n m : Int) (hx : Fl.IsW x n) (hy : Fl.IsW y m) (hn : n.natAbs < 2 ^ 53) (hm : m.natAbs < 2 ^ 53) (w : World) :
    Calls Tryd.prog 42 #[.complex .f64 (Fl.D a) (Fl.D b), .complex .f64 (Fl.D c) (Fl.D d), .complex .f64 x y] w (Reckoned n m w) := by
  have hr1 : a.natAbs ≤ 1000000 ∧ b.natAbs ≤ 1000000 := of_decide_eq_true h1
  have hr2 : c.natAbs ≤ 1000000 ∧ d.natAbs ≤ 1000000 := of_decide_eq_true h2
  have f1 := fun w => formed_c (Fl.D a) (Fl.D b) (wd_D (by omega)) (wd_D (by omega)) w
  have f2 := fun w => formed_c (Fl.D c) (Fl.D d) (wd_D (by omega)) (wd_D (by omega)) w
  have f3 := fun w => formed_c (Fl.D n) (Fl.D m) (wd_D hn) (wd_D hm) w
  rw [okB_inR (by omega) (by omega), h1] at f1
  rw [okB_inR (by omega) (by omega), h2] at f2
  rw [okB_inR hn hm] at f3
  have p := fun w => positive_c x y n m hx hy hn hm w
  clear hr1 hr2 h1 h2
  cases hin : PhS.inR n m with
  | true =>
    rw [hin] at f3
    have HIN := Lib.hid hin
    clear hin
    go_enter Tryd.func42, Tryd.ntmps42
    go_wp2_with fail
    refine (f1 _).mono ?_; rintro e w1 ⟨rfl, hb1⟩
    go_wp2_with fail
    refine (f2 _).mono ?_; rintro e w2 ⟨rfl, hb2⟩
    go_wp2_with fail
    refine (p _).mono ?_; rintro e w3 ⟨rfl, rfl⟩
    go_wp2_with fail
    refine (f3 _).mono ?_; rintro e w4 ⟨rfl, hb4⟩
    go_wp2_with fail
    go_ret2
    exact ⟨by rw [HIN.out, if_pos rfl]; rfl, below_trans hb1 (below_trans hb2 hb4)⟩
  | false =>
    rw [hin] at f3
    have HIN := Lib.hid hin
    clear hin
    go_enter Tryd.func42, Tryd.ntmps42
    go_wp2_with fail
    refine (f1 _).mono ?_; rintro e w1 ⟨rfl, hb1⟩
    go_wp2_with fail
    refine (f2 _).mono ?_; rintro e w2 ⟨rfl, hb2⟩
    go_wp2_with fail
    refine (p _).mono ?_; rintro e w3 ⟨rfl, rfl⟩
    go_wp2_with fail
    refine (f3 _).mono ?_; rintro e w4 ⟨rfl, hb4⟩
    go_wp2_with fail
    go_ret2
    exact ⟨by rw [HIN.out, if_neg (by decide)]; rfl, below_trans hb1 (below_trans hb2 hb4)⟩

set_option maxRecDepth 100000 in
theorem add_c (a b c d : Int) (h1 : PhS.inR a b = true) (h2 : PhS.inR c d = true) (w : World) :
    Calls Tryd.prog 19 #[.complex .f64 (Fl.D a) (Fl.D b), .complex .f64 (Fl.D c) (Fl.D d)] w (Reckoned (a + c) (b + d) w) := by
  have hr1 : a.natAbs ≤ 1000000 ∧ b.natAbs ≤ 1000000 := of_decide_eq_true h1
  have hr2 : c.natAbs ≤ 1000000 ∧ d.natAbs ≤ 1000000 := of_decide_eq_true h2
  obtain ⟨x, ex, wx⟩ := Fl.add_W (Fl.isW_D a) (Fl.isW_D c) (by omega) (by omega) (by omega)
  obtain ⟨y, ey, wy⟩ := Fl.add_W (Fl.isW_D b) (Fl.isW_D d) (by omega) (by omega) (by omega)
  have es : cSumBits .add .f64 (Fl.D a) (Fl.D b) (Fl.D c) (Fl.D d) = some (x, y) := by
    unfold cSumBits
    have e1 : floatBits .add .f64 (Fl.D a) (Fl.D c) = some x := ex
    have e2 : floatBits .add .f64 (Fl.D b) (Fl.D d) = some y := ey
    rw [e1, e2]; rfl
  have r := fun w => run_complex_sum (P := Tryd.prog) w .add (.inl rfl) 24 .f64 _ _ _ _ x y es
  have ck := fun w => checked_c a b c d h1 h2 x y (a + c) (b + d) wx wy (by omega) (by omega) w
  clear ex ey es hr1 hr2 h1 h2 wx wy
  cases hin : PhS.inR (a + c) (b + d) with
  | true =>
    unfold Reckoned at ck
    simp only [hin, if_true] at ck
    have HIN := Lib.hid hin
    clear hin
    go_enter Tryd.func19, Tryd.ntmps19
    go_wp2_with fail
    refine (ck _).mono ?_; rintro e w1 ⟨rfl, hb⟩
    go_wp2_with fail
    go_ret2
    exact ⟨by rw [HIN.out, if_pos rfl]; rfl, hb⟩
  | false =>
    unfold Reckoned at ck
    simp only [hin, Bool.false_eq_true, if_false] at ck
    have HIN := Lib.hid hin
    clear hin
    go_enter Tryd.func19, Tryd.ntmps19
    go_wp2_with fail
    refine (ck _).mono ?_; rintro e w1 ⟨rfl, hb⟩
    go_wp2_with fail
    go_ret2
    exact ⟨by rw [HIN.out, if_neg (by decide)]; rfl, hb⟩

theorem mul_le {a c : Int} (ha : a.natAbs ≤ 1000000) (hc : c.natAbs ≤ 1000000) : (a * c).natAbs ≤ 1000000000000 := by
  rw [Int.natAbs_mul]
  exact Nat.mul_le_mul ha hc

set_option maxRecDepth 100000 in
theorem mul_c (a b c d : Int) (h1 : PhS.inR a b = true) (h2 : PhS.inR c d = true) (w : World) :
    Calls Tryd.prog 20 #[.complex .f64 (Fl.D a) (Fl.D b), .complex .f64 (Fl.D c) (Fl.D d)] w (Reckoned (a * c - b * d) (a * d + b * c) w) := by
  have hr1 : a.natAbs ≤ 1000000 ∧ b.natAbs ≤ 1000000 := of_decide_eq_true h1
  have hr2 : c.natAbs ≤ 1000000 ∧ d.natAbs ≤ 1000000 := of_decide_eq_true h2
  have m1 := mul_le hr1.1 hr2.1
  have m2 := mul_le hr1.2 hr2.2
  have m3 := mul_le hr1.1 hr2.2
  have m4 := mul_le hr1.2 hr2.1
  obtain ⟨x1, e1, w1⟩ := Fl.mul_W (Fl.isW_D a) (Fl.isW_D c) (by omega) (by omega) (by omega)
  obtain ⟨x2, e2, w2⟩ := Fl.mul_W (Fl.isW_D b) (Fl.isW_D d) (by omega) (by omega) (by omega)
  obtain ⟨x3, e3, w3⟩ := Fl.mul_W (Fl.isW_D a) (Fl.isW_D d) (by omega) (by omega) (by omega)
  obtain ⟨x4, e4, w4⟩ := Fl.mul_W (Fl.isW_D b) (Fl.isW_D c) (by omega) (by omega) (by omega)
  have g1 : (a * c - b * d).natAbs < 2 ^ 53 := by omega
  have g2 : (a * d + b * c).natAbs < 2 ^ 53 := by omega
  obtain ⟨x, ex, wx⟩ := Fl.sub_W w1 w2 (by omega) (by omega) g1
  obtain ⟨y, ey, wy⟩ := Fl.add_W w3 w4 (by omega) (by omega) g2
  have es : cMulBits (Fl.D a) (Fl.D b) (Fl.D c) (Fl.D d) = some (x, y) := by
    unfold cMulBits
    have q1 : floatBits .mul .f64 (Fl.D a) (Fl.D c) = some x1 := e1
    have q2 : floatBits .mul .f64 (Fl.D b) (Fl.D d) = some x2 := e2
    have q3 : floatBits .mul .f64 (Fl.D a) (Fl.D d) = some x3 := e3
    have q4 : floatBits .mul .f64 (Fl.D b) (Fl.D c) = some x4 := e4
    have q5 : floatBits .sub .f64 x1 x2 = some x := ex
    have q6 : floatBits .add .f64 x3 x4 = some y := ey
    simp only [q1, q2, q3, q4, q5, q6, Option.bind_some]
  have r := fun w => run_complex_mul (P := Tryd.prog) w 24 _ _ _ _ x y es
  have ck := fun w => checked_c a b c d h1 h2 x y (a * c - b * d) (a * d + b * c) wx wy g1 g2 w
  clear ex ey es hr1 hr2 h1 h2 wx wy w1 w2 w3 w4 e1 e2 e3 e4 m1 m2 m3 m4 g1 g2
  cases hin : PhS.inR (a * c - b * d) (a * d + b * c) with
  | true =>
    unfold Reckoned at ck
    simp only [hin, if_true] at ck
    have HIN := Lib.hid hin
    clear hin
    go_enter Tryd.func20, Tryd.ntmps20
    go_wp2_with fail
    refine (ck _).mono ?_; rintro e w1 ⟨rfl, hb⟩
    go_wp2_with fail
    go_ret2
    exact ⟨by rw [HIN.out, if_pos rfl]; rfl, hb⟩
  | false =>
    unfold Reckoned at ck
    simp only [hin, Bool.false_eq_true, if_false] at ck
    have HIN := Lib.hid hin
    clear hin
    go_enter Tryd.func20, Tryd.ntmps20
    go_wp2_with fail
    refine (ck _).mono ?_; rintro e w1 ⟨rfl, hb⟩
    go_wp2_with fail
    go_ret2
    exact ⟨by rw [HIN.out, if_neg (by decide)]; rfl, hb⟩

set_option maxRecDepth 100000 in
theorem norm_c (a b : Int) (h : PhS.inR a b = true) (w : World) :
    Calls Tryd.prog 23 #[.complex .f64 (Fl.D a) (Fl.D b)] w fun e w' => e = .returned (.int .i64 (a * a + b * b)) ∧ Below w.heap.size w w' := by
  have hr : a.natAbs ≤ 1000000 ∧ b.natAbs ≤ 1000000 := of_decide_eq_true h
  have f := fun w => formed_c (Fl.D a) (Fl.D b) (wd_D (by omega)) (wd_D (by omega)) w
  rw [okB_inR (by omega) (by omega), h] at f
  have c1 := fun w => run_convert_float_int (P := Tryd.prog) w 22 2 .f64 .i64 (Fl.D a) a (by kernel_rfl) Tryd.underlying2 (toInt_D hr.1)
  have c2 := fun w => run_convert_float_int (P := Tryd.prog) w 22 2 .f64 .i64 (Fl.D b) b (by kernel_rfl) Tryd.underlying2 (toInt_D hr.2)
  have m1 := mul_le hr.1 hr.1
  have m2 := mul_le hr.2 hr.2
  have p1 : IntKind.i64.wrap (a * a) = a * a := Go.IntWalk.i64_in _ (by omega)
  have p2 : IntKind.i64.wrap (b * b) = b * b := Go.IntWalk.i64_in _ (by omega)
  have p3 : IntKind.i64.wrap (a * a + b * b) = a * a + b * b := Go.IntWalk.i64_in _ (by omega)
  clear h hr
  go_enter Tryd.func23, Tryd.ntmps23
  go_wp2_with fail
  refine (f _).mono ?_; rintro e w1 ⟨rfl, hb1⟩
  go_wp2_with fail
  go_ret
  exact ⟨by go_num, hb1⟩
end Go.Proofs.YtffgicppidgcpaaDoor
