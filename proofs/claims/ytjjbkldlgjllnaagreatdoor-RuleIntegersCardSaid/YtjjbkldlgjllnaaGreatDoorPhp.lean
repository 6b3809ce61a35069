/- The walks of the comparison of two numbers, the program's and the document's. Conditions: the words fit. -/
import Derived.Test.YtjjbkldlgjllnaaGreatDoorPho
namespace Go.Proofs.YtjjbkldlgjllnaaGreatDoor
open Go.RowKit

/-- the document's comparison -/
def cmpP (a b c d : Int) : Int := orI (cmpI (a * a + b * b) (c * c + d * d)) (cmpI a c) (cmpI b d)

set_option maxRecDepth 100000 in
theorem compare_c (a b c d : Int) (h1 : PhS.inR a b = true) (h2 : PhS.inR c d = true) (w : World) :
    Calls Tryz.prog 83 #[.complex .f64 (Fl.D a) (Fl.D b), .complex .f64 (Fl.D c) (Fl.D d)] w fun e w' => e = .returned (.int .i64 (cmpP a b c d)) ∧ Below w.heap.size w w' := by
  have hr1 : a.natAbs ≤ 1000000 ∧ b.natAbs ≤ 1000000 := of_decide_eq_true h1
  have hr2 : c.natAbs ≤ 1000000 ∧ d.natAbs ≤ 1000000 := of_decide_eq_true h2
  have f1 := fun w => formed_c (Fl.D a) (Fl.D b) (wd_D (by omega)) (wd_D (by omega)) w
  have f2 := fun w => formed_c (Fl.D c) (Fl.D d) (wd_D (by omega)) (wd_D (by omega)) w
  rw [okB_inR (by omega) (by omega), h1] at f1
  rw [okB_inR (by omega) (by omega), h2] at f2
  have n1 := norm_c a b h1
  have n2 := norm_c c d h2
  have k1 := cmpFl_c a c hr1.1 hr2.1
  have k2 := cmpFl_c b d hr1.2 hr2.2
  have k0 := cmpInt_c (a * a + b * b) (c * c + d * d)
  have HP : Hid (cmpP a b c d = orI (cmpI (a * a + b * b) (c * c + d * d)) (cmpI a c) (cmpI b d)) := Lib.hid rfl
  generalize cmpI (a * a + b * b) (c * c + d * d) = q0 at *
  generalize a * a + b * b = m1 at *
  generalize c * c + d * d = m2 at *
  generalize cmpI a c = q1 at *
  generalize cmpI b d = q2 at *
  clear h1 h2 hr1 hr2
  go_enter Tryz.func83, Tryz.ntmps83
  go_wp2_with fail
  refine (f1 _).mono ?_; rintro e w1 ⟨rfl, hb1⟩
  go_wp2_with fail
  refine (f2 _).mono ?_; rintro e w2 ⟨rfl, hb2⟩
  go_wp2_with fail
  refine (n1 _).mono ?_; rintro e w3 ⟨rfl, hb3⟩
  go_wp2_with fail
  refine (n2 _).mono ?_; rintro e w4 ⟨rfl, hb4⟩
  go_wp2_with fail
  refine (k0 _).mono ?_; rintro e w5 ⟨rfl, rfl⟩
  go_wp2_with fail
  refine (k1 _).mono ?_; rintro e w6 ⟨rfl, rfl⟩
  go_wp2_with fail
  refine (k2 _).mono ?_; rintro e w7 ⟨rfl, rfl⟩
  go_wp2_with fail
  refine (or_c q0 q1 q2 _ _ (by go_simp) (by go_simp) (by go_simp)).mono ?_; rintro e w8 ⟨rfl, rfl⟩
  go_wp2_with fail
  go_ret
  exact ⟨by rw [HP.out]; rfl, below_alloc (below_trans hb1 (below_trans hb2 (below_trans hb3 hb4))) _⟩

set_option maxRecDepth 100000 in
theorem compare_no (a b c d : Nat) (ha : Wd a) (hb : Wd b) (hc : Wd c) (hd : Wd d) (h : ((okB a && okB b) && (okB c && okB d)) = false) (w : World) :
    Calls Tryz.prog 83 #[.complex .f64 a b, .complex .f64 c d] w fun e w' => e = .returned (.int .i64 0) ∧ Below w.heap.size w w' := by
  have f1 := fun w => formed_c a b ha hb w
  have f2 := fun w => formed_c c d hc hd w
  cases h1 : (okB a && okB b) with
  | false =>
    rw [h1] at f1
    clear h h1
    go_enter Tryz.func83, Tryz.ntmps83
    go_wp2_with fail
    refine (f1 _).mono ?_; rintro e w1 ⟨rfl, hb1⟩
    go_wp2_with fail
    go_ret
    exact ⟨rfl, hb1⟩
  | true =>
    rw [h1, Bool.true_and] at h
    rw [h1] at f1
    rw [h] at f2
    clear h h1
    go_enter Tryz.func83, Tryz.ntmps83
    go_wp2_with fail
    refine (f1 _).mono ?_; rintro e w1 ⟨rfl, hb1⟩
    go_wp2_with fail
    refine (f2 _).mono ?_; rintro e w2 ⟨rfl, hb2⟩
    go_wp2_with fail
    go_ret
    exact ⟨rfl, below_trans hb1 hb2⟩

set_option maxRecDepth 100000 in
theorem norm_no (a b : Nat) (ha : Wd a) (hb : Wd b) (h : (okB a && okB b) = false) (w : World) :
    Calls Tryz.prog 78 #[.complex .f64 a b] w fun e w' => e = .returned (.int .i64 (-1)) ∧ Below w.heap.size w w' := by
  have f1 := fun w => formed_c a b ha hb w
  rw [h] at f1
  clear h
  go_enter Tryz.func78, Tryz.ntmps78
  go_wp2_with fail
  refine (f1 _).mono ?_; rintro e w1 ⟨rfl, hb1⟩
  go_wp2_with fail
  go_ret
  exact ⟨rfl, hb1⟩
end Go.Proofs.YtjjbkldlgjllnaaGreatDoor
