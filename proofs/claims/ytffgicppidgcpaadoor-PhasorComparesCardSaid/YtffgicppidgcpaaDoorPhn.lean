/- The walks of sums and products where one of the numbers is none of the document's. Conditions: the parts' words fit. -/
import Derived.Test.YtffgicppidgcpaaDoorPhl
namespace Go.Proofs.YtffgicppidgcpaaDoor
open Go.RowKit

theorem nan_any {P : Program} (w : World) (q : Question) : ∃ n k, (choose q).run P w = .ok n (w.drewN k) := by
  rw [run_choose_drew]
  split
  · exact ⟨0, 0, rfl⟩
  · exact ⟨_, 1, rfl⟩

theorem arith_any {P : Program} (w : World) (op : BinOp) (hop : op = .add ∨ op = .sub ∨ op = .mul) (x y : Nat) : ∃ r k, (Op.Complex.arith op .f64 x y).run P w = .ok r (w.drewN k) := by
  cases h : floatBits op .f64 x y with
  | some r => exact ⟨r, 0, run_carith w h⟩
  | none =>
    obtain ⟨n, k, hn⟩ := nan_any (P := P) w (.nanBits .f64 x y)
    refine ⟨n, k, ?_⟩
    unfold floatBits at h
    rcases hop with rfl | rfl | rfl <;> simp only at h <;> rw [run_choose_drew] at hn <;> simpa [Op.Complex.arith, Op.floatArith, h] using hn

theorem drewN_drewN (w : World) (a b : Nat) : (w.drewN a).drewN b = w.drewN (a + b) := by
  simp [World.drewN, Nat.add_assoc]

theorem sum_any {P : Program} (w : World) (t : TypeId) (a b c d : Nat) : ∃ re im k, (binOp .add t (.complex .f64 a b) (.complex .f64 c d)).run P w = .ok (.complex .f64 re im) (w.drewN k) := by
  obtain ⟨x, k1, h1⟩ := arith_any (P := P) w .add (.inl rfl) a c
  obtain ⟨y, k2, h2⟩ := arith_any (P := P) (w.drewN k1) .add (.inl rfl) b d
  refine ⟨x, y, k1 + k2, ?_⟩
  simp [binOp, Op.complexOp, h1, h2]

theorem mul_any {P : Program} (w : World) (t : TypeId) (a b c d : Nat) : ∃ re im k, (binOp .mul t (.complex .f64 a b) (.complex .f64 c d)).run P w = .ok (.complex .f64 re im) (w.drewN k) := by
  obtain ⟨x1, k1, h1⟩ := arith_any (P := P) w .mul (.inr (.inr rfl)) a c
  obtain ⟨x2, k2, h2⟩ := arith_any (P := P) (w.drewN k1) .mul (.inr (.inr rfl)) b d
  rw [drewN_drewN] at h2
  obtain ⟨x, k3, h3⟩ := arith_any (P := P) (w.drewN (k1 + k2)) .sub (.inr (.inl rfl)) x1 x2
  rw [drewN_drewN] at h3
  obtain ⟨x3, k4, h4⟩ := arith_any (P := P) (w.drewN (k1 + k2 + k3)) .mul (.inr (.inr rfl)) a d
  rw [drewN_drewN] at h4
  obtain ⟨x4, k5, h5⟩ := arith_any (P := P) (w.drewN (k1 + k2 + k3 + k4)) .mul (.inr (.inr rfl)) b c
  rw [drewN_drewN] at h5
  obtain ⟨y, k6, h6⟩ := arith_any (P := P) (w.drewN (k1 + k2 + k3 + k4 + k5)) .add (.inl rfl) x3 x4
  rw [drewN_drewN] at h6
  refine ⟨x, y, k1 + k2 + k3 + k4 + k5 + k6, ?_⟩
  simp [binOp, Op.complexOp, Op.Complex.conv, Op.Complex.product, Op.Complex.mul, Op.Complex.sub, Op.Complex.add, h1, h2, h3, h4, h5, h6]

def Refused (w : World) (e : Ending) (w' : World) : Prop := e = .returned (.tuple #[.complex .f64 0 0, .int .i64 1]) ∧ Below w.heap.size w w'

set_option maxRecDepth 100000 in
theorem checked_no (a b c d x y : Nat) (ha : Wd a) (hb : Wd b) (hc : Wd c) (hd : Wd d) (h : ((okB a && okB b) && (okB c && okB d)) = false) (w : World) :
    Calls Tryd.prog 42 #[.complex .f64 a b, .complex .f64 c d, .complex .f64 x y] w (Refused w) := by
  have f1 := fun w => formed_c a b ha hb w
  have f2 := fun w => formed_c c d hc hd w
  cases h1 : (okB a && okB b) with
  | false =>
    rw [h1] at f1
    clear h h1
    go_enter Tryd.func42, Tryd.ntmps42
    go_wp2_with fail
    refine (f1 _).mono ?_; rintro e w1 ⟨rfl, hb1⟩
    go_wp2_with fail
    go_ret2
    exact ⟨rfl, hb1⟩
  | true =>
    rw [h1, Bool.true_and] at h
    rw [h1] at f1
    rw [h] at f2
    clear h h1
    go_enter Tryd.func42, Tryd.ntmps42
    go_wp2_with fail
    refine (f1 _).mono ?_; rintro e w1 ⟨rfl, hb1⟩
    go_wp2_with fail
    refine (f2 _).mono ?_; rintro e w2 ⟨rfl, hb2⟩
    go_wp2_with fail
    go_ret2
    exact ⟨rfl, below_trans hb1 hb2⟩

set_option maxRecDepth 100000 in
theorem add_no (a b c d : Nat) (ha : Wd a) (hb : Wd b) (hc : Wd c) (hd : Wd d) (h : ((okB a && okB b) && (okB c && okB d)) = false) (w : World) :
    Calls Tryd.prog 19 #[.complex .f64 a b, .complex .f64 c d] w (Refused w) := by
  have ck := fun x y w => checked_no a b c d x y ha hb hc hd h w
  obtain ⟨re, im, k, hr⟩ := sum_any (P := Tryd.prog) w 24 a b c d
  clear h
  go_enter Tryd.func19, Tryd.ntmps19
  go_wp2_with fail
  refine (ck _ _ _).mono ?_; rintro e w1 ⟨rfl, hb1⟩
  go_wp2_with fail
  go_ret2
  exact ⟨rfl, below_trans (below_drewN _ _) hb1⟩

set_option maxRecDepth 100000 in
theorem mul_no (a b c d : Nat) (ha : Wd a) (hb : Wd b) (hc : Wd c) (hd : Wd d) (h : ((okB a && okB b) && (okB c && okB d)) = false) (w : World) :
    Calls Tryd.prog 20 #[.complex .f64 a b, .complex .f64 c d] w (Refused w) := by
  have ck := fun x y w => checked_no a b c d x y ha hb hc hd h w
  obtain ⟨re, im, k, hr⟩ := mul_any (P := Tryd.prog) w 24 a b c d
  clear h
  go_enter Tryd.func20, Tryd.ntmps20
  go_wp2_with fail
  refine (ck _ _ _).mono ?_; rintro e w1 ⟨rfl, hb1⟩
  go_wp2_with fail
  go_ret2
  exact ⟨rfl, below_trans (below_drewN _ _) hb1⟩
end Go.Proofs.YtffgicppidgcpaaDoor
