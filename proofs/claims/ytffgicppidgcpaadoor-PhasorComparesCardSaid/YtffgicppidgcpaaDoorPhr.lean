/- The walk of the law of sums and products. Conditions: the words fit. -/
import Derived.Test.YtffgicppidgcpaaDoorPhq
import Derived.Test.YtffgicppidgcpaaDoorPhn
import Derived.Test.YtffgicppidgcpaaDoorPhj
namespace Go.Proofs.YtffgicppidgcpaaDoor
open Go.RowKit

/-- a sum's or a product's answer: the program's (two ways) and the document's are alike -/
def Alike (f h : FuncId) (a b c d : Int) (X Y : Nat) (E p q : Int) : Prop :=
  (∀ w, Calls Tryd.prog f #[.complex .f64 (Fl.D a) (Fl.D b), .complex .f64 (Fl.D c) (Fl.D d)] w fun e w' => e = .returned (.tuple #[.complex .f64 X Y, .int .i64 E]) ∧ Below w.heap.size w w') ∧
  (∀ w, Calls Tryd.prog f #[.complex .f64 (Fl.D c) (Fl.D d), .complex .f64 (Fl.D a) (Fl.D b)] w fun e w' => e = .returned (.tuple #[.complex .f64 X Y, .int .i64 E]) ∧ Below w.heap.size w w') ∧
  (∀ w, Calls Tryd.prog h #[.agg #[.int .i64 a, .int .i64 b], .agg #[.int .i64 c, .int .i64 d]] w fun e w' => e = .returned (.tuple #[.agg #[.int .i64 p, .int .i64 q], .int .i64 E]) ∧ Below w.heap.size w w') ∧
  p.natAbs < 2 ^ 53 ∧ q.natAbs < 2 ^ 53 ∧ cEq X Y p q = true ∧ (FloatKind.f64.format.order X X == some .eq) = true ∧ (FloatKind.f64.format.order Y Y == some .eq) = true

theorem alike_of {f h : FuncId} {a b c d n m : Int} (h1 : ∀ w, Calls Tryd.prog f #[.complex .f64 (Fl.D a) (Fl.D b), .complex .f64 (Fl.D c) (Fl.D d)] w (Reckoned n m w))
    (h2 : ∀ w, Calls Tryd.prog f #[.complex .f64 (Fl.D c) (Fl.D d), .complex .f64 (Fl.D a) (Fl.D b)] w (Reckoned n m w))
    (h3 : ∀ w, Calls Tryd.prog h #[.agg #[.int .i64 a, .int .i64 b], .agg #[.int .i64 c, .int .i64 d]] w (RefRet n m w)) : ∃ X Y E p q, Alike f h a b c d X Y E p q := by
  unfold Reckoned at h1 h2
  unfold RefRet at h3
  cases hin : PhS.inR n m with
  | true =>
    have hr : n.natAbs ≤ 1000000 ∧ m.natAbs ≤ 1000000 := of_decide_eq_true hin
    simp only [hin, if_true] at h1 h2 h3
    exact ⟨Fl.D n, Fl.D m, 0, n, m, h1, h2, h3, by omega, by omega, by unfold cEq; rw [eqB_D hr.1 hr.1, eqB_D hr.2 hr.2]; simp, by rw [eqB_D hr.1 hr.1]; simp, by rw [eqB_D hr.2 hr.2]; simp⟩
  | false =>
    simp only [hin, Bool.false_eq_true, if_false] at h1 h2 h3
    exact ⟨0, 0, 3, 0, 0, h1, h2, h3, by decide, by decide, by decide +kernel, by decide +kernel, by decide +kernel⟩

theorem keepC {w w' : World} {a : Addr} {v : Value} (h : w.cell? a = some v) (hb : Below w.heap.size w w') : w'.cell? a = some v := below_cell hb (Nat.le_refl _) h
theorem grow1 (w : World) (o : Obj) : Below w.heap.size w (w.alloc o) := (Below.refl _ _).alloc (Nat.le_refl _) o

theorem of_any (x y : Nat) (hx : Wd x) (hy : Wd y) : ∃ p q : Int, ∀ w, Calls Tryd.prog 12 #[.complex .f64 x y] w fun e w' => e = .returned (.tuple #[.agg #[.int .i64 p, .int .i64 q], .bool (okB x && okB y)]) ∧ Below w.heap.size w w' := by
  have hof := fun w => of_c x y hx hy w
  unfold OfRet at hof
  unfold okB
  cases h1 : Fl.numOf x with
  | none => rw [h1] at hof; exact ⟨0, 0, hof⟩
  | some a =>
    cases h2 : Fl.numOf y with
    | none => rw [h1, h2] at hof; exact ⟨0, 0, hof⟩
    | some b => rw [h1, h2] at hof; exact ⟨a, b, hof⟩

set_option maxRecDepth 100000 in
set_option maxHeartbeats 2000000 in
theorem reckons_yes (a b c d : Int) (i1 : PhS.inR a b = true) (i2 : PhS.inR c d = true) (w : World) (hE : Env w) :
    Calls Tryd.prog 6 #[.agg #[.float .f64 (Fl.D a), .float .f64 (Fl.D b), .float .f64 (Fl.D c), .float .f64 (Fl.D d)]] w (True_ w) := by
  have hr1 : a.natAbs ≤ 1000000 ∧ b.natAbs ≤ 1000000 := of_decide_eq_true i1
  have hr2 : c.natAbs ≤ 1000000 ∧ d.natAbs ≤ 1000000 := of_decide_eq_true i2
  obtain ⟨X, Y, E, p, q, s1, s2, s3, s4, s5, s6, s7, s8⟩ := alike_of (f := 19) (h := 21) (add_c a b c d i1 i2) (fun w => by have := add_c c d a b i2 i1 w; rw [Int.add_comm c a, Int.add_comm d b] at this; exact this) (refadd_c a b c d i1 i2)
  obtain ⟨X2, Y2, E2, p2, q2, t1, t2, t3, t4, t5, t6, t7, t8⟩ := alike_of (f := 20) (h := 22) (mul_c a b c d i1 i2) (fun w => by have := mul_c c d a b i2 i1 w; rw [Int.mul_comm c a, Int.mul_comm d b, Int.mul_comm c b, Int.mul_comm d a, Int.add_comm (b * c)] at this; exact this) (refmul_c a b c d i1 i2)
  have l1 := like_c X Y E p q E s4 s5
  have l2 := like_c X2 Y2 E2 p2 q2 E2 t4 t5
  rw [s6] at l1
  rw [t6] at l2
  have o1 := fun w => of_c (Fl.D a) (Fl.D b) (wd_D (by omega)) (wd_D (by omega)) w
  have o2 := fun w => of_c (Fl.D c) (Fl.D d) (wd_D (by omega)) (wd_D (by omega)) w
  unfold OfRet at o1 o2
  rw [Fl.numOf_D hr1.1, Fl.numOf_D hr1.2] at o1
  rw [Fl.numOf_D hr2.1, Fl.numOf_D hr2.2] at o2
  simp only at o1 o2
  simp only [beq_self_eq_true, Bool.true_and] at l1 l2
  clear s4 s5 s6 t4 t5 t6 i1 i2 hr1 hr2
  generalize Fl.D a = A at *
  generalize Fl.D b = B at *
  generalize Fl.D c = C at *
  generalize Fl.D d = D at *
  go_enter Tryd.func6, Tryd.ntmps6
  go_wp2_with fail
  refine (awake_c _ (hE.alloc _)).mono ?_
  rintro e w1 ⟨rfl, hb1⟩
  have g0 : w1.cell? ⟨w.heap.size, 0, none⟩ = some (.float .f64 A) := keepC (by go_simp) hb1
  have g1 : w1.cell? ⟨w.heap.size, 1, none⟩ = some (.float .f64 B) := keepC (by go_simp) hb1
  have g2 : w1.cell? ⟨w.heap.size, 2, none⟩ = some (.float .f64 C) := keepC (by go_simp) hb1
  have g3 : w1.cell? ⟨w.heap.size, 3, none⟩ = some (.float .f64 D) := keepC (by go_simp) hb1
  replace hb1 := below_trans (grow1 w _) hb1
  go_wp2_with fail
  go_quiet (fail)
  go_wp2_with fail
  replace hb1 := below_trans hb1 (below_drewN w1 nq)
  clear g0 g1 g2 g3
  refine (s1 _).mono ?_; rintro e w2 ⟨rfl, hb2⟩
  replace hb1 := below_trans hb1 hb2
  go_wp2_with fail
  refine (t1 _).mono ?_; rintro e w3 ⟨rfl, hb3⟩
  replace hb1 := below_trans hb1 hb3
  go_wp2_with fail
  refine (s2 _).mono ?_; rintro e w4 ⟨rfl, hb4⟩
  replace hb1 := below_trans hb1 hb4
  go_wp2_with fail
  refine (t2 _).mono ?_; rintro e w5 ⟨rfl, hb5⟩
  replace hb1 := below_trans hb1 hb5
  go_wp2_with fail
  refine (o1 _).mono ?_; rintro e w6 ⟨rfl, hb6⟩
  replace hb1 := below_trans (below_trans hb1 hb6) (grow1 w6 (Obj.cells #[Value.int .i64 a, Value.int .i64 b] 29))
  go_wp2_with fail
  refine (o2 _).mono ?_; rintro e w7 ⟨rfl, hb7⟩
  have c0 : w7.cell? ⟨w6.heap.size, 0, none⟩ = some (.int .i64 a) := keepC (by go_simp) hb7
  have c1 : w7.cell? ⟨w6.heap.size, 1, none⟩ = some (.int .i64 b) := keepC (by go_simp) hb7
  replace hb1 := below_trans hb1 hb7
  have k := grow1 w7 (Obj.cells #[Value.int .i64 c, Value.int .i64 d] 29)
  replace c0 := keepC c0 k
  replace c1 := keepC c1 k
  replace hb1 := below_trans hb1 k
  go_wp2_with fail
  refine (s3 _).mono ?_; rintro e w8 ⟨rfl, hb8⟩
  have d0 : w8.cell? ⟨w7.heap.size, 0, none⟩ = some (.int .i64 c) := keepC (by go_simp) hb8
  have d1 : w8.cell? ⟨w7.heap.size, 1, none⟩ = some (.int .i64 d) := keepC (by go_simp) hb8
  replace c0 := keepC c0 hb8
  replace c1 := keepC c1 hb8
  replace hb1 := below_trans hb1 hb8
  have k := grow1 w8 (Obj.cells #[Value.int .i64 p, Value.int .i64 q] 29)
  replace c0 := keepC c0 k
  replace c1 := keepC c1 k
  replace d0 := keepC d0 k
  replace d1 := keepC d1 k
  replace hb1 := below_trans hb1 k
  go_wp2_with fail
  refine (t3 _).mono ?_; rintro e w9 ⟨rfl, hb9⟩
  have e0 : w9.cell? ⟨w8.heap.size, 0, none⟩ = some (.int .i64 p) := keepC (by go_simp) hb9
  have e1 : w9.cell? ⟨w8.heap.size, 1, none⟩ = some (.int .i64 q) := keepC (by go_simp) hb9
  replace hb1 := below_trans hb1 hb9
  have k := grow1 w9 (Obj.cells #[Value.int .i64 p2, Value.int .i64 q2] 29)
  replace e0 := keepC e0 k
  replace e1 := keepC e1 k
  replace hb1 := below_trans hb1 k
  clear c0 c1 d0 d1
  go_wp2_with fail
  refine (l1 _).mono ?_; rintro e w10 ⟨rfl, hb10⟩
  have f0 : w10.cell? ⟨w9.heap.size, 0, none⟩ = some (.int .i64 p2) := keepC (by go_simp) hb10
  have f1 : w10.cell? ⟨w9.heap.size, 1, none⟩ = some (.int .i64 q2) := keepC (by go_simp) hb10
  replace hb1 := below_trans hb1 hb10
  go_wp2_with fail
  refine (l2 _).mono ?_; rintro e w11 ⟨rfl, hb11⟩
  go_wp2_with fail
  go_ret
  exact ⟨rfl, below_trans hb1 hb11⟩

set_option maxRecDepth 100000 in
set_option maxHeartbeats 2000000 in
theorem reckons_no (a b c d : Nat) (ha : Wd a) (hb : Wd b) (hc : Wd c) (hd : Wd d) (h : ((okB a && okB b) && (okB c && okB d)) = false) (w : World) (hE : Env w) :
    Calls Tryd.prog 6 #[.agg #[.float .f64 a, .float .f64 b, .float .f64 c, .float .f64 d]] w (True_ w) := by
  have h' : ((okB c && okB d) && (okB a && okB b)) = false := by rw [Bool.and_comm]; exact h
  have s1 := add_no a b c d ha hb hc hd h
  have s2 := add_no c d a b hc hd ha hb h'
  have t1 := mul_no a b c d ha hb hc hd h
  have t2 := mul_no c d a b hc hd ha hb h'
  unfold Refused at s1 s2 t1 t2
  have o1 := of_any a b ha hb
  have o2 := of_any c d hc hd
  have z : (FloatKind.f64.format.order 0 0 == some .eq) = true := by decide +kernel
  obtain ⟨p, q, o1⟩ := o1
  obtain ⟨p2, q2, o2⟩ := o2
  clear h'
  generalize (okB a && okB b) = u1 at *
  generalize (okB c && okB d) = u2 at *
  clear ha hb hc hd
  have hu : u1 = false ∨ (u1 = true ∧ u2 = false) := by cases u1 <;> cases u2 <;> simp_all
  clear h
  rcases hu with rfl | ⟨rfl, rfl⟩
  all_goals
    go_enter Tryd.func6, Tryd.ntmps6
    go_wp2_with fail
    refine (awake_c _ (hE.alloc _)).mono ?_
    rintro e w1 ⟨rfl, hb1⟩
    have g0 : w1.cell? ⟨w.heap.size, 0, none⟩ = some (.float .f64 a) := keepC (by go_simp) hb1
    have g1 : w1.cell? ⟨w.heap.size, 1, none⟩ = some (.float .f64 b) := keepC (by go_simp) hb1
    have g2 : w1.cell? ⟨w.heap.size, 2, none⟩ = some (.float .f64 c) := keepC (by go_simp) hb1
    have g3 : w1.cell? ⟨w.heap.size, 3, none⟩ = some (.float .f64 d) := keepC (by go_simp) hb1
    replace hb1 := below_trans (grow1 w _) hb1
    go_wp2_with fail
    go_quiet (fail)
    go_wp2_with fail
    replace hb1 := below_trans hb1 (below_drewN w1 nq)
    clear g0 g1 g2 g3
    refine (s1 _).mono ?_; rintro e w2 ⟨rfl, hb2⟩
    replace hb1 := below_trans hb1 hb2
    go_wp2_with fail
    refine (t1 _).mono ?_; rintro e w3 ⟨rfl, hb3⟩
    replace hb1 := below_trans hb1 hb3
    go_wp2_with fail
    refine (s2 _).mono ?_; rintro e w4 ⟨rfl, hb4⟩
    replace hb1 := below_trans hb1 hb4
    go_wp2_with fail
    refine (t2 _).mono ?_; rintro e w5 ⟨rfl, hb5⟩
    replace hb1 := below_trans hb1 hb5
    go_wp2_with fail
    refine (o1 _).mono ?_; rintro e w6 ⟨rfl, hb6⟩
    replace hb1 := below_alloc (below_trans hb1 hb6) (Obj.cells #[Value.int .i64 p, Value.int .i64 q] 29)
    go_wp2_with fail
    refine (o2 _).mono ?_; rintro e w7 ⟨rfl, hb7⟩
    replace hb1 := below_alloc (below_trans hb1 hb7) (Obj.cells #[Value.int .i64 p2, Value.int .i64 q2] 29)
    go_wp2_with fail
    go_ret
    exact ⟨rfl, hb1⟩

theorem reckons_c (a b c d : Nat) (ha : Wd a) (hb : Wd b) (hc : Wd c) (hd : Wd d) (w : World) (hE : Env w) :
    Calls Tryd.prog 6 #[.agg #[.float .f64 a, .float .f64 b, .float .f64 c, .float .f64 d]] w (True_ w) := by
  cases h : ((okB a && okB b) && (okB c && okB d)) with
  | false => exact reckons_no a b c d ha hb hc hd h w hE
  | true =>
    rw [Bool.and_eq_true, Bool.and_eq_true, Bool.and_eq_true] at h
    obtain ⟨⟨h1, h2⟩, h3, h4⟩ := h
    unfold okB at h1 h2 h3 h4
    obtain ⟨x1, e1⟩ := Option.isSome_iff_exists.1 h1
    obtain ⟨x2, e2⟩ := Option.isSome_iff_exists.1 h2
    obtain ⟨x3, e3⟩ := Option.isSome_iff_exists.1 h3
    obtain ⟨x4, e4⟩ := Option.isSome_iff_exists.1 h4
    obtain ⟨l1, rfl⟩ := Fl.numOf_some e1
    obtain ⟨l2, rfl⟩ := Fl.numOf_some e2
    obtain ⟨l3, rfl⟩ := Fl.numOf_some e3
    obtain ⟨l4, rfl⟩ := Fl.numOf_some e4
    exact reckons_yes x1 x2 x3 x4 (decide_eq_true ⟨l1, l2⟩) (decide_eq_true ⟨l3, l4⟩) w hE
end Go.Proofs.YtffgicppidgcpaaDoor
