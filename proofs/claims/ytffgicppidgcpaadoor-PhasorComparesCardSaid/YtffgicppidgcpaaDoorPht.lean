/- The walk of the law of comparison. Conditions: the words fit. -/
import Derived.Test.YtffgicppidgcpaaDoorPhs
import Derived.Test.YtffgicppidgcpaaDoorPhr
namespace Go.Proofs.YtffgicppidgcpaaDoor
open Go.RowKit

theorem cmpI_small (a b : Int) : -1 ≤ cmpI a b ∧ cmpI a b ≤ 1 := by
  unfold cmpI
  split
  · omega
  · split <;> omega
theorem cmpP_small (a b c d : Int) : -1 ≤ cmpP a b c d ∧ cmpP a b c d ≤ 1 := by
  unfold cmpP orI
  split
  · exact cmpI_small _ _
  · split <;> exact cmpI_small _ _

def CmpSays (a b c d : Nat) (n : Int) : Prop := ∀ w, Calls Tryd.prog 26 #[.complex .f64 a b, .complex .f64 c d] w fun e w' => e = .returned (.int .i64 n) ∧ Below w.heap.size w w'
theorem ok_two {a b : Nat} (h : (okB a && okB b) = true) : ∃ x y : Int, a = Fl.D x ∧ b = Fl.D y ∧ PhS.inR x y = true := by
  rw [Bool.and_eq_true] at h
  obtain ⟨h1, h2⟩ := h
  unfold okB at h1 h2
  obtain ⟨x1, e1⟩ := Option.isSome_iff_exists.1 h1
  obtain ⟨x2, e2⟩ := Option.isSome_iff_exists.1 h2
  obtain ⟨l1, rfl⟩ := Fl.numOf_some e1
  obtain ⟨l2, rfl⟩ := Fl.numOf_some e2
  exact ⟨x1, x2, rfl, rfl, decide_eq_true ⟨l1, l2⟩⟩
theorem compare_any (a b c d : Nat) (ha : Wd a) (hb : Wd b) (hc : Wd c) (hd : Wd d) : ∃ n : Int, CmpSays a b c d n := by
  cases h : ((okB a && okB b) && (okB c && okB d)) with
  | false => exact ⟨0, compare_no a b c d ha hb hc hd h⟩
  | true =>
    rw [Bool.and_eq_true] at h
    obtain ⟨x, y, rfl, rfl, i1⟩ := ok_two h.1
    obtain ⟨x', y', rfl, rfl, i2⟩ := ok_two h.2
    exact ⟨_, compare_c x y x' y' i1 i2⟩

set_option maxRecDepth 100000 in
set_option maxHeartbeats 2000000 in
theorem compares_1 (a b c d f g : Nat) (ha : Wd a) (hb : Wd b) (hc : Wd c) (hd : Wd d) (hf : Wd f) (hg : Wd g) (h : (okB a && okB b) = false) (w : World) (hE : Env w) :
    Calls Tryd.prog 8 #[.agg #[.float .f64 a, .float .f64 b, .float .f64 c, .float .f64 d, .float .f64 f, .float .f64 g]] w (True_ w) := by
  have s1 : CmpSays a b c d 0 := compare_no a b c d ha hb hc hd (by rw [h]; rfl)
  have s2 : CmpSays c d a b 0 := compare_no c d a b hc hd ha hb (by rw [h, Bool.and_false])
  obtain ⟨n1, s3⟩ := compare_any c d f g hc hd hf hg
  obtain ⟨n2, s4⟩ := compare_any a b f g ha hb hf hg
  have nn := norm_no a b ha hb h
  obtain ⟨p, q, o1⟩ := of_any a b ha hb
  obtain ⟨p2, q2, o2⟩ := of_any c d hc hd
  unfold CmpSays at s1 s2 s3 s4
  rw [h] at o1
  generalize (okB c && okB d) = u at *
  clear ha hb hc hd hf hg h
  go_enter Tryd.func8, Tryd.ntmps8
  go_wp2_with fail
  refine (awake_c _ (hE.alloc _)).mono ?_
  rintro e w1 ⟨rfl, hb1⟩
  have g0 : w1.cell? ⟨w.heap.size, 0, none⟩ = some (.float .f64 a) := keepC (by go_simp) hb1
  have g1 : w1.cell? ⟨w.heap.size, 1, none⟩ = some (.float .f64 b) := keepC (by go_simp) hb1
  have g2 : w1.cell? ⟨w.heap.size, 2, none⟩ = some (.float .f64 c) := keepC (by go_simp) hb1
  have g3 : w1.cell? ⟨w.heap.size, 3, none⟩ = some (.float .f64 d) := keepC (by go_simp) hb1
  have g4 : w1.cell? ⟨w.heap.size, 4, none⟩ = some (.float .f64 f) := keepC (by go_simp) hb1
  have g5 : w1.cell? ⟨w.heap.size, 5, none⟩ = some (.float .f64 g) := keepC (by go_simp) hb1
  replace hb1 := below_trans (grow1 w _) hb1
  go_wp2_with fail
  go_quiet (fail)
  go_wp2_with fail
  replace hb1 := below_trans hb1 (below_drewN w1 nq)
  clear g0 g1 g2 g3 g4 g5
  refine (o1 _).mono ?_; rintro e w2 ⟨rfl, hb2⟩
  replace hb1 := below_alloc (below_trans hb1 hb2) (Obj.cells #[Value.int .i64 p, Value.int .i64 q] 29)
  go_wp2_with fail
  refine (o2 _).mono ?_; rintro e w3 ⟨rfl, hb3⟩
  replace hb1 := below_alloc (below_trans hb1 hb3) (Obj.cells #[Value.int .i64 p2, Value.int .i64 q2] 29)
  go_wp2_with fail
  refine (s3 _).mono ?_; rintro e w4 ⟨rfl, hb4⟩
  replace hb1 := below_trans hb1 hb4
  go_wp2_with fail
  refine (s4 _).mono ?_; rintro e w5 ⟨rfl, hb5⟩
  replace hb1 := below_trans hb1 hb5
  go_wp2_with fail
  refine (nn _).mono ?_; rintro e w6 ⟨rfl, hb6⟩
  replace hb1 := below_trans hb1 hb6
  go_wp2_with fail
  refine (s1 _).mono ?_; rintro e w7 ⟨rfl, hb7⟩
  replace hb1 := below_trans hb1 hb7
  go_wp2_with fail
  refine (s2 _).mono ?_; rintro e w8 ⟨rfl, hb8⟩
  replace hb1 := below_trans hb1 hb8
  go_wp2_with fail
  go_ret
  exact ⟨rfl, hb1⟩

set_option maxRecDepth 100000 in
set_option maxHeartbeats 2000000 in
theorem compares_2 (a b : Int) (c d f g : Nat) (i1 : PhS.inR a b = true) (hc : Wd c) (hd : Wd d) (hf : Wd f) (hg : Wd g) (h : (okB c && okB d) = false) (w : World) (hE : Env w) :
    Calls Tryd.prog 8 #[.agg #[.float .f64 (Fl.D a), .float .f64 (Fl.D b), .float .f64 c, .float .f64 d, .float .f64 f, .float .f64 g]] w (True_ w) := by
  have hr1 : a.natAbs ≤ 1000000 ∧ b.natAbs ≤ 1000000 := of_decide_eq_true i1
  have ha : Wd (Fl.D a) := wd_D (by omega)
  have hb : Wd (Fl.D b) := wd_D (by omega)
  have s1 : CmpSays (Fl.D a) (Fl.D b) c d 0 := compare_no _ _ c d ha hb hc hd (by rw [h, Bool.and_false])
  have s2 : CmpSays c d (Fl.D a) (Fl.D b) 0 := compare_no c d _ _ hc hd ha hb (by rw [h]; rfl)
  obtain ⟨n1, s3⟩ := compare_any c d f g hc hd hf hg
  obtain ⟨n2, s4⟩ := compare_any _ _ f g ha hb hf hg
  have nn := norm_c a b i1
  have rn := refnorm2_c a b hr1.1 hr1.2
  have o1 := fun w => of_c (Fl.D a) (Fl.D b) ha hb w
  unfold OfRet at o1
  rw [Fl.numOf_D hr1.1, Fl.numOf_D hr1.2] at o1
  simp only at o1
  obtain ⟨p2, q2, o2⟩ := of_any c d hc hd
  unfold CmpSays at s1 s2 s3 s4
  rw [h] at o2
  clear ha hb hc hd hf hg h hr1 i1
  generalize a * a + b * b = N at *
  generalize Fl.D a = A at *
  generalize Fl.D b = B at *
  obtain ⟨C, rfl⟩ : ∃ C, C = c := ⟨_, rfl⟩
  obtain ⟨D, rfl⟩ : ∃ C, C = d := ⟨_, rfl⟩
  obtain ⟨F, rfl⟩ : ∃ C, C = f := ⟨_, rfl⟩
  obtain ⟨G, rfl⟩ : ∃ C, C = g := ⟨_, rfl⟩
  go_enter Tryd.func8, Tryd.ntmps8
  go_wp2_with fail
  refine (awake_c _ (hE.alloc _)).mono ?_
  rintro e w1 ⟨rfl, hb1⟩
  have g0 : w1.cell? ⟨w.heap.size, 0, none⟩ = some (.float .f64 A) := keepC (by go_simp) hb1
  have g1 : w1.cell? ⟨w.heap.size, 1, none⟩ = some (.float .f64 B) := keepC (by go_simp) hb1
  have g2 : w1.cell? ⟨w.heap.size, 2, none⟩ = some (.float .f64 C) := keepC (by go_simp) hb1
  have g3 : w1.cell? ⟨w.heap.size, 3, none⟩ = some (.float .f64 D) := keepC (by go_simp) hb1
  have g4 : w1.cell? ⟨w.heap.size, 4, none⟩ = some (.float .f64 F) := keepC (by go_simp) hb1
  have g5 : w1.cell? ⟨w.heap.size, 5, none⟩ = some (.float .f64 G) := keepC (by go_simp) hb1
  replace hb1 := below_trans (grow1 w _) hb1
  go_wp2_with fail
  go_quiet (fail)
  go_wp2_with fail
  replace hb1 := below_trans hb1 (below_drewN w1 nq)
  clear g0 g1 g2 g3 g4 g5
  refine (o1 _).mono ?_; rintro e w2 ⟨rfl, hb2⟩
  replace hb1 := below_trans (below_trans hb1 hb2) (grow1 w2 (Obj.cells #[Value.int .i64 a, Value.int .i64 b] 29))
  go_wp2_with fail
  refine (o2 _).mono ?_; rintro e w3 ⟨rfl, hb3⟩
  have c0 : w3.cell? ⟨w2.heap.size, 0, none⟩ = some (.int .i64 a) := keepC (by go_simp) hb3
  have c1 : w3.cell? ⟨w2.heap.size, 1, none⟩ = some (.int .i64 b) := keepC (by go_simp) hb3
  replace hb1 := below_trans hb1 hb3
  have k := grow1 w3 (Obj.cells #[Value.int .i64 p2, Value.int .i64 q2] 29)
  replace c0 := keepC c0 k
  replace c1 := keepC c1 k
  replace hb1 := below_trans hb1 k
  go_wp2_with fail
  refine (rn _).mono ?_; rintro e w4 ⟨rfl, hb4⟩
  replace hb1 := below_trans hb1 hb4
  clear c0 c1
  go_wp2_with fail
  refine (s3 _).mono ?_; rintro e w6 ⟨rfl, hb6⟩
  replace hb1 := below_trans hb1 hb6
  go_wp2_with fail
  refine (s4 _).mono ?_; rintro e w7 ⟨rfl, hb7⟩
  replace hb1 := below_trans hb1 hb7
  go_wp2_with fail
  refine (nn _).mono ?_; rintro e w8 ⟨rfl, hb8⟩
  replace hb1 := below_trans hb1 hb8
  go_wp2_with fail
  refine (s1 _).mono ?_; rintro e w9 ⟨rfl, hb9⟩
  replace hb1 := below_trans hb1 hb9
  go_wp2_with fail
  refine (s2 _).mono ?_; rintro e w10 ⟨rfl, hb10⟩
  replace hb1 := below_trans hb1 hb10
  go_wp2_with fail
  go_ret
  exact ⟨rfl, hb1⟩

set_option maxRecDepth 100000 in
set_option maxHeartbeats 2000000 in
theorem compares_3 (a b c d : Int) (f g : Nat) (i1 : PhS.inR a b = true) (i2 : PhS.inR c d = true) (hf : Wd f) (hg : Wd g) (h : (okB f && okB g) = false) (w : World) (hE : Env w) :
    Calls Tryd.prog 8 #[.agg #[.float .f64 (Fl.D a), .float .f64 (Fl.D b), .float .f64 (Fl.D c), .float .f64 (Fl.D d), .float .f64 f, .float .f64 g]] w (True_ w) := by
  have hr1 : a.natAbs ≤ 1000000 ∧ b.natAbs ≤ 1000000 := of_decide_eq_true i1
  have hr2 : c.natAbs ≤ 1000000 ∧ d.natAbs ≤ 1000000 := of_decide_eq_true i2
  have ha : Wd (Fl.D a) := wd_D (by omega)
  have hb : Wd (Fl.D b) := wd_D (by omega)
  have hc : Wd (Fl.D c) := wd_D (by omega)
  have hd : Wd (Fl.D d) := wd_D (by omega)
  have s1 := compare_c a b c d i1 i2
  have s2 := compare_c c d a b i2 i1
  rw [cmpP_swap a b c d] at s2
  obtain ⟨n1, s3⟩ := compare_any _ _ f g hc hd hf hg
  obtain ⟨n2, s4⟩ := compare_any _ _ f g ha hb hf hg
  have nn := norm_c a b i1
  have rn := refnorm2_c a b hr1.1 hr1.2
  have rc := refcompare_c a b c d hr1.1 hr1.2 hr2.1 hr2.2
  have o1 := fun w => of_c (Fl.D a) (Fl.D b) ha hb w
  unfold OfRet at o1
  rw [Fl.numOf_D hr1.1, Fl.numOf_D hr1.2] at o1
  have o2 := fun w => of_c (Fl.D c) (Fl.D d) hc hd w
  unfold OfRet at o2
  rw [Fl.numOf_D hr2.1, Fl.numOf_D hr2.2] at o2
  simp only at o1 o2
  have fm := fun w => formed_c f g hf hg w
  rw [h] at fm
  unfold CmpSays at s3 s4
  unfold RefCmp at rc
  have hwt : IntKind.i64.wrap (-cmpP a b c d) = -cmpP a b c d := Go.IntWalk.i64_in _ (by have := cmpP_small a b c d; omega)
  have hsm := cmpP_small a b c d
  clear ha hb hc hd hf hg h hr1 i1 hr2 i2
  generalize cmpP a b c d = want at *
  generalize a * a + b * b = N at *
  generalize Fl.D a = A at *
  generalize Fl.D b = B at *
  generalize Fl.D c = C at *
  generalize Fl.D d = D at *
  obtain ⟨p2, rfl⟩ : ∃ C, C = c := ⟨_, rfl⟩
  obtain ⟨q2, rfl⟩ : ∃ C, C = d := ⟨_, rfl⟩
  obtain ⟨F, rfl⟩ : ∃ C, C = f := ⟨_, rfl⟩
  obtain ⟨G, rfl⟩ : ∃ C, C = g := ⟨_, rfl⟩
  go_enter Tryd.func8, Tryd.ntmps8
  go_wp2_with fail
  refine (awake_c _ (hE.alloc _)).mono ?_
  rintro e w1 ⟨rfl, hb1⟩
  have g0 : w1.cell? ⟨w.heap.size, 0, none⟩ = some (.float .f64 A) := keepC (by go_simp) hb1
  have g1 : w1.cell? ⟨w.heap.size, 1, none⟩ = some (.float .f64 B) := keepC (by go_simp) hb1
  have g2 : w1.cell? ⟨w.heap.size, 2, none⟩ = some (.float .f64 C) := keepC (by go_simp) hb1
  have g3 : w1.cell? ⟨w.heap.size, 3, none⟩ = some (.float .f64 D) := keepC (by go_simp) hb1
  have g4 : w1.cell? ⟨w.heap.size, 4, none⟩ = some (.float .f64 F) := keepC (by go_simp) hb1
  have g5 : w1.cell? ⟨w.heap.size, 5, none⟩ = some (.float .f64 G) := keepC (by go_simp) hb1
  replace hb1 := below_trans (grow1 w _) hb1
  go_wp2_with fail
  go_quiet (fail)
  go_wp2_with fail
  replace hb1 := below_trans hb1 (below_drewN w1 nq)
  clear g0 g1 g2 g3 g4 g5
  refine (o1 _).mono ?_; rintro e w2 ⟨rfl, hb2⟩
  replace hb1 := below_trans (below_trans hb1 hb2) (grow1 w2 (Obj.cells #[Value.int .i64 a, Value.int .i64 b] 29))
  go_wp2_with fail
  refine (o2 _).mono ?_; rintro e w3 ⟨rfl, hb3⟩
  have c0 : w3.cell? ⟨w2.heap.size, 0, none⟩ = some (.int .i64 a) := keepC (by go_simp) hb3
  have c1 : w3.cell? ⟨w2.heap.size, 1, none⟩ = some (.int .i64 b) := keepC (by go_simp) hb3
  replace hb1 := below_trans hb1 hb3
  have k := grow1 w3 (Obj.cells #[Value.int .i64 p2, Value.int .i64 q2] 29)
  replace c0 := keepC c0 k
  replace c1 := keepC c1 k
  replace hb1 := below_trans hb1 k
  go_wp2_with fail
  refine (rn _).mono ?_; rintro e w4 ⟨rfl, hb4⟩
  have d0 : w4.cell? ⟨w3.heap.size, 0, none⟩ = some (.int .i64 p2) := keepC (by go_simp) hb4
  have d1 : w4.cell? ⟨w3.heap.size, 1, none⟩ = some (.int .i64 q2) := keepC (by go_simp) hb4
  replace c0 := keepC c0 hb4
  replace c1 := keepC c1 hb4
  replace hb1 := below_trans hb1 hb4
  go_wp2_with fail
  refine (rc _).mono ?_; rintro e w5 ⟨rfl, hb5⟩
  replace hb1 := below_trans hb1 hb5
  clear c0 c1 d0 d1
  go_wp2_with fail
  refine (s3 _).mono ?_; rintro e w6 ⟨rfl, hb6⟩
  replace hb1 := below_trans hb1 hb6
  go_wp2_with fail
  refine (s4 _).mono ?_; rintro e w7 ⟨rfl, hb7⟩
  replace hb1 := below_trans hb1 hb7
  go_wp2_with fail
  refine (fm _).mono ?_; rintro e wf ⟨rfl, hbf⟩
  replace hb1 := below_trans hb1 hbf
  go_wp2_with fail
  refine (nn _).mono ?_; rintro e w8 ⟨rfl, hb8⟩
  replace hb1 := below_trans hb1 hb8
  go_wp2_with fail
  refine (s1 _).mono ?_; rintro e w9 ⟨rfl, hb9⟩
  replace hb1 := below_trans hb1 hb9
  go_wp2_with fail
  refine (s2 _).mono ?_; rintro e w10 ⟨rfl, hb10⟩
  replace hb1 := below_trans hb1 hb10
  go_wp2_with fail
  go_ret
  exact ⟨rfl, hb1⟩

set_option maxRecDepth 100000 in
set_option maxHeartbeats 2000000 in
theorem compares_4 (a b c d f g : Int) (i1 : PhS.inR a b = true) (i2 : PhS.inR c d = true) (i3 : PhS.inR f g = true) (w : World) (hE : Env w) :
    Calls Tryd.prog 8 #[.agg #[.float .f64 (Fl.D a), .float .f64 (Fl.D b), .float .f64 (Fl.D c), .float .f64 (Fl.D d), .float .f64 (Fl.D f), .float .f64 (Fl.D g)]] w (True_ w) := by
  have hr1 : a.natAbs ≤ 1000000 ∧ b.natAbs ≤ 1000000 := of_decide_eq_true i1
  have hr2 : c.natAbs ≤ 1000000 ∧ d.natAbs ≤ 1000000 := of_decide_eq_true i2
  have hr3 : f.natAbs ≤ 1000000 ∧ g.natAbs ≤ 1000000 := of_decide_eq_true i3
  have hf : Wd (Fl.D f) := wd_D (by omega)
  have hg : Wd (Fl.D g) := wd_D (by omega)
  have ha : Wd (Fl.D a) := wd_D (by omega)
  have hb : Wd (Fl.D b) := wd_D (by omega)
  have hc : Wd (Fl.D c) := wd_D (by omega)
  have hd : Wd (Fl.D d) := wd_D (by omega)
  have s1 := compare_c a b c d i1 i2
  have s2 := compare_c c d a b i2 i1
  rw [cmpP_swap a b c d] at s2
  have s3 := compare_c c d f g i2 i3
  have s4 := compare_c a b f g i1 i3
  have HT := Lib.hid (cmpP_through (a := a) (b := b) (c := c) (d := d) (e := f) (f := g))
  have nn := norm_c a b i1
  have rn := refnorm2_c a b hr1.1 hr1.2
  have rc := refcompare_c a b c d hr1.1 hr1.2 hr2.1 hr2.2
  have o1 := fun w => of_c (Fl.D a) (Fl.D b) ha hb w
  unfold OfRet at o1
  rw [Fl.numOf_D hr1.1, Fl.numOf_D hr1.2] at o1
  have o2 := fun w => of_c (Fl.D c) (Fl.D d) hc hd w
  unfold OfRet at o2
  rw [Fl.numOf_D hr2.1, Fl.numOf_D hr2.2] at o2
  simp only at o1 o2
  have fm := fun w => formed_c (Fl.D f) (Fl.D g) hf hg w
  rw [okB_inR (by omega) (by omega), i3] at fm
  unfold RefCmp at rc
  have hwt : IntKind.i64.wrap (-cmpP a b c d) = -cmpP a b c d := Go.IntWalk.i64_in _ (by have := cmpP_small a b c d; omega)
  have hsm := cmpP_small a b c d
  have hs3 := cmpP_small c d f g
  have hs4 := cmpP_small a b f g
  clear ha hb hc hd hf hg hr1 i1 hr2 i2 hr3 i3
  generalize cmpP c d f g = n1 at *
  generalize cmpP a b f g = n2 at *
  generalize cmpP a b c d = want at *
  generalize a * a + b * b = N at *
  generalize Fl.D a = A at *
  generalize Fl.D b = B at *
  generalize Fl.D c = C at *
  generalize Fl.D d = D at *
  obtain ⟨p2, rfl⟩ : ∃ C, C = c := ⟨_, rfl⟩
  obtain ⟨q2, rfl⟩ : ∃ C, C = d := ⟨_, rfl⟩
  generalize Fl.D f = F at *
  generalize Fl.D g = G at *
  go_enter Tryd.func8, Tryd.ntmps8
  go_wp2_with fail
  refine (awake_c _ (hE.alloc _)).mono ?_
  rintro e w1 ⟨rfl, hb1⟩
  have g0 : w1.cell? ⟨w.heap.size, 0, none⟩ = some (.float .f64 A) := keepC (by go_simp) hb1
  have g1 : w1.cell? ⟨w.heap.size, 1, none⟩ = some (.float .f64 B) := keepC (by go_simp) hb1
  have g2 : w1.cell? ⟨w.heap.size, 2, none⟩ = some (.float .f64 C) := keepC (by go_simp) hb1
  have g3 : w1.cell? ⟨w.heap.size, 3, none⟩ = some (.float .f64 D) := keepC (by go_simp) hb1
  have g4 : w1.cell? ⟨w.heap.size, 4, none⟩ = some (.float .f64 F) := keepC (by go_simp) hb1
  have g5 : w1.cell? ⟨w.heap.size, 5, none⟩ = some (.float .f64 G) := keepC (by go_simp) hb1
  replace hb1 := below_trans (grow1 w _) hb1
  go_wp2_with fail
  go_quiet (fail)
  go_wp2_with fail
  replace hb1 := below_trans hb1 (below_drewN w1 nq)
  clear g0 g1 g2 g3 g4 g5
  refine (o1 _).mono ?_; rintro e w2 ⟨rfl, hb2⟩
  replace hb1 := below_trans (below_trans hb1 hb2) (grow1 w2 (Obj.cells #[Value.int .i64 a, Value.int .i64 b] 29))
  go_wp2_with fail
  refine (o2 _).mono ?_; rintro e w3 ⟨rfl, hb3⟩
  have c0 : w3.cell? ⟨w2.heap.size, 0, none⟩ = some (.int .i64 a) := keepC (by go_simp) hb3
  have c1 : w3.cell? ⟨w2.heap.size, 1, none⟩ = some (.int .i64 b) := keepC (by go_simp) hb3
  replace hb1 := below_trans hb1 hb3
  have k := grow1 w3 (Obj.cells #[Value.int .i64 p2, Value.int .i64 q2] 29)
  replace c0 := keepC c0 k
  replace c1 := keepC c1 k
  replace hb1 := below_trans hb1 k
  go_wp2_with fail
  refine (rn _).mono ?_; rintro e w4 ⟨rfl, hb4⟩
  have d0 : w4.cell? ⟨w3.heap.size, 0, none⟩ = some (.int .i64 p2) := keepC (by go_simp) hb4
  have d1 : w4.cell? ⟨w3.heap.size, 1, none⟩ = some (.int .i64 q2) := keepC (by go_simp) hb4
  replace c0 := keepC c0 hb4
  replace c1 := keepC c1 hb4
  replace hb1 := below_trans hb1 hb4
  go_wp2_with fail
  refine (rc _).mono ?_; rintro e w5 ⟨rfl, hb5⟩
  replace hb1 := below_trans hb1 hb5
  clear c0 c1 d0 d1
  go_wp2_with fail
  refine (s3 _).mono ?_; rintro e w6 ⟨rfl, hb6⟩
  replace hb1 := below_trans hb1 hb6
  go_wp2_with fail
  refine (s4 _).mono ?_; rintro e w7 ⟨rfl, hb7⟩
  replace hb1 := below_trans hb1 hb7
  go_wp2_with fail
  refine (fm _).mono ?_; rintro e wf ⟨rfl, hbf⟩
  replace hb1 := below_trans hb1 hbf
  by_cases hw : 0 < want
  · clear HT
    go_wp2_with fail
    refine (nn _).mono ?_; rintro e w8 ⟨rfl, hb8⟩
    replace hb1 := below_trans hb1 hb8
    go_wp2_with fail
    refine (s1 _).mono ?_; rintro e w9 ⟨rfl, hb9⟩
    replace hb1 := below_trans hb1 hb9
    go_wp2_with fail
    refine (s2 _).mono ?_; rintro e w10 ⟨rfl, hb10⟩
    replace hb1 := below_trans hb1 hb10
    go_wp2_with fail
    go_ret
    exact ⟨rfl, hb1⟩
  · by_cases ha1 : 0 < n1
    · clear HT
      go_wp2_with fail
      refine (nn _).mono ?_; rintro e w8 ⟨rfl, hb8⟩
      replace hb1 := below_trans hb1 hb8
      go_wp2_with fail
      refine (s1 _).mono ?_; rintro e w9 ⟨rfl, hb9⟩
      replace hb1 := below_trans hb1 hb9
      go_wp2_with fail
      refine (s2 _).mono ?_; rintro e w10 ⟨rfl, hb10⟩
      replace hb1 := below_trans hb1 hb10
      go_wp2_with fail
      go_ret
      exact ⟨rfl, hb1⟩
    · have hb2 : n2 ≤ 0 := by have := HT.out (by omega) (by omega); omega
      clear HT
      go_wp2_with fail
      refine (nn _).mono ?_; rintro e w8 ⟨rfl, hb8⟩
      replace hb1 := below_trans hb1 hb8
      go_wp2_with fail
      refine (s1 _).mono ?_; rintro e w9 ⟨rfl, hb9⟩
      replace hb1 := below_trans hb1 hb9
      go_wp2_with fail
      refine (s2 _).mono ?_; rintro e w10 ⟨rfl, hb10⟩
      replace hb1 := below_trans hb1 hb10
      go_wp2_with fail
      go_ret
      exact ⟨rfl, hb1⟩

theorem compares_c (a b c d f g : Nat) (ha : Wd a) (hb : Wd b) (hc : Wd c) (hd : Wd d) (hf : Wd f) (hg : Wd g) (w : World) (hE : Env w) :
    Calls Tryd.prog 8 #[.agg #[.float .f64 a, .float .f64 b, .float .f64 c, .float .f64 d, .float .f64 f, .float .f64 g]] w (True_ w) := by
  cases h1 : (okB a && okB b) with
  | false => exact compares_1 a b c d f g ha hb hc hd hf hg h1 w hE
  | true =>
    obtain ⟨x1, y1, rfl, rfl, i1⟩ := ok_two h1
    cases h2 : (okB c && okB d) with
    | false => exact compares_2 x1 y1 c d f g i1 hc hd hf hg h2 w hE
    | true =>
      obtain ⟨x2, y2, rfl, rfl, i2⟩ := ok_two h2
      cases h3 : (okB f && okB g) with
      | false => exact compares_3 x1 y1 x2 y2 f g i1 i2 hf hg h3 w hE
      | true =>
        obtain ⟨x3, y3, rfl, rfl, i3⟩ := ok_two h3
        exact compares_4 x1 y1 x2 y2 x3 y3 i1 i2 i3 w hE
end Go.Proofs.YtffgicppidgcpaaDoor
