/- The walk of the norm of a number. Conditions: as stated. -/
import Derived.Laws.ComplexArith
import Derived.Deep.DeepCutAuto
import Derived.Deep.DrawnRows
import Derived.Deep.RegionHeld3
import Derived.Test.YtjmfknfponjgkaaGreatDoorJPhc
set_option maxRecDepth 100000
set_option maxHeartbeats 1000000
namespace Go.Proofs.YtjmfknfponjgkaaGreatDoor
section
open Go.RowKit
theorem okB_off {n : Int} (h : n.natAbs < 2 ^ 53) (h1 : 1000000 < n.natAbs) : okB (Fl.D n) = false := by
 unfold okB Fl.numOf
 rw [Fl.toInt_val (Fl.read_D n h).val]
 simp only
 rw [if_neg (by omega)]
 rfl
theorem okB_inR {n m : Int} (hn : n.natAbs < 2 ^ 53) (hm : m.natAbs < 2 ^ 53) : (okB (Fl.D n) && okB (Fl.D m)) = PhS.inR n m := by
 by_cases h1 : n.natAbs <= 1000000
 · by_cases h2 : m.natAbs <= 1000000
   · rw [okB_D h1, okB_D h2]
     exact (decide_eq_true (show n.natAbs <= 1000000 /\ m.natAbs <= 1000000 from ⟨h1, h2⟩)).symm
   · rw [okB_off hm (by omega), Bool.and_false]
     exact (decide_eq_false (show ¬ (n.natAbs <= 1000000 /\ m.natAbs <= 1000000) from fun h => h2 h.2)).symm
 · rw [okB_off hn (by omega), Bool.false_and]
   exact (decide_eq_false (show ¬ (n.natAbs <= 1000000 /\ m.natAbs <= 1000000) from fun h => h1 h.1)).symm
theorem mul_le {a c : Int} (ha : a.natAbs <= 1000000) (hc : c.natAbs <= 1000000) : (a * c).natAbs <= 1000000000000 := by
 rw [Int.natAbs_mul]
 exact Nat.mul_le_mul ha hc
theorem norm_c (a b : Int) (h : PhS.inR a b = true) (w : World) :
  Calls Tryz.prog 105 #[.complex .f64 (Fl.D a) (Fl.D b)] w fun e w' => e = .returned (.int .i64 (a * a + b * b)) /\ Below w.heap.size w w' := by
 have hr : a.natAbs <= 1000000 /\ b.natAbs <= 1000000 := of_decide_eq_true h
 have f := fun w => formed_c (Fl.D a) (Fl.D b) (wd_D (by omega)) (wd_D (by omega)) w
 rw [okB_inR (by omega) (by omega), h] at f
 have c1 := fun w => run_convert_float_int (P := Tryz.prog) w 162 2 .f64 .i64 (Fl.D a) a (by kernel_rfl) Tryz.underlying2 (toInt_D hr.1)
 have c2 := fun w => run_convert_float_int (P := Tryz.prog) w 162 2 .f64 .i64 (Fl.D b) b (by kernel_rfl) Tryz.underlying2 (toInt_D hr.2)
 have m1 := mul_le hr.1 hr.1
 have m2 := mul_le hr.2 hr.2
 have p1 : IntKind.i64.wrap (a * a) = a * a := Go.IntWalk.i64_in _ (by omega)
 have p2 : IntKind.i64.wrap (b * b) = b * b := Go.IntWalk.i64_in _ (by omega)
 have p3 : IntKind.i64.wrap (a * a + b * b) = a * a + b * b := Go.IntWalk.i64_in _ (by omega)
 clear h hr
 go_enter Tryz.func105, Tryz.ntmps105
 go_wp2_with fail
 refine (f _).mono ?_; rintro e w1 ⟨rfl, hb1⟩
 go_wp2_with fail
 go_ret
 exact ⟨by go_num, hb1⟩
end
section
open Go.RowKit
def cmpI (a b : Int) : Int := if a < b then -1 else if b < a then 1 else 0
theorem nanInt_c (a : Int) (w : World) : Calls Tryz.prog 142 #[.int .i64 a] w fun e w' => e = .returned (.bool false) /\ w = w' := by
 go_enter Tryz.func142, Tryz.ntmps142
 go_wp2_with fail
 go_ret
 exact ⟨rfl, rfl⟩
theorem cmpInt_c (a b : Int) (w : World) : Calls Tryz.prog 107 #[.int .i64 a, .int .i64 b] w fun e w' => e = .returned (.int .i64 (cmpI a b)) /\ w = w' := by
 have HC : Hid (cmpI a b = if a < b then -1 else if b < a then 1 else 0) := hZ9 rfl
 rcases Int.lt_trichotomy a b with h | h | h
 all_goals
  go_enter Tryz.func107, Tryz.ntmps107
  go_wp2_with fail
  refine (nanInt_c _ _).mono ?_; rintro e w1 ⟨rfl, rfl⟩
  go_wp2_with fail
  refine (nanInt_c _ _).mono ?_; rintro e w1 ⟨rfl, rfl⟩
  go_wp2_with fail
 · go_ret
   exact ⟨by rw [HC.out, if_pos h]; rfl, rfl⟩
 · go_ret
   exact ⟨by rw [HC.out, if_neg (by omega), if_neg (by omega)]; rfl, rfl⟩
 · go_ret
   exact ⟨by rw [HC.out, if_neg (by omega), if_pos h]; rfl, rfl⟩
theorem nanFl_c (a : Int) (ha : a.natAbs <= 1000000) (w : World) : Calls Tryz.prog 176 #[.float .f64 (Fl.D a)] w fun e w' => e = .returned (.bool false) /\ w = w' := by
 have e1 : (FloatKind.f64.format.order (Fl.D a) (Fl.D a) == some .eq) = true := by rw [eqB_D ha ha]; simp
 have e2 : (FloatKind.f64.format.order (Fl.D a) (Fl.D a) != some .eq) = false := by rw [bne, e1]; rfl
 go_enter Tryz.func176, Tryz.ntmps176
 go_wp2_with fail
 go_ret
 exact ⟨rfl, rfl⟩
theorem ltB_D {a c : Int} (ha : a.natAbs <= 1000000) (hc : c.natAbs <= 1000000) : (FloatKind.f64.format.order (Fl.D a) (Fl.D c) == some .lt) = decide (a < c) := by
 rw [ord_D ha hc]
 rcases Int.lt_trichotomy a c with h | h | h
 · rw [Fl.cmp_lt h]; simp; omega
 · subst h; rw [Fl.compare_self']; simp
 · rw [Fl.cmp_gt h]; simp; omega
theorem cmpFl_c (a b : Int) (ha : a.natAbs <= 1000000) (hb : b.natAbs <= 1000000) (w : World) : Calls Tryz.prog 144 #[.float .f64 (Fl.D a), .float .f64 (Fl.D b)] w fun e w' => e = .returned (.int .i64 (cmpI a b)) /\ w = w' := by
 have HC : Hid (cmpI a b = if a < b then -1 else if b < a then 1 else 0) := hZ9 rfl
 have e1 := ltB_D ha hb
 have e2 := gtB_D ha hb
 rcases Int.lt_trichotomy a b with h | h | h
 all_goals
  first | rw [decide_eq_true h] at e1 | rw [decide_eq_false (by omega)] at e1
  first | rw [decide_eq_true h] at e2 | rw [decide_eq_false (by omega)] at e2
  have H := hZ9 h
  clear h
  go_enter Tryz.func144, Tryz.ntmps144
  go_wp2_with fail
  refine (nanFl_c _ ha _).mono ?_; rintro e w1 ⟨rfl, rfl⟩
  go_wp2_with fail
  refine (nanFl_c _ hb _).mono ?_; rintro e w1 ⟨rfl, rfl⟩
  go_wp2_with fail
 · go_ret
   exact ⟨by rw [HC.out, if_pos H.out]; rfl, rfl⟩
 · go_ret
   have h := H.out
   exact ⟨by rw [HC.out, if_neg (by omega), if_neg (by omega)]; rfl, rfl⟩
 · go_ret
   have h := H.out
   exact ⟨by rw [HC.out, if_neg (by omega), if_pos h]; rfl, rfl⟩
theorem less_c (a b : Int) (w : World) : Calls Tryz.prog 150 #[.int .i64 a, .int .i64 b] w fun e w' => e = .returned (.int .i64 (cmpI a b)) /\ w = w' := by
 have HC : Hid (cmpI a b = if a < b then -1 else if b < a then 1 else 0) := hZ9 rfl
 rcases Int.lt_trichotomy a b with h | h | h
 all_goals
  go_enter Tryz.func150, Tryz.ntmps150
  go_wp2_with fail
 · go_ret
   exact ⟨by rw [HC.out, if_pos h]; rfl, rfl⟩
 · go_ret
   exact ⟨by rw [HC.out, if_neg (by omega), if_neg (by omega)]; rfl, rfl⟩
 · go_ret
   exact ⟨by rw [HC.out, if_neg (by omega), if_pos h]; rfl, rfl⟩
def orI (x y z : Int) : Int := if x ≠ 0 then x else if y ≠ 0 then y else z
theorem or_c (x y z : Int) (b : Nat) (w : World) (h0 : w.cell? ⟨b, 0, none⟩ = some (.int .i64 x)) (h1 : w.cell? ⟨b, 1, none⟩ = some (.int .i64 y)) (h2 : w.cell? ⟨b, 2, none⟩ = some (.int .i64 z)) :
  Calls Tryz.prog 143 #[.slice (some ⟨b, 0, none⟩) 3 3] w fun e w' => e = .returned (.int .i64 (orI x y z)) /\ w = w' := by
 have HC : Hid (orI x y z = if x ≠ 0 then x else if y ≠ 0 then y else z) := hZ9 rfl
 by_cases hx : x = 0
 · subst hx
   by_cases hy : y = 0
   · subst hy
     by_cases hz : z = 0
     · subst hz
       go_enter Tryz.func143, Tryz.ntmps143
       go_wp2_with fail
       refine wp_loop_rounds 4 ?_
       repeat any_goals (rw [rounds_succ]; go_wp2_with fail)
       go_ret
       exact ⟨by rw [HC.out]; rfl, rfl⟩
     · have hz' : (z != 0) = true := by simpa using hz
       have HZ := hZ9 hz
       clear hz
       go_enter Tryz.func143, Tryz.ntmps143
       go_wp2_with fail
       refine wp_loop_rounds 4 ?_
       repeat any_goals (rw [rounds_succ]; go_wp2_with fail)
       go_ret
       exact ⟨by rw [HC.out]; rfl, rfl⟩
   · have hy' : (y != 0) = true := by simpa using hy
     have HY := hZ9 hy
     clear hy
     go_enter Tryz.func143, Tryz.ntmps143
     go_wp2_with fail
     refine wp_loop_rounds 4 ?_
     repeat any_goals (rw [rounds_succ]; go_wp2_with fail)
     go_ret
     exact ⟨by rw [HC.out, if_neg (by simp), if_pos HY.out]; rfl, rfl⟩
 · have hx' : (x != 0) = true := by simpa using hx
   have HX := hZ9 hx
   clear hx
   go_enter Tryz.func143, Tryz.ntmps143
   go_wp2_with fail
   refine wp_loop_rounds 4 ?_
   repeat any_goals (rw [rounds_succ]; go_wp2_with fail)
   go_ret
   exact ⟨by rw [HC.out, if_pos HX.out]; rfl, rfl⟩
end
section
open Go.RowKit
def cmpP (a b c d : Int) : Int := orI (cmpI (a * a + b * b) (c * c + d * d)) (cmpI a c) (cmpI b d)
theorem compare_c (a b c d : Int) (h1 : PhS.inR a b = true) (h2 : PhS.inR c d = true) (w : World) :
  Calls Tryz.prog 108 #[.complex .f64 (Fl.D a) (Fl.D b), .complex .f64 (Fl.D c) (Fl.D d)] w fun e w' => e = .returned (.int .i64 (cmpP a b c d)) /\ Below w.heap.size w w' := by
 have hr1 : a.natAbs <= 1000000 /\ b.natAbs <= 1000000 := of_decide_eq_true h1
 have hr2 : c.natAbs <= 1000000 /\ d.natAbs <= 1000000 := of_decide_eq_true h2
 have f1 := fun w => formed_c (Fl.D a) (Fl.D b) (wd_D (by omega)) (wd_D (by omega)) w
 have f2 := fun w => formed_c (Fl.D c) (Fl.D d) (wd_D (by omega)) (wd_D (by omega)) w
 rw [okB_inR (by omega) (by omega), h1] at f1
 rw [okB_inR (by omega) (by omega), h2] at f2
 have n1 := norm_c a b h1
 have n2 := norm_c c d h2
 have k1 := cmpFl_c a c hr1.1 hr2.1
 have k2 := cmpFl_c b d hr1.2 hr2.2
 have k0 := cmpInt_c (a * a + b * b) (c * c + d * d)
 have HP : Hid (cmpP a b c d = orI (cmpI (a * a + b * b) (c * c + d * d)) (cmpI a c) (cmpI b d)) := hZ9 rfl
 generalize cmpI (a * a + b * b) (c * c + d * d) = q0 at *
 generalize a * a + b * b = m1 at *
 generalize c * c + d * d = m2 at *
 generalize cmpI a c = q1 at *
 generalize cmpI b d = q2 at *
 clear h1 h2 hr1 hr2
 go_enter Tryz.func108, Tryz.ntmps108
 go_wp2_with fail
 refine (f1 _).mono ?_; rintro e w1 ⟨rfl, hb1⟩
 go_wp2_with fail
 refine (f2 _).mono ?_; rintro e w2 ⟨rfl, hb2⟩
 go_wp2_with fail
 refine (n1 _).mono ?_; rintro e w3 ⟨rfl, hb3⟩
 go_wp2_with fail
 refine (n2 _).mono ?_; rintro e w4 ⟨rfl, hb4⟩
 go_wp2_with fail
 refine (k0 _).mono ?_; rintro e w5 ⟨rfl, rfl⟩
 go_wp2_with fail
 refine (k1 _).mono ?_; rintro e w6 ⟨rfl, rfl⟩
 go_wp2_with fail
 refine (k2 _).mono ?_; rintro e w7 ⟨rfl, rfl⟩
 go_wp2_with fail
 refine (or_c q0 q1 q2 _ _ (by go_simp) (by go_simp) (by go_simp)).mono ?_; rintro e w8 ⟨rfl, rfl⟩
 go_wp2_with fail
 go_ret
 exact ⟨by rw [HP.out]; rfl, below_alloc (below_trans hb1 (below_trans hb2 (below_trans hb3 hb4))) _⟩
end
section
open Go.RowKit
attribute [local go_sem ↓] Go.wp_at_zero Go.wp_at_succ
theorem refnorm2_c (a b : Int) (ha : a.natAbs <= 1000000) (hb : b.natAbs <= 1000000) (w : World) :
  Calls Tryz.prog 117 #[.agg #[.int .i64 a, .int .i64 b]] w fun e w' => e = .returned (.int .i64 (a * a + b * b)) /\ Below w.heap.size w w' := by
 have m1 := mul_le ha ha
 have m2 := mul_le hb hb
 have p1 : IntKind.i64.wrap (a * a) = a * a := Go.IntWalk.i64_in _ (by omega)
 have p2 : IntKind.i64.wrap (b * b) = b * b := Go.IntWalk.i64_in _ (by omega)
 have p3 : IntKind.i64.wrap (a * a + b * b) = a * a + b * b := Go.IntWalk.i64_in _ (by omega)
 clear ha hb
 go_enter Tryz.func117, Tryz.ntmps117
 go_wp2_with fail
 go_ret
 exact ⟨by go_num, (Below.refl _ _).alloc (Nat.le_refl _) _⟩
def CmpAt (w : World) (g : Nat) (p q r t : Int) (w' : World) : Prop :=
 w'.cell? ⟨g, 0, none⟩ = some (.int .i64 p) /\ w'.cell? ⟨g, 1, none⟩ = some (.int .i64 q) /\ w'.cell? ⟨g + 1, 0, none⟩ = some (.int .i64 r) /\ w'.cell? ⟨g + 1, 1, none⟩ = some (.int .i64 t) /\ Below w.heap.size w w'
theorem CmpAt.drew {w w' : World} {g : Nat} {p q r t : Int} (h : CmpAt w g p q r t w') : CmpAt w g p q r t w'.drew :=
 ⟨h.1, h.2.1, h.2.2.1, h.2.2.2.1, h.2.2.2.2.drew⟩
theorem keepTwo {w W w' : World} {g : Nat} {v0 v1 v2 v3 : Value} (h0 : W.cell? ⟨g, 0, none⟩ = some v0) (h1 : W.cell? ⟨g, 1, none⟩ = some v1)
  (h2 : W.cell? ⟨g + 1, 0, none⟩ = some v2) (h3 : W.cell? ⟨g + 1, 1, none⟩ = some v3) (hb : Below w.heap.size w W) (h : Below W.heap.size W w') :
  w'.cell? ⟨g, 0, none⟩ = some v0 /\ w'.cell? ⟨g, 1, none⟩ = some v1 /\ w'.cell? ⟨g + 1, 0, none⟩ = some v2 /\ w'.cell? ⟨g + 1, 1, none⟩ = some v3 /\ Below w.heap.size w w' :=
 ⟨below_cell h (Nat.le_refl _) h0, below_cell h (Nat.le_refl _) h1, below_cell h (Nat.le_refl _) h2, below_cell h (Nat.le_refl _) h3, hb.trans (h.mono hb.size)⟩
def RefCmp (a b c d : Int) (w : World) (e : Ending) (w' : World) : Prop := e = .returned (.int .i64 (cmpP a b c d)) /\ Below w.heap.size w w'
theorem refcompare_c (a b c d : Int) (ha : a.natAbs <= 1000000) (hb : b.natAbs <= 1000000) (hc : c.natAbs <= 1000000) (hd : d.natAbs <= 1000000) (w : World) :
  Calls Tryz.prog 118 #[.agg #[.int .i64 a, .int .i64 b], .agg #[.int .i64 c, .int .i64 d]] w (RefCmp a b c d w) := by
 have n1 := refnorm2_c a b ha hb
 have n2 := refnorm2_c c d hc hd
 have k0 := less_c (a * a + b * b) (c * c + d * d)
 have k1 := less_c a c
 have k2 := less_c b d
 have HP : Hid (cmpP a b c d = orI (cmpI (a * a + b * b) (c * c + d * d)) (cmpI a c) (cmpI b d)) := hZ9 rfl
 generalize cmpI (a * a + b * b) (c * c + d * d) = q0 at *
 generalize a * a + b * b = m1 at *
 generalize c * c + d * d = m2 at *
 generalize cmpI a c = q1 at *
 generalize cmpI b d = q2 at *
 clear ha hb hc hd
 go_enter Tryz.func118, Tryz.ntmps118
 go_wp2_with fail
 have hbeg : CmpAt w w.heap.size a b c d ((w.alloc (Obj.cells #[Value.int IntKind.i64 a, Value.int IntKind.i64 b] 114)).alloc (Obj.cells #[Value.int IntKind.i64 c, Value.int IntKind.i64 d] 114)) :=
  ⟨by simp [go_sem], by simp [go_sem], by simp [go_sem], by simp [go_sem], below_alloc (below_alloc (Below.refl _ _) _) _⟩
 generalize hgg : w.heap.size = g at *
 have HG := hZ9 hgg
 clear hgg
 generalize ((w.alloc (Obj.cells #[Value.int IntKind.i64 a, Value.int IntKind.i64 b] 114)).alloc (Obj.cells #[Value.int IntKind.i64 c, Value.int IntKind.i64 d] 114)) = wz at *
 go_cut [5] (fun v wc => v = .int .i64 q0 /\ CmpAt w g a b c d wc)
 case first =>
  go_region_held3 (fun w' => w'.cell? ⟨g, 0, none⟩ = some (.int .i64 a) /\ w'.cell? ⟨g, 1, none⟩ = some (.int .i64 b) /\ w'.cell? ⟨g + 1, 0, none⟩ = some (.int .i64 c) /\ w'.cell? ⟨g + 1, 1, none⟩ = some (.int .i64 d) /\ Below w.heap.size w w')
   (first | exact hbeg.drew | (go_split_ands; exact keepTwo (by assumption) (by assumption) (by assumption) (by assumption) (by assumption) hbN) | go_keep)
   (first
     | (go_at_call 117; ((with_reducible refine (n1 _).mono ?_); rintro e w1 ⟨rfl, hbN⟩))
     | (go_at_call 117; ((with_reducible refine (n2 _).mono ?_); rintro e w1 ⟨rfl, hbN⟩))
     | (go_at_call 150; refine (k0 _).mono ?_; rintro e w1 ⟨rfl, rfl⟩))
  all_goals go_wp2_with fail
  all_goals go_split_ands
  all_goals go_meet
  all_goals exact ⟨rfl, by assumption, by assumption, by assumption, by assumption, by assumption⟩
 case rest =>
  obtain ⟨rfl, c0, c1, c2, c3, c4⟩ := hcut
  by_cases h0 : q0 = 0
  · subst h0
    go_wp2_with fail
    refine (k1 _).mono ?_; rintro e w1 ⟨rfl, rfl⟩
    by_cases h1 : q1 = 0
    · subst h1
      go_wp2_with fail
      refine (k2 _).mono ?_; rintro e w1 ⟨rfl, rfl⟩
      go_wp2_with fail
      go_ret
      exact ⟨by rw [HP.out]; rfl, c4⟩
    · have H1 := hZ9 h1
      have h1' : (q1 != 0) = true := by simpa using h1
      clear h1
      go_wp2_with fail
      go_ret
      exact ⟨by rw [HP.out]; unfold orI; rw [if_neg (by simp), if_pos H1.out]; rfl, c4⟩
  · have H0 := hZ9 h0
    have h0' : (q0 != 0) = true := by simpa using h0
    clear h0
    go_wp2_with fail
    go_ret
    exact ⟨by rw [HP.out]; unfold orI; rw [if_pos H0.out]; rfl, c4⟩
end
end Go.Proofs.YtjmfknfponjgkaaGreatDoor
