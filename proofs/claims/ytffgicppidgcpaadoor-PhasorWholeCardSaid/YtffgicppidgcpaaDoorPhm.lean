/- The walk of the law that sums and products are whole numbers. Conditions: none beyond the library's variables. -/
import Derived.Test.YtffgicppidgcpaaDoorPhl
import Derived.Test.YtffgicppidgcpaaDoorPhj
import Derived.Deep.DeepCutAuto
namespace Go.Proofs.YtffgicppidgcpaaDoor
open Go.RowKit

set_option maxRecDepth 100000 in
theorem refnorm_c (a b : Int) (ha : a.natAbs ≤ 1000000) (hb : b.natAbs ≤ 1000000) (w : World) :
    Calls Tryd.prog 24 #[.agg #[.int .i64 a, .int .i64 b]] w fun e w' => e = .returned (.int .i64 (a * a + b * b)) ∧ Below w.heap.size w w' := by
  have m1 := mul_le ha ha
  have m2 := mul_le hb hb
  have p1 : IntKind.i64.wrap (a * a) = a * a := Go.IntWalk.i64_in _ (by omega)
  have p2 : IntKind.i64.wrap (b * b) = b * b := Go.IntWalk.i64_in _ (by omega)
  have p3 : IntKind.i64.wrap (a * a + b * b) = a * a + b * b := Go.IntWalk.i64_in _ (by omega)
  clear ha hb
  go_enter Tryd.func24, Tryd.ntmps24
  go_wp2_with fail
  go_ret
  exact ⟨by go_num, (Below.refl _ _).alloc (Nat.le_refl _) _⟩

theorem tmod700 (a : Int) : (a.tmod 700).natAbs ≤ 699 := by
  have h1 := Int.tmod_lt_of_pos a (b := 700) (by decide)
  have h2 := Int.lt_tmod_of_pos a (b := 700) (by decide)
  omega

theorem keep4 {w W w' : World} {g : Nat} {v0 v1 v2 v3 : Value} (h0 : W.cell? ⟨g, 0, none⟩ = some v0) (h1 : W.cell? ⟨g, 1, none⟩ = some v1)
    (h2 : W.cell? ⟨g + 1, 0, none⟩ = some v2) (h3 : W.cell? ⟨g + 1, 1, none⟩ = some v3) (hb : Below w.heap.size w W) (h : Below W.heap.size W w') :
    w'.cell? ⟨g, 0, none⟩ = some v0 ∧ w'.cell? ⟨g, 1, none⟩ = some v1 ∧ w'.cell? ⟨g + 1, 0, none⟩ = some v2 ∧ w'.cell? ⟨g + 1, 1, none⟩ = some v3 ∧ Below w.heap.size w w' :=
  ⟨below_cell h (Nat.le_refl _) h0, below_cell h (Nat.le_refl _) h1, below_cell h (Nat.le_refl _) h2, below_cell h (Nat.le_refl _) h3, hb.trans (h.mono hb.size)⟩

theorem mul699 {a c : Int} (ha : a.natAbs ≤ 699) (hc : c.natAbs ≤ 699) : (a * c).natAbs ≤ 488601 := by
  rw [Int.natAbs_mul]
  exact Nat.mul_le_mul ha hc

/-- where the two pairs stand -/
def FourAt (w : World) (g : Nat) (p q r t : Int) (w' : World) : Prop :=
  w'.cell? ⟨g, 0, none⟩ = some (.int .i64 p) ∧ w'.cell? ⟨g, 1, none⟩ = some (.int .i64 q) ∧ w'.cell? ⟨g + 1, 0, none⟩ = some (.int .i64 r) ∧ w'.cell? ⟨g + 1, 1, none⟩ = some (.int .i64 t) ∧ Below w.heap.size w w'
theorem FourAt.drew {w w' : World} {g : Nat} {p q r t : Int} (h : FourAt w g p q r t w') : FourAt w g p q r t w'.drew :=
  ⟨h.1, h.2.1, h.2.2.1, h.2.2.2.1, h.2.2.2.2.drew⟩

theorem FourAt.call {w w' w'' : World} {g : Nat} {p q r t : Int} (h : FourAt w g p q r t w') (hb : Below w'.heap.size w' w'') : FourAt w g p q r t w'' :=
  keep4 h.1 h.2.1 h.2.2.1 h.2.2.2.1 h.2.2.2.2 hb

set_option maxRecDepth 100000 in
set_option maxHeartbeats 4000000 in
theorem whole_c (a b c d : Int) (w : World) (hE : Env w) :
    Calls Tryd.prog 7 #[.int .i16 a, .int .i16 b, .int .i16 c, .int .i16 d] w (True_ w) := by
  have ha := tmod700 a
  have hb := tmod700 b
  have hc := tmod700 c
  have hd := tmod700 d
  go_enter Tryd.func7, Tryd.ntmps7
  go_wp2_with fail
  refine (awake_c _ hE).mono ?_
  rintro e w1 ⟨rfl, hb1⟩
  go_wp2_with fail
  generalize a.tmod 700 = p at *
  generalize b.tmod 700 = q at *
  generalize c.tmod 700 = r at *
  generalize d.tmod 700 = t at *
  have i1 : PhS.inR p q = true := decide_eq_true (show p.natAbs ≤ 1000000 ∧ q.natAbs ≤ 1000000 from ⟨by omega, by omega⟩)
  have i2 : PhS.inR r t = true := decide_eq_true (show r.natAbs ≤ 1000000 ∧ t.natAbs ≤ 1000000 from ⟨by omega, by omega⟩)
  have m1 := mul699 ha hc
  have m2 := mul699 hb hd
  have m3 := mul699 ha hd
  have m4 := mul699 hb hc
  have i3 : PhS.inR (p + r) (q + t) = true := decide_eq_true (show (p + r).natAbs ≤ 1000000 ∧ (q + t).natAbs ≤ 1000000 from ⟨by omega, by omega⟩)
  have i4 : PhS.inR (p * r - q * t) (p * t + q * r) = true := decide_eq_true (show (p * r - q * t).natAbs ≤ 1000000 ∧ (p * t + q * r).natAbs ≤ 1000000 from ⟨by omega, by omega⟩)
  have hadd := fun w => add_c p q r t i1 i2 w
  have hmul := fun w => mul_c p q r t i1 i2 w
  unfold Reckoned at hadd hmul
  rw [i3] at hadd
  rw [i4] at hmul
  simp only [if_true] at hadd hmul
  have f1 := fun w => formed_c (Fl.D (p + r)) (Fl.D (q + t)) (wd_D (by omega)) (wd_D (by omega)) w
  have f2 := fun w => formed_c (Fl.D (p * r - q * t)) (Fl.D (p * t + q * r)) (wd_D (by omega)) (wd_D (by omega)) w
  rw [okB_inR (by omega) (by omega), i3] at f1
  rw [okB_inR (by omega) (by omega), i4] at f2
  have hn := fun w => norm_c (p * r - q * t) (p * t + q * r) i4 w
  have hr1 := fun w => refnorm_c p q (by omega) (by omega) w
  have hr2 := fun w => refnorm_c r t (by omega) (by omega) w
  have hsq : (p * p + q * q) * (r * r + t * t) = (p * r - q * t) * (p * r - q * t) + (p * t + q * r) * (p * t + q * r) := by
    simp only [Int.add_mul, Int.mul_add, Int.sub_mul, Int.mul_sub]
    simp only [Int.mul_comm, Int.mul_left_comm]
    omega
  have hsq1 : IntKind.i64.wrap ((p * p + q * q) * (r * r + t * t)) = (p * r - q * t) * (p * r - q * t) + (p * t + q * r) * (p * t + q * r) := by
    rw [hsq]
    have j1 := mul_le (a := p * r - q * t) (c := p * r - q * t) (by omega) (by omega)
    have j2 := mul_le (a := p * t + q * r) (c := p * t + q * r) (by omega) (by omega)
    exact Go.IntWalk.i64_in _ (by omega)
  have hyy : IntKind.i64.wrap ((p * p + q * q) * (r * r + t * t)) = (p * r - q * t) * (p * r - q * t) + (p * t + q * r) * (p * t + q * r) := hsq1
  generalize p * p + q * q = N1 at *
  generalize r * r + t * t = N2 at *
  generalize (p * r - q * t) * (p * r - q * t) + (p * t + q * r) * (p * t + q * r) = N3 at *
  clear hsq1
  generalize hg1 : p + r = x1 at *
  generalize hg2 : q + t = x2 at *
  generalize hg3 : p * r - q * t = y1 at *
  generalize hg4 : p * t + q * r = y2 at *
  clear hg1 hg2 hg3 hg4 m1 m2 m3 m4 hsq
  have hbeg : FourAt w w1.heap.size p q r t ((w1.alloc (Obj.cells #[Value.int IntKind.i64 p, Value.int IntKind.i64 q] 29)).alloc (Obj.cells #[Value.int IntKind.i64 r, Value.int IntKind.i64 t] 29)) :=
    ⟨by simp [go_sem], by simp [go_sem], by simp [go_sem], by simp [go_sem], (below_alloc (below_alloc hb1 _) _)⟩
  generalize hgg : w1.heap.size = g at *
  clear hgg
  generalize ((w1.alloc (Obj.cells #[Value.int IntKind.i64 p, Value.int IntKind.i64 q] 29)).alloc (Obj.cells #[Value.int IntKind.i64 r, Value.int IntKind.i64 t] 29)) = wz at *
  go_cut [11, 12] (fun v e wc => v = .complex .f64 (Fl.D x1) (Fl.D x2) ∧ e = .int .i64 0 ∧ FourAt w g p q r t wc)
  case first =>
    go_region_held3 (fun w' => w'.cell? ⟨g, 0, none⟩ = some (.int .i64 p) ∧ w'.cell? ⟨g, 1, none⟩ = some (.int .i64 q) ∧ w'.cell? ⟨g + 1, 0, none⟩ = some (.int .i64 r) ∧ w'.cell? ⟨g + 1, 1, none⟩ = some (.int .i64 t) ∧ Below w.heap.size w w')
      (first | exact hbeg.drew | (go_split_ands; exact keep4 (by assumption) (by assumption) (by assumption) (by assumption) (by assumption) hbN) | go_keep)
      (first
        | (go_at_call 18; refine (z_c _ _ (by omega) (by omega) _).mono ?_; rintro e w1 ⟨rfl, hbN⟩)
        | (go_at_call 19; refine (hadd _).mono ?_; rintro e w1 ⟨rfl, hbN⟩))
    all_goals go_wp2_with fail
    all_goals go_split_ands
    all_goals go_meet
    all_goals exact ⟨rfl, rfl, by assumption, by assumption, by assumption, by assumption, by assumption⟩
  case rest =>
    obtain ⟨rfl, rfl, hcut⟩ := hcut
    go_wp2_with fail
    go_cut [13, 14] (fun v e wd => v = .complex .f64 (Fl.D y1) (Fl.D y2) ∧ e = .int .i64 0 ∧ FourAt w g p q r t wd)
    case first =>
      go_region_held3 (fun w' => w'.cell? ⟨g, 0, none⟩ = some (.int .i64 p) ∧ w'.cell? ⟨g, 1, none⟩ = some (.int .i64 q) ∧ w'.cell? ⟨g + 1, 0, none⟩ = some (.int .i64 r) ∧ w'.cell? ⟨g + 1, 1, none⟩ = some (.int .i64 t) ∧ Below w.heap.size w w')
        (first | exact hcut.drew | (go_split_ands; exact keep4 (by assumption) (by assumption) (by assumption) (by assumption) (by assumption) hbN) | go_keep)
        (first
          | (go_at_call 18; refine (z_c _ _ (by omega) (by omega) _).mono ?_; rintro e w1 ⟨rfl, hbN⟩)
          | (go_at_call 20; refine (hmul _).mono ?_; rintro e w1 ⟨rfl, hbN⟩))
      all_goals go_wp2_with fail
      all_goals go_split_ands
      all_goals go_meet
      all_goals exact ⟨rfl, rfl, by assumption, by assumption, by assumption, by assumption, by assumption⟩
    case rest =>
      obtain ⟨rfl, rfl, hcut⟩ := hcut
      clear hadd hmul i1 i2 i3 i4 ha hb hc hd hbeg hb1 hE
      generalize Fl.D x1 = X1 at *
      generalize Fl.D x2 = X2 at *
      generalize Fl.D y1 = Y1 at *
      generalize Fl.D y2 = Y2 at *
      go_wp2_with fail
      have hcut := hcut.drew
      obtain ⟨c0, c1, c2, c3, c4⟩ := id hcut
      go_region_with (first
          | (go_at_call 13; first | ((with_reducible refine (f1 _).mono ?_); rintro e w1 ⟨rfl, hbN⟩; replace hcut := hcut.call hbN; obtain ⟨c0, c1, c2, c3, c4⟩ := id hcut) | ((with_reducible refine (f2 _).mono ?_); rintro e w1 ⟨rfl, hbN⟩; replace hcut := hcut.call hbN; obtain ⟨c0, c1, c2, c3, c4⟩ := id hcut))
          | (go_at_call 23; (with_reducible refine (hn _).mono ?_); rintro e w1 ⟨rfl, hbN⟩; replace hcut := hcut.call hbN; obtain ⟨c0, c1, c2, c3, c4⟩ := id hcut)
          | (go_at_call 24; first | ((with_reducible refine (hr1 _).mono ?_); rintro e w1 ⟨rfl, hbN⟩; replace hcut := hcut.call hbN; obtain ⟨c0, c1, c2, c3, c4⟩ := id hcut) | ((with_reducible refine (hr2 _).mono ?_); rintro e w1 ⟨rfl, hbN⟩; replace hcut := hcut.call hbN; obtain ⟨c0, c1, c2, c3, c4⟩ := id hcut)))
      all_goals go_wp2_with fail
      all_goals go_ret
      all_goals exact ⟨rfl, hcut.2.2.2.2⟩
end Go.Proofs.YtffgicppidgcpaaDoor
