/- The walk of the norm of a number. Conditions: the parts are whole numbers up to a million. The walks of sums and products of numbers. Conditions: the parts are whole numbers up to a million. The walks of the document's sum, product and comparison of pairs. Conditions: the parts are up to a million. -/
import Derived.Laws.ComplexArith
import Derived.Test.YtmnhgbkdahdoiaaGreatDoorMPhc
namespace Go.Proofs.YtmnhgbkdahdoiaaGreatDoor
open Go.RowKit

theorem okB_off {n : Int} (h : n.natAbs < 2 ^ 53) (h1 : 1000000 < n.natAbs) : okB (Fl.D n) = false := by
  unfold okB Fl.numOf
  rw [Fl.toInt_val (Fl.read_D n h).val]
  simp only
  rw [if_neg (by omega)]
  rfl
theorem okB_inR {n m : Int} (hn : n.natAbs < 2 ^ 53) (hm : m.natAbs < 2 ^ 53) : (okB (Fl.D n) && okB (Fl.D m)) = PhS.inR n m := by
  by_cases h1 : n.natAbs ≤ 1000000
  · by_cases h2 : m.natAbs ≤ 1000000
    · rw [okB_D h1, okB_D h2]
      exact (decide_eq_true (show n.natAbs ≤ 1000000 ∧ m.natAbs ≤ 1000000 from ⟨h1, h2⟩)).symm
    · rw [okB_off hm (by omega), Bool.and_false]
      exact (decide_eq_false (show ¬ (n.natAbs ≤ 1000000 ∧ m.natAbs ≤ 1000000) from fun h => h2 h.2)).symm
  · rw [okB_off hn (by omega), Bool.false_and]
    exact (decide_eq_false (show ¬ (n.natAbs ≤ 1000000 ∧ m.natAbs ≤ 1000000) from fun h => h1 h.1)).symm

end Go.Proofs.YtmnhgbkdahdoiaaGreatDoor
namespace Go.Proofs.YtmnhgbkdahdoiaaGreatDoor
open Go.RowKit

set_option maxRecDepth 100000 in
theorem positive_c (x y : Nat) (n m : Int) (hx : Fl.IsW x n) (hy : Fl.IsW y m) (hn : n.natAbs < 2 ^ 53) (hm : m.natAbs < 2 ^ 53) (w : World) :
    Calls Tryz.prog 143 #[.complex .f64 x y] w fun e w' => e = .returned (.complex .f64 (Fl.D n) (Fl.D m)) ∧ w = w' := by
  have e1 : floatBits .add .f64 x 0 = some (Fl.D n) := by have := Fl.add_nought hx hn; rw [Fl.D_zero] at this; exact this
  have e2 : floatBits .add .f64 y 0 = some (Fl.D m) := by have := Fl.add_nought hy hm; rw [Fl.D_zero] at this; exact this
  have r1 := fun w => run_float_arith (P := Tryz.prog) w .add 143 .f64 x 0 (Fl.D n) e1
  have r2 := fun w => run_float_arith (P := Tryz.prog) w .add 143 .f64 y 0 (Fl.D m) e2
  clear e1 e2 hn hm hx hy
  go_enter Tryz.func143, Tryz.ntmps143
  go_wp2_with fail
  go_ret
  exact ⟨rfl, rfl⟩

def Reckoned (n m : Int) (w : World) (e : Ending) (w' : World) : Prop :=
  e = .returned (if PhS.inR n m = true then .tuple #[.complex .f64 (Fl.D n) (Fl.D m), .int .i64 0] else .tuple #[.complex .f64 0 0, .int .i64 3]) ∧ Below w.heap.size w w'

set_option maxRecDepth 100000 in
theorem checked_c (a b c d : Int) (h1 : PhS.inR a b = true) (h2 : PhS.inR c d = true) (x y : Nat) (n m : Int) (hx : Fl.IsW x n) (hy : Fl.IsW y m) (hn : n.natAbs < 2 ^ 53) (hm : m.natAbs < 2 ^ 53) (w : World) :
    Calls Tryz.prog 104 #[.complex .f64 (Fl.D a) (Fl.D b), .complex .f64 (Fl.D c) (Fl.D d), .complex .f64 x y] w (Reckoned n m w) := by
  have hr1 : a.natAbs ≤ 1000000 ∧ b.natAbs ≤ 1000000 := of_decide_eq_true h1
  have hr2 : c.natAbs ≤ 1000000 ∧ d.natAbs ≤ 1000000 := of_decide_eq_true h2
  have f1 := fun w => formed_c (Fl.D a) (Fl.D b) (wd_D (by omega)) (wd_D (by omega)) w
  have f2 := fun w => formed_c (Fl.D c) (Fl.D d) (wd_D (by omega)) (wd_D (by omega)) w
  have f3 := fun w => formed_c (Fl.D n) (Fl.D m) (wd_D hn) (wd_D hm) w
  rw [okB_inR (by omega) (by omega), h1] at f1
  rw [okB_inR (by omega) (by omega), h2] at f2
  rw [okB_inR hn hm] at f3
  have p := fun w => positive_c x y n m hx hy hn hm w
  clear hr1 hr2 h1 h2
  cases hin : PhS.inR n m with
  | true =>
    rw [hin] at f3
    have HIN := Lib.hid hin
    clear hin
    go_enter Tryz.func104, Tryz.ntmps104
    go_wp2_with fail
    refine (f1 _).mono ?_; rintro e w1 ⟨rfl, hb1⟩
    go_wp2_with fail
    refine (f2 _).mono ?_; rintro e w2 ⟨rfl, hb2⟩
    go_wp2_with fail
    refine (p _).mono ?_; rintro e w3 ⟨rfl, rfl⟩
    go_wp2_with fail
    refine (f3 _).mono ?_; rintro e w4 ⟨rfl, hb4⟩
    go_wp2_with fail
    go_ret2
    exact ⟨by rw [HIN.out, if_pos rfl]; rfl, below_trans hb1 (below_trans hb2 hb4)⟩
  | false =>
    rw [hin] at f3
    have HIN := Lib.hid hin
    clear hin
    go_enter Tryz.func104, Tryz.ntmps104
    go_wp2_with fail
    refine (f1 _).mono ?_; rintro e w1 ⟨rfl, hb1⟩
    go_wp2_with fail
    refine (f2 _).mono ?_; rintro e w2 ⟨rfl, hb2⟩
    go_wp2_with fail
    refine (p _).mono ?_; rintro e w3 ⟨rfl, rfl⟩
    go_wp2_with fail
    refine (f3 _).mono ?_; rintro e w4 ⟨rfl, hb4⟩
    go_wp2_with fail
    go_ret2
    exact ⟨by rw [HIN.out, if_neg (by decide)]; rfl, below_trans hb1 (below_trans hb2 hb4)⟩

set_option maxRecDepth 100000 in
theorem add_c (a b c d : Int) (h1 : PhS.inR a b = true) (h2 : PhS.inR c d = true) (w : World) :
    Calls Tryz.prog 75 #[.complex .f64 (Fl.D a) (Fl.D b), .complex .f64 (Fl.D c) (Fl.D d)] w (Reckoned (a + c) (b + d) w) := by
  have hr1 : a.natAbs ≤ 1000000 ∧ b.natAbs ≤ 1000000 := of_decide_eq_true h1
  have hr2 : c.natAbs ≤ 1000000 ∧ d.natAbs ≤ 1000000 := of_decide_eq_true h2
  obtain ⟨x, ex, wx⟩ := Fl.add_W (Fl.isW_D a) (Fl.isW_D c) (by omega) (by omega) (by omega)
  obtain ⟨y, ey, wy⟩ := Fl.add_W (Fl.isW_D b) (Fl.isW_D d) (by omega) (by omega) (by omega)
  have es : cSumBits .add .f64 (Fl.D a) (Fl.D b) (Fl.D c) (Fl.D d) = some (x, y) := by
    unfold cSumBits
    have e1 : floatBits .add .f64 (Fl.D a) (Fl.D c) = some x := ex
    have e2 : floatBits .add .f64 (Fl.D b) (Fl.D d) = some y := ey
    rw [e1, e2]; rfl
  have r := fun w => run_complex_sum (P := Tryz.prog) w .add (.inl rfl) 103 .f64 _ _ _ _ x y es
  have ck := fun w => checked_c a b c d h1 h2 x y (a + c) (b + d) wx wy (by omega) (by omega) w
  clear ex ey es hr1 hr2 h1 h2 wx wy
  cases hin : PhS.inR (a + c) (b + d) with
  | true =>
    unfold Reckoned at ck
    simp only [hin, if_true] at ck
    have HIN := Lib.hid hin
    clear hin
    go_enter Tryz.func75, Tryz.ntmps75
    go_wp2_with fail
    refine (ck _).mono ?_; rintro e w1 ⟨rfl, hb⟩
    go_wp2_with fail
    go_ret2
    exact ⟨by rw [HIN.out, if_pos rfl]; rfl, hb⟩
  | false =>
    unfold Reckoned at ck
    simp only [hin, Bool.false_eq_true, if_false] at ck
    have HIN := Lib.hid hin
    clear hin
    go_enter Tryz.func75, Tryz.ntmps75
    go_wp2_with fail
    refine (ck _).mono ?_; rintro e w1 ⟨rfl, hb⟩
    go_wp2_with fail
    go_ret2
    exact ⟨by rw [HIN.out, if_neg (by decide)]; rfl, hb⟩

end Go.Proofs.YtmnhgbkdahdoiaaGreatDoor
namespace Go.Proofs.YtmnhgbkdahdoiaaGreatDoor
open Go.RowKit

def RefRet (n m : Int) (w : World) (e : Ending) (w' : World) : Prop :=
  e = .returned (if PhS.inR n m = true then .tuple #[.agg #[.int .i64 n, .int .i64 m], .int .i64 0] else .tuple #[.agg #[.int .i64 0, .int .i64 0], .int .i64 3]) ∧ Below w.heap.size w w'

/-- the result's cells at g, the pair behind them -/
def PairG (w : World) (g : Nat) (wc : World) (x y : Int) : Prop :=
  Below w.heap.size w wc ∧ w.heap.size ≤ g ∧ Whole wc g 114 #[.int .i64 0, .int .i64 0] ∧ Whole wc (g + 1) 114 #[.int .i64 x, .int .i64 y]
theorem PairG.made {w w' : World} {o1 o2 : Obj} {x y : Int} (hb : Below ((((w.alloc o1).alloc o2).alloc (Obj.cells #[Value.int .i64 0, Value.int .i64 0] 114)).alloc (Obj.cells #[Value.int .i64 x, Value.int .i64 y] 114)).heap.size
    ((((w.alloc o1).alloc o2).alloc (Obj.cells #[Value.int .i64 0, Value.int .i64 0] 114)).alloc (Obj.cells #[Value.int .i64 x, Value.int .i64 y] 114)) w') : PairG w (w.heap.size + 1 + 1) w' x y := by
  have e : ((w.alloc o1).alloc o2).heap.size = w.heap.size + 1 + 1 := by simp
  have h1 := Whole.made ((w.alloc o1).alloc o2) 114 #[.int .i64 0, .int .i64 0]
  have h2 := Whole.made (((w.alloc o1).alloc o2).alloc (Obj.cells #[Value.int .i64 0, Value.int .i64 0] 114)) 114 #[.int .i64 x, .int .i64 y]
  refine ⟨below_trans (below_alloc (below_alloc (below_alloc (below_alloc (Below.refl _ _) _) _) _) _) hb, by omega, ?_, ?_⟩
  · rw [e] at h1; exact (h1.alloc _).call hb
  · have e2 : (((w.alloc o1).alloc o2).alloc (Obj.cells #[Value.int .i64 0, Value.int .i64 0] 114)).heap.size = w.heap.size + 1 + 1 + 1 := by simp
    rw [e2] at h2; exact h2.call hb
theorem PairG.facts {w wc : World} {g : Nat} {x y : Int} (h : PairG w g wc x y) : wc.cell? ⟨g, 0, none⟩ = some (.int .i64 0) ∧ wc.cell? ⟨g, 1, none⟩ = some (.int .i64 0) ∧ wc.cell? ⟨g + 1, 0, none⟩ = some (.int .i64 x) ∧ wc.cell? ⟨g + 1, 1, none⟩ = some (.int .i64 y) :=
  ⟨h.2.2.1.cell 0, h.2.2.1.cell 1, h.2.2.2.cell 0, h.2.2.2.cell 1⟩
theorem PairG.thaw {w wc : World} {g : Nat} {x y : Int} (h : PairG w g wc x y) : wc.frozen? ⟨g, 0, none⟩ = false ∧ wc.frozen? ⟨g, 1, none⟩ = false ∧ wc.frozen? ⟨g + 1, 0, none⟩ = false ∧ wc.frozen? ⟨g + 1, 1, none⟩ = false :=
  ⟨h.2.2.1.thaw 0, h.2.2.1.thaw 1, h.2.2.2.thaw 0, h.2.2.2.thaw 1⟩
theorem PairG.last {w wc : World} {g : Nat} {x y : Int} (h : PairG w g wc x y) (a b : Int) : (wc.setCell ⟨g, 0, none⟩ (.int .i64 a)).cell? ⟨g, 0, none⟩ = some (.int .i64 a) ∧
    ((wc.setCell ⟨g, 0, none⟩ (.int .i64 a)).setCell ⟨g, 1, none⟩ (.int .i64 b)).cell? ⟨g, 1, none⟩ = some (.int .i64 b) ∧
    (wc.setCell ⟨g, 0, none⟩ (.int .i64 a)).frozen? ⟨g, 1, none⟩ = false ∧ (wc.setCell ⟨g, 0, none⟩ (.int .i64 a)).cell? ⟨g, 1, none⟩ = some (.int .i64 0) := by
  have h1 := h.2.2.1.put 0 (.int .i64 a)
  have h2 := h1.put 1 (.int .i64 b)
  exact ⟨h1.cell 0, h2.cell 1, h1.thaw 1, h1.cell 1⟩
theorem PairG.ends {w wc : World} {g : Nat} {x y : Int} (h : PairG w g wc x y) (a b : Int) : Below w.heap.size w ((wc.setCell ⟨g, 0, none⟩ (.int .i64 a)).setCell ⟨g, 1, none⟩ (.int .i64 b)) :=
  (h.1.setCell h.2.1 _).setCell h.2.1 _

set_option maxRecDepth 100000 in
theorem refadd_c (a b c d : Int) (h1 : PhS.inR a b = true) (h2 : PhS.inR c d = true) (w : World) :
    Calls Tryz.prog 85 #[.agg #[.int .i64 a, .int .i64 b], .agg #[.int .i64 c, .int .i64 d]] w (RefRet (a + c) (b + d) w) := by
  have hr1 : a.natAbs ≤ 1000000 ∧ b.natAbs ≤ 1000000 := of_decide_eq_true h1
  have hr2 : c.natAbs ≤ 1000000 ∧ d.natAbs ≤ 1000000 := of_decide_eq_true h2
  have p1 : IntKind.i64.wrap (a + c) = a + c := Go.IntWalk.i64_in _ (by omega)
  have p2 : IntKind.i64.wrap (b + d) = b + d := Go.IntWalk.i64_in _ (by omega)
  have hw := fun w => within_c (a + c) (b + d) (by omega) (by omega) w
  cases hin : PhS.inR (a + c) (b + d) with
  | true =>
    have HIN := Lib.hid hin
    have hin' := hin
    clear h1 h2 hin hr1 hr2
    rw [hin'] at hw
    clear hin'
    go_enter Tryz.func85, Tryz.ntmps85
    go_wp2_with fail
    refine (hw _).mono ?_
    rintro e w1 ⟨rfl, hb⟩
    have hq := PairG.made hb
    have HQ := Lib.hid hq
    obtain ⟨f1, f2, f3, f4⟩ := hq.facts
    obtain ⟨g1, g2, g3, g4⟩ := hq.thaw
    obtain ⟨k1, k2, _, _⟩ := hq.last (a + c) (b + d)
    clear hq hb
    go_wp2_with fail
    refine bodyPost_ret (v := .tuple #[.agg #[.int .i64 (a + c), .int .i64 (b + d)], .int .i64 0]) (by simp [results, Tryz.results85, go_sem, k1, k2]) rfl ?_
    exact ⟨by rw [HIN.out]; rfl, HQ.out.ends _ _⟩
  | false =>
    have HIN := Lib.hid hin
    have hin' := hin
    clear h1 h2 hin hr1 hr2
    rw [hin'] at hw
    clear hin'
    go_enter Tryz.func85, Tryz.ntmps85
    go_wp2_with fail
    refine (hw _).mono ?_
    rintro e w1 ⟨rfl, hb⟩
    have hq := PairG.made hb
    have HQ := Lib.hid hq
    obtain ⟨f1, f2, f3, f4⟩ := hq.facts
    obtain ⟨g1, g2, g3, g4⟩ := hq.thaw
    obtain ⟨k1, k2, _, _⟩ := hq.last 0 0
    clear hq hb
    go_wp2_with fail
    refine bodyPost_ret (v := .tuple #[.agg #[.int .i64 0, .int .i64 0], .int .i64 3]) (by simp [results, Tryz.results85, go_sem, k1, k2]) rfl ?_
    exact ⟨by rw [HIN.out]; rfl, HQ.out.ends _ _⟩

end Go.Proofs.YtmnhgbkdahdoiaaGreatDoor
