/- The walks of the document's sum, product and comparison of pairs. Conditions: the parts are up to a million. -/
import Derived.Test.YtffgicppidgcpaaDoorPhp
namespace Go.Proofs.YtffgicppidgcpaaDoor
open Go.RowKit

def RefRet (n m : Int) (w : World) (e : Ending) (w' : World) : Prop :=
  e = .returned (if PhS.inR n m = true then .tuple #[.agg #[.int .i64 n, .int .i64 m], .int .i64 0] else .tuple #[.agg #[.int .i64 0, .int .i64 0], .int .i64 3]) ∧ Below w.heap.size w w'

/-- the result's cells at g, the pair behind them -/
def PairG (w : World) (g : Nat) (wc : World) (x y : Int) : Prop :=
  Below w.heap.size w wc ∧ w.heap.size ≤ g ∧ Whole wc g 29 #[.int .i64 0, .int .i64 0] ∧ Whole wc (g + 1) 29 #[.int .i64 x, .int .i64 y]
theorem PairG.made {w w' : World} {o1 o2 : Obj} {x y : Int} (hb : Below ((((w.alloc o1).alloc o2).alloc (Obj.cells #[Value.int .i64 0, Value.int .i64 0] 29)).alloc (Obj.cells #[Value.int .i64 x, Value.int .i64 y] 29)).heap.size
    ((((w.alloc o1).alloc o2).alloc (Obj.cells #[Value.int .i64 0, Value.int .i64 0] 29)).alloc (Obj.cells #[Value.int .i64 x, Value.int .i64 y] 29)) w') : PairG w (w.heap.size + 1 + 1) w' x y := by
  have e : ((w.alloc o1).alloc o2).heap.size = w.heap.size + 1 + 1 := by simp
  have h1 := Whole.made ((w.alloc o1).alloc o2) 29 #[.int .i64 0, .int .i64 0]
  have h2 := Whole.made (((w.alloc o1).alloc o2).alloc (Obj.cells #[Value.int .i64 0, Value.int .i64 0] 29)) 29 #[.int .i64 x, .int .i64 y]
  refine ⟨below_trans (below_alloc (below_alloc (below_alloc (below_alloc (Below.refl _ _) _) _) _) _) hb, by omega, ?_, ?_⟩
  · rw [e] at h1; exact (h1.alloc _).call hb
  · have e2 : (((w.alloc o1).alloc o2).alloc (Obj.cells #[Value.int .i64 0, Value.int .i64 0] 29)).heap.size = w.heap.size + 1 + 1 + 1 := by simp
    rw [e2] at h2; exact h2.call hb
theorem PairG.facts {w wc : World} {g : Nat} {x y : Int} (h : PairG w g wc x y) : wc.cell? ⟨g, 0, none⟩ = some (.int .i64 0) ∧ wc.cell? ⟨g, 1, none⟩ = some (.int .i64 0) ∧ wc.cell? ⟨g + 1, 0, none⟩ = some (.int .i64 x) ∧ wc.cell? ⟨g + 1, 1, none⟩ = some (.int .i64 y) :=
  ⟨h.2.2.1.cell 0, h.2.2.1.cell 1, h.2.2.2.cell 0, h.2.2.2.cell 1⟩
theorem PairG.thaw {w wc : World} {g : Nat} {x y : Int} (h : PairG w g wc x y) : wc.frozen? ⟨g, 0, none⟩ = false ∧ wc.frozen? ⟨g, 1, none⟩ = false ∧ wc.frozen? ⟨g + 1, 0, none⟩ = false ∧ wc.frozen? ⟨g + 1, 1, none⟩ = false :=
  ⟨h.2.2.1.thaw 0, h.2.2.1.thaw 1, h.2.2.2.thaw 0, h.2.2.2.thaw 1⟩
theorem PairG.last {w wc : World} {g : Nat} {x y : Int} (h : PairG w g wc x y) (a b : Int) : (wc.setCell ⟨g, 0, none⟩ (.int .i64 a)).cell? ⟨g, 0, none⟩ = some (.int .i64 a) ∧
    ((wc.setCell ⟨g, 0, none⟩ (.int .i64 a)).setCell ⟨g, 1, none⟩ (.int .i64 b)).cell? ⟨g, 1, none⟩ = some (.int .i64 b) ∧
    (wc.setCell ⟨g, 0, none⟩ (.int .i64 a)).frozen? ⟨g, 1, none⟩ = false ∧ (wc.setCell ⟨g, 0, none⟩ (.int .i64 a)).cell? ⟨g, 1, none⟩ = some (.int .i64 0) := by
  have h1 := h.2.2.1.put 0 (.int .i64 a)
  have h2 := h1.put 1 (.int .i64 b)
  exact ⟨h1.cell 0, h2.cell 1, h1.thaw 1, h1.cell 1⟩
theorem PairG.ends {w wc : World} {g : Nat} {x y : Int} (h : PairG w g wc x y) (a b : Int) : Below w.heap.size w ((wc.setCell ⟨g, 0, none⟩ (.int .i64 a)).setCell ⟨g, 1, none⟩ (.int .i64 b)) :=
  (h.1.setCell h.2.1 _).setCell h.2.1 _

set_option maxRecDepth 100000 in
theorem refadd_c (a b c d : Int) (h1 : PhS.inR a b = true) (h2 : PhS.inR c d = true) (w : World) :
    Calls Tryd.prog 21 #[.agg #[.int .i64 a, .int .i64 b], .agg #[.int .i64 c, .int .i64 d]] w (RefRet (a + c) (b + d) w) := by
  have hr1 : a.natAbs ≤ 1000000 ∧ b.natAbs ≤ 1000000 := of_decide_eq_true h1
  have hr2 : c.natAbs ≤ 1000000 ∧ d.natAbs ≤ 1000000 := of_decide_eq_true h2
  have p1 : IntKind.i64.wrap (a + c) = a + c := Go.IntWalk.i64_in _ (by omega)
  have p2 : IntKind.i64.wrap (b + d) = b + d := Go.IntWalk.i64_in _ (by omega)
  have hw := fun w => within_c (a + c) (b + d) (by omega) (by omega) w
  cases hin : PhS.inR (a + c) (b + d) with
  | true =>
    have HIN := Lib.hid hin
    have hin' := hin
    clear h1 h2 hin hr1 hr2
    rw [hin'] at hw
    clear hin'
    go_enter Tryd.func21, Tryd.ntmps21
    go_wp2_with fail
    refine (hw _).mono ?_
    rintro e w1 ⟨rfl, hb⟩
    have hq := PairG.made hb
    have HQ := Lib.hid hq
    obtain ⟨f1, f2, f3, f4⟩ := hq.facts
    obtain ⟨g1, g2, g3, g4⟩ := hq.thaw
    obtain ⟨k1, k2, _, _⟩ := hq.last (a + c) (b + d)
    clear hq hb
    go_wp2_with fail
    refine bodyPost_ret (v := .tuple #[.agg #[.int .i64 (a + c), .int .i64 (b + d)], .int .i64 0]) (by simp [results, Tryd.results21, go_sem, k1, k2]) rfl ?_
    exact ⟨by rw [HIN.out]; rfl, HQ.out.ends _ _⟩
  | false =>
    have HIN := Lib.hid hin
    have hin' := hin
    clear h1 h2 hin hr1 hr2
    rw [hin'] at hw
    clear hin'
    go_enter Tryd.func21, Tryd.ntmps21
    go_wp2_with fail
    refine (hw _).mono ?_
    rintro e w1 ⟨rfl, hb⟩
    have hq := PairG.made hb
    have HQ := Lib.hid hq
    obtain ⟨f1, f2, f3, f4⟩ := hq.facts
    obtain ⟨g1, g2, g3, g4⟩ := hq.thaw
    obtain ⟨k1, k2, _, _⟩ := hq.last 0 0
    clear hq hb
    go_wp2_with fail
    refine bodyPost_ret (v := .tuple #[.agg #[.int .i64 0, .int .i64 0], .int .i64 3]) (by simp [results, Tryd.results21, go_sem, k1, k2]) rfl ?_
    exact ⟨by rw [HIN.out]; rfl, HQ.out.ends _ _⟩

set_option maxRecDepth 100000 in
theorem refmul_c (a b c d : Int) (h1 : PhS.inR a b = true) (h2 : PhS.inR c d = true) (w : World) :
    Calls Tryd.prog 22 #[.agg #[.int .i64 a, .int .i64 b], .agg #[.int .i64 c, .int .i64 d]] w (RefRet (a * c - b * d) (a * d + b * c) w) := by
  have hr1 : a.natAbs ≤ 1000000 ∧ b.natAbs ≤ 1000000 := of_decide_eq_true h1
  have hr2 : c.natAbs ≤ 1000000 ∧ d.natAbs ≤ 1000000 := of_decide_eq_true h2
  have m1 := mul_le hr1.1 hr2.1
  have m2 := mul_le hr1.2 hr2.2
  have m3 := mul_le hr1.1 hr2.2
  have m4 := mul_le hr1.2 hr2.1
  have p1 : IntKind.i64.wrap (a * c) = a * c := Go.IntWalk.i64_in _ (by omega)
  have p2 : IntKind.i64.wrap (b * d) = b * d := Go.IntWalk.i64_in _ (by omega)
  have p3 : IntKind.i64.wrap (a * d) = a * d := Go.IntWalk.i64_in _ (by omega)
  have p4 : IntKind.i64.wrap (b * c) = b * c := Go.IntWalk.i64_in _ (by omega)
  have p5 : IntKind.i64.wrap (a * c - b * d) = a * c - b * d := Go.IntWalk.i64_in _ (by omega)
  have p6 : IntKind.i64.wrap (a * d + b * c) = a * d + b * c := Go.IntWalk.i64_in _ (by omega)
  have hw := fun w => within_c (a * c - b * d) (a * d + b * c) (by omega) (by omega) w
  clear m1 m2 m3 m4
  cases hin : PhS.inR (a * c - b * d) (a * d + b * c) with
  | true =>
    have HIN := Lib.hid hin
    have hin' := hin
    clear h1 h2 hin hr1 hr2
    rw [hin'] at hw
    clear hin'
    go_enter Tryd.func22, Tryd.ntmps22
    go_wp2_with fail
    refine (hw _).mono ?_
    rintro e w1 ⟨rfl, hb⟩
    have hq := PairG.made hb
    have HQ := Lib.hid hq
    obtain ⟨f1, f2, f3, f4⟩ := hq.facts
    obtain ⟨g1, g2, g3, g4⟩ := hq.thaw
    obtain ⟨k1, k2, _, _⟩ := hq.last (a * c - b * d) (a * d + b * c)
    clear hq hb
    go_wp2_with fail
    refine bodyPost_ret (v := .tuple #[.agg #[.int .i64 (a * c - b * d), .int .i64 (a * d + b * c)], .int .i64 0]) (by simp [results, Tryd.results22, go_sem, k1, k2]) rfl ?_
    exact ⟨by rw [HIN.out]; rfl, HQ.out.ends _ _⟩
  | false =>
    have HIN := Lib.hid hin
    have hin' := hin
    clear h1 h2 hin hr1 hr2
    rw [hin'] at hw
    clear hin'
    go_enter Tryd.func22, Tryd.ntmps22
    go_wp2_with fail
    refine (hw _).mono ?_
    rintro e w1 ⟨rfl, hb⟩
    have hq := PairG.made hb
    have HQ := Lib.hid hq
    obtain ⟨f1, f2, f3, f4⟩ := hq.facts
    obtain ⟨g1, g2, g3, g4⟩ := hq.thaw
    obtain ⟨k1, k2, _, _⟩ := hq.last 0 0
    clear hq hb
    go_wp2_with fail
    refine bodyPost_ret (v := .tuple #[.agg #[.int .i64 0, .int .i64 0], .int .i64 3]) (by simp [results, Tryd.results22, go_sem, k1, k2]) rfl ?_
    exact ⟨by rw [HIN.out]; rfl, HQ.out.ends _ _⟩
end Go.Proofs.YtffgicppidgcpaaDoor
