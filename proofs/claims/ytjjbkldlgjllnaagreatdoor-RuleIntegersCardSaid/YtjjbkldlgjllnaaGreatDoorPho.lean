/- The walks of the comparison of numbers. Conditions: the parts are whole numbers up to a million. -/
import Derived.Test.YtjjbkldlgjllnaaGreatDoorPhw
namespace Go.Proofs.YtjjbkldlgjllnaaGreatDoor
open Go.RowKit

def cmpI (a b : Int) : Int := if a < b then -1 else if b < a then 1 else 0

set_option maxRecDepth 100000 in
theorem nanInt_c (a : Int) (w : World) : Calls Tryz.prog 127 #[.int .i64 a] w fun e w' => e = .returned (.bool false) ∧ w = w' := by
  go_enter Tryz.func127, Tryz.ntmps127
  go_wp2_with fail
  go_ret
  exact ⟨rfl, rfl⟩

set_option maxRecDepth 100000 in
theorem cmpInt_c (a b : Int) (w : World) : Calls Tryz.prog 82 #[.int .i64 a, .int .i64 b] w fun e w' => e = .returned (.int .i64 (cmpI a b)) ∧ w = w' := by
  have HC : Hid (cmpI a b = if a < b then -1 else if b < a then 1 else 0) := Lib.hid rfl
  rcases Int.lt_trichotomy a b with h | h | h
  all_goals
    go_enter Tryz.func82, Tryz.ntmps82
    go_wp2_with fail
    refine (nanInt_c _ _).mono ?_; rintro e w1 ⟨rfl, rfl⟩
    go_wp2_with fail
    refine (nanInt_c _ _).mono ?_; rintro e w1 ⟨rfl, rfl⟩
    go_wp2_with fail
  · go_ret
    exact ⟨by rw [HC.out, if_pos h]; rfl, rfl⟩
  · go_ret
    exact ⟨by rw [HC.out, if_neg (by omega), if_neg (by omega)]; rfl, rfl⟩
  · go_ret
    exact ⟨by rw [HC.out, if_neg (by omega), if_pos h]; rfl, rfl⟩

set_option maxRecDepth 100000 in
theorem nanFl_c (a : Int) (ha : a.natAbs ≤ 1000000) (w : World) : Calls Tryz.prog 164 #[.float .f64 (Fl.D a)] w fun e w' => e = .returned (.bool false) ∧ w = w' := by
  have e1 : (FloatKind.f64.format.order (Fl.D a) (Fl.D a) == some .eq) = true := by rw [eqB_D ha ha]; simp
  have e2 : (FloatKind.f64.format.order (Fl.D a) (Fl.D a) != some .eq) = false := by rw [bne, e1]; rfl
  go_enter Tryz.func164, Tryz.ntmps164
  go_wp2_with fail
  go_ret
  exact ⟨rfl, rfl⟩

theorem ltB_D {a c : Int} (ha : a.natAbs ≤ 1000000) (hc : c.natAbs ≤ 1000000) : (FloatKind.f64.format.order (Fl.D a) (Fl.D c) == some .lt) = decide (a < c) := by
  rw [ord_D ha hc]
  rcases Int.lt_trichotomy a c with h | h | h
  · rw [Fl.cmp_lt h]; simp; omega
  · subst h; rw [Fl.compare_self']; simp
  · rw [Fl.cmp_gt h]; simp; omega

set_option maxRecDepth 100000 in
theorem cmpFl_c (a b : Int) (ha : a.natAbs ≤ 1000000) (hb : b.natAbs ≤ 1000000) (w : World) : Calls Tryz.prog 129 #[.float .f64 (Fl.D a), .float .f64 (Fl.D b)] w fun e w' => e = .returned (.int .i64 (cmpI a b)) ∧ w = w' := by
  have HC : Hid (cmpI a b = if a < b then -1 else if b < a then 1 else 0) := Lib.hid rfl
  have e1 := ltB_D ha hb
  have e2 := gtB_D ha hb
  rcases Int.lt_trichotomy a b with h | h | h
  all_goals
    first | rw [decide_eq_true h] at e1 | rw [decide_eq_false (by omega)] at e1
    first | rw [decide_eq_true h] at e2 | rw [decide_eq_false (by omega)] at e2
    have H := Lib.hid h
    clear h
    go_enter Tryz.func129, Tryz.ntmps129
    go_wp2_with fail
    refine (nanFl_c _ ha _).mono ?_; rintro e w1 ⟨rfl, rfl⟩
    go_wp2_with fail
    refine (nanFl_c _ hb _).mono ?_; rintro e w1 ⟨rfl, rfl⟩
    go_wp2_with fail
  · go_ret
    exact ⟨by rw [HC.out, if_pos H.out]; rfl, rfl⟩
  · go_ret
    have h := H.out
    exact ⟨by rw [HC.out, if_neg (by omega), if_neg (by omega)]; rfl, rfl⟩
  · go_ret
    have h := H.out
    exact ⟨by rw [HC.out, if_neg (by omega), if_pos h]; rfl, rfl⟩

set_option maxRecDepth 100000 in
theorem less_c (a b : Int) (w : World) : Calls Tryz.prog 131 #[.int .i64 a, .int .i64 b] w fun e w' => e = .returned (.int .i64 (cmpI a b)) ∧ w = w' := by
  have HC : Hid (cmpI a b = if a < b then -1 else if b < a then 1 else 0) := Lib.hid rfl
  rcases Int.lt_trichotomy a b with h | h | h
  all_goals
    go_enter Tryz.func131, Tryz.ntmps131
    go_wp2_with fail
  · go_ret
    exact ⟨by rw [HC.out, if_pos h]; rfl, rfl⟩
  · go_ret
    exact ⟨by rw [HC.out, if_neg (by omega), if_neg (by omega)]; rfl, rfl⟩
  · go_ret
    exact ⟨by rw [HC.out, if_neg (by omega), if_pos h]; rfl, rfl⟩

def orI (x y z : Int) : Int := if x ≠ 0 then x else if y ≠ 0 then y else z

set_option maxRecDepth 100000 in
theorem or_c (x y z : Int) (b : Nat) (w : World) (h0 : w.cell? ⟨b, 0, none⟩ = some (.int .i64 x)) (h1 : w.cell? ⟨b, 1, none⟩ = some (.int .i64 y)) (h2 : w.cell? ⟨b, 2, none⟩ = some (.int .i64 z)) :
    Calls Tryz.prog 128 #[.slice (some ⟨b, 0, none⟩) 3 3] w fun e w' => e = .returned (.int .i64 (orI x y z)) ∧ w = w' := by
  have HC : Hid (orI x y z = if x ≠ 0 then x else if y ≠ 0 then y else z) := Lib.hid rfl
  by_cases hx : x = 0
  · subst hx
    by_cases hy : y = 0
    · subst hy
      by_cases hz : z = 0
      · subst hz
        go_enter Tryz.func128, Tryz.ntmps128
        go_wp2_with fail
        refine wp_loop_rounds 4 ?_
        repeat any_goals (rw [rounds_succ]; go_wp2_with fail)
        go_ret
        exact ⟨by rw [HC.out]; rfl, rfl⟩
      · have hz' : (z != 0) = true := by simpa using hz
        have HZ := Lib.hid hz
        clear hz
        go_enter Tryz.func128, Tryz.ntmps128
        go_wp2_with fail
        refine wp_loop_rounds 4 ?_
        repeat any_goals (rw [rounds_succ]; go_wp2_with fail)
        go_ret
        exact ⟨by rw [HC.out]; rfl, rfl⟩
    · have hy' : (y != 0) = true := by simpa using hy
      have HY := Lib.hid hy
      clear hy
      go_enter Tryz.func128, Tryz.ntmps128
      go_wp2_with fail
      refine wp_loop_rounds 4 ?_
      repeat any_goals (rw [rounds_succ]; go_wp2_with fail)
      go_ret
      exact ⟨by rw [HC.out, if_neg (by simp), if_pos HY.out]; rfl, rfl⟩
  · have hx' : (x != 0) = true := by simpa using hx
    have HX := Lib.hid hx
    clear hx
    go_enter Tryz.func128, Tryz.ntmps128
    go_wp2_with fail
    refine wp_loop_rounds 4 ?_
    repeat any_goals (rw [rounds_succ]; go_wp2_with fail)
    go_ret
    exact ⟨by rw [HC.out, if_pos HX.out]; rfl, rfl⟩
end Go.Proofs.YtjjbkldlgjllnaaGreatDoor
