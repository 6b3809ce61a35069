/- The walks of the reference's numbers: their texts, what they are read of, how they are held against the program's. Conditions: parts within a million; the library's tables lie as the program's text lays them. -/
import Derived.Test.YtjjbkldlgjllnaaGreatDoorPhb
import Derived.Deep.RegionHeld3
namespace Go.Proofs.YtjjbkldlgjllnaaGreatDoor
open Go.RowKit

def Pair (a b : Int) : Value := .agg #[.int .i64 a, .int .i64 b]

set_option maxRecDepth 100000 in
theorem second_c (b : Int) (hb : b.natAbs ≤ 1000000) (w : World) (hE : Env w) :
    Calls Tryz.prog 147 #[.int .i64 b] w fun e w' => e = .returned (.string ⟨(PhS.sec b).toArray⟩) ∧ Below w.heap.size w w' := by
  have hl := PhS.itoa_len (n := b) (by omega)
  by_cases h1 : b = 1
  · subst h1
    go_enter Tryz.func147, Tryz.ntmps147
    go_wp2_with fail
    go_ret
    exact ⟨rfl, Below.refl _ _⟩
  · by_cases h2 : b = -1
    · subst h2
      go_enter Tryz.func147, Tryz.ntmps147
      go_wp2_with fail
      go_ret
      exact ⟨rfl, Below.refl _ _⟩
    · have hfin : PhS.sec b = Lib.itoa b ++ [105] := by unfold PhS.sec; rw [if_neg h1, if_neg h2]
      have HF := Lib.hid hfin
      have t1 : (b == 1) = false := by simpa using h1
      have t2 : (b == -1) = false := by simpa using h2
      clear hfin h1 h2
      go_enter Tryz.func147, Tryz.ntmps147
      go_wp2_with fail
      refine (fmtInt b (by omega) (by omega) _ hE).mono ?_; rintro e w1 ⟨rfl, hb1⟩
      go_wp2_with fail
      go_ret
      exact ⟨by rw [HF.out, ← mk_append]; rfl, hb1⟩

theorem keep2 {w W w' : World} {v0 v1 : Value} (h0 : W.cell? ⟨w.heap.size, 0, none⟩ = some v0) (h1 : W.cell? ⟨w.heap.size, 1, none⟩ = some v1) (hE : Env W) (hb : Below w.heap.size w W) (h : Below W.heap.size W w') :
    w'.cell? ⟨w.heap.size, 0, none⟩ = some v0 ∧ w'.cell? ⟨w.heap.size, 1, none⟩ = some v1 ∧ Env w' ∧ Below w.heap.size w w' :=
  ⟨below_cell h (Nat.le_refl _) h0, below_cell h (Nat.le_refl _) h1, hE.below h, hb.trans (h.mono hb.size)⟩
theorem begin2 {w : World} {v0 v1 : Value} {t : TypeId} (hE : Env w) :
    (w.alloc (Obj.cells #[v0, v1] t)).drew.cell? ⟨w.heap.size, 0, none⟩ = some v0 ∧ (w.alloc (Obj.cells #[v0, v1] t)).drew.cell? ⟨w.heap.size, 1, none⟩ = some v1 ∧ Env (w.alloc (Obj.cells #[v0, v1] t)).drew ∧ Below w.heap.size w (w.alloc (Obj.cells #[v0, v1] t)).drew :=
  ⟨by simp [go_sem], by simp [go_sem], (hE.alloc _).drew, ((Below.refl _ _).alloc (Nat.le_refl _) _).drew⟩

set_option maxRecDepth 100000 in
theorem text_pos (a b : Int) (ha : a.natAbs ≤ 1000000) (hb : b.natAbs ≤ 1000000) (ha0 : a ≠ 0) (h0 : 0 < b) (w : World) (hE : Env w) :
    Calls Tryz.prog 118 #[.agg #[.int .i64 a, .int .i64 b]] w fun e w' => e = .returned (.string ⟨(PhS.text a b).toArray⟩) ∧ Below w.heap.size w w' := by
  have hl := PhS.itoa_len (n := a) (by omega)
  have hl2 := PhS.sec_len (b := b) hb
  have t1 : (b == 0) = false := by simp; omega
  have t2 : (a == 0) = false := by simpa using ha0
  have hfin : PhS.text a b = (Lib.itoa a ++ [43]) ++ PhS.sec b := by unfold PhS.text; rw [if_neg (by omega), if_neg ha0, if_pos h0]; simp
  have HF := Lib.hid hfin
  have z1 : ¬ 9223372036854775807 < (Lib.itoa a).length + 1 := by omega
  have z2 : ¬ 9223372036854775807 < (Lib.itoa a).length + 1 + (PhS.sec b).length := by omega
  clear hfin ha0
  go_enter Tryz.func118, Tryz.ntmps118
  go_wp2_with fail
  go_region_held3 (fun w' => w'.cell? ⟨w.heap.size, 0, none⟩ = some (.int .i64 a) ∧ w'.cell? ⟨w.heap.size, 1, none⟩ = some (.int .i64 b) ∧ Env w' ∧ Below w.heap.size w w')
    (first | exact begin2 hE | (go_split_ands; exact keep2 (by assumption) (by assumption) (by assumption) (by assumption) hbN) | go_keep)
    (first
      | (go_at_call 113; go_split_ands; refine (fmtInt a (by omega) (by omega) _ ?_).mono ?_; assumption; rintro e w1 ⟨rfl, hbN⟩)
      | (go_at_call 147; go_split_ands; refine (second_c b hb _ ?_).mono ?_; assumption; rintro e w2 ⟨rfl, hbN⟩))
  all_goals go_wp2_with fail
  all_goals go_split_ands
  all_goals go_ret
  all_goals exact ⟨by rw [HF.out, ← mk_append, ← mk_append]; rfl, by (first | assumption | exact below_trans (by assumption) (by assumption))⟩

set_option maxRecDepth 100000 in
theorem text_neg (a b : Int) (ha : a.natAbs ≤ 1000000) (hb : b.natAbs ≤ 1000000) (ha0 : a ≠ 0) (h0 : b < 0) (w : World) (hE : Env w) :
    Calls Tryz.prog 118 #[.agg #[.int .i64 a, .int .i64 b]] w fun e w' => e = .returned (.string ⟨(PhS.text a b).toArray⟩) ∧ Below w.heap.size w w' := by
  have hl := PhS.itoa_len (n := a) (by omega)
  have hl2 := PhS.sec_len (b := b) hb
  have t1 : (b == 0) = false := by simp; omega
  have t2 : (a == 0) = false := by simpa using ha0
  have hfin : PhS.text a b = Lib.itoa a ++ PhS.sec b := by unfold PhS.text; rw [if_neg (by omega), if_neg ha0, if_neg (by omega)]
  have HF := Lib.hid hfin
  have z2 : ¬ 9223372036854775807 < (Lib.itoa a).length + (PhS.sec b).length := by omega
  clear hfin ha0
  go_enter Tryz.func118, Tryz.ntmps118
  go_wp2_with fail
  go_region_held3 (fun w' => w'.cell? ⟨w.heap.size, 0, none⟩ = some (.int .i64 a) ∧ w'.cell? ⟨w.heap.size, 1, none⟩ = some (.int .i64 b) ∧ Env w' ∧ Below w.heap.size w w')
    (first | exact begin2 hE | (go_split_ands; exact keep2 (by assumption) (by assumption) (by assumption) (by assumption) hbN) | go_keep)
    (first
      | (go_at_call 113; go_split_ands; refine (fmtInt a (by omega) (by omega) _ ?_).mono ?_; assumption; rintro e w1 ⟨rfl, hbN⟩)
      | (go_at_call 147; go_split_ands; refine (second_c b hb _ ?_).mono ?_; assumption; rintro e w2 ⟨rfl, hbN⟩))
  all_goals go_wp2_with fail
  all_goals go_split_ands
  all_goals go_ret
  all_goals exact ⟨by rw [HF.out, ← mk_append]; rfl, by (first | assumption | exact below_trans (by assumption) (by assumption))⟩

set_option maxRecDepth 100000 in
theorem text_real (a : Int) (ha : a.natAbs ≤ 1000000) (w : World) (hE : Env w) :
    Calls Tryz.prog 118 #[.agg #[.int .i64 a, .int .i64 0]] w fun e w' => e = .returned (.string ⟨(PhS.text a 0).toArray⟩) ∧ Below w.heap.size w w' := by
  go_enter Tryz.func118, Tryz.ntmps118
  go_wp2_with fail
  refine (fmtInt a (by omega) (by omega) _ (hE.alloc _)).mono ?_; rintro e w1 ⟨rfl, hb1⟩
  go_wp2_with fail
  go_ret
  exact ⟨rfl, below_trans ((Below.refl _ _).alloc (Nat.le_refl _) _) hb1⟩

set_option maxRecDepth 100000 in
theorem text_nought (b : Int) (hb : b.natAbs ≤ 1000000) (h0 : b ≠ 0) (w : World) (hE : Env w) :
    Calls Tryz.prog 118 #[.agg #[.int .i64 0, .int .i64 b]] w fun e w' => e = .returned (.string ⟨(PhS.text 0 b).toArray⟩) ∧ Below w.heap.size w w' := by
  have t1 : (b == 0) = false := by simpa using h0
  have hfin : PhS.text 0 b = PhS.sec b := by unfold PhS.text; rw [if_neg h0, if_pos rfl]
  have HF := Lib.hid hfin
  clear hfin h0
  go_enter Tryz.func118, Tryz.ntmps118
  go_wp2_with fail
  refine (second_c b hb _ (hE.alloc _)).mono ?_; rintro e w1 ⟨rfl, hb1⟩
  go_wp2_with fail
  go_ret
  exact ⟨by rw [HF.out]; rfl, below_trans ((Below.refl _ _).alloc (Nat.le_refl _) _) hb1⟩

theorem text_c (a b : Int) (h : PhS.inR a b = true) (w : World) (hE : Env w) :
    Calls Tryz.prog 118 #[.agg #[.int .i64 a, .int .i64 b]] w fun e w' => e = .returned (.string ⟨(PhS.text a b).toArray⟩) ∧ Below w.heap.size w w' := by
  have hr : a.natAbs ≤ 1000000 ∧ b.natAbs ≤ 1000000 := of_decide_eq_true h
  obtain ⟨ha, hb⟩ := hr
  by_cases b0 : b = 0
  · subst b0; exact text_real a ha w hE
  by_cases a0 : a = 0
  · subst a0; exact text_nought b hb b0 w hE
  by_cases hp : 0 < b
  · exact text_pos a b ha hb a0 hp w hE
  · exact text_neg a b ha hb a0 (by omega) w hE

set_option maxRecDepth 100000 in
theorem within_c (a b : Int) (ha : a.natAbs ≤ 9223372036854775807) (hb : b.natAbs ≤ 9223372036854775807) (w : World) :
    Calls Tryz.prog 117 #[.agg #[.int .i64 a, .int .i64 b]] w fun e w' => e = .returned (.bool (PhS.inR a b)) ∧ Below w.heap.size w w' := by
  go_enter Tryz.func117, Tryz.ntmps117
  go_wp2_with fail
  all_goals go_ret
  all_goals refine ⟨retB ?_, (Below.refl _ _).alloc (Nat.le_refl _) _⟩
  all_goals unfold PhS.inR
  all_goals first | (rw [decide_eq_decide]; omega) | (symm; rw [decide_eq_false_iff_not]; omega)
end Go.Proofs.YtjjbkldlgjllnaaGreatDoor
