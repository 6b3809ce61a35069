/- The plain law of the comparison: it goes through. No conditions. -/
import Derived.Test.YtjjbkldlgjllnaaGreatDoorPhp
import Derived.Deep.DeepCutAuto
import Derived.Deep.DrawnRows
import Derived.Deep.RegionHeld3
namespace Go.Proofs.YtjjbkldlgjllnaaGreatDoor
open Go.RowKit

attribute [local go_sem ↓] Go.wp_at_zero Go.wp_at_succ

theorem cmpI_pos {a b : Int} : 0 < cmpI a b ↔ b < a := by
  unfold cmpI
  by_cases h1 : a < b
  · rw [if_pos h1]; omega
  · rw [if_neg h1]
    by_cases h2 : b < a
    · rw [if_pos h2]; omega
    · rw [if_neg h2]; omega
theorem cmpI_zero {a b : Int} : cmpI a b = 0 ↔ a = b := by
  unfold cmpI
  by_cases h1 : a < b
  · rw [if_pos h1]; omega
  · rw [if_neg h1]
    by_cases h2 : b < a
    · rw [if_pos h2]; omega
    · rw [if_neg h2]; omega
theorem cmpI_swap (a b : Int) : cmpI b a = -cmpI a b := by
  unfold cmpI
  by_cases h1 : a < b
  · rw [if_neg (by omega), if_pos h1, if_pos h1]; rfl
  · by_cases h2 : b < a
    · rw [if_pos h2, if_neg h1, if_pos h2]
    · rw [if_neg h2, if_neg h1, if_neg h1, if_neg h2]; rfl
theorem orI_swap {x y z x' y' z' : Int} (h1 : x' = -x) (h2 : y' = -y) (h3 : z' = -z) : orI x' y' z' = -orI x y z := by
  subst h1 h2 h3
  unfold orI
  by_cases hx : x = 0
  · subst hx
    by_cases hy : y = 0
    · subst hy; simp
    · simp [hy]
  · simp [hx]
theorem cmpP_swap (a b c d : Int) : cmpP c d a b = -cmpP a b c d := by
  unfold cmpP
  exact orI_swap (cmpI_swap _ _) (cmpI_swap _ _) (cmpI_swap _ _)

theorem cmpI_small (a b : Int) : -1 ≤ cmpI a b ∧ cmpI a b ≤ 1 := by
  unfold cmpI
  split
  · omega
  · split <;> omega
theorem cmpP_small (a b c d : Int) : -1 ≤ cmpP a b c d ∧ cmpP a b c d ≤ 1 := by
  unfold cmpP orI
  split
  · exact cmpI_small _ _
  · split <;> exact cmpI_small _ _

/-- what a comparison that is not above says -/
theorem cmpP_pos {a b c d : Int} : 0 < cmpP a b c d ↔ (c * c + d * d < a * a + b * b ∨ (a * a + b * b = c * c + d * d ∧ (c < a ∨ (a = c ∧ d < b)))) := by
  unfold cmpP orI
  by_cases h1 : cmpI (a * a + b * b) (c * c + d * d) = 0
  · have e1 := cmpI_zero.1 h1
    rw [if_neg (by simp [h1])]
    by_cases h2 : cmpI a c = 0
    · have e2 := cmpI_zero.1 h2
      rw [if_neg (by simp [h2]), cmpI_pos]
      constructor
      · intro h; exact .inr ⟨e1, .inr ⟨e2, h⟩⟩
      · rintro (h | ⟨_, h | ⟨_, h⟩⟩) <;> omega
    · rw [if_pos h2, cmpI_pos]
      have e2 : ¬ a = c := fun h => h2 (cmpI_zero.2 h)
      constructor
      · intro h; exact .inr ⟨e1, .inl h⟩
      · rintro (h | ⟨_, h | ⟨h, _⟩⟩)
        · omega
        · exact h
        · exact absurd h e2
  · rw [if_pos h1, cmpI_pos]
    have e1 : ¬ a * a + b * b = c * c + d * d := fun h => h1 (cmpI_zero.2 h)
    constructor
    · intro h; exact .inl h
    · rintro (h | ⟨h, _⟩)
      · exact h
      · exact absurd h e1

/-- of three it goes through: z is not above w, w is not above v, so z is not above v -/
theorem cmpP_through {a b c d e f : Int} (h1 : ¬ 0 < cmpP a b c d) (h2 : ¬ 0 < cmpP c d e f) : ¬ 0 < cmpP a b e f := by
  rw [cmpP_pos] at *
  generalize a * a + b * b = n1 at *
  generalize c * c + d * d = n2 at *
  generalize e * e + f * f = n3 at *
  omega

set_option maxRecDepth 100000 in
theorem refnorm2_c (a b : Int) (ha : a.natAbs ≤ 1000000) (hb : b.natAbs ≤ 1000000) (w : World) :
    Calls Tryz.prog 80 #[.agg #[.int .i64 a, .int .i64 b]] w fun e w' => e = .returned (.int .i64 (a * a + b * b)) ∧ Below w.heap.size w w' := by
  have m1 := mul_le ha ha
  have m2 := mul_le hb hb
  have p1 : IntKind.i64.wrap (a * a) = a * a := Go.IntWalk.i64_in _ (by omega)
  have p2 : IntKind.i64.wrap (b * b) = b * b := Go.IntWalk.i64_in _ (by omega)
  have p3 : IntKind.i64.wrap (a * a + b * b) = a * a + b * b := Go.IntWalk.i64_in _ (by omega)
  clear ha hb
  go_enter Tryz.func80, Tryz.ntmps80
  go_wp2_with fail
  go_ret
  exact ⟨by go_num, (Below.refl _ _).alloc (Nat.le_refl _) _⟩

/-- where the two pairs stand -/
def CmpAt (w : World) (g : Nat) (p q r t : Int) (w' : World) : Prop :=
  w'.cell? ⟨g, 0, none⟩ = some (.int .i64 p) ∧ w'.cell? ⟨g, 1, none⟩ = some (.int .i64 q) ∧ w'.cell? ⟨g + 1, 0, none⟩ = some (.int .i64 r) ∧ w'.cell? ⟨g + 1, 1, none⟩ = some (.int .i64 t) ∧ Below w.heap.size w w'
theorem CmpAt.drew {w w' : World} {g : Nat} {p q r t : Int} (h : CmpAt w g p q r t w') : CmpAt w g p q r t w'.drew :=
  ⟨h.1, h.2.1, h.2.2.1, h.2.2.2.1, h.2.2.2.2.drew⟩
theorem keepTwo {w W w' : World} {g : Nat} {v0 v1 v2 v3 : Value} (h0 : W.cell? ⟨g, 0, none⟩ = some v0) (h1 : W.cell? ⟨g, 1, none⟩ = some v1)
    (h2 : W.cell? ⟨g + 1, 0, none⟩ = some v2) (h3 : W.cell? ⟨g + 1, 1, none⟩ = some v3) (hb : Below w.heap.size w W) (h : Below W.heap.size W w') :
    w'.cell? ⟨g, 0, none⟩ = some v0 ∧ w'.cell? ⟨g, 1, none⟩ = some v1 ∧ w'.cell? ⟨g + 1, 0, none⟩ = some v2 ∧ w'.cell? ⟨g + 1, 1, none⟩ = some v3 ∧ Below w.heap.size w w' :=
  ⟨below_cell h (Nat.le_refl _) h0, below_cell h (Nat.le_refl _) h1, below_cell h (Nat.le_refl _) h2, below_cell h (Nat.le_refl _) h3, hb.trans (h.mono hb.size)⟩

def RefCmp (a b c d : Int) (w : World) (e : Ending) (w' : World) : Prop := e = .returned (.int .i64 (cmpP a b c d)) ∧ Below w.heap.size w w'

set_option maxRecDepth 100000 in
set_option maxHeartbeats 1000000 in
theorem refcompare_c (a b c d : Int) (ha : a.natAbs ≤ 1000000) (hb : b.natAbs ≤ 1000000) (hc : c.natAbs ≤ 1000000) (hd : d.natAbs ≤ 1000000) (w : World) :
    Calls Tryz.prog 85 #[.agg #[.int .i64 a, .int .i64 b], .agg #[.int .i64 c, .int .i64 d]] w (RefCmp a b c d w) := by
  have n1 := refnorm2_c a b ha hb
  have n2 := refnorm2_c c d hc hd
  have k0 := less_c (a * a + b * b) (c * c + d * d)
  have k1 := less_c a c
  have k2 := less_c b d
  have HP : Hid (cmpP a b c d = orI (cmpI (a * a + b * b) (c * c + d * d)) (cmpI a c) (cmpI b d)) := Lib.hid rfl
  generalize cmpI (a * a + b * b) (c * c + d * d) = q0 at *
  generalize a * a + b * b = m1 at *
  generalize c * c + d * d = m2 at *
  generalize cmpI a c = q1 at *
  generalize cmpI b d = q2 at *
  clear ha hb hc hd
  go_enter Tryz.func85, Tryz.ntmps85
  go_wp2_with fail
  have hbeg : CmpAt w w.heap.size a b c d ((w.alloc (Obj.cells #[Value.int IntKind.i64 a, Value.int IntKind.i64 b] 83)).alloc (Obj.cells #[Value.int IntKind.i64 c, Value.int IntKind.i64 d] 83)) :=
    ⟨by simp [go_sem], by simp [go_sem], by simp [go_sem], by simp [go_sem], below_alloc (below_alloc (Below.refl _ _) _) _⟩
  generalize hgg : w.heap.size = g at *
  have HG := Lib.hid hgg
  clear hgg
  generalize ((w.alloc (Obj.cells #[Value.int IntKind.i64 a, Value.int IntKind.i64 b] 83)).alloc (Obj.cells #[Value.int IntKind.i64 c, Value.int IntKind.i64 d] 83)) = wz at *
  go_cut [5] (fun v wc => v = .int .i64 q0 ∧ CmpAt w g a b c d wc)
  case first =>
    go_region_held3 (fun w' => w'.cell? ⟨g, 0, none⟩ = some (.int .i64 a) ∧ w'.cell? ⟨g, 1, none⟩ = some (.int .i64 b) ∧ w'.cell? ⟨g + 1, 0, none⟩ = some (.int .i64 c) ∧ w'.cell? ⟨g + 1, 1, none⟩ = some (.int .i64 d) ∧ Below w.heap.size w w')
      (first | exact hbeg.drew | (go_split_ands; exact keepTwo (by assumption) (by assumption) (by assumption) (by assumption) (by assumption) hbN) | go_keep)
      (first
        | (go_at_call 80; ((with_reducible refine (n1 _).mono ?_); rintro e w1 ⟨rfl, hbN⟩))
        | (go_at_call 80; ((with_reducible refine (n2 _).mono ?_); rintro e w1 ⟨rfl, hbN⟩))
        | (go_at_call 131; refine (k0 _).mono ?_; rintro e w1 ⟨rfl, rfl⟩))
    all_goals go_wp2_with fail
    all_goals go_split_ands
    all_goals go_meet
    all_goals exact ⟨rfl, by assumption, by assumption, by assumption, by assumption, by assumption⟩
  case rest =>
    obtain ⟨rfl, c0, c1, c2, c3, c4⟩ := hcut
    by_cases h0 : q0 = 0
    · subst h0
      go_wp2_with fail
      refine (k1 _).mono ?_; rintro e w1 ⟨rfl, rfl⟩
      by_cases h1 : q1 = 0
      · subst h1
        go_wp2_with fail
        refine (k2 _).mono ?_; rintro e w1 ⟨rfl, rfl⟩
        go_wp2_with fail
        go_ret
        exact ⟨by rw [HP.out]; rfl, c4⟩
      · have H1 := Lib.hid h1
        have h1' : (q1 != 0) = true := by simpa using h1
        clear h1
        go_wp2_with fail
        go_ret
        exact ⟨by rw [HP.out]; unfold orI; rw [if_neg (by simp), if_pos H1.out]; rfl, c4⟩
    · have H0 := Lib.hid h0
      have h0' : (q0 != 0) = true := by simpa using h0
      clear h0
      go_wp2_with fail
      go_ret
      exact ⟨by rw [HP.out]; unfold orI; rw [if_pos H0.out]; rfl, c4⟩
end Go.Proofs.YtjjbkldlgjllnaaGreatDoor
