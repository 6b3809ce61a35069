/- The walks of the first two laws of numbers. Condition: a text's length is below 2^48. -/
import Derived.Test.YtffgicppidgcpaaDoorPhi
import Derived.Test.YtffgicppidgcpaaDoorPhc
import Derived.Test.YtffgicppidgcpaaDoorPhe
import Derived.Test.YtffgicppidgcpaaDoorPhf
namespace Go.Proofs.YtffgicppidgcpaaDoor
open Go.RowKit

theorem wd_of {x : Nat} (h : (Lit.float .f64 x).wf = true) : Wd x := by
  unfold Wd
  exact of_decide_eq_true h

def True_ (w : World) (e : Ending) (w' : World) : Prop := e = .returned (.bool true) ∧ Below w.heap.size w w'

set_option maxRecDepth 100000 in
theorem awake_c (w : World) (hE : Env w) : Calls Tryd.prog 10 #[] w (True_ w) := by
  have hp : PhS.parseP [51, 45, 105] = some (3, -1) := PhS.parseP_some.2 ⟨by decide, by decide +kernel⟩
  have hcon := parse_c ⟨#[51, 45, 105]⟩ (by decide) w hE
  unfold ParseP at hcon
  have hpd : PhS.parseP (ByteArray.mk #[51, 45, 105]).data.toList = some (3, -1) := hp
  rw [hpd] at hcon
  simp only at hcon
  clear hp hpd
  have k1 : (FloatKind.f64.format.order (Fl.D 3) 4613937818241073152 == some .eq) = true := by decide +kernel
  have k2 : (FloatKind.f64.format.order (Fl.D (-1)) 13830554455654793216 == some .eq) = true := by decide +kernel
  go_enter Tryd.func10, Tryd.ntmps10
  go_wp2_with fail
  refine hcon.mono ?_
  rintro e w1 ⟨rfl, hb⟩
  go_wp2_with fail
  go_ret
  exact ⟨rfl, hb⟩

set_option maxRecDepth 100000 in
theorem prints_yes (a b : Int) (h : PhS.inR a b = true) (w : World) (hE : Env w) :
    Calls Tryd.prog 3 #[.float .f64 (Fl.D a), .float .f64 (Fl.D b)] w (True_ w) := by
  have hr : a.natAbs ≤ 1000000 ∧ b.natAbs ≤ 1000000 := of_decide_eq_true h
  obtain ⟨ha, hb⟩ := hr
  have hof := fun w => of_c (Fl.D a) (Fl.D b) (wd_D (by omega)) (wd_D (by omega)) w
  unfold OfRet at hof
  rw [Fl.numOf_D ha, Fl.numOf_D hb] at hof
  simp only at hof
  have hoa := okB_D ha
  have hob := okB_D hb
  have hfm := fun w => formed_c (Fl.D a) (Fl.D b) (wd_D (by omega)) (wd_D (by omega)) w
  rw [hoa, hob] at hfm
  have hpr := print_yes a b h
  have htx := text_c a b h
  clear hoa hob h
  go_enter Tryd.func3, Tryd.ntmps3
  go_wp2_with fail
  refine (awake_c _ hE).mono ?_
  rintro e w1 ⟨rfl, hb1⟩
  go_wp2_with fail
  refine (hpr _ (hE.below hb1)).mono ?_
  rintro e w2 ⟨rfl, hb2⟩
  go_wp2_with fail
  refine (hof _).mono ?_
  rintro e w3 ⟨rfl, hb3⟩
  have hE3 := ((hE.below hb1).below hb2).below hb3
  have hb123 := below_trans hb1 (below_trans hb2 hb3)
  go_wp2_with fail
  refine (htx _ (hE3.alloc _)).mono ?_
  rintro e w4 ⟨rfl, hb4⟩
  go_wp2_with fail
  refine (hfm _).mono ?_
  rintro e w5 ⟨rfl, hb5⟩
  go_wp2_with fail
  go_ret
  exact ⟨rfl, below_trans (below_trans (below_alloc hb123 _) hb4) hb5⟩

set_option maxRecDepth 100000 in
theorem prints_no (x y : Nat) (hx : Wd x) (hy : Wd y) (h : (okB x && okB y) = false) (w : World) (hE : Env w) :
    Calls Tryd.prog 3 #[.float .f64 x, .float .f64 y] w (True_ w) := by
  have hof := fun w => of_c x y hx hy w
  have hno : Fl.numOf x = none ∨ Fl.numOf y = none := by
    unfold okB at h
    cases h1 : Fl.numOf x with
    | none => exact .inl rfl
    | some a =>
      cases h2 : Fl.numOf y with
      | none => exact .inr rfl
      | some b => rw [h1, h2] at h; cases h
  have hof' : ∀ w, Calls Tryd.prog 12 #[.complex .f64 x y] w fun e w' => e = .returned (.tuple #[.agg #[.int .i64 0, .int .i64 0], .bool false]) ∧ Below w.heap.size w w' := fun w => (hof w).mono fun e w' ⟨h1, h2⟩ => ⟨by
      rcases hno with hn | hn
      · rw [hn] at h1; exact h1
      · rw [hn] at h1; cases h3 : Fl.numOf x <;> rw [h3] at h1 <;> exact h1, h2⟩
  have hfm := fun w => formed_c x y hx hy w
  rw [h] at hfm
  have hpr := print_no x y hx hy h
  clear h hof hno
  go_enter Tryd.func3, Tryd.ntmps3
  go_wp2_with fail
  refine (awake_c _ hE).mono ?_
  rintro e w1 ⟨rfl, hb1⟩
  go_wp2_with fail
  refine (hpr _).mono ?_
  rintro e w2 ⟨rfl, hb2⟩
  go_wp2_with fail
  refine (hof' _).mono ?_
  rintro e w3 ⟨rfl, hb3⟩
  go_wp2_with fail
  refine (hfm _).mono ?_
  rintro e w5 ⟨rfl, hb5⟩
  go_wp2_with fail
  go_ret
  exact ⟨rfl, below_trans (below_alloc (below_trans hb1 (below_trans hb2 hb3)) _) hb5⟩

set_option maxRecDepth 100000 in
theorem parses_c (s : ByteArray) (hs : s.size + 2 ≤ 281474976710656) (w : World) (hE : Env w) :
    Calls Tryd.prog 4 #[.string s] w (True_ w) := by
  have h1 := fun w hE => parse_c s hs w hE
  have h2 := fun w hE => refparse_c s (by omega) w hE
  unfold ParseP at h1
  unfold ParseRet at h2
  cases hp : PhS.parseP s.data.toList with
  | none =>
    rw [hp] at h1 h2
    simp only at h1 h2
    have hl := fun w => like_c 0 0 2 0 0 2 (by decide) (by decide) w
    have hc : cEq 0 0 0 0 = true := by decide +kernel
    rw [hc] at hl
    clear hp hc
    go_enter Tryd.func4, Tryd.ntmps4
    go_wp2_with fail
    refine (awake_c _ hE).mono ?_
    rintro e w1 ⟨rfl, hb1⟩
    go_wp2_with fail
    refine (h1 _ (hE.below hb1)).mono ?_
    rintro e w2 ⟨rfl, hb2⟩
    go_wp2_with fail
    refine (h2 _ ((hE.below hb1).below hb2)).mono ?_
    rintro e w3 ⟨rfl, hb3⟩
    go_wp2_with fail
    refine (hl _).mono ?_
    rintro e w5 ⟨rfl, hb5⟩
    go_wp2_with fail
    go_ret
    exact ⟨rfl, below_trans (below_alloc (below_trans hb1 (below_trans hb2 hb3)) _) hb5⟩
  | some p =>
    obtain ⟨a, b⟩ := p
    have hin := (PhS.parseP_some.1 hp).1
    have hr : a.natAbs ≤ 1000000 ∧ b.natAbs ≤ 1000000 := of_decide_eq_true hin
    obtain ⟨ha, hb⟩ := hr
    rw [hp] at h1 h2
    simp only at h1 h2
    have hl := fun w => like_c (Fl.D a) (Fl.D b) 0 a b 0 (by omega) (by omega) w
    have hc : cEq (Fl.D a) (Fl.D b) a b = true := by
      unfold cEq
      rw [eqB_D ha ha, eqB_D hb hb]; simp
    rw [hc] at hl
    clear hp hc hin
    go_enter Tryd.func4, Tryd.ntmps4
    go_wp2_with fail
    refine (awake_c _ hE).mono ?_
    rintro e w1 ⟨rfl, hb1⟩
    go_wp2_with fail
    refine (h1 _ (hE.below hb1)).mono ?_
    rintro e w2 ⟨rfl, hb2⟩
    go_wp2_with fail
    refine (h2 _ ((hE.below hb1).below hb2)).mono ?_
    rintro e w3 ⟨rfl, hb3⟩
    go_wp2_with fail
    refine (hl _).mono ?_
    rintro e w5 ⟨rfl, hb5⟩
    go_wp2_with fail
    go_ret
    exact ⟨rfl, below_trans (below_alloc (below_trans hb1 (below_trans hb2 hb3)) _) hb5⟩

theorem prints_c (x y : Nat) (hx : Wd x) (hy : Wd y) (w : World) (hE : Env w) :
    Calls Tryd.prog 3 #[.float .f64 x, .float .f64 y] w (True_ w) := by
  cases h : (okB x && okB y) with
  | false => exact prints_no x y hx hy h w hE
  | true =>
    rw [Bool.and_eq_true] at h
    obtain ⟨h1, h2⟩ := h
    unfold okB at h1 h2
    obtain ⟨a, ha⟩ := Option.isSome_iff_exists.1 h1
    obtain ⟨b, hb⟩ := Option.isSome_iff_exists.1 h2
    obtain ⟨a1, rfl⟩ := Fl.numOf_some ha
    obtain ⟨b1, rfl⟩ := Fl.numOf_some hb
    exact prints_yes a b (decide_eq_true ⟨a1, b1⟩) w hE
end Go.Proofs.YtffgicppidgcpaaDoor
