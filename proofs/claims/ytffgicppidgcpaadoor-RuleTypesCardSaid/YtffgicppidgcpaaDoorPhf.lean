/- The walk of the reference's Of: which complex number is a pair of these numbers. Condition: a float's bits are below 2 to the 64th. -/
import Derived.Test.YtffgicppidgcpaaDoorPhe
namespace Go.Proofs.YtffgicppidgcpaaDoor
open Go.RowKit

def OfRet (x y : Nat) (w : World) (e : Ending) (w' : World) : Prop :=
  (match Fl.numOf x, Fl.numOf y with
  | some a, some b => e = .returned (.tuple #[.agg #[.int .i64 a, .int .i64 b], .bool true])
  | _, _ => e = .returned (.tuple #[.agg #[.int .i64 0, .int .i64 0], .bool false])) ∧ Below w.heap.size w w'
theorem OfRet.no {x y : Nat} {w w' : World} (h : Fl.numOf x = none ∨ Fl.numOf y = none) (hb : Below w.heap.size w w') : OfRet x y w (.returned (.tuple #[.agg #[.int .i64 0, .int .i64 0], .bool false])) w' := by
  unfold OfRet
  rcases h with h | h
  · rw [h]; exact ⟨rfl, hb⟩
  · rw [h]
    cases Fl.numOf x with
    | none => exact ⟨rfl, hb⟩
    | some a => exact ⟨rfl, hb⟩
theorem OfRet.yes {x y : Nat} {a b : Int} {w w' : World} (ha : Fl.numOf x = some a) (hb : Fl.numOf y = some b) (h : Below w.heap.size w w') : OfRet x y w (.returned (.tuple #[.agg #[.int .i64 a, .int .i64 b], .bool true])) w' := by
  unfold OfRet; rw [ha, hb]; exact ⟨rfl, h⟩

def lowB (x : Nat) : Bool := FloatKind.f64.format.order x 13920209183539462144 == some .gt || FloatKind.f64.format.order x 13920209183539462144 == some .eq
def highB (x : Nat) : Bool := FloatKind.f64.format.order x 4696837146684686336 == some .lt || FloatKind.f64.format.order x 4696837146684686336 == some .eq
theorem none_low {x : Nat} (h : lowB x = false) : Fl.numOf x = none := by
  cases hn : Fl.numOf x with
  | none => rfl
  | some n =>
    have h1 := (Fl.lo_fact hn).1
    have : lowB x = true := by
      unfold lowB
      rw [Bool.or_eq_true, beq_iff_eq, beq_iff_eq]; exact h1
    rw [this] at h; cases h
theorem none_high {x : Nat} (h : highB x = false) : Fl.numOf x = none := by
  cases hn : Fl.numOf x with
  | none => rfl
  | some n =>
    have h1 := (Fl.lo_fact hn).2
    have : highB x = true := by
      unfold highB
      rw [Bool.or_eq_true, beq_iff_eq, beq_iff_eq]; exact h1
    rw [this] at h; cases h
/-- what a part within the bounds is -/
theorem in_range {x : Nat} (hx : Wd x) (h1 : lowB x = true) (h2 : highB x = true) : ∃ n : Int, n.natAbs ≤ 1000000 ∧ floatToIntVal .f64 x .i64 = some n ∧
    (((FloatKind.f64.format.order (Fl.D n) x != some .eq) = true ∧ Fl.numOf x = none) ∨
     ((FloatKind.f64.format.order (Fl.D n) x != some .eq) = false ∧ (((FloatKind.f64.format.order x 0 == some .eq) = false ∧ Fl.numOf x = some n) ∨
       ((FloatKind.f64.format.order x 0 == some .eq) = true ∧ ∃ d, floatBits .quo .f64 4607182418800017408 x = some d ∧ (((FloatKind.f64.format.order d 0 == some .lt) = true ∧ Fl.numOf x = none) ∨ ((FloatKind.f64.format.order d 0 == some .lt) = false ∧ Fl.numOf x = some n)))))) := by
  have h1' : Fl.dbl.order x (Fl.D (-1000000)) = some .gt ∨ Fl.dbl.order x (Fl.D (-1000000)) = some .eq := by
    rw [Fl.D_low]; unfold lowB at h1; rw [Bool.or_eq_true, beq_iff_eq, beq_iff_eq] at h1; exact h1
  have h2' : Fl.dbl.order x (Fl.D 1000000) = some .lt ∨ Fl.dbl.order x (Fl.D 1000000) = some .eq := by
    rw [Fl.D_million]; unfold highB at h2; rw [Bool.or_eq_true, beq_iff_eq, beq_iff_eq] at h2; exact h2
  obtain ⟨n, hn, hti, hw⟩ := Fl.of_range hx h1' h2'
  refine ⟨n, hn, ?_, ?_⟩
  · unfold floatToIntVal
    have h : (FloatKind.f64.decode x).toInt .zero = some n := hti
    rw [h]
    have e1 : IntKind.i64.min = -9223372036854775808 := rfl
    have e2 : IntKind.i64.max = 9223372036854775807 := rfl
    simp only
    rw [e1, e2, if_pos (by omega)]
  by_cases he : Fl.dbl.order (Fl.D n) x = some .eq
  · right
    have hW := hw he
    have he' : (FloatKind.f64.format.order (Fl.D n) x != some .eq) = false := by
      show (Fl.dbl.order (Fl.D n) x != some .eq) = false
      rw [he]; rfl
    refine ⟨he', ?_⟩
    have hz : (FloatKind.f64.format.order x 0 == some .eq) = decide (n = 0) := Fl.order_nought hW (by omega)
    by_cases h0 : n = 0
    · right
      refine ⟨by rw [hz]; simpa using h0, ?_⟩
      subst h0
      obtain ⟨d, hd, hl⟩ := Fl.nought_div hW
      refine ⟨d, by rw [← Fl.D_one]; exact hd, ?_⟩
      by_cases hs : 2 ^ 63 ≤ x
      · left
        refine ⟨by rw [show FloatKind.f64.format.order d 0 = Fl.dbl.order d 0 from rfl, hl]; simpa using hs, ?_⟩
        cases hno : Fl.numOf x with
        | none => rfl
        | some m =>
          exfalso
          obtain ⟨hm, hxm⟩ := Fl.numOf_some hno
          have hWm := Fl.isW_D m
          rw [← hxm] at hWm
          have e1 := Fl.order_nought hW (by decide)
          have e2 := Fl.order_nought hWm (by omega)
          rw [e1] at e2
          have : m = 0 := by simpa using e2.symm
          subst this
          rw [Fl.D_zero] at hxm
          subst hxm
          revert hs; decide
      · right
        refine ⟨by rw [show FloatKind.f64.format.order d 0 = Fl.dbl.order d 0 from rfl, hl]; simpa using hs, ?_⟩
        rw [hW.eq_D (.inr (by omega))]
        exact Fl.numOf_D hn
    · left
      refine ⟨by rw [hz]; simpa using h0, ?_⟩
      rw [hW.eq_D (.inl h0)]
      exact Fl.numOf_D hn
  · left
    refine ⟨?_, ?_⟩
    · show (Fl.dbl.order (Fl.D n) x != some .eq) = true
      simpa using he
    · cases hno : Fl.numOf x with
      | none => rfl
      | some m =>
        exfalso
        obtain ⟨hm, rfl⟩ := Fl.numOf_some hno
        have := Fl.toInt_val (Fl.read_D m (by omega)).val
        rw [hti] at this
        have e := Option.some.inj this
        subst e
        exact he (Fl.eq_of_isW (Fl.isW_D _) (Fl.isW_D _) (by omega))

set_option maxRecDepth 100000 in
set_option maxHeartbeats 2000000 in
theorem of_out (x y : Nat) (h : lowB x = false ∨ (lowB x = true ∧ highB x = false) ∨ (lowB x = true ∧ highB x = true ∧ lowB y = false) ∨ (lowB x = true ∧ highB x = true ∧ lowB y = true ∧ highB y = false)) (w : World) :
    Calls Tryd.prog 12 #[.complex .f64 x y] w (OfRet x y w) := by
  have hno : Fl.numOf x = none ∨ Fl.numOf y = none := by
    rcases h with h | ⟨_, h⟩ | ⟨_, _, h⟩ | ⟨_, _, _, h⟩
    · exact .inl (none_low h)
    · exact .inl (none_high h)
    · exact .inr (none_low h)
    · exact .inr (none_high h)
  have HN := Lib.hid hno
  clear hno
  unfold lowB highB at h
  rcases h with h | ⟨h1, h⟩ | ⟨h1, h2, h⟩ | ⟨h1, h2, h3, h⟩
  all_goals
    go_enter Tryd.func12, Tryd.ntmps12
    go_wp2_with fail
    refine bodyPost_ret (v := .tuple #[.agg #[.int .i64 0, .int .i64 0], .bool false]) (by simp [results, Tryd.results12, go_sem]) rfl ?_
    exact OfRet.no HN.out ((Below.refl _ _).alloc (Nat.le_refl _) _)

set_option maxRecDepth 100000 in
set_option maxHeartbeats 4000000 in
theorem of_in (x y : Nat) (hx : Wd x) (hy : Wd y) (h1 : lowB x = true) (h2 : highB x = true) (h3 : lowB y = true) (h4 : highB y = true) (w : World) :
    Calls Tryd.prog 12 #[.complex .f64 x y] w (OfRet x y w) := by
  obtain ⟨n, hn, hcx, hX⟩ := in_range hx h1 h2
  obtain ⟨m, hm, hcy, hY⟩ := in_range hy h3 h4
  have cx := fun w => run_convert_float_int (P := Tryd.prog) w 22 2 .f64 .i64 x n (by kernel_rfl) Tryd.underlying2 hcx
  have cy := fun w => run_convert_float_int (P := Tryd.prog) w 22 2 .f64 .i64 y m (by kernel_rfl) Tryd.underlying2 hcy
  have en : floatOfInt .f64 n = Fl.D n := Fl.D_eq n (by omega)
  have em : floatOfInt .f64 m = Fl.D m := Fl.D_eq m (by omega)
  unfold lowB at h1 h3
  unfold highB at h2 h4
  clear hcx hcy hx hy hn hm
  rcases hX with ⟨x1, hN⟩ | ⟨x1, hX⟩
  · have HN := Lib.hid (Or.inl (b := Fl.numOf y = none) hN)
    clear hN hY
    go_enter Tryd.func12, Tryd.ntmps12
    go_wp2_with fail
    refine bodyPost_ret (v := .tuple #[.agg #[.int .i64 0, .int .i64 0], .bool false]) (by simp [results, Tryd.results12, go_sem]) rfl ?_
    exact OfRet.no HN.out (((Below.refl _ _).alloc (Nat.le_refl _) _).alloc (by simp) _)
  rcases hY with ⟨y1, hN⟩ | ⟨y1, hY⟩
  · have HN := Lib.hid (Or.inr (a := Fl.numOf x = none) hN)
    clear hN hX
    go_enter Tryd.func12, Tryd.ntmps12
    go_wp2_with fail
    refine bodyPost_ret (v := .tuple #[.agg #[.int .i64 0, .int .i64 0], .bool false]) (by simp [results, Tryd.results12, go_sem]) rfl ?_
    exact OfRet.no HN.out (((Below.refl _ _).alloc (Nat.le_refl _) _).alloc (by simp) _)
  rcases hX with ⟨x2, hN⟩ | ⟨x2, dx, hdx, ⟨x3, hN⟩ | ⟨x3, hN⟩⟩
  · have HX := Lib.hid hN
    clear hN
    rcases hY with ⟨y2, hM⟩ | ⟨y2, dy, hdy, ⟨y3, hM⟩ | ⟨y3, hM⟩⟩
    · have HY := Lib.hid hM
      clear hM
      go_enter Tryd.func12, Tryd.ntmps12
      go_wp2_with fail
      refine bodyPost_ret (v := .tuple #[.agg #[.int .i64 n, .int .i64 m], .bool true]) (by simp [results, Tryd.results12, go_sem]) rfl ?_
      exact OfRet.yes HX.out HY.out (((Below.refl _ _).alloc (Nat.le_refl _) _).alloc (by simp) _)
    · have HN := Lib.hid (Or.inr (a := Fl.numOf x = none) hM)
      have dvy := fun w => run_float_arith (P := Tryd.prog) w .quo 22 .f64 4607182418800017408 y dy hdy
      clear hdy
      clear hM
      go_enter Tryd.func12, Tryd.ntmps12
      go_wp2_with fail
      refine bodyPost_ret (v := .tuple #[.agg #[.int .i64 0, .int .i64 0], .bool false]) (by simp [results, Tryd.results12, go_sem]) rfl ?_
      exact OfRet.no HN.out (((Below.refl _ _).alloc (Nat.le_refl _) _).alloc (by simp) _)
    · have HY := Lib.hid hM
      have dvy := fun w => run_float_arith (P := Tryd.prog) w .quo 22 .f64 4607182418800017408 y dy hdy
      clear hdy
      clear hM
      go_enter Tryd.func12, Tryd.ntmps12
      go_wp2_with fail
      refine bodyPost_ret (v := .tuple #[.agg #[.int .i64 n, .int .i64 m], .bool true]) (by simp [results, Tryd.results12, go_sem]) rfl ?_
      exact OfRet.yes HX.out HY.out (((Below.refl _ _).alloc (Nat.le_refl _) _).alloc (by simp) _)
  · have HN := Lib.hid (Or.inl (b := Fl.numOf y = none) hN)
    have dvx := fun w => run_float_arith (P := Tryd.prog) w .quo 22 .f64 4607182418800017408 x dx hdx
    clear hdx
    clear hN hY
    go_enter Tryd.func12, Tryd.ntmps12
    go_wp2_with fail
    refine bodyPost_ret (v := .tuple #[.agg #[.int .i64 0, .int .i64 0], .bool false]) (by simp [results, Tryd.results12, go_sem]) rfl ?_
    exact OfRet.no HN.out (((Below.refl _ _).alloc (Nat.le_refl _) _).alloc (by simp) _)
  · have HX := Lib.hid hN
    have dvx := fun w => run_float_arith (P := Tryd.prog) w .quo 22 .f64 4607182418800017408 x dx hdx
    clear hdx
    clear hN
    rcases hY with ⟨y2, hM⟩ | ⟨y2, dy, hdy, ⟨y3, hM⟩ | ⟨y3, hM⟩⟩
    · have HY := Lib.hid hM
      clear hM
      go_enter Tryd.func12, Tryd.ntmps12
      go_wp2_with fail
      refine bodyPost_ret (v := .tuple #[.agg #[.int .i64 n, .int .i64 m], .bool true]) (by simp [results, Tryd.results12, go_sem]) rfl ?_
      exact OfRet.yes HX.out HY.out (((Below.refl _ _).alloc (Nat.le_refl _) _).alloc (by simp) _)
    · have HN := Lib.hid (Or.inr (a := Fl.numOf x = none) hM)
      have dvy := fun w => run_float_arith (P := Tryd.prog) w .quo 22 .f64 4607182418800017408 y dy hdy
      clear hdy
      clear hM
      go_enter Tryd.func12, Tryd.ntmps12
      go_wp2_with fail
      refine bodyPost_ret (v := .tuple #[.agg #[.int .i64 0, .int .i64 0], .bool false]) (by simp [results, Tryd.results12, go_sem]) rfl ?_
      exact OfRet.no HN.out (((Below.refl _ _).alloc (Nat.le_refl _) _).alloc (by simp) _)
    · have HY := Lib.hid hM
      have dvy := fun w => run_float_arith (P := Tryd.prog) w .quo 22 .f64 4607182418800017408 y dy hdy
      clear hdy
      clear hM
      go_enter Tryd.func12, Tryd.ntmps12
      go_wp2_with fail
      refine bodyPost_ret (v := .tuple #[.agg #[.int .i64 n, .int .i64 m], .bool true]) (by simp [results, Tryd.results12, go_sem]) rfl ?_
      exact OfRet.yes HX.out HY.out (((Below.refl _ _).alloc (Nat.le_refl _) _).alloc (by simp) _)

theorem of_c (x y : Nat) (hx : Wd x) (hy : Wd y) (w : World) : Calls Tryd.prog 12 #[.complex .f64 x y] w (OfRet x y w) := by
  cases h1 : lowB x with
  | false => exact of_out x y (.inl h1) w
  | true =>
    cases h2 : highB x with
    | false => exact of_out x y (.inr (.inl ⟨h1, h2⟩)) w
    | true =>
      cases h3 : lowB y with
      | false => exact of_out x y (.inr (.inr (.inl ⟨h1, h2, h3⟩))) w
      | true =>
        cases h4 : highB y with
        | false => exact of_out x y (.inr (.inr (.inr ⟨h1, h2, h3, h4⟩))) w
        | true => exact of_in x y hx hy h1 h2 h3 h4 w
end Go.Proofs.YtffgicppidgcpaaDoor
