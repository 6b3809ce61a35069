/- The walks of package phasor and of its reference, first part: which numbers are formed, their parts, their texts. Conditions: a float's bits are below 2 to the 64th; the library's tables lie as the program's text lays them. -/
import Derived.Test.YtjjbkldlgjllnaaGreatDoorEnv
namespace Go.Proofs.YtjjbkldlgjllnaaGreatDoor
open Go.RowKit

def Wd (x : Nat) : Prop := x < 2 ^ 64
def neg (x : Nat) : Bool := decide (2 ^ 63 ≤ x)
def absB (x : Nat) : Nat := x % 2 ^ 63

theorem arch_run (x : Nat) (w : World) : ∃ y w', (callFunc 205 #[.float .f64 x]).run Tryz.prog w = .ok (.value (.float .f64 y)) w' ∧ Below w.heap.size w w' ∧ (FloatKind.f64.format.order x y == some .eq) = Fl.whole x := by
  have h := run_callFunc_extern (P := Tryz.prog) (f := 205) Tryz.func205 (by kernel_rfl) rfl (by kernel_rfl) (e := Extern.MathFloor.toIntegral "math.archTrunc" .zero) (by kernel_rfl) #[.float .f64 x] w
  rw [h]
  have key : Extern.MathFloor.toIntegral "math.archTrunc" .zero #[.float .f64 x] = (match Ieee.double.read x with
    | .nan s t =>
      if FloatKind.f64.format.quiet t = t then pure (.float .f64 x) else do
      let kept ← choose (.extern "math.Floor,Ceil,Trunc,RoundToEven.signallingNaN kept" 2)
      pure (.float .f64 (if kept == 1 then x else FloatKind.f64.encode (.nan s (FloatKind.f64.format.quiet t))))
    | d => pure (.float .f64 (FloatKind.f64.encode (d.integral .zero)))) := rfl
  rw [key]
  unfold Fl.whole
  cases hr : Ieee.double.read x with
  | nan s t =>
    have hno : ∀ y, (FloatKind.f64.format.order x y == some Ordering.eq) = false := by
      intro y
      show (Ieee.double.order x y == some Ordering.eq) = false
      unfold Ieee.Format.order; rw [hr]; rfl
    simp only
    split
    · exact ⟨x, w, rfl, Below.refl _ _, hno x⟩
    · exact ⟨_, _, rfl, (Below.refl _ _).drew, hno _⟩
  | infinity s => exact ⟨_, w, rfl, Below.refl _ _, rfl⟩
  | number s m e => exact ⟨_, w, rfl, Below.refl _ _, rfl⟩
theorem bits_run (x : Nat) (w : World) : (callFunc 208 #[.float .f64 x]).run Tryz.prog w = .ok (.value (.int .u64 x)) w := by
  rw [run_callFunc_extern (P := Tryz.prog) (f := 208) Tryz.func208 (by kernel_rfl) rfl (by kernel_rfl) (e := Extern.MathFloatBits.float64bits) (by kernel_rfl) #[.float .f64 x] w]
  rfl
theorem from_run (x : Int) (w : World) : (callFunc 207 #[.int .u64 x]).run Tryz.prog w = .ok (.value (.float .f64 x.toNat)) w := by
  rw [run_callFunc_extern (P := Tryz.prog) (f := 207) Tryz.func207 (by kernel_rfl) rfl (by kernel_rfl) (e := Extern.MathFloatBits.float64frombits) (by kernel_rfl) #[.int .u64 x] w]
  rfl
theorem neg_wrap {x : Nat} (hx : Wd x) : decide (wrap64 (x : Int) < 0) = neg x := by
  unfold Wd at hx
  unfold neg wrap64
  rw [decide_eq_decide]
  omega
theorem abs_bits {x : Nat} (hx : Wd x) : (bits BinOp.andNot IntKind.u64 (x : Int) 9223372036854775808).toNat = absB x := by
  unfold Wd at hx
  unfold absB
  rw [u64_andNot _ _ (by omega) (by omega) (by omega) (by omega)]
  have e : (18446744073709551615 - (9223372036854775808 : Int).toNat) = 2 ^ 63 - 1 := by decide
  rw [e, Int.toNat_natCast, Int.toNat_natCast, Nat.and_two_pow_sub_one_eq_mod]

set_option maxRecDepth 100000 in
theorem signbit_c (x : Nat) (hx : Wd x) (w : World) :
    Calls Tryz.prog 190 #[.float .f64 x] w fun e w' => e = .returned (.bool (neg x)) ∧ w = w' := by
  have h := bits_run x w
  go_enter Tryz.func190, Tryz.ntmps190
  go_wp2
  go_ret
  exact ⟨congrArg (fun b => Ending.returned (.bool b)) (neg_wrap hx), rfl⟩
set_option maxRecDepth 100000 in
theorem abs_c (x : Nat) (hx : Wd x) (w : World) :
    Calls Tryz.prog 189 #[.float .f64 x] w fun e w' => e = .returned (.float .f64 (absB x)) ∧ w = w' := by
  have h := bits_run x w
  have h2 := fun y => from_run y w
  go_enter Tryz.func189, Tryz.ntmps189
  go_wp2
  go_ret
  exact ⟨congrArg (fun b => Ending.returned (.float .f64 b)) (abs_bits hx), rfl⟩
set_option maxRecDepth 100000 in
theorem trunc_c (x : Nat) (w : World) :
    Calls Tryz.prog 188 #[.float .f64 x] w fun e w' => ∃ y, e = .returned (.float .f64 y) ∧ Below w.heap.size w w' ∧ (FloatKind.f64.format.order x y == some .eq) = Fl.whole x := by
  obtain ⟨y, w1, h, hb, ho⟩ := arch_run x w
  go_enter Tryz.func188, Tryz.ntmps188
  go_wp2
  go_ret
  exact ⟨y, rfl, hb, ho⟩

/-- is a part one of these numbers? -/
def okB (x : Nat) : Bool := (Fl.numOf x).isSome
theorem okB_yes {x : Nat} (hx : Wd x) (hw : Fl.whole x = true) (ho : FloatKind.f64.format.order (absB x) 4696837146684686336 = some .lt ∨ FloatKind.f64.format.order (absB x) 4696837146684686336 = some .eq)
    (hs : FloatKind.f64.format.order x 0 ≠ some .eq ∨ neg x = false) : okB x = true := by
  have hs' : Fl.dbl.order x 0 ≠ some .eq ∨ x < 2 ^ 63 := by
    rcases hs with h | h
    · exact .inl h
    · right; unfold neg at h; have := of_decide_eq_false h; omega
  obtain ⟨n, hn⟩ := Fl.part_yes (b := x) hx hw (by rw [Fl.D_million]; exact ho) hs'
  unfold okB; rw [hn]; rfl
theorem okB_no {x : Nat} (h : Fl.whole x = false ∨ (FloatKind.f64.format.order (absB x) 4696837146684686336 ≠ some .lt ∧ FloatKind.f64.format.order (absB x) 4696837146684686336 ≠ some .eq) ∨ (FloatKind.f64.format.order x 0 = some .eq ∧ neg x = true)) : okB x = false := by
  cases ho : okB x with
  | false => rfl
  | true =>
    exfalso
    unfold okB at ho
    obtain ⟨n, hn⟩ := Option.isSome_iff_exists.1 ho
    obtain ⟨h1, rfl⟩ := Fl.numOf_some hn
    obtain ⟨p1, p2, p3⟩ := Fl.part_num h1
    rw [Fl.D_million] at p2
    rcases h with h | h | h
    · rw [p1] at h; cases h
    · rcases p2 with p2 | p2
      · exact h.1 p2
      · exact h.2 p2
    · rcases p3 with p3 | p3
      · exact p3 h.1
      · have := h.2; unfold neg at this; have := of_decide_eq_true this; omega

theorem retB {a b : Bool} (h : a = b) : Ending.returned (.bool a) = Ending.returned (.bool b) := by rw [h]

set_option maxRecDepth 100000 in
set_option maxHeartbeats 1000000 in
theorem part_c (x : Nat) (hx : Wd x) (w : World) :
    Calls Tryz.prog 158 #[.float .f64 x] w fun e w' => e = .returned (.bool (okB x)) ∧ Below w.heap.size w w' := by
  cases hw : Fl.whole x with
  | false =>
    have hno := okB_no (.inl hw)
    go_enter Tryz.func158, Tryz.ntmps158
    go_wp2_with (first
      | (go_at_call 188; refine (trunc_c x _).mono ?_; rintro e w1 ⟨y, rfl, hb1, hy⟩))
    go_ret
    exact ⟨retB hno.symm, hb1⟩
  | true =>
    by_cases ho : FloatKind.f64.format.order (absB x) 4696837146684686336 = some .lt ∨ FloatKind.f64.format.order (absB x) 4696837146684686336 = some .eq
    · have ho1 : (FloatKind.f64.format.order (absB x) 4696837146684686336 == some .lt || FloatKind.f64.format.order (absB x) 4696837146684686336 == some .eq) = true := by
        rcases ho with h | h <;> rw [h] <;> rfl
      cases hz : (FloatKind.f64.format.order x 0 != some .eq) with
      | true =>
        have hyes := okB_yes hx hw ho (.inl (by simpa using hz))
        clear ho
        go_enter Tryz.func158, Tryz.ntmps158
        go_wp2_with (first
          | (go_at_call 188; refine (trunc_c x _).mono ?_; rintro e w1 ⟨y, rfl, hb1, hy⟩)
          | (go_at_call 189; refine (abs_c x hx _).mono ?_; rintro e w2 ⟨rfl, rfl⟩))
        go_ret
        exact ⟨retB hyes.symm, hb1⟩
      | false =>
        have hz2 : FloatKind.f64.format.order x 0 = some .eq := by simpa using hz
        cases hn : neg x with
        | false =>
          have hyes := okB_yes hx hw ho (.inr hn)
          clear ho hz2
          go_enter Tryz.func158, Tryz.ntmps158
          go_wp2_with (first
            | (go_at_call 188; refine (trunc_c x _).mono ?_; rintro e w1 ⟨y, rfl, hb1, hy⟩)
            | (go_at_call 189; refine (abs_c x hx _).mono ?_; rintro e w2 ⟨rfl, rfl⟩)
            | (go_at_call 190; refine (signbit_c x hx _).mono ?_; rintro e w3 ⟨rfl, rfl⟩))
          go_ret
          exact ⟨retB hyes.symm, hb1⟩
        | true =>
          have hyes := okB_no (.inr (.inr ⟨hz2, hn⟩))
          clear ho hz2
          go_enter Tryz.func158, Tryz.ntmps158
          go_wp2_with (first
            | (go_at_call 188; refine (trunc_c x _).mono ?_; rintro e w1 ⟨y, rfl, hb1, hy⟩)
            | (go_at_call 189; refine (abs_c x hx _).mono ?_; rintro e w2 ⟨rfl, rfl⟩)
            | (go_at_call 190; refine (signbit_c x hx _).mono ?_; rintro e w3 ⟨rfl, rfl⟩))
          go_ret
          exact ⟨retB hyes.symm, hb1⟩
    · have ho2 : FloatKind.f64.format.order (absB x) 4696837146684686336 ≠ some .lt ∧ FloatKind.f64.format.order (absB x) 4696837146684686336 ≠ some .eq := ⟨fun h => ho (.inl h), fun h => ho (.inr h)⟩
      have ho1 : (FloatKind.f64.format.order (absB x) 4696837146684686336 == some .lt || FloatKind.f64.format.order (absB x) 4696837146684686336 == some .eq) = false := by
        simp [ho2.1, ho2.2]
      have hno := okB_no (.inr (.inl ho2))
      clear ho ho2
      go_enter Tryz.func158, Tryz.ntmps158
      go_wp2_with (first
        | (go_at_call 188; refine (trunc_c x _).mono ?_; rintro e w1 ⟨y, rfl, hb1, hy⟩)
        | (go_at_call 189; refine (abs_c x hx _).mono ?_; rintro e w2 ⟨rfl, rfl⟩))
      go_ret
      exact ⟨retB hno.symm, hb1⟩
end Go.Proofs.YtjjbkldlgjllnaaGreatDoor
