/- The walks of package phasor and of its reference, first part: which numbers are formed, their parts, their texts. Conditions: as stated. -/
import Derived.Test.YtjmfknfponjgkaaGreatDoorJMem
set_option maxRecDepth 100000
set_option maxHeartbeats 1000000
namespace Go.Proofs.YtjmfknfponjgkaaGreatDoor
section
open Go.RowKit
def Wd (x : Nat) : Prop := x < 2 ^ 64
def neg (x : Nat) : Bool := decide (2 ^ 63 <= x)
def absB (x : Nat) : Nat := x % 2 ^ 63
theorem arch_run (x : Nat) (w : World) : ∃ y w', (callFunc 210 #[.float .f64 x]).run Tryz.prog w = .ok (.value (.float .f64 y)) w' /\ Below w.heap.size w w' /\ (FloatKind.f64.format.order x y == some .eq) = Fl.whole x := by
 have h := run_callFunc_extern (P := Tryz.prog) (f := 210) Tryz.func210 (by kernel_rfl) rfl (by kernel_rfl) (e := Extern.MathFloor.toIntegral "math.archTrunc" .zero) (by kernel_rfl) #[.float .f64 x] w
 rw [h]
 have key : Extern.MathFloor.toIntegral "math.archTrunc" .zero #[.float .f64 x] = (match Ieee.double.read x with
  | .nan s t =>
   if FloatKind.f64.format.quiet t = t then pure (.float .f64 x) else do
   let kept <- choose (.extern "math.Floor,Ceil,Trunc,RoundToEven.signallingNaN kept" 2)
   pure (.float .f64 (if kept == 1 then x else FloatKind.f64.encode (.nan s (FloatKind.f64.format.quiet t))))
  | d => pure (.float .f64 (FloatKind.f64.encode (d.integral .zero)))) := rfl
 rw [key]
 unfold Fl.whole
 cases hr : Ieee.double.read x with
 | nan s t =>
  have hno : ∀ y, (FloatKind.f64.format.order x y == some Ordering.eq) = false := by
   intro y
   show (Ieee.double.order x y == some Ordering.eq) = false
   unfold Ieee.Format.order; rw [hr]; rfl
  simp only
  split
  · exact ⟨x, w, rfl, Below.refl _ _, hno x⟩
  · exact ⟨_, _, rfl, (Below.refl _ _).drew, hno _⟩
 | infinity s => exact ⟨_, w, rfl, Below.refl _ _, rfl⟩
 | number s m e => exact ⟨_, w, rfl, Below.refl _ _, rfl⟩
theorem bits_run (x : Nat) (w : World) : (callFunc 213 #[.float .f64 x]).run Tryz.prog w = .ok (.value (.int .u64 x)) w := by
 rw [run_callFunc_extern (P := Tryz.prog) (f := 213) Tryz.func213 (by kernel_rfl) rfl (by kernel_rfl) (e := Extern.MathFloatBits.float64bits) (by kernel_rfl) #[.float .f64 x] w]
 rfl
theorem from_run (x : Int) (w : World) : (callFunc 212 #[.int .u64 x]).run Tryz.prog w = .ok (.value (.float .f64 x.toNat)) w := by
 rw [run_callFunc_extern (P := Tryz.prog) (f := 212) Tryz.func212 (by kernel_rfl) rfl (by kernel_rfl) (e := Extern.MathFloatBits.float64frombits) (by kernel_rfl) #[.int .u64 x] w]
 rfl
theorem neg_wrap {x : Nat} (hx : Wd x) : decide (wrap64 (x : Int) < 0) = neg x := by
 unfold Wd at hx
 unfold neg wrap64
 rw [decide_eq_decide]
 omega
theorem abs_bits {x : Nat} (hx : Wd x) : (bits BinOp.andNot IntKind.u64 (x : Int) 9223372036854775808).toNat = absB x := by
 unfold Wd at hx
 unfold absB
 rw [u64_andNot _ _ (by omega) (by omega) (by omega) (by omega)]
 have e : (18446744073709551615 - (9223372036854775808 : Int).toNat) = 2 ^ 63 - 1 := by decide
 rw [e, Int.toNat_natCast, Int.toNat_natCast, Nat.and_two_pow_sub_one_eq_mod]
theorem signbit_c (x : Nat) (hx : Wd x) (w : World) :
  Calls Tryz.prog 195 #[.float .f64 x] w fun e w' => e = .returned (.bool (neg x)) /\ w = w' := by
 have h := bits_run x w
 go_enter Tryz.func195, Tryz.ntmps195
 go_wp2
 go_ret
 exact ⟨congrArg (fun b => Ending.returned (.bool b)) (neg_wrap hx), rfl⟩
theorem abs_c (x : Nat) (hx : Wd x) (w : World) :
  Calls Tryz.prog 194 #[.float .f64 x] w fun e w' => e = .returned (.float .f64 (absB x)) /\ w = w' := by
 have h := bits_run x w
 have h2 := fun y => from_run y w
 go_enter Tryz.func194, Tryz.ntmps194
 go_wp2
 go_ret
 exact ⟨congrArg (fun b => Ending.returned (.float .f64 b)) (abs_bits hx), rfl⟩
theorem trunc_c (x : Nat) (w : World) :
  Calls Tryz.prog 193 #[.float .f64 x] w fun e w' => ∃ y, e = .returned (.float .f64 y) /\ Below w.heap.size w w' /\ (FloatKind.f64.format.order x y == some .eq) = Fl.whole x := by
 obtain ⟨y, w1, h, hb, ho⟩ := arch_run x w
 go_enter Tryz.func193, Tryz.ntmps193
 go_wp2
 go_ret
 exact ⟨y, rfl, hb, ho⟩
def okB (x : Nat) : Bool := (Fl.numOf x).isSome
theorem okB_yes {x : Nat} (hx : Wd x) (hw : Fl.whole x = true) (ho : FloatKind.f64.format.order (absB x) 4696837146684686336 = some .lt \/ FloatKind.f64.format.order (absB x) 4696837146684686336 = some .eq)
  (hs : FloatKind.f64.format.order x 0 ≠ some .eq \/ neg x = false) : okB x = true := by
 have hs' : Fl.dbl.order x 0 ≠ some .eq \/ x < 2 ^ 63 := by
  rcases hs with h | h
  · exact .inl h
  · right; unfold neg at h; have := of_decide_eq_false h; omega
 obtain ⟨n, hn⟩ := Fl.part_yes (b := x) hx hw (by rw [Fl.D_million]; exact ho) hs'
 unfold okB; rw [hn]; rfl
theorem okB_no {x : Nat} (h : Fl.whole x = false \/ (FloatKind.f64.format.order (absB x) 4696837146684686336 ≠ some .lt /\ FloatKind.f64.format.order (absB x) 4696837146684686336 ≠ some .eq) \/ (FloatKind.f64.format.order x 0 = some .eq /\ neg x = true)) : okB x = false := by
 cases ho : okB x with
 | false => rfl
 | true =>
  exfalso
  unfold okB at ho
  obtain ⟨n, hn⟩ := Option.isSome_iff_exists.1 ho
  obtain ⟨h1, rfl⟩ := Fl.numOf_some hn
  obtain ⟨p1, p2, p3⟩ := Fl.part_num h1
  rw [Fl.D_million] at p2
  rcases h with h | h | h
  · rw [p1] at h; cases h
  · rcases p2 with p2 | p2
    · exact h.1 p2
    · exact h.2 p2
  · rcases p3 with p3 | p3
    · exact p3 h.1
    · have := h.2; unfold neg at this; have := of_decide_eq_true this; omega
theorem retB {a b : Bool} (h : a = b) : Ending.returned (.bool a) = Ending.returned (.bool b) := by rw [h]
theorem part_c (x : Nat) (hx : Wd x) (w : World) :
  Calls Tryz.prog 170 #[.float .f64 x] w fun e w' => e = .returned (.bool (okB x)) /\ Below w.heap.size w w' := by
 cases hw : Fl.whole x with
 | false =>
  have hno := okB_no (.inl hw)
  go_enter Tryz.func170, Tryz.ntmps170
  go_wp2_with (first
   | (go_at_call 193; refine (trunc_c x _).mono ?_; rintro e w1 ⟨y, rfl, hb1, hy⟩))
  go_ret
  exact ⟨retB hno.symm, hb1⟩
 | true =>
  by_cases ho : FloatKind.f64.format.order (absB x) 4696837146684686336 = some .lt \/ FloatKind.f64.format.order (absB x) 4696837146684686336 = some .eq
  · have ho1 : (FloatKind.f64.format.order (absB x) 4696837146684686336 == some .lt || FloatKind.f64.format.order (absB x) 4696837146684686336 == some .eq) = true := by
     rcases ho with h | h <;> rw [h] <;> rfl
    cases hz : (FloatKind.f64.format.order x 0 != some .eq) with
    | true =>
     have hyes := okB_yes hx hw ho (.inl (by simpa using hz))
     clear ho
     go_enter Tryz.func170, Tryz.ntmps170
     go_wp2_with (first
      | (go_at_call 193; refine (trunc_c x _).mono ?_; rintro e w1 ⟨y, rfl, hb1, hy⟩)
      | (go_at_call 194; refine (abs_c x hx _).mono ?_; rintro e w2 ⟨rfl, rfl⟩))
     go_ret
     exact ⟨retB hyes.symm, hb1⟩
    | false =>
     have hz2 : FloatKind.f64.format.order x 0 = some .eq := by simpa using hz
     cases hn : neg x with
     | false =>
      have hyes := okB_yes hx hw ho (.inr hn)
      clear ho hz2
      go_enter Tryz.func170, Tryz.ntmps170
      go_wp2_with (first
       | (go_at_call 193; refine (trunc_c x _).mono ?_; rintro e w1 ⟨y, rfl, hb1, hy⟩)
       | (go_at_call 194; refine (abs_c x hx _).mono ?_; rintro e w2 ⟨rfl, rfl⟩)
       | (go_at_call 195; refine (signbit_c x hx _).mono ?_; rintro e w3 ⟨rfl, rfl⟩))
      go_ret
      exact ⟨retB hyes.symm, hb1⟩
     | true =>
      have hyes := okB_no (.inr (.inr ⟨hz2, hn⟩))
      clear ho hz2
      go_enter Tryz.func170, Tryz.ntmps170
      go_wp2_with (first
       | (go_at_call 193; refine (trunc_c x _).mono ?_; rintro e w1 ⟨y, rfl, hb1, hy⟩)
       | (go_at_call 194; refine (abs_c x hx _).mono ?_; rintro e w2 ⟨rfl, rfl⟩)
       | (go_at_call 195; refine (signbit_c x hx _).mono ?_; rintro e w3 ⟨rfl, rfl⟩))
      go_ret
      exact ⟨retB hyes.symm, hb1⟩
  · have ho2 : FloatKind.f64.format.order (absB x) 4696837146684686336 ≠ some .lt /\ FloatKind.f64.format.order (absB x) 4696837146684686336 ≠ some .eq := ⟨fun h => ho (.inl h), fun h => ho (.inr h)⟩
    have ho1 : (FloatKind.f64.format.order (absB x) 4696837146684686336 == some .lt || FloatKind.f64.format.order (absB x) 4696837146684686336 == some .eq) = false := by
     simp [ho2.1, ho2.2]
    have hno := okB_no (.inr (.inl ho2))
    clear ho ho2
    go_enter Tryz.func170, Tryz.ntmps170
    go_wp2_with (first
     | (go_at_call 193; refine (trunc_c x _).mono ?_; rintro e w1 ⟨y, rfl, hb1, hy⟩)
     | (go_at_call 194; refine (abs_c x hx _).mono ?_; rintro e w2 ⟨rfl, rfl⟩))
    go_ret
    exact ⟨retB hno.symm, hb1⟩
end
section
open Go.RowKit
theorem ord_D {a c : Int} (ha : a.natAbs <= 1000000) (hc : c.natAbs <= 1000000) : FloatKind.f64.format.order (Fl.D a) (Fl.D c) = some (compare a c) := Fl.order_W (Fl.isW_D a) (Fl.isW_D c) (by omega) (by omega)
theorem eqB_D {a c : Int} (ha : a.natAbs <= 1000000) (hc : c.natAbs <= 1000000) : (FloatKind.f64.format.order (Fl.D a) (Fl.D c) == some .eq) = decide (a = c) := by
 rw [ord_D ha hc]
 by_cases h : a = c
 · subst h; rw [Fl.compare_self']; simp
 · have : compare a c ≠ .eq := fun e => h (Fl.compare_eq e)
   simp [h, this]
theorem gtB_D {a c : Int} (ha : a.natAbs <= 1000000) (hc : c.natAbs <= 1000000) : (FloatKind.f64.format.order (Fl.D a) (Fl.D c) == some .gt) = decide (c < a) := by
 rw [ord_D ha hc]
 rcases Int.lt_trichotomy a c with h | h | h
 · rw [Fl.cmp_lt h]; simp; omega
 · subst h; rw [Fl.compare_self']; simp
 · rw [Fl.cmp_gt h]; simp [h]
theorem okB_D {a : Int} (ha : a.natAbs <= 1000000) : okB (Fl.D a) = true := by unfold okB; rw [Fl.numOf_D ha]; rfl
theorem wd_D {a : Int} (ha : a.natAbs < 2 ^ 53) : Wd (Fl.D a) := Fl.D_lt a ha
theorem toInt_D {a : Int} (ha : a.natAbs <= 1000000) : floatToIntVal .f64 (Fl.D a) .i64 = some a := by
 unfold floatToIntVal
 have h : (FloatKind.f64.decode (Fl.D a)).toInt .zero = some a := Fl.toInt_val (Fl.read_D a (by omega)).val
 rw [h]
 have e1 : IntKind.i64.min = -9223372036854775808 := rfl
 have e2 : IntKind.i64.max = 9223372036854775807 := rfl
 simp only
 rw [e1, e2, if_pos (by omega)]
theorem formed_c (a b : Nat) (ha : Wd a) (hb : Wd b) (w : World) :
  Calls Tryz.prog 139 #[.complex .f64 a b] w fun e w' => e = .returned (.bool (okB a && okB b)) /\ Below w.heap.size w w' := by
 cases h1 : okB a with
 | false =>
  go_enter Tryz.func139, Tryz.ntmps139
  go_wp2_with (first
   | (go_at_call 170; refine (part_c a ha _).mono ?_; rintro e w1 ⟨rfl, hb1⟩))
  go_ret
  exact ⟨rfl, hb1⟩
 | true =>
  go_enter Tryz.func139, Tryz.ntmps139
  go_wp2_with fail
  refine (part_c a ha _).mono ?_
  rintro e w1 ⟨rfl, hb1⟩
  go_wp2_with fail
  refine (part_c b hb _).mono ?_
  rintro e w2 ⟨rfl, hb2⟩
  go_wp2_with fail
  go_ret
  exact ⟨rfl, below_trans hb1 hb2⟩
theorem integer_c (n : Int) (hn : n.natAbs <= 1000000) (w : World) (hE : Env w) :
  Calls Tryz.prog 169 #[.float .f64 (Fl.D n)] w fun e w' => e = .returned (.string ⟨(Lib.itoa n).toArray⟩) /\ Below w.heap.size w w' := by
 have hcv := fun w => run_convert_float_int (P := Tryz.prog) w 162 2 .f64 .i64 (Fl.D n) n (by kernel_rfl) Tryz.underlying2 (toInt_D hn)
 go_enter Tryz.func169, Tryz.ntmps169
 go_wp2_with (first
  | (go_at_call 127; refine (fmtInt n (by omega) (by omega) _ hE).mono ?_; rintro e w1 ⟨rfl, hb1⟩))
 go_ret
 exact ⟨rfl, hb1⟩
theorem print_no (a b : Nat) (ha : Wd a) (hb : Wd b) (h : (okB a && okB b) = false) (w : World) :
  Calls Tryz.prog 138 #[.complex .f64 a b] w fun e w' => e = .returned (.tuple #[.string ⟨#[]⟩, .int .i64 1]) /\ Below w.heap.size w w' := by
 go_enter Tryz.func138, Tryz.ntmps138
 go_wp2_with (first
  | (go_at_call 139; refine (formed_c a b ha hb _).mono ?_; rintro e w1 ⟨rfl, hb1⟩))
 go_ret2
 exact ⟨rfl, hb1⟩
theorem print_real (a : Int) (ha : a.natAbs <= 1000000) (w : World) (hE : Env w) :
  Calls Tryz.prog 138 #[.complex .f64 (Fl.D a) (Fl.D 0)] w fun e w' => e = .returned (.tuple #[.string ⟨(PhS.text a 0).toArray⟩, .int .i64 0]) /\ Below w.heap.size w w' := by
 have hoa := okB_D ha
 have hob : okB (Fl.D 0) = true := okB_D (by decide)
 have h0 : (FloatKind.f64.format.order (Fl.D 0) 0 == some .eq) = true := by
  have := eqB_D (a := 0) (c := 0) (by decide) (by decide); rw [Fl.D_zero] at this ⊢; exact this
 go_enter Tryz.func138, Tryz.ntmps138
 go_wp2_with (first
  | (go_at_call 139; refine (formed_c _ _ (wd_D (by omega)) (wd_D (by decide)) _).mono ?_; rintro e w1 ⟨rfl, hb1⟩)
  | (go_at_call 169; refine (integer_c a ha _ (hE.below hb1)).mono ?_; rintro e w2 ⟨rfl, hb2⟩))
 go_ret2
 exact ⟨rfl, below_trans hb1 hb2⟩
theorem mk_append (l r : List UInt8) : (⟨l.toArray⟩ ++ ⟨r.toArray⟩ : ByteArray) = ⟨(l ++ r).toArray⟩ := by
 apply ByteArray.ext
 simp
theorem str_eq {l r : List UInt8} (h : l = r) : (⟨l.toArray⟩ : ByteArray) = ⟨r.toArray⟩ := by rw [h]
theorem integer_one (w : World) (hE : Env w) :
  Calls Tryz.prog 169 #[.float .f64 (Fl.D 1)] w fun e w' => e = .returned (.string ⟨#[49]⟩) /\ Below w.heap.size w w' := by
 refine (integer_c 1 (by decide) w hE).mono ?_
 rintro e w' ⟨rfl, hb⟩
 exact ⟨by rw [PhS.itoa_one], hb⟩
theorem integer_minus (w : World) (hE : Env w) :
  Calls Tryz.prog 169 #[.float .f64 (Fl.D (-1))] w fun e w' => e = .returned (.string ⟨#[45, 49]⟩) /\ Below w.heap.size w w' := by
 refine (integer_c (-1) (by decide) w hE).mono ?_
 rintro e w' ⟨rfl, hb⟩
 exact ⟨by rw [PhS.itoa_none], hb⟩
theorem replace_one (w : World) (hE : Env w) :
  Calls Tryz.prog 135 #[.string (⟨#[49]⟩ ++ ⟨#[105]⟩), .string ⟨#[49]⟩, .string ⟨#[]⟩, .int .i64 1] w fun e w' => e = .returned (.string ⟨#[105]⟩) /\ Below w.heap.size w w' := by
 obtain ⟨m, hm⟩ := hE.maxLen
 have e : (⟨#[49]⟩ ++ ⟨#[105]⟩ : ByteArray) = ⟨#[49, 105]⟩ := by decide +kernel
 rw [e]
 refine (Tryz.strings_Replace _ _ _ 1 m w (by decide) hm (by decide) (by show 2 + _ * 0 <= _; omega)).mono ?_
 rintro e w' ⟨rfl, hb⟩
 exact ⟨congrArg (fun l : List UInt8 => Ending.returned (.string ⟨l.toArray⟩)) (by decide +kernel), hb⟩
theorem replace_minus (w : World) (hE : Env w) :
  Calls Tryz.prog 135 #[.string (⟨#[45, 49]⟩ ++ ⟨#[105]⟩), .string ⟨#[49]⟩, .string ⟨#[]⟩, .int .i64 1] w fun e w' => e = .returned (.string ⟨#[45, 105]⟩) /\ Below w.heap.size w w' := by
 obtain ⟨m, hm⟩ := hE.maxLen
 have e : (⟨#[45, 49]⟩ ++ ⟨#[105]⟩ : ByteArray) = ⟨#[45, 49, 105]⟩ := by decide +kernel
 rw [e]
 refine (Tryz.strings_Replace _ _ _ 1 m w (by decide) hm (by decide) (by show 3 + _ * 0 <= _; omega)).mono ?_
 rintro e w' ⟨rfl, hb⟩
 exact ⟨congrArg (fun l : List UInt8 => Ending.returned (.string ⟨l.toArray⟩)) (by decide +kernel), hb⟩
theorem fz {a : Int} (ha : a.natAbs <= 1000000) : (FloatKind.f64.format.order (Fl.D a) 0 == some .eq) = decide (a = 0) := by
 have := eqB_D (a := a) (c := 0) ha (by decide); rw [Fl.D_zero] at this; exact this
theorem fone {a : Int} (ha : a.natAbs <= 1000000) : (FloatKind.f64.format.order (Fl.D a) 4607182418800017408 == some .eq) = decide (a = 1) := by
 have := eqB_D (a := a) (c := 1) ha (by decide); rw [Fl.D_one] at this; exact this
theorem fminus {a : Int} (ha : a.natAbs <= 1000000) : (FloatKind.f64.format.order (Fl.D a) 13830554455654793216 == some .eq) = decide (a = -1) := by
 have := eqB_D (a := a) (c := -1) ha (by decide); rw [Fl.D_minus] at this; exact this
theorem fpos {a : Int} (ha : a.natAbs <= 1000000) : (FloatKind.f64.format.order (Fl.D a) 0 == some .gt) = decide (0 < a) := by
 have := gtB_D (a := a) (c := 0) ha (by decide); rw [Fl.D_zero] at this; exact this
def Printed (a b : Int) (w : World) (e : Ending) (w' : World) : Prop := e = .returned (.tuple #[.string ⟨(PhS.text a b).toArray⟩, .int .i64 0]) /\ Below w.heap.size w w'
theorem Printed.mk {a b : Int} {w w' : World} {s : ByteArray} (h : s = ⟨(PhS.text a b).toArray⟩) (hb : Below w.heap.size w w') : Printed a b w (.returned (.tuple #[.string s, .int .i64 0])) w' := ⟨by rw [h], hb⟩
theorem print_one_nought (w : World) (hE : Env w) :
  Calls Tryz.prog 138 #[.complex .f64 (Fl.D 0) (Fl.D 1)] w (Printed 0 1 w) := by
 have hoa := okB_D (a := 0) (by decide)
 have hob := okB_D (a := 1) (by decide)
 have f1 : (FloatKind.f64.format.order (Fl.D 1) 0 == some .eq) = false := fz (by decide)
 have f2 : (FloatKind.f64.format.order (Fl.D 1) 4607182418800017408 == some .eq) = true := fone (by decide)
 have f3 : (FloatKind.f64.format.order (Fl.D 0) 0 == some .eq) = true := fz (by decide)
 go_enter Tryz.func138, Tryz.ntmps138
 go_wp2_with (first
  | (go_at_call 139; refine (formed_c _ _ (wd_D (by decide)) (wd_D (by decide)) _).mono ?_; rintro e w1 ⟨rfl, hb1⟩)
  | (go_at_call 169; refine (integer_one _ (hE.below hb1)).mono ?_; rintro e w2 ⟨rfl, hb2⟩)
  | (go_at_call 135; refine (replace_one _ ((hE.below hb1).below hb2)).mono ?_; rintro e w3 ⟨rfl, hb3⟩))
 go_ret2
 exact Printed.mk (str_eq (by decide +kernel)) (below_trans (below_trans hb1 hb2) hb3)
theorem print_minus_nought (w : World) (hE : Env w) :
  Calls Tryz.prog 138 #[.complex .f64 (Fl.D 0) (Fl.D (-1))] w (Printed 0 (-1) w) := by
 have hoa := okB_D (a := 0) (by decide)
 have hob := okB_D (a := -1) (by decide)
 have f1 : (FloatKind.f64.format.order (Fl.D (-1)) 0 == some .eq) = false := fz (by decide)
 have f2 : (FloatKind.f64.format.order (Fl.D (-1)) 4607182418800017408 == some .eq) = false := fone (by decide)
 have f4 : (FloatKind.f64.format.order (Fl.D (-1)) 13830554455654793216 == some .eq) = true := fminus (by decide)
 have f3 : (FloatKind.f64.format.order (Fl.D 0) 0 == some .eq) = true := fz (by decide)
 go_enter Tryz.func138, Tryz.ntmps138
 go_wp2_with (first
  | (go_at_call 139; refine (formed_c _ _ (wd_D (by decide)) (wd_D (by decide)) _).mono ?_; rintro e w1 ⟨rfl, hb1⟩)
  | (go_at_call 169; refine (integer_minus _ (hE.below hb1)).mono ?_; rintro e w2 ⟨rfl, hb2⟩)
  | (go_at_call 135; refine (replace_minus _ ((hE.below hb1).below hb2)).mono ?_; rintro e w3 ⟨rfl, hb3⟩))
 go_ret2
 exact Printed.mk (str_eq (by decide +kernel)) (below_trans (below_trans hb1 hb2) hb3)
theorem print_one (a : Int) (ha : a.natAbs <= 1000000) (h0 : a ≠ 0) (w : World) (hE : Env w) :
  Calls Tryz.prog 138 #[.complex .f64 (Fl.D a) (Fl.D 1)] w (Printed a 1 w) := by
 have hl := PhS.itoa_len (n := a) (by omega)
 have hoa := okB_D ha
 have hob := okB_D (a := 1) (by decide)
 have f1 : (FloatKind.f64.format.order (Fl.D 1) 0 == some .eq) = false := fz (by decide)
 have f2 : (FloatKind.f64.format.order (Fl.D 1) 4607182418800017408 == some .eq) = true := fone (by decide)
 have f3 : (FloatKind.f64.format.order (Fl.D a) 0 == some .eq) = false := by rw [fz ha]; simpa using h0
 have f5 : (FloatKind.f64.format.order (Fl.D 1) 0 == some .gt) = true := fpos (by decide)
 have hfin : PhS.text a 1 = Lib.itoa a ++ ([43] ++ [105]) := by unfold PhS.text PhS.sec; rw [if_neg (by decide), if_neg h0]; rfl
 have HF := hZ9 hfin
 clear hfin
 go_enter Tryz.func138, Tryz.ntmps138
 go_wp2_with fail
 refine (formed_c _ _ (wd_D (by omega)) (wd_D (by decide)) _).mono ?_; rintro e w1 ⟨rfl, hb1⟩
 go_wp2_with fail
 refine (integer_one _ (hE.below hb1)).mono ?_; rintro e w2 ⟨rfl, hb2⟩
 go_wp2_with fail
 refine (replace_one _ ((hE.below hb1).below hb2)).mono ?_; rintro e w3 ⟨rfl, hb3⟩
 go_wp2_with fail
 refine (integer_c a ha _ (((hE.below hb1).below hb2).below hb3)).mono ?_; rintro e w4 ⟨rfl, hb4⟩
 go_wp2_with fail
 go_ret2
 refine Printed.mk ?_ (below_trans (below_trans (below_trans hb1 hb2) hb3) hb4)
 rw [HF.out, <- mk_append, <- mk_append]
theorem print_minus (a : Int) (ha : a.natAbs <= 1000000) (h0 : a ≠ 0) (w : World) (hE : Env w) :
  Calls Tryz.prog 138 #[.complex .f64 (Fl.D a) (Fl.D (-1))] w (Printed a (-1) w) := by
 have hl := PhS.itoa_len (n := a) (by omega)
 have hoa := okB_D ha
 have hob := okB_D (a := -1) (by decide)
 have f1 : (FloatKind.f64.format.order (Fl.D (-1)) 0 == some .eq) = false := fz (by decide)
 have f2 : (FloatKind.f64.format.order (Fl.D (-1)) 4607182418800017408 == some .eq) = false := fone (by decide)
 have f4 : (FloatKind.f64.format.order (Fl.D (-1)) 13830554455654793216 == some .eq) = true := fminus (by decide)
 have f3 : (FloatKind.f64.format.order (Fl.D a) 0 == some .eq) = false := by rw [fz ha]; simpa using h0
 have f5 : (FloatKind.f64.format.order (Fl.D (-1)) 0 == some .gt) = false := fpos (by decide)
 have hfin : PhS.text a (-1) = Lib.itoa a ++ [45, 105] := by unfold PhS.text PhS.sec; rw [if_neg (by decide), if_neg h0]; rfl
 have HF := hZ9 hfin
 clear hfin
 go_enter Tryz.func138, Tryz.ntmps138
 go_wp2_with fail
 refine (formed_c _ _ (wd_D (by omega)) (wd_D (by decide)) _).mono ?_; rintro e w1 ⟨rfl, hb1⟩
 go_wp2_with fail
 refine (integer_minus _ (hE.below hb1)).mono ?_; rintro e w2 ⟨rfl, hb2⟩
 go_wp2_with fail
 refine (replace_minus _ ((hE.below hb1).below hb2)).mono ?_; rintro e w3 ⟨rfl, hb3⟩
 go_wp2_with fail
 refine (integer_c a ha _ (((hE.below hb1).below hb2).below hb3)).mono ?_; rintro e w4 ⟨rfl, hb4⟩
 go_wp2_with fail
 go_ret2
 refine Printed.mk ?_ (below_trans (below_trans (below_trans hb1 hb2) hb3) hb4)
 rw [HF.out, <- mk_append]
theorem print_nought (b : Int) (hb : b.natAbs <= 1000000) (h0 : b ≠ 0) (h1 : b ≠ 1) (h2 : b ≠ -1) (w : World) (hE : Env w) :
  Calls Tryz.prog 138 #[.complex .f64 (Fl.D 0) (Fl.D b)] w (Printed 0 b w) := by
 have hl := PhS.itoa_len (n := b) (by omega)
 have hoa := okB_D (a := 0) (by decide)
 have hob := okB_D hb
 have f1 : (FloatKind.f64.format.order (Fl.D b) 0 == some .eq) = false := by rw [fz hb]; simpa using h0
 have f2 : (FloatKind.f64.format.order (Fl.D b) 4607182418800017408 == some .eq) = false := by rw [fone hb]; simpa using h1
 have f4 : (FloatKind.f64.format.order (Fl.D b) 13830554455654793216 == some .eq) = false := by rw [fminus hb]; simpa using h2
 have f3 : (FloatKind.f64.format.order (Fl.D 0) 0 == some .eq) = true := fz (by decide)
 have hfin : PhS.text 0 b = Lib.itoa b ++ [105] := by unfold PhS.text PhS.sec; rw [if_neg h0, if_pos rfl, if_neg h1, if_neg h2]
 have HF := hZ9 hfin
 clear hfin h0 h1 h2
 go_enter Tryz.func138, Tryz.ntmps138
 go_wp2_with fail
 refine (formed_c _ _ (wd_D (by decide)) (wd_D (by omega)) _).mono ?_; rintro e w1 ⟨rfl, hb1⟩
 go_wp2_with fail
 refine (integer_c b hb _ (hE.below hb1)).mono ?_; rintro e w2 ⟨rfl, hb2⟩
 go_wp2_with fail
 go_ret2
 refine Printed.mk ?_ (below_trans hb1 hb2)
 rw [HF.out, <- mk_append]
theorem print_pos (a b : Int) (ha : a.natAbs <= 1000000) (hb : b.natAbs <= 1000000) (ha0 : a ≠ 0) (h0 : 0 < b) (h1 : b ≠ 1) (w : World) (hE : Env w) :
  Calls Tryz.prog 138 #[.complex .f64 (Fl.D a) (Fl.D b)] w (Printed a b w) := by
 have hl := PhS.itoa_len (n := b) (by omega)
 have hl2 := PhS.itoa_len (n := a) (by omega)
 have hoa := okB_D ha
 have hob := okB_D hb
 have f1 : (FloatKind.f64.format.order (Fl.D b) 0 == some .eq) = false := by rw [fz hb]; simp; omega
 have f2 : (FloatKind.f64.format.order (Fl.D b) 4607182418800017408 == some .eq) = false := by rw [fone hb]; simpa using h1
 have f4 : (FloatKind.f64.format.order (Fl.D b) 13830554455654793216 == some .eq) = false := by rw [fminus hb]; simp; omega
 have f3 : (FloatKind.f64.format.order (Fl.D a) 0 == some .eq) = false := by rw [fz ha]; simpa using ha0
 have f5 : (FloatKind.f64.format.order (Fl.D b) 0 == some .gt) = true := by rw [fpos hb]; simpa using h0
 have hfin : PhS.text a b = Lib.itoa a ++ ([43] ++ (Lib.itoa b ++ [105])) := by unfold PhS.text PhS.sec; rw [if_neg (by omega), if_neg ha0, if_pos h0, if_neg h1, if_neg (by omega)]; rfl
 have HF := hZ9 hfin
 clear hfin ha0 h1
 go_enter Tryz.func138, Tryz.ntmps138
 go_wp2_with fail
 refine (formed_c _ _ (wd_D (by omega)) (wd_D (by omega)) _).mono ?_; rintro e w1 ⟨rfl, hb1⟩
 go_wp2_with fail
 refine (integer_c b hb _ (hE.below hb1)).mono ?_; rintro e w2 ⟨rfl, hb2⟩
 go_wp2_with fail
 refine (integer_c a ha _ ((hE.below hb1).below hb2)).mono ?_; rintro e w3 ⟨rfl, hb3⟩
 go_wp2_with fail
 go_ret2
 refine Printed.mk ?_ (below_trans (below_trans hb1 hb2) hb3)
 rw [HF.out, <- mk_append, <- mk_append, <- mk_append]
theorem print_neg (a b : Int) (ha : a.natAbs <= 1000000) (hb : b.natAbs <= 1000000) (ha0 : a ≠ 0) (h0 : b < 0) (h1 : b ≠ -1) (w : World) (hE : Env w) :
  Calls Tryz.prog 138 #[.complex .f64 (Fl.D a) (Fl.D b)] w (Printed a b w) := by
 have hl := PhS.itoa_len (n := b) (by omega)
 have hl2 := PhS.itoa_len (n := a) (by omega)
 have hoa := okB_D ha
 have hob := okB_D hb
 have f1 : (FloatKind.f64.format.order (Fl.D b) 0 == some .eq) = false := by rw [fz hb]; simp; omega
 have f2 : (FloatKind.f64.format.order (Fl.D b) 4607182418800017408 == some .eq) = false := by rw [fone hb]; simp; omega
 have f4 : (FloatKind.f64.format.order (Fl.D b) 13830554455654793216 == some .eq) = false := by rw [fminus hb]; simpa using h1
 have f3 : (FloatKind.f64.format.order (Fl.D a) 0 == some .eq) = false := by rw [fz ha]; simpa using ha0
 have f5 : (FloatKind.f64.format.order (Fl.D b) 0 == some .gt) = false := by rw [fpos hb]; simp; omega
 have hfin : PhS.text a b = Lib.itoa a ++ (Lib.itoa b ++ [105]) := by unfold PhS.text PhS.sec; rw [if_neg (by omega), if_neg ha0, if_neg (by omega), if_neg (by omega), if_neg h1]
 have HF := hZ9 hfin
 clear hfin ha0 h1
 go_enter Tryz.func138, Tryz.ntmps138
 go_wp2_with fail
 refine (formed_c _ _ (wd_D (by omega)) (wd_D (by omega)) _).mono ?_; rintro e w1 ⟨rfl, hb1⟩
 go_wp2_with fail
 refine (integer_c b hb _ (hE.below hb1)).mono ?_; rintro e w2 ⟨rfl, hb2⟩
 go_wp2_with fail
 refine (integer_c a ha _ ((hE.below hb1).below hb2)).mono ?_; rintro e w3 ⟨rfl, hb3⟩
 go_wp2_with fail
 go_ret2
 refine Printed.mk ?_ (below_trans (below_trans hb1 hb2) hb3)
 rw [HF.out, <- mk_append, <- mk_append]
theorem print_yes (a b : Int) (h : PhS.inR a b = true) (w : World) (hE : Env w) :
  Calls Tryz.prog 138 #[.complex .f64 (Fl.D a) (Fl.D b)] w (Printed a b w) := by
 have hr : a.natAbs <= 1000000 /\ b.natAbs <= 1000000 := of_decide_eq_true h
 obtain ⟨ha, hb⟩ := hr
 by_cases b0 : b = 0
 · subst b0; exact print_real a ha w hE
 by_cases b1 : b = 1
 · subst b1
   by_cases a0 : a = 0
   · subst a0; exact print_one_nought w hE
   · exact print_one a ha a0 w hE
 by_cases b2 : b = -1
 · subst b2
   by_cases a0 : a = 0
   · subst a0; exact print_minus_nought w hE
   · exact print_minus a ha a0 w hE
 by_cases a0 : a = 0
 · subst a0; exact print_nought b hb b0 b1 b2 w hE
 by_cases hp : 0 < b
 · exact print_pos a b ha hb a0 hp b1 w hE
 · exact print_neg a b ha hb a0 (by omega) b2 w hE
end
end Go.Proofs.YtjmfknfponjgkaaGreatDoor
