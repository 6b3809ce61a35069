/- Plain laws on the model's 64 bit floats that stand for whole numbers: their sums, products, order and how they are read and written; no program in sight, no condition but those that each theorem states. -/
import Derived.Laws.ComplexArith
import Derived.KernelRfl
namespace Go.Proofs.YtjjbkldlgjllnaaGreatDoor.Fl
open Ieee

abbrev dbl : Format := Ieee.double

theorem log2_mul_pow (n k : Nat) (h : n ≠ 0) : (n * 2 ^ k).log2 = n.log2 + k := by
  induction k with
  | zero => simp
  | succ k ih =>
    rw [Nat.pow_succ, ← Nat.mul_assoc, Nat.mul_comm (n * 2 ^ k) 2, Nat.log2_two_mul (by
      have : 0 < 2 ^ k := Nat.two_pow_pos k
      exact Nat.mul_ne_zero h (by omega)), ih]
    omega

/-- the rung of a whole number -/
def rung (N : Nat) : Nat := if N = 0 then 0 else (N.log2 + 1022) * 2 ^ 52 + N * 2 ^ (52 - N.log2)

theorem rung_pos {N : Nat} (h : N ≠ 0) : rung N = (N.log2 + 1022) * 2 ^ 52 + N * 2 ^ (52 - N.log2) := by unfold rung; rw [if_neg h]

theorem log2_lt_53 {N : Nat} (h : N < 2 ^ 53) (h0 : N ≠ 0) : N.log2 ≤ 52 := by
  have := (Nat.log2_lt h0).2 h
  omega

theorem mant_bounds {N : Nat} (h : N < 2 ^ 53) (h0 : N ≠ 0) : 2 ^ 52 ≤ N * 2 ^ (52 - N.log2) ∧ N * 2 ^ (52 - N.log2) < 2 ^ 53 := by
  have hl := log2_lt_53 h h0
  have h1 := Nat.log2_self_le h0
  have h2 : N < 2 ^ (N.log2 + 1) := Nat.lt_log2_self
  constructor
  · calc 2 ^ 52 = 2 ^ (N.log2 + (52 - N.log2)) := by rw [Nat.add_sub_cancel' hl]
      _ = 2 ^ N.log2 * 2 ^ (52 - N.log2) := Nat.pow_add ..
      _ ≤ N * 2 ^ (52 - N.log2) := Nat.mul_le_mul_right _ h1
  · calc N * 2 ^ (52 - N.log2) < 2 ^ (N.log2 + 1) * 2 ^ (52 - N.log2) := Nat.mul_lt_mul_of_pos_right h2 (Nat.two_pow_pos _)
      _ = 2 ^ (N.log2 + 1 + (52 - N.log2)) := (Nat.pow_add ..).symm
      _ = 2 ^ 53 := by rw [show N.log2 + 1 + (52 - N.log2) = 53 by omega]

theorem cut_zero (way : Toward) (s : Bool) (n : Nat) : way.cut s n 0 = n := by
  unfold Toward.cut
  simp only [Nat.zero_le, Nat.min_eq_left, Nat.shiftLeft_zero, Nat.div_one, Nat.mod_one]
  cases way <;> simp

/-- an exact cut -/
theorem cut_exact (way : Toward) (s : Bool) (n k : Nat) (hn : n ≠ 0) : way.cut s (n * 2 ^ k) k = n := by
  unfold Toward.cut
  have hl : (n * 2 ^ k).log2 = n.log2 + k := log2_mul_pow n k hn
  have hm : min k ((n * 2 ^ k).log2 + 2) = k := by rw [hl]; omega
  have hp : 0 < 2 ^ k := Nat.two_pow_pos k
  simp only [hm, Nat.one_shiftLeft, Nat.mul_div_cancel _ hp, Nat.mul_mod_left]
  have h2 : (2 ^ k == 2 * 0) = false := by simp
  cases way <;> simp

theorem nearest_exact (s : Bool) (N k : Nat) (h : N < 2 ^ 53) (h0 : N ≠ 0) : dbl.nearest s (N * 2 ^ k) (-(k : Int)) = dbl.word s (rung N) := by
  have hl := log2_lt_53 h h0
  have hm := mant_bounds h h0
  have hp : 0 < 2 ^ k := Nat.two_pow_pos k
  have hne : N * 2 ^ k ≠ 0 := Nat.mul_ne_zero h0 (by omega)
  unfold Format.nearest
  rw [if_neg hne]
  have hlp : dbl.leastPlace = -1074 := by decide
  have hbin : dbl.binade = 2 ^ 52 := rfl
  have hinf : dbl.infRung = 2047 * 2 ^ 52 := by decide
  have hfb : dbl.fractionBits = 52 := rfl
  dsimp only
  rw [log2_mul_pow N k h0, hlp, hbin, hinf, hfb]
  have hlast : max (-(k : Int) + ((N.log2 + k : Nat) : Int) - ((52 : Nat) : Int)) (-1074) = (N.log2 : Int) - 52 := by omega
  rw [hlast]
  have e1 : ((N.log2 : Int) - 52 - -1074).toNat = N.log2 + 1022 := by omega
  rw [e1]
  have hcut : Toward.even.cut s ((N * 2 ^ k) <<< (-(k : Int) - ((N.log2 : Int) - 52)).toNat) ((N.log2 : Int) - 52 - -(k : Int)).toNat = N * 2 ^ (52 - N.log2) := by
    by_cases hk : k + N.log2 ≤ 52
    · have a : (-(k : Int) - ((N.log2 : Int) - 52)).toNat = 52 - N.log2 - k := by omega
      have b : ((N.log2 : Int) - 52 - -(k : Int)).toNat = 0 := by omega
      rw [a, b, cut_zero, Nat.shiftLeft_eq, Nat.mul_assoc, ← Nat.pow_add, show k + (52 - N.log2 - k) = 52 - N.log2 by omega]
    · have a : (-(k : Int) - ((N.log2 : Int) - 52)).toNat = 0 := by omega
      have b : ((N.log2 : Int) - 52 - -(k : Int)).toNat = k - (52 - N.log2) := by omega
      rw [a, b, Nat.shiftLeft_zero]
      have : N * 2 ^ k = (N * 2 ^ (52 - N.log2)) * 2 ^ (k - (52 - N.log2)) := by
        rw [Nat.mul_assoc, ← Nat.pow_add, show 52 - N.log2 + (k - (52 - N.log2)) = k by omega]
      rw [this]
      exact cut_exact _ _ _ _ (by omega)
  rw [hcut, rung_pos h0]
  generalize N * 2 ^ (52 - N.log2) = K at *
  rw [Nat.min_eq_left (by omega)]

theorem nearest_nought (s : Bool) (p : Int) : dbl.nearest s 0 p = dbl.word s 0 := by unfold Format.nearest; simp

/-- the double of a whole number -/
def D (n : Int) : Nat := dbl.word (decide (n < 0)) (rung n.natAbs)

theorem D_eq (n : Int) (h : n.natAbs < 2 ^ 53) : FloatKind.f64.nearest n = D n := by
  show dbl.nearest (decide (n < 0)) n.natAbs 0 = _
  by_cases h0 : n.natAbs = 0
  · have : n = 0 := by omega
    subst this
    exact nearest_nought _ _
  · have := nearest_exact (decide (n < 0)) n.natAbs 0 h h0
    rw [Int.natCast_zero, Int.neg_zero, Nat.pow_zero, Nat.mul_one] at this
    exact this

/-- a datum that stands for a whole number -/
def Val (d : Datum) (n : Int) : Prop := ∃ (s : Bool) (k : Nat), d = .number s (n.natAbs * 2 ^ k) (-(k : Int)) ∧ (n ≠ 0 → s = decide (n < 0))
/-- and whose zero has no sign -/
def ValP (d : Datum) (n : Int) : Prop := ∃ (k : Nat), d = .number (decide (n < 0)) (n.natAbs * 2 ^ k) (-(k : Int))
theorem ValP.val {d : Datum} {n : Int} (h : ValP d n) : Val d n := by
  obtain ⟨k, rfl⟩ := h; exact ⟨_, k, rfl, fun _ => rfl⟩

theorem rung_lt {N : Nat} (h : N < 2 ^ 53) : rung N < 2047 * 2 ^ 52 := by
  unfold rung
  split
  · omega
  · rename_i h0
    have hl := log2_lt_53 h h0
    have hm := mant_bounds h h0
    omega

theorem read_word (s : Bool) (N : Nat) (h : N < 2 ^ 53) : ∃ k : Nat, dbl.read (dbl.word s (rung N)) = .number s (N * 2 ^ k) (-(k : Int)) := by
  have hsw : dbl.signWeight = 2 ^ 63 := by decide
  have hbin : dbl.binade = 2 ^ 52 := rfl
  have hinf : dbl.infRung = 2047 * 2 ^ 52 := by decide
  have hlp : dbl.leastPlace = -1074 := by decide
  have hr := rung_lt h
  have h63 : rung N < 2 ^ 63 := by omega
  have hneg : (dbl.word s (rung N) / dbl.signWeight % 2 == 1) = s := by
    unfold Format.word
    rw [hsw]
    cases s
    · simp only [Bool.false_eq_true, if_false]
      rw [Nat.div_eq_of_lt h63]; rfl
    · simp only [if_true]
      rw [Nat.add_div_left _ (by decide), Nat.div_eq_of_lt h63]; rfl
  have hmod : dbl.word s (rung N) % dbl.signWeight = rung N := by
    unfold Format.word
    rw [hsw]
    cases s
    · simp only [Bool.false_eq_true, if_false]
      exact Nat.mod_eq_of_lt h63
    · simp only [if_true]
      rw [Nat.add_mod_left]; exact Nat.mod_eq_of_lt h63
  unfold Format.read
  dsimp only
  rw [hneg, hmod, hbin, hinf, hlp]
  by_cases h0 : N = 0
  · subst h0
    refine ⟨1074, ?_⟩
    generalize hp : (2 : Nat) ^ 1074 = p
    clear hp
    have e : rung 0 = 0 := rfl
    rw [e, if_pos (Nat.two_pow_pos 52), Nat.zero_mul]
    exact congrArg (Datum.number s 0) (by decide)
  · have hl := log2_lt_53 h h0
    have hm := mant_bounds h h0
    have hrung := rung_pos h0
    refine ⟨52 - N.log2, ?_⟩
    generalize N * 2 ^ (52 - N.log2) = K at *
    generalize rung N = R at *
    generalize N.log2 = L at *
    have hd : R / 2 ^ 52 = L + 1023 := by omega
    have hmo : R % 2 ^ 52 = K - 2 ^ 52 := by omega
    rw [if_neg (by omega), if_pos (by omega), hd, hmo, show 2 ^ 52 + (K - 2 ^ 52) = K by omega, show (-1074 : Int) + ((L + 1023 - 1 : Nat) : Int) = -((52 - L : Nat) : Int) by omega]

theorem read_D (n : Int) (h : n.natAbs < 2 ^ 53) : ValP (dbl.read (D n)) n := read_word _ _ h

theorem signed_val {s : Bool} {n : Int} {k u : Nat} (hs : n ≠ 0 → s = decide (n < 0)) (_hk : k ≤ u) : signed s (n.natAbs * 2 ^ k) (u - k) = n * 2 ^ u := by
  unfold signed
  rw [Nat.shiftLeft_eq, Nat.mul_assoc, ← Nat.pow_add, Nat.add_sub_cancel' _hk]
  by_cases h0 : n = 0
  · subst h0; simp
  · rw [hs h0]
    by_cases hn : n < 0
    · simp only [hn, decide_true, if_true]
      have : ((n.natAbs * 2 ^ u : Nat) : Int) = -n * 2 ^ u := by
        push_cast
        rw [show ((n.natAbs : Nat) : Int) = -n by omega]
      rw [this]; simp [Int.neg_mul]
    · simp only [hn, decide_false, Bool.false_eq_true, if_false]
      push_cast
      rw [show (n.natAbs : Int) = n by omega]

theorem cmp_lt {a b : Int} (h : a < b) : compare a b = .lt := by
  show compareOfLessAndEq a b = _
  simp [compareOfLessAndEq, h]
theorem cmp_gt {a b : Int} (h : b < a) : compare a b = .gt := by
  show compareOfLessAndEq a b = _
  have h1 : ¬ a < b := by omega
  have h2 : ¬ a = b := by omega
  simp [compareOfLessAndEq, h1, h2]

theorem order_val {d e : Datum} {a b : Int} (hd : Val d a) (he : Val e b) : d.order e = some (compare a b) := by
  obtain ⟨s, k, rfl, hs⟩ := hd
  obtain ⟨t, l, rfl, ht⟩ := he
  have hmin : min (-(k : Int)) (-(l : Int)) = -((max k l : Nat) : Int) := by omega
  show some (compare (signed s (a.natAbs * 2 ^ k) (-(k : Int) - min (-(k : Int)) (-(l : Int))).toNat) (signed t (b.natAbs * 2 ^ l) (-(l : Int) - min (-(k : Int)) (-(l : Int))).toNat)) = _
  rw [hmin]
  have e1 : (-(k : Int) - -((max k l : Nat) : Int)).toNat = max k l - k := by omega
  have e2 : (-(l : Int) - -((max k l : Nat) : Int)).toNat = max k l - l := by omega
  rw [e1, e2, signed_val hs (Nat.le_max_left ..), signed_val ht (Nat.le_max_right ..)]
  have hp : (0 : Int) < 2 ^ max k l := Int.pow_pos (by decide)
  congr 1
  rcases Int.lt_trichotomy a b with h | h | h
  · have := Int.mul_lt_mul_of_pos_right h hp
    rw [cmp_lt this, cmp_lt h]
  · subst h; simp
  · have := Int.mul_lt_mul_of_pos_right h hp
    rw [cmp_gt this, cmp_gt h]


theorem sum_valP {d e : Datum} {a b : Int} (hd : ValP d a) (he : ValP e b) : ∃ r, d.sum e = some r ∧ ValP r (a + b) := by
  obtain ⟨k, rfl⟩ := hd
  obtain ⟨l, rfl⟩ := he
  have hmin : min (-(k : Int)) (-(l : Int)) = -((max k l : Nat) : Int) := by omega
  have e1 : (-(k : Int) - -((max k l : Nat) : Int)).toNat = max k l - k := by omega
  have e2 : (-(l : Int) - -((max k l : Nat) : Int)).toNat = max k l - l := by omega
  have hp : (0 : Int) < 2 ^ max k l := Int.pow_pos (by decide)
  refine ⟨_, rfl, max k l, ?_⟩
  rw [hmin, e1, e2, signed_val (fun _ => rfl) (Nat.le_max_left ..), signed_val (fun _ => rfl) (Nat.le_max_right ..), ← Int.add_mul, Int.natAbs_mul]
  have hpa : (2 ^ max k l : Int).natAbs = 2 ^ max k l := by rw [Int.natAbs_pow]; rfl
  rw [hpa]
  congr 1
  by_cases h0 : a + b = 0
  · rw [if_pos (by rw [h0, Int.zero_mul]), h0]
    simp; omega
  · have hne : (a + b) * 2 ^ max k l ≠ 0 := Int.mul_ne_zero h0 (by omega)
    rw [if_neg hne]
    by_cases hn : a + b < 0
    · have := Int.mul_neg_of_neg_of_pos hn hp
      simp [hn, this]
    · have : 0 ≤ (a + b) * 2 ^ max k l := Int.mul_nonneg (by omega) (by omega)
      simp only [hn, decide_false, decide_eq_false_iff_not]
      omega

theorem product_val {d e : Datum} {a b : Int} (hd : Val d a) (he : Val e b) : ∃ r, d.product e = some r ∧ Val r (a * b) := by
  obtain ⟨s, k, rfl, hs⟩ := hd
  obtain ⟨t, l, rfl, ht⟩ := he
  refine ⟨_, rfl, (s ^^ t), k + l, ?_, ?_⟩
  · congr 1
    · rw [Int.natAbs_mul, Nat.pow_add]
      simp only [Nat.mul_assoc, Nat.mul_left_comm]
    · push_cast; omega
  · intro h0
    have ha : a ≠ 0 := fun h => h0 (by rw [h, Int.zero_mul])
    have hb : b ≠ 0 := fun h => h0 (by rw [h, Int.mul_zero])
    rw [hs ha, ht hb]
    by_cases a0 : a < 0 <;> by_cases b0 : b < 0
    · have := Int.mul_pos_of_neg_of_neg a0 b0
      simp [a0, b0]; omega
    · have := Int.mul_neg_of_neg_of_pos a0 (show 0 < b by omega)
      simp [a0, b0, this]
    · have := Int.mul_neg_of_pos_of_neg (show 0 < a by omega) b0
      simp [a0, b0, this]
    · have := Int.mul_pos (show 0 < a by omega) (show 0 < b by omega)
      simp [a0, b0]; omega

/-- a sum of numbers whose noughts may have signs -/
theorem sum_val {d e : Datum} {a b : Int} (hd : Val d a) (he : Val e b) : ∃ r, d.sum e = some r ∧ Val r (a + b) := by
  obtain ⟨s, k, rfl, hs⟩ := hd
  obtain ⟨t, l, rfl, ht⟩ := he
  have hmin : min (-(k : Int)) (-(l : Int)) = -((max k l : Nat) : Int) := by omega
  have e1 : (-(k : Int) - -((max k l : Nat) : Int)).toNat = max k l - k := by omega
  have e2 : (-(l : Int) - -((max k l : Nat) : Int)).toNat = max k l - l := by omega
  have hp : (0 : Int) < 2 ^ max k l := Int.pow_pos (by decide)
  refine ⟨_, rfl, (if signed s (a.natAbs * 2 ^ k) (max k l - k) + signed t (b.natAbs * 2 ^ l) (max k l - l) = 0 then s && t else decide (signed s (a.natAbs * 2 ^ k) (max k l - k) + signed t (b.natAbs * 2 ^ l) (max k l - l) < 0)), max k l, ?_, ?_⟩
  · rw [hmin, e1, e2, signed_val hs (Nat.le_max_left ..), signed_val ht (Nat.le_max_right ..), ← Int.add_mul, Int.natAbs_mul]
    have hpa : (2 ^ max k l : Int).natAbs = 2 ^ max k l := by rw [Int.natAbs_pow]; rfl
    rw [hpa]
  · intro h0
    have hne : (a + b) * 2 ^ max k l ≠ 0 := Int.mul_ne_zero h0 (by omega)
    rw [signed_val hs (Nat.le_max_left ..), signed_val ht (Nat.le_max_right ..), ← Int.add_mul, if_neg hne]
    by_cases hn : a + b < 0
    · have := Int.mul_neg_of_neg_of_pos hn hp
      simp [hn, this]
    · have : 0 ≤ (a + b) * 2 ^ max k l := Int.mul_nonneg (by omega) (by omega)
      simp only [hn, decide_false, decide_eq_false_iff_not]
      omega

theorem opposite_val {d : Datum} {a : Int} (hd : Val d a) : Val d.opposite (-a) := by
  obtain ⟨s, k, rfl, hs⟩ := hd
  refine ⟨!s, k, by simp [Datum.opposite], fun h0 => ?_⟩
  rw [hs (by omega)]
  by_cases h : a < 0
  · simp [h]; omega
  · simp [h]; omega

/-- writing a number: its sign where it is not nought -/
theorem write_val {d : Datum} {n : Int} (h : Val d n) (hn : n.natAbs < 2 ^ 53) : ∃ s, dbl.write d = dbl.word s (rung n.natAbs) ∧ (n ≠ 0 → s = decide (n < 0)) := by
  obtain ⟨s, k, rfl, hs⟩ := h
  refine ⟨s, ?_, hs⟩
  show dbl.nearest s (n.natAbs * 2 ^ k) (-(k : Int)) = _
  by_cases h0 : n.natAbs = 0
  · rw [h0, Nat.zero_mul]; exact nearest_nought _ _
  · exact nearest_exact s n.natAbs k hn h0

theorem write_valP {d : Datum} {n : Int} (h : ValP d n) (hn : n.natAbs < 2 ^ 53) : dbl.write d = D n := by
  obtain ⟨k, rfl⟩ := h
  show dbl.nearest _ (n.natAbs * 2 ^ k) (-(k : Int)) = _
  by_cases h0 : n.natAbs = 0
  · rw [h0, Nat.zero_mul, nearest_nought]; unfold D; rw [h0]; rfl
  · exact nearest_exact _ n.natAbs k hn h0

/-- a word that stands for a whole number -/
def IsW (b : Nat) (n : Int) : Prop := ∃ s, b = dbl.word s (rung n.natAbs) ∧ (n ≠ 0 → s = decide (n < 0))
theorem IsW.val {b : Nat} {n : Int} (h : IsW b n) (hn : n.natAbs < 2 ^ 53) : Val (dbl.read b) n := by
  obtain ⟨s, rfl, hs⟩ := h
  obtain ⟨k, hk⟩ := read_word s n.natAbs hn
  exact ⟨s, k, hk, hs⟩
theorem isW_D (n : Int) : IsW (D n) n := ⟨_, rfl, fun _ => rfl⟩

theorem add_D {a b : Int} (ha : a.natAbs < 2 ^ 53) (hb : b.natAbs < 2 ^ 53) (hs : (a + b).natAbs < 2 ^ 53) : dbl.add (D a) (D b) = some (D (a + b)) := by
  obtain ⟨r, hr, hv⟩ := sum_valP (read_D a ha) (read_D b hb)
  unfold Format.add
  rw [hr, Option.map_some, write_valP hv hs]
theorem add_W {x y : Nat} {a b : Int} (hx : IsW x a) (hy : IsW y b) (ha : a.natAbs < 2 ^ 53) (hb : b.natAbs < 2 ^ 53) (hs : (a + b).natAbs < 2 ^ 53) : ∃ z, dbl.add x y = some z ∧ IsW z (a + b) := by
  obtain ⟨r, hr, hv⟩ := sum_val (hx.val ha) (hy.val hb)
  unfold Format.add
  rw [hr, Option.map_some]
  exact ⟨_, rfl, write_val hv hs⟩
theorem sub_W {x y : Nat} {a b : Int} (hx : IsW x a) (hy : IsW y b) (ha : a.natAbs < 2 ^ 53) (hb : b.natAbs < 2 ^ 53) (hs : (a - b).natAbs < 2 ^ 53) : ∃ z, dbl.sub x y = some z ∧ IsW z (a - b) := by
  obtain ⟨r, hr, hv⟩ := sum_val (hx.val ha) (opposite_val (hy.val hb))
  unfold Format.sub
  rw [hr, Option.map_some]
  exact ⟨_, rfl, write_val hv hs⟩
theorem mul_W {x y : Nat} {a b : Int} (hx : IsW x a) (hy : IsW y b) (ha : a.natAbs < 2 ^ 53) (hb : b.natAbs < 2 ^ 53) (hs : (a * b).natAbs < 2 ^ 53) : ∃ z, dbl.mul x y = some z ∧ IsW z (a * b) := by
  obtain ⟨r, hr, hv⟩ := product_val (hx.val ha) (hy.val hb)
  unfold Format.mul
  rw [hr, Option.map_some]
  exact ⟨_, rfl, write_val hv hs⟩
/-- plus nought: the nought loses its sign -/
theorem add_nought {x : Nat} {a : Int} (hx : IsW x a) (ha : a.natAbs < 2 ^ 53) : dbl.add x (D 0) = some (D a) := by
  obtain ⟨s, k, hr, hs⟩ := hx.val ha
  obtain ⟨l, hz⟩ := read_D 0 (by decide)
  unfold Format.add
  rw [hr, hz]
  by_cases h0 : a = 0
  · subst h0
    simp only [Datum.sum]
    have hzero : ∀ (t : Bool) (u : Nat), signed t (Int.natAbs 0 * 2 ^ u) 0 = 0 := by intro t u; unfold signed; cases t <;> simp
    simp only [Int.natAbs_zero, Nat.zero_mul, signed, Nat.zero_shiftLeft]
    simp [Format.write, nearest_nought, D, rung]
  · have : Val (.number s (a.natAbs * 2 ^ k) (-(k : Int))) a := ⟨s, k, rfl, hs⟩
    rw [hs h0] at *
    obtain ⟨r, hr', hv⟩ := sum_valP (d := .number (decide (a < 0)) (a.natAbs * 2 ^ k) (-(k : Int))) (a := a) (b := 0) ⟨k, rfl⟩ ⟨l, rfl⟩
    rw [hr', Option.map_some, write_valP hv (by rw [Int.add_zero]; exact ha), Int.add_zero]

theorem order_W {x y : Nat} {a b : Int} (hx : IsW x a) (hy : IsW y b) (ha : a.natAbs < 2 ^ 53) (hb : b.natAbs < 2 ^ 53) : dbl.order x y = some (compare a b) := order_val (hx.val ha) (hy.val hb)

theorem toInt_val {d : Datum} {n : Int} (h : Val d n) : d.toInt .zero = some n := by
  obtain ⟨s, k, rfl, hs⟩ := h
  unfold Datum.toInt Datum.integral
  have e1 : (-(k : Int)).toNat = 0 := by omega
  have e2 : (- -(k : Int)).toNat = k := by omega
  simp only [e1, e2, Nat.shiftLeft_zero]
  by_cases h0 : n = 0
  · subst h0
    have : Toward.zero.cut s (Int.natAbs 0 * 2 ^ k) k = 0 := by
      unfold Toward.cut; simp
    rw [this]
    unfold signed; cases s <;> simp
  · rw [cut_exact _ _ _ _ (by omega)]
    have := signed_val (s := s) (n := n) (k := 0) (u := 0) hs (Nat.le_refl _)
    simp only [Nat.pow_zero, Nat.mul_one, Nat.sub_self, Int.pow_zero, Int.mul_one] at this
    rw [this]


theorem log2_of_bounds {m a : Nat} (h1 : 2 ^ a ≤ m) (h2 : m < 2 ^ (a + 1)) : m.log2 = a := by
  have hp : 0 < 2 ^ a := Nat.two_pow_pos a
  have h0 : m ≠ 0 := by omega
  have := (Nat.log2_lt h0).2 h2
  have := (Nat.le_log2 h0).2 h1
  omega

/-- what a finite word is read as, and that it is written back -/
theorem read_fin {b : Nat} (hb : b < 2 ^ 64) {s : Bool} {m : Nat} {e : Int} (h : dbl.read b = .number s m e) :
    m < 2 ^ 53 ∧ (-1074 ≤ e) ∧ (0 ≤ e → 2 ^ 52 ≤ m) ∧ dbl.nearest s m e = b ∧ (s = decide (2 ^ 63 ≤ b)) ∧ dbl.read (b % 2 ^ 63) = .number false m e := by
  have hsw : dbl.signWeight = 2 ^ 63 := by decide
  have hbin : dbl.binade = 2 ^ 52 := rfl
  have hinf : dbl.infRung = 2047 * 2 ^ 52 := by decide
  have hlp : dbl.leastPlace = -1074 := by decide
  have hfb : dbl.fractionBits = 52 := rfl
  have hs2 : (b / 2 ^ 63 % 2 == 1) = decide (2 ^ 63 ≤ b) := by
    by_cases hh : 2 ^ 63 ≤ b
    · have : b / 2 ^ 63 = 1 := by omega
      rw [this]; simp [hh]
    · have : b / 2 ^ 63 = 0 := by omega
      rw [this]; simp [hh]
  have hw : dbl.word (decide (2 ^ 63 ≤ b)) (b % 2 ^ 63) = b := by
    unfold Format.word
    rw [hsw]
    by_cases hh : 2 ^ 63 ≤ b
    · simp only [hh, decide_true, if_true]; omega
    · simp only [hh, decide_false, Bool.false_eq_true, if_false]; omega
  have hf : ((b % 2 ^ 63) / 2 ^ 63 % 2 == 1) = false := by
    have : (b % 2 ^ 63) / 2 ^ 63 = 0 := by omega
    rw [this]; rfl
  have hmm : b % 2 ^ 63 % 2 ^ 63 = b % 2 ^ 63 := by omega
  unfold Format.read at h ⊢
  dsimp only at h ⊢
  rw [hsw, hbin, hinf, hlp, hs2] at h
  rw [hsw, hbin, hinf, hlp, hf, hmm]
  have hr : b % 2 ^ 63 < 2 ^ 63 := Nat.mod_lt _ (by decide)
  generalize b % 2 ^ 63 = r at *
  by_cases h1 : r < 2 ^ 52
  · rw [if_pos h1] at h
    injection h with e1 e2 e3
    subst e1; subst e2; subst e3
    refine ⟨by omega, by omega, fun h => absurd h (by decide), ?_, rfl, by rw [if_pos h1]⟩
    unfold Format.nearest
    by_cases h0 : r = 0
    · rw [if_pos h0]; rw [← h0]; exact hw
    · rw [if_neg h0]
      dsimp only
      have hlog := (Nat.log2_lt h0).2 h1
      rw [hlp, hbin, hinf, hfb]
      have hlast : max (-1074 + (r.log2 : Int) - ((52 : Nat) : Int)) (-1074) = -1074 := by omega
      rw [hlast]
      have e1 : ((-1074 : Int) - -1074).toNat = 0 := by decide
      rw [e1, cut_zero, Nat.shiftLeft_zero, Nat.zero_mul, Nat.zero_add, Nat.min_eq_left (by omega)]
      exact hw
  · rw [if_neg h1] at h
    by_cases h2 : r < 2047 * 2 ^ 52
    · rw [if_pos h2] at h
      injection h with e1 e2 e3
      subst e1; subst e2; subst e3
      have hq : 1 ≤ r / 2 ^ 52 := by omega
      have hlog : (2 ^ 52 + r % 2 ^ 52).log2 = 52 := log2_of_bounds (by omega) (by omega)
      refine ⟨by omega, by omega, fun h => by omega, ?_, rfl, by rw [if_neg h1, if_pos h2]⟩
      unfold Format.nearest
      rw [if_neg (by omega)]
      dsimp only
      rw [hlp, hbin, hinf, hfb, hlog]
      have hlast : max (-1074 + ((r / 2 ^ 52 - 1 : Nat) : Int) + ((52 : Nat) : Int) - ((52 : Nat) : Int)) (-1074) = -1074 + ((r / 2 ^ 52 - 1 : Nat) : Int) := by omega
      rw [hlast]
      have e1 : (-1074 + ((r / 2 ^ 52 - 1 : Nat) : Int) - (-1074 + ((r / 2 ^ 52 - 1 : Nat) : Int))).toNat = 0 := by omega
      have e2 : (-1074 + ((r / 2 ^ 52 - 1 : Nat) : Int) - -1074).toNat = r / 2 ^ 52 - 1 := by omega
      rw [e1, e2, cut_zero, Nat.shiftLeft_zero]
      have e3 : (r / 2 ^ 52 - 1) * 2 ^ 52 + (2 ^ 52 + r % 2 ^ 52) = r := by omega
      rw [e3, Nat.min_eq_left (by omega)]
      exact hw
    · rw [if_neg h2] at h
      split at h <;> cases h

theorem compare_eq {a b : Int} (h : compare a b = .eq) : a = b := by
  rcases Int.lt_trichotomy a b with h1 | h1 | h1
  · rw [cmp_lt h1] at h; cases h
  · exact h1
  · rw [cmp_gt h1] at h; cases h
theorem compare_self' (a : Int) : compare a a = .eq := by
  show compareOfLessAndEq a a = _
  simp [compareOfLessAndEq]

/-- the order of a number against a whole number's word -/
theorem order_num {s : Bool} {m : Nat} {e : Int} {r : Nat} {c : Int} (hr : IsW r c) (hc : c.natAbs < 2 ^ 53) :
    ∃ u : Nat, (0 : Int) < 2 ^ u ∧ (e < 0 → (-e).toNat ≤ u) ∧ (Datum.number s m e).order (dbl.read r) = some (compare (signed s m (e + u).toNat) (c * 2 ^ u)) := by
  obtain ⟨t, k, hk, ht⟩ := hr.val hc
  rw [hk]
  by_cases he : e < -(k : Int)
  · refine ⟨(-e).toNat, Int.pow_pos (by decide), fun _ => Nat.le_refl _, ?_⟩
    show some (compare (signed s m (e - min e (-(k : Int))).toNat) (signed t (c.natAbs * 2 ^ k) (-(k : Int) - min e (-(k : Int))).toNat)) = _
    have e1 : min e (-(k : Int)) = e := by omega
    have e2 : (-(k : Int) - e).toNat = (-e).toNat - k := by omega
    have e3 : (e - e).toNat = (e + ((-e).toNat : Int)).toNat := by omega
    rw [e1, e2, e3, signed_val ht (by omega)]
  · refine ⟨k, Int.pow_pos (by decide), fun _ => by omega, ?_⟩
    show some (compare (signed s m (e - min e (-(k : Int))).toNat) (signed t (c.natAbs * 2 ^ k) (-(k : Int) - min e (-(k : Int))).toNat)) = _
    have e1 : min e (-(k : Int)) = -(k : Int) := by omega
    have e2 : (-(k : Int) - -(k : Int)).toNat = k - k := by omega
    have e3 : (e - -(k : Int)).toNat = (e + (k : Int)).toNat := by omega
    rw [e1, e2, e3, signed_val ht (Nat.le_refl _)]

theorem isW_of {b : Nat} (hb : b < 2 ^ 64) {s : Bool} {N j : Nat} {e : Int} (he : e = -(j : Int)) (h : dbl.read b = .number s (N * 2 ^ j) e) (hN : N < 2 ^ 53) {n : Int} (hn : n.natAbs = N) (hs : n ≠ 0 → s = decide (n < 0)) : IsW b n := by
  subst he
  obtain ⟨_, _, _, hw, _, _⟩ := read_fin hb h
  refine ⟨s, ?_, hs⟩
  rw [hn, ← hw]
  by_cases h0 : N = 0
  · subst h0; rw [Nat.zero_mul]; exact nearest_nought _ _
  · exact nearest_exact s N j hN h0

/-- equal to a whole number: its word -/
theorem isW_of_eq {b r : Nat} (hb : b < 2 ^ 64) {n : Int} (hr : IsW r n) (hn : n.natAbs < 2 ^ 53) (h : dbl.order b r = some .eq) : IsW b n := by
  unfold Format.order at h
  cases hd : dbl.read b with
  | nan s t => rw [hd] at h; cases h
  | infinity s =>
    rw [hd] at h
    obtain ⟨t, k, hk, _⟩ := hr.val hn
    rw [hk] at h
    simp only [Datum.order] at h
    cases s <;> cases h
  | number s m e =>
    rw [hd] at h
    obtain ⟨hm, hlo, hhi, _, _, _⟩ := read_fin hb hd
    obtain ⟨u, hu, hue, ho⟩ := order_num (s := s) (m := m) (e := e) hr hn
    rw [ho] at h
    have heq := compare_eq (Option.some.inj h)
    have habs : m * 2 ^ (e + u).toNat = n.natAbs * 2 ^ u := by
      have := congrArg Int.natAbs heq
      rw [Int.natAbs_mul, Int.natAbs_pow] at this
      unfold signed at this
      rw [Nat.shiftLeft_eq] at this
      rw [show (2 : Int).natAbs ^ u = 2 ^ u from rfl] at this
      cases s
      · simpa only [Bool.false_eq_true, if_false, Int.natAbs_natCast] using this
      · simpa only [if_true, Int.natAbs_neg, Int.natAbs_natCast] using this
    have hpu : 0 < 2 ^ u := Nat.two_pow_pos u
    have hneg : e ≤ 0 := by
      rcases Int.lt_or_le 0 e with hpos | h0
      · exfalso
        have h52 := hhi (by omega)
        have e1 : (e + (u : Int)).toNat = e.toNat + u := by omega
        rw [e1, Nat.pow_add, ← Nat.mul_assoc] at habs
        have := Nat.eq_of_mul_eq_mul_right hpu habs
        have h2 : 2 ≤ 2 ^ e.toNat := by
          calc 2 = 2 ^ 1 := rfl
            _ ≤ 2 ^ e.toNat := Nat.pow_le_pow_right (by decide) (by omega)
        have : m * 2 ≤ m * 2 ^ e.toNat := Nat.mul_le_mul_left _ h2
        omega
      · exact h0
    obtain ⟨j, hj⟩ : ∃ j : Nat, e = -(j : Int) := ⟨(-e).toNat, by omega⟩
    have hju : j ≤ u := by
      rcases Nat.eq_zero_or_pos j with h0 | h0
      · omega
      · have := hue (by omega); omega
    have hm2 : m = n.natAbs * 2 ^ j := by
      have e1 : (e + (u : Int)).toNat = u - j := by omega
      rw [e1] at habs
      have e2 : n.natAbs * 2 ^ u = n.natAbs * 2 ^ j * 2 ^ (u - j) := by rw [Nat.mul_assoc, ← Nat.pow_add, Nat.add_sub_cancel' hju]
      rw [e2] at habs
      exact Nat.eq_of_mul_eq_mul_right (Nat.two_pow_pos _) habs
    subst hm2
    refine isW_of hb hj hd hn rfl fun h0 => ?_
    have hpos : 0 < n.natAbs * 2 ^ j := Nat.mul_pos (by omega) (Nat.two_pow_pos _)
    have hp2 : 0 < n.natAbs * 2 ^ j * 2 ^ (e + (u : Int)).toNat := Nat.mul_pos hpos (Nat.two_pow_pos _)
    unfold signed at heq
    rw [Nat.shiftLeft_eq] at heq
    cases s
    · simp only [Bool.false_eq_true, if_false] at heq
      have : ¬ n < 0 := fun hlt => by
        have := Int.mul_neg_of_neg_of_pos hlt hu
        omega
      simp [this]
    · simp only [if_true] at heq
      have : n < 0 := by
        rcases Int.lt_or_le n 0 with hlt | hge
        · exact hlt
        · have := Int.mul_nonneg hge (Int.le_of_lt hu)
          omega
      simp [this]

theorem eq_of_isW {x y : Nat} {n : Int} (hx : IsW x n) (hy : IsW y n) (hn : n.natAbs < 2 ^ 53) : dbl.order x y = some .eq := by
  rw [order_W hx hy hn hn, compare_self']

theorem IsW.eq_D {b : Nat} {n : Int} (h : IsW b n) (h0 : n ≠ 0 ∨ b < 2 ^ 63) : b = D n := by
  obtain ⟨s, rfl, hs⟩ := h
  by_cases hz : n = 0
  · subst hz
    cases s
    · rfl
    · exfalso
      rcases h0 with h0 | h0
      · exact h0 rfl
      · revert h0; decide
  · rw [hs hz]; rfl

theorem D_lt (n : Int) (hn : n.natAbs < 2 ^ 53) : D n < 2 ^ 64 := by
  have := rung_lt hn
  unfold D Format.word
  have hsw : dbl.signWeight = 2 ^ 63 := by decide
  rw [hsw]
  split <;> omega
theorem D_sign (n : Int) (hn : n.natAbs < 2 ^ 53) : decide (2 ^ 63 ≤ D n) = decide (n < 0) := by
  have := rung_lt hn
  unfold D Format.word
  have hsw : dbl.signWeight = 2 ^ 63 := by decide
  rw [hsw]
  by_cases h : n < 0
  · simp [h]
  · simp only [h, decide_false, Bool.false_eq_true, if_false, decide_eq_false_iff_not]; omega

theorem D_inj {a b : Int} (ha : a.natAbs < 2 ^ 53) (hb : b.natAbs < 2 ^ 53) (h : D a = D b) : a = b := by
  have h1 := toInt_val (read_D a ha).val
  have h2 := toInt_val (read_D b hb).val
  rw [h, h2] at h1
  exact (Option.some.inj h1).symm


/-! the numbers of the document -/
def numOf (b : Nat) : Option Int :=
  match (dbl.read b).toInt .zero with
  | some n => if n.natAbs ≤ 1000000 ∧ D n = b then some n else none
  | none => none

theorem numOf_D {n : Int} (h : n.natAbs ≤ 1000000) : numOf (D n) = some n := by
  unfold numOf
  rw [toInt_val (read_D n (by omega)).val]
  simp only
  rw [if_pos ⟨h, trivial⟩]
theorem numOf_some {b : Nat} {n : Int} (h : numOf b = some n) : n.natAbs ≤ 1000000 ∧ b = D n := by
  unfold numOf at h
  split at h
  · split at h
    · rename_i hc
      have := Option.some.inj h
      subst this
      exact ⟨hc.1, hc.2.symm⟩
    · cases h
  · cases h

theorem D_million : D 1000000 = 4696837146684686336 := by decide +kernel
theorem D_low : D (-1000000) = 13920209183539462144 := by decide +kernel
theorem D_one : D 1 = 4607182418800017408 := by decide +kernel
theorem D_minus : D (-1) = 13830554455654793216 := by decide +kernel
theorem D_zero : D 0 = 0 := by decide +kernel

theorem integral_val {d : Datum} {n : Int} (h : Val d n) : ∃ s, d.integral .zero = .number s n.natAbs 0 ∧ (n ≠ 0 → s = decide (n < 0)) := by
  obtain ⟨s, k, rfl, hs⟩ := h
  refine ⟨s, ?_, hs⟩
  unfold Datum.integral
  have e1 : (-(k : Int)).toNat = 0 := by omega
  have e2 : (- -(k : Int)).toNat = k := by omega
  simp only [e1, e2, Nat.shiftLeft_zero]
  by_cases h0 : n.natAbs = 0
  · rw [h0, Nat.zero_mul]
    congr 1
    unfold Toward.cut; simp
  · rw [cut_exact _ _ _ _ h0]

def whole (b : Nat) : Bool :=
  match dbl.read b with
  | .nan .. => false
  | d => dbl.order b (dbl.write (d.integral .zero)) == some .eq

theorem cutz_le (s : Bool) (m c j : Nat) (h : m ≤ c * 2 ^ j) : Toward.zero.cut s m j ≤ c := by
  unfold Toward.cut
  simp only [Bool.toNat_false, Nat.add_zero, Nat.one_shiftLeft]
  rcases Nat.le_total j (m.log2 + 2) with hj | hj
  · rw [Nat.min_eq_left hj]
    exact Nat.div_le_of_le_mul (by rw [Nat.mul_comm]; exact h)
  · rw [Nat.min_eq_right hj]
    have : m < 2 ^ (m.log2 + 2) := by
      have h1 : m < 2 ^ (m.log2 + 1) := Nat.lt_log2_self
      have h2 : 2 ^ (m.log2 + 1) ≤ 2 ^ (m.log2 + 2) := Nat.pow_le_pow_right (by decide) (by omega)
      omega
    rw [Nat.div_eq_of_lt this]
    exact Nat.zero_le _

/-- a number that is small: its place is below the point, and it cuts to a small one -/
theorem small_cut {b : Nat} (hb : b < 2 ^ 64) {s : Bool} {m : Nat} {e : Int} (hr : dbl.read b = .number s m e)
    {u : Nat} (hle : m * 2 ^ (e + u).toNat ≤ 1000000 * 2 ^ u) (hu : e < 0 → (-e).toNat ≤ u) :
    ∃ n : Int, n.natAbs ≤ 1000000 ∧ (Datum.number s m e).toInt .zero = some n ∧ dbl.write ((Datum.number s m e).integral .zero) = dbl.word s (rung n.natAbs) ∧ (n ≠ 0 → s = decide (n < 0)) := by
  obtain ⟨hm, hlo, hhi, _, _, _⟩ := read_fin hb hr
  have hpu : 0 < 2 ^ u := Nat.two_pow_pos u
  have hneg : e < 0 := by
    rcases Int.lt_or_le e 0 with h | h
    · exact h
    · exfalso
      have h52 := hhi h
      have e1 : (e + (u : Int)).toNat = e.toNat + u := by omega
      rw [e1, Nat.pow_add, ← Nat.mul_assoc] at hle
      have := Nat.le_of_mul_le_mul_right hle hpu
      have h2 : 1 ≤ 2 ^ e.toNat := Nat.one_le_two_pow
      have : m * 1 ≤ m * 2 ^ e.toNat := Nat.mul_le_mul_left _ h2
      omega
  obtain ⟨j, hj⟩ : ∃ j : Nat, e = -(j : Int) := ⟨(-e).toNat, by omega⟩
  have hju : j ≤ u := by have := hu hneg; omega
  have hm2 : m ≤ 1000000 * 2 ^ j := by
    have e1 : (e + (u : Int)).toNat = u - j := by omega
    have e2 : 1000000 * 2 ^ u = 1000000 * 2 ^ j * 2 ^ (u - j) := by rw [Nat.mul_assoc, ← Nat.pow_add, Nat.add_sub_cancel' hju]
    rw [e1, e2] at hle
    exact Nat.le_of_mul_le_mul_right hle (Nat.two_pow_pos _)
  have hN := cutz_le s m 1000000 j hm2
  have hint : (Datum.number s m e).integral .zero = .number s (Toward.zero.cut s m j) 0 := by
    unfold Datum.integral
    have e1 : e.toNat = 0 := by omega
    have e2 : (-e).toNat = j := by omega
    simp only [e1, e2, Nat.shiftLeft_zero]
  generalize Toward.zero.cut s m j = N at *
  refine ⟨if s then -(N : Int) else N, by split <;> omega, ?_, ?_, ?_⟩
  · unfold Datum.toInt
    rw [hint]
    simp only [signed, Nat.shiftLeft_zero]
  · rw [hint]
    have hab : (if s then -(N : Int) else (N : Int)).natAbs = N := by split <;> omega
    rw [hab]
    show dbl.nearest s N 0 = _
    by_cases h0 : N = 0
    · subst h0; exact nearest_nought _ _
    · have := nearest_exact s N 0 (by omega) h0
      rw [Int.natCast_zero, Int.neg_zero, Nat.pow_zero, Nat.mul_one] at this
      exact this
  · intro h0
    cases s
    · simp only [Bool.false_eq_true, if_false] at h0 ⊢
      have : ¬ (N : Int) < 0 := by omega
      simp [this]
    · simp only [if_true] at h0 ⊢
      exact (decide_eq_true (show -(N : Int) < 0 by omega)).symm

theorem inf_abs {b : Nat} {s : Bool} (h : dbl.read b = .infinity s) : dbl.read (b % 2 ^ 63) = .infinity false := by
  have hsw : dbl.signWeight = 2 ^ 63 := by decide
  unfold Format.read at h ⊢
  dsimp only at h ⊢
  rw [hsw] at h ⊢
  have hmm : b % 2 ^ 63 % 2 ^ 63 = b % 2 ^ 63 := by omega
  have hf : ((b % 2 ^ 63) / 2 ^ 63 % 2 == 1) = false := by
    have : (b % 2 ^ 63) / 2 ^ 63 = 0 := by omega
    rw [this]; rfl
  rw [hf, hmm]
  split at h
  · cases h
  · split at h
    · cases h
    · split at h
      · rename_i h1 h2 h3; rw [if_neg h1, if_neg h2, if_pos h3]
      · cases h

theorem part_yes {b : Nat} (hb : b < 2 ^ 64) (hw : whole b = true) (ho : dbl.order (b % 2 ^ 63) (D 1000000) = some .lt ∨ dbl.order (b % 2 ^ 63) (D 1000000) = some .eq)
    (hs : dbl.order b 0 ≠ some .eq ∨ b < 2 ^ 63) : ∃ n, numOf b = some n := by
  have hD := isW_D 1000000
  cases hr : dbl.read b with
  | nan s t => unfold whole at hw; rw [hr] at hw; cases hw
  | infinity s =>
    exfalso
    unfold Format.order at ho
    rw [inf_abs hr] at ho
    obtain ⟨t, k, hk, _⟩ := hD.val (by decide)
    rw [hk] at ho
    simp only [Datum.order] at ho
    rcases ho with h | h <;> cases h
  | number s m e =>
    obtain ⟨_, _, _, _, _, habs⟩ := read_fin hb hr
    unfold Format.order at ho
    rw [habs] at ho
    obtain ⟨u, hu, hue, hc⟩ := order_num (s := false) (m := m) (e := e) hD (by decide)
    rw [hc] at ho
    have hle : m * 2 ^ (e + u).toNat ≤ 1000000 * 2 ^ u := by
      have hsg : signed false m (e + u).toNat = ((m * 2 ^ (e + u).toNat : Nat) : Int) := by
        unfold signed; rw [Nat.shiftLeft_eq]; rfl
      rw [hsg] at ho
      have h2 : ((1000000 * 2 ^ u : Nat) : Int) = 1000000 * 2 ^ u := by rw [Int.natCast_mul, Int.natCast_pow]; rfl
      rw [← h2] at ho
      rcases ho with h | h
      · rcases Int.lt_trichotomy ((m * 2 ^ (e + u).toNat : Nat) : Int) ((1000000 * 2 ^ u : Nat) : Int) with h1 | h1 | h1
        · omega
        · omega
        · rw [cmp_gt h1] at h; cases h
      · have := compare_eq (Option.some.inj h); omega
    obtain ⟨n, hn, _, hwr, hsn⟩ := small_cut hb hr hle hue
    have hW : IsW (dbl.word s (rung n.natAbs)) n := ⟨s, rfl, hsn⟩
    have hor : dbl.order b (dbl.word s (rung n.natAbs)) = some .eq := by
      unfold whole at hw
      rw [hr] at hw
      rw [← hwr]
      simpa using hw
    have hbW := isW_of_eq hb hW (by omega) hor
    refine ⟨n, ?_⟩
    have hbD : b = D n := hbW.eq_D (by
      by_cases h0 : n = 0
      · right
        rcases hs with h | h
        · subst h0
          exact absurd (D_zero ▸ eq_of_isW hbW (isW_D 0) (by decide)) h
        · exact h
      · exact .inl h0)
    rw [hbD]
    exact numOf_D hn

theorem abs_D {n : Int} (hn : n.natAbs < 2 ^ 53) : D n % 2 ^ 63 = D n.natAbs := by
  have hr := rung_lt hn
  have hsw : dbl.signWeight = 2 ^ 63 := by decide
  unfold D Format.word
  rw [hsw, show ((n.natAbs : Int)).natAbs = n.natAbs by omega, show decide ((n.natAbs : Int) < 0) = false by simp]
  simp only [Bool.false_eq_true, if_false]
  split
  · omega
  · omega

theorem part_num {n : Int} (hn : n.natAbs ≤ 1000000) : whole (D n) = true ∧ (dbl.order (D n % 2 ^ 63) (D 1000000) = some .lt ∨ dbl.order (D n % 2 ^ 63) (D 1000000) = some .eq) ∧ (dbl.order (D n) 0 ≠ some .eq ∨ D n < 2 ^ 63) := by
  have hb : n.natAbs < 2 ^ 53 := by omega
  have hv := (read_D n hb).val
  refine ⟨?_, ?_, ?_⟩
  · unfold whole
    obtain ⟨s, hi, hs⟩ := integral_val hv
    obtain ⟨k, hk⟩ := read_D n hb
    rw [hk] at hi ⊢
    simp only
    rw [hi]
    have hwr : IsW (dbl.write (.number s n.natAbs 0)) n := by
      obtain ⟨t, ht, hts⟩ := write_val (d := .number s n.natAbs 0) (n := n) ⟨s, 0, by simp, hs⟩ hb
      exact ⟨t, ht, hts⟩
    rw [eq_of_isW (isW_D n) hwr hb]
    rfl
  · rw [abs_D hb, order_W (isW_D _) (isW_D _) (by omega) (by decide)]
    rcases Int.lt_trichotomy (n.natAbs : Int) 1000000 with h | h | h
    · left; rw [cmp_lt h]
    · right; rw [h, compare_self']
    · omega
  · by_cases h0 : n = 0
    · right; subst h0; rw [D_zero]; decide
    · left
      rw [← D_zero, order_W (isW_D _) (isW_D _) hb (by decide)]
      intro h
      exact h0 (compare_eq (Option.some.inj h))

/-- the reference's test: within the bounds -/
theorem of_range {b : Nat} (hb : b < 2 ^ 64) (h1 : dbl.order b (D (-1000000)) = some .gt ∨ dbl.order b (D (-1000000)) = some .eq) (h2 : dbl.order b (D 1000000) = some .lt ∨ dbl.order b (D 1000000) = some .eq) :
    ∃ n : Int, n.natAbs ≤ 1000000 ∧ (dbl.read b).toInt .zero = some n ∧ (dbl.order (D n) b = some .eq → IsW b n) := by
  have flip : ∀ {x y : Nat}, dbl.order x y = some .eq → dbl.order y x = some .eq := by
    intro x y h
    unfold Format.order at h ⊢
    cases hx : dbl.read x with
    | nan s t => rw [hx] at h; cases h
    | infinity s =>
      cases hy : dbl.read y with
      | nan s t => rw [hx, hy] at h; cases h
      | infinity t => rw [hx, hy] at h; cases s <;> cases t <;> first | rfl | cases h
      | number t n f => rw [hx, hy] at h; cases s <;> cases h
    | number s m e =>
      cases hy : dbl.read y with
      | nan s t => rw [hx, hy] at h; cases h
      | infinity t => rw [hx, hy] at h; cases t <;> cases h
      | number t n f =>
        rw [hx, hy] at h
        have := compare_eq (Option.some.inj h)
        show some (compare (signed t n (f - min f e).toNat) (signed s m (e - min f e).toNat)) = some .eq
        rw [Int.min_comm f e, this, compare_self']
  cases hr : dbl.read b with
  | nan s t => unfold Format.order at h1; rw [hr] at h1; rcases h1 with h | h <;> cases h
  | infinity s =>
    exfalso
    unfold Format.order at h1 h2
    rw [hr] at h1 h2
    obtain ⟨t, k, hk, _⟩ := (isW_D 1000000).val (by decide)
    obtain ⟨t', k', hk', _⟩ := (isW_D (-1000000)).val (by decide)
    rw [hk] at h2
    rw [hk'] at h1
    simp only [Datum.order] at h1 h2
    cases s
    · rcases h2 with h | h <;> cases h
    · rcases h1 with h | h <;> cases h
  | number s m e =>
    obtain ⟨u, hu, hue, hle⟩ : ∃ u : Nat, (0 : Int) < 2 ^ u ∧ (e < 0 → (-e).toNat ≤ u) ∧ m * 2 ^ (e + u).toNat ≤ 1000000 * 2 ^ u := by
      cases s
      · obtain ⟨u, hu, hue, hc⟩ := order_num (s := false) (m := m) (e := e) (isW_D 1000000) (by decide)
        refine ⟨u, hu, hue, ?_⟩
        unfold Format.order at h2
        rw [hr, hc] at h2
        have hsg : signed false m (e + u).toNat = ((m * 2 ^ (e + u).toNat : Nat) : Int) := by
          unfold signed; rw [Nat.shiftLeft_eq]; rfl
        have hq : ((1000000 * 2 ^ u : Nat) : Int) = 1000000 * 2 ^ u := by rw [Int.natCast_mul, Int.natCast_pow]; rfl
        rw [hsg, ← hq] at h2
        rcases Int.lt_trichotomy ((m * 2 ^ (e + u).toNat : Nat) : Int) ((1000000 * 2 ^ u : Nat) : Int) with h3 | h3 | h3
        · omega
        · omega
        · rw [cmp_gt h3] at h2; rcases h2 with h | h <;> cases h
      · obtain ⟨u, hu, hue, hc⟩ := order_num (s := true) (m := m) (e := e) (isW_D (-1000000)) (by decide)
        refine ⟨u, hu, hue, ?_⟩
        unfold Format.order at h1
        rw [hr, hc] at h1
        have hsg : signed true m (e + u).toNat = -((m * 2 ^ (e + u).toNat : Nat) : Int) := by
          unfold signed; rw [Nat.shiftLeft_eq]; rfl
        have hq : -((1000000 * 2 ^ u : Nat) : Int) = -1000000 * 2 ^ u := by rw [Int.natCast_mul, Int.natCast_pow, Int.neg_mul]; rfl
        rw [hsg, ← hq] at h1
        rcases Int.lt_trichotomy (-((m * 2 ^ (e + u).toNat : Nat) : Int)) (-((1000000 * 2 ^ u : Nat) : Int)) with h3 | h3 | h3
        · rw [cmp_lt h3] at h1; rcases h1 with h | h <;> cases h
        · omega
        · omega
    obtain ⟨n, hn, hti, _, _⟩ := small_cut hb hr hle hue
    refine ⟨n, hn, hti, fun h => isW_of_eq hb (isW_D n) (by omega) (flip h)⟩


theorem lo_fact {b : Nat} {n : Int} (h : numOf b = some n) : (dbl.order b 13920209183539462144 = some .gt ∨ dbl.order b 13920209183539462144 = some .eq) ∧ (dbl.order b 4696837146684686336 = some .lt ∨ dbl.order b 4696837146684686336 = some .eq) := by
  obtain ⟨hn, rfl⟩ := numOf_some h
  rw [← D_low, ← D_million, order_W (isW_D _) (isW_D _) (by omega) (by decide), order_W (isW_D _) (isW_D _) (by omega) (by decide)]
  constructor
  · rcases Int.lt_trichotomy n (-1000000) with h | h | h
    · omega
    · right; rw [h, compare_self']
    · left; rw [cmp_gt h]
  · rcases Int.lt_trichotomy n 1000000 with h | h | h
    · left; rw [cmp_lt h]
    · right; rw [h, compare_self']
    · omega
theorem word_zero (s : Bool) : dbl.word s (rung (Int.natAbs 0)) = if s then 2 ^ 63 else 0 := by cases s <;> decide
theorem nought_div {x : Nat} (h : IsW x 0) : ∃ d, dbl.div (D 1) x = some d ∧ (dbl.order d 0 == some .lt) = decide (2 ^ 63 ≤ x) := by
  obtain ⟨s, hx, _⟩ := h
  rw [word_zero] at hx
  rw [D_one]
  cases s
  · rw [if_neg (by decide)] at hx
    subst hx
    exact ⟨9218868437227405312, by decide +kernel, by decide +kernel⟩
  · rw [if_pos rfl] at hx
    subst hx
    exact ⟨18442240474082181120, by decide +kernel, by decide +kernel⟩
theorem order_nought {x : Nat} {n : Int} (h : IsW x n) (hn : n.natAbs < 2 ^ 53) : (dbl.order x 0 == some .eq) = decide (n = 0) := by
  rw [← D_zero, order_W h (isW_D 0) hn (by decide)]
  by_cases h0 : n = 0
  · subst h0; rw [compare_self']; rfl
  · have : compare n 0 ≠ .eq := fun e => h0 (compare_eq e)
    simp [h0, this]
end Go.Proofs.YtjjbkldlgjllnaaGreatDoor.Fl
