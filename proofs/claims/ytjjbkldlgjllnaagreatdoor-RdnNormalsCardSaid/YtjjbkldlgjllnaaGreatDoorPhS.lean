/- Plain laws on the texts of complex whole numbers: how they are printed, how both parsers read them, and that the two agree; no program in sight. -/
import Derived.Lib.ItoaNum
import Derived.Lib.ParseIntB
import Derived.Lib.Strings
namespace Go.Proofs.YtjjbkldlgjllnaaGreatDoor.PhS
open Go.Lib

/-! digits -/
def isDig (c : UInt8) : Bool := decide (48 ≤ c.toNat ∧ c.toNat ≤ 57)

theorem decDigits_dig (u : Nat) : ∀ c ∈ decDigits u, 48 ≤ c.toNat ∧ c.toNat ≤ 57 := by
  induction u using Nat.strongRecOn with
  | _ u ih =>
    intro c hc
    rw [decDigits] at hc
    by_cases h : u < 10
    · rw [dif_pos h] at hc
      have : c = UInt8.ofNat (48 + u) := by simpa using hc
      subst this
      rw [UInt8.toNat_ofNat']
      omega
    · rw [dif_neg h] at hc
      rcases List.mem_append.1 hc with h1 | h1
      · exact ih (u / 10) (by omega) c h1
      · have : c = UInt8.ofNat (48 + u % 10) := by simpa using h1
        subst this
        rw [UInt8.toNat_ofNat']
        omega

theorem decDigits_ne (u : Nat) : decDigits u ≠ [] := by
  intro h
  have := decDigits_length u
  have := nDigits_pos u
  rw [h] at *
  simp at *
  omega

/-- what digits spell -/
def valFrom (acc : Nat) (l : List UInt8) : Nat := l.foldl (fun a c => a * 10 + (c.toNat - 48)) acc

theorem valFrom_append (acc : Nat) (l r : List UInt8) : valFrom acc (l ++ r) = valFrom (valFrom acc l) r := by
  unfold valFrom; rw [List.foldl_append]

theorem valFrom_dec (u : Nat) : valFrom 0 (decDigits u) = u := by
  induction u using Nat.strongRecOn with
  | _ u ih =>
    rw [decDigits]
    by_cases h : u < 10
    · rw [dif_pos h]
      simp only [valFrom, List.foldl_cons, List.foldl_nil, UInt8.toNat_ofNat']
      omega
    · rw [dif_neg h, valFrom_append, ih (u / 10) (by omega)]
      simp only [valFrom, List.foldl_cons, List.foldl_nil, UInt8.toNat_ofNat']
      omega

theorem valFrom_le (l : List UInt8) : ∀ acc, acc ≤ valFrom acc l := by
  induction l with
  | nil => intro acc; exact Nat.le_refl _
  | cons c r ih =>
    intro acc
    have := ih (acc * 10 + (c.toNat - 48))
    show acc ≤ valFrom (acc * 10 + (c.toNat - 48)) r
    omega

theorem parseUintM_ok (M : Nat) : ∀ (l : List UInt8) (acc : Nat), (∀ c ∈ l, 48 ≤ c.toNat ∧ c.toNat ≤ 57) → valFrom acc l ≤ M → M < 18446744073709551616 → valFrom acc l < 18446744073709551610 → parseUintM M acc l = .ok (valFrom acc l)
  | [], acc, _, _, _, _ => rfl
  | c :: r, acc, hd, hM, hM2, hv => by
    have hc := hd c (by simp)
    have e : valFrom acc (c :: r) = valFrom (acc * 10 + (c.toNat - 48)) r := rfl
    have hle := valFrom_le r (acc * 10 + (c.toNat - 48))
    rw [e] at hM hv ⊢
    rw [parseUintM, if_pos hc, if_neg (by omega), if_neg (by omega)]
    exact parseUintM_ok M r _ (fun x hx => hd x (by simp [hx])) hM hM2 hv

/-- a signed numeral is read as it was written -/
theorem parse_digits (B : Nat) (hB : 2 ≤ B) (hB2 : B ≤ 63) (u : Nat) (hu : u < 2 ^ (B - 1)) : parseUintB B (decDigits u) = .ok u := by
  have h1 : 2 ^ (B - 1) ≤ 2 ^ 62 := Nat.pow_le_pow_right (by decide) (by omega)
  have h2 : 2 ^ B = 2 * 2 ^ (B - 1) := by
    obtain ⟨b, rfl⟩ : ∃ b, B = b + 1 := ⟨B - 1, by omega⟩
    rw [Nat.add_sub_cancel, Nat.pow_succ, Nat.mul_comm]
  unfold parseUintB
  rw [if_neg (decDigits_ne u), parseUintM_ok _ _ _ (decDigits_dig u), valFrom_dec]
  · rw [valFrom_dec]; omega
  · omega
  · rw [valFrom_dec]; omega

theorem parse_itoa (B : Nat) (hB : 2 ≤ B) (hB2 : B ≤ 63) (n : Int) (hn : n.natAbs < 2 ^ (B - 1)) : parseIntB B (itoa n) = .ok n := by
  unfold itoa
  by_cases h : n < 0
  · rw [if_pos h]
    unfold parseIntB
    simp only [show (45 : UInt8).toNat = 45 from rfl, or_true, if_true]
    rw [parse_digits B hB hB2 _ hn]
    simp only [not_true_eq_false, false_and, if_false, true_and]
    rw [if_neg (by omega)]
    congr 1
    omega
  · rw [if_neg h]
    obtain ⟨c, r, hcr⟩ : ∃ c r, decDigits n.toNat = c :: r := by
      cases hd : decDigits n.toNat with
      | nil => exact absurd hd (decDigits_ne _)
      | cons c r => exact ⟨c, r, rfl⟩
    have hc := decDigits_dig n.toNat c (by rw [hcr]; simp)
    have hp := parse_digits B hB hB2 n.toNat (by omega)
    rw [hcr] at hp ⊢
    unfold parseIntB
    have h43 : ¬ (c.toNat = 43 ∨ c.toNat = 45) := by omega
    simp only [if_neg h43]
    rw [hp]
    have h45 : ¬ c.toNat = 45 := by omega
    simp only [h45, not_false_eq_true, true_and, false_and, if_false]
    rw [if_neg (by omega)]
    congr 1
    omega

/-- a plus ahead -/
theorem parse_plus (B : Nat) (hB : 2 ≤ B) (hB2 : B ≤ 63) (n : Int) (h0 : 0 ≤ n) (hn : n.natAbs < 2 ^ (B - 1)) : parseIntB B (43 :: itoa n) = .ok n := by
  unfold itoa
  rw [if_neg (by omega)]
  unfold parseIntB
  simp only [show (43 : UInt8).toNat = 43 from rfl, true_or, if_true]
  rw [parse_digits B hB hB2 _ (by omega)]
  simp only [show ¬ ((43 : Nat) = 45) by decide, not_false_eq_true, true_and, false_and, if_false]
  rw [if_neg (by omega)]
  congr 1
  omega

/-! the texts -/
def lim : Int := 1000000
def inR (a b : Int) : Bool := decide (a.natAbs ≤ 1000000 ∧ b.natAbs ≤ 1000000)
def sec (b : Int) : List UInt8 := if b = 1 then [105] else if b = -1 then [45, 105] else itoa b ++ [105]
def text (a b : Int) : List UInt8 :=
  if b = 0 then itoa a else if a = 0 then sec b else if 0 < b then itoa a ++ (43 :: sec b) else itoa a ++ sec b

/-- where the last byte of a kind stands; none: -1 -/
def lastW (p : UInt8 → Bool) : List UInt8 → Int
  | [] => -1
  | c :: r => if 0 ≤ lastW p r then lastW p r + 1 else if p c then 0 else -1

theorem lastW_ge (p : UInt8 → Bool) (l : List UInt8) : -1 ≤ lastW p l := by
  induction l with
  | nil => exact Int.le_refl _
  | cons c r ih => unfold lastW; split <;> (try split) <;> omega

theorem lastW_snoc (p : UInt8 → Bool) (l : List UInt8) (c : UInt8) : lastW p (l ++ [c]) = if p c then (l.length : Int) else lastW p l := by
  induction l with
  | nil => simp [lastW]
  | cons d r ih =>
    rw [List.cons_append, lastW, ih]
    by_cases hc : p c
    · simp only [hc, if_true, List.length_cons]
      rw [if_pos (by omega)]
      omega
    · simp only [hc, if_false, Bool.false_eq_true]
      rfl

theorem lastW_lt (p : UInt8 → Bool) (l : List UInt8) : lastW p l < l.length := by
  induction l with
  | nil => simp [lastW]
  | cons c r ih => unfold lastW; simp only [List.length_cons]; split <;> (try split) <;> omega

theorem lastW_none (p : UInt8 → Bool) (l : List UInt8) (h : ∀ c ∈ l, p c = false) : lastW p l = -1 := by
  induction l with
  | nil => rfl
  | cons c r ih =>
    have h1 := ih (fun x hx => h x (by simp [hx]))
    have h2 := h c (by simp)
    unfold lastW
    rw [h1, h2]; rfl

/-- behind it there is none -/
theorem lastW_append_none (p : UInt8 → Bool) (l r : List UInt8) (h : ∀ c ∈ r, p c = false) : lastW p (l ++ r) = lastW p l := by
  induction r generalizing l with
  | nil => simp
  | cons c r ih =>
    have h2 := h c (by simp)
    rw [show l ++ c :: r = (l ++ [c]) ++ r by simp, ih (l ++ [c]) (fun x hx => h x (by simp [hx])), lastW_snoc, h2]
    rfl

def isSign (c : UInt8) : Bool := c == 43 || c == 45

theorem dig_sign {c : UInt8} (h : 48 ≤ c.toNat ∧ c.toNat ≤ 57) : isSign c = false := by
  unfold isSign
  rw [Bool.or_eq_false_iff, beq_eq_false_iff_ne, beq_eq_false_iff_ne]
  constructor
  · rintro rfl; revert h; decide
  · rintro rfl; revert h; decide

theorem dec_sign (u : Nat) : ∀ c ∈ decDigits u, isSign c = false := fun c hc => dig_sign (decDigits_dig u c hc)

theorem itoa_nonneg {n : Int} (h : 0 ≤ n) : itoa n = decDigits n.toNat := by unfold itoa; rw [if_neg (by omega)]
theorem itoa_neg {n : Int} (h : n < 0) : itoa n = 45 :: decDigits n.natAbs := by unfold itoa; rw [if_pos h]
theorem itoa_ne (n : Int) : itoa n ≠ [] := by
  unfold itoa; split
  · simp
  · exact decDigits_ne _

/-- the last sign of a text without its i -/
theorem last_itoa_itoa (a b : Int) (hb : b < 0) : lastW isSign (itoa a ++ itoa b) = (itoa a).length := by
  rw [itoa_neg hb, show itoa a ++ 45 :: decDigits b.natAbs = (itoa a ++ [45]) ++ decDigits b.natAbs by simp, lastW_append_none _ _ _ (dec_sign _), lastW_snoc]
  rfl
theorem last_plus (l : List UInt8) (b : Int) (hb : 0 ≤ b) : lastW isSign (l ++ 43 :: itoa b) = l.length := by
  rw [itoa_nonneg hb, show l ++ 43 :: decDigits b.toNat = (l ++ [43]) ++ decDigits b.toNat by simp, lastW_append_none _ _ _ (dec_sign _), lastW_snoc]
  rfl
theorem last_itoa_le (b : Int) : (max (lastW isSign (itoa b)) 0).toNat = 0 := by
  by_cases hb : b < 0
  · rw [itoa_neg hb, show (45 : UInt8) :: decDigits b.natAbs = [45] ++ decDigits b.natAbs from rfl, lastW_append_none _ _ _ (dec_sign _)]
    rfl
  · rw [itoa_nonneg (by omega), lastW_none _ _ (dec_sign _)]
    rfl

/-! the program's way to read -/
def cutAt (s : List UInt8) : Nat := if s.getLast? = some 105 then (max (lastW isSign s.dropLast) 0).toNat else s.length
def firstOf (s : List UInt8) : List UInt8 := if s.getLast? = some 105 then (if s.dropLast.take (cutAt s) = [] then [48] else s.dropLast.take (cutAt s)) else s
def bareSecond (s : List UInt8) : List UInt8 := s.dropLast.drop (cutAt s)
def secondOf (s : List UInt8) : List UInt8 :=
  if s.getLast? = some 105 then (if bareSecond s = [] ∨ bareSecond s = [43] ∨ bareSecond s = [45] then bareSecond s ++ [49] else bareSecond s) else [48]

def readS (l : List UInt8) : Int × Bool := match parseIntB 32 l with | .ok v => (v, true) | NumEnd.range => (intSat 32 l, false) | _ => (0, false)

/-- the number of a text -/
def parseP (s : List UInt8) : Option (Int × Int) :=
  if (readS (firstOf s)).2 ∧ (readS (secondOf s)).2 ∧ inR (readS (firstOf s)).1 (readS (secondOf s)).1 = true ∧ text (readS (firstOf s)).1 (readS (secondOf s)).1 = s
  then some ((readS (firstOf s)).1, (readS (secondOf s)).1) else none

theorem readS_itoa {n : Int} (h : n.natAbs ≤ 1000000) : readS (itoa n) = (n, true) := by
  unfold readS
  rw [parse_itoa 32 (by decide) (by decide) n (by omega)]
theorem readS_plus {n : Int} (h0 : 0 ≤ n) (h : n.natAbs ≤ 1000000) : readS (43 :: itoa n) = (n, true) := by
  unfold readS
  rw [parse_plus 32 (by decide) (by decide) n h0 (by omega)]

theorem getLast_i (l : List UInt8) : (l ++ [105]).getLast? = some 105 := by simp
theorem dropLast_i (l : List UInt8) : (l ++ [105]).dropLast = l := by simp

theorem itoa_last (n : Int) : (itoa n).getLast? ≠ some 105 := by
  have h : ∃ u, (itoa n).getLast? = (decDigits u).getLast? := by
    by_cases hn : n < 0
    · refine ⟨n.natAbs, ?_⟩
      rw [itoa_neg hn]
      cases hd : decDigits n.natAbs with
      | nil => exact absurd hd (decDigits_ne _)
      | cons c r => simp
    · exact ⟨n.toNat, by rw [itoa_nonneg (by omega)]⟩
  obtain ⟨u, hu⟩ := h
  rw [hu]
  intro h
  have := decDigits_dig u 105 (List.mem_of_getLast? h)
  revert this; decide

/-- what is behind the first part: its sign and digits; the i alone stands for one -/
def tail (b : Int) : List UInt8 := if b = 1 then [] else if b = -1 then [45] else itoa b
theorem sec_eq (b : Int) : sec b = tail b ++ [105] := by unfold sec tail; split <;> (try split) <;> simp

theorem itoa_one : itoa 1 = [49] := by decide +kernel
theorem itoa_none : itoa (-1) = [45, 49] := by decide +kernel
theorem itoa_zero : itoa 0 = [48] := by decide +kernel

/-- the four forms of a text -/
theorem text_forms (a b : Int) : (b = 0 ∧ text a b = itoa a) ∨ (b ≠ 0 ∧ a = 0 ∧ text a b = tail b ++ [105]) ∨ (0 < b ∧ a ≠ 0 ∧ text a b = (itoa a ++ 43 :: tail b) ++ [105]) ∨ (b < 0 ∧ a ≠ 0 ∧ text a b = (itoa a ++ tail b) ++ [105]) := by
  unfold text
  by_cases hb : b = 0
  · exact .inl ⟨hb, by rw [if_pos hb]⟩
  · rw [if_neg hb]
    by_cases ha : a = 0
    · exact .inr (.inl ⟨hb, ha, by rw [if_pos ha, sec_eq]⟩)
    · rw [if_neg ha]
      by_cases hp : 0 < b
      · exact .inr (.inr (.inl ⟨hp, ha, by rw [if_pos hp, sec_eq]; simp⟩))
      · exact .inr (.inr (.inr ⟨by omega, ha, by rw [if_neg hp, sec_eq]; simp⟩))

theorem tail_neg_last {b : Int} (h : b < 0) (l : List UInt8) : lastW isSign (l ++ tail b) = l.length := by
  unfold tail
  rw [if_neg (by omega)]
  split
  · rw [lastW_snoc]; rfl
  · rw [itoa_neg h, show l ++ 45 :: decDigits b.natAbs = (l ++ [45]) ++ decDigits b.natAbs by simp, lastW_append_none _ _ _ (dec_sign _), lastW_snoc]; rfl
theorem tail_pos_last {b : Int} (h : 0 < b) (l : List UInt8) : lastW isSign (l ++ 43 :: tail b) = l.length := by
  unfold tail
  split
  · rw [lastW_snoc]; rfl
  · rw [if_neg (by omega)]; exact last_plus l b (by omega)
theorem tail_cut (b : Int) : (max (lastW isSign (tail b)) 0).toNat = 0 := by
  unfold tail
  split
  · rfl
  · split
    · rfl
    · exact last_itoa_le b

theorem tail_read {b : Int} (hb0 : b ≠ 0) (h : b.natAbs ≤ 1000000) : readS (if tail b = [] ∨ tail b = [43] ∨ tail b = [45] then tail b ++ [49] else tail b) = (b, true) := by
  unfold tail
  by_cases h1 : b = 1
  · subst h1; simp only [if_true, true_or, List.nil_append]; rw [← itoa_one]; exact readS_itoa (by decide)
  · rw [if_neg h1]
    by_cases h2 : b = -1
    · subst h2; simp only [if_true, or_true]; rw [show ([45] : List UInt8) ++ [49] = itoa (-1) from itoa_none.symm]; exact readS_itoa (by decide)
    · rw [if_neg h2]
      have hne : ¬ (itoa b = [] ∨ itoa b = [43] ∨ itoa b = [45]) := by
        rintro (e | e | e)
        · exact itoa_ne b e
        · by_cases hn : b < 0
          · rw [itoa_neg hn] at e; injection e with e1; revert e1; decide
          · rw [itoa_nonneg (by omega)] at e
            have := decDigits_dig b.toNat 43 (by rw [e]; simp)
            revert this; decide
        · by_cases hn : b < 0
          · rw [itoa_neg hn] at e; injection e with _ e2; exact decDigits_ne _ e2
          · rw [itoa_nonneg (by omega)] at e
            have := decDigits_dig b.toNat 45 (by rw [e]; simp)
            revert this; decide
      rw [if_neg hne]
      exact readS_itoa h
theorem tail_read_plus {b : Int} (hb0 : 0 < b) (h : b.natAbs ≤ 1000000) : readS (if 43 :: tail b = [] ∨ 43 :: tail b = [43] ∨ 43 :: tail b = [45] then 43 :: tail b ++ [49] else 43 :: tail b) = (b, true) := by
  unfold tail
  by_cases h1 : b = 1
  · subst h1
    simp only [if_true, true_or, or_true]
    rw [show (43 : UInt8) :: [] ++ [49] = 43 :: itoa 1 by rw [itoa_one]; rfl]
    exact readS_plus (by decide) (by decide)
  · rw [if_neg h1, if_neg (show ¬ b = -1 by omega)]
    have hne : ¬ (43 :: itoa b = [] ∨ 43 :: itoa b = [43] ∨ 43 :: itoa b = [45]) := by
      rintro (e | e | e)
      · cases e
      · injection e with _ e2; exact itoa_ne _ e2
      · injection e with e1 _; revert e1; decide
    rw [if_neg hne]
    exact readS_plus (by omega) h

/-- what is printed is parsed -/
theorem parseP_text {a b : Int} (h : inR a b = true) : parseP (text a b) = some (a, b) := by
  have hr : a.natAbs ≤ 1000000 ∧ b.natAbs ≤ 1000000 := of_decide_eq_true h
  have key : readS (firstOf (text a b)) = (a, true) ∧ readS (secondOf (text a b)) = (b, true) := by
    rcases text_forms a b with ⟨hb, e⟩ | ⟨hb, ha, e⟩ | ⟨hb, ha, e⟩ | ⟨hb, ha, e⟩
    · rw [e]
      unfold firstOf secondOf
      rw [if_neg (itoa_last a), if_neg (itoa_last a)]
      refine ⟨readS_itoa hr.1, ?_⟩
      rw [hb, ← itoa_zero]; exact readS_itoa (by decide)
    · rw [e]
      unfold firstOf secondOf bareSecond cutAt
      simp only [getLast_i, dropLast_i, if_true, tail_cut, List.take_zero, List.drop_zero]
      refine ⟨?_, tail_read hb hr.2⟩
      rw [ha, ← itoa_zero]; exact readS_itoa (by decide)
    · rw [e]
      unfold firstOf secondOf bareSecond cutAt
      simp only [getLast_i, dropLast_i, if_true, tail_pos_last hb]
      have hc : (max ((itoa a).length : Int) 0).toNat = (itoa a).length := by omega
      rw [hc, List.take_left, List.drop_left, if_neg (itoa_ne a)]
      exact ⟨readS_itoa hr.1, tail_read_plus hb hr.2⟩
    · rw [e]
      unfold firstOf secondOf bareSecond cutAt
      simp only [getLast_i, dropLast_i, if_true, tail_neg_last hb]
      have hc : (max ((itoa a).length : Int) 0).toNat = (itoa a).length := by omega
      rw [hc, List.take_left, List.drop_left, if_neg (itoa_ne a)]
      exact ⟨readS_itoa hr.1, tail_read (by omega) hr.2⟩
  unfold parseP
  rw [key.1, key.2, if_pos ⟨rfl, rfl, h, rfl⟩]

theorem parseP_some {s : List UInt8} {a b : Int} : parseP s = some (a, b) ↔ inR a b = true ∧ text a b = s := by
  constructor
  · intro h
    unfold parseP at h
    split at h
    · rename_i hc
      obtain ⟨_, _, h3, h4⟩ := hc
      have h5 := Option.some.inj h
      rw [Prod.mk.injEq] at h5
      rw [h5.1, h5.2] at h3 h4
      exact ⟨h3, h4⟩
    · cases h
  · rintro ⟨h1, rfl⟩; exact parseP_text h1

theorem text_inj {a b a' b' : Int} (h : inR a b = true) (h' : inR a' b' = true) (e : text a b = text a' b') : a = a' ∧ b = b' := by
  have h1 := parseP_text h
  rw [e, parseP_text h'] at h1
  have := Option.some.inj h1
  rw [Prod.mk.injEq] at this
  exact ⟨this.1.symm, this.2.symm⟩

/-! the reference's way -/
/-- 'number': perhaps a sign, one to nine digits -/
def bare (l : List UInt8) : List UInt8 := match l with | [] => [] | c :: r => if isSign c then r else l
def numS (l : List UInt8) : Option Int :=
  if 1 ≤ (bare l).length ∧ (bare l).length ≤ 9 ∧ (bare l).all isDig = true then some (if l.head? = some 45 then -(valFrom 0 (bare l) : Int) else valFrom 0 (bare l)) else none

def parseR (s : List UInt8) : Option (Int × Int) :=
  let at_ := cutAt s
  let first := if 0 < at_ then numS (s.take at_) else some 0
  let b := (s.take (s.length - 1)).drop at_
  let second := if at_ < s.length then (if b = [] ∨ b = [43] then some 1 else if b = [45] then some (-1) else numS b) else some 0
  match first, second with
  | some x, some y => if inR x y = true ∧ text x y = s then some (x, y) else none
  | _, _ => none

theorem nDigits_le : ∀ (k u : Nat), u < 10 ^ (k + 1) → nDigits u ≤ k + 1
  | 0, u, h => by rw [nDigits_small (by simpa using h)]; omega
  | k + 1, u, h => by
    by_cases hs : u < 10
    · rw [nDigits_small hs]; omega
    · rw [nDigits_big hs]
      rw [Nat.pow_succ] at h
      have := nDigits_le k (u / 10) (by omega)
      omega
theorem dec_len {u : Nat} (h : u ≤ 1000000) : (decDigits u).length ≤ 9 := by
  rw [decDigits_length]
  exact nDigits_le 8 u (by omega)
theorem itoa_len {n : Int} (h : n.natAbs < 10000000000000000000) : (itoa n).length ≤ 20 := by
  have hd : ∀ u, u < 10000000000000000000 → (decDigits u).length ≤ 19 := fun u hu => by
    rw [decDigits_length]; exact nDigits_le 18 u (by omega)
  unfold itoa
  split
  · have := hd n.natAbs h; simp only [List.length_cons]; omega
  · have := hd n.toNat (by omega); omega
theorem sec_len {b : Int} (h : b.natAbs ≤ 1000000) : (sec b).length ≤ 21 := by
  have := itoa_len (n := b) (by omega)
  unfold sec
  split
  · decide
  · split
    · decide
    · rw [List.length_append, List.length_singleton]; omega
theorem dec_pos (u : Nat) : 1 ≤ (decDigits u).length := by
  rw [decDigits_length]
  exact nDigits_pos u
theorem dec_all (u : Nat) : (decDigits u).all isDig = true := by
  rw [List.all_eq_true]
  intro c hc
  unfold isDig
  exact decide_eq_true (decDigits_dig u c hc)

theorem bare_dec (u : Nat) : bare (decDigits u) = decDigits u := by
  cases hd : decDigits u with
  | nil => rfl
  | cons c r =>
    have := dec_sign u c (by rw [hd]; simp)
    unfold bare
    simp only
    rw [this]
    rfl
theorem head_dec (u : Nat) : (decDigits u).head? ≠ some 45 := by
  intro h
  have := decDigits_dig u 45 (List.mem_of_mem_head? h)
  revert this; decide

theorem numS_itoa {n : Int} (h : n.natAbs ≤ 1000000) : numS (itoa n) = some n := by
  unfold numS
  by_cases hn : n < 0
  · rw [itoa_neg hn]
    have hb : bare (45 :: decDigits n.natAbs) = decDigits n.natAbs := rfl
    rw [hb, if_pos ⟨dec_pos _, dec_len h, dec_all _⟩, valFrom_dec]
    simp only [List.head?_cons, if_true]
    congr 1; omega
  · rw [itoa_nonneg (by omega), bare_dec, if_pos ⟨dec_pos _, dec_len (by omega), dec_all _⟩, valFrom_dec, if_neg (head_dec _)]
    congr 1; omega
theorem numS_plus {n : Int} (h0 : 0 ≤ n) (h : n.natAbs ≤ 1000000) : numS (43 :: itoa n) = some n := by
  unfold numS
  rw [itoa_nonneg h0]
  have hb : bare (43 :: decDigits n.toNat) = decDigits n.toNat := rfl
  rw [hb, if_pos ⟨dec_pos _, dec_len (by omega), dec_all _⟩, valFrom_dec]
  rw [if_neg (show ¬ (43 :: decDigits n.toNat).head? = some 45 by simp)]
  congr 1; omega

theorem tail_num {b : Int} (hb0 : b ≠ 0) (h : b.natAbs ≤ 1000000) : (if tail b = [] ∨ tail b = [43] then some 1 else if tail b = [45] then some (-1) else numS (tail b)) = some b := by
  unfold tail
  by_cases h1 : b = 1
  · subst h1; simp
  · rw [if_neg h1]
    by_cases h2 : b = -1
    · subst h2; simp
    · rw [if_neg h2]
      have hne : ¬ (itoa b = [] ∨ itoa b = [43]) ∧ ¬ itoa b = [45] := by
        refine ⟨?_, ?_⟩
        · rintro (e | e)
          · exact itoa_ne b e
          · by_cases hn : b < 0
            · rw [itoa_neg hn] at e; injection e with e1; revert e1; decide
            · rw [itoa_nonneg (by omega)] at e
              have := decDigits_dig b.toNat 43 (by rw [e]; simp)
              revert this; decide
        · intro e
          by_cases hn : b < 0
          · rw [itoa_neg hn] at e; injection e with _ e2; exact decDigits_ne _ e2
          · rw [itoa_nonneg (by omega)] at e
            have := decDigits_dig b.toNat 45 (by rw [e]; simp)
            revert this; decide
      rw [if_neg hne.1, if_neg hne.2]
      exact numS_itoa h
theorem tail_num_plus {b : Int} (hb0 : 0 < b) (h : b.natAbs ≤ 1000000) : (if 43 :: tail b = [] ∨ 43 :: tail b = [43] then some 1 else if 43 :: tail b = [45] then some (-1) else numS (43 :: tail b)) = some b := by
  unfold tail
  by_cases h1 : b = 1
  · subst h1; simp
  · rw [if_neg h1, if_neg (show ¬ b = -1 by omega)]
    have h2 : ¬ (43 :: itoa b = [] ∨ 43 :: itoa b = [43]) := by
      rintro (e | e)
      · cases e
      · injection e with _ e2; exact itoa_ne _ e2
    have h3 : ¬ 43 :: itoa b = [45] := by
      intro e; injection e with e1 _; revert e1; decide
    rw [if_neg h2, if_neg h3]
    exact numS_plus (by omega) h

theorem cut_forms (l : List UInt8) (k : Nat) (hk : k ≤ l.length) : (l ++ [105]).take ((l ++ [105]).length - 1) = l ∧ (l ++ [105]).take k = l.take k := by
  constructor
  · simp
  · rw [List.take_append_of_le_length hk]

/-- the reference's parser is the program's -/
theorem parseR_text {a b : Int} (h : inR a b = true) : parseR (text a b) = some (a, b) := by
  have hr : a.natAbs ≤ 1000000 ∧ b.natAbs ≤ 1000000 := of_decide_eq_true h
  have fin : ∀ (x y : Option Int), x = some a → y = some b → (match x, y with
      | some x, some y => if inR x y = true ∧ text x y = text a b then some (x, y) else none
      | _, _ => none) = some (a, b) := by
    rintro _ _ rfl rfl
    simp only
    rw [if_pos ⟨h, trivial⟩]
  unfold parseR
  refine fin _ _ ?_ ?_
  · rcases text_forms a b with ⟨hb, e⟩ | ⟨hb, ha, e⟩ | ⟨hb, ha, e⟩ | ⟨hb, ha, e⟩
    · rw [e]
      unfold cutAt
      rw [if_neg (itoa_last a), if_pos (List.length_pos_iff.2 (itoa_ne a)), List.take_length]
      exact numS_itoa hr.1
    · rw [e]
      unfold cutAt
      simp only [getLast_i, dropLast_i, if_true, tail_cut]
      rw [ha]; rfl
    · rw [e]
      unfold cutAt
      simp only [getLast_i, dropLast_i, if_true, tail_pos_last hb]
      have hc : (max ((itoa a).length : Int) 0).toNat = (itoa a).length := by omega
      rw [hc, if_pos (List.length_pos_iff.2 (itoa_ne a)), (cut_forms _ _ (by simp)).2, List.take_left]
      exact numS_itoa hr.1
    · rw [e]
      unfold cutAt
      simp only [getLast_i, dropLast_i, if_true, tail_neg_last hb]
      have hc : (max ((itoa a).length : Int) 0).toNat = (itoa a).length := by omega
      rw [hc, if_pos (List.length_pos_iff.2 (itoa_ne a)), (cut_forms _ _ (by simp)).2, List.take_left]
      exact numS_itoa hr.1
  · rcases text_forms a b with ⟨hb, e⟩ | ⟨hb, ha, e⟩ | ⟨hb, ha, e⟩ | ⟨hb, ha, e⟩
    · rw [e]
      unfold cutAt
      rw [if_neg (itoa_last a), if_neg (Nat.lt_irrefl _), hb]
    · rw [e]
      unfold cutAt
      simp only [getLast_i, dropLast_i, if_true, tail_cut, List.drop_zero]
      rw [if_pos (by simp), (cut_forms _ 0 (by simp)).1]
      exact tail_num hb hr.2
    · rw [e]
      unfold cutAt
      simp only [getLast_i, dropLast_i, if_true, tail_pos_last hb]
      have hc : (max ((itoa a).length : Int) 0).toNat = (itoa a).length := by omega
      rw [hc, if_pos (by simp), (cut_forms _ 0 (by simp)).1, List.drop_left]
      exact tail_num_plus hb hr.2
    · rw [e]
      unfold cutAt
      simp only [getLast_i, dropLast_i, if_true, tail_neg_last hb]
      have hc : (max ((itoa a).length : Int) 0).toNat = (itoa a).length := by omega
      rw [hc, if_pos (by simp), (cut_forms _ 0 (by simp)).1, List.drop_left]
      exact tail_num (by omega) hr.2

theorem parseR_sound {s : List UInt8} {a b : Int} (h : parseR s = some (a, b)) : inR a b = true ∧ text a b = s := by
  unfold parseR at h
  simp only at h
  split at h
  · split at h
    · rename_i hc
      have h5 := Option.some.inj h
      rw [Prod.mk.injEq] at h5
      rw [h5.1, h5.2] at hc
      exact hc
    · cases h
  · cases h

theorem take_snoc (s : ByteArray) (k : Nat) (h : k < s.size) : s.data.toList.take (k + 1) = s.data.toList.take k ++ [s[k]] := by
  rw [List.take_succ_eq_append_getElem (by simpa using h)]; rfl
theorem valFrom_snoc (l : List UInt8) (c : UInt8) : valFrom 0 (l ++ [c]) = valFrom 0 l * 10 + (c.toNat - 48) := by
  rw [valFrom_append]; rfl
theorem valFrom_lt (l : List UInt8) (h : l.all isDig = true) : valFrom 0 l < 10 ^ l.length := by
  suffices hs : ∀ (l : List UInt8) acc, l.all isDig = true → valFrom acc l < (acc + 1) * 10 ^ l.length by
    have := hs l 0 h; simpa using this
  intro l
  induction l with
  | nil => intro acc _; show acc < _; simp
  | cons c r ih =>
    intro acc hd
    rw [List.all_cons, Bool.and_eq_true] at hd
    have h1 : 48 ≤ c.toNat ∧ c.toNat ≤ 57 := of_decide_eq_true hd.1
    have h2 := ih (acc * 10 + (c.toNat - 48)) hd.2
    show valFrom (acc * 10 + (c.toNat - 48)) r < _
    rw [List.length_cons, Nat.pow_succ]
    have h3 : (acc * 10 + (c.toNat - 48) + 1) * 10 ^ r.length ≤ ((acc + 1) * 10) * 10 ^ r.length := Nat.mul_le_mul_right _ (by omega)
    have h4 : (acc + 1) * (10 ^ r.length * 10) = ((acc + 1) * 10) * 10 ^ r.length := by rw [Nat.mul_assoc, Nat.mul_comm 10 (10 ^ r.length)]
    omega

def numV (l : List UInt8) : Int := (numS l).getD 0
def numOk (l : List UInt8) : Bool := (numS l).isSome
theorem numS_yes {l u : List UInt8} (hb : bare l = u) (h1 : 1 ≤ u.length) (h9 : u.length ≤ 9) (hd : u.all isDig = true) : numS l = some (if l.head? = some 45 then -(valFrom 0 u : Int) else valFrom 0 u) := by
  subst hb; unfold numS; rw [if_pos ⟨h1, h9, hd⟩]
theorem numS_no {l u : List UInt8} (hb : bare l = u) (h : u.length < 1 ∨ 9 < u.length ∨ u.all isDig = false) : numS l = none := by
  subst hb; unfold numS; rw [if_neg]
  rintro ⟨h1, h2, h3⟩
  rcases h with h | h | h
  · omega
  · omega
  · rw [h3] at h; cases h
theorem numV_le (l : List UInt8) : (numV l).natAbs ≤ 1000000000 := by
  unfold numV numS
  split
  · rename_i h
    have h1 := valFrom_lt _ h.2.2
    have h2 : 10 ^ (bare l).length ≤ 10 ^ 9 := Nat.pow_le_pow_right (by decide) h.2.1
    simp only [Option.getD_some]
    split <;> omega
  · simp

theorem parseR_eq (s : List UInt8) : parseR s = parseP s := by
  cases hr : parseR s with
  | some x =>
    obtain ⟨a, b⟩ := x
    exact (parseP_some.2 (parseR_sound hr)).symm
  | none =>
    cases hp : parseP s with
    | none => rfl
    | some x =>
      obtain ⟨a, b⟩ := x
      obtain ⟨h1, h2⟩ := parseP_some.1 hp
      rw [← h2, parseR_text h1] at hr
      cases hr

end Go.Proofs.YtjjbkldlgjllnaaGreatDoor.PhS
