/- Plain laws of normal values: integers, texts. No program. Conditions: those that each theorem states. -/
import Derived.Test.YtjjbkldlgjllnaaGreatDoorRuS
import Derived.Test.YtjjbkldlgjllnaaGreatDoorPhS
import Derived.Lib.Strings
namespace Go.Proofs.YtjjbkldlgjllnaaGreatDoor.RuS
open Go.Lib

theorem parse64_digits (u : Nat) (hu : u < 1000000000000000000) : parseUintB 64 (decDigits u) = .ok u := by
  unfold parseUintB
  rw [if_neg (PhS.decDigits_ne u)]
  have h := PhS.parseUintM_ok (2 ^ 64 - 1) (decDigits u) 0 (PhS.decDigits_dig u) (by rw [PhS.valFrom_dec]; omega) (by decide) (by rw [PhS.valFrom_dec]; omega)
  rw [PhS.valFrom_dec] at h
  exact h
theorem parse64_itoa (n : Int) (hn : n.natAbs < 1000000000000000000) : parseIntB 64 (itoa n) = .ok n := by
  by_cases h : n < 0
  · rw [PhS.itoa_neg h]
    unfold parseIntB
    have e : (45 : UInt8).toNat = 45 := rfl
    simp only [e, or_true, if_true, parse64_digits n.natAbs hn, not_true, false_and, if_false, true_and]
    rw [if_neg (by omega)]
    congr 1; omega
  · rw [PhS.itoa_nonneg (by omega)]
    have hd := PhS.decDigits_dig n.toNat
    have hp := parse64_digits n.toNat (by omega)
    cases hdd : decDigits n.toNat with
    | nil => exact absurd hdd (PhS.decDigits_ne _)
    | cons c r =>
      have hc := hd c (by rw [hdd]; exact List.mem_cons_self)
      rw [hdd] at hp
      unfold parseIntB
      have h1 : ¬ (c.toNat = 43 ∨ c.toNat = 45) := by omega
      have h2 : ¬ (c.toNat = 45) := by omega
      simp only [if_neg h1, hp]
      rw [if_neg (fun h => by have := h.2; omega), if_neg (fun h => h2 h.1), if_neg h2]
      congr 1; omega
theorem pow_le18 {k : Nat} (h : k ≤ 18) : 10 ^ k ≤ 1000000000000000000 := Nat.pow_le_pow_right (n := 10) (by decide) h
theorem dec18 (u : Nat) : (decDigits u).length ≤ 18 ↔ u < 1000000000000000000 := by
  rw [decDigits_length]
  constructor
  · intro h
    have := lt_pow_nDigits u
    have := pow_le18 h
    omega
  · intro h
    have := PhS.nDigits_le 17 u h
    omega
/-- the integer that a value of syntax 3 is -/
def intS (l : List UInt8) : Option Int := match parseIntB 64 l with
  | .ok n => if (itoa n == l) && decide ((trimPrefix l [45]).length ≤ 18) then some n else none
  | _ => none
theorem trim_itoa (n : Int) : trimPrefix (itoa n) [45] = decDigits n.natAbs := by
  unfold trimPrefix hasPrefix
  by_cases h : n < 0
  · rw [PhS.itoa_neg h]; simp [List.isPrefixOf]
  · rw [PhS.itoa_nonneg (by omega)]
    have hd := PhS.decDigits_dig n.toNat
    cases hdd : decDigits n.toNat with
    | nil => exact absurd hdd (PhS.decDigits_ne _)
    | cons c r =>
      have hc := hd c (by rw [hdd]; exact List.mem_cons_self)
      have : ([45] : List UInt8).isPrefixOf (c :: r) = false := by
        simp [List.isPrefixOf]
        intro e; subst e; simp at hc
      rw [this, ← hdd]
      simp only [Bool.false_eq_true, if_false]
      congr 1; omega
theorem intS_iff {l : List UInt8} {n : Int} : intS l = some n ↔ itoa n = l ∧ n.natAbs < 1000000000000000000 := by
  constructor
  · intro h
    unfold intS at h
    split at h
    · rename_i m hm
      split at h
      · rename_i hc
        have := Option.some.inj h
        subst this
        rw [Bool.and_eq_true] at hc
        have h1 := beq_iff_eq.1 hc.1
        have h2 := of_decide_eq_true hc.2
        subst h1
        rw [trim_itoa, dec18] at h2
        exact ⟨rfl, h2⟩
      · cases h
    · cases h
  · rintro ⟨rfl, h⟩
    unfold intS
    rw [parse64_itoa n h]
    simp only
    rw [trim_itoa, if_pos]
    simp only [beq_self_eq_true, Bool.true_and, decide_eq_true_eq]
    exact (dec18 _).2 h
theorem dec_val : ∀ (n : Nat) (d : List UInt8), d.length = n → d.all PhS.isDig = true → d ≠ [] → (d.head? ≠ some 48 ∨ d.length = 1) → decDigits (PhS.valFrom 0 d) = d := by
  intro n
  induction n with
  | zero => intro d hl _ hne; exact absurd (List.eq_nil_of_length_eq_zero hl) hne
  | succ n ih =>
    intro d hl hall hne hh
    obtain ⟨d', c, rfl⟩ : ∃ d' c, d = d' ++ [c] := ⟨d.dropLast, d.getLast hne, (List.dropLast_concat_getLast hne).symm⟩
    rw [PhS.valFrom_snoc]
    rw [List.all_append, Bool.and_eq_true] at hall
    have hc : 48 ≤ c.toNat ∧ c.toNat ≤ 57 := by have := hall.2; simp [PhS.isDig] at this; exact this
    have hcc : UInt8.ofNat (48 + (c.toNat - 48)) = c := by
      apply UInt8.toNat_inj.1
      rw [UInt8.toNat_ofNat']; omega
    by_cases h0 : d' = []
    · subst h0
      simp only [PhS.valFrom, List.foldl_nil, Nat.zero_mul, Nat.zero_add, List.nil_append]
      rw [decDigits, dif_pos (by omega), hcc]
    · have hd' : d'.head? ≠ some 48 := by
        rcases hh with hh | hh
        · cases d' with
          | nil => exact absurd rfl h0
          | cons a r => exact hh
        · cases d' with
          | nil => exact absurd rfl h0
          | cons a r => simp at hh
      have e := ih d' (by simp at hl; exact hl) hall.1 h0 (.inl hd')
      have hpos : 1 ≤ PhS.valFrom 0 d' := by
        rcases Nat.eq_zero_or_pos (PhS.valFrom 0 d') with hz | hz
        · rw [hz] at e
          have : decDigits 0 = [48] := by decide +kernel
          rw [this] at e
          rw [← e] at hd'
          exact absurd rfl hd'
        · exact hz
      rw [decDigits, dif_neg (by omega)]
      have e1 : (PhS.valFrom 0 d' * 10 + (c.toNat - 48)) / 10 = PhS.valFrom 0 d' := by omega
      have e2 : (PhS.valFrom 0 d' * 10 + (c.toNat - 48)) % 10 = c.toNat - 48 := by omega
      rw [e1, e2, e, hcc]
/-- the document's integer -/
def intR (l : List UInt8) : Option Int :=
  let neg : Bool := l.head? == some 45
  let d := if neg then l.tail else l
  if d.length < 1 ∨ 18 < d.length ∨ (d.head? = some 48 ∧ (1 < d.length ∨ neg = true)) ∨ d.all PhS.isDig = false then none
  else some (if neg then -(PhS.valFrom 0 d : Int) else PhS.valFrom 0 d)
theorem val18 {d : List UInt8} (h : d.all PhS.isDig = true) (hl : d.length ≤ 18) : PhS.valFrom 0 d < 1000000000000000000 := by
  have h1 := PhS.valFrom_lt d h
  have h2 := pow_le18 hl
  omega
theorem head_dig_ne (u : Nat) : (decDigits u).head? = some 48 → u = 0 := by
  intro h
  have hv := PhS.valFrom_dec u
  rcases Nat.eq_zero_or_pos u with h0 | h0
  · exact h0
  · exfalso
    -- the first digit of a number that is not 0 is not 0
    have key : ∀ (n u : Nat), (decDigits u).length = n → 0 < u → (decDigits u).head? ≠ some 48 := by
      intro n
      induction n with
      | zero => intro u hl; exact absurd (List.eq_nil_of_length_eq_zero hl) (PhS.decDigits_ne u)
      | succ n ih =>
        intro u hl hu
        by_cases h10 : u < 10
        · rw [decDigits_one h10]
          intro e
          have e2 := Option.some.inj e
          have e3 := congrArg UInt8.toNat e2
          rw [UInt8.toNat_ofNat'] at e3
          have : (48 : UInt8).toNat = 48 := rfl
          omega
        · rw [decDigits, dif_neg h10] at hl ⊢
          have hl2 : (decDigits (u / 10)).length = n := by simpa using hl
          have := ih (u / 10) hl2 (by omega)
          cases hd : decDigits (u / 10) with
          | nil => exact absurd hd (PhS.decDigits_ne _)
          | cons a r => rw [hd] at this; exact this
    exact key _ u rfl h0 h
theorem intR_iff {l : List UInt8} {n : Int} : intR l = some n ↔ itoa n = l ∧ n.natAbs < 1000000000000000000 := by
  constructor
  · intro h
    unfold intR at h
    generalize hneg : (l.head? == some 45) = neg at h
    simp only at h
    by_cases hc : ((if neg = true then l.tail else l).length < 1 ∨ 18 < (if neg = true then l.tail else l).length ∨ ((if neg = true then l.tail else l).head? = some 48 ∧ (1 < (if neg = true then l.tail else l).length ∨ neg = true)) ∨ (if neg = true then l.tail else l).all PhS.isDig = false)
    · rw [if_pos hc] at h; cases h
    · rw [if_neg hc] at h
      have h := Option.some.inj h
      rw [not_or, not_or, not_or] at hc
      obtain ⟨c1, c2, c3, c4⟩ := hc
      have c4' : (if neg = true then l.tail else l).all PhS.isDig = true := by simpa using c4
      clear c4
      cases neg with
      | true =>
        simp only [if_true] at c1 c2 c3 c4' h
        have hl : l = 45 :: l.tail := by
          cases l with
          | nil => cases hneg
          | cons a r => have := Option.some.inj (beq_iff_eq.1 hneg); subst this; rfl
        have hv := val18 c4' (by omega)
        have h48 : l.tail.head? ≠ some 48 := fun e => c3 ⟨e, .inr (by trivial)⟩
        have hne : l.tail ≠ [] := by intro e; rw [e] at c1; simp at c1
        have hd := dec_val _ l.tail rfl c4' hne (.inl h48)
        have hpos : 0 < PhS.valFrom 0 l.tail := by
          rcases Nat.eq_zero_or_pos (PhS.valFrom 0 l.tail) with hz | hz
          · rw [hz] at hd
            have : decDigits 0 = [48] := by decide +kernel
            rw [this] at hd; rw [← hd] at h48; exact absurd rfl h48
          · exact hz
        subst h
        refine ⟨?_, by omega⟩
        rw [PhS.itoa_neg (by omega)]
        have e : (-(PhS.valFrom 0 l.tail : Int)).natAbs = PhS.valFrom 0 l.tail := by omega
        rw [e, hd]
        exact hl.symm
      | false =>
        simp only [Bool.false_eq_true, if_false] at c1 c2 c3 c4' h
        have hv := val18 c4' (by omega)
        have hne : l ≠ [] := by intro e; rw [e] at c1; simp at c1
        have hh : l.head? ≠ some 48 ∨ l.length = 1 := by
          by_cases e : l.head? = some 48
          · right
            have : ¬ 1 < l.length := fun h => c3 ⟨e, .inl h⟩
            omega
          · exact .inl e
        have hd := dec_val _ l rfl c4' hne hh
        subst h
        refine ⟨?_, by omega⟩
        rw [PhS.itoa_nonneg (by omega)]
        exact hd
  · rintro ⟨rfl, h⟩
    unfold intR
    simp only
    by_cases hn : n < 0
    · rw [PhS.itoa_neg hn]
      have e1 : ((45 :: decDigits n.natAbs).head? == some 45) = true := rfl
      rw [e1]
      simp only [if_true, List.tail_cons]
      have hl := (dec18 n.natAbs).2 h
      have hp := PhS.dec_pos n.natAbs
      rw [if_neg]
      · rw [PhS.valFrom_dec]; congr 1; omega
      · rintro (h1 | h1 | ⟨h1, _⟩ | h1)
        · omega
        · omega
        · have := head_dig_ne _ h1; omega
        · rw [PhS.dec_all] at h1; cases h1
    · rw [PhS.itoa_nonneg (by omega)]
      have e1 : ((decDigits n.toNat).head? == some 45) = false := by
        rw [beq_eq_false_iff_ne]; exact PhS.head_dec _
      rw [e1]
      simp only [Bool.false_eq_true, if_false]
      have hl := (dec18 n.toNat).2 (by omega)
      have hp := PhS.dec_pos n.toNat
      rw [if_neg]
      · rw [PhS.valFrom_dec]; congr 1; omega
      · rintro (h1 | h1 | ⟨h1, h2⟩ | h1)
        · omega
        · omega
        · have h0 := head_dig_ne _ h1
          rw [h0] at h2
          rcases h2 with h2 | h2
          · have : decDigits 0 = [48] := by decide +kernel
            rw [this] at h2; simp at h2
          · cases h2
        · rw [PhS.dec_all] at h1; cases h1
theorem intR_eq (l : List UInt8) : intR l = intS l := by
  cases h : intR l with
  | some n => exact (intS_iff.2 (intR_iff.1 h)).symm
  | none =>
    cases h2 : intS l with
    | none => rfl
    | some n => rw [intR_iff.2 (intS_iff.1 h2)] at h; cases h

/-! texts -/
theorem gap_snoc (l : List UInt8) (d : UInt8) : gapB (l ++ [d]) = (d == 32) := by unfold gapB; simp
theorem snoc_ind {P : List UInt8 → Prop} (h0 : P []) (h1 : ∀ l d, P l → P (l ++ [d])) : ∀ l, P l := by
  intro l
  have : ∀ (n : Nat) (l : List UInt8), l.length = n → P l := by
    intro n
    induction n with
    | zero => intro l hl; rw [List.eq_nil_of_length_eq_zero hl]; exact h0
    | succ n ih =>
      intro l hl
      have hne : l ≠ [] := by intro e; rw [e] at hl; cases hl
      rw [← List.dropLast_concat_getLast hne]
      exact h1 _ _ (ih _ (by simp [hl]))
  exact this _ l rfl
theorem joinW_le (l : List UInt8) : (Lib.join (wordsL l) [32]).length + (if gapB l = true then 1 else 0) ≤ l.length := by
  refine snoc_ind (P := fun l => (Lib.join (wordsL l) [32]).length + (if gapB l = true then 1 else 0) ≤ l.length) (by decide) (fun l d ih => ?_) l
  rw [gap_snoc]
  by_cases hd : d = 32
  · subst hd
    rw [wordsL_blank]
    simp; omega
  · rw [wordsL_letter l hd]
    have : (d == 32) = false := by simpa using hd
    rw [this]
    simp only [List.length_append, List.length_singleton, Bool.false_eq_true, if_false]
    by_cases hg : gapB l = true
    · rw [hg] at ih ⊢
      simp only [if_true, Bool.true_and] at ih ⊢
      split <;> simp <;> omega
    · have hg : gapB l = false := by simpa using hg
      rw [hg] at ih ⊢
      simp at ih ⊢; omega
theorem textS_le (l : List UInt8) : (textS l).length ≤ l.length := by
  have := joinW_le (lower l)
  rw [lower_length] at this
  unfold textS; omega
theorem joinW_mem (c : UInt8) (hc : c ≠ 32) (l : List UInt8) : c ∈ Lib.join (wordsL l) [32] ↔ c ∈ l := by
  refine snoc_ind (P := fun l => c ∈ Lib.join (wordsL l) [32] ↔ c ∈ l) (by simp [wordsL, pieces, Lib.join_nil]) (fun l d ih => ?_) l
  by_cases hd : d = 32
  · subst hd
    rw [wordsL_blank, ih]; simp [hc]
  · rw [wordsL_letter l hd, List.mem_append, List.mem_append, List.mem_append, ih]
    constructor
    · rintro ((h | h) | h)
      · exact .inl h
      · split at h
        · simp at h; exact absurd h hc
        · cases h
      · exact .inr h
    · rintro (h | h)
      · exact .inl (.inl h)
      · exact .inr h
theorem lower_zero (l : List UInt8) : (0 : UInt8) ∈ lower l ↔ (0 : UInt8) ∈ l := by
  unfold lower
  rw [List.mem_map]
  constructor
  · rintro ⟨c, hc, h⟩
    by_cases hq : 65 ≤ c.toNat ∧ c.toNat ≤ 90
    · have := lowC_toNat hq.1 hq.2
      rw [h] at this
      have e : (0 : UInt8).toNat = 0 := rfl
      omega
    · rw [lowC_no hq] at h; rw [← h]; exact hc
  · intro h; exact ⟨0, h, by decide⟩
theorem textS_zero (l : List UInt8) : (0 : UInt8) ∈ textS l ↔ (0 : UInt8) ∈ l := by
  unfold textS; rw [joinW_mem 0 (by decide), lower_zero]
theorem indexByte_none (l : List UInt8) (c : UInt8) : Lib.indexByte l c < 0 ↔ ¬ c ∈ l := by
  induction l with
  | nil => simp [Lib.indexByte]
  | cons b l ih =>
    unfold Lib.indexByte
    by_cases h : b = c
    · subst h; simp
    · have h' : (b == c) = false := by simpa using h
      rw [h']
      simp only [Bool.false_eq_true, if_false, List.mem_cons]
      have hge := Lib.indexByte_ge l c
      by_cases hm : Lib.indexByte l c = -1
      · rw [hm]; simp
        rw [hm] at ih
        exact ⟨fun e => h e.symm, ih.1 (by decide)⟩
      · have hm' : (Lib.indexByte l c == -1) = false := by simpa using hm
        rw [hm']
        simp only [Bool.false_eq_true, if_false]
        have : ¬ Lib.indexByte l c < 0 := by omega
        constructor
        · intro h; omega
        · intro hn; exfalso; exact this (ih.2 (fun hh => hn (.inr hh)))

/-- is there a nought in the text? -/
def hasNul (l : List UInt8) : Bool := decide ((0 : UInt8) ∈ l)
/-- the normal form of a value of a syntax, 1 to 4 -/
def normV (syn : Int) (v : List UInt8) : Option (List UInt8) :=
  if syn = 1 then (if (textS v).isEmpty || hasNul v then none else some (textS v))
  else if syn = 3 then (if (intS v).isSome then some v else none)
  else if syn = 4 then (if (PhS.parseP v).isSome then some v else none)
  else some v
def normalR (sy : Int) (v : List UInt8) : List UInt8 × Int :=
  if sy = 0 then ([], 5) else if sy = 5 then ([], 1) else if v.length < 1 ∨ 200 < v.length then ([], 2)
  else match normV sy v with
    | none => ([], 2)
    | some s => (s, 0)
def normal (name v : List UInt8) : List UInt8 × Int := normalR (typeOf name).2 v
end Go.Proofs.YtjjbkldlgjllnaaGreatDoor.RuS
