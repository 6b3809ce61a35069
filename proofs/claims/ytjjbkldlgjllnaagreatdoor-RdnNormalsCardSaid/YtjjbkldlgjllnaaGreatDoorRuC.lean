/- Plain laws of the comparison of values: no program. Conditions: those that each theorem states. -/
import Derived.Test.YtjjbkldlgjllnaaGreatDoorRuN
import Derived.Lib.Replace
import Derived.Lib.Bytealg
import GoSem.Op.String
namespace Go.Proofs.YtjjbkldlgjllnaaGreatDoor.RuS
open Go.Lib

theorem u8_lt {a b : UInt8} : a < b ↔ a.toNat < b.toNat := UInt8.lt_iff_toNat_lt
theorem compare_self : ∀ l : List UInt8, compareBytes l l = 0
  | [] => rfl
  | a :: l => by
    unfold compareBytes
    rw [if_neg (by rw [u8_lt]; omega), if_neg (by rw [u8_lt]; omega)]
    exact compare_self l
theorem compare_swap : ∀ x y : List UInt8, compareBytes y x = -compareBytes x y
  | [], [] => rfl
  | [], _ :: _ => rfl
  | _ :: _, [] => rfl
  | a :: x, b :: y => by
    have ih := compare_swap x y
    unfold compareBytes
    by_cases h1 : a < b
    · have : ¬ b < a := by rw [u8_lt] at h1 ⊢; omega
      rw [if_neg this, if_pos h1, if_pos h1]; rfl
    · by_cases h2 : b < a
      · rw [if_pos h2, if_neg h1, if_pos h2]
      · rw [if_neg h2, if_neg h1, if_neg h1, if_neg h2]; exact ih
theorem compare_zero : ∀ x y : List UInt8, compareBytes x y = 0 ↔ x = y
  | [], [] => by simp [compareBytes]
  | [], _ :: _ => by simp [compareBytes]
  | _ :: _, [] => by simp [compareBytes]
  | a :: x, b :: y => by
    have ih := compare_zero x y
    unfold compareBytes
    by_cases h1 : a < b
    · rw [if_pos h1]
      have : a ≠ b := by intro e; subst e; rw [u8_lt] at h1; omega
      simp [this]
    · by_cases h2 : b < a
      · rw [if_neg h1, if_pos h2]
        have : a ≠ b := by intro e; subst e; rw [u8_lt] at h2; omega
        simp [this]
      · rw [if_neg h1, if_neg h2, ih]
        have : a = b := by apply UInt8.toNat_inj.1; rw [u8_lt] at h1 h2; omega
        simp [this]
theorem compare_range : ∀ x y : List UInt8, -1 ≤ compareBytes x y ∧ compareBytes x y ≤ 1
  | [], [] => by simp [compareBytes]
  | [], _ :: _ => by simp [compareBytes]
  | _ :: _, [] => by simp [compareBytes]
  | a :: x, b :: y => by
    have ih := compare_range x y
    unfold compareBytes
    split
    · omega
    · split <;> omega
theorem less_iff : ∀ x y : List UInt8, Op.bytesLess x y = decide (compareBytes x y = -1)
  | [], [] => by simp [compareBytes, Op.bytesLess]
  | [], _ :: _ => by simp [compareBytes, Op.bytesLess]
  | _ :: _, [] => by simp [compareBytes, Op.bytesLess]
  | a :: x, b :: y => by
    have ih := less_iff x y
    unfold compareBytes Op.bytesLess
    by_cases h1 : a < b
    · rw [if_pos h1]; simp [h1]
    · rw [if_neg h1]
      by_cases h2 : b < a
      · rw [if_pos h2]
        have : a ≠ b := by intro e; subst e; rw [u8_lt] at h2; omega
        simp [h1, this]
      · rw [if_neg h2, ih]
        have : a = b := by apply UInt8.toNat_inj.1; rw [u8_lt] at h1 h2; omega
        subst this
        simp
theorem eq_iff (x y : List UInt8) : (x == y) = decide (compareBytes x y = 0) := by
  rw [Bool.eq_iff_iff, beq_iff_eq, decide_eq_true_eq, compare_zero]

/-- the blanks struck -/
def bareL (l : List UInt8) : List UInt8 := l.filter (fun c => c != 32)
theorem replaceK_filter (c : UInt8) : ∀ l : List UInt8, replaceK [c] [] (count l [c]) l = l.filter (fun b => b != c)
  | [] => by rw [count_miss (by simp [index])]; rfl
  | b :: l => by
    have ih := replaceK_filter c l
    by_cases h : b = c
    · subst h
      rw [count_cons_eq, Nat.add_comm, replaceK_hit _ _ _ _ 0 (index_cons_eq b l)]
      simp
      exact ih
    · rw [count_cons_ne b c l h]
      have hb : (b != c) = true := by simpa using h
      rw [List.filter_cons, if_pos hb]
      by_cases hm : index l [c] = -1
      · rw [count_miss hm] at ih ⊢
        rw [← ih]; rfl
      · have hge := index_ge l [c]
        obtain ⟨j, hj⟩ : ∃ j : Nat, index l [c] = j := ⟨(index l [c]).toNat, by omega⟩
        have hj2 : index (b :: l) [c] = ((j + 1 : Nat) : Int) := by
          rw [index_cons_ne h l, hj]
          have : ¬ (((j : Nat) : Int) == -1) = true := fun h => by have := beq_iff_eq.1 h; omega
          rw [if_neg this]; omega
        rw [count_hit (by simp) hj, Nat.add_comm] at ih ⊢
        rw [replaceK_hit _ _ _ _ j hj] at ih
        rw [replaceK_hit _ _ _ _ (j + 1) hj2, ← ih]
        simp
theorem replaceAll_bare (l : List UInt8) : replaceAll l [32] [] = bareL l := by
  unfold replaceAll replace replaceNum
  rw [if_neg (by decide), if_pos (.inl (by decide))]
  exact replaceK_filter 32 l

/-! a normal text is its own -/
theorem pieces_plain (c : UInt8) : ∀ w : List UInt8, (∀ x ∈ w, x ≠ c) → pieces c w = [w]
  | [], _ => rfl
  | b :: w, h => by
    have ih := pieces_plain c w (fun x hx => h x (List.mem_cons_of_mem _ hx))
    unfold pieces
    rw [if_neg (h b List.mem_cons_self), ih]
theorem pieces_sep (c : UInt8) (r : List UInt8) : ∀ w : List UInt8, (∀ x ∈ w, x ≠ c) → pieces c (w ++ c :: r) = w :: pieces c r
  | [], _ => by simp [pieces]
  | b :: w, h => by
    have ih := pieces_sep c r w (fun x hx => h x (List.mem_cons_of_mem _ hx))
    rw [List.cons_append]
    have e : pieces c (b :: (w ++ c :: r)) = if b = c then [] :: pieces c (w ++ c :: r) else match pieces c (w ++ c :: r) with
      | p :: ps => (b :: p) :: ps
      | [] => [[b]] := rfl
    rw [e, if_neg (h b List.mem_cons_self), ih]
theorem pieces_no_sep (c : UInt8) : ∀ (l : List UInt8), ∀ p ∈ pieces c l, ∀ x ∈ p, x ≠ c
  | [], p, hp => by simp [pieces] at hp; subst hp; simp
  | b :: l, p, hp => by
    have ih := pieces_no_sep c l
    unfold pieces at hp
    by_cases h : b = c
    · rw [if_pos h] at hp
      rcases List.mem_cons.1 hp with rfl | hp
      · simp
      · exact ih p hp
    · rw [if_neg h] at hp
      obtain ⟨q, qs, hq⟩ := pieces_ne c l
      rw [hq] at hp ih
      simp only at hp
      rcases List.mem_cons.1 hp with rfl | hp
      · intro x hx
        rcases List.mem_cons.1 hx with rfl | hx
        · exact h
        · exact ih q List.mem_cons_self x hx
      · exact ih p (List.mem_cons_of_mem _ hp)
theorem join_cons_cons (x y : List UInt8) (r : List (List UInt8)) (s : List UInt8) : Lib.join (x :: y :: r) s = x ++ s ++ Lib.join (y :: r) s := by
  unfold Lib.join List.intercalate; simp
theorem pieces_join : ∀ ws : List (List UInt8), ws ≠ [] → (∀ w ∈ ws, ∀ x ∈ w, x ≠ 32) → pieces 32 (Lib.join ws [32]) = ws
  | [], h, _ => absurd rfl h
  | [w], _, h => by rw [Lib.join_one]; exact pieces_plain 32 w (h w List.mem_cons_self)
  | w :: v :: r, _, h => by
    have ih := pieces_join (v :: r) (by simp) (fun x hx => h x (List.mem_cons_of_mem _ hx))
    rw [join_cons_cons, List.append_assoc, List.singleton_append, pieces_sep 32 _ w (h w List.mem_cons_self), ih]
theorem wordsL_join (l : List UInt8) : wordsL (Lib.join (wordsL l) [32]) = wordsL l := by
  by_cases h : wordsL l = []
  · rw [h]; rfl
  · have h1 : ∀ w ∈ wordsL l, ∀ x ∈ w, x ≠ 32 := fun w hw => pieces_no_sep 32 l w ((List.mem_filter.1 hw).1)
    have h2 := pieces_join (wordsL l) h h1
    have h3 : wordsL (Lib.join (wordsL l) [32]) = (pieces 32 (Lib.join (wordsL l) [32])).filter (fun p => !p.isEmpty) := rfl
    rw [h3, h2]
    unfold wordsL
    rw [List.filter_filter]
    simp
theorem lower_fix {l : List UInt8} (h : ∀ c ∈ l, lowC c = c) : lower l = l := by
  unfold lower
  exact (List.map_congr_left h).trans (List.map_id l)
theorem textS_fix (l : List UInt8) : ∀ c ∈ textS l, lowC c = c := by
  intro c hc
  by_cases h : c = 32
  · subst h; decide
  · unfold textS at hc
    rw [joinW_mem c h] at hc
    unfold lower at hc
    obtain ⟨d, _, rfl⟩ := List.mem_map.1 hc
    exact lowC_idem d
theorem textS_idem (l : List UInt8) : textS (textS l) = textS l := by
  have h : textS (textS l) = Lib.join (wordsL (lower (textS l))) [32] := rfl
  rw [h, lower_fix (textS_fix l)]
  unfold textS
  rw [wordsL_join]

/-- what is normal -/
theorem normal_ok {nm v s : List UInt8} (h : normal nm v = (s, 0)) : ((typeOf nm).2 = 1 ∨ (typeOf nm).2 = 2 ∨ (typeOf nm).2 = 3 ∨ (typeOf nm).2 = 4) ∧ 1 ≤ v.length ∧ v.length ≤ 200 ∧ normV (typeOf nm).2 v = some s := by
  have hall := typeM_all (lower nm)
  have hall' : typeOf nm = ([], 0) ∨ (1 ≤ (typeOf nm).2 ∧ (typeOf nm).2 ≤ 5 ∧ 1 ≤ (typeOf nm).1.length ∧ (typeOf nm).1.length ≤ 17) := hall
  unfold normal normalR at h
  by_cases h0 : (typeOf nm).2 = 0
  · rw [if_pos h0] at h; injection h with _ h; cases h
  · rw [if_neg h0] at h
    by_cases h5 : (typeOf nm).2 = 5
    · rw [if_pos h5] at h; injection h with _ h; cases h
    · rw [if_neg h5] at h
      by_cases hl : v.length < 1 ∨ 200 < v.length
      · rw [if_pos hl] at h; injection h with _ h; cases h
      · rw [if_neg hl] at h
        cases hv : normV (typeOf nm).2 v with
        | none => rw [hv] at h; injection h with _ h; cases h
        | some x =>
          rw [hv] at h
          injection h with h _
          subst h
          refine ⟨?_, by omega, by omega, rfl⟩
          rcases hall' with h | h
          · rw [h] at h0; exact absurd rfl h0
          · omega
theorem normal_of {nm v s : List UInt8} (h : (typeOf nm).2 = 1 ∨ (typeOf nm).2 = 2 ∨ (typeOf nm).2 = 3 ∨ (typeOf nm).2 = 4) (h1 : 1 ≤ v.length) (h2 : v.length ≤ 200) (h3 : normV (typeOf nm).2 v = some s) : normal nm v = (s, 0) := by
  unfold normal normalR
  rw [if_neg (by omega), if_neg (by omega), if_neg (by omega), h3]
theorem normV_same {sy : Int} {v s : List UInt8} (h1 : sy ≠ 1) (h : normV sy v = some s) : s = v := by
  unfold normV at h
  rw [if_neg h1] at h
  by_cases h3 : sy = 3
  · rw [if_pos h3] at h; split at h
    · exact (Option.some.inj h).symm
    · cases h
  · rw [if_neg h3] at h
    by_cases h4 : sy = 4
    · rw [if_pos h4] at h; split at h
      · exact (Option.some.inj h).symm
      · cases h
    · rw [if_neg h4] at h; exact (Option.some.inj h).symm
theorem normV1_some {v s : List UInt8} (h : normV 1 v = some s) : s = textS v ∧ (textS v).isEmpty = false ∧ hasNul v = false := by
  have h : (if (textS v).isEmpty || hasNul v then none else some (textS v)) = some s := h
  cases h1 : (textS v).isEmpty with
  | true => rw [h1] at h; cases h
  | false =>
    cases h2 : hasNul v with
    | true => rw [h1, h2] at h; cases h
    | false => rw [h1, h2] at h; exact ⟨(Option.some.inj h).symm, rfl, rfl⟩
theorem normal_idem {nm v s : List UInt8} (h : normal nm v = (s, 0)) : normal nm s = (s, 0) := by
  obtain ⟨h1, h2, h3, h4⟩ := normal_ok h
  by_cases e : (typeOf nm).2 = 1
  · rw [e] at h4
    obtain ⟨rfl, g1, g2⟩ := normV1_some h4
    have hle := textS_le v
    have hpos : 1 ≤ (textS v).length := by
      cases hq : textS v with
      | nil => rw [hq] at g1; cases g1
      | cons a b => simp
    refine normal_of h1 hpos (by omega) ?_
    rw [e]
    show (if (textS (textS v)).isEmpty || hasNul (textS v) then none else some (textS (textS v))) = _
    have hz : hasNul (textS v) = false := by
      unfold hasNul at g2 ⊢
      rw [decide_eq_false_iff_not] at g2 ⊢
      rw [textS_zero]; exact g2
    rw [textS_idem, g1, hz]; rfl
  · have := normV_same e h4
    subst this
    exact h
theorem normal_fail {nm v : List UInt8} (h : (normal nm v).2 ≠ 0) : (normal nm v).1 = [] := by
  unfold normal normalR at h ⊢
  split
  · rfl
  · split
    · rfl
    · split
      · rfl
      · rename_i a b c
        rw [if_neg a, if_neg b, if_neg c] at h
        split
        · rfl
        · rename_i x hx; rw [hx] at h; exact absurd rfl h
theorem normal_len (nm v : List UInt8) : (normal nm v).1.length ≤ 200 := by
  by_cases h : (normal nm v).2 = 0
  · have h' : normal nm v = ((normal nm v).1, 0) := by rw [← h]
    obtain ⟨h1, h2, h3, h4⟩ := normal_ok h'
    by_cases e : (typeOf nm).2 = 1
    · rw [e] at h4
      obtain ⟨e2, _, _⟩ := normV1_some h4
      rw [e2]
      have := textS_le v
      omega
    · rw [normV_same e h4]; exact h3
  · rw [normal_fail h]; simp
end Go.Proofs.YtjjbkldlgjllnaaGreatDoor.RuS
