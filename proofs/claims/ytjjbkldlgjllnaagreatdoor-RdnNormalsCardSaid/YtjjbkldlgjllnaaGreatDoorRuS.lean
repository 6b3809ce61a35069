/- Plain laws of types and values: no program. Conditions: those that each theorem states. -/
import Derived.WalkKit
import Derived.Lib.Hide
import Derived.Lib.SplitLaws
import Derived.Lib.Join
namespace Go.Proofs.YtjjbkldlgjllnaaGreatDoor.RuS

def isCap (c : UInt8) : Bool := decide (65 ≤ c.toNat ∧ c.toNat ≤ 90)
/-- a great letter made small -/
def lowC (c : UInt8) : UInt8 := if isCap c then c + 32 else c
def lower (l : List UInt8) : List UInt8 := l.map lowC
theorem lower_length (l : List UInt8) : (lower l).length = l.length := by simp [lower]
theorem lowC_yes {c : UInt8} (h1 : 65 ≤ c.toNat) (h2 : c.toNat ≤ 90) : lowC c = c + 32 := by
  unfold lowC isCap; rw [if_pos (decide_eq_true ⟨h1, h2⟩)]
theorem lowC_no {c : UInt8} (h : ¬ (65 ≤ c.toNat ∧ c.toNat ≤ 90)) : lowC c = c := by
  unfold lowC isCap; rw [if_neg (by simpa using h)]
theorem lowC_toNat {c : UInt8} (h1 : 65 ≤ c.toNat) (h2 : c.toNat ≤ 90) : (lowC c).toNat = c.toNat + 32 := by
  rw [lowC_yes h1 h2, UInt8.toNat_add]
  show (c.toNat + 32) % 256 = _
  omega
theorem lowC_idem (c : UInt8) : lowC (lowC c) = lowC c := by
  by_cases h : 65 ≤ c.toNat ∧ c.toNat ≤ 90
  · have e := lowC_toNat h.1 h.2
    exact lowC_no (c := lowC c) (by omega)
  · rw [lowC_no h, lowC_no h]
theorem lower_idem (l : List UInt8) : lower (lower l) = lower l := by
  simp [lower, lowC_idem]
/-- k letters made small, the rest as it was -/
def half (l : List UInt8) (k : Nat) : List UInt8 := lower (l.take k) ++ l.drop k
theorem half_zero (l : List UInt8) : half l 0 = l := by simp [half, lower]
theorem half_all (l : List UInt8) {k : Nat} (h : l.length ≤ k) : half l k = lower l := by
  unfold half; rw [List.take_of_length_le h, List.drop_eq_nil_of_le h, List.append_nil]
theorem half_length (l : List UInt8) (k : Nat) : (half l k).length = l.length := by
  simp [half, lower]; omega
theorem half_at (l : List UInt8) (k : Nat) (h : k < l.length) : (half l k)[k]'(by rw [half_length]; exact h) = l[k] := by
  unfold half
  rw [List.getElem_append_right (by simp [lower]; omega)]
  simp [lower, Nat.min_eq_left (Nat.le_of_lt h)]
theorem half_succ (l : List UInt8) (k : Nat) (h : k < l.length) : half l (k + 1) = (half l k).set k (lowC l[k]) := by
  unfold half
  have e1 : (lower (l.take k)).length = k := by simp [lower]; omega
  rw [List.take_succ_eq_append_getElem h, List.set_append_right _ _ (by omega), e1, Nat.sub_self, List.drop_eq_getElem_cons h, List.set_cons_zero]
  unfold lower
  rw [List.map_append, List.append_assoc]
  rfl
theorem half_keep (l : List UInt8) (k : Nat) (h : k < l.length) (hc : lowC l[k] = l[k]) : half l (k + 1) = half l k := by
  rw [half_succ l k h, hc]
  conv => lhs; rw [← half_at l k h]
  exact List.set_getElem_self _

/-- the types of a syntax -/
def tabRow : Nat → List (List UInt8)
  | 1 => [[111, 98, 106, 101, 99, 116, 67, 108, 97, 115, 115], [99, 110], [111, 117], [111], [100, 99], [117, 105, 100], [100, 101, 115, 99, 114, 105, 112, 116, 105, 111, 110], [109, 97, 105, 108]]
  | 2 => [[117, 115, 101, 114, 80, 97, 115, 115, 119, 111, 114, 100], [114, 101, 102]]
  | 3 => [[115, 101, 114, 105, 97, 108, 78, 117, 109, 98, 101, 114]]
  | 4 => [[112, 111, 115, 105, 116, 105, 111, 110]]
  | 5 => [[97, 108, 105, 97, 115, 101, 100, 79, 98, 106, 101, 99, 116, 78, 97, 109, 101], [109, 101, 109, 98, 101, 114]]
  | _ => []
/-- small letters, the type, its syntax -/
def tab : List (List UInt8 × List UInt8 × Int) := [
  ([111, 98, 106, 101, 99, 116, 99, 108, 97, 115, 115], [111, 98, 106, 101, 99, 116, 67, 108, 97, 115, 115], 1),
  ([99, 110], [99, 110], 1),
  ([111, 117], [111, 117], 1),
  ([111], [111], 1),
  ([100, 99], [100, 99], 1),
  ([117, 105, 100], [117, 105, 100], 1),
  ([100, 101, 115, 99, 114, 105, 112, 116, 105, 111, 110], [100, 101, 115, 99, 114, 105, 112, 116, 105, 111, 110], 1),
  ([109, 97, 105, 108], [109, 97, 105, 108], 1),
  ([117, 115, 101, 114, 112, 97, 115, 115, 119, 111, 114, 100], [117, 115, 101, 114, 80, 97, 115, 115, 119, 111, 114, 100], 2),
  ([114, 101, 102], [114, 101, 102], 2),
  ([115, 101, 114, 105, 97, 108, 110, 117, 109, 98, 101, 114], [115, 101, 114, 105, 97, 108, 78, 117, 109, 98, 101, 114], 3),
  ([112, 111, 115, 105, 116, 105, 111, 110], [112, 111, 115, 105, 116, 105, 111, 110], 4),
  ([97, 108, 105, 97, 115, 101, 100, 111, 98, 106, 101, 99, 116, 110, 97, 109, 101], [97, 108, 105, 97, 115, 101, 100, 79, 98, 106, 101, 99, 116, 78, 97, 109, 101], 5),
  ([109, 101, 109, 98, 101, 114], [109, 101, 109, 98, 101, 114], 5)]
/-- the type of a name in small letters -/
def typeM (m : List UInt8) : List UInt8 × Int := match tab.find? (fun r => m == r.1) with
  | some r => r.2
  | none => ([], 0)
def typeOf (l : List UInt8) : List UInt8 × Int := typeM (lower l)
theorem rows_hit : ∀ k : Fin 6, ∀ t ∈ tabRow k.val, typeM (lower t) = (t, (k.val : Int)) := by decide +kernel
theorem typeM_hit {k : Nat} {t m : List UInt8} (hk : k < 6) (ht : t ∈ tabRow k) (h : lower t = m) : typeM m = (t, (k : Int)) := by
  rw [← h]; exact rows_hit ⟨k, hk⟩ t ht
theorem tab_in : ∀ r ∈ tab, ∃ k : Fin 6, ∃ t ∈ tabRow k.val, lower t = r.1 := by decide +kernel
theorem typeM_none {m : List UInt8} (h : ∀ k, k < 6 → ∀ t ∈ tabRow k, ¬ lower t = m) : typeM m = ([], 0) := by
  unfold typeM
  have : tab.find? (fun r => m == r.1) = none := by
    rw [List.find?_eq_none]
    intro r hr he
    obtain ⟨k, t, ht, hl⟩ := tab_in r hr
    exact h k.val k.isLt t ht (by rw [hl]; exact (beq_iff_eq.1 he).symm)
  rw [this]
theorem typeOf_lower (l : List UInt8) : typeOf (lower l) = typeOf l := by unfold typeOf; rw [lower_idem]
theorem tab_all : ∀ r ∈ tab, 0 ≤ r.2.2 ∧ r.2.2 ≤ 5 ∧ r.2.1.length ≤ 17 ∧ 1 ≤ r.2.2 ∧ 1 ≤ r.2.1.length := by decide +kernel
theorem typeM_all (m : List UInt8) : (typeM m = ([], 0)) ∨ (1 ≤ (typeM m).2 ∧ (typeM m).2 ≤ 5 ∧ 1 ≤ (typeM m).1.length ∧ (typeM m).1.length ≤ 17) := by
  unfold typeM
  cases h : tab.find? (fun r => m == r.1) with
  | none => exact .inl rfl
  | some r =>
    have := tab_all r (List.mem_of_find?_eq_some h)
    exact .inr ⟨this.2.2.2.1, this.2.1, this.2.2.2.2, this.2.2.1⟩

/-! texts cut at a byte -/
def pieces (c : UInt8) : List UInt8 → List (List UInt8)
  | [] => [[]]
  | b :: l => if b = c then [] :: pieces c l else match pieces c l with
    | p :: ps => (b :: p) :: ps
    | [] => [[b]]
theorem pieces_ne (c : UInt8) (l : List UInt8) : ∃ p ps, pieces c l = p :: ps := by
  cases l with
  | nil => exact ⟨_, _, rfl⟩
  | cons b l =>
    unfold pieces
    by_cases h : b = c
    · rw [if_pos h]; exact ⟨_, _, rfl⟩
    · rw [if_neg h]
      cases pieces c l with
      | nil => exact ⟨_, _, rfl⟩
      | cons p ps => exact ⟨_, _, rfl⟩
theorem index_cons_eq (c : UInt8) (l : List UInt8) : Lib.index (c :: l) [c] = 0 := by
  rw [Lib.index]; simp [List.isPrefixOf]
theorem index_cons_ne {b c : UInt8} (h : b ≠ c) (l : List UInt8) : Lib.index (b :: l) [c] = if Lib.index l [c] == -1 then -1 else Lib.index l [c] + 1 := by
  rw [Lib.index]
  have hp : ([c] : List UInt8).isPrefixOf (b :: l) = false := by simp [List.isPrefixOf, Ne.symm h]
  rw [hp]; simp
theorem split_pieces (c : UInt8) : ∀ l : List UInt8, Lib.split l [c] = pieces c l
  | [] => by
    unfold Lib.split
    rw [Lib.count_miss (by simp [Lib.index])]; rfl
  | b :: l => by
    have ih := split_pieces c l
    unfold Lib.split at ih ⊢
    by_cases h : b = c
    · subst h
      rw [Lib.count_cons_eq, Nat.add_comm, Lib.splitK, index_cons_eq, if_neg (by decide)]
      simp only [pieces, if_pos]
      rw [← ih]; rfl
    · rw [Lib.count_cons_ne b c l h]
      simp only [pieces, if_neg h]
      rw [← ih]
      have hix := index_cons_ne h l
      by_cases hm : Lib.index l [c] = -1
      · rw [Lib.count_miss hm]; rfl
      · have hge := Lib.index_ge l [c]
        obtain ⟨j, hj⟩ : ∃ j : Nat, Lib.index l [c] = j := ⟨(Lib.index l [c]).toNat, by omega⟩
        rw [Lib.count_hit (by simp) hj, Nat.add_comm, Lib.splitK, Lib.splitK, hix]
        have hm' : (Lib.index l [c] == -1) = false := by simpa using hm
        rw [hm']
        simp only [Bool.false_eq_true, if_false, hj]
        have h2 : ¬ ((((j : Nat) : Int) + 1 == -1) = true) := by simp; omega
        rw [if_neg h2]
        have e1 : (((j : Nat) : Int) + 1).toNat = j + 1 := by omega
        rw [e1]
        simp
theorem pieces_snoc_sep (c : UInt8) : ∀ l : List UInt8, pieces c (l ++ [c]) = pieces c l ++ [[]]
  | [] => by simp [pieces]
  | b :: l => by
    have ih := pieces_snoc_sep c l
    rw [List.cons_append]
    unfold pieces
    by_cases h : b = c
    · rw [if_pos h, if_pos h, ih]; rfl
    · rw [if_neg h, if_neg h, ih]
      obtain ⟨p, ps, hp⟩ := pieces_ne c l
      rw [hp]; rfl
theorem pieces_snoc_other (c : UInt8) {d : UInt8} (hd : d ≠ c) : ∀ l : List UInt8, ∃ X q, pieces c l = X ++ [q] ∧ pieces c (l ++ [d]) = X ++ [q ++ [d]] ∧ (∀ x ∈ q, x ≠ c) ∧ (q = [] → l = [] ∨ l.getLast? = some c) ∧ (l.getLast? = some c → q = [])
  | [] => ⟨[], [], rfl, by simp [pieces, hd], by simp, fun _ => .inl rfl, fun _ => rfl⟩
  | b :: l => by
    obtain ⟨X, q, h1, h2, h3, h4, h5⟩ := pieces_snoc_other c hd l
    by_cases h : b = c
    · refine ⟨[] :: X, q, ?_, ?_, h3, ?_, ?_⟩
      · simp only [pieces, if_pos h, h1]; rfl
      · rw [List.cons_append]; simp only [pieces, if_pos h, h2]; rfl
      · intro hq
        rcases h4 hq with h | h'
        · subst h; right; rw [h]; rfl
        · right
          cases l with
          | nil => cases h'
          | cons a l => rw [List.getLast?_cons_cons]; exact h'
      · intro hl
        cases l with
        | nil => cases X with
          | nil => simp [pieces] at h1; first | exact h1 | exact h1.symm
          | cons x X => simp [pieces] at h1
        | cons a l => rw [List.getLast?_cons_cons] at hl; exact h5 hl
    · cases X with
      | nil =>
        refine ⟨[], b :: q, ?_, ?_, ?_, ?_, ?_⟩
        · simp only [pieces, if_neg h, h1]; rfl
        · rw [List.cons_append]; simp only [pieces, if_neg h, h2]; rfl
        · intro x hx
          rcases List.mem_cons.1 hx with rfl | hx
          · exact h
          · exact h3 x hx
        · intro hq; cases hq
        · intro hl
          cases l with
          | nil => rw [List.getLast?_singleton] at hl; exact absurd (Option.some.inj hl) h
          | cons a l =>
            rw [List.getLast?_cons_cons] at hl
            have hm : c ∈ a :: l := List.mem_of_getLast? hl
            have hn : ∀ (l : List UInt8) (q : List UInt8), pieces c l = [q] → (∀ x ∈ l, x ≠ c) := by
              intro l
              induction l with
              | nil => intro q _ x hx; cases hx
              | cons y l ih =>
                intro q hq x hx
                unfold pieces at hq
                by_cases hy : y = c
                · rw [if_pos hy] at hq
                  obtain ⟨p, ps, hp⟩ := pieces_ne c l
                  rw [hp] at hq; simp at hq
                · rw [if_neg hy] at hq
                  obtain ⟨p, ps, hp⟩ := pieces_ne c l
                  rw [hp] at hq
                  simp only [List.cons.injEq] at hq
                  rcases List.mem_cons.1 hx with rfl | hx
                  · exact hy
                  · exact ih p (by rw [hp, hq.2]) x hx
            exact absurd rfl (hn _ _ h1 c hm)
      | cons x X =>
        refine ⟨(b :: x) :: X, q, ?_, ?_, h3, ?_, ?_⟩
        · simp only [pieces, if_neg h, h1]; rfl
        · rw [List.cons_append]; simp only [pieces, if_neg h, h2]; rfl
        · intro hq
          rcases h4 hq with h' | h'
          · subst h'; simp [pieces] at h1
          · right
            cases l with
            | nil => cases h'
            | cons a l => rw [List.getLast?_cons_cons]; exact h'
        · intro hl
          cases l with
          | nil => simp [pieces] at h1
          | cons a l => rw [List.getLast?_cons_cons] at hl; exact h5 hl

/-- the pieces between blanks -/
def wordsL (l : List UInt8) : List (List UInt8) := (pieces 32 l).filter (fun p => !p.isEmpty)
def textS (l : List UInt8) : List UInt8 := Lib.join (wordsL (lower l)) [32]
/-- a blank came last, behind something -/
def gapB (l : List UInt8) : Bool := l.getLast? == some 32
theorem wordsL_blank (l : List UInt8) : wordsL (l ++ [32]) = wordsL l := by
  unfold wordsL; rw [pieces_snoc_sep, List.filter_append]; simp
theorem join_snoc_new (X : List (List UInt8)) (y : List UInt8) : Lib.join (X ++ [y]) [32] = if X.isEmpty then y else Lib.join X [32] ++ [32] ++ y := by
  cases X with
  | nil => simp [Lib.join_one]
  | cons x X =>
    simp only [List.isEmpty_cons, Bool.false_eq_true, if_false]
    unfold Lib.join List.intercalate
    induction X generalizing x with
    | nil => simp [List.intersperse]
    | cons z Z ih =>
      have := ih z
      simp only [List.cons_append, List.intersperse_cons_cons, List.flatten_cons, List.append_assoc] at this ⊢
      rw [this]
theorem join_snoc_more (X : List (List UInt8)) (q : List UInt8) (d : UInt8) : Lib.join (X ++ [q ++ [d]]) [32] = Lib.join (X ++ [q]) [32] ++ [d] := by
  rw [join_snoc_new, join_snoc_new]
  split <;> simp
theorem wordsL_letter (l : List UInt8) {d : UInt8} (hd : d ≠ 32) : Lib.join (wordsL (l ++ [d])) [32] = Lib.join (wordsL l) [32] ++ (if (gapB l && !(Lib.join (wordsL l) [32]).isEmpty) = true then [32] else []) ++ [d] := by
  obtain ⟨X, q, h1, h2, h3, h4, h5⟩ := pieces_snoc_other 32 hd l
  unfold wordsL
  rw [h1, h2, List.filter_append, List.filter_append]
  have e1 : [q ++ [d]].filter (fun p => !p.isEmpty) = [q ++ [d]] := by simp
  rw [e1]
  by_cases hq : q = []
  · subst hq
    have e2 : ([[]] : List (List UInt8)).filter (fun p => !p.isEmpty) = [] := rfl
    rw [e2, List.append_nil, List.nil_append, join_snoc_new]
    generalize hY : X.filter (fun p => !p.isEmpty) = Y
    have hYn : ∀ y ∈ Y, y ≠ [] := by intro y hy; rw [← hY] at hy; have := (List.mem_filter.1 hy).2; intro e; subst e; simp at this
    cases Y with
    | nil => simp [Lib.join_nil]
    | cons y Y =>
      have hne : (Lib.join (y :: Y) [32]).isEmpty = false := by
        have hy := hYn y (List.mem_cons_self)
        cases y with
        | nil => exact absurd rfl hy
        | cons a y =>
          cases Y with
          | nil => rw [Lib.join_one]; rfl
          | cons z Z => unfold Lib.join List.intercalate; simp
      have hg : gapB l = true := by
        rcases h4 rfl with h | h
        · subst h
          cases X with
          | nil => simp at hY
          | cons x X => simp [pieces] at h1
        · unfold gapB; rw [h]; rfl
      rw [hg, hne]
      simp
  · have e2 : [q].filter (fun p => !p.isEmpty) = [q] := by cases q with
      | nil => exact absurd rfl hq
      | cons a q => rfl
    rw [e2, join_snoc_more]
    have hg : gapB l = false := by
      unfold gapB
      cases hh : (l.getLast? == some 32) with
      | false => rfl
      | true => exact absurd (h5 (beq_iff_eq.1 hh)) hq
    rw [hg]; simp
end Go.Proofs.YtjjbkldlgjllnaaGreatDoor.RuS
