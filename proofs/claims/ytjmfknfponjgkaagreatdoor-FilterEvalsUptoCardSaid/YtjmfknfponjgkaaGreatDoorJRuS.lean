/- Plain laws of types and values: no program. Conditions: as stated. -/
import Derived.WalkKit
import Derived.Lib.Hide
import Derived.Lib.SplitLaws
import Derived.Lib.Join
import Derived.Lib.Strings
import Derived.Lib.Replace
import Derived.Lib.Bytealg
import GoSem.Op.String
import Derived.Sort.Walk0
import Derived.Test.YtjmfknfponjgkaaGreatDoorJPhS
namespace Go.Proofs.YtjmfknfponjgkaaGreatDoor.RuS
def isCap (c : UInt8) : Bool := decide (65 <= c.toNat /\ c.toNat <= 90)
def lowC (c : UInt8) : UInt8 := if isCap c then c + 32 else c
def lower (l : List UInt8) : List UInt8 := l.map lowC
theorem lower_length (l : List UInt8) : (lower l).length = l.length := by simp [lower]
theorem lowC_yes {c : UInt8} (h1 : 65 <= c.toNat) (h2 : c.toNat <= 90) : lowC c = c + 32 := by
 unfold lowC isCap; rw [if_pos (decide_eq_true ⟨h1, h2⟩)]
theorem lowC_no {c : UInt8} (h : ¬ (65 <= c.toNat /\ c.toNat <= 90)) : lowC c = c := by
 unfold lowC isCap; rw [if_neg (by simpa using h)]
theorem lowC_toNat {c : UInt8} (h1 : 65 <= c.toNat) (h2 : c.toNat <= 90) : (lowC c).toNat = c.toNat + 32 := by
 rw [lowC_yes h1 h2, UInt8.toNat_add]
 show (c.toNat + 32) % 256 = _
 omega
theorem lowC_idem (c : UInt8) : lowC (lowC c) = lowC c := by
 by_cases h : 65 <= c.toNat /\ c.toNat <= 90
 · have e := lowC_toNat h.1 h.2
   exact lowC_no (c := lowC c) (by omega)
 · rw [lowC_no h, lowC_no h]
def half (l : List UInt8) (k : Nat) : List UInt8 := lower (l.take k) ++ l.drop k
theorem half_zero (l : List UInt8) : half l 0 = l := by simp [half, lower]
theorem half_all (l : List UInt8) {k : Nat} (h : l.length <= k) : half l k = lower l := by
 unfold half; rw [List.take_of_length_le h, List.drop_eq_nil_of_le h, List.append_nil]
theorem half_length (l : List UInt8) (k : Nat) : (half l k).length = l.length := by
 simp [half, lower]; omega
theorem half_at (l : List UInt8) (k : Nat) (h : k < l.length) : (half l k)[k]'(by rw [half_length]; exact h) = l[k] := by
 unfold half
 rw [List.getElem_append_right (by simp [lower]; omega)]
 simp [lower, Nat.min_eq_left (Nat.le_of_lt h)]
theorem half_succ (l : List UInt8) (k : Nat) (h : k < l.length) : half l (k + 1) = (half l k).set k (lowC l[k]) := by
 unfold half
 have e1 : (lower (l.take k)).length = k := by simp [lower]; omega
 rw [List.take_succ_eq_append_getElem h, List.set_append_right _ _ (by omega), e1, Nat.sub_self, List.drop_eq_getElem_cons h, List.set_cons_zero]
 unfold lower
 rw [List.map_append, List.append_assoc]
 rfl
theorem half_keep (l : List UInt8) (k : Nat) (h : k < l.length) (hc : lowC l[k] = l[k]) : half l (k + 1) = half l k := by
 rw [half_succ l k h, hc]
 conv => lhs; rw [<- half_at l k h]
 exact List.set_getElem_self _
def tabRow : Nat -> List (List UInt8)
 | 1 => [[111, 98, 106, 101, 99, 116, 67, 108, 97, 115, 115], [99, 110], [111, 117], [111], [100, 99], [117, 105, 100], [100, 101, 115, 99, 114, 105, 112, 116, 105, 111, 110], [109, 97, 105, 108]]
 | 2 => [[117, 115, 101, 114, 80, 97, 115, 115, 119, 111, 114, 100], [114, 101, 102]]
 | 3 => [[115, 101, 114, 105, 97, 108, 78, 117, 109, 98, 101, 114]]
 | 4 => [[112, 111, 115, 105, 116, 105, 111, 110]]
 | 5 => [[97, 108, 105, 97, 115, 101, 100, 79, 98, 106, 101, 99, 116, 78, 97, 109, 101], [109, 101, 109, 98, 101, 114]]
 | _ => []
def tab : List (List UInt8 × List UInt8 × Int) := [
 ([111, 98, 106, 101, 99, 116, 99, 108, 97, 115, 115], [111, 98, 106, 101, 99, 116, 67, 108, 97, 115, 115], 1),
 ([99, 110], [99, 110], 1),
 ([111, 117], [111, 117], 1),
 ([111], [111], 1),
 ([100, 99], [100, 99], 1),
 ([117, 105, 100], [117, 105, 100], 1),
 ([100, 101, 115, 99, 114, 105, 112, 116, 105, 111, 110], [100, 101, 115, 99, 114, 105, 112, 116, 105, 111, 110], 1),
 ([109, 97, 105, 108], [109, 97, 105, 108], 1),
 ([117, 115, 101, 114, 112, 97, 115, 115, 119, 111, 114, 100], [117, 115, 101, 114, 80, 97, 115, 115, 119, 111, 114, 100], 2),
 ([114, 101, 102], [114, 101, 102], 2),
 ([115, 101, 114, 105, 97, 108, 110, 117, 109, 98, 101, 114], [115, 101, 114, 105, 97, 108, 78, 117, 109, 98, 101, 114], 3),
 ([112, 111, 115, 105, 116, 105, 111, 110], [112, 111, 115, 105, 116, 105, 111, 110], 4),
 ([97, 108, 105, 97, 115, 101, 100, 111, 98, 106, 101, 99, 116, 110, 97, 109, 101], [97, 108, 105, 97, 115, 101, 100, 79, 98, 106, 101, 99, 116, 78, 97, 109, 101], 5),
 ([109, 101, 109, 98, 101, 114], [109, 101, 109, 98, 101, 114], 5)]
def typeM (m : List UInt8) : List UInt8 × Int := match tab.find? (fun r => m == r.1) with
 | some r => r.2
 | none => ([], 0)
def typeOf (l : List UInt8) : List UInt8 × Int := typeM (lower l)
theorem rows_hit : ∀ k : Fin 6, ∀ t ∈ tabRow k.val, typeM (lower t) = (t, (k.val : Int)) := by decide +kernel
theorem typeM_hit {k : Nat} {t m : List UInt8} (hk : k < 6) (ht : t ∈ tabRow k) (h : lower t = m) : typeM m = (t, (k : Int)) := by
 rw [<- h]; exact rows_hit ⟨k, hk⟩ t ht
theorem tab_in : ∀ r ∈ tab, ∃ k : Fin 6, ∃ t ∈ tabRow k.val, lower t = r.1 := by decide +kernel
theorem typeM_none {m : List UInt8} (h : ∀ k, k < 6 -> ∀ t ∈ tabRow k, ¬ lower t = m) : typeM m = ([], 0) := by
 unfold typeM
 have : tab.find? (fun r => m == r.1) = none := by
  rw [List.find?_eq_none]
  intro r hr he
  obtain ⟨k, t, ht, hl⟩ := tab_in r hr
  exact h k.val k.isLt t ht (by rw [hl]; exact (beq_iff_eq.1 he).symm)
 rw [this]
theorem tab_all : ∀ r ∈ tab, 0 <= r.2.2 /\ r.2.2 <= 5 /\ r.2.1.length <= 17 /\ 1 <= r.2.2 /\ 1 <= r.2.1.length := by decide +kernel
theorem typeM_all (m : List UInt8) : (typeM m = ([], 0)) \/ (1 <= (typeM m).2 /\ (typeM m).2 <= 5 /\ 1 <= (typeM m).1.length /\ (typeM m).1.length <= 17) := by
 unfold typeM
 cases h : tab.find? (fun r => m == r.1) with
 | none => exact .inl rfl
 | some r =>
  have := tab_all r (List.mem_of_find?_eq_some h)
  exact .inr ⟨this.2.2.2.1, this.2.1, this.2.2.2.2, this.2.2.1⟩
def pieces (c : UInt8) : List UInt8 -> List (List UInt8)
 | [] => [[]]
 | b :: l => if b = c then [] :: pieces c l else match pieces c l with
  | p :: ps => (b :: p) :: ps
  | [] => [[b]]
theorem pieces_ne (c : UInt8) (l : List UInt8) : ∃ p ps, pieces c l = p :: ps := by
 cases l with
 | nil => exact ⟨_, _, rfl⟩
 | cons b l =>
  unfold pieces
  by_cases h : b = c
  · rw [if_pos h]; exact ⟨_, _, rfl⟩
  · rw [if_neg h]
    cases pieces c l with
    | nil => exact ⟨_, _, rfl⟩
    | cons p ps => exact ⟨_, _, rfl⟩
theorem index_cons_eq (c : UInt8) (l : List UInt8) : Lib.index (c :: l) [c] = 0 := by
 rw [Lib.index]; simp [List.isPrefixOf]
theorem index_cons_ne {b c : UInt8} (h : b ≠ c) (l : List UInt8) : Lib.index (b :: l) [c] = if Lib.index l [c] == -1 then -1 else Lib.index l [c] + 1 := by
 rw [Lib.index]
 have hp : ([c] : List UInt8).isPrefixOf (b :: l) = false := by simp [List.isPrefixOf, Ne.symm h]
 rw [hp]; simp
theorem split_pieces (c : UInt8) : ∀ l : List UInt8, Lib.split l [c] = pieces c l
 | [] => by
  unfold Lib.split
  rw [Lib.count_miss (by simp [Lib.index])]; rfl
 | b :: l => by
  have ih := split_pieces c l
  unfold Lib.split at ih ⊢
  by_cases h : b = c
  · subst h
    rw [Lib.count_cons_eq, Nat.add_comm, Lib.splitK, index_cons_eq, if_neg (by decide)]
    simp only [pieces, if_pos]
    rw [<- ih]; rfl
  · rw [Lib.count_cons_ne b c l h]
    simp only [pieces, if_neg h]
    rw [<- ih]
    have hix := index_cons_ne h l
    by_cases hm : Lib.index l [c] = -1
    · rw [Lib.count_miss hm]; rfl
    · have hge := Lib.index_ge l [c]
      obtain ⟨j, hj⟩ : ∃ j : Nat, Lib.index l [c] = j := ⟨(Lib.index l [c]).toNat, by omega⟩
      rw [Lib.count_hit (by simp) hj, Nat.add_comm, Lib.splitK, Lib.splitK, hix]
      have hm' : (Lib.index l [c] == -1) = false := by simpa using hm
      rw [hm']
      simp only [Bool.false_eq_true, if_false, hj]
      have h2 : ¬ ((((j : Nat) : Int) + 1 == -1) = true) := by simp; omega
      rw [if_neg h2]
      have e1 : (((j : Nat) : Int) + 1).toNat = j + 1 := by omega
      rw [e1]
      simp
theorem pieces_snoc_sep (c : UInt8) : ∀ l : List UInt8, pieces c (l ++ [c]) = pieces c l ++ [[]]
 | [] => by simp [pieces]
 | b :: l => by
  have ih := pieces_snoc_sep c l
  rw [List.cons_append]
  unfold pieces
  by_cases h : b = c
  · rw [if_pos h, if_pos h, ih]; rfl
  · rw [if_neg h, if_neg h, ih]
    obtain ⟨p, ps, hp⟩ := pieces_ne c l
    rw [hp]; rfl
theorem pieces_snoc_other (c : UInt8) {d : UInt8} (hd : d ≠ c) : ∀ l : List UInt8, ∃ X q, pieces c l = X ++ [q] /\ pieces c (l ++ [d]) = X ++ [q ++ [d]] /\ (∀ x ∈ q, x ≠ c) /\ (q = [] -> l = [] \/ l.getLast? = some c) /\ (l.getLast? = some c -> q = [])
 | [] => ⟨[], [], rfl, by simp [pieces, hd], by simp, fun _ => .inl rfl, fun _ => rfl⟩
 | b :: l => by
  obtain ⟨X, q, h1, h2, h3, h4, h5⟩ := pieces_snoc_other c hd l
  by_cases h : b = c
  · refine ⟨[] :: X, q, ?_, ?_, h3, ?_, ?_⟩
    · simp only [pieces, if_pos h, h1]; rfl
    · rw [List.cons_append]; simp only [pieces, if_pos h, h2]; rfl
    · intro hq
      rcases h4 hq with h | h'
      · subst h; right; rw [h]; rfl
      · right
        cases l with
        | nil => cases h'
        | cons a l => rw [List.getLast?_cons_cons]; exact h'
    · intro hl
      cases l with
      | nil => cases X with
       | nil => simp [pieces] at h1; first | exact h1 | exact h1.symm
       | cons x X => simp [pieces] at h1
      | cons a l => rw [List.getLast?_cons_cons] at hl; exact h5 hl
  · cases X with
    | nil =>
     refine ⟨[], b :: q, ?_, ?_, ?_, ?_, ?_⟩
     · simp only [pieces, if_neg h, h1]; rfl
     · rw [List.cons_append]; simp only [pieces, if_neg h, h2]; rfl
     · intro x hx
       rcases List.mem_cons.1 hx with rfl | hx
       · exact h
       · exact h3 x hx
     · intro hq; cases hq
     · intro hl
       cases l with
       | nil => rw [List.getLast?_singleton] at hl; exact absurd (Option.some.inj hl) h
       | cons a l =>
        rw [List.getLast?_cons_cons] at hl
        have hm : c ∈ a :: l := List.mem_of_getLast? hl
        have hn : ∀ (l : List UInt8) (q : List UInt8), pieces c l = [q] -> (∀ x ∈ l, x ≠ c) := by
         intro l
         induction l with
         | nil => intro q _ x hx; cases hx
         | cons y l ih =>
          intro q hq x hx
          unfold pieces at hq
          by_cases hy : y = c
          · rw [if_pos hy] at hq
            obtain ⟨p, ps, hp⟩ := pieces_ne c l
            rw [hp] at hq; simp at hq
          · rw [if_neg hy] at hq
            obtain ⟨p, ps, hp⟩ := pieces_ne c l
            rw [hp] at hq
            simp only [List.cons.injEq] at hq
            rcases List.mem_cons.1 hx with rfl | hx
            · exact hy
            · exact ih p (by rw [hp, hq.2]) x hx
        exact absurd rfl (hn _ _ h1 c hm)
    | cons x X =>
     refine ⟨(b :: x) :: X, q, ?_, ?_, h3, ?_, ?_⟩
     · simp only [pieces, if_neg h, h1]; rfl
     · rw [List.cons_append]; simp only [pieces, if_neg h, h2]; rfl
     · intro hq
       rcases h4 hq with h' | h'
       · subst h'; simp [pieces] at h1
       · right
         cases l with
         | nil => cases h'
         | cons a l => rw [List.getLast?_cons_cons]; exact h'
     · intro hl
       cases l with
       | nil => simp [pieces] at h1
       | cons a l => rw [List.getLast?_cons_cons] at hl; exact h5 hl
def wordsL (l : List UInt8) : List (List UInt8) := (pieces 32 l).filter (fun p => !p.isEmpty)
def textS (l : List UInt8) : List UInt8 := Lib.join (wordsL (lower l)) [32]
def gapB (l : List UInt8) : Bool := l.getLast? == some 32
theorem wordsL_blank (l : List UInt8) : wordsL (l ++ [32]) = wordsL l := by
 unfold wordsL; rw [pieces_snoc_sep, List.filter_append]; simp
theorem join_snoc_new (X : List (List UInt8)) (y : List UInt8) : Lib.join (X ++ [y]) [32] = if X.isEmpty then y else Lib.join X [32] ++ [32] ++ y := by
 cases X with
 | nil => simp [Lib.join_one]
 | cons x X =>
  simp only [List.isEmpty_cons, Bool.false_eq_true, if_false]
  unfold Lib.join List.intercalate
  induction X generalizing x with
  | nil => simp [List.intersperse]
  | cons z Z ih =>
   have := ih z
   simp only [List.cons_append, List.intersperse_cons_cons, List.flatten_cons, List.append_assoc] at this ⊢
   rw [this]
theorem join_snoc_more (X : List (List UInt8)) (q : List UInt8) (d : UInt8) : Lib.join (X ++ [q ++ [d]]) [32] = Lib.join (X ++ [q]) [32] ++ [d] := by
 rw [join_snoc_new, join_snoc_new]
 split <;> simp
theorem wordsL_letter (l : List UInt8) {d : UInt8} (hd : d ≠ 32) : Lib.join (wordsL (l ++ [d])) [32] = Lib.join (wordsL l) [32] ++ (if (gapB l && !(Lib.join (wordsL l) [32]).isEmpty) = true then [32] else []) ++ [d] := by
 obtain ⟨X, q, h1, h2, h3, h4, h5⟩ := pieces_snoc_other 32 hd l
 unfold wordsL
 rw [h1, h2, List.filter_append, List.filter_append]
 have e1 : [q ++ [d]].filter (fun p => !p.isEmpty) = [q ++ [d]] := by simp
 rw [e1]
 by_cases hq : q = []
 · subst hq
   have e2 : ([[]] : List (List UInt8)).filter (fun p => !p.isEmpty) = [] := rfl
   rw [e2, List.append_nil, List.nil_append, join_snoc_new]
   generalize hY : X.filter (fun p => !p.isEmpty) = Y
   have hYn : ∀ y ∈ Y, y ≠ [] := by intro y hy; rw [<- hY] at hy; have := (List.mem_filter.1 hy).2; intro e; subst e; simp at this
   cases Y with
   | nil => simp [Lib.join_nil]
   | cons y Y =>
    have hne : (Lib.join (y :: Y) [32]).isEmpty = false := by
     have hy := hYn y (List.mem_cons_self)
     cases y with
     | nil => exact absurd rfl hy
     | cons a y =>
      cases Y with
      | nil => rw [Lib.join_one]; rfl
      | cons z Z => unfold Lib.join List.intercalate; simp
    have hg : gapB l = true := by
     rcases h4 rfl with h | h
     · subst h
       cases X with
       | nil => simp at hY
       | cons x X => simp [pieces] at h1
     · unfold gapB; rw [h]; rfl
    rw [hg, hne]
    simp
 · have e2 : [q].filter (fun p => !p.isEmpty) = [q] := by cases q with
    | nil => exact absurd rfl hq
    | cons a q => rfl
   rw [e2, join_snoc_more]
   have hg : gapB l = false := by
    unfold gapB
    cases hh : (l.getLast? == some 32) with
    | false => rfl
    | true => exact absurd (h5 (beq_iff_eq.1 hh)) hq
   rw [hg]; simp
end Go.Proofs.YtjmfknfponjgkaaGreatDoor.RuS
namespace Go.Proofs.YtjmfknfponjgkaaGreatDoor.RuS
open Go.Lib
theorem parse64_digits (u : Nat) (hu : u < 1000000000000000000) : parseUintB 64 (decDigits u) = .ok u := by
 unfold parseUintB
 rw [if_neg (PhS.decDigits_ne u)]
 have h := PhS.parseUintM_ok (2 ^ 64 - 1) (decDigits u) 0 (PhS.decDigits_dig u) (by rw [PhS.valFrom_dec]; omega) (by decide) (by rw [PhS.valFrom_dec]; omega)
 rw [PhS.valFrom_dec] at h
 exact h
theorem parse64_itoa (n : Int) (hn : n.natAbs < 1000000000000000000) : parseIntB 64 (itoa n) = .ok n := by
 by_cases h : n < 0
 · rw [PhS.itoa_neg h]
   unfold parseIntB
   have e : (45 : UInt8).toNat = 45 := rfl
   simp only [e, or_true, if_true, parse64_digits n.natAbs hn, not_true, false_and, if_false, true_and]
   rw [if_neg (by omega)]
   congr 1; omega
 · rw [PhS.itoa_nonneg (by omega)]
   have hd := PhS.decDigits_dig n.toNat
   have hp := parse64_digits n.toNat (by omega)
   cases hdd : decDigits n.toNat with
   | nil => exact absurd hdd (PhS.decDigits_ne _)
   | cons c r =>
    have hc := hd c (by rw [hdd]; exact List.mem_cons_self)
    rw [hdd] at hp
    unfold parseIntB
    have h1 : ¬ (c.toNat = 43 \/ c.toNat = 45) := by omega
    have h2 : ¬ (c.toNat = 45) := by omega
    simp only [if_neg h1, hp]
    rw [if_neg (fun h => by have := h.2; omega), if_neg (fun h => h2 h.1), if_neg h2]
    congr 1; omega
theorem pow_le18 {k : Nat} (h : k <= 18) : 10 ^ k <= 1000000000000000000 := Nat.pow_le_pow_right (n := 10) (by decide) h
theorem dec18 (u : Nat) : (decDigits u).length <= 18 ↔ u < 1000000000000000000 := by
 rw [decDigits_length]
 constructor
 · intro h
   have := lt_pow_nDigits u
   have := pow_le18 h
   omega
 · intro h
   have := PhS.nDigits_le 17 u h
   omega
def intS (l : List UInt8) : Option Int := match parseIntB 64 l with
 | .ok n => if (itoa n == l) && decide ((trimPrefix l [45]).length <= 18) then some n else none
 | _ => none
theorem trim_itoa (n : Int) : trimPrefix (itoa n) [45] = decDigits n.natAbs := by
 unfold trimPrefix hasPrefix
 by_cases h : n < 0
 · rw [PhS.itoa_neg h]; simp [List.isPrefixOf]
 · rw [PhS.itoa_nonneg (by omega)]
   have hd := PhS.decDigits_dig n.toNat
   cases hdd : decDigits n.toNat with
   | nil => exact absurd hdd (PhS.decDigits_ne _)
   | cons c r =>
    have hc := hd c (by rw [hdd]; exact List.mem_cons_self)
    have : ([45] : List UInt8).isPrefixOf (c :: r) = false := by
     simp [List.isPrefixOf]
     intro e; subst e; simp at hc
    rw [this, <- hdd]
    simp only [Bool.false_eq_true, if_false]
    congr 1; omega
theorem intS_iff {l : List UInt8} {n : Int} : intS l = some n ↔ itoa n = l /\ n.natAbs < 1000000000000000000 := by
 constructor
 · intro h
   unfold intS at h
   split at h
   · rename_i m hm
     split at h
     · rename_i hc
       have := Option.some.inj h
       subst this
       rw [Bool.and_eq_true] at hc
       have h1 := beq_iff_eq.1 hc.1
       have h2 := of_decide_eq_true hc.2
       subst h1
       rw [trim_itoa, dec18] at h2
       exact ⟨rfl, h2⟩
     · cases h
   · cases h
 · rintro ⟨rfl, h⟩
   unfold intS
   rw [parse64_itoa n h]
   simp only
   rw [trim_itoa, if_pos]
   simp only [beq_self_eq_true, Bool.true_and, decide_eq_true_eq]
   exact (dec18 _).2 h
theorem dec_val : ∀ (n : Nat) (d : List UInt8), d.length = n -> d.all PhS.isDig = true -> d ≠ [] -> (d.head? ≠ some 48 \/ d.length = 1) -> decDigits (PhS.valFrom 0 d) = d := by
 intro n
 induction n with
 | zero => intro d hl _ hne; exact absurd (List.eq_nil_of_length_eq_zero hl) hne
 | succ n ih =>
  intro d hl hall hne hh
  obtain ⟨d', c, rfl⟩ : ∃ d' c, d = d' ++ [c] := ⟨d.dropLast, d.getLast hne, (List.dropLast_concat_getLast hne).symm⟩
  rw [PhS.valFrom_snoc]
  rw [List.all_append, Bool.and_eq_true] at hall
  have hc : 48 <= c.toNat /\ c.toNat <= 57 := by have := hall.2; simp [PhS.isDig] at this; exact this
  have hcc : UInt8.ofNat (48 + (c.toNat - 48)) = c := by
   apply UInt8.toNat_inj.1
   rw [UInt8.toNat_ofNat']; omega
  by_cases h0 : d' = []
  · subst h0
    simp only [PhS.valFrom, List.foldl_nil, Nat.zero_mul, Nat.zero_add, List.nil_append]
    rw [decDigits, dif_pos (by omega), hcc]
  · have hd' : d'.head? ≠ some 48 := by
     rcases hh with hh | hh
     · cases d' with
       | nil => exact absurd rfl h0
       | cons a r => exact hh
     · cases d' with
       | nil => exact absurd rfl h0
       | cons a r => simp at hh
    have e := ih d' (by simp at hl; exact hl) hall.1 h0 (.inl hd')
    have hpos : 1 <= PhS.valFrom 0 d' := by
     rcases Nat.eq_zero_or_pos (PhS.valFrom 0 d') with hz | hz
     · rw [hz] at e
       have : decDigits 0 = [48] := by decide +kernel
       rw [this] at e
       rw [<- e] at hd'
       exact absurd rfl hd'
     · exact hz
    rw [decDigits, dif_neg (by omega)]
    have e1 : (PhS.valFrom 0 d' * 10 + (c.toNat - 48)) / 10 = PhS.valFrom 0 d' := by omega
    have e2 : (PhS.valFrom 0 d' * 10 + (c.toNat - 48)) % 10 = c.toNat - 48 := by omega
    rw [e1, e2, e, hcc]
def intR (l : List UInt8) : Option Int :=
 let neg : Bool := l.head? == some 45
 let d := if neg then l.tail else l
 if d.length < 1 \/ 18 < d.length \/ (d.head? = some 48 /\ (1 < d.length \/ neg = true)) \/ d.all PhS.isDig = false then none
 else some (if neg then -(PhS.valFrom 0 d : Int) else PhS.valFrom 0 d)
theorem val18 {d : List UInt8} (h : d.all PhS.isDig = true) (hl : d.length <= 18) : PhS.valFrom 0 d < 1000000000000000000 := by
 have h1 := PhS.valFrom_lt d h
 have h2 := pow_le18 hl
 omega
theorem head_dig_ne (u : Nat) : (decDigits u).head? = some 48 -> u = 0 := by
 intro h
 have hv := PhS.valFrom_dec u
 rcases Nat.eq_zero_or_pos u with h0 | h0
 · exact h0
 · exfalso
   have key : ∀ (n u : Nat), (decDigits u).length = n -> 0 < u -> (decDigits u).head? ≠ some 48 := by
    intro n
    induction n with
    | zero => intro u hl; exact absurd (List.eq_nil_of_length_eq_zero hl) (PhS.decDigits_ne u)
    | succ n ih =>
     intro u hl hu
     by_cases h10 : u < 10
     · rw [decDigits_one h10]
       intro e
       have e2 := Option.some.inj e
       have e3 := congrArg UInt8.toNat e2
       rw [UInt8.toNat_ofNat'] at e3
       have : (48 : UInt8).toNat = 48 := rfl
       omega
     · rw [decDigits, dif_neg h10] at hl ⊢
       have hl2 : (decDigits (u / 10)).length = n := by simpa using hl
       have := ih (u / 10) hl2 (by omega)
       cases hd : decDigits (u / 10) with
       | nil => exact absurd hd (PhS.decDigits_ne _)
       | cons a r => rw [hd] at this; exact this
   exact key _ u rfl h0 h
theorem intR_iff {l : List UInt8} {n : Int} : intR l = some n ↔ itoa n = l /\ n.natAbs < 1000000000000000000 := by
 constructor
 · intro h
   unfold intR at h
   generalize hneg : (l.head? == some 45) = neg at h
   simp only at h
   by_cases hc : ((if neg = true then l.tail else l).length < 1 \/ 18 < (if neg = true then l.tail else l).length \/ ((if neg = true then l.tail else l).head? = some 48 /\ (1 < (if neg = true then l.tail else l).length \/ neg = true)) \/ (if neg = true then l.tail else l).all PhS.isDig = false)
   · rw [if_pos hc] at h; cases h
   · rw [if_neg hc] at h
     have h := Option.some.inj h
     rw [not_or, not_or, not_or] at hc
     obtain ⟨c1, c2, c3, c4⟩ := hc
     have c4' : (if neg = true then l.tail else l).all PhS.isDig = true := by simpa using c4
     clear c4
     cases neg with
     | true =>
      simp only [if_true] at c1 c2 c3 c4' h
      have hl : l = 45 :: l.tail := by
       cases l with
       | nil => cases hneg
       | cons a r => have := Option.some.inj (beq_iff_eq.1 hneg); subst this; rfl
      have hv := val18 c4' (by omega)
      have h48 : l.tail.head? ≠ some 48 := fun e => c3 ⟨e, .inr (by trivial)⟩
      have hne : l.tail ≠ [] := by intro e; rw [e] at c1; simp at c1
      have hd := dec_val _ l.tail rfl c4' hne (.inl h48)
      have hpos : 0 < PhS.valFrom 0 l.tail := by
       rcases Nat.eq_zero_or_pos (PhS.valFrom 0 l.tail) with hz | hz
       · rw [hz] at hd
         have : decDigits 0 = [48] := by decide +kernel
         rw [this] at hd; rw [<- hd] at h48; exact absurd rfl h48
       · exact hz
      subst h
      refine ⟨?_, by omega⟩
      rw [PhS.itoa_neg (by omega)]
      have e : (-(PhS.valFrom 0 l.tail : Int)).natAbs = PhS.valFrom 0 l.tail := by omega
      rw [e, hd]
      exact hl.symm
     | false =>
      simp only [Bool.false_eq_true, if_false] at c1 c2 c3 c4' h
      have hv := val18 c4' (by omega)
      have hne : l ≠ [] := by intro e; rw [e] at c1; simp at c1
      have hh : l.head? ≠ some 48 \/ l.length = 1 := by
       by_cases e : l.head? = some 48
       · right
         have : ¬ 1 < l.length := fun h => c3 ⟨e, .inl h⟩
         omega
       · exact .inl e
      have hd := dec_val _ l rfl c4' hne hh
      subst h
      refine ⟨?_, by omega⟩
      rw [PhS.itoa_nonneg (by omega)]
      exact hd
 · rintro ⟨rfl, h⟩
   unfold intR
   simp only
   by_cases hn : n < 0
   · rw [PhS.itoa_neg hn]
     have e1 : ((45 :: decDigits n.natAbs).head? == some 45) = true := rfl
     rw [e1]
     simp only [if_true, List.tail_cons]
     have hl := (dec18 n.natAbs).2 h
     have hp := PhS.dec_pos n.natAbs
     rw [if_neg]
     · rw [PhS.valFrom_dec]; congr 1; omega
     · rintro (h1 | h1 | ⟨h1, _⟩ | h1)
       · omega
       · omega
       · have := head_dig_ne _ h1; omega
       · rw [PhS.dec_all] at h1; cases h1
   · rw [PhS.itoa_nonneg (by omega)]
     have e1 : ((decDigits n.toNat).head? == some 45) = false := by
      rw [beq_eq_false_iff_ne]; exact PhS.head_dec _
     rw [e1]
     simp only [Bool.false_eq_true, if_false]
     have hl := (dec18 n.toNat).2 (by omega)
     have hp := PhS.dec_pos n.toNat
     rw [if_neg]
     · rw [PhS.valFrom_dec]; congr 1; omega
     · rintro (h1 | h1 | ⟨h1, h2⟩ | h1)
       · omega
       · omega
       · have h0 := head_dig_ne _ h1
         rw [h0] at h2
         rcases h2 with h2 | h2
         · have : decDigits 0 = [48] := by decide +kernel
           rw [this] at h2; simp at h2
         · cases h2
       · rw [PhS.dec_all] at h1; cases h1
theorem intR_eq (l : List UInt8) : intR l = intS l := by
 cases h : intR l with
 | some n => exact (intS_iff.2 (intR_iff.1 h)).symm
 | none =>
  cases h2 : intS l with
  | none => rfl
  | some n => rw [intR_iff.2 (intS_iff.1 h2)] at h; cases h
theorem gap_snoc (l : List UInt8) (d : UInt8) : gapB (l ++ [d]) = (d == 32) := by unfold gapB; simp
theorem snoc_ind {P : List UInt8 -> Prop} (h0 : P []) (h1 : ∀ l d, P l -> P (l ++ [d])) : ∀ l, P l := by
 intro l
 have : ∀ (n : Nat) (l : List UInt8), l.length = n -> P l := by
  intro n
  induction n with
  | zero => intro l hl; rw [List.eq_nil_of_length_eq_zero hl]; exact h0
  | succ n ih =>
   intro l hl
   have hne : l ≠ [] := by intro e; rw [e] at hl; cases hl
   rw [<- List.dropLast_concat_getLast hne]
   exact h1 _ _ (ih _ (by simp [hl]))
 exact this _ l rfl
theorem joinW_le (l : List UInt8) : (Lib.join (wordsL l) [32]).length + (if gapB l = true then 1 else 0) <= l.length := by
 refine snoc_ind (P := fun l => (Lib.join (wordsL l) [32]).length + (if gapB l = true then 1 else 0) <= l.length) (by decide) (fun l d ih => ?_) l
 rw [gap_snoc]
 by_cases hd : d = 32
 · subst hd
   rw [wordsL_blank]
   simp; omega
 · rw [wordsL_letter l hd]
   have : (d == 32) = false := by simpa using hd
   rw [this]
   simp only [List.length_append, List.length_singleton, Bool.false_eq_true, if_false]
   by_cases hg : gapB l = true
   · rw [hg] at ih ⊢
     simp only [if_true, Bool.true_and] at ih ⊢
     split <;> simp <;> omega
   · have hg : gapB l = false := by simpa using hg
     rw [hg] at ih ⊢
     simp at ih ⊢; omega
theorem textS_le (l : List UInt8) : (textS l).length <= l.length := by
 have := joinW_le (lower l)
 rw [lower_length] at this
 unfold textS; omega
theorem joinW_mem (c : UInt8) (hc : c ≠ 32) (l : List UInt8) : c ∈ Lib.join (wordsL l) [32] ↔ c ∈ l := by
 refine snoc_ind (P := fun l => c ∈ Lib.join (wordsL l) [32] ↔ c ∈ l) (by simp [wordsL, pieces, Lib.join_nil]) (fun l d ih => ?_) l
 by_cases hd : d = 32
 · subst hd
   rw [wordsL_blank, ih]; simp [hc]
 · rw [wordsL_letter l hd, List.mem_append, List.mem_append, List.mem_append, ih]
   constructor
   · rintro ((h | h) | h)
     · exact .inl h
     · split at h
       · simp at h; exact absurd h hc
       · cases h
     · exact .inr h
   · rintro (h | h)
     · exact .inl (.inl h)
     · exact .inr h
theorem lower_zero (l : List UInt8) : (0 : UInt8) ∈ lower l ↔ (0 : UInt8) ∈ l := by
 unfold lower
 rw [List.mem_map]
 constructor
 · rintro ⟨c, hc, h⟩
   by_cases hq : 65 <= c.toNat /\ c.toNat <= 90
   · have := lowC_toNat hq.1 hq.2
     rw [h] at this
     have e : (0 : UInt8).toNat = 0 := rfl
     omega
   · rw [lowC_no hq] at h; rw [<- h]; exact hc
 · intro h; exact ⟨0, h, by decide⟩
theorem textS_zero (l : List UInt8) : (0 : UInt8) ∈ textS l ↔ (0 : UInt8) ∈ l := by
 unfold textS; rw [joinW_mem 0 (by decide), lower_zero]
theorem indexByte_none (l : List UInt8) (c : UInt8) : Lib.indexByte l c < 0 ↔ ¬ c ∈ l := by
 induction l with
 | nil => simp [Lib.indexByte]
 | cons b l ih =>
  unfold Lib.indexByte
  by_cases h : b = c
  · subst h; simp
  · have h' : (b == c) = false := by simpa using h
    rw [h']
    simp only [Bool.false_eq_true, if_false, List.mem_cons]
    have hge := Lib.indexByte_ge l c
    by_cases hm : Lib.indexByte l c = -1
    · rw [hm]; simp
      rw [hm] at ih
      exact ⟨fun e => h e.symm, ih.1 (by decide)⟩
    · have hm' : (Lib.indexByte l c == -1) = false := by simpa using hm
      rw [hm']
      simp only [Bool.false_eq_true, if_false]
      have : ¬ Lib.indexByte l c < 0 := by omega
      constructor
      · intro h; omega
      · intro hn; exfalso; exact this (ih.2 (fun hh => hn (.inr hh)))
def hasNul (l : List UInt8) : Bool := decide ((0 : UInt8) ∈ l)
def normV (syn : Int) (v : List UInt8) : Option (List UInt8) :=
 if syn = 1 then (if (textS v).isEmpty || hasNul v then none else some (textS v))
 else if syn = 3 then (if (intS v).isSome then some v else none)
 else if syn = 4 then (if (PhS.parseP v).isSome then some v else none)
 else some v
def normalR (sy : Int) (v : List UInt8) : List UInt8 × Int :=
 if sy = 0 then ([], 5) else if sy = 5 then ([], 1) else if v.length < 1 \/ 200 < v.length then ([], 2)
 else match normV sy v with
  | none => ([], 2)
  | some s => (s, 0)
def normal (name v : List UInt8) : List UInt8 × Int := normalR (typeOf name).2 v
end Go.Proofs.YtjmfknfponjgkaaGreatDoor.RuS
namespace Go.Proofs.YtjmfknfponjgkaaGreatDoor.RuS
open Go.Lib
theorem u8_lt {a b : UInt8} : a < b ↔ a.toNat < b.toNat := UInt8.lt_iff_toNat_lt
theorem compare_self : ∀ l : List UInt8, compareBytes l l = 0
 | [] => rfl
 | a :: l => by
  unfold compareBytes
  rw [if_neg (by rw [u8_lt]; omega), if_neg (by rw [u8_lt]; omega)]
  exact compare_self l
theorem compare_swap : ∀ x y : List UInt8, compareBytes y x = -compareBytes x y
 | [], [] => rfl
 | [], _ :: _ => rfl
 | _ :: _, [] => rfl
 | a :: x, b :: y => by
  have ih := compare_swap x y
  unfold compareBytes
  by_cases h1 : a < b
  · have : ¬ b < a := by rw [u8_lt] at h1 ⊢; omega
    rw [if_neg this, if_pos h1, if_pos h1]; rfl
  · by_cases h2 : b < a
    · rw [if_pos h2, if_neg h1, if_pos h2]
    · rw [if_neg h2, if_neg h1, if_neg h1, if_neg h2]; exact ih
theorem compare_zero : ∀ x y : List UInt8, compareBytes x y = 0 ↔ x = y
 | [], [] => by simp [compareBytes]
 | [], _ :: _ => by simp [compareBytes]
 | _ :: _, [] => by simp [compareBytes]
 | a :: x, b :: y => by
  have ih := compare_zero x y
  unfold compareBytes
  by_cases h1 : a < b
  · rw [if_pos h1]
    have : a ≠ b := by intro e; subst e; rw [u8_lt] at h1; omega
    simp [this]
  · by_cases h2 : b < a
    · rw [if_neg h1, if_pos h2]
      have : a ≠ b := by intro e; subst e; rw [u8_lt] at h2; omega
      simp [this]
    · rw [if_neg h1, if_neg h2, ih]
      have : a = b := by apply UInt8.toNat_inj.1; rw [u8_lt] at h1 h2; omega
      simp [this]
theorem compare_range : ∀ x y : List UInt8, -1 <= compareBytes x y /\ compareBytes x y <= 1
 | [], [] => by simp [compareBytes]
 | [], _ :: _ => by simp [compareBytes]
 | _ :: _, [] => by simp [compareBytes]
 | a :: x, b :: y => by
  have ih := compare_range x y
  unfold compareBytes
  split
  · omega
  · split <;> omega
theorem less_iff : ∀ x y : List UInt8, Op.bytesLess x y = decide (compareBytes x y = -1)
 | [], [] => by simp [compareBytes, Op.bytesLess]
 | [], _ :: _ => by simp [compareBytes, Op.bytesLess]
 | _ :: _, [] => by simp [compareBytes, Op.bytesLess]
 | a :: x, b :: y => by
  have ih := less_iff x y
  unfold compareBytes Op.bytesLess
  by_cases h1 : a < b
  · rw [if_pos h1]; simp [h1]
  · rw [if_neg h1]
    by_cases h2 : b < a
    · rw [if_pos h2]
      have : a ≠ b := by intro e; subst e; rw [u8_lt] at h2; omega
      simp [h1, this]
    · rw [if_neg h2, ih]
      have : a = b := by apply UInt8.toNat_inj.1; rw [u8_lt] at h1 h2; omega
      subst this
      simp
theorem eq_iff (x y : List UInt8) : (x == y) = decide (compareBytes x y = 0) := by
 rw [Bool.eq_iff_iff, beq_iff_eq, decide_eq_true_eq, compare_zero]
def bareL (l : List UInt8) : List UInt8 := l.filter (fun c => c != 32)
theorem replaceK_filter (c : UInt8) : ∀ l : List UInt8, replaceK [c] [] (count l [c]) l = l.filter (fun b => b != c)
 | [] => by rw [count_miss (by simp [index])]; rfl
 | b :: l => by
  have ih := replaceK_filter c l
  by_cases h : b = c
  · subst h
    rw [count_cons_eq, Nat.add_comm, replaceK_hit _ _ _ _ 0 (index_cons_eq b l)]
    simp
    exact ih
  · rw [count_cons_ne b c l h]
    have hb : (b != c) = true := by simpa using h
    rw [List.filter_cons, if_pos hb]
    by_cases hm : index l [c] = -1
    · rw [count_miss hm] at ih ⊢
      rw [<- ih]; rfl
    · have hge := index_ge l [c]
      obtain ⟨j, hj⟩ : ∃ j : Nat, index l [c] = j := ⟨(index l [c]).toNat, by omega⟩
      have hj2 : index (b :: l) [c] = ((j + 1 : Nat) : Int) := by
       rw [index_cons_ne h l, hj]
       have : ¬ (((j : Nat) : Int) == -1) = true := fun h => by have := beq_iff_eq.1 h; omega
       rw [if_neg this]; omega
      rw [count_hit (by simp) hj, Nat.add_comm] at ih ⊢
      rw [replaceK_hit _ _ _ _ j hj] at ih
      rw [replaceK_hit _ _ _ _ (j + 1) hj2, <- ih]
      simp
theorem replaceAll_bare (l : List UInt8) : replaceAll l [32] [] = bareL l := by
 unfold replaceAll replace replaceNum
 rw [if_neg (by decide), if_pos (.inl (by decide))]
 exact replaceK_filter 32 l
theorem pieces_plain (c : UInt8) : ∀ w : List UInt8, (∀ x ∈ w, x ≠ c) -> pieces c w = [w]
 | [], _ => rfl
 | b :: w, h => by
  have ih := pieces_plain c w (fun x hx => h x (List.mem_cons_of_mem _ hx))
  unfold pieces
  rw [if_neg (h b List.mem_cons_self), ih]
theorem pieces_sep (c : UInt8) (r : List UInt8) : ∀ w : List UInt8, (∀ x ∈ w, x ≠ c) -> pieces c (w ++ c :: r) = w :: pieces c r
 | [], _ => by simp [pieces]
 | b :: w, h => by
  have ih := pieces_sep c r w (fun x hx => h x (List.mem_cons_of_mem _ hx))
  rw [List.cons_append]
  have e : pieces c (b :: (w ++ c :: r)) = if b = c then [] :: pieces c (w ++ c :: r) else match pieces c (w ++ c :: r) with
   | p :: ps => (b :: p) :: ps
   | [] => [[b]] := rfl
  rw [e, if_neg (h b List.mem_cons_self), ih]
theorem pieces_no_sep (c : UInt8) : ∀ (l : List UInt8), ∀ p ∈ pieces c l, ∀ x ∈ p, x ≠ c
 | [], p, hp => by simp [pieces] at hp; subst hp; simp
 | b :: l, p, hp => by
  have ih := pieces_no_sep c l
  unfold pieces at hp
  by_cases h : b = c
  · rw [if_pos h] at hp
    rcases List.mem_cons.1 hp with rfl | hp
    · simp
    · exact ih p hp
  · rw [if_neg h] at hp
    obtain ⟨q, qs, hq⟩ := pieces_ne c l
    rw [hq] at hp ih
    simp only at hp
    rcases List.mem_cons.1 hp with rfl | hp
    · intro x hx
      rcases List.mem_cons.1 hx with rfl | hx
      · exact h
      · exact ih q List.mem_cons_self x hx
    · exact ih p (List.mem_cons_of_mem _ hp)
theorem join_cons_cons (x y : List UInt8) (r : List (List UInt8)) (s : List UInt8) : Lib.join (x :: y :: r) s = x ++ s ++ Lib.join (y :: r) s := by
 unfold Lib.join List.intercalate; simp
theorem pieces_join : ∀ ws : List (List UInt8), ws ≠ [] -> (∀ w ∈ ws, ∀ x ∈ w, x ≠ 32) -> pieces 32 (Lib.join ws [32]) = ws
 | [], h, _ => absurd rfl h
 | [w], _, h => by rw [Lib.join_one]; exact pieces_plain 32 w (h w List.mem_cons_self)
 | w :: v :: r, _, h => by
  have ih := pieces_join (v :: r) (by simp) (fun x hx => h x (List.mem_cons_of_mem _ hx))
  rw [join_cons_cons, List.append_assoc, List.singleton_append, pieces_sep 32 _ w (h w List.mem_cons_self), ih]
theorem wordsL_join (l : List UInt8) : wordsL (Lib.join (wordsL l) [32]) = wordsL l := by
 by_cases h : wordsL l = []
 · rw [h]; rfl
 · have h1 : ∀ w ∈ wordsL l, ∀ x ∈ w, x ≠ 32 := fun w hw => pieces_no_sep 32 l w ((List.mem_filter.1 hw).1)
   have h2 := pieces_join (wordsL l) h h1
   have h3 : wordsL (Lib.join (wordsL l) [32]) = (pieces 32 (Lib.join (wordsL l) [32])).filter (fun p => !p.isEmpty) := rfl
   rw [h3, h2]
   unfold wordsL
   rw [List.filter_filter]
   simp
theorem lower_fix {l : List UInt8} (h : ∀ c ∈ l, lowC c = c) : lower l = l := by
 unfold lower
 exact (List.map_congr_left h).trans (List.map_id l)
theorem textS_fix (l : List UInt8) : ∀ c ∈ textS l, lowC c = c := by
 intro c hc
 by_cases h : c = 32
 · subst h; decide
 · unfold textS at hc
   rw [joinW_mem c h] at hc
   unfold lower at hc
   obtain ⟨d, _, rfl⟩ := List.mem_map.1 hc
   exact lowC_idem d
theorem textS_idem (l : List UInt8) : textS (textS l) = textS l := by
 have h : textS (textS l) = Lib.join (wordsL (lower (textS l))) [32] := rfl
 rw [h, lower_fix (textS_fix l)]
 unfold textS
 rw [wordsL_join]
theorem normal_ok {nm v s : List UInt8} (h : normal nm v = (s, 0)) : ((typeOf nm).2 = 1 \/ (typeOf nm).2 = 2 \/ (typeOf nm).2 = 3 \/ (typeOf nm).2 = 4) /\ 1 <= v.length /\ v.length <= 200 /\ normV (typeOf nm).2 v = some s := by
 have hall := typeM_all (lower nm)
 have hall' : typeOf nm = ([], 0) \/ (1 <= (typeOf nm).2 /\ (typeOf nm).2 <= 5 /\ 1 <= (typeOf nm).1.length /\ (typeOf nm).1.length <= 17) := hall
 unfold normal normalR at h
 by_cases h0 : (typeOf nm).2 = 0
 · rw [if_pos h0] at h; injection h with _ h; cases h
 · rw [if_neg h0] at h
   by_cases h5 : (typeOf nm).2 = 5
   · rw [if_pos h5] at h; injection h with _ h; cases h
   · rw [if_neg h5] at h
     by_cases hl : v.length < 1 \/ 200 < v.length
     · rw [if_pos hl] at h; injection h with _ h; cases h
     · rw [if_neg hl] at h
       cases hv : normV (typeOf nm).2 v with
       | none => rw [hv] at h; injection h with _ h; cases h
       | some x =>
        rw [hv] at h
        injection h with h _
        subst h
        refine ⟨?_, by omega, by omega, rfl⟩
        rcases hall' with h | h
        · rw [h] at h0; exact absurd rfl h0
        · omega
theorem normal_of {nm v s : List UInt8} (h : (typeOf nm).2 = 1 \/ (typeOf nm).2 = 2 \/ (typeOf nm).2 = 3 \/ (typeOf nm).2 = 4) (h1 : 1 <= v.length) (h2 : v.length <= 200) (h3 : normV (typeOf nm).2 v = some s) : normal nm v = (s, 0) := by
 unfold normal normalR
 rw [if_neg (by omega), if_neg (by omega), if_neg (by omega), h3]
theorem normV_same {sy : Int} {v s : List UInt8} (h1 : sy ≠ 1) (h : normV sy v = some s) : s = v := by
 unfold normV at h
 rw [if_neg h1] at h
 by_cases h3 : sy = 3
 · rw [if_pos h3] at h; split at h
   · exact (Option.some.inj h).symm
   · cases h
 · rw [if_neg h3] at h
   by_cases h4 : sy = 4
   · rw [if_pos h4] at h; split at h
     · exact (Option.some.inj h).symm
     · cases h
   · rw [if_neg h4] at h; exact (Option.some.inj h).symm
theorem normV1_some {v s : List UInt8} (h : normV 1 v = some s) : s = textS v /\ (textS v).isEmpty = false /\ hasNul v = false := by
 have h : (if (textS v).isEmpty || hasNul v then none else some (textS v)) = some s := h
 cases h1 : (textS v).isEmpty with
 | true => rw [h1] at h; cases h
 | false =>
  cases h2 : hasNul v with
  | true => rw [h1, h2] at h; cases h
  | false => rw [h1, h2] at h; exact ⟨(Option.some.inj h).symm, rfl, rfl⟩
theorem normal_idem {nm v s : List UInt8} (h : normal nm v = (s, 0)) : normal nm s = (s, 0) := by
 obtain ⟨h1, h2, h3, h4⟩ := normal_ok h
 by_cases e : (typeOf nm).2 = 1
 · rw [e] at h4
   obtain ⟨rfl, g1, g2⟩ := normV1_some h4
   have hle := textS_le v
   have hpos : 1 <= (textS v).length := by
    cases hq : textS v with
    | nil => rw [hq] at g1; cases g1
    | cons a b => simp
   refine normal_of h1 hpos (by omega) ?_
   rw [e]
   show (if (textS (textS v)).isEmpty || hasNul (textS v) then none else some (textS (textS v))) = _
   have hz : hasNul (textS v) = false := by
    unfold hasNul at g2 ⊢
    rw [decide_eq_false_iff_not] at g2 ⊢
    rw [textS_zero]; exact g2
   rw [textS_idem, g1, hz]; rfl
 · have := normV_same e h4
   subst this
   exact h
theorem normal_fail {nm v : List UInt8} (h : (normal nm v).2 ≠ 0) : (normal nm v).1 = [] := by
 unfold normal normalR at h ⊢
 split
 · rfl
 · split
   · rfl
   · split
     · rfl
     · rename_i a b c
       rw [if_neg a, if_neg b, if_neg c] at h
       split
       · rfl
       · rename_i x hx; rw [hx] at h; exact absurd rfl h
theorem normal_len (nm v : List UInt8) : (normal nm v).1.length <= 200 := by
 by_cases h : (normal nm v).2 = 0
 · have h' : normal nm v = ((normal nm v).1, 0) := by rw [<- h]
   obtain ⟨h1, h2, h3, h4⟩ := normal_ok h'
   by_cases e : (typeOf nm).2 = 1
   · rw [e] at h4
     obtain ⟨e2, _, _⟩ := normV1_some h4
     rw [e2]
     have := textS_le v
     omega
   · rw [normV_same e h4]; exact h3
 · rw [normal_fail h]; simp
end Go.Proofs.YtjmfknfponjgkaaGreatDoor.RuS
namespace Go.Proofs.YtjmfknfponjgkaaGreatDoor.RdS
open Go.Lib
abbrev Pr := List UInt8 × List UInt8
def specials : List UInt8 := [44, 43, 34, 92, 60, 62, 59]
def special (c : UInt8) : Bool := specials.contains c
def hexL : List UInt8 := [48, 49, 50, 51, 52, 53, 54, 55, 56, 57, 97, 98, 99, 100, 101, 102]
def hexd (n : Nat) : UInt8 := hexL.getD n 0
def escC (first last : Bool) (c : UInt8) : List UInt8 :=
 if special c || (c == 32 && (first || last)) || (c == 35 && first) then [92, c]
 else if decide (c.toNat < 32) || decide (126 < c.toNat) then [92, hexd (c.toNat / 16), hexd (c.toNat % 16)]
 else [c]
def escTo (v : List UInt8) : Nat -> List UInt8
 | 0 => []
 | k + 1 => escTo v k ++ (match v[k]? with
  | some c => escC (decide (k = 0)) (decide (k + 1 = v.length)) c
  | none => [])
def escS (v : List UInt8) : List UInt8 := escTo v v.length
theorem escTo_succ (v : List UInt8) (k : Nat) (h : k < v.length) : escTo v (k + 1) = escTo v k ++ escC (decide (k = 0)) (decide (k + 1 = v.length)) v[k] := by
 have e : escTo v (k + 1) = escTo v k ++ (match v[k]? with
  | some c => escC (decide (k = 0)) (decide (k + 1 = v.length)) c
  | none => []) := rfl
 rw [e, List.getElem?_eq_getElem h]
theorem escC_len (a b : Bool) (c : UInt8) : (escC a b c).length <= 3 /\ 1 <= (escC a b c).length := by
 unfold escC
 split
 · exact ⟨by simp, by simp⟩
 · split
   · exact ⟨by simp, by simp⟩
   · exact ⟨by simp, by simp⟩
theorem escTo_len (v : List UInt8) : ∀ k, k <= v.length -> (escTo v k).length <= 3 * k
 | 0, _ => by simp [escTo]
 | k + 1, h => by
  rw [escTo_succ v k h, List.length_append]
  have := escTo_len v k (by omega)
  have := (escC_len (decide (k = 0)) (decide (k + 1 = v.length)) v[k]).1
  omega
def pairOk (last : List UInt8) (p : Pr) : Bool :=
 ((RuS.typeOf p.1).1 == p.1) && ((RuS.typeOf p.1).2 == 1 || (RuS.typeOf p.1).2 == 3) && Op.bytesLess last p.1 && ((RuS.normal p.1 p.2).2 == 0)
def chain : List UInt8 -> List Pr -> Bool
 | _, [] => true
 | last, p :: l => pairOk last p && chain p.1 l
def formedS (l : List Pr) : Bool := decide (1 <= l.length) && decide (l.length <= 3) && chain [] l
def lastT (l : List Pr) : Nat -> List UInt8
 | 0 => []
 | k + 1 => match l[k]? with
  | some p => p.1
  | none => []
def okTo (l : List Pr) : Nat -> Bool
 | 0 => true
 | k + 1 => okTo l k && (match l[k]? with
  | some p => pairOk (lastT l k) p
  | none => true)
theorem okTo_succ (l : List Pr) (k : Nat) (h : k < l.length) : okTo l (k + 1) = (okTo l k && pairOk (lastT l k) l[k]) := by
 have e : okTo l (k + 1) = (okTo l k && (match l[k]? with | some p => pairOk (lastT l k) p | none => true)) := rfl
 rw [e, List.getElem?_eq_getElem h]
theorem lastT_succ (l : List Pr) (k : Nat) (h : k < l.length) : lastT l (k + 1) = l[k].1 := by
 have e : lastT l (k + 1) = (match l[k]? with | some p => p.1 | none => []) := rfl
 rw [e, List.getElem?_eq_getElem h]
theorem okTo_false {l : List Pr} {k : Nat} (h : k < l.length) (hp : pairOk (lastT l k) l[k] = false) : ∀ n, k < n -> okTo l n = false := by
 intro n
 induction n with
 | zero => intro h; omega
 | succ n ih =>
  intro hn
  by_cases e : n = k
  · subst e; rw [okTo_succ l n h, hp, Bool.and_false]
  · have := ih (by omega)
    show (okTo l n && _) = false
    rw [this]; rfl
theorem chain_snoc : ∀ (l : List Pr) (last : List UInt8) (p : Pr), chain last (l ++ [p]) = (chain last l && pairOk (match l.getLast? with | some q => q.1 | none => last) p)
 | [], last, p => by simp [chain]
 | q :: r, last, p => by
  rw [List.cons_append]
  show (pairOk last q && chain q.1 (r ++ [p])) = _
  rw [chain_snoc r q.1 p]
  cases r with
  | nil => simp [chain]
  | cons a r =>
   rw [List.getLast?_cons_cons]
   cases h : (a :: r).getLast? with
   | none => simp at h
   | some z => simp only [chain, Bool.and_assoc]
theorem okTo_chain (l : List Pr) : ∀ k, k <= l.length -> okTo l k = chain [] (l.take k)
 | 0, _ => by simp [okTo, chain]
 | k + 1, h => by
  rw [okTo_succ l k h, okTo_chain l k (by omega), List.take_succ_eq_append_getElem h, chain_snoc]
  congr 1
  cases k with
  | zero => rfl
  | succ k =>
   rw [lastT_succ l k (by omega)]
   have hk : k < l.length := by omega
   rw [List.take_succ_eq_append_getElem hk, List.getLast?_concat]
theorem formed_okTo (l : List Pr) : formedS l = (decide (1 <= l.length) && decide (l.length <= 3) && okTo l l.length) := by
 unfold formedS
 rw [okTo_chain l l.length (Nat.le_refl _), List.take_length]
def pairT (p : Pr) : List UInt8 := p.1 ++ [61] ++ escS p.2
def textTo (l : List Pr) : Nat -> List UInt8
 | 0 => []
 | k + 1 => textTo l k ++ (if k = 0 then [] else [43]) ++ (match l[k]? with
  | some p => pairT p
  | none => [])
def printS (l : List Pr) : List UInt8 × Int := if formedS l then (textTo l l.length, 0) else ([], 1)
theorem textTo_succ (l : List Pr) (k : Nat) (h : k < l.length) : textTo l (k + 1) = textTo l k ++ (if k = 0 then [] else [43]) ++ pairT l[k] := by
 have e : textTo l (k + 1) = textTo l k ++ (if k = 0 then [] else [43]) ++ (match l[k]? with | some p => pairT p | none => []) := rfl
 rw [e, List.getElem?_eq_getElem h]
def glue (p : List UInt8) : List (List UInt8) -> List (List UInt8)
 | [] => [p]
 | q :: qs => (p ++ q) :: qs
def splitE (sep : UInt8) : List UInt8 -> List (List UInt8)
 | [] => [[]]
 | [b] => if b == sep then [[], []] else [[b]]
 | b :: d :: l => if b == sep then [] :: splitE sep (d :: l) else if b == 92 then glue [b, d] (splitE sep l) else glue [b] (splitE sep (d :: l))
def hexOf (c : UInt8) : Option Nat :=
 if 48 <= c.toNat /\ c.toNat <= 57 then some (c.toNat - 48)
 else if 97 <= c.toNat /\ c.toNat <= 102 then some (c.toNat - 97 + 10)
 else if 65 <= c.toNat /\ c.toNat <= 70 then some (c.toNat - 65 + 10)
 else none
def bare1 (c : UInt8) : Bool := special c || c == 35 || c == 61 || c == 32
def badC (first last : Bool) (c : UInt8) : Bool := special c || c == 0 || (c == 32 && (first || last)) || (c == 35 && first)
def readL : Bool -> List UInt8 -> Option (List UInt8)
 | _, [] => some []
 | first, [c] => if badC first true c then none else some [c]
 | first, [c, d] =>
  if c == 92 then (if bare1 d then some [d] else none)
  else if badC first false c then none else if badC false true d then none else some [c, d]
 | first, c :: d :: e :: l =>
  if c == 92 then
   if bare1 d then (readL false (e :: l)).map (d :: ·)
   else match hexOf d, hexOf e with
    | some x, some y => (readL false l).map (UInt8.ofNat (16 * x + y) :: ·)
    | _, _ => none
  else if badC first false c then none else (readL false (d :: e :: l)).map (c :: ·)
def readS (l : List UInt8) : Option (List UInt8) := readL true l
end Go.Proofs.YtjmfknfponjgkaaGreatDoor.RdS
namespace Go.Proofs.YtjmfknfponjgkaaGreatDoor.RdS
open Go.Lib
theorem glue_nil (q : List UInt8) (X : List (List UInt8)) : glue [] (q :: X) = q :: X := rfl
theorem glue_glue (p q : List UInt8) (X : List (List UInt8)) : glue p (glue q X) = glue (p ++ q) X := by
 cases X <;> simp [glue]
theorem glue_cons (p q : List UInt8) (X : List (List UInt8)) : glue p (q :: X) = (p ++ q) :: X := rfl
theorem glue_ne (p : List UInt8) (X : List (List UInt8)) : ∃ q Y, glue p X = q :: Y := by
 cases X with
 | nil => exact ⟨_, _, rfl⟩
 | cons q Y => exact ⟨_, _, rfl⟩
theorem glue_len (p : List UInt8) (X : List (List UInt8)) (h : X ≠ []) : (glue p X).length = X.length := by
 cases X with
 | nil => exact absurd rfl h
 | cons q Y => rfl
theorem splitE_ne (sep : UInt8) (l : List UInt8) : ∃ p ps, splitE sep l = p :: ps := by
 match l with
 | [] => exact ⟨_, _, rfl⟩
 | [b] => unfold splitE; split <;> exact ⟨_, _, rfl⟩
 | b :: d :: l =>
  unfold splitE
  split
  · exact ⟨_, _, rfl⟩
  · split <;> exact glue_ne _ _
theorem splitE_sep {sep : UInt8} (l : List UInt8) : splitE sep (sep :: l) = [] :: splitE sep l := by
 match l with
 | [] => simp [splitE]
 | d :: l => simp [splitE]
theorem splitE_stroke1 {sep : UInt8} (h : sep ≠ 92) : splitE sep [92] = [[92]] := by
 unfold splitE; rw [if_neg (by simpa using fun e => h e.symm)]
theorem splitE_stroke {sep : UInt8} (h : sep ≠ 92) (d : UInt8) (l : List UInt8) : splitE sep (92 :: d :: l) = glue [92, d] (splitE sep l) := by
 rw [splitE, if_neg (by simpa using fun e => h e.symm), if_pos (by decide)]
theorem splitE_plain {sep b : UInt8} (h1 : b ≠ sep) (h2 : b ≠ 92) (l : List UInt8) : splitE sep (b :: l) = glue [b] (splitE sep l) := by
 match l with
 | [] => simp [splitE, h1, glue]
 | d :: l => rw [splitE, if_neg (by simpa using h1), if_neg (by simpa using h2)]
theorem splitE_len {sep : UInt8} : ∀ l : List UInt8, (splitE sep l).length <= l.length + 1
 | [] => by simp [splitE]
 | [b] => by unfold splitE; split <;> simp
 | b :: d :: l => by
  have h1 := splitE_len (sep := sep) (d :: l)
  have h2 := splitE_len (sep := sep) l
  unfold splitE
  split
  · simp only [List.length_cons] at h1 ⊢; omega
  · obtain ⟨p, ps, e1⟩ := splitE_ne sep l
    obtain ⟨q, qs, e2⟩ := splitE_ne sep (d :: l)
    split
    · rw [glue_len _ _ (by rw [e1]; simp)]; simp only [List.length_cons]; omega
    · rw [glue_len _ _ (by rw [e2]; simp)]; simp only [List.length_cons] at h1 ⊢; omega
theorem splitE_small {sep : UInt8} : ∀ (l : List UInt8), ∀ p ∈ splitE sep l, p.length <= l.length
 | [], p, h => by simp [splitE] at h; subst h; simp
 | [b], p, h => by
  unfold splitE at h
  split at h
  · simp at h; subst h; simp
  · simp at h; subst h; simp
 | b :: d :: l, p, h => by
  have h1 := splitE_small (sep := sep) (d :: l)
  have h2 := splitE_small (sep := sep) l
  obtain ⟨p1, ps1, e1⟩ := splitE_ne sep l
  obtain ⟨p2, ps2, e2⟩ := splitE_ne sep (d :: l)
  rw [e1] at h2; rw [e2] at h1
  unfold splitE at h
  rw [e1, e2] at h
  split at h
  · rcases List.mem_cons.1 h with rfl | h
    · simp
    · have := h1 p h; simp only [List.length_cons] at this ⊢; omega
  · split at h
    · rw [glue_cons] at h
      rcases List.mem_cons.1 h with rfl | h
      · have := h2 p1 (List.mem_cons_self ..); simp only [List.length_append, List.length_cons, List.length_nil]; omega
      · have := h2 p (List.mem_cons_of_mem _ h); simp only [List.length_cons]; omega
    · rw [glue_cons] at h
      rcases List.mem_cons.1 h with rfl | h
      · have := h1 p2 (List.mem_cons_self ..); simp only [List.length_append, List.length_cons, List.length_nil] at this ⊢; omega
      · have := h1 p (List.mem_cons_of_mem _ h); simp only [List.length_cons] at this ⊢; omega
def NoSep (sep : UInt8) (x : List UInt8) : Prop := ∀ y, splitE sep (x ++ y) = glue x (splitE sep y)
theorem NoSep.nil (sep : UInt8) : NoSep sep [] := fun y => by obtain ⟨p, ps, e⟩ := splitE_ne sep y; rw [List.nil_append, e, glue_nil]
theorem NoSep.append {sep : UInt8} {a b : List UInt8} (ha : NoSep sep a) (hb : NoSep sep b) : NoSep sep (a ++ b) := fun y => by
 rw [List.append_assoc, ha, hb, glue_glue]
theorem NoSep.one {sep c : UInt8} (h1 : c ≠ sep) (h2 : c ≠ 92) : NoSep sep [c] := fun y => splitE_plain h1 h2 y
theorem NoSep.two {sep : UInt8} (h : sep ≠ 92) (c : UInt8) : NoSep sep [92, c] := fun y => splitE_stroke h c y
theorem NoSep.all {sep : UInt8} : ∀ {l : List UInt8}, (∀ c ∈ l, c ≠ sep /\ c ≠ 92) -> NoSep sep l
 | [], _ => NoSep.nil sep
 | c :: l, h => by
  have h1 := h c (List.mem_cons_self ..)
  exact (NoSep.one h1.1 h1.2).append (NoSep.all (fun d hd => h d (List.mem_cons_of_mem _ hd)))
theorem NoSep.split {sep : UInt8} {x : List UInt8} (h : NoSep sep x) : splitE sep x = [x] := by
 have := h []
 rw [List.append_nil] at this
 rw [this]; simp [splitE, glue]
theorem NoSep.split_sep {sep : UInt8} {x : List UInt8} (h : NoSep sep x) (y : List UInt8) : splitE sep (x ++ sep :: y) = x :: splitE sep y := by
 rw [h, splitE_sep, glue_cons, List.append_nil]
def escL : Bool -> List UInt8 -> List UInt8
 | _, [] => []
 | first, c :: l => escC first l.isEmpty c ++ escL false l
theorem escL_ne (f : Bool) (c : UInt8) (l : List UInt8) : (escL f (c :: l)).isEmpty = false := by
 have := (escC_len f l.isEmpty c).2
 unfold escL
 rw [List.isEmpty_eq_false_iff]
 intro h
 have h2 := congrArg List.length h
 rw [List.length_append, List.length_nil] at h2
 omega
theorem escTo_drop (v : List UInt8) : ∀ n k, k + n = v.length -> escTo v v.length = escTo v k ++ escL (decide (k = 0)) (v.drop k)
 | 0, k, h => by
  have : k = v.length := by omega
  subst this
  rw [List.drop_length]; simp [escL]
 | n + 1, k, h => by
  have hk : k < v.length := by omega
  rw [escTo_drop v n (k + 1) (by omega), escTo_succ v k hk, List.drop_eq_getElem_cons hk]
  have e1 : decide (k + 1 = 0) = false := by simp
  rw [e1]
  have e2 : (v.drop (k + 1)).isEmpty = decide (k + 1 = v.length) := by
   rw [Bool.eq_iff_iff, List.isEmpty_iff, List.drop_eq_nil_iff, decide_eq_true_eq]; omega
  show _ = escTo v k ++ (escC (decide (k = 0)) (v.drop (k + 1)).isEmpty v[k] ++ escL false (v.drop (k + 1)))
  rw [e2, List.append_assoc]
theorem escS_escL (v : List UInt8) : escS v = escL true v := by
 have := escTo_drop v v.length 0 (by omega)
 unfold escS
 rw [this]; rfl
theorem escC_cases (f l : Bool) (c : UInt8) : (escC f l c = [92, c] /\ bare1 c = true) \/
  (escC f l c = [92, hexd (c.toNat / 16), hexd (c.toNat % 16)]) \/
  (escC f l c = [c] /\ special c = false /\ badC f l c = false /\ 32 <= c.toNat /\ c.toNat <= 126) := by
 unfold escC
 split
 · rename_i h
   refine .inl ⟨rfl, ?_⟩
   unfold bare1
   simp only [Bool.or_eq_true, Bool.and_eq_true] at h ⊢
   rcases h with (h | h) | h
   · exact .inl (.inl (.inl h))
   · exact .inr h.1
   · exact .inl (.inl (.inr h.1))
 · rename_i h
   split
   · exact .inr (.inl rfl)
   · rename_i h2
     simp only [Bool.or_eq_true, decide_eq_true_eq, not_or, Nat.not_lt] at h2
     have h3 : (special c || (c == 32 && (f || l)) || (c == 35 && f)) = false := by simpa using h
     refine .inr (.inr ⟨rfl, ?_, ?_, h2.1, h2.2⟩)
     · simp only [Bool.or_eq_false_iff] at h3; exact h3.1.1
     · have hz : (c == 0) = false := by
        rw [beq_eq_false_iff_ne]; intro e; subst e; exact absurd h2.1 (by decide)
       unfold badC
       simp only [Bool.or_eq_false_iff] at h3 ⊢
       exact ⟨⟨⟨h3.1.1, hz⟩, h3.1.2⟩, h3.2⟩
theorem hexd_props : ∀ n : Fin 16, hexOf (hexd n.val) = some n.val /\ bare1 (hexd n.val) = false /\ special (hexd n.val) = false /\ 32 <= (hexd n.val).toNat /\ (hexd n.val).toNat <= 126 /\ hexd n.val ≠ 92 := by decide +kernel
theorem hex_back (c : UInt8) : UInt8.ofNat (16 * (c.toNat / 16) + c.toNat % 16) = c := by
 rw [Nat.div_add_mod]; exact UInt8.ofNat_toNat
theorem readL_stroke_bare (f : Bool) {d : UInt8} (h : bare1 d = true) (l : List UInt8) : readL f (92 :: d :: l) = (readL false l).map (d :: ·) := by
 cases l with
 | nil => simp [readL, h]
 | cons e l => simp [readL, h]
theorem readL_stroke_hex (f : Bool) {d e : UInt8} {x y : Nat} (h : bare1 d = false) (h1 : hexOf d = some x) (h2 : hexOf e = some y) (l : List UInt8) :
  readL f (92 :: d :: e :: l) = (readL false l).map (UInt8.ofNat (16 * x + y) :: ·) := by
 simp [readL, h, h1, h2]
theorem readL_stroke_none1 (f : Bool) {d e : UInt8} (h : bare1 d = false) (h1 : hexOf d = none \/ hexOf e = none) (l : List UInt8) : readL f (92 :: d :: e :: l) = none := by
 rw [readL, if_pos (by decide), if_neg (by rw [h]; decide)]
 split
 · rename_i x y e1 e2
   rcases h1 with h1 | h1
   · rw [h1] at e1; cases e1
   · rw [h1] at e2; cases e2
 · rfl
theorem readL_stroke_none2 (f : Bool) {d : UInt8} (h : bare1 d = false) : readL f [92, d] = none := by
 simp [readL, h]
theorem readL_stroke_none3 (f : Bool) : readL f [92] = none := by
 have : badC f true 92 = true := by unfold badC; simp [show special 92 = true from by decide]
 simp [readL, this]
theorem readL_bad {f : Bool} {c : UInt8} (h : c ≠ 92) {l : List UInt8} (hb : badC f l.isEmpty c = true) : readL f (c :: l) = none := by
 match l with
 | [] => simp [readL, show badC f true c = true from hb]
 | [d] => simp [readL, h, show badC f false c = true from hb]
 | d :: e :: l => simp [readL, h, show badC f false c = true from hb]
theorem readL_plain {f : Bool} {c : UInt8} (h : c ≠ 92) {l : List UInt8} (hb : badC f l.isEmpty c = false) : readL f (c :: l) = (readL false l).map (c :: ·) := by
 match l with
 | [] => simp [readL, show badC f true c = false from hb]
 | [d] =>
  have hb2 : badC f false c = false := hb
  by_cases hd : badC false true d = true <;> simp [readL, h, hb2, hd]
 | d :: e :: l => rw [readL, if_neg (by simpa using h), if_neg (by rw [show badC f false c = false from hb]; decide)]
theorem read_escL : ∀ (v : List UInt8) (f : Bool), readL f (escL f v) = some v
 | [], f => rfl
 | c :: v, f => by
  have ih := read_escL v false
  rcases escC_cases f v.isEmpty c with ⟨h, hb⟩ | h | ⟨h, hs, hb, h1, h2⟩
  · show readL f (escC f v.isEmpty c ++ escL false v) = _
    rw [h]
    show readL f (92 :: c :: escL false v) = _
    rw [readL_stroke_bare f hb, ih]; rfl
  · show readL f (escC f v.isEmpty c ++ escL false v) = _
    rw [h]
    have hh := hexd_props ⟨c.toNat / 16, by have := c.toNat_lt; omega⟩
    have hl := hexd_props ⟨c.toNat % 16, by omega⟩
    show readL f (92 :: hexd (c.toNat / 16) :: hexd (c.toNat % 16) :: escL false v) = _
    rw [readL_stroke_hex f hh.2.1 hh.1 hl.1, ih, hex_back]; rfl
  · show readL f (escC f v.isEmpty c ++ escL false v) = _
    rw [h]
    have hne : c ≠ 92 := by intro e; subst e; exact absurd hs (by decide)
    have hem : (escL false v).isEmpty = v.isEmpty := by
     cases v with
     | nil => rfl
     | cons d v => rw [escL_ne]; rfl
    show readL f (c :: escL false v) = _
    rw [readL_plain hne (by rw [hem]; exact hb), ih]; rfl
theorem read_escS (v : List UInt8) : readS (escS v) = some v := by rw [escS_escL]; exact read_escL v true
theorem special_sep {sep : UInt8} (h : special sep = true) {c : UInt8} (hc : special c = false) : c ≠ sep := by
 intro e; subst e; rw [h] at hc; cases hc
theorem escL_noSep {sep : UInt8} (h : special sep = true) (h92 : sep ≠ 92) : ∀ (v : List UInt8) (f : Bool), NoSep sep (escL f v)
 | [], f => NoSep.nil sep
 | c :: v, f => by
  have ih := escL_noSep h h92 v false
  show NoSep sep (escC f v.isEmpty c ++ escL false v)
  refine NoSep.append ?_ ih
  rcases escC_cases f v.isEmpty c with ⟨e, hb⟩ | e | ⟨e, hs, hb, h1, h2⟩
  · rw [e]; exact NoSep.two h92 c
  · rw [e]
    have hl := hexd_props ⟨c.toNat % 16, by omega⟩
    show NoSep sep ([92, hexd (c.toNat / 16)] ++ [hexd (c.toNat % 16)])
    exact (NoSep.two h92 _).append (NoSep.one (special_sep h hl.2.2.1) hl.2.2.2.2.2)
  · rw [e]
    exact NoSep.one (special_sep h hs) (special_sep (by decide) hs)
theorem escS_noSep {sep : UInt8} (h : special sep = true) (h92 : sep ≠ 92) (v : List UInt8) : NoSep sep (escS v) := by rw [escS_escL]; exact escL_noSep h h92 v true
def insS (a : Pr) : List Pr -> List Pr
 | [] => [a]
 | p :: l => if Op.bytesLess p.1 a.1 then p :: insS a l else a :: p :: l
def sortS (l : List Pr) : List Pr := l.foldl (fun out a => insS a out) []
def le2 (a b : Pr) : Prop := Op.bytesLess b.1 a.1 = false
def lt2 (a b : Pr) : Prop := Op.bytesLess a.1 b.1 = true
theorem insS_perm (a : Pr) : ∀ l, (insS a l).Perm (a :: l)
 | [] => List.Perm.refl _
 | p :: l => by
  unfold insS
  split
  · exact ((insS_perm a l).cons p).trans (List.Perm.swap a p l)
  · exact List.Perm.refl _
theorem foldl_perm : ∀ (l out : List Pr), (l.foldl (fun out a => insS a out) out).Perm (l ++ out)
 | [], out => List.Perm.refl _
 | a :: l, out => by
  show (l.foldl (fun out a => insS a out) (insS a out)).Perm _
  refine (foldl_perm l (insS a out)).trans ?_
  exact ((insS_perm a out).append_left l).trans List.perm_middle
theorem sortS_perm (l : List Pr) : (sortS l).Perm l := by
 have := foldl_perm l []
 rwa [List.append_nil] at this
theorem less_asymm {x y : List UInt8} (h : Op.bytesLess x y = true) : Op.bytesLess y x = false := by
 have h1 := RuS.less_iff x y
 have h2 := RuS.less_iff y x
 have h3 := RuS.compare_swap x y
 rw [h] at h1
 have h4 := of_decide_eq_true h1.symm
 rw [h2, h3, h4]; rfl
theorem less_trans {x y z : List UInt8} (h : Op.bytesLess x y = true) (h2 : Op.bytesLess y z = true) : Op.bytesLess x z = true := by
 rw [Proofs.bytesLess_eq, decide_eq_true_eq] at h h2 ⊢
 exact List.lt_trans h h2
theorem not_less_eq {x y : List UInt8} (h : Op.bytesLess x y = false) (h2 : Op.bytesLess y x = false) : x = y := by
 have e := RuS.eq_iff x y
 have h1 := RuS.less_iff x y
 have h3 := RuS.less_iff y x
 have h4 := RuS.compare_swap x y
 have h5 := RuS.compare_range x y
 rw [h] at h1; rw [h2] at h3
 have h1 := of_decide_eq_false h1.symm
 have h3 := of_decide_eq_false h3.symm
 rw [decide_eq_true (by omega)] at e
 exact beq_iff_eq.1 e
theorem le2_trans {a b c : Pr} (h : le2 a b) (h2 : le2 b c) : le2 a c := by
 unfold le2 at *
 cases hq : Op.bytesLess c.1 a.1 with
 | false => rfl
 | true =>
  cases hr : Op.bytesLess a.1 b.1 with
  | true => have := less_trans hq hr; rw [h2] at this; cases this
  | false =>
   have e := not_less_eq hr h
   rw [e, h2] at hq; cases hq
theorem lt2_le2 {a b : Pr} (h : lt2 a b) : le2 a b := less_asymm h
theorem insS_sorted (a : Pr) : ∀ l, l.Pairwise le2 -> (insS a l).Pairwise le2
 | [], _ => by simp [insS]
 | p :: l, h => by
  have h' := List.pairwise_cons.1 h
  unfold insS
  split
  · rename_i hl
    refine List.pairwise_cons.2 ⟨fun b hb => ?_, insS_sorted a l h'.2⟩
    have := (insS_perm a l).mem_iff.1 hb
    rcases List.mem_cons.1 this with rfl | hb
    · exact lt2_le2 hl
    · exact h'.1 b hb
  · rename_i hl
    have hl : le2 a p := by unfold le2; simpa using hl
    refine List.pairwise_cons.2 ⟨fun b hb => ?_, h⟩
    rcases List.mem_cons.1 hb with rfl | hb
    · exact hl
    · exact le2_trans hl (h'.1 b hb)
theorem foldl_sorted : ∀ (l out : List Pr), out.Pairwise le2 -> (l.foldl (fun out a => insS a out) out).Pairwise le2
 | [], _, h => h
 | a :: l, out, h => foldl_sorted l (insS a out) (insS_sorted a out h)
theorem sortS_sorted (l : List Pr) : (sortS l).Pairwise le2 := foldl_sorted l [] List.Pairwise.nil
theorem chain_lt : ∀ (l : List Pr) (last : List UInt8), chain last l = true -> l.Pairwise lt2 /\ ∀ p ∈ l, Op.bytesLess last p.1 = true
 | [], _, _ => ⟨List.Pairwise.nil, fun p h => by cases h⟩
 | q :: l, last, h => by
  have h' : (pairOk last q && chain q.1 l) = true := h
  rw [Bool.and_eq_true] at h'
  obtain ⟨h1, h2⟩ := h'
  have ih := chain_lt l q.1 h2
  have hq : Op.bytesLess last q.1 = true := by
   unfold pairOk at h1
   simp only [Bool.and_eq_true] at h1
   exact h1.1.2
  refine ⟨List.pairwise_cons.2 ⟨ih.2, ih.1⟩, fun p hp => ?_⟩
  rcases List.mem_cons.1 hp with rfl | hp
  · exact hq
  · exact less_trans hq (ih.2 p hp)
theorem formed_lt {l : List Pr} (h : formedS l = true) : l.Pairwise lt2 := by
 unfold formedS at h
 rw [Bool.and_eq_true] at h
 exact (chain_lt l [] h.2).1
theorem pairwise_two : ∀ {l : List Pr}, l.Pairwise lt2 -> ∀ x ∈ l, ∀ y ∈ l, x ≠ y -> lt2 x y \/ lt2 y x
 | [], _, _, h, _, _, _ => by cases h
 | q :: l, h, x, hx, y, hy, hxy => by
  have h' := List.pairwise_cons.1 h
  rcases List.mem_cons.1 hx with rfl | hx1
  · rcases List.mem_cons.1 hy with rfl | hy1
    · exact absurd rfl hxy
    · exact .inl (h'.1 y hy1)
  · rcases List.mem_cons.1 hy with rfl | hy1
    · exact .inr (h'.1 x hx1)
    · exact pairwise_two h'.2 x hx1 y hy1 hxy
theorem sorted_unique {ys zs : List Pr} (hp : ys.Perm zs) (hs : ys.Pairwise lt2) (hz : zs.Pairwise le2) : ys = zs := by
 refine List.Perm.eq_of_pairwise (le := le2) (fun a b ha hb h1 h2 => ?_) (hs.imp lt2_le2) hz hp
 have hb' := hp.mem_iff.2 hb
 rcases Classical.em (a = b) with e | hne
 · exact e
 · exfalso
   rcases pairwise_two hs a ha b hb' hne with h | h
   · unfold lt2 at h; unfold le2 at h2; rw [h2] at h; cases h
   · unfold lt2 at h; unfold le2 at h1; rw [h1] at h; cases h
theorem sort_same {ys xs : List Pr} (hp : ys.Perm xs) (hs : ys.Pairwise le2) : formedS ys = formedS (sortS xs) /\ (formedS ys = true -> ys = sortS xs) := by
 have hp2 : ys.Perm (sortS xs) := hp.trans (sortS_perm xs).symm
 have h1 : formedS ys = true -> ys = sortS xs := fun h => sorted_unique hp2 (formed_lt h) (sortS_sorted xs)
 refine ⟨?_, h1⟩
 cases h : formedS ys with
 | true => rw [<- h1 h]; exact h.symm
 | false =>
  cases h2 : formedS (sortS xs) with
  | false => rfl
  | true => rw [sorted_unique hp2.symm (formed_lt h2) hs] at h2; rw [h2] at h; cases h
def nameOf (p : List UInt8) : List UInt8 := p.takeWhile (· != 61)
def pairS (p : List UInt8) : Option Pr :=
 if p.contains 61 then
  if (RuS.typeOf (nameOf p)).1 = [] then none else (readS (p.drop ((nameOf p).length + 1))).map ((RuS.typeOf (nameOf p)).1, ·)
 else none
def pairsS : List (List UInt8) -> Option (List Pr)
 | [] => some []
 | p :: ps => match pairS p with
  | some a => (pairsS ps).map (a :: ·)
  | none => none
def partS (s : List UInt8) : List Pr × Int :=
 match pairsS (splitE 43 s) with
 | none => ([], 2)
 | some ps => if formedS (sortS ps) then (sortS ps, 0) else ([], 2)
theorem pairsS_snoc : ∀ (ps : List (List UInt8)) (p : List UInt8), pairsS (ps ++ [p]) = match pairsS ps, pairS p with
  | some l, some a => some (l ++ [a])
  | _, _ => none
 | [], p => by
  show pairsS [p] = _
  unfold pairsS
  cases pairS p with
  | none => rfl
  | some a => rfl
 | q :: ps, p => by
  have ih := pairsS_snoc ps p
  show pairsS (q :: (ps ++ [p])) = _
  unfold pairsS
  cases pairS q with
  | none => simp
  | some b =>
   simp only
   rw [ih]
   cases pairsS ps with
   | none => rfl
   | some l =>
    cases pairS p with
    | none => rfl
    | some a => rfl
theorem pairsS_none : ∀ {ps : List (List UInt8)} {p : List UInt8}, p ∈ ps -> pairS p = none -> pairsS ps = none
 | q :: ps, p, h, hn => by
  unfold pairsS
  rcases List.mem_cons.1 h with rfl | h
  · rw [hn]
  · cases pairS q with
    | none => rfl
    | some b => simp only; rw [pairsS_none h hn]; rfl
theorem pairsS_len : ∀ {ps : List (List UInt8)} {l : List Pr}, pairsS ps = some l -> l.length = ps.length
 | [], l, h => by cases h; rfl
 | q :: ps, l, h => by
  unfold pairsS at h
  cases hq : pairS q with
  | none => rw [hq] at h; cases h
  | some b =>
   rw [hq] at h
   cases hp : pairsS ps with
   | none => simp only [hp] at h; cases h
   | some l2 =>
    simp only [hp] at h
    have := pairsS_len hp
    have := Option.some.inj h
    subst this
    simp only [List.length_cons]; omega
theorem sortS_length (l : List Pr) : (sortS l).length = l.length := (sortS_perm l).length_eq
end Go.Proofs.YtjmfknfponjgkaaGreatDoor.RdS
namespace Go.Proofs.YtjmfknfponjgkaaGreatDoor.RdS
open Go.Lib
theorem join_snoc (X : List (List UInt8)) (y s : List UInt8) : Lib.join (X ++ [y]) s = if X.isEmpty then y else Lib.join X s ++ s ++ y := by
 cases X with
 | nil => simp [Lib.join_one]
 | cons x X =>
  simp only [List.isEmpty_cons, Bool.false_eq_true, if_false]
  unfold Lib.join List.intercalate
  induction X generalizing x with
  | nil => simp [List.intersperse]
  | cons z Z ih =>
   have := ih z
   simp only [List.cons_append, List.intersperse_cons_cons, List.flatten_cons, List.append_assoc] at this ⊢
   rw [this]
theorem textTo_join (l : List Pr) : ∀ k, k <= l.length -> textTo l k = Lib.join ((l.take k).map pairT) [43]
 | 0, _ => by simp [textTo, Lib.join, List.intercalate]
 | k + 1, h => by
  have hk : k < l.length := by omega
  rw [textTo_succ l k hk, textTo_join l k (by omega), List.take_succ_eq_append_getElem hk, List.map_append, List.map_singleton, join_snoc]
  cases k with
  | zero => simp [Lib.join, List.intercalate]
  | succ k =>
   have e : ((l.take (k + 1)).map pairT).isEmpty = false := by
    rw [List.isEmpty_eq_false_iff]; intro h2
    have h3 := congrArg List.length h2
    rw [List.length_map, List.length_take, List.length_nil] at h3; omega
   rw [if_neg (by omega), e, if_neg (by decide)]
theorem split_join {sep : UInt8} : ∀ (Ps : List (List UInt8)), Ps ≠ [] -> (∀ p ∈ Ps, NoSep sep p) -> splitE sep (Lib.join Ps [sep]) = Ps
 | [], h, _ => absurd rfl h
 | [p], _, hn => by rw [Lib.join_one]; exact (hn p (List.mem_singleton.2 rfl)).split
 | p :: q :: r, _, hn => by
  rw [RuS.join_cons_cons]
  have ih := split_join (sep := sep) (q :: r) (by simp) (fun x hx => hn x (List.mem_cons_of_mem _ hx))
  rw [show p ++ [sep] ++ Lib.join (q :: r) [sep] = p ++ sep :: Lib.join (q :: r) [sep] from by simp]
  rw [(hn p (List.mem_cons_self ..)).split_sep, ih]
theorem tab_letters : ∀ r ∈ RuS.tab, ∀ c ∈ r.2.1, 65 <= c.toNat /\ c.toNat <= 122 /\ c ≠ 92 := by decide +kernel
theorem type_letters (nm : List UInt8) : ∀ c ∈ (RuS.typeOf nm).1, 65 <= c.toNat /\ c.toNat <= 122 /\ c ≠ 92 := by
 unfold RuS.typeOf RuS.typeM
 cases h : RuS.tab.find? (fun r => RuS.lower nm == r.1) with
 | none => intro c hc; cases hc
 | some r => exact tab_letters r (List.mem_of_find?_eq_some h)
theorem pairOk_parts {last : List UInt8} {p : Pr} (h : pairOk last p = true) : (RuS.typeOf p.1).1 = p.1 /\ ((RuS.typeOf p.1).2 = 1 \/ (RuS.typeOf p.1).2 = 3) /\ Op.bytesLess last p.1 = true /\ (RuS.normal p.1 p.2).2 = 0 := by
 unfold pairOk at h
 simp only [Bool.and_eq_true, Bool.or_eq_true, beq_iff_eq] at h
 exact ⟨h.1.1.1, h.1.1.2, h.1.2, h.2⟩
theorem chain_all : ∀ {l : List Pr} {last : List UInt8}, chain last l = true -> ∀ p ∈ l, ∃ la, pairOk la p = true
 | q :: l, last, h, p, hp => by
  have h' : (pairOk last q && chain q.1 l) = true := h
  rw [Bool.and_eq_true] at h'
  rcases List.mem_cons.1 hp with rfl | hp
  · exact ⟨_, h'.1⟩
  · exact chain_all h'.2 p hp
theorem formed_parts {l : List Pr} (h : formedS l = true) : 1 <= l.length /\ l.length <= 3 /\ chain [] l = true /\ ∀ p ∈ l, (RuS.typeOf p.1).1 = p.1 /\ ((RuS.typeOf p.1).2 = 1 \/ (RuS.typeOf p.1).2 = 3) /\ (RuS.normal p.1 p.2).2 = 0 := by
 unfold formedS at h
 simp only [Bool.and_eq_true, decide_eq_true_eq] at h
 refine ⟨h.1.1, h.1.2, h.2, fun p hp => ?_⟩
 obtain ⟨la, hl⟩ := chain_all h.2 p hp
 have := pairOk_parts hl
 exact ⟨this.1, this.2.1, this.2.2.2⟩
theorem type_ne {nm : List UInt8} (h : (RuS.typeOf nm).2 = 1 \/ (RuS.typeOf nm).2 = 3) : (RuS.typeOf nm).1 ≠ [] := by
 rcases RuS.typeM_all (RuS.lower nm) with e | e
 · have e2 : RuS.typeOf nm = ([], 0) := e
   rw [e2] at h; simp at h
 · have e2 : 1 <= (RuS.typeOf nm).1.length := e.2.2.1
   intro h0; rw [h0] at e2; simp at e2
theorem takeWhile_stop {t u : List UInt8} (h : ∀ c ∈ t, c ≠ 61) : (t ++ 61 :: u).takeWhile (· != 61) = t := by
 induction t with
 | nil => simp
 | cons c t ih =>
  have hc := h c (List.mem_cons_self ..)
  rw [List.cons_append, List.takeWhile_cons, if_pos (by simpa using hc), ih (fun d hd => h d (List.mem_cons_of_mem _ hd))]
theorem pair_back {p : Pr} (h1 : (RuS.typeOf p.1).1 = p.1) (h2 : (RuS.typeOf p.1).2 = 1 \/ (RuS.typeOf p.1).2 = 3) : pairS (pairT p) = some p := by
 have hl := type_letters p.1
 rw [h1] at hl
 have hn := type_ne h2
 rw [h1] at hn
 have e : pairT p = p.1 ++ 61 :: escS p.2 := by unfold pairT; simp
 have e2 : nameOf (pairT p) = p.1 := by
  unfold nameOf
  rw [e]
  exact takeWhile_stop (fun c hc => by intro h; subst h; exact absurd (hl _ hc).1 (by decide))
 unfold pairS
 rw [e2, if_pos (by rw [e, List.contains_iff_mem]; simp), h1, if_neg hn]
 have e3 : (pairT p).drop (p.1.length + 1) = escS p.2 := by
  rw [e, List.drop_append]
  simp
 rw [e3, read_escS]
 rfl
theorem pairT_noSep {sep : UInt8} (hs : special sep = true) (h9 : sep ≠ 92) (hr : sep.toNat < 65) {p : Pr} (h1 : (RuS.typeOf p.1).1 = p.1) : NoSep sep (pairT p) := by
 have hl := type_letters p.1
 rw [h1] at hl
 unfold pairT
 refine NoSep.append (NoSep.append (NoSep.all (fun c hc => ⟨?_, (hl c hc).2.2⟩)) (NoSep.one (special_sep hs (by decide)) (by decide))) (escS_noSep hs h9 p.2)
 intro h; subst h; have := (hl _ hc).1; omega
theorem pairs_back : ∀ {l : List Pr}, (∀ p ∈ l, pairS (pairT p) = some p) -> pairsS (l.map pairT) = some l
 | [], _ => rfl
 | p :: l, h => by
  rw [List.map_cons]
  unfold pairsS
  rw [h p (List.mem_cons_self ..)]
  simp only
  rw [pairs_back (fun q hq => h q (List.mem_cons_of_mem _ hq))]
  rfl
theorem sort_formed {l : List Pr} (h : formedS l = true) : sortS l = l := ((sort_same (List.Perm.refl l) ((formed_lt h).imp lt2_le2)).2 h).symm
theorem part_back {l : List Pr} (h : formedS l = true) : partS (textTo l l.length) = (l, 0) := by
 obtain ⟨g1, g2, g3, g4⟩ := formed_parts h
 have e : splitE 43 (textTo l l.length) = l.map pairT := by
  rw [textTo_join l _ (Nat.le_refl _), List.take_length]
  refine split_join _ ?_ ?_
  · intro h0; have := congrArg List.length h0; rw [List.length_map] at this; simp at this; rw [this] at g1; simp at g1
  · intro x hx
    obtain ⟨p, hp, rfl⟩ := List.mem_map.1 hx
    exact pairT_noSep (by decide) (by decide) (by decide) (g4 p hp).1
 unfold partS
 rw [e, pairs_back (fun p hp => pair_back (g4 p hp).1 (g4 p hp).2.1)]
 simp only
 rw [sort_formed h, if_pos h]
theorem part_formed {s : List UInt8} {l : List Pr} (h : partS s = (l, 0)) : formedS l = true := by
 unfold partS at h
 split at h
 · cases h
 · rename_i ps hp
   split at h
   · rename_i hf; cases h; exact hf
   · cases h
theorem part_none {s : List UInt8} (h : (partS s).2 ≠ 0) : partS s = ([], 2) := by
 unfold partS at h ⊢
 split
 · rfl
 · rename_i ps hp
   rw [hp] at h
   simp only at h
   split
   · rename_i hf; rw [if_pos hf] at h; exact absurd rfl h
   · rfl
def normL (l : List Pr) : List Pr := l.map fun p => (p.1, (RuS.normal p.1 p.2).1)
def normP (l : List Pr) : List Pr × Int := if formedS l then (normL l, 0) else ([], 1)
theorem norm_pairOk {last : List UInt8} {p : Pr} (h : pairOk last p = true) : pairOk last (p.1, (RuS.normal p.1 p.2).1) = true /\ (RuS.normal p.1 (RuS.normal p.1 p.2).1).1 = (RuS.normal p.1 p.2).1 := by
 obtain ⟨h1, h2, h3, h4⟩ := pairOk_parts h
 have hn : RuS.normal p.1 p.2 = ((RuS.normal p.1 p.2).1, 0) := by rw [<- h4]
 have hi := RuS.normal_idem hn
 refine ⟨?_, by rw [hi]⟩
 unfold pairOk
 simp only [Bool.and_eq_true, Bool.or_eq_true, beq_iff_eq]
 exact ⟨⟨⟨h1, h2⟩, h3⟩, by rw [hi]⟩
theorem norm_chain : ∀ {l : List Pr} {last : List UInt8}, chain last l = true -> chain last (normL l) = true /\ normL (normL l) = normL l
 | [], _, _ => ⟨rfl, rfl⟩
 | q :: l, last, h => by
  have h' : (pairOk last q && chain q.1 l) = true := h
  rw [Bool.and_eq_true] at h'
  have h1 := norm_pairOk h'.1
  have ih := norm_chain h'.2
  refine ⟨?_, ?_⟩
  · show (pairOk last (q.1, (RuS.normal q.1 q.2).1) && chain q.1 (normL l)) = true
    rw [h1.1, ih.1]; rfl
  · show (q.1, (RuS.normal q.1 (RuS.normal q.1 q.2).1).1) :: normL (normL l) = (q.1, (RuS.normal q.1 q.2).1) :: normL l
    rw [h1.2, ih.2]
theorem normL_length (l : List Pr) : (normL l).length = l.length := by unfold normL; rw [List.length_map]
theorem norm_formed {l : List Pr} (h : formedS l = true) : formedS (normL l) = true /\ normL (normL l) = normL l := by
 unfold formedS at h ⊢
 simp only [Bool.and_eq_true, decide_eq_true_eq] at h
 have := norm_chain h.2
 refine ⟨?_, this.2⟩
 rw [normL_length, this.1, decide_eq_true h.1.1, decide_eq_true h.1.2]; rfl
theorem escS_len (v : List UInt8) : (escS v).length <= 3 * v.length := escTo_len v v.length (Nat.le_refl _)
theorem pairT_len (p : Pr) : (pairT p).length <= p.1.length + 1 + 3 * p.2.length := by
 have := escS_len p.2
 unfold pairT
 simp only [List.length_append, List.length_cons, List.length_nil]; omega
theorem textTo_len (l : List Pr) (m : Nat) (h : ∀ p ∈ l, p.1.length <= m /\ p.2.length <= m) : ∀ k, k <= l.length -> (textTo l k).length <= k * (4 * m + 2)
 | 0, _ => by simp [textTo]
 | k + 1, hk => by
  have hl : k < l.length := by omega
  have ih := textTo_len l m h k (by omega)
  have h1 := pairT_len l[k]
  have h2 := h l[k] (List.getElem_mem hl)
  rw [textTo_succ l k hl, List.length_append, List.length_append]
  have h3 : (if k = 0 then ([] : List UInt8) else [43]).length <= 1 := by split <;> simp
  have h4 : (k + 1) * (4 * m + 2) = k * (4 * m + 2) + (4 * m + 2) := by rw [Nat.add_mul, Nat.one_mul]
  omega
theorem formed_small {l : List Pr} (h : formedS l = true) : l.length <= 3 /\ ∀ p ∈ l, p.1.length <= 17 /\ p.2.length <= 200 := by
 obtain ⟨g1, g2, g3, g4⟩ := formed_parts h
 refine ⟨g2, fun p hp => ?_⟩
 obtain ⟨h1, h2, h3⟩ := g4 p hp
 refine ⟨?_, ?_⟩
 · rw [<- h1]
   rcases RuS.typeM_all (RuS.lower p.1) with e | e
   · have : RuS.typeOf p.1 = ([], 0) := e
     rw [this]; simp
   · exact e.2.2.2
 · exact (RuS.normal_ok (nm := p.1) (v := p.2) (s := (RuS.normal p.1 p.2).1) (by rw [<- h3])).2.2.1
theorem text_small {l : List Pr} (h : formedS l = true) (k : Nat) (hk : k <= l.length) : (textTo l k).length <= 3000 := by
 have hs := formed_small h
 have := textTo_len l 200 (fun p hp => ⟨by have := (hs.2 p hp).1; omega, (hs.2 p hp).2⟩) k hk
 have h2 : k <= 3 := by omega
 have : k * (4 * 200 + 2) <= 3 * (4 * 200 + 2) := Nat.mul_le_mul_right _ h2
 omega
end Go.Proofs.YtjmfknfponjgkaaGreatDoor.RdS
namespace Go.Proofs.YtjmfknfponjgkaaGreatDoor.DnS
open Go.Lib RdS
def partsS : List (List UInt8) -> Option (List (List Pr))
 | [] => some []
 | p :: ps => if (partS p).2 = 0 then (partsS ps).map ((partS p).1 :: ·) else none
def nameS (s : List UInt8) : List (List Pr) × Int :=
 if 1000 < s.length then ([], 4) else if s = [] then ([], 0) else if 12 < (splitE 44 s).length then ([], 4)
 else match partsS (splitE 44 s) with
  | none => ([], 2)
  | some l => (l, 0)
def ntext (l : List Pr) : List UInt8 := (printS (normL l)).1
def joinS (ts : List (List UInt8)) : List UInt8 := Lib.join ts [44]
def textsS (s : List UInt8) : List (List UInt8) × Int :=
 if (nameS s).2 = 0 then (if 1000 < (joinS ((nameS s).1.map ntext)).length then ([], 4) else ((nameS s).1.map ntext, 0)) else ([], (nameS s).2)
def normN (s : List UInt8) : List UInt8 × Int := (joinS (textsS s).1, (textsS s).2)
theorem partsS_formed : ∀ {ps : List (List UInt8)} {l : List (List Pr)}, partsS ps = some l -> l.length = ps.length /\ ∀ q ∈ l, formedS q = true
 | [], l, h => by cases h; exact ⟨rfl, fun q hq => by cases hq⟩
 | p :: ps, l, h => by
  unfold partsS at h
  split at h
  · rename_i h0
    obtain ⟨l2, hl2, rfl⟩ := Option.map_eq_some_iff.1 h
    have ih := partsS_formed hl2
    refine ⟨by simp [ih.1], fun q hq => ?_⟩
    rcases List.mem_cons.1 hq with rfl | hq
    · exact part_formed (s := p) (by rw [<- h0])
    · exact ih.2 q hq
  · cases h
theorem nameS_formed {s : List UInt8} {l : List (List Pr)} (h : nameS s = (l, 0)) : l.length <= 12 /\ (∀ q ∈ l, formedS q = true) /\ (l = [] ↔ s = []) := by
 unfold nameS at h
 split at h
 · cases h
 · split at h
   · rename_i hs
     cases h
     exact ⟨by simp, fun q hq => (by cases hq), ⟨fun _ => hs, fun _ => rfl⟩⟩
   · split at h
     · cases h
     · rename_i hs h12
       cases hp : partsS (splitE 44 s) with
       | none => rw [hp] at h; cases h
       | some l2 =>
        rw [hp] at h
        cases h
        have := partsS_formed hp
        obtain ⟨p0, ps0, e⟩ := splitE_ne 44 s
        refine ⟨by rw [this.1]; omega, this.2, ⟨fun h0 => ?_, fun h0 => absurd h0 hs⟩⟩
        rw [h0, e] at this; simp at this
theorem ntext_eq {l : List Pr} (h : formedS l = true) : ntext l = textTo (normL l) (normL l).length := by
 unfold ntext printS
 rw [if_pos (norm_formed h).1]
theorem ntext_back {l : List Pr} (h : formedS l = true) : partS (ntext l) = (normL l, 0) := by rw [ntext_eq h]; exact part_back (norm_formed h).1
theorem ntext_ne {l : List Pr} (h : formedS l = true) : ntext l ≠ [] := by
 intro h0
 have hb := ntext_back h
 rw [h0] at hb
 have : partS [] = ([], 2) := by decide +kernel
 rw [this] at hb
 have h2 := congrArg Prod.snd hb
 exact absurd (show (2 : Int) = 0 from h2) (by decide)
theorem textsS_spec {s : List UInt8} {ts : List (List UInt8)} (h : textsS s = (ts, 0)) : ∃ l, nameS s = (l, 0) /\ ts = l.map ntext /\ (joinS ts).length <= 1000 := by
 unfold textsS at h
 split at h
 · rename_i h0
   split at h
   · cases h
   · rename_i h1
     cases h
     exact ⟨_, by rw [<- h0], rfl, by omega⟩
 · rename_i h0
   injection h with _ h2
   exact absurd h2 h0
end Go.Proofs.YtjmfknfponjgkaaGreatDoor.DnS
namespace Go.Proofs.YtjmfknfponjgkaaGreatDoor.DnS
open Go.Lib RdS
def fitS (ts : List (List UInt8)) : List UInt8 × Int := if 12 < ts.length \/ 1000 < (joinS ts).length then ([], 4) else (joinS ts, 0)
theorem ntext_small {l : List Pr} (h : formedS l = true) : (ntext l).length <= 3000 := by
 rw [ntext_eq h]; exact text_small (norm_formed h).1 _ (Nat.le_refl _)
theorem printS_norm {l : List Pr} (h : formedS l = true) : printS (normL l) = (ntext l, 0) := by
 unfold ntext printS; rw [if_pos (norm_formed h).1]
theorem normP_formed {l : List Pr} (h : formedS l = true) : normP l = (normL l, 0) := by unfold normP; rw [if_pos h]
def PartT (t : List UInt8) : Prop := ∃ q, formedS q = true /\ t = ntext q
theorem parts_of {s : List UInt8} {ts : List (List UInt8)} (h : textsS s = (ts, 0)) : ts.length <= 12 /\ (joinS ts).length <= 1000 /\ ∀ t ∈ ts, PartT t := by
 obtain ⟨l, hl, rfl, hlen⟩ := textsS_spec h
 have hf := nameS_formed hl
 refine ⟨by rw [List.length_map]; exact hf.1, hlen, fun t ht => ?_⟩
 obtain ⟨q, hq, rfl⟩ := List.mem_map.1 ht
 exact ⟨q, hf.2.1 q hq, rfl⟩
theorem fit_in {ts : List (List UInt8)} (hn : ts.length <= 12) (hl : (joinS ts).length <= 1000) : fitS ts = (joinS ts, 0) := by
 unfold fitS; rw [if_neg (by omega)]
theorem texts_bad {s : List UInt8} (h : (textsS s).2 ≠ 0) : (textsS s).1 = [] := by
 unfold textsS at h ⊢
 split
 · rename_i h0
   rw [if_pos h0] at h
   split
   · rfl
   · rename_i h1; rw [if_neg h1] at h; exact absurd rfl h
 · rfl
theorem texts_len (s : List UInt8) : (textsS s).1.length <= 12 /\ (joinS (textsS s).1).length <= 1000 := by
 by_cases h : (textsS s).2 = 0
 · have := parts_of (s := s) (ts := (textsS s).1) (by rw [<- h])
   exact ⟨this.1, this.2.1⟩
 · rw [texts_bad h]; exact ⟨by simp, by simp [joinS, Lib.join, List.intercalate]⟩
theorem norm_len (s : List UInt8) : (normN s).1.length <= 1000 := (texts_len s).2
theorem texts_each {s : List UInt8} : ∀ t ∈ (textsS s).1, t.length <= 3000 := by
 intro t ht
 by_cases h : (textsS s).2 = 0
 · obtain ⟨q, hq, rfl⟩ := (parts_of (s := s) (ts := (textsS s).1) (by rw [<- h])).2.2 t ht
   exact ntext_small hq
 · rw [texts_bad h] at ht; cases ht
theorem norm_empty {s : List UInt8} (h : (normN s).2 = 0) : (normN s).1 = [] ↔ s = [] := by
 obtain ⟨l, hl, hts, _⟩ := textsS_spec (s := s) (ts := (textsS s).1) (by
  have : (textsS s).2 = 0 := h
  rw [<- this])
 have hf := nameS_formed hl
 rw [<- hf.2.2]
 show joinS (textsS s).1 = [] ↔ _
 rw [hts]
 cases l with
 | nil => simp [joinS, Lib.join, List.intercalate]
 | cons q l =>
  refine ⟨fun h0 => ?_, fun h0 => (by cases h0)⟩
  have hq := ntext_ne (hf.2.1 q (List.mem_cons_self ..))
  have := join_first (ntext q) (l.map ntext)
  rw [List.map_cons] at h0
  rw [h0] at this
  have h1 : (ntext q).length = 0 := Nat.eq_zero_of_le_zero this
  exact absurd (List.eq_nil_of_length_eq_zero h1) hq
where
 join_first (t : List UInt8) : ∀ ts : List (List UInt8), t.length <= (joinS (t :: ts)).length
  | [] => by unfold joinS; rw [Lib.join_one]; exact Nat.le_refl _
  | u :: ts => by
   unfold joinS
   rw [RuS.join_cons_cons, List.length_append, List.length_append]
   omega
def valueS (nm v : List UInt8) : List UInt8 × Int :=
 if (RuS.typeOf nm).2 = 5 then (if v.length < 1 \/ 200 < v.length then ([], 2) else if (normN v).2 = 0 then ((normN v).1, 0) else ([], 2)) else RuS.normal nm v
theorem valueS_alt (nm v : List UInt8) : valueS nm v = if (RuS.typeOf nm).2 = 5 then (if (normN v).2 ≠ 0 \/ (normN v).1 = [] \/ 200 < v.length then ([], 2) else ((normN v).1, 0)) else RuS.normal nm v := by
 unfold valueS
 split
 · by_cases h0 : (normN v).2 = 0
   · have he := norm_empty h0
     rw [if_pos h0]
     by_cases h1 : v = []
     · subst h1
       rw [if_pos (.inl (by simp)), if_pos (.inr (.inl (he.2 rfl)))]
     · have hl : 1 <= v.length := by
        rcases Nat.eq_zero_or_pos v.length with h | h
        · exact absurd (List.eq_nil_of_length_eq_zero h) h1
        · exact h
       have h2 : (normN v).1 ≠ [] := fun h => h1 (he.1 h)
       by_cases h3 : 200 < v.length
       · rw [if_pos (.inr h3), if_pos (.inr (.inr h3))]
       · rw [if_neg (by omega), if_neg]
         rintro (h | h | h)
         · exact h h0
         · exact h2 h
         · exact h3 h
   · rw [if_neg h0, ite_self, if_pos (.inl h0)]
 · rfl
end Go.Proofs.YtjmfknfponjgkaaGreatDoor.DnS
namespace Go.Proofs.YtjmfknfponjgkaaGreatDoor
namespace EnS
open Go.Lib DnS
structure At where
 typ : List UInt8
 vals : List (List UInt8)
structure En where
 name : List UInt8
 attrs : List At
end EnS
end Go.Proofs.YtjmfknfponjgkaaGreatDoor
