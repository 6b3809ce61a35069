/- Plain laws of entries: an attribute's values, what is alike, aliases; and of names that aliases turn. No condition beyond those that each theorem states. -/
import Derived.Test.YtifjghkgmfmneaaGreatDoorDnS
namespace Go.Proofs.YtifjghkgmfmneaaGreatDoor
namespace EnS
open Go.Lib DnS

structure At where
  typ : List UInt8
  vals : List (List UInt8)
structure En where
  name : List UInt8
  attrs : List At
def tClass : List UInt8 := [111, 98, 106, 101, 99, 116, 67, 108, 97, 115, 115]
def tTarget : List UInt8 := [97, 108, 105, 97, 115, 101, 100, 79, 98, 106, 101, 99, 116, 78, 97, 109, 101]
def tAlias : List UInt8 := [97, 108, 105, 97, 115]
/-- the values of an attribute, by its type's text -/
def valuesL : List At → List UInt8 → List (List UInt8)
  | [], _ => []
  | a :: l, t => if a.typ = t then a.vals else valuesL l t
def valuesS (e : En) (nm : List UInt8) : List (List UInt8) := if (RuS.typeOf nm).1 = [] then [] else valuesL e.attrs (RuS.typeOf nm).1
/-- has a value the normal form n? -/
def meetS (nm n v : List UInt8) : Bool := decide ((valueS nm v).2 = 0) && ((valueS nm v).1 == n)
def findI (nm : List UInt8) (l : List (List UInt8)) (v : List UInt8) : Option Nat := if (valueS nm v).2 = 0 then l.findIdx? (meetS nm (valueS nm v).1) else none
def withinS (nm : List UInt8) (l : List (List UInt8)) (v : List UInt8) : Bool := decide ((valueS nm v).2 = 0) && l.any (meetS nm (valueS nm v).1)
theorem find_within (nm : List UInt8) (l : List (List UInt8)) (v : List UInt8) : (findI nm l v).isSome = withinS nm l v := by
  unfold findI withinS
  by_cases h : (valueS nm v).2 = 0
  · rw [if_pos h, decide_eq_true h, Bool.true_and, List.findIdx?_isSome]
  · rw [if_neg h, decide_eq_false h]; rfl
def hasS (e : En) (nm v : List UInt8) : Bool := withinS nm (valuesS e nm) v
def aliasL (l : List (List UInt8)) (al : Bool) : List UInt8 × Bool :=
  match l with
  | [] => ([], false)
  | v :: _ => if al = true then ((valueS tTarget v).1, decide ((valueS tTarget v).2 = 0)) else ([], false)
def aliasS (e : En) : List UInt8 × Bool := aliasL (valuesS e tTarget) (hasS e tClass tAlias)

/-! names that aliases turn -/
def better (n : List UInt8) (acc : Option (List UInt8 × List UInt8)) (e : En) : Bool :=
  (aliasS e).2 && underS n e.name && (match acc with | none => true | some p => decide ((textsS e.name).1.length < (textsS p.1).1.length))
def pickE (n : List UInt8) (acc : Option (List UInt8 × List UInt8)) (e : En) : Option (List UInt8 × List UInt8) := if better n acc e = true then some (e.name, (aliasS e).1) else acc
def pickS (n : List UInt8) (l : List En) : Option (List UInt8 × List UInt8) := l.foldl (pickE n) none
def turnS (n : List UInt8) (o : Option (List UInt8 × List UInt8)) : List UInt8 × Bool × Int :=
  match o with
  | none => (n, false, 0)
  | some p => if (moveS n p.1 p.2).2 = 0 then ((moveS n p.1 p.2).1, true, 0) else ([], false, 33)
def stepS (l : List En) (s : List UInt8) : List UInt8 × Bool × Int :=
  if (normN s).2 = 0 then turnS (normN s).1 (pickS (normN s).1 l) else ([], false, 34)
theorem pick_step {n : List UInt8} {l : List En} {k : Nat} (hk : k < l.length) : pickS n (l.take (k + 1)) = pickE n (pickS n (l.take k)) l[k] := by
  unfold pickS
  rw [List.take_succ_eq_append_getElem hk, List.foldl_append, List.foldl_cons, List.foldl_nil]
theorem move_norm {s f d x : List UInt8} (h : moveS s f d = (x, 0)) : normN x = (x, 0) := by
  obtain ⟨_, _, h3, r, hr, ht⟩ := move_spec h
  have hx : x = joinS (r ++ (textsS d).1) := by
    obtain ⟨h1, h2, _⟩ := move_spec h
    have hb : belowS (textsS s).1 (textsS f).1 = some r := below_iff.2 hr
    unfold moveS at h
    rw [if_pos h1, if_pos h2, if_pos h3, hb] at h
    exact (fit_yes h).2.2
  unfold normN
  rw [ht]
  simp only
  rw [← hx]
theorem step_normal {l : List En} {s x : List UInt8} {b : Bool} (h : stepS l s = (x, b, 0)) : normN x = (x, 0) := by
  unfold stepS at h
  split at h
  · rename_i h0
    unfold turnS at h
    split at h
    · cases h; exact norm_norm h0
    · split at h
      · rename_i h1
        simp only [Prod.mk.injEq] at h
        obtain ⟨hx, _, _⟩ := h
        rw [← hx]
        exact move_norm (by rw [← h1])
      · cases h
  · cases h
theorem fold_no {n : List UInt8} : ∀ {l : List En} {acc : Option (List UInt8 × List UInt8)}, (∀ e ∈ l, (aliasS e).2 = false) → l.foldl (pickE n) acc = acc
  | [], _, _ => rfl
  | e :: l, acc, h => by
    have h1 : pickE n acc e = acc := by unfold pickE better; rw [h e (List.mem_cons_self ..)]; rfl
    rw [List.foldl_cons, h1]
    exact fold_no (fun x hx => h x (List.mem_cons_of_mem _ hx))
theorem step_plain {l : List En} (h : ∀ e ∈ l, (aliasS e).2 = false) {n : List UInt8} (hn : normN n = (n, 0)) : stepS l n = (n, false, 0) := by
  unfold stepS pickS
  rw [hn, if_pos rfl, fold_no h]
  rfl

/-- the names that a name becomes: those gone through, the last one, a code -/
def trailS (l : List En) : Nat → List (List UInt8) → List UInt8 → List (List UInt8) × List UInt8 × Int
  | 0, _, _ => ([], [], 36)
  | k + 1, seen, n =>
    if (stepS l n).2.2 = 0 then (if (stepS l n).2.1 = true then (if seen.contains (stepS l n).1 = true ∨ 16 < seen.length then ([], [], 36) else trailS l k (seen ++ [(stepS l n).1]) (stepS l n).1) else (seen, n, 0))
    else ([], [], (stepS l n).2.2)
def inS (l : List En) (n : List UInt8) : Bool := l.any (fun e => e.name == n)
def endS (l : List En) (seen : List (List UInt8)) (n : List UInt8) : List UInt8 × Bool × Int :=
  if n ≠ [] ∧ inS l n = false then ([], false, if 1 < seen.length then 33 else 32) else (n, decide (1 < seen.length), 0)
def goalS (l : List En) (t : List (List UInt8) × List UInt8 × Int) : List UInt8 × Bool × Int := if t.2.2 = 0 then endS l t.1 t.2.1 else ([], false, t.2.2)
def findS (l : List En) (s : List UInt8) (follow : Bool) : List UInt8 × Bool × Int :=
  if (normN s).2 = 0 then (if follow = true then goalS l (trailS l 17 [(normN s).1] (normN s).1) else endS l [(normN s).1] (normN s).1) else ([], false, 34)
theorem trail_end {l : List En} : ∀ {k : Nat} {seen : List (List UInt8)} {n : List UInt8} {sn : List (List UInt8)} {m : List UInt8}, normN n = (n, 0) → trailS l k seen n = (sn, m, 0) → normN m = (m, 0) ∧ ∃ to, stepS l m = (to, false, 0)
  | 0, seen, n, sn, m, hn, h => by cases h
  | k + 1, seen, n, sn, m, hn, h => by
    unfold trailS at h
    split at h
    · rename_i hc
      split at h
      · rename_i hm
        split at h
        · cases h
        · exact trail_end (step_normal (l := l) (s := n) (b := true) (by rw [← hc, ← hm])) h
      · rename_i hm
        simp only [Prod.mk.injEq] at h
        obtain ⟨rfl, rfl, _⟩ := h
        refine ⟨hn, (stepS l n).1, ?_⟩
        have hm' : (stepS l n).2.1 = false := by simpa using hm
        rw [← hc, ← hm']
    · rename_i hc
      simp only [Prod.mk.injEq] at h
      exact absurd h.2.2 hc
theorem end_code {l : List En} {seen : List (List UInt8)} {n : List UInt8} (h : (endS l seen n).2.2 = 0) : (n = [] ∨ inS l n = true) ∧ endS l seen n = (n, decide (1 < seen.length), 0) := by
  unfold endS at h ⊢
  split at h
  · split at h <;> cases h
  · rename_i h9
    refine ⟨?_, by rw [if_neg h9]⟩
    by_cases h0 : n = []
    · exact .inl h0
    · right
      cases hi : inS l n with
      | true => rfl
      | false => exact absurd ⟨h0, hi⟩ h9
theorem end_no {l : List En} {seen : List (List UInt8)} {n : List UInt8} (h : (endS l seen n).2.2 ≠ 0) : (endS l seen n).1 = [] ∧ (endS l seen n).2.1 = false ∧ n ≠ [] ∧ inS l n = false ∧ (endS l seen n).2.2 = (if 1 < seen.length then 33 else 32) := by
  unfold endS at h ⊢
  split at h
  · rename_i h9
    rw [if_pos h9]
    exact ⟨rfl, rfl, h9.1, h9.2, rfl⟩
  · exact absurd rfl h
theorem find_code {l : List En} {s : List UInt8} {f : Bool} (h : (findS l s f).2.2 ≠ 0) : (findS l s f).1 = [] := by
  unfold findS at h ⊢
  split
  · rename_i h0
    rw [if_pos h0] at h
    cases f with
    | true =>
      rw [if_pos rfl] at h ⊢
      unfold goalS at h ⊢
      split
      · rename_i h1
        rw [if_pos h1] at h
        exact (end_no h).1
      · rfl
    | false =>
      rw [if_neg (by simp)] at h ⊢
      exact (end_no h).1
  · rfl
theorem find_in {l : List En} {n : List UInt8} (hn : normN n = (n, 0)) (hi : n = [] ∨ inS l n = true) (hs : ∃ to, stepS l n = (to, false, 0)) : findS l n true = (n, false, 0) := by
  obtain ⟨to, hs⟩ := hs
  unfold findS
  rw [hn, if_pos rfl, if_pos rfl]
  unfold trailS
  rw [hs, if_pos rfl, if_neg (by simp)]
  unfold goalS
  rw [if_pos rfl]
  unfold endS
  rw [if_neg (by rintro ⟨h1, h2⟩; rcases hi with h | h; exact h1 h; rw [h] at h2; cases h2)]
  rfl
theorem find_ends {l : List En} {s : List UInt8} (h : (findS l s true).2.2 = 0) : normN (findS l s true).1 = ((findS l s true).1, 0) ∧ ((findS l s true).1 = [] ∨ inS l (findS l s true).1 = true) ∧ findS l (findS l s true).1 true = ((findS l s true).1, false, 0) := by
  have key : ∃ n, (findS l s true).1 = n ∧ normN n = (n, 0) ∧ (n = [] ∨ inS l n = true) ∧ ∃ to, stepS l n = (to, false, 0) := by
    unfold findS at h ⊢
    split at h
    · rename_i h0
      rw [if_pos h0]
      rw [if_pos rfl] at h ⊢
      unfold goalS at h ⊢
      split at h
      · rename_i h1
        rw [if_pos h1]
        have he := end_code h
        rw [he.2]
        simp only
        have ht := trail_end (l := l) (k := 17) (seen := [(normN s).1]) (n := (normN s).1) (sn := (trailS l 17 [(normN s).1] (normN s).1).1) (m := (trailS l 17 [(normN s).1] (normN s).1).2.1) (norm_norm h0) (by rw [← h1])
        exact ⟨_, rfl, ht.1, he.1, ht.2⟩
      · rename_i h1; exact absurd h h1
    · cases h
  obtain ⟨n, he, h1, h2, h3⟩ := key
  rw [he]
  exact ⟨h1, h2, find_in h1 h2 h3⟩
theorem find_plain {l : List En} (h : ∀ e ∈ l, (aliasS e).2 = false) {s : List UInt8} : findS l s true = findS l s false := by
  unfold findS
  split
  · rename_i h0
    rw [if_pos rfl, if_neg (by simp)]
    unfold trailS
    rw [step_plain h (norm_norm h0), if_pos rfl, if_neg (by simp)]
    unfold goalS
    rw [if_pos rfl]
  · rfl
theorem find_still {l : List En} {s : List UInt8} (h0 : (normN s).2 = 0) : (findS l s false).2.1 = false ∧ ((findS l s false).2.2 = 0 → (findS l s false).1 = (normN s).1) ∧ ((findS l s false).2.2 ≠ 0 → (findS l s false).2.2 = 32) ∧
    (decide ((findS l s false).2.2 = 0) = (((normN s).1 == []) || inS l (normN s).1)) := by
  unfold findS
  rw [if_pos h0, if_neg (by simp)]
  unfold endS
  split
  · rename_i h9
    refine ⟨rfl, fun h => (by cases h), fun _ => rfl, ?_⟩
    rw [h9.2]
    have : ((normN s).1 == []) = false := by simpa using h9.1
    rw [this]; rfl
  · rename_i h9
    refine ⟨rfl, fun _ => rfl, fun h => absurd rfl h, ?_⟩
    show true = _
    by_cases hn : (normN s).1 = []
    · rw [hn]; rfl
    · cases hi : inS l (normN s).1 with
      | true => simp
      | false => exact absurd ⟨hn, hi⟩ h9

/-! aliases in a ring -/
def nmR (i : Nat) : List UInt8 := [99, 110, 61, UInt8.ofNat (97 + i)]
def preR (i : Nat) : List UInt8 := [99, 110, 61, 120, 44, 99, 110, 61, UInt8.ofNat (97 + i)]
def enR (k i : Nat) : En := ⟨nmR i, [⟨tTarget, [nmR ((i + 1) % k)]⟩, ⟨tClass, [tAlias]⟩]⟩
def ringR (k : Nat) : List En := (List.range k).map (enR k)
theorem texts_nmR : ∀ i : Fin 12, textsS (nmR i.val) = ([nmR i.val], 0) := by decide +kernel
theorem texts_preR : ∀ i : Fin 12, textsS (preR i.val) = ([[99, 110, 61, 120], nmR i.val], 0) := by decide +kernel
theorem value_nmR : ∀ i : Fin 12, valueS tTarget (nmR i.val) = (nmR i.val, 0) := by decide +kernel
theorem class_alias : valueS tClass tAlias = (tAlias, 0) := by decide +kernel
theorem types_two : (RuS.typeOf tTarget).1 = tTarget ∧ (RuS.typeOf tClass).1 = tClass := by decide +kernel
theorem fit_nmR : ∀ i : Fin 12, fitS [nmR i.val] = (nmR i.val, 0) ∧ fitS [[99, 110, 61, 120], nmR i.val] = (preR i.val, 0) := by decide +kernel
theorem nmR_inj : ∀ i j : Fin 12, nmR i.val = nmR j.val → i = j := by decide +kernel
theorem alias_enR {k i : Nat} (hk : (i + 1) % k < 12) : aliasS (enR k i) = (nmR ((i + 1) % k), true) := by
  have h1 : valuesS (enR k i) tTarget = [nmR ((i + 1) % k)] := by
    unfold valuesS
    rw [types_two.1, if_neg (by decide)]
    rfl
  have h2 : hasS (enR k i) tClass tAlias = true := by
    have : valuesS (enR k i) tClass = [tAlias] := by
      unfold valuesS
      rw [types_two.2, if_neg (by decide)]
      show valuesL [⟨tTarget, [nmR ((i + 1) % k)]⟩, ⟨tClass, [tAlias]⟩] tClass = [tAlias]
      unfold valuesL
      rw [if_neg (by show ¬ tTarget = tClass; decide)]
      unfold valuesL
      rw [if_pos rfl]
    unfold hasS withinS meetS
    rw [this, class_alias]
    decide
  unfold aliasS
  rw [h1, h2]
  show (if true = true then ((valueS tTarget (nmR ((i + 1) % k))).1, decide ((valueS tTarget (nmR ((i + 1) % k))).2 = 0)) else ([], false)) = _
  rw [if_pos rfl, value_nmR ⟨_, hk⟩]
  rfl
theorem below_one (p x y : List UInt8) : belowS [x] [y] = (if x = y then some [] else none) ∧ belowS [p, x] [y] = (if x = y then some [p] else none) := by
  unfold belowS
  simp
theorem pick_ring {n : List UInt8} {K i : Nat} (hK : K ≤ 12) (hi : i < 12) (hK0 : 0 < K) (hn : ∀ j : Fin 12, underS n (nmR j.val) = decide (i = j.val)) :
    ∀ k, k ≤ K → pickS n ((List.range k).map (enR K)) = if i < k then some (nmR i, nmR ((i + 1) % K)) else none
  | 0, _ => rfl
  | k + 1, hk => by
    have ih := pick_ring hK hi hK0 hn k (by omega)
    unfold pickS at ih ⊢
    rw [List.range_succ, List.map_append, List.foldl_append, ih]
    show pickE n _ (enR K k) = _
    have hmod : (k + 1) % K < 12 := Nat.lt_of_lt_of_le (Nat.mod_lt _ hK0) hK
    have ha := alias_enR (i := k) hmod
    have hu : underS n (enR K k).name = decide (i = k) := hn ⟨k, by omega⟩
    unfold pickE better
    rw [ha, hu]
    by_cases h : i = k
    · subst h
      rw [if_neg (Nat.lt_irrefl _), if_pos (Nat.lt_succ_self _)]
      simp [enR]
    · rw [decide_eq_false h]
      simp only [Bool.and_false, Bool.false_and]
      rw [if_neg (by simp)]
      by_cases h2 : i < k
      · rw [if_pos h2, if_pos (by omega)]
      · rw [if_neg h2, if_neg (by omega)]
theorem step_ring {K i : Nat} (hK : K ≤ 12) (hi : i < K) : stepS (ringR K) (nmR i) = (nmR ((i + 1) % K), true, 0) ∧ stepS (ringR K) (preR i) = (preR ((i + 1) % K), true, 0) := by
  have hK0 : 0 < K := by omega
  have hi12 : i < 12 := by omega
  have hj : (i + 1) % K < 12 := Nat.lt_of_lt_of_le (Nat.mod_lt _ hK0) hK
  have t1 := texts_nmR ⟨i, hi12⟩
  have t2 := texts_preR ⟨i, hi12⟩
  have t3 := texts_nmR ⟨_, hj⟩
  have f := fit_nmR ⟨_, hj⟩
  have f0 := fit_nmR ⟨i, hi12⟩
  simp only at t1 t2 t3 f f0
  have hne : ∀ j : Fin 12, decide (nmR i = nmR j.val) = decide (i = j.val) := fun j => by
    by_cases h : i = j.val
    · rw [decide_eq_true h, decide_eq_true (by rw [h])]
    · rw [decide_eq_false h, decide_eq_false (fun e => h (congrArg Fin.val (nmR_inj ⟨i, hi12⟩ j e)))]
  have u1 : ∀ j : Fin 12, underS (nmR i) (nmR j.val) = decide (i = j.val) := fun j => by
    unfold underS
    rw [t1, texts_nmR j]
    simp only
    rw [(below_one [] _ _).1, ← hne j]
    by_cases h : nmR i = nmR j.val
    · rw [if_pos h, decide_eq_true h]; rfl
    · rw [if_neg h, decide_eq_false h]; rfl
  have u2 : ∀ j : Fin 12, underS (preR i) (nmR j.val) = decide (i = j.val) := fun j => by
    unfold underS
    rw [t2, texts_nmR j]
    simp only
    rw [(below_one _ _ _).2, ← hne j]
    by_cases h : nmR i = nmR j.val
    · rw [if_pos h, decide_eq_true h]; rfl
    · rw [if_neg h, decide_eq_false h]; rfl
  have n1 : normN (nmR i) = (nmR i, 0) := by
    unfold normN; rw [t1]; simp only; rw [(fit_yes f0.1).2.2.symm]
  have n2 : normN (preR i) = (preR i, 0) := by
    unfold normN; rw [t2]; simp only; rw [(fit_yes f0.2).2.2.symm]
  have m1 : moveS (nmR i) (nmR i) (nmR ((i + 1) % K)) = (nmR ((i + 1) % K), 0) := by
    unfold moveS
    rw [t1, t3, if_pos rfl, if_pos rfl, if_pos rfl, (below_one [] _ _).1, if_pos rfl]
    exact f.1
  have m2 : moveS (preR i) (nmR i) (nmR ((i + 1) % K)) = (preR ((i + 1) % K), 0) := by
    unfold moveS
    rw [t1, t2, t3, if_pos rfl, if_pos rfl, if_pos rfl, (below_one _ _ _).2, if_pos rfl]
    exact f.2
  constructor
  · unfold stepS
    rw [n1, if_pos rfl, ringR, pick_ring hK hi12 hK0 u1 K (Nat.le_refl _), if_pos hi]
    unfold turnS
    simp only
    rw [m1]
    rfl
  · unfold stepS
    rw [n2, if_pos rfl, ringR, pick_ring hK hi12 hK0 u2 K (Nat.le_refl _), if_pos hi]
    unfold turnS
    simp only
    rw [m2]
    rfl
theorem trail_ring {l : List En} {S : List UInt8 → Prop} (h : ∀ n, S n → ∃ m, stepS l n = (m, true, 0) ∧ S m) : ∀ (k : Nat) (seen : List (List UInt8)) (n : List UInt8), S n → (trailS l k seen n).2.2 = 36
  | 0, _, _, _ => rfl
  | k + 1, seen, n, hn => by
    obtain ⟨m, hm, hS⟩ := h n hn
    unfold trailS
    rw [hm, if_pos rfl, if_pos rfl]
    split
    · rfl
    · exact trail_ring h k _ m hS
theorem find_ring {K i : Nat} (hK : K ≤ 12) (hi : i < K) (rest : Bool) : (findS (ringR K) (if rest = true then preR i else nmR i) true).2.2 = 36 := by
  have hK0 : 0 < K := by omega
  have hi12 : i < 12 := by omega
  have f0 := fit_nmR ⟨i, hi12⟩
  have t1 := texts_nmR ⟨i, hi12⟩
  have t2 := texts_preR ⟨i, hi12⟩
  simp only at f0 t1 t2
  cases rest with
  | true =>
    have n2 : normN (preR i) = (preR i, 0) := by
      unfold normN; rw [t2]; simp only; rw [(fit_yes f0.2).2.2.symm]
    rw [if_pos rfl]
    unfold findS
    rw [n2, if_pos rfl, if_pos rfl]
    have := trail_ring (l := ringR K) (S := fun n => ∃ j, j < K ∧ n = preR j) (by
      rintro n ⟨j, hj, rfl⟩
      exact ⟨_, (step_ring hK hj).2, _, Nat.mod_lt _ hK0, rfl⟩) 17 [preR i] (preR i) ⟨i, hi, rfl⟩
    unfold goalS
    rw [this, if_neg (by decide)]
  | false =>
    have n1 : normN (nmR i) = (nmR i, 0) := by
      unfold normN; rw [t1]; simp only; rw [(fit_yes f0.1).2.2.symm]
    rw [if_neg (by simp)]
    unfold findS
    rw [n1, if_pos rfl, if_pos rfl]
    have := trail_ring (l := ringR K) (S := fun n => ∃ j, j < K ∧ n = nmR j) (by
      rintro n ⟨j, hj, rfl⟩
      exact ⟨_, (step_ring hK hj).1, _, Nat.mod_lt _ hK0, rfl⟩) 17 [nmR i] (nmR i) ⟨i, hi, rfl⟩
    unfold goalS
    rw [this, if_neg (by decide)]
end EnS
end Go.Proofs.YtifjghkgmfmneaaGreatDoor
