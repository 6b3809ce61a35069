/- Plain laws of parts of names (pairs of a type and a value): how they are written, cut and read. No program. Conditions: those that each theorem states. Plain laws of parts of names: texts cut, values read, pairs put in order; what was written is read as it was. No program. Conditions: those that each theorem states. Plain laws of parts of names: a part's text is read as the part; the normal part is its own. No program. Conditions: those that each theorem states. -/
import Derived.Test.YtifjghkgmfmneaaGreatDoorRuS
import Derived.Sort.Walk0
namespace Go.Proofs.YtifjghkgmfmneaaGreatDoor.RdS
open Go.Lib

abbrev Pr := List UInt8 × List UInt8
/-- the bytes that are written with a stroke ahead: , + " \ < > ; -/
def specials : List UInt8 := [44, 43, 34, 92, 60, 62, 59]
def special (c : UInt8) : Bool := specials.contains c
def hexL : List UInt8 := [48, 49, 50, 51, 52, 53, 54, 55, 56, 57, 97, 98, 99, 100, 101, 102]
def hexd (n : Nat) : UInt8 := hexL.getD n 0
/-- how the byte c of a value is written; is it the first one, the last one? -/
def escC (first last : Bool) (c : UInt8) : List UInt8 :=
  if special c || (c == 32 && (first || last)) || (c == 35 && first) then [92, c]
  else if decide (c.toNat < 32) || decide (126 < c.toNat) then [92, hexd (c.toNat / 16), hexd (c.toNat % 16)]
  else [c]
/-- the first k bytes of a value, written -/
def escTo (v : List UInt8) : Nat → List UInt8
  | 0 => []
  | k + 1 => escTo v k ++ (match v[k]? with
    | some c => escC (decide (k = 0)) (decide (k + 1 = v.length)) c
    | none => [])
def escS (v : List UInt8) : List UInt8 := escTo v v.length
theorem escTo_succ (v : List UInt8) (k : Nat) (h : k < v.length) : escTo v (k + 1) = escTo v k ++ escC (decide (k = 0)) (decide (k + 1 = v.length)) v[k] := by
  have e : escTo v (k + 1) = escTo v k ++ (match v[k]? with
    | some c => escC (decide (k = 0)) (decide (k + 1 = v.length)) c
    | none => []) := rfl
  rw [e, List.getElem?_eq_getElem h]
theorem escC_len (a b : Bool) (c : UInt8) : (escC a b c).length ≤ 3 ∧ 1 ≤ (escC a b c).length := by
  unfold escC
  split
  · exact ⟨by simp, by simp⟩
  · split
    · exact ⟨by simp, by simp⟩
    · exact ⟨by simp, by simp⟩
theorem escTo_len (v : List UInt8) : ∀ k, k ≤ v.length → (escTo v k).length ≤ 3 * k
  | 0, _ => by simp [escTo]
  | k + 1, h => by
    rw [escTo_succ v k h, List.length_append]
    have := escTo_len v k (by omega)
    have := (escC_len (decide (k = 0)) (decide (k + 1 = v.length)) v[k]).1
    omega

/-- is p a pair of a part, behind a pair of the type last? -/
def pairOk (last : List UInt8) (p : Pr) : Bool :=
  ((RuS.typeOf p.1).1 == p.1) && ((RuS.typeOf p.1).2 == 1 || (RuS.typeOf p.1).2 == 3) && Op.bytesLess last p.1 && ((RuS.normal p.1 p.2).2 == 0)
def chain : List UInt8 → List Pr → Bool
  | _, [] => true
  | last, p :: l => pairOk last p && chain p.1 l
def formedS (l : List Pr) : Bool := decide (1 ≤ l.length) && decide (l.length ≤ 3) && chain [] l
/-- the type of the pair ahead of pair k; none: the empty text -/
def lastT (l : List Pr) : Nat → List UInt8
  | 0 => []
  | k + 1 => match l[k]? with
    | some p => p.1
    | none => []
/-- the first k pairs are right -/
def okTo (l : List Pr) : Nat → Bool
  | 0 => true
  | k + 1 => okTo l k && (match l[k]? with
    | some p => pairOk (lastT l k) p
    | none => true)
theorem okTo_succ (l : List Pr) (k : Nat) (h : k < l.length) : okTo l (k + 1) = (okTo l k && pairOk (lastT l k) l[k]) := by
  have e : okTo l (k + 1) = (okTo l k && (match l[k]? with | some p => pairOk (lastT l k) p | none => true)) := rfl
  rw [e, List.getElem?_eq_getElem h]
theorem lastT_succ (l : List Pr) (k : Nat) (h : k < l.length) : lastT l (k + 1) = l[k].1 := by
  have e : lastT l (k + 1) = (match l[k]? with | some p => p.1 | none => []) := rfl
  rw [e, List.getElem?_eq_getElem h]
theorem okTo_false {l : List Pr} {k : Nat} (h : k < l.length) (hp : pairOk (lastT l k) l[k] = false) : ∀ n, k < n → okTo l n = false := by
  intro n
  induction n with
  | zero => intro h; omega
  | succ n ih =>
    intro hn
    by_cases e : n = k
    · subst e; rw [okTo_succ l n h, hp, Bool.and_false]
    · have := ih (by omega)
      show (okTo l n && _) = false
      rw [this]; rfl
theorem chain_at : ∀ (l : List Pr) (last : List UInt8), chain last l = match l with | [] => true | p :: r => pairOk last p && chain p.1 r
  | [], _ => rfl
  | _ :: _, _ => rfl
theorem chain_snoc : ∀ (l : List Pr) (last : List UInt8) (p : Pr), chain last (l ++ [p]) = (chain last l && pairOk (match l.getLast? with | some q => q.1 | none => last) p)
  | [], last, p => by simp [chain]
  | q :: r, last, p => by
    rw [List.cons_append]
    show (pairOk last q && chain q.1 (r ++ [p])) = _
    rw [chain_snoc r q.1 p]
    cases r with
    | nil => simp [chain]
    | cons a r =>
      rw [List.getLast?_cons_cons]
      cases h : (a :: r).getLast? with
      | none => simp at h
      | some z => simp only [chain, Bool.and_assoc]
theorem okTo_chain (l : List Pr) : ∀ k, k ≤ l.length → okTo l k = chain [] (l.take k)
  | 0, _ => by simp [okTo, chain]
  | k + 1, h => by
    rw [okTo_succ l k h, okTo_chain l k (by omega), List.take_succ_eq_append_getElem h, chain_snoc]
    congr 1
    cases k with
    | zero => rfl
    | succ k =>
      rw [lastT_succ l k (by omega)]
      have hk : k < l.length := by omega
      rw [List.take_succ_eq_append_getElem hk, List.getLast?_concat]
theorem formed_okTo (l : List Pr) : formedS l = (decide (1 ≤ l.length) && decide (l.length ≤ 3) && okTo l l.length) := by
  unfold formedS
  rw [okTo_chain l l.length (Nat.le_refl _), List.take_length]

/-- the text of pairs, not yet looked at -/
def pairT (p : Pr) : List UInt8 := p.1 ++ [61] ++ escS p.2
def textTo (l : List Pr) : Nat → List UInt8
  | 0 => []
  | k + 1 => textTo l k ++ (if k = 0 then [] else [43]) ++ (match l[k]? with
    | some p => pairT p
    | none => [])
def printS (l : List Pr) : List UInt8 × Int := if formedS l then (textTo l l.length, 0) else ([], 1)
theorem textTo_succ (l : List Pr) (k : Nat) (h : k < l.length) : textTo l (k + 1) = textTo l k ++ (if k = 0 then [] else [43]) ++ pairT l[k] := by
  have e : textTo l (k + 1) = textTo l k ++ (if k = 0 then [] else [43]) ++ (match l[k]? with | some p => pairT p | none => []) := rfl
  rw [e, List.getElem?_eq_getElem h]

/-- the text p set ahead of the first piece -/
def glue (p : List UInt8) : List (List UInt8) → List (List UInt8)
  | [] => [p]
  | q :: qs => (p ++ q) :: qs
/-- a text cut at the bytes sep that have no stroke ahead -/
def splitE (sep : UInt8) : List UInt8 → List (List UInt8)
  | [] => [[]]
  | [b] => if b == sep then [[], []] else [[b]]
  | b :: d :: l => if b == sep then [] :: splitE sep (d :: l) else if b == 92 then glue [b, d] (splitE sep l) else glue [b] (splitE sep (d :: l))
/-- the digit that a byte is -/
def hexOf (c : UInt8) : Option Nat :=
  if 48 ≤ c.toNat ∧ c.toNat ≤ 57 then some (c.toNat - 48)
  else if 97 ≤ c.toNat ∧ c.toNat ≤ 102 then some (c.toNat - 97 + 10)
  else if 65 ≤ c.toNat ∧ c.toNat ≤ 70 then some (c.toNat - 65 + 10)
  else none
/-- what may stand behind a stroke as it is -/
def bare1 (c : UInt8) : Bool := special c || c == 35 || c == 61 || c == 32
/-- a byte that may not stand as it is (no stroke); first: is it the first one? last: is it the last one? -/
def badC (first last : Bool) (c : UInt8) : Bool := special c || c == 0 || (c == 32 && (first || last)) || (c == 35 && first)
/-- a value as it was written; first: is its first byte still to come? -/
def readL : Bool → List UInt8 → Option (List UInt8)
  | _, [] => some []
  | first, [c] => if badC first true c then none else some [c]
  | first, [c, d] =>
    if c == 92 then (if bare1 d then some [d] else none)
    else if badC first false c then none else if badC false true d then none else some [c, d]
  | first, c :: d :: e :: l =>
    if c == 92 then
      if bare1 d then (readL false (e :: l)).map (d :: ·)
      else match hexOf d, hexOf e with
        | some x, some y => (readL false l).map (UInt8.ofNat (16 * x + y) :: ·)
        | _, _ => none
    else if badC first false c then none else (readL false (d :: e :: l)).map (c :: ·)
def readS (l : List UInt8) : Option (List UInt8) := readL true l
end Go.Proofs.YtifjghkgmfmneaaGreatDoor.RdS
namespace Go.Proofs.YtifjghkgmfmneaaGreatDoor.RdS
open Go.Lib

theorem glue_nil (q : List UInt8) (X : List (List UInt8)) : glue [] (q :: X) = q :: X := rfl
theorem glue_glue (p q : List UInt8) (X : List (List UInt8)) : glue p (glue q X) = glue (p ++ q) X := by
  cases X <;> simp [glue]
theorem glue_cons (p q : List UInt8) (X : List (List UInt8)) : glue p (q :: X) = (p ++ q) :: X := rfl
theorem glue_ne (p : List UInt8) (X : List (List UInt8)) : ∃ q Y, glue p X = q :: Y := by
  cases X with
  | nil => exact ⟨_, _, rfl⟩
  | cons q Y => exact ⟨_, _, rfl⟩
theorem glue_len (p : List UInt8) (X : List (List UInt8)) (h : X ≠ []) : (glue p X).length = X.length := by
  cases X with
  | nil => exact absurd rfl h
  | cons q Y => rfl
theorem splitE_ne (sep : UInt8) (l : List UInt8) : ∃ p ps, splitE sep l = p :: ps := by
  match l with
  | [] => exact ⟨_, _, rfl⟩
  | [b] => unfold splitE; split <;> exact ⟨_, _, rfl⟩
  | b :: d :: l =>
    unfold splitE
    split
    · exact ⟨_, _, rfl⟩
    · split <;> exact glue_ne _ _
theorem splitE_sep {sep : UInt8} (l : List UInt8) : splitE sep (sep :: l) = [] :: splitE sep l := by
  match l with
  | [] => simp [splitE]
  | d :: l => simp [splitE]
theorem splitE_stroke1 {sep : UInt8} (h : sep ≠ 92) : splitE sep [92] = [[92]] := by
  unfold splitE; rw [if_neg (by simpa using fun e => h e.symm)]
theorem splitE_stroke {sep : UInt8} (h : sep ≠ 92) (d : UInt8) (l : List UInt8) : splitE sep (92 :: d :: l) = glue [92, d] (splitE sep l) := by
  rw [splitE, if_neg (by simpa using fun e => h e.symm), if_pos (by decide)]
theorem splitE_plain {sep b : UInt8} (h1 : b ≠ sep) (h2 : b ≠ 92) (l : List UInt8) : splitE sep (b :: l) = glue [b] (splitE sep l) := by
  match l with
  | [] => simp [splitE, h1, glue]
  | d :: l => rw [splitE, if_neg (by simpa using h1), if_neg (by simpa using h2)]
theorem splitE_len {sep : UInt8} : ∀ l : List UInt8, (splitE sep l).length ≤ l.length + 1
  | [] => by simp [splitE]
  | [b] => by unfold splitE; split <;> simp
  | b :: d :: l => by
    have h1 := splitE_len (sep := sep) (d :: l)
    have h2 := splitE_len (sep := sep) l
    unfold splitE
    split
    · simp only [List.length_cons] at h1 ⊢; omega
    · obtain ⟨p, ps, e1⟩ := splitE_ne sep l
      obtain ⟨q, qs, e2⟩ := splitE_ne sep (d :: l)
      split
      · rw [glue_len _ _ (by rw [e1]; simp)]; simp only [List.length_cons]; omega
      · rw [glue_len _ _ (by rw [e2]; simp)]; simp only [List.length_cons] at h1 ⊢; omega
/-- no piece is longer than the text -/
theorem splitE_small {sep : UInt8} : ∀ (l : List UInt8), ∀ p ∈ splitE sep l, p.length ≤ l.length
  | [], p, h => by simp [splitE] at h; subst h; simp
  | [b], p, h => by
    unfold splitE at h
    split at h
    · simp at h; subst h; simp
    · simp at h; subst h; simp
  | b :: d :: l, p, h => by
    have h1 := splitE_small (sep := sep) (d :: l)
    have h2 := splitE_small (sep := sep) l
    obtain ⟨p1, ps1, e1⟩ := splitE_ne sep l
    obtain ⟨p2, ps2, e2⟩ := splitE_ne sep (d :: l)
    rw [e1] at h2; rw [e2] at h1
    unfold splitE at h
    rw [e1, e2] at h
    split at h
    · rcases List.mem_cons.1 h with rfl | h
      · simp
      · have := h1 p h; simp only [List.length_cons] at this ⊢; omega
    · split at h
      · rw [glue_cons] at h
        rcases List.mem_cons.1 h with rfl | h
        · have := h2 p1 (List.mem_cons_self ..); simp only [List.length_append, List.length_cons, List.length_nil]; omega
        · have := h2 p (List.mem_cons_of_mem _ h); simp only [List.length_cons]; omega
      · rw [glue_cons] at h
        rcases List.mem_cons.1 h with rfl | h
        · have := h1 p2 (List.mem_cons_self ..); simp only [List.length_append, List.length_cons, List.length_nil] at this ⊢; omega
        · have := h1 p (List.mem_cons_of_mem _ h); simp only [List.length_cons] at this ⊢; omega

/-- x has no bare sep: what stands behind it is cut as if it stood alone -/
def NoSep (sep : UInt8) (x : List UInt8) : Prop := ∀ y, splitE sep (x ++ y) = glue x (splitE sep y)
theorem NoSep.nil (sep : UInt8) : NoSep sep [] := fun y => by obtain ⟨p, ps, e⟩ := splitE_ne sep y; rw [List.nil_append, e, glue_nil]
theorem NoSep.append {sep : UInt8} {a b : List UInt8} (ha : NoSep sep a) (hb : NoSep sep b) : NoSep sep (a ++ b) := fun y => by
  rw [List.append_assoc, ha, hb, glue_glue]
theorem NoSep.one {sep c : UInt8} (h1 : c ≠ sep) (h2 : c ≠ 92) : NoSep sep [c] := fun y => splitE_plain h1 h2 y
theorem NoSep.two {sep : UInt8} (h : sep ≠ 92) (c : UInt8) : NoSep sep [92, c] := fun y => splitE_stroke h c y
theorem NoSep.all {sep : UInt8} : ∀ {l : List UInt8}, (∀ c ∈ l, c ≠ sep ∧ c ≠ 92) → NoSep sep l
  | [], _ => NoSep.nil sep
  | c :: l, h => by
    have h1 := h c (List.mem_cons_self ..)
    exact (NoSep.one h1.1 h1.2).append (NoSep.all (fun d hd => h d (List.mem_cons_of_mem _ hd)))
theorem NoSep.split {sep : UInt8} {x : List UInt8} (h : NoSep sep x) : splitE sep x = [x] := by
  have := h []
  rw [List.append_nil] at this
  rw [this]; simp [splitE, glue]
theorem NoSep.split_sep {sep : UInt8} {x : List UInt8} (h : NoSep sep x) (y : List UInt8) : splitE sep (x ++ sep :: y) = x :: splitE sep y := by
  rw [h, splitE_sep, glue_cons, List.append_nil]

/-- values, written from front to back -/
def escL : Bool → List UInt8 → List UInt8
  | _, [] => []
  | first, c :: l => escC first l.isEmpty c ++ escL false l
theorem escL_ne (f : Bool) (c : UInt8) (l : List UInt8) : (escL f (c :: l)).isEmpty = false := by
  have := (escC_len f l.isEmpty c).2
  unfold escL
  rw [List.isEmpty_eq_false_iff]
  intro h
  have h2 := congrArg List.length h
  rw [List.length_append, List.length_nil] at h2
  omega
theorem escTo_drop (v : List UInt8) : ∀ n k, k + n = v.length → escTo v v.length = escTo v k ++ escL (decide (k = 0)) (v.drop k)
  | 0, k, h => by
    have : k = v.length := by omega
    subst this
    rw [List.drop_length]; simp [escL]
  | n + 1, k, h => by
    have hk : k < v.length := by omega
    rw [escTo_drop v n (k + 1) (by omega), escTo_succ v k hk, List.drop_eq_getElem_cons hk]
    have e1 : decide (k + 1 = 0) = false := by simp
    rw [e1]
    have e2 : (v.drop (k + 1)).isEmpty = decide (k + 1 = v.length) := by
      rw [Bool.eq_iff_iff, List.isEmpty_iff, List.drop_eq_nil_iff, decide_eq_true_eq]; omega
    show _ = escTo v k ++ (escC (decide (k = 0)) (v.drop (k + 1)).isEmpty v[k] ++ escL false (v.drop (k + 1)))
    rw [e2, List.append_assoc]
theorem escS_escL (v : List UInt8) : escS v = escL true v := by
  have := escTo_drop v v.length 0 (by omega)
  unfold escS
  rw [this]; rfl

theorem escC_cases (f l : Bool) (c : UInt8) : (escC f l c = [92, c] ∧ bare1 c = true) ∨
    (escC f l c = [92, hexd (c.toNat / 16), hexd (c.toNat % 16)]) ∨
    (escC f l c = [c] ∧ special c = false ∧ badC f l c = false ∧ 32 ≤ c.toNat ∧ c.toNat ≤ 126) := by
  unfold escC
  split
  · rename_i h
    refine .inl ⟨rfl, ?_⟩
    unfold bare1
    simp only [Bool.or_eq_true, Bool.and_eq_true] at h ⊢
    rcases h with (h | h) | h
    · exact .inl (.inl (.inl h))
    · exact .inr h.1
    · exact .inl (.inl (.inr h.1))
  · rename_i h
    split
    · exact .inr (.inl rfl)
    · rename_i h2
      simp only [Bool.or_eq_true, decide_eq_true_eq, not_or, Nat.not_lt] at h2
      have h3 : (special c || (c == 32 && (f || l)) || (c == 35 && f)) = false := by simpa using h
      refine .inr (.inr ⟨rfl, ?_, ?_, h2.1, h2.2⟩)
      · simp only [Bool.or_eq_false_iff] at h3; exact h3.1.1
      · have hz : (c == 0) = false := by
          rw [beq_eq_false_iff_ne]; intro e; subst e; exact absurd h2.1 (by decide)
        unfold badC
        simp only [Bool.or_eq_false_iff] at h3 ⊢
        exact ⟨⟨⟨h3.1.1, hz⟩, h3.1.2⟩, h3.2⟩
theorem hexd_props : ∀ n : Fin 16, hexOf (hexd n.val) = some n.val ∧ bare1 (hexd n.val) = false ∧ special (hexd n.val) = false ∧ 32 ≤ (hexd n.val).toNat ∧ (hexd n.val).toNat ≤ 126 ∧ hexd n.val ≠ 92 := by decide +kernel
theorem hex_back (c : UInt8) : UInt8.ofNat (16 * (c.toNat / 16) + c.toNat % 16) = c := by
  rw [Nat.div_add_mod]; exact UInt8.ofNat_toNat

theorem readL_stroke_bare (f : Bool) {d : UInt8} (h : bare1 d = true) (l : List UInt8) : readL f (92 :: d :: l) = (readL false l).map (d :: ·) := by
  cases l with
  | nil => simp [readL, h]
  | cons e l => simp [readL, h]
theorem readL_stroke_hex (f : Bool) {d e : UInt8} {x y : Nat} (h : bare1 d = false) (h1 : hexOf d = some x) (h2 : hexOf e = some y) (l : List UInt8) :
    readL f (92 :: d :: e :: l) = (readL false l).map (UInt8.ofNat (16 * x + y) :: ·) := by
  simp [readL, h, h1, h2]
theorem readL_stroke_none1 (f : Bool) {d e : UInt8} (h : bare1 d = false) (h1 : hexOf d = none ∨ hexOf e = none) (l : List UInt8) : readL f (92 :: d :: e :: l) = none := by
  rw [readL, if_pos (by decide), if_neg (by rw [h]; decide)]
  split
  · rename_i x y e1 e2
    rcases h1 with h1 | h1
    · rw [h1] at e1; cases e1
    · rw [h1] at e2; cases e2
  · rfl
theorem readL_stroke_none2 (f : Bool) {d : UInt8} (h : bare1 d = false) : readL f [92, d] = none := by
  simp [readL, h]
theorem readL_stroke_none3 (f : Bool) : readL f [92] = none := by
  have : badC f true 92 = true := by unfold badC; simp [show special 92 = true from by decide]
  simp [readL, this]
theorem readL_bad {f : Bool} {c : UInt8} (h : c ≠ 92) {l : List UInt8} (hb : badC f l.isEmpty c = true) : readL f (c :: l) = none := by
  match l with
  | [] => simp [readL, show badC f true c = true from hb]
  | [d] => simp [readL, h, show badC f false c = true from hb]
  | d :: e :: l => simp [readL, h, show badC f false c = true from hb]
theorem readL_plain {f : Bool} {c : UInt8} (h : c ≠ 92) {l : List UInt8} (hb : badC f l.isEmpty c = false) : readL f (c :: l) = (readL false l).map (c :: ·) := by
  match l with
  | [] => simp [readL, show badC f true c = false from hb]
  | [d] =>
    have hb2 : badC f false c = false := hb
    by_cases hd : badC false true d = true <;> simp [readL, h, hb2, hd]
  | d :: e :: l => rw [readL, if_neg (by simpa using h), if_neg (by rw [show badC f false c = false from hb]; decide)]

/-- what was written is read as it was -/
theorem read_escL : ∀ (v : List UInt8) (f : Bool), readL f (escL f v) = some v
  | [], f => rfl
  | c :: v, f => by
    have ih := read_escL v false
    rcases escC_cases f v.isEmpty c with ⟨h, hb⟩ | h | ⟨h, hs, hb, h1, h2⟩
    · show readL f (escC f v.isEmpty c ++ escL false v) = _
      rw [h]
      show readL f (92 :: c :: escL false v) = _
      rw [readL_stroke_bare f hb, ih]; rfl
    · show readL f (escC f v.isEmpty c ++ escL false v) = _
      rw [h]
      have hh := hexd_props ⟨c.toNat / 16, by have := c.toNat_lt; omega⟩
      have hl := hexd_props ⟨c.toNat % 16, by omega⟩
      show readL f (92 :: hexd (c.toNat / 16) :: hexd (c.toNat % 16) :: escL false v) = _
      rw [readL_stroke_hex f hh.2.1 hh.1 hl.1, ih, hex_back]; rfl
    · show readL f (escC f v.isEmpty c ++ escL false v) = _
      rw [h]
      have hne : c ≠ 92 := by intro e; subst e; exact absurd hs (by decide)
      have hem : (escL false v).isEmpty = v.isEmpty := by
        cases v with
        | nil => rfl
        | cons d v => rw [escL_ne]; rfl
      show readL f (c :: escL false v) = _
      rw [readL_plain hne (by rw [hem]; exact hb), ih]; rfl
theorem read_escS (v : List UInt8) : readS (escS v) = some v := by rw [escS_escL]; exact read_escL v true
theorem special_sep {sep : UInt8} (h : special sep = true) {c : UInt8} (hc : special c = false) : c ≠ sep := by
  intro e; subst e; rw [h] at hc; cases hc
theorem escL_noSep {sep : UInt8} (h : special sep = true) (h92 : sep ≠ 92) : ∀ (v : List UInt8) (f : Bool), NoSep sep (escL f v)
  | [], f => NoSep.nil sep
  | c :: v, f => by
    have ih := escL_noSep h h92 v false
    show NoSep sep (escC f v.isEmpty c ++ escL false v)
    refine NoSep.append ?_ ih
    rcases escC_cases f v.isEmpty c with ⟨e, hb⟩ | e | ⟨e, hs, hb, h1, h2⟩
    · rw [e]; exact NoSep.two h92 c
    · rw [e]
      have hl := hexd_props ⟨c.toNat % 16, by omega⟩
      show NoSep sep ([92, hexd (c.toNat / 16)] ++ [hexd (c.toNat % 16)])
      exact (NoSep.two h92 _).append (NoSep.one (special_sep h hl.2.2.1) hl.2.2.2.2.2)
    · rw [e]
      exact NoSep.one (special_sep h hs) (special_sep (by decide) hs)
theorem escS_noSep {sep : UInt8} (h : special sep = true) (h92 : sep ≠ 92) (v : List UInt8) : NoSep sep (escS v) := by rw [escS_escL]; exact escL_noSep h h92 v true
theorem escL_print : ∀ (v : List UInt8) (f : Bool), ∀ b ∈ escL f v, 32 ≤ b.toNat ∧ b.toNat ≤ 126
  | [], f, b, h => by cases h
  | c :: v, f, b, h => by
    have ih := escL_print v false b
    have h' : b ∈ escC f v.isEmpty c ++ escL false v := h
    rcases List.mem_append.1 h' with h' | h'
    · rcases escC_cases f v.isEmpty c with ⟨e, hb⟩ | e | ⟨e, hs, hb, h1, h2⟩
      · rw [e] at h'
        rcases List.mem_cons.1 h' with rfl | h'
        · decide
        · have := List.mem_singleton.1 h'; subst this
          unfold bare1 at hb
          simp only [Bool.or_eq_true, beq_iff_eq] at hb
          rcases hb with ((hb | rfl) | rfl) | rfl
          · exact (show ∀ x ∈ specials, 32 ≤ x.toNat ∧ x.toNat ≤ 126 from by decide) b (List.contains_iff_mem.1 hb)
          · decide
          · decide
          · decide
      · rw [e] at h'
        have hh := hexd_props ⟨c.toNat / 16, by have := c.toNat_lt; omega⟩
        have hl := hexd_props ⟨c.toNat % 16, by omega⟩
        rcases List.mem_cons.1 h' with rfl | h'
        · decide
        · rcases List.mem_cons.1 h' with rfl | h'
          · exact ⟨hh.2.2.2.1, hh.2.2.2.2.1⟩
          · have := List.mem_singleton.1 h'; subst this
            exact ⟨hl.2.2.2.1, hl.2.2.2.2.1⟩
      · rw [e] at h'
        have := List.mem_singleton.1 h'; subst this
        exact ⟨h1, h2⟩
    · exact ih h'

/-- a pair ahead of the first one whose type is not less -/
def insS (a : Pr) : List Pr → List Pr
  | [] => [a]
  | p :: l => if Op.bytesLess p.1 a.1 then p :: insS a l else a :: p :: l
def sortS (l : List Pr) : List Pr := l.foldl (fun out a => insS a out) []
def le2 (a b : Pr) : Prop := Op.bytesLess b.1 a.1 = false
def lt2 (a b : Pr) : Prop := Op.bytesLess a.1 b.1 = true
theorem insS_perm (a : Pr) : ∀ l, (insS a l).Perm (a :: l)
  | [] => List.Perm.refl _
  | p :: l => by
    unfold insS
    split
    · exact ((insS_perm a l).cons p).trans (List.Perm.swap a p l)
    · exact List.Perm.refl _
theorem foldl_perm : ∀ (l out : List Pr), (l.foldl (fun out a => insS a out) out).Perm (l ++ out)
  | [], out => List.Perm.refl _
  | a :: l, out => by
    show (l.foldl (fun out a => insS a out) (insS a out)).Perm _
    refine (foldl_perm l (insS a out)).trans ?_
    exact ((insS_perm a out).append_left l).trans List.perm_middle
theorem sortS_perm (l : List Pr) : (sortS l).Perm l := by
  have := foldl_perm l []
  rwa [List.append_nil] at this
theorem less_asymm {x y : List UInt8} (h : Op.bytesLess x y = true) : Op.bytesLess y x = false := by
  have h1 := RuS.less_iff x y
  have h2 := RuS.less_iff y x
  have h3 := RuS.compare_swap x y
  rw [h] at h1
  have h4 := of_decide_eq_true h1.symm
  rw [h2, h3, h4]; rfl
theorem less_trans {x y z : List UInt8} (h : Op.bytesLess x y = true) (h2 : Op.bytesLess y z = true) : Op.bytesLess x z = true := by
  rw [Proofs.bytesLess_eq, decide_eq_true_eq] at h h2 ⊢
  exact List.lt_trans h h2
theorem not_less_eq {x y : List UInt8} (h : Op.bytesLess x y = false) (h2 : Op.bytesLess y x = false) : x = y := by
  have e := RuS.eq_iff x y
  have h1 := RuS.less_iff x y
  have h3 := RuS.less_iff y x
  have h4 := RuS.compare_swap x y
  have h5 := RuS.compare_range x y
  rw [h] at h1; rw [h2] at h3
  have h1 := of_decide_eq_false h1.symm
  have h3 := of_decide_eq_false h3.symm
  rw [decide_eq_true (by omega)] at e
  exact beq_iff_eq.1 e
theorem le2_trans {a b c : Pr} (h : le2 a b) (h2 : le2 b c) : le2 a c := by
  unfold le2 at *
  cases hq : Op.bytesLess c.1 a.1 with
  | false => rfl
  | true =>
    cases hr : Op.bytesLess a.1 b.1 with
    | true => have := less_trans hq hr; rw [h2] at this; cases this
    | false =>
      have e := not_less_eq hr h
      rw [e, h2] at hq; cases hq
theorem lt2_le2 {a b : Pr} (h : lt2 a b) : le2 a b := less_asymm h
theorem insS_sorted (a : Pr) : ∀ l, l.Pairwise le2 → (insS a l).Pairwise le2
  | [], _ => by simp [insS]
  | p :: l, h => by
    have h' := List.pairwise_cons.1 h
    unfold insS
    split
    · rename_i hl
      refine List.pairwise_cons.2 ⟨fun b hb => ?_, insS_sorted a l h'.2⟩
      have := (insS_perm a l).mem_iff.1 hb
      rcases List.mem_cons.1 this with rfl | hb
      · exact lt2_le2 hl
      · exact h'.1 b hb
    · rename_i hl
      have hl : le2 a p := by unfold le2; simpa using hl
      refine List.pairwise_cons.2 ⟨fun b hb => ?_, h⟩
      rcases List.mem_cons.1 hb with rfl | hb
      · exact hl
      · exact le2_trans hl (h'.1 b hb)
theorem foldl_sorted : ∀ (l out : List Pr), out.Pairwise le2 → (l.foldl (fun out a => insS a out) out).Pairwise le2
  | [], _, h => h
  | a :: l, out, h => foldl_sorted l (insS a out) (insS_sorted a out h)
theorem sortS_sorted (l : List Pr) : (sortS l).Pairwise le2 := foldl_sorted l [] List.Pairwise.nil
theorem chain_lt : ∀ (l : List Pr) (last : List UInt8), chain last l = true → l.Pairwise lt2 ∧ ∀ p ∈ l, Op.bytesLess last p.1 = true
  | [], _, _ => ⟨List.Pairwise.nil, fun p h => by cases h⟩
  | q :: l, last, h => by
    have h' : (pairOk last q && chain q.1 l) = true := h
    rw [Bool.and_eq_true] at h'
    obtain ⟨h1, h2⟩ := h'
    have ih := chain_lt l q.1 h2
    have hq : Op.bytesLess last q.1 = true := by
      unfold pairOk at h1
      simp only [Bool.and_eq_true] at h1
      exact h1.1.2
    refine ⟨List.pairwise_cons.2 ⟨ih.2, ih.1⟩, fun p hp => ?_⟩
    rcases List.mem_cons.1 hp with rfl | hp
    · exact hq
    · exact less_trans hq (ih.2 p hp)
theorem formed_lt {l : List Pr} (h : formedS l = true) : l.Pairwise lt2 := by
  unfold formedS at h
  rw [Bool.and_eq_true] at h
  exact (chain_lt l [] h.2).1
theorem pairwise_two : ∀ {l : List Pr}, l.Pairwise lt2 → ∀ x ∈ l, ∀ y ∈ l, x ≠ y → lt2 x y ∨ lt2 y x
  | [], _, _, h, _, _, _ => by cases h
  | q :: l, h, x, hx, y, hy, hxy => by
    have h' := List.pairwise_cons.1 h
    rcases List.mem_cons.1 hx with rfl | hx1
    · rcases List.mem_cons.1 hy with rfl | hy1
      · exact absurd rfl hxy
      · exact .inl (h'.1 y hy1)
    · rcases List.mem_cons.1 hy with rfl | hy1
      · exact .inr (h'.1 x hx1)
      · exact pairwise_two h'.2 x hx1 y hy1 hxy
theorem sorted_unique {ys zs : List Pr} (hp : ys.Perm zs) (hs : ys.Pairwise lt2) (hz : zs.Pairwise le2) : ys = zs := by
  refine List.Perm.eq_of_pairwise (le := le2) (fun a b ha hb h1 h2 => ?_) (hs.imp lt2_le2) hz hp
  have hb' := hp.mem_iff.2 hb
  rcases Classical.em (a = b) with e | hne
  · exact e
  · exfalso
    rcases pairwise_two hs a ha b hb' hne with h | h
    · unfold lt2 at h; unfold le2 at h2; rw [h2] at h; cases h
    · unfold lt2 at h; unfold le2 at h1; rw [h1] at h; cases h
/-- any order of the pairs in which no type is less than the one ahead is that of sortS, wherever one of both is a part -/
theorem sort_same {ys xs : List Pr} (hp : ys.Perm xs) (hs : ys.Pairwise le2) : formedS ys = formedS (sortS xs) ∧ (formedS ys = true → ys = sortS xs) := by
  have hp2 : ys.Perm (sortS xs) := hp.trans (sortS_perm xs).symm
  have h1 : formedS ys = true → ys = sortS xs := fun h => sorted_unique hp2 (formed_lt h) (sortS_sorted xs)
  refine ⟨?_, h1⟩
  cases h : formedS ys with
  | true => rw [← h1 h]; exact h.symm
  | false =>
    cases h2 : formedS (sortS xs) with
    | false => rfl
    | true => rw [sorted_unique hp2.symm (formed_lt h2) hs] at h2; rw [h2] at h; cases h

/-- a pair, read -/
def nameOf (p : List UInt8) : List UInt8 := p.takeWhile (· != 61)
def pairS (p : List UInt8) : Option Pr :=
  if p.contains 61 then
    if (RuS.typeOf (nameOf p)).1 = [] then none else (readS (p.drop ((nameOf p).length + 1))).map ((RuS.typeOf (nameOf p)).1, ·)
  else none
def pairsS : List (List UInt8) → Option (List Pr)
  | [] => some []
  | p :: ps => match pairS p with
    | some a => (pairsS ps).map (a :: ·)
    | none => none
def partS (s : List UInt8) : List Pr × Int :=
  match pairsS (splitE 43 s) with
  | none => ([], 2)
  | some ps => if formedS (sortS ps) then (sortS ps, 0) else ([], 2)
theorem pairsS_snoc : ∀ (ps : List (List UInt8)) (p : List UInt8), pairsS (ps ++ [p]) = match pairsS ps, pairS p with
    | some l, some a => some (l ++ [a])
    | _, _ => none
  | [], p => by
    show pairsS [p] = _
    unfold pairsS
    cases pairS p with
    | none => rfl
    | some a => rfl
  | q :: ps, p => by
    have ih := pairsS_snoc ps p
    show pairsS (q :: (ps ++ [p])) = _
    unfold pairsS
    cases pairS q with
    | none => simp
    | some b =>
      simp only
      rw [ih]
      cases pairsS ps with
      | none => rfl
      | some l =>
        cases pairS p with
        | none => rfl
        | some a => rfl
theorem pairsS_none : ∀ {ps : List (List UInt8)} {p : List UInt8}, p ∈ ps → pairS p = none → pairsS ps = none
  | q :: ps, p, h, hn => by
    unfold pairsS
    rcases List.mem_cons.1 h with rfl | h
    · rw [hn]
    · cases pairS q with
      | none => rfl
      | some b => simp only; rw [pairsS_none h hn]; rfl
theorem pairsS_len : ∀ {ps : List (List UInt8)} {l : List Pr}, pairsS ps = some l → l.length = ps.length
  | [], l, h => by cases h; rfl
  | q :: ps, l, h => by
    unfold pairsS at h
    cases hq : pairS q with
    | none => rw [hq] at h; cases h
    | some b =>
      rw [hq] at h
      cases hp : pairsS ps with
      | none => simp only [hp] at h; cases h
      | some l2 =>
        simp only [hp] at h
        have := pairsS_len hp
        have := Option.some.inj h
        subst this
        simp only [List.length_cons]; omega
theorem sortS_length (l : List Pr) : (sortS l).length = l.length := (sortS_perm l).length_eq
end Go.Proofs.YtifjghkgmfmneaaGreatDoor.RdS
namespace Go.Proofs.YtifjghkgmfmneaaGreatDoor.RdS
open Go.Lib

theorem join_snoc (X : List (List UInt8)) (y s : List UInt8) : Lib.join (X ++ [y]) s = if X.isEmpty then y else Lib.join X s ++ s ++ y := by
  cases X with
  | nil => simp [Lib.join_one]
  | cons x X =>
    simp only [List.isEmpty_cons, Bool.false_eq_true, if_false]
    unfold Lib.join List.intercalate
    induction X generalizing x with
    | nil => simp [List.intersperse]
    | cons z Z ih =>
      have := ih z
      simp only [List.cons_append, List.intersperse_cons_cons, List.flatten_cons, List.append_assoc] at this ⊢
      rw [this]
theorem textTo_join (l : List Pr) : ∀ k, k ≤ l.length → textTo l k = Lib.join ((l.take k).map pairT) [43]
  | 0, _ => by simp [textTo, Lib.join, List.intercalate]
  | k + 1, h => by
    have hk : k < l.length := by omega
    rw [textTo_succ l k hk, textTo_join l k (by omega), List.take_succ_eq_append_getElem hk, List.map_append, List.map_singleton, join_snoc]
    cases k with
    | zero => simp [Lib.join, List.intercalate]
    | succ k =>
      have e : ((l.take (k + 1)).map pairT).isEmpty = false := by
        rw [List.isEmpty_eq_false_iff]; intro h2
        have h3 := congrArg List.length h2
        rw [List.length_map, List.length_take, List.length_nil] at h3; omega
      rw [if_neg (by omega), e, if_neg (by decide)]
theorem split_join {sep : UInt8} : ∀ (Ps : List (List UInt8)), Ps ≠ [] → (∀ p ∈ Ps, NoSep sep p) → splitE sep (Lib.join Ps [sep]) = Ps
  | [], h, _ => absurd rfl h
  | [p], _, hn => by rw [Lib.join_one]; exact (hn p (List.mem_singleton.2 rfl)).split
  | p :: q :: r, _, hn => by
    rw [RuS.join_cons_cons]
    have ih := split_join (sep := sep) (q :: r) (by simp) (fun x hx => hn x (List.mem_cons_of_mem _ hx))
    rw [show p ++ [sep] ++ Lib.join (q :: r) [sep] = p ++ sep :: Lib.join (q :: r) [sep] from by simp]
    rw [(hn p (List.mem_cons_self ..)).split_sep, ih]

theorem tab_letters : ∀ r ∈ RuS.tab, ∀ c ∈ r.2.1, 65 ≤ c.toNat ∧ c.toNat ≤ 122 ∧ c ≠ 92 := by decide +kernel
theorem type_letters (nm : List UInt8) : ∀ c ∈ (RuS.typeOf nm).1, 65 ≤ c.toNat ∧ c.toNat ≤ 122 ∧ c ≠ 92 := by
  unfold RuS.typeOf RuS.typeM
  cases h : RuS.tab.find? (fun r => RuS.lower nm == r.1) with
  | none => intro c hc; cases hc
  | some r => exact tab_letters r (List.mem_of_find?_eq_some h)
theorem pairOk_parts {last : List UInt8} {p : Pr} (h : pairOk last p = true) : (RuS.typeOf p.1).1 = p.1 ∧ ((RuS.typeOf p.1).2 = 1 ∨ (RuS.typeOf p.1).2 = 3) ∧ Op.bytesLess last p.1 = true ∧ (RuS.normal p.1 p.2).2 = 0 := by
  unfold pairOk at h
  simp only [Bool.and_eq_true, Bool.or_eq_true, beq_iff_eq] at h
  exact ⟨h.1.1.1, h.1.1.2, h.1.2, h.2⟩
theorem chain_all : ∀ {l : List Pr} {last : List UInt8}, chain last l = true → ∀ p ∈ l, ∃ la, pairOk la p = true
  | q :: l, last, h, p, hp => by
    have h' : (pairOk last q && chain q.1 l) = true := h
    rw [Bool.and_eq_true] at h'
    rcases List.mem_cons.1 hp with rfl | hp
    · exact ⟨_, h'.1⟩
    · exact chain_all h'.2 p hp
theorem formed_parts {l : List Pr} (h : formedS l = true) : 1 ≤ l.length ∧ l.length ≤ 3 ∧ chain [] l = true ∧ ∀ p ∈ l, (RuS.typeOf p.1).1 = p.1 ∧ ((RuS.typeOf p.1).2 = 1 ∨ (RuS.typeOf p.1).2 = 3) ∧ (RuS.normal p.1 p.2).2 = 0 := by
  unfold formedS at h
  simp only [Bool.and_eq_true, decide_eq_true_eq] at h
  refine ⟨h.1.1, h.1.2, h.2, fun p hp => ?_⟩
  obtain ⟨la, hl⟩ := chain_all h.2 p hp
  have := pairOk_parts hl
  exact ⟨this.1, this.2.1, this.2.2.2⟩
theorem type_ne {nm : List UInt8} (h : (RuS.typeOf nm).2 = 1 ∨ (RuS.typeOf nm).2 = 3) : (RuS.typeOf nm).1 ≠ [] := by
  rcases RuS.typeM_all (RuS.lower nm) with e | e
  · have e2 : RuS.typeOf nm = ([], 0) := e
    rw [e2] at h; simp at h
  · have e2 : 1 ≤ (RuS.typeOf nm).1.length := e.2.2.1
    intro h0; rw [h0] at e2; simp at e2
theorem takeWhile_stop {t u : List UInt8} (h : ∀ c ∈ t, c ≠ 61) : (t ++ 61 :: u).takeWhile (· != 61) = t := by
  induction t with
  | nil => simp
  | cons c t ih =>
    have hc := h c (List.mem_cons_self ..)
    rw [List.cons_append, List.takeWhile_cons, if_pos (by simpa using hc), ih (fun d hd => h d (List.mem_cons_of_mem _ hd))]
theorem pair_back {p : Pr} (h1 : (RuS.typeOf p.1).1 = p.1) (h2 : (RuS.typeOf p.1).2 = 1 ∨ (RuS.typeOf p.1).2 = 3) : pairS (pairT p) = some p := by
  have hl := type_letters p.1
  rw [h1] at hl
  have hn := type_ne h2
  rw [h1] at hn
  have e : pairT p = p.1 ++ 61 :: escS p.2 := by unfold pairT; simp
  have e2 : nameOf (pairT p) = p.1 := by
    unfold nameOf
    rw [e]
    exact takeWhile_stop (fun c hc => by intro h; subst h; exact absurd (hl _ hc).1 (by decide))
  unfold pairS
  rw [e2, if_pos (by rw [e, List.contains_iff_mem]; simp), h1, if_neg hn]
  have e3 : (pairT p).drop (p.1.length + 1) = escS p.2 := by
    rw [e, List.drop_append]
    simp
  rw [e3, read_escS]
  rfl
theorem pairT_noSep {sep : UInt8} (hs : special sep = true) (h9 : sep ≠ 92) (hr : sep.toNat < 65) {p : Pr} (h1 : (RuS.typeOf p.1).1 = p.1) : NoSep sep (pairT p) := by
  have hl := type_letters p.1
  rw [h1] at hl
  unfold pairT
  refine NoSep.append (NoSep.append (NoSep.all (fun c hc => ⟨?_, (hl c hc).2.2⟩)) (NoSep.one (special_sep hs (by decide)) (by decide))) (escS_noSep hs h9 p.2)
  intro h; subst h; have := (hl _ hc).1; omega
theorem formed_noSep {sep : UInt8} (hs : special sep = true) (h9 : sep ≠ 92) (hr : sep.toNat < 65) (h43 : sep ≠ 43) {l : List Pr} (h : formedS l = true) : NoSep sep (textTo l l.length) := by
  obtain ⟨g1, g2, g3, g4⟩ := formed_parts h
  rw [textTo_join l _ (Nat.le_refl _), List.take_length]
  have hall : ∀ p ∈ l.map pairT, NoSep sep p := by
    intro x hx
    obtain ⟨p, hp, rfl⟩ := List.mem_map.1 hx
    exact pairT_noSep hs h9 hr (g4 p hp).1
  generalize l.map pairT = Ps at hall
  clear g1 g2 g3 g4
  induction Ps with
  | nil => simpa [Lib.join, List.intercalate] using NoSep.nil sep
  | cons p r ih =>
    cases r with
    | nil => rw [Lib.join_one]; exact hall p (List.mem_cons_self ..)
    | cons q r =>
      rw [RuS.join_cons_cons]
      exact ((hall p (List.mem_cons_self ..)).append (NoSep.one (fun e => h43 e.symm) (by decide))).append (ih (fun x hx => hall x (List.mem_cons_of_mem _ hx)))
theorem pairs_back : ∀ {l : List Pr}, (∀ p ∈ l, pairS (pairT p) = some p) → pairsS (l.map pairT) = some l
  | [], _ => rfl
  | p :: l, h => by
    rw [List.map_cons]
    unfold pairsS
    rw [h p (List.mem_cons_self ..)]
    simp only
    rw [pairs_back (fun q hq => h q (List.mem_cons_of_mem _ hq))]
    rfl
theorem sort_formed {l : List Pr} (h : formedS l = true) : sortS l = l := ((sort_same (List.Perm.refl l) ((formed_lt h).imp lt2_le2)).2 h).symm
/-- a part's text is read as the part -/
theorem part_back {l : List Pr} (h : formedS l = true) : partS (textTo l l.length) = (l, 0) := by
  obtain ⟨g1, g2, g3, g4⟩ := formed_parts h
  have e : splitE 43 (textTo l l.length) = l.map pairT := by
    rw [textTo_join l _ (Nat.le_refl _), List.take_length]
    refine split_join _ ?_ ?_
    · intro h0; have := congrArg List.length h0; rw [List.length_map] at this; simp at this; rw [this] at g1; simp at g1
    · intro x hx
      obtain ⟨p, hp, rfl⟩ := List.mem_map.1 hx
      exact pairT_noSep (by decide) (by decide) (by decide) (g4 p hp).1
  unfold partS
  rw [e, pairs_back (fun p hp => pair_back (g4 p hp).1 (g4 p hp).2.1)]
  simp only
  rw [sort_formed h, if_pos h]
/-- what is read is a part -/
theorem part_formed {s : List UInt8} {l : List Pr} (h : partS s = (l, 0)) : formedS l = true := by
  unfold partS at h
  split at h
  · cases h
  · rename_i ps hp
    split at h
    · rename_i hf; cases h; exact hf
    · cases h
theorem part_none {s : List UInt8} (h : (partS s).2 ≠ 0) : partS s = ([], 2) := by
  unfold partS at h ⊢
  split
  · rfl
  · rename_i ps hp
    rw [hp] at h
    simp only at h
    split
    · rename_i hf; rw [if_pos hf] at h; exact absurd rfl h
    · rfl

/-- the normal values -/
def normL (l : List Pr) : List Pr := l.map fun p => (p.1, (RuS.normal p.1 p.2).1)
def normP (l : List Pr) : List Pr × Int := if formedS l then (normL l, 0) else ([], 1)
theorem norm_pairOk {last : List UInt8} {p : Pr} (h : pairOk last p = true) : pairOk last (p.1, (RuS.normal p.1 p.2).1) = true ∧ (RuS.normal p.1 (RuS.normal p.1 p.2).1).1 = (RuS.normal p.1 p.2).1 := by
  obtain ⟨h1, h2, h3, h4⟩ := pairOk_parts h
  have hn : RuS.normal p.1 p.2 = ((RuS.normal p.1 p.2).1, 0) := by rw [← h4]
  have hi := RuS.normal_idem hn
  refine ⟨?_, by rw [hi]⟩
  unfold pairOk
  simp only [Bool.and_eq_true, Bool.or_eq_true, beq_iff_eq]
  exact ⟨⟨⟨h1, h2⟩, h3⟩, by rw [hi]⟩
theorem norm_chain : ∀ {l : List Pr} {last : List UInt8}, chain last l = true → chain last (normL l) = true ∧ normL (normL l) = normL l
  | [], _, _ => ⟨rfl, rfl⟩
  | q :: l, last, h => by
    have h' : (pairOk last q && chain q.1 l) = true := h
    rw [Bool.and_eq_true] at h'
    have h1 := norm_pairOk h'.1
    have ih := norm_chain h'.2
    refine ⟨?_, ?_⟩
    · show (pairOk last (q.1, (RuS.normal q.1 q.2).1) && chain q.1 (normL l)) = true
      rw [h1.1, ih.1]; rfl
    · show (q.1, (RuS.normal q.1 (RuS.normal q.1 q.2).1).1) :: normL (normL l) = (q.1, (RuS.normal q.1 q.2).1) :: normL l
      rw [h1.2, ih.2]
theorem normL_length (l : List Pr) : (normL l).length = l.length := by unfold normL; rw [List.length_map]
/-- the normal part is a part, and its own normal one -/
theorem norm_formed {l : List Pr} (h : formedS l = true) : formedS (normL l) = true ∧ normL (normL l) = normL l := by
  unfold formedS at h ⊢
  simp only [Bool.and_eq_true, decide_eq_true_eq] at h
  have := norm_chain h.2
  refine ⟨?_, this.2⟩
  rw [normL_length, this.1, decide_eq_true h.1.1, decide_eq_true h.1.2]; rfl
theorem escS_len (v : List UInt8) : (escS v).length ≤ 3 * v.length := escTo_len v v.length (Nat.le_refl _)
theorem pairT_len (p : Pr) : (pairT p).length ≤ p.1.length + 1 + 3 * p.2.length := by
  have := escS_len p.2
  unfold pairT
  simp only [List.length_append, List.length_cons, List.length_nil]; omega
theorem textTo_len (l : List Pr) (m : Nat) (h : ∀ p ∈ l, p.1.length ≤ m ∧ p.2.length ≤ m) : ∀ k, k ≤ l.length → (textTo l k).length ≤ k * (4 * m + 2)
  | 0, _ => by simp [textTo]
  | k + 1, hk => by
    have hl : k < l.length := by omega
    have ih := textTo_len l m h k (by omega)
    have h1 := pairT_len l[k]
    have h2 := h l[k] (List.getElem_mem hl)
    rw [textTo_succ l k hl, List.length_append, List.length_append]
    have h3 : (if k = 0 then ([] : List UInt8) else [43]).length ≤ 1 := by split <;> simp
    have h4 : (k + 1) * (4 * m + 2) = k * (4 * m + 2) + (4 * m + 2) := by rw [Nat.add_mul, Nat.one_mul]
    omega
/-- what the pairs of a part are like -/
theorem formed_small {l : List Pr} (h : formedS l = true) : l.length ≤ 3 ∧ ∀ p ∈ l, p.1.length ≤ 17 ∧ p.2.length ≤ 200 := by
  obtain ⟨g1, g2, g3, g4⟩ := formed_parts h
  refine ⟨g2, fun p hp => ?_⟩
  obtain ⟨h1, h2, h3⟩ := g4 p hp
  refine ⟨?_, ?_⟩
  · rw [← h1]
    rcases RuS.typeM_all (RuS.lower p.1) with e | e
    · have : RuS.typeOf p.1 = ([], 0) := e
      rw [this]; simp
    · exact e.2.2.2
  · exact (RuS.normal_ok (nm := p.1) (v := p.2) (s := (RuS.normal p.1 p.2).1) (by rw [← h3])).2.2.1
theorem text_small {l : List Pr} (h : formedS l = true) (k : Nat) (hk : k ≤ l.length) : (textTo l k).length ≤ 3000 := by
  have hs := formed_small h
  have := textTo_len l 200 (fun p hp => ⟨by have := (hs.2 p hp).1; omega, (hs.2 p hp).2⟩) k hk
  have h2 : k ≤ 3 := by omega
  have : k * (4 * 200 + 2) ≤ 3 * (4 * 200 + 2) := Nat.mul_le_mul_right _ h2
  omega
end Go.Proofs.YtifjghkgmfmneaaGreatDoor.RdS
