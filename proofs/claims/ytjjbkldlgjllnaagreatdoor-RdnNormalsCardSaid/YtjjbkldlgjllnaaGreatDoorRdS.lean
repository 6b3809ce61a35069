/- Plain laws of parts of names (pairs of a type and a value): how they are written, cut and read. No program. Conditions: those that each theorem states. -/
import Derived.Test.YtjjbkldlgjllnaaGreatDoorRuC
namespace Go.Proofs.YtjjbkldlgjllnaaGreatDoor.RdS
open Go.Lib

abbrev Pr := List UInt8 × List UInt8
/-- the bytes that are written with a stroke ahead: , + " \ < > ; -/
def specials : List UInt8 := [44, 43, 34, 92, 60, 62, 59]
def special (c : UInt8) : Bool := specials.contains c
def hexL : List UInt8 := [48, 49, 50, 51, 52, 53, 54, 55, 56, 57, 97, 98, 99, 100, 101, 102]
def hexd (n : Nat) : UInt8 := hexL.getD n 0
/-- how the byte c of a value is written; is it the first one, the last one? -/
def escC (first last : Bool) (c : UInt8) : List UInt8 :=
  if special c || (c == 32 && (first || last)) || (c == 35 && first) then [92, c]
  else if decide (c.toNat < 32) || decide (126 < c.toNat) then [92, hexd (c.toNat / 16), hexd (c.toNat % 16)]
  else [c]
/-- the first k bytes of a value, written -/
def escTo (v : List UInt8) : Nat → List UInt8
  | 0 => []
  | k + 1 => escTo v k ++ (match v[k]? with
    | some c => escC (decide (k = 0)) (decide (k + 1 = v.length)) c
    | none => [])
def escS (v : List UInt8) : List UInt8 := escTo v v.length
theorem escTo_succ (v : List UInt8) (k : Nat) (h : k < v.length) : escTo v (k + 1) = escTo v k ++ escC (decide (k = 0)) (decide (k + 1 = v.length)) v[k] := by
  have e : escTo v (k + 1) = escTo v k ++ (match v[k]? with
    | some c => escC (decide (k = 0)) (decide (k + 1 = v.length)) c
    | none => []) := rfl
  rw [e, List.getElem?_eq_getElem h]
theorem escC_len (a b : Bool) (c : UInt8) : (escC a b c).length ≤ 3 ∧ 1 ≤ (escC a b c).length := by
  unfold escC
  split
  · exact ⟨by simp, by simp⟩
  · split
    · exact ⟨by simp, by simp⟩
    · exact ⟨by simp, by simp⟩
theorem escTo_len (v : List UInt8) : ∀ k, k ≤ v.length → (escTo v k).length ≤ 3 * k
  | 0, _ => by simp [escTo]
  | k + 1, h => by
    rw [escTo_succ v k h, List.length_append]
    have := escTo_len v k (by omega)
    have := (escC_len (decide (k = 0)) (decide (k + 1 = v.length)) v[k]).1
    omega

/-- is p a pair of a part, behind a pair of the type last? -/
def pairOk (last : List UInt8) (p : Pr) : Bool :=
  ((RuS.typeOf p.1).1 == p.1) && ((RuS.typeOf p.1).2 == 1 || (RuS.typeOf p.1).2 == 3) && Op.bytesLess last p.1 && ((RuS.normal p.1 p.2).2 == 0)
def chain : List UInt8 → List Pr → Bool
  | _, [] => true
  | last, p :: l => pairOk last p && chain p.1 l
def formedS (l : List Pr) : Bool := decide (1 ≤ l.length) && decide (l.length ≤ 3) && chain [] l
/-- the type of the pair ahead of pair k; none: the empty text -/
def lastT (l : List Pr) : Nat → List UInt8
  | 0 => []
  | k + 1 => match l[k]? with
    | some p => p.1
    | none => []
/-- the first k pairs are right -/
def okTo (l : List Pr) : Nat → Bool
  | 0 => true
  | k + 1 => okTo l k && (match l[k]? with
    | some p => pairOk (lastT l k) p
    | none => true)
theorem okTo_succ (l : List Pr) (k : Nat) (h : k < l.length) : okTo l (k + 1) = (okTo l k && pairOk (lastT l k) l[k]) := by
  have e : okTo l (k + 1) = (okTo l k && (match l[k]? with | some p => pairOk (lastT l k) p | none => true)) := rfl
  rw [e, List.getElem?_eq_getElem h]
theorem lastT_succ (l : List Pr) (k : Nat) (h : k < l.length) : lastT l (k + 1) = l[k].1 := by
  have e : lastT l (k + 1) = (match l[k]? with | some p => p.1 | none => []) := rfl
  rw [e, List.getElem?_eq_getElem h]
theorem okTo_false {l : List Pr} {k : Nat} (h : k < l.length) (hp : pairOk (lastT l k) l[k] = false) : ∀ n, k < n → okTo l n = false := by
  intro n
  induction n with
  | zero => intro h; omega
  | succ n ih =>
    intro hn
    by_cases e : n = k
    · subst e; rw [okTo_succ l n h, hp, Bool.and_false]
    · have := ih (by omega)
      show (okTo l n && _) = false
      rw [this]; rfl
theorem chain_at : ∀ (l : List Pr) (last : List UInt8), chain last l = match l with | [] => true | p :: r => pairOk last p && chain p.1 r
  | [], _ => rfl
  | _ :: _, _ => rfl
theorem chain_snoc : ∀ (l : List Pr) (last : List UInt8) (p : Pr), chain last (l ++ [p]) = (chain last l && pairOk (match l.getLast? with | some q => q.1 | none => last) p)
  | [], last, p => by simp [chain]
  | q :: r, last, p => by
    rw [List.cons_append]
    show (pairOk last q && chain q.1 (r ++ [p])) = _
    rw [chain_snoc r q.1 p]
    cases r with
    | nil => simp [chain]
    | cons a r =>
      rw [List.getLast?_cons_cons]
      cases h : (a :: r).getLast? with
      | none => simp at h
      | some z => simp only [chain, Bool.and_assoc]
theorem okTo_chain (l : List Pr) : ∀ k, k ≤ l.length → okTo l k = chain [] (l.take k)
  | 0, _ => by simp [okTo, chain]
  | k + 1, h => by
    rw [okTo_succ l k h, okTo_chain l k (by omega), List.take_succ_eq_append_getElem h, chain_snoc]
    congr 1
    cases k with
    | zero => rfl
    | succ k =>
      rw [lastT_succ l k (by omega)]
      have hk : k < l.length := by omega
      rw [List.take_succ_eq_append_getElem hk, List.getLast?_concat]
theorem formed_okTo (l : List Pr) : formedS l = (decide (1 ≤ l.length) && decide (l.length ≤ 3) && okTo l l.length) := by
  unfold formedS
  rw [okTo_chain l l.length (Nat.le_refl _), List.take_length]

/-- the text of pairs, not yet looked at -/
def pairT (p : Pr) : List UInt8 := p.1 ++ [61] ++ escS p.2
def textTo (l : List Pr) : Nat → List UInt8
  | 0 => []
  | k + 1 => textTo l k ++ (if k = 0 then [] else [43]) ++ (match l[k]? with
    | some p => pairT p
    | none => [])
def printS (l : List Pr) : List UInt8 × Int := if formedS l then (textTo l l.length, 0) else ([], 1)
theorem textTo_succ (l : List Pr) (k : Nat) (h : k < l.length) : textTo l (k + 1) = textTo l k ++ (if k = 0 then [] else [43]) ++ pairT l[k] := by
  have e : textTo l (k + 1) = textTo l k ++ (if k = 0 then [] else [43]) ++ (match l[k]? with | some p => pairT p | none => []) := rfl
  rw [e, List.getElem?_eq_getElem h]

/-- the text p set ahead of the first piece -/
def glue (p : List UInt8) : List (List UInt8) → List (List UInt8)
  | [] => [p]
  | q :: qs => (p ++ q) :: qs
/-- a text cut at the bytes sep that have no stroke ahead -/
def splitE (sep : UInt8) : List UInt8 → List (List UInt8)
  | [] => [[]]
  | [b] => if b == sep then [[], []] else [[b]]
  | b :: d :: l => if b == sep then [] :: splitE sep (d :: l) else if b == 92 then glue [b, d] (splitE sep l) else glue [b] (splitE sep (d :: l))
/-- the digit that a byte is -/
def hexOf (c : UInt8) : Option Nat :=
  if 48 ≤ c.toNat ∧ c.toNat ≤ 57 then some (c.toNat - 48)
  else if 97 ≤ c.toNat ∧ c.toNat ≤ 102 then some (c.toNat - 97 + 10)
  else if 65 ≤ c.toNat ∧ c.toNat ≤ 70 then some (c.toNat - 65 + 10)
  else none
/-- what may stand behind a stroke as it is -/
def bare1 (c : UInt8) : Bool := special c || c == 35 || c == 61 || c == 32
/-- a byte that may not stand as it is (no stroke); first: is it the first one? last: is it the last one? -/
def badC (first last : Bool) (c : UInt8) : Bool := special c || c == 0 || (c == 32 && (first || last)) || (c == 35 && first)
/-- a value as it was written; first: is its first byte still to come? -/
def readL : Bool → List UInt8 → Option (List UInt8)
  | _, [] => some []
  | first, [c] => if badC first true c then none else some [c]
  | first, [c, d] =>
    if c == 92 then (if bare1 d then some [d] else none)
    else if badC first false c then none else if badC false true d then none else some [c, d]
  | first, c :: d :: e :: l =>
    if c == 92 then
      if bare1 d then (readL false (e :: l)).map (d :: ·)
      else match hexOf d, hexOf e with
        | some x, some y => (readL false l).map (UInt8.ofNat (16 * x + y) :: ·)
        | _, _ => none
    else if badC first false c then none else (readL false (d :: e :: l)).map (c :: ·)
def readS (l : List UInt8) : Option (List UInt8) := readL true l
end Go.Proofs.YtjjbkldlgjllnaaGreatDoor.RdS
