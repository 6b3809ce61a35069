/- Plain laws of filters: how they are formed, written and read; what was written is read as it was. Conditions: as stated. -/
import Derived.Lib.IndexMore
import Derived.Test.YtjmfknfponjgkaaGreatDoorJRuS
import Derived.Test.YtjmfknfponjgkaaGreatDoorJRuk
namespace Go.Proofs.YtjmfknfponjgkaaGreatDoor
section
namespace FiS
open Go.Lib RdS
inductive Fi where
 | mk (kind : Int) (attr value first last : List UInt8) (any : List (List UInt8)) (parts : List Fi)
namespace Fi
def kind : Fi -> Int | .mk k _ _ _ _ _ _ => k
def attr : Fi -> List UInt8 | .mk _ a _ _ _ _ _ => a
def value : Fi -> List UInt8 | .mk _ _ v _ _ _ _ => v
def first : Fi -> List UInt8 | .mk _ _ _ f _ _ _ => f
def last : Fi -> List UInt8 | .mk _ _ _ _ l _ _ => l
def any : Fi -> List (List UInt8) | .mk _ _ _ _ _ s _ => s
def parts : Fi -> List Fi | .mk _ _ _ _ _ _ p => p
end Fi
mutual
def nodes : Fi -> Nat
 | .mk _ _ _ _ _ _ ps => 1 + nodesL ps
def nodesL : List Fi -> Nat
 | [] => 0
 | p :: r => nodes p + nodesL r
end
mutual
def depth : Fi -> Nat
 | .mk _ _ _ _ _ _ ps => 1 + depthL ps
def depthL : List Fi -> Nat
 | [] => 0
 | p :: r => max (depth p) (depthL r)
end
def isLetter (c : UInt8) : Bool := decide (65 <= c.toNat /\ c.toNat <= 90) || decide (97 <= c.toNat /\ c.toNat <= 122)
def isDig (c : UInt8) : Bool := decide (48 <= c.toNat /\ c.toNat <= 57)
def attrC (c : UInt8) : Bool := isLetter c || isDig c || c == 45
def attrS : List UInt8 -> Bool
 | [] => false
 | c :: r => isLetter c && r.all attrC && decide ((c :: r).length <= 40)
def fitsS (s : List UInt8) : Bool := !s.isEmpty && decide (s.length <= 200)
def pieced (f l : List UInt8) (s : List (List UInt8)) : Bool := !f.isEmpty || !l.isEmpty || decide (0 < s.length)
def leafy (a : List UInt8) (n : Nat) : Bool := decide (n = 0) && attrS a
def bareM (k : Int) (a v f l : List UInt8) (s : List (List UInt8)) (n : Nat) : Bool :=
 if k = 0 \/ k = 1 then a.isEmpty && v.isEmpty && !pieced f l s
 else if k = 2 then a.isEmpty && v.isEmpty && !pieced f l s && decide (n = 1)
 else if k = 3 \/ k = 5 \/ k = 6 \/ k = 8 then leafy a n && fitsS v && !pieced f l s
 else if k = 7 then leafy a n && v.isEmpty && !pieced f l s
 else if k = 4 then leafy a n && v.isEmpty && pieced f l s && decide (f.length <= 200) && decide (l.length <= 200) && s.all fitsS
 else false
def bareS (x : Fi) : Bool := bareM x.kind x.attr x.value x.first x.last x.any x.parts.length
theorem pieced_no {f l : List UInt8} {s : List (List UInt8)} (h : pieced f l s = false) : f = [] /\ l = [] /\ s = [] := by
 unfold pieced at h
 cases f <;> cases l <;> cases s <;> simp_all
theorem leafy_yes {a : List UInt8} {ps : List Fi} (h : leafy a ps.length = true) : ps = [] /\ attrS a = true := by
 unfold leafy at h
 rw [Bool.and_eq_true, decide_eq_true_eq] at h
 exact ⟨List.eq_nil_of_length_eq_zero h.1, h.2⟩
mutual
def allS : Fi -> Bool
 | .mk k a v f l s ps => bareS (.mk k a v f l s ps) && allL ps
def allL : List Fi -> Bool
 | [] => true
 | p :: r => allS p && allL r
end
def formedS (x : Fi) : Bool := decide (nodes x <= 40) && (decide (depth x <= 20) && allS x)
def bad (c : UInt8) : Bool := decide (c.toNat < 32) || decide (126 < c.toNat) || [42, 40, 41, 92].contains c
def escF (c : UInt8) : List UInt8 := if bad c = true then [92, hexd (c.toNat / 16), hexd (c.toNat % 16)] else [c]
def escV : List UInt8 -> List UInt8
 | [] => []
 | c :: r => escF c ++ escV r
def signS (k : Int) : List UInt8 := if k = 5 then [62, 61] else if k = 6 then [60, 61] else if k = 8 then [126, 61] else [61]
def starS : List (List UInt8) -> List UInt8
 | [] => []
 | p :: r => 42 :: (escV p ++ starS r)
def opC (k : Int) : UInt8 := if k = 0 then 38 else if k = 1 then 124 else 33
def itemM (k : Int) (a v f l : List UInt8) (s : List (List UInt8)) : List UInt8 :=
 if k = 7 then a ++ [61, 42]
 else if k = 4 then a ++ 61 :: (escV f ++ (starS s ++ 42 :: escV l))
 else a ++ signS k ++ escV v
def itemT (x : Fi) : List UInt8 := itemM x.kind x.attr x.value x.first x.last x.any
def inner (k : Int) : Bool := decide (k = 0 \/ k = 1 \/ k = 2)
mutual
def textS : Fi -> List UInt8
 | .mk k a v f l s ps => 40 :: ((if inner k = true then opC k :: textL ps else itemT (.mk k a v f l s ps)) ++ [41])
def textL : List Fi -> List UInt8
 | [] => []
 | p :: r => textS p ++ textL r
end
def printS (x : Fi) : List UInt8 × Int := if formedS x = true then (textS x, 0) else ([], 1)
def unescV : List UInt8 -> Option (List UInt8)
 | [] => some []
 | c :: r => if c = 92 then (match r with
   | a :: b :: q => match hexOf a, hexOf b with
    | some x, some y => (unescV q).map (UInt8.ofNat (16 * x + y) :: ·)
    | _, _ => none
   | _ => none)
  else if bad c = true then none else (unescV r).map (c :: ·)
def unescL : List (List UInt8) -> Option (List (List UInt8))
 | [] => some []
 | p :: r => match unescV p, unescL r with
  | some v, some l => some (v :: l)
  | _, _ => none
def isSign (c : UInt8) : Bool := [61, 60, 62, 126].contains c
def piecesF (a : List UInt8) : List (List UInt8) -> Fi
 | [v] => .mk 3 a v [] [] [] []
 | l => .mk 4 a [] (l.headD []) (l.getLastD []) ((l.drop 1).dropLast) []
def restS (a v : List UInt8) : Option Fi := if v = [42] then some (.mk 7 a [] [] [] [] []) else (unescL (RuS.pieces 42 v)).map (piecesF a)
def leafS (s : List UInt8) : Option Fi :=
 if [62, 61].isPrefixOf (s.dropWhile (fun c => !isSign c)) = true then (unescV ((s.dropWhile (fun c => !isSign c)).drop 2)).map (fun v => .mk 5 (s.takeWhile (fun c => !isSign c)) v [] [] [] [])
 else if [60, 61].isPrefixOf (s.dropWhile (fun c => !isSign c)) = true then (unescV ((s.dropWhile (fun c => !isSign c)).drop 2)).map (fun v => .mk 6 (s.takeWhile (fun c => !isSign c)) v [] [] [] [])
 else if [126, 61].isPrefixOf (s.dropWhile (fun c => !isSign c)) = true then (unescV ((s.dropWhile (fun c => !isSign c)).drop 2)).map (fun v => .mk 8 (s.takeWhile (fun c => !isSign c)) v [] [] [] [])
 else if [61].isPrefixOf (s.dropWhile (fun c => !isSign c)) = true then restS (s.takeWhile (fun c => !isSign c)) ((s.dropWhile (fun c => !isSign c)).drop 1)
 else none
def opK (c : UInt8) : Option Int := if c = 38 then some 0 else if c = 124 then some 1 else if c = 33 then some 2 else none
def cutB : List UInt8 -> Option (List UInt8 × List UInt8)
 | [] => none
 | c :: r => if c = 41 then some ([], r) else (cutB r).map (fun p => (c :: p.1, p.2))
def headS : List UInt8 -> Option (UInt8 × List UInt8)
 | b :: c :: r => if b = 40 then some (c, r) else none
 | _ => none
def itemS (n : Nat) (c : UInt8) (r : List UInt8) : Option (Fi × List UInt8 × Nat) := match cutB (c :: r) with
 | some (item, rest) => (leafS item).map (fun x => (x, rest, n))
 | none => none
mutual
def readF : Nat -> Nat -> Nat -> List UInt8 -> Option (Fi × List UInt8 × Nat)
 | 0, _, _, _ => none
 | F + 1, n, d, s => if n = 0 \/ 20 < d then none else match headS s with
  | none => none
  | some (c, r) => match opK c with
   | some k => (readG F (n - 1) d r).map (fun q => (.mk k [] [] [] [] [] q.1, q.2))
   | none => itemS (n - 1) c r
def readG : Nat -> Nat -> Nat -> List UInt8 -> Option (List Fi × List UInt8 × Nat)
 | 0, _, _, _ => none
 | F + 1, n, d, s => if s.head? = some 41 then some ([], s.drop 1, n) else match readF F n (d + 1) s with
  | some (p, r, m) => (readG F m d r).map (fun q => (p :: q.1, q.2))
  | none => none
end
theorem readF_less : ∀ (F n d : Nat) (s : List UInt8), (∀ x r m, readF F n d s = some (x, r, m) -> m < n) /\ (∀ x r m, readG F n d s = some (x, r, m) -> m <= n) := by
 intro F
 induction F with
 | zero => intro n d s; exact ⟨fun x r m h => by simp [readF] at h, fun x r m h => by simp [readG] at h⟩
 | succ F ih =>
  intro n d s
  refine ⟨fun x r m h => ?_, fun x r m h => ?_⟩
  · rw [readF] at h
    split at h
    · cases h
    · rename_i hn
      split at h
      · cases h
      · split at h
        · rw [Option.map_eq_some_iff] at h
          obtain ⟨⟨q1, q2, q3⟩, hq, h2⟩ := h
          simp only [Prod.mk.injEq] at h2
          have := (ih (n - 1) d _).2 _ _ _ hq
          omega
        · unfold itemS at h
          split at h
          · rw [Option.map_eq_some_iff] at h
            obtain ⟨q, hq, h2⟩ := h
            simp only [Prod.mk.injEq] at h2
            omega
          · cases h
  · rw [readG] at h
    split at h
    · simp only [Option.some.injEq, Prod.mk.injEq] at h
      omega
    · split at h
      · rename_i p q k hp
        rw [Option.map_eq_some_iff] at h
        obtain ⟨⟨q1, q2, q3⟩, hq, h2⟩ := h
        simp only [Prod.mk.injEq] at h2
        have h4 := (ih n (d + 1) s).1 _ _ _ hp
        have h5 := (ih k d q).2 _ _ _ hq
        omega
      · cases h
theorem readF_fuel : ∀ (F n d : Nat) (s : List UInt8), (2 * n + 1 <= F -> readF (F + 1) n d s = readF F n d s) /\ (2 * n + 2 <= F -> readG (F + 1) n d s = readG F n d s) := by
 intro F
 induction F with
 | zero => intro n d s; exact ⟨fun h => by omega, fun h => by omega⟩
 | succ F ih =>
  intro n d s
  refine ⟨fun h => ?_, fun h => ?_⟩
  · rw [readF, readF]
    by_cases hn : n = 0 \/ 20 < d
    · rw [if_pos hn, if_pos hn]
    · rw [if_neg hn, if_neg hn]
      cases headS s with
      | none => rfl
      | some q =>
       obtain ⟨c, r⟩ := q
       simp only
       rw [(ih (n - 1) d r).2 (by omega)]
  · rw [readG, readG, (ih n (d + 1) s).1 (by omega)]
    split
    · rfl
    · split
      · rename_i p q k hp
        have := (readF_less F n (d + 1) s).1 _ _ _ hp
        rw [(ih k d q).2 (by omega)]
      · rfl
def readS (n d : Nat) (s : List UInt8) : Option (Fi × List UInt8 × Nat) := readF (2 * n + 1) n d s
def partsS (n d : Nat) (s : List UInt8) : Option (List Fi × List UInt8 × Nat) := readG (2 * n + 2) n d s
theorem readS_less {n d : Nat} {s : List UInt8} {x : Fi} {r : List UInt8} {m : Nat} (h : readS n d s = some (x, r, m)) : m < n := (readF_less _ n d s).1 _ _ _ h
theorem readG_fuel {n d : Nat} {s : List UInt8} : ∀ F, 2 * n + 2 <= F -> readG F n d s = partsS n d s := by
 intro F h
 induction F with
 | zero => omega
 | succ F ih =>
  by_cases h2 : 2 * n + 2 <= F
  · rw [(readF_fuel F n d s).2 h2]; exact ih h2
  · have : F + 1 = 2 * n + 2 := by omega
    rw [this]; rfl
theorem readS_none {n d : Nat} {s : List UInt8} (h : n = 0 \/ 20 < d) : readS n d s = none := by unfold readS; rw [readF, if_pos h]
theorem readS_head {n d : Nat} {s : List UInt8} (h : headS s = none) : readS n d s = none := by unfold readS; rw [readF, h]; split <;> rfl
theorem readS_op {n d : Nat} {c : UInt8} {r : List UInt8} {k : Int} (hn : ¬ (n + 1 = 0 \/ 20 < d)) (h : opK c = some k) : readS (n + 1) d (40 :: c :: r) = (partsS n d r).map (fun q => (.mk k [] [] [] [] [] q.1, q.2)) := by
 unfold readS
 rw [readF, if_neg hn, show headS (40 :: c :: r) = some (c, r) from rfl]
 simp only [h]
 rw [readG_fuel (n := n + 1 - 1) _ (by omega)]
 rfl
theorem readS_item {n d : Nat} {c : UInt8} {r : List UInt8} (hn : ¬ (n + 1 = 0 \/ 20 < d)) (h : opK c = none) : readS (n + 1) d (40 :: c :: r) = itemS n c r := by
 unfold readS
 rw [readF, if_neg hn, show headS (40 :: c :: r) = some (c, r) from rfl]
 simp only [h]
 rfl
theorem partsS_end {n d : Nat} {r : List UInt8} : partsS n d (41 :: r) = some ([], r, n) := by
 unfold partsS; rw [readG, if_pos (by rfl)]; rfl
theorem partsS_step {n d : Nat} {s : List UInt8} (h : s.head? ≠ some 41) : partsS n d s = match readS n (d + 1) s with
  | some (p, r, m) => (partsS m d r).map (fun q => (p :: q.1, q.2))
  | none => none := by
 unfold partsS
 rw [readG, if_neg h]
 have e : readF (2 * n + 1) n (d + 1) s = readS n (d + 1) s := rfl
 rw [e]
 cases hr : readS n (d + 1) s with
 | none => rfl
 | some q =>
  obtain ⟨p, r, m⟩ := q
  have := readS_less hr
  simp only
  rw [readG_fuel (n := m) _ (by omega)]
  rfl
def parseS (s : List UInt8) : Option Fi := match readS 40 1 s with
 | some (x, [], _) => if formedS x = true then some x else none
 | _ => none
theorem bad_esc {c : UInt8} (_ : bad c = true) : c.toNat / 16 < 16 /\ c.toNat % 16 < 16 := ⟨by have := c.toNat_lt; omega, by omega⟩
theorem unesc_esc : ∀ v : List UInt8, unescV (escV v) = some v
 | [] => rfl
 | c :: r => by
  have ih := unesc_esc r
  unfold escV escF
  split
  · rename_i hb
    have hh := hexd_props ⟨c.toNat / 16, (bad_esc hb).1⟩
    have hl := hexd_props ⟨c.toNat % 16, (bad_esc hb).2⟩
    show unescV (92 :: hexd (c.toNat / 16) :: hexd (c.toNat % 16) :: escV r) = _
    rw [unescV, if_pos rfl]
    simp only [hh.1, hl.1, ih, Option.map_some]
    congr 2
    have : 16 * (c.toNat / 16) + c.toNat % 16 = c.toNat := by omega
    rw [this]
    exact UInt8.ofNat_toNat
  · rename_i hb
    have h92 : c ≠ 92 := fun h => hb (by subst h; rfl)
    show unescV (c :: escV r) = _
    rw [unescV.eq_def]
    simp only [if_neg h92, if_neg hb, ih, Option.map_some]
theorem unescL_esc : ∀ l : List (List UInt8), unescL (l.map escV) = some l
 | [] => rfl
 | p :: r => by
  rw [List.map_cons, unescL, unesc_esc, unescL_esc r]
theorem esc_clean : ∀ (v : List UInt8), ∀ c ∈ escV v, c ≠ 42 /\ c ≠ 40 /\ c ≠ 41
 | [], c, h => by cases h
 | d :: r, c, h => by
  unfold escV at h
  rcases List.mem_append.1 h with h | h
  · unfold escF at h
    split at h
    · rename_i hb
      have hh := hexd_props ⟨d.toNat / 16, (bad_esc hb).1⟩
      have hl := hexd_props ⟨d.toNat % 16, (bad_esc hb).2⟩
      have hx : ∀ n : Fin 16, hexd n.val ≠ 42 /\ hexd n.val ≠ 40 /\ hexd n.val ≠ 41 := by decide +kernel
      simp only [List.mem_cons, List.not_mem_nil, or_false] at h
      rcases h with rfl | rfl | rfl
      · decide
      · exact hx ⟨d.toNat / 16, (bad_esc hb).1⟩
      · exact hx ⟨d.toNat % 16, (bad_esc hb).2⟩
    · rename_i hb
      rw [List.mem_singleton] at h
      subst h
      refine ⟨fun e => hb (by subst e; rfl), fun e => hb (by subst e; rfl), fun e => hb (by subst e; rfl)⟩
  · exact esc_clean r c h
theorem attrC_props (c : UInt8) (h : attrC c = true) : isSign c = false /\ c ≠ 41 /\ c ≠ 40 /\ opK c = none := by
 have hx : ∀ n : Fin 256, attrC (UInt8.ofNat n.val) = true -> isSign (UInt8.ofNat n.val) = false /\ UInt8.ofNat n.val ≠ 41 /\ UInt8.ofNat n.val ≠ 40 /\ opK (UInt8.ofNat n.val) = none := by decide +kernel
 have := hx ⟨c.toNat, c.toNat_lt⟩
 simp only [UInt8.ofNat_toNat] at this
 exact this h
theorem attr_all {a : List UInt8} (h : attrS a = true) : a ≠ [] /\ ∀ c ∈ a, attrC c = true := by
 cases a with
 | nil => cases h
 | cons c r =>
  unfold attrS at h
  simp only [Bool.and_eq_true, List.all_eq_true] at h
  refine ⟨by simp, fun d hd => ?_⟩
  rcases List.mem_cons.1 hd with rfl | hd
  · unfold attrC; rw [h.1.1]; rfl
  · exact h.1.2 d hd
theorem take_sign {a r : List UInt8} {s : UInt8} (h : ∀ c ∈ a, isSign c = false) (hs : isSign s = true) : (a ++ s :: r).takeWhile (fun c => !isSign c) = a /\ (a ++ s :: r).dropWhile (fun c => !isSign c) = s :: r := by
 induction a with
 | nil => simp [hs]
 | cons c a ih =>
  have h1 := h c (List.mem_cons_self ..)
  obtain ⟨i1, i2⟩ := ih (fun d hd => h d (List.mem_cons_of_mem _ hd))
  constructor
  · rw [List.cons_append, List.takeWhile_cons, h1]; simp [i1]
  · rw [List.cons_append, List.dropWhile_cons, h1]; simp [i2]
theorem pieces_plain {c : UInt8} : ∀ {l : List UInt8}, (∀ x ∈ l, x ≠ c) -> RuS.pieces c l = [l]
 | [], _ => rfl
 | b :: l, h => by
  rw [RuS.pieces, if_neg (h b (List.mem_cons_self ..)), pieces_plain (fun x hx => h x (List.mem_cons_of_mem _ hx))]
theorem pieces_sep {c : UInt8} : ∀ {l r : List UInt8}, (∀ x ∈ l, x ≠ c) -> RuS.pieces c (l ++ c :: r) = l :: RuS.pieces c r
 | [], r, _ => by rw [List.nil_append, RuS.pieces, if_pos rfl]
 | b :: l, r, h => by
  rw [List.cons_append, RuS.pieces, if_neg (h b (List.mem_cons_self ..)), pieces_sep (fun x hx => h x (List.mem_cons_of_mem _ hx))]
theorem pieces_star : ∀ (s : List (List UInt8)) (f l : List UInt8), RuS.pieces 42 (escV f ++ (starS s ++ 42 :: escV l)) = escV f :: (s.map escV ++ [escV l])
 | [], f, l => by
  show RuS.pieces 42 (escV f ++ 42 :: escV l) = _
  rw [pieces_sep (fun x hx => (esc_clean f x hx).1), pieces_plain (fun x hx => (esc_clean l x hx).1)]; rfl
 | p :: s, f, l => by
  show RuS.pieces 42 (escV f ++ 42 :: (escV p ++ starS s ++ 42 :: escV l)) = _
  rw [pieces_sep (fun x hx => (esc_clean f x hx).1), List.append_assoc, pieces_star s p l]; rfl
theorem star_clean : ∀ (s : List (List UInt8)), ∀ c ∈ starS s, c ≠ 41
 | [], c, h => by cases h
 | p :: s, c, h => by
  unfold starS at h
  rcases List.mem_cons.1 h with rfl | h
  · decide
  · rcases List.mem_append.1 h with h | h
    · exact (esc_clean p c h).2.2
    · exact star_clean s c h
theorem sign_first (k : Int) : ∃ s r, signS k = s :: r /\ isSign s = true /\ ∀ c ∈ signS k, c ≠ 41 := by
 unfold signS
 split
 · exact ⟨_, _, rfl, rfl, by simp⟩
 · split
   · exact ⟨_, _, rfl, rfl, by simp⟩
   · split
     · exact ⟨_, _, rfl, rfl, by simp⟩
     · exact ⟨_, _, rfl, rfl, by simp⟩
theorem nil_of {α : Type} {l : List α} (h : l.isEmpty = true) : l = [] := List.isEmpty_iff.1 h
theorem leaf_text {x : Fi} (hk : inner x.kind = false) (h : bareS x = true) : leafS (itemT x) = some x /\ (∀ c ∈ itemT x, c ≠ 41) /\ ∃ c r, itemT x = c :: r /\ opK c = none := by
 obtain ⟨k, a, v, f, l, s, ps⟩ := x
 have hk : ¬ (k = 0 \/ k = 1 \/ k = 2) := of_decide_eq_false hk
 have h : bareM k a v f l s ps.length = true := h
 unfold bareM at h
 rw [if_neg (by omega), if_neg (by omega)] at h
 have hleaf : leafy a ps.length = true -> ps = [] /\ attrS a = true := leafy_yes
 have hpie : pieced f l s = false -> f = [] /\ l = [] /\ s = [] := pieced_no
 have hhead : ∀ {a : List UInt8} (r : List UInt8), attrS a = true -> ∃ c q, a ++ r = c :: q /\ opK c = none := fun {a} r ha => by
  obtain ⟨h1, h2⟩ := attr_all ha
  cases a with
  | nil => exact absurd rfl h1
  | cons c q => exact ⟨c, q ++ r, rfl, (attrC_props c (h2 c (List.mem_cons_self ..))).2.2.2⟩
 split at h
 · rename_i hk2
   simp only [Bool.and_eq_true, Bool.not_eq_true'] at h
   obtain ⟨rfl, ha⟩ := hleaf h.1.1
   obtain ⟨rfl, rfl, rfl⟩ := hpie h.2
   obtain ⟨s0, r0, hs0, hs1, hs2⟩ := sign_first k
   have hat := attr_all ha
   have hsg := fun c hc => (attrC_props c (hat.2 c hc)).1
   have e : itemT (.mk k a v [] [] [] []) = a ++ signS k ++ escV v := by
    show itemM k a v [] [] [] = _
    unfold itemM
    rw [if_neg (by omega), if_neg (by omega)]
   have htw := take_sign (a := a) (r := r0 ++ escV v) hsg hs1
   rw [e]
   refine ⟨?_, fun c hc => ?_, by rw [List.append_assoc]; exact hhead _ ha⟩
   · rw [List.append_assoc, hs0, List.cons_append]
     unfold leafS
     rw [htw.1, htw.2]
     rcases hk2 with rfl | rfl | rfl | rfl
     · simp only [signS] at hs0
       have h3 : s0 = 61 /\ r0 = [] := by simpa [eq_comm] using hs0
       obtain ⟨rfl, rfl⟩ := h3
       rw [if_neg (by simp), if_neg (by simp), if_neg (by simp), if_pos (by simp)]
       have hv42 : escV v ≠ [42] := fun h => (esc_clean v 42 (by rw [h]; simp)).1 rfl
       show restS a (escV v) = _
       unfold restS
       rw [if_neg hv42, pieces_plain (fun x hx => (esc_clean v x hx).1)]
       have := unescL_esc [v]
       rw [List.map_cons, List.map_nil] at this
       rw [this]; rfl
     · have h3 : s0 = 62 /\ r0 = [61] := by simpa [signS, eq_comm] using hs0
       obtain ⟨rfl, rfl⟩ := h3
       rw [if_pos (by simp [List.isPrefixOf])]
       show (unescV (escV v)).map _ = _
       rw [unesc_esc]; rfl
     · have h3 : s0 = 60 /\ r0 = [61] := by simpa [signS, eq_comm] using hs0
       obtain ⟨rfl, rfl⟩ := h3
       rw [if_neg (by simp [List.isPrefixOf]), if_pos (by simp [List.isPrefixOf])]
       show (unescV (escV v)).map _ = _
       rw [unesc_esc]; rfl
     · have h3 : s0 = 126 /\ r0 = [61] := by simpa [signS, eq_comm] using hs0
       obtain ⟨rfl, rfl⟩ := h3
       rw [if_neg (by simp [List.isPrefixOf]), if_neg (by simp [List.isPrefixOf]), if_pos (by simp [List.isPrefixOf])]
       show (unescV (escV v)).map _ = _
       rw [unesc_esc]; rfl
   · rcases List.mem_append.1 hc with hc | hc
     · rcases List.mem_append.1 hc with hc | hc
       · exact (attrC_props c (hat.2 c hc)).2.1
       · exact hs2 c hc
     · exact (esc_clean v c hc).2.2
 · split at h
   · rename_i hk7
     simp only [Bool.and_eq_true, Bool.not_eq_true'] at h
     obtain ⟨rfl, ha⟩ := hleaf h.1.1
     obtain ⟨rfl, rfl, rfl⟩ := hpie h.2
     obtain rfl := nil_of h.1.2
     subst hk7
     have hat := attr_all ha
     have htw := take_sign (a := a) (r := [42]) (s := 61) (fun c hc => (attrC_props c (hat.2 c hc)).1) rfl
     refine ⟨?_, fun c hc => ?_, hhead _ ha⟩
     · show leafS (a ++ [61, 42]) = _
       unfold leafS
       rw [htw.1, htw.2, if_neg (by simp [List.isPrefixOf]), if_neg (by simp [List.isPrefixOf]), if_neg (by simp [List.isPrefixOf]), if_pos (by simp [List.isPrefixOf])]
       rfl
     · have hc : c ∈ a ++ [61, 42] := hc
       rcases List.mem_append.1 hc with hc | hc
       · exact (attrC_props c (hat.2 c hc)).2.1
       · simp only [List.mem_cons, List.not_mem_nil, or_false] at hc
         rcases hc with rfl | rfl <;> decide
   · split at h
     · rename_i hk4
       simp only [Bool.and_eq_true] at h
       obtain ⟨⟨⟨⟨⟨h1, h2⟩, h3⟩, _⟩, _⟩, _⟩ := h
       obtain ⟨rfl, ha⟩ := hleaf h1
       obtain rfl := nil_of h2
       subst hk4
       have hat := attr_all ha
       have htw := take_sign (a := a) (r := escV f ++ (starS s ++ 42 :: escV l)) (s := 61) (fun c hc => (attrC_props c (hat.2 c hc)).1) rfl
       refine ⟨?_, fun c hc => ?_, hhead _ ha⟩
       · show leafS (a ++ 61 :: (escV f ++ (starS s ++ 42 :: escV l))) = _
         unfold leafS
         rw [htw.1, htw.2, if_neg (by simp [List.isPrefixOf]), if_neg (by simp [List.isPrefixOf]), if_neg (by simp [List.isPrefixOf]), if_pos (by simp [List.isPrefixOf])]
         show restS a (escV f ++ (starS s ++ 42 :: escV l)) = _
         have hv42 : escV f ++ (starS s ++ 42 :: escV l) ≠ [42] := fun h => by
          have hf : f = [] := by
           cases f with
           | nil => rfl
           | cons c r =>
            have hl : (escV (c :: r)).length <= 0 := by
             have := congrArg List.length h
             simp only [List.length_append, List.length_cons, List.length_nil] at this
             omega
            have h0 : escV (c :: r) = [] := List.eq_nil_of_length_eq_zero (by omega)
            have := unesc_esc (c :: r)
            rw [h0] at this; cases this
          subst hf
          have hs : s = [] := by
           cases s with
           | nil => rfl
           | cons p r =>
            have := congrArg List.length h
            simp only [starS, List.length_append, List.length_cons, List.length_nil] at this
            omega
          subst hs
          have hl : l = [] := by
           have h4 : escV l = [] := by simpa [escV, starS] using h
           have := unesc_esc l
           rw [h4] at this
           exact (Option.some.inj this).symm
          subst hl
          cases h3
         unfold restS
         rw [if_neg hv42, pieces_star]
         have := unescL_esc (f :: (s ++ [l]))
         rw [List.map_cons, List.map_append, List.map_cons, List.map_nil] at this
         rw [this]
         show some (piecesF a (f :: (s ++ [l]))) = _
         cases s with
         | nil => rfl
         | cons p r =>
          show some (Fi.mk 4 a [] _ _ _ []) = _
          have e1 : (f :: (p :: r ++ [l])).getLastD [] = l := by
           show ((f :: p :: r) ++ [l]).getLastD [] = l
           rw [List.getLastD_eq_getLast?, List.getLast?_concat]; rfl
          have e2 : ((f :: (p :: r ++ [l])).drop 1).dropLast = p :: r := by
           rw [List.drop_one, List.tail_cons]
           exact List.dropLast_concat
          rw [e1, e2]; rfl
       · have hc : c ∈ a ++ 61 :: (escV f ++ (starS s ++ 42 :: escV l)) := hc
         rcases List.mem_append.1 hc with hc | hc
         · exact (attrC_props c (hat.2 c hc)).2.1
         · rcases List.mem_cons.1 hc with rfl | hc
           · decide
           · rcases List.mem_append.1 hc with hc | hc
             · exact (esc_clean f c hc).2.2
             · rcases List.mem_append.1 hc with hc | hc
               · exact star_clean s c hc
               · rcases List.mem_cons.1 hc with rfl | hc
                 · decide
                 · exact (esc_clean l c hc).2.2
     · cases h
theorem cut_item : ∀ {t r : List UInt8}, (∀ c ∈ t, c ≠ 41) -> cutB (t ++ 41 :: r) = some (t, r)
 | [], r, _ => by rw [List.nil_append, cutB, if_pos rfl]
 | c :: t, r, h => by
  rw [List.cons_append, cutB, if_neg (h c (List.mem_cons_self ..)), cut_item (fun x hx => h x (List.mem_cons_of_mem _ hx))]; rfl
theorem opK_opC {k : Int} (h : inner k = true) : opK (opC k) = some k := by
 have h : k = 0 \/ k = 1 \/ k = 2 := of_decide_eq_true h
 rcases h with rfl | rfl | rfl <;> rfl
theorem inner_bare {k : Int} {a v f l : List UInt8} {s : List (List UInt8)} {ps : List Fi} (hk : inner k = true) (h : bareS (.mk k a v f l s ps) = true) : a = [] /\ v = [] /\ f = [] /\ l = [] /\ s = [] := by
 have hk : k = 0 \/ k = 1 \/ k = 2 := of_decide_eq_true hk
 have h : bareM k a v f l s ps.length = true := h
 have hpie : pieced f l s = false -> f = [] /\ l = [] /\ s = [] := pieced_no
 unfold bareM at h
 by_cases h2 : k = 2
 · subst h2
   rw [if_neg (by decide), if_pos rfl] at h
   simp only [Bool.and_eq_true, Bool.not_eq_true'] at h
   exact ⟨nil_of h.1.1.1, nil_of h.1.1.2, hpie h.1.2⟩
 · rw [if_pos (by omega)] at h
   simp only [Bool.and_eq_true, Bool.not_eq_true'] at h
   exact ⟨nil_of h.1.1, nil_of h.1.2, hpie h.2⟩
theorem text_head (x : Fi) : ∃ r, textS x = 40 :: r := by
 cases x
 exact ⟨_, by rw [textS]⟩
mutual
theorem read_text : ∀ (x : Fi) (n d : Nat) (rest : List UInt8), allS x = true -> d + depth x <= 21 -> nodes x <= n -> readS n d (textS x ++ rest) = some (x, rest, n - nodes x)
 | .mk k a v f l s ps, n, d, rest, h, hd, hn => by
  rw [allS, Bool.and_eq_true] at h
  rw [depth] at hd
  rw [nodes] at hn ⊢
  obtain ⟨m, rfl⟩ : ∃ m, n = m + 1 := ⟨n - 1, by omega⟩
  have hg : ¬ (m + 1 = 0 \/ 20 < d) := by omega
  rw [textS]
  cases hk : inner k with
  | true =>
   rw [if_pos rfl]
   obtain ⟨rfl, rfl, rfl, rfl, rfl⟩ := inner_bare hk h.1
   show readS (m + 1) d (40 :: opC k :: (textL ps ++ [41] ++ rest)) = _
   rw [readS_op hg (opK_opC hk), List.append_assoc]
   show (partsS m d (textL ps ++ 41 :: rest)).map _ = _
   rw [read_texts ps m d rest h.2 (by omega) (by omega)]
   simp only [Option.map_some]
   congr 3
   omega
  | false =>
   rw [if_neg (by simp)]
   obtain ⟨h1, h2, c, r, h3, h4⟩ := leaf_text (x := .mk k a v f l s ps) hk h.1
   have hps : ps = [] := by
    have hb : bareM k a v f l s ps.length = true := h.1
    have hk : ¬ (k = 0 \/ k = 1 \/ k = 2) := of_decide_eq_false hk
    unfold bareM at hb
    rw [if_neg (by omega), if_neg (by omega)] at hb
    have hleaf : leafy a ps.length = true -> ps = [] := fun h => (leafy_yes h).1
    split at hb
    · simp only [Bool.and_eq_true] at hb; exact hleaf hb.1.1
    · split at hb
      · simp only [Bool.and_eq_true] at hb; exact hleaf hb.1.1
      · split at hb
        · simp only [Bool.and_eq_true] at hb; exact hleaf hb.1.1.1.1.1
        · cases hb
   subst hps
   have e : 40 :: (itemT (.mk k a v f l s []) ++ [41]) ++ rest = 40 :: c :: (r ++ 41 :: rest) := by rw [h3]; simp
   rw [e, readS_item hg h4]
   have e2 : c :: (r ++ 41 :: rest) = itemT (.mk k a v f l s []) ++ 41 :: rest := by rw [h3]; rfl
   unfold itemS
   rw [e2, cut_item h2]
   simp only [h1, Option.map_some, nodesL]
   congr 3
theorem read_texts : ∀ (ps : List Fi) (n d : Nat) (rest : List UInt8), allL ps = true -> d + depthL ps <= 20 -> nodesL ps <= n -> partsS n d (textL ps ++ 41 :: rest) = some (ps, rest, n - nodesL ps)
 | [], n, d, rest, _, _, _ => by
  rw [textL, List.nil_append, partsS_end]
  simp [nodesL]
 | p :: r, n, d, rest, h, hd, hn => by
  rw [allL, Bool.and_eq_true] at h
  rw [depthL] at hd
  rw [nodesL] at hn ⊢
  have h1 := Nat.le_max_left (depth p) (depthL r)
  have h2 := Nat.le_max_right (depth p) (depthL r)
  rw [textL, List.append_assoc]
  obtain ⟨q, hq⟩ := text_head p
  rw [partsS_step (by rw [hq]; simp), read_text p n (d + 1) _ h.1 (by omega) (by omega)]
  simp only
  rw [read_texts r (n - nodes p) d rest h.2 (by omega) (by omega)]
  simp only [Option.map_some]
  congr 3
  omega
end
theorem parse_text {x : Fi} (h : formedS x = true) : parseS (textS x) = some x := by
 have h' := h
 unfold formedS at h
 simp only [Bool.and_eq_true, decide_eq_true_eq] at h
 have := read_text x 40 1 [] h.2.2 (by omega) h.1
 rw [List.append_nil] at this
 unfold parseS
 rw [this]
 simp only [h', if_true]
end FiS
end
section
namespace FiS
open Go.Lib
def cutsS : List (List UInt8) -> List UInt8 -> Bool
 | [], _ => true
 | p :: r, s => if 0 <= Lib.index s p then cutsS r (s.drop ((Lib.index s p).toNat + p.length)) else false
def betweenS (f l s : List UInt8) : Option (List UInt8) :=
 if Lib.hasPrefix s f = true then (if Lib.hasSuffix (s.drop f.length) l = true then some ((s.drop f.length).take ((s.drop f.length).length - l.length)) else none) else none
def piecesS (f l : List UInt8) (any : List (List UInt8)) (s : List UInt8) : Bool := match betweenS f l s with
 | some m => cutsS any m
 | none => false
theorem between_doc (f l s : List UInt8) : betweenS f l s = if s.length < f.length + l.length \/ ¬ s.take f.length = f \/ ¬ s.drop (s.length - l.length) = l then none else some ((s.take (s.length - l.length)).drop f.length) := by
 unfold betweenS Lib.hasPrefix Lib.hasSuffix
 by_cases hp : f.isPrefixOf s = true
 · rw [if_pos hp]
   obtain ⟨t, rfl⟩ := List.isPrefixOf_iff_prefix.1 hp
   rw [List.drop_left]
   by_cases hs : l.isSuffixOf t = true
   · rw [if_pos hs]
     obtain ⟨u, rfl⟩ := List.isSuffixOf_iff_suffix.1 hs
     rw [if_neg]
     · congr 1
       have e : (f ++ (u ++ l)).length - l.length = (f ++ u).length := by simp only [List.length_append]; omega
       rw [e, <- List.append_assoc, List.take_left, List.drop_left, List.length_append, Nat.add_sub_cancel, List.take_left]
     · rintro (h | h | h)
       · simp only [List.length_append] at h; omega
       · exact h (List.take_left ..)
       · apply h
         have e : (f ++ (u ++ l)).length - l.length = (f ++ u).length := by simp only [List.length_append]; omega
         rw [e, <- List.append_assoc, List.drop_left]
   · rw [if_neg hs, if_pos]
     by_cases hl : (f ++ t).length < f.length + l.length
     · exact .inl hl
     · refine .inr (.inr fun h => hs ?_)
       rw [List.length_append] at hl h
       have e : f.length + t.length - l.length = f.length + (t.length - l.length) := by omega
       rw [e, List.drop_append, List.drop_eq_nil_of_le (by omega), List.nil_append] at h
       have e2 : f.length + (t.length - l.length) - f.length = t.length - l.length := by omega
       rw [e2] at h
       refine List.isSuffixOf_iff_suffix.2 ⟨t.take (t.length - l.length), ?_⟩
       conv => lhs; rhs; rw [<- h]
       exact List.take_append_drop ..
 · rw [if_neg hp, if_pos]
   refine .inr (.inl fun h => hp ?_)
   refine List.isPrefixOf_iff_prefix.2 ⟨s.drop f.length, ?_⟩
   conv => lhs; lhs; rw [<- h]
   exact List.take_append_drop ..
def lowIf (sy : Int) (p : List UInt8) : List UInt8 := if sy = 1 then RuS.lower p else p
def valueE (k : Int) (a v f l : List UInt8) (s : List (List UInt8)) (x : List UInt8) : Bool :=
 if (DnS.valueS a x).2 = 0 then
  (if k = 4 then piecesS (lowIf (RuS.typeOf a).2 f) (lowIf (RuS.typeOf a).2 l) (s.map (lowIf (RuS.typeOf a).2)) (DnS.valueS a x).1
  else if k = 3 \/ (RuS.typeOf a).2 = 5 then (DnS.valueS a x).1 == (DnS.valueS a v).1
  else if k = 8 then nearB a x v
  else decide (k = 5 /\ 0 <= cmpB a x v \/ k = 6 /\ cmpB a x v <= 0))
 else false
def typedE (t : List UInt8) : List EnS.At -> List (List UInt8)
 | [] => []
 | a :: r => (if (RuS.typeOf a.typ).1 = t then a.vals else []) ++ typedE t r
def stuckE (k : Int) (a v : List UInt8) : Bool := decide ((RuS.typeOf a).2 = 0) || (decide (k = 4) && decide (2 < (RuS.typeOf a).2)) || ((decide (k = 5) || decide (k = 6)) && (decide ((RuS.typeOf a).2 = 2) || decide ((RuS.typeOf a).2 = 5))) || (decide (k ≠ 4) && decide (k ≠ 7) && decide ((DnS.valueS a v).2 ≠ 0))
def leafE (A : List EnS.At) (k : Int) (a v f l : List UInt8) (s : List (List UInt8)) : Int :=
 if stuckE k a v = true then -1
 else if (typedE (RuS.typeOf a).1 A).any (fun x => decide (k = 7) || valueE k a v f l s x) = true then 1 else 0
def notE (x : Int) : Int := if x = -1 then -1 else if x = 0 then 1 else 0
mutual
def evalE (A : List EnS.At) : Fi -> Int
 | .mk k a v f l s ps => if k = 0 \/ k = 1 then evalG A k (1 - k) ps else if k = 2 then notE (evalH A ps) else leafE A k a v f l s
def evalG (A : List EnS.At) (k : Int) (acc : Int) : List Fi -> Int
 | [] => acc
 | p :: r => if evalE A p = k then k else evalG A k (if evalE A p = -1 then -1 else acc) r
def evalH (A : List EnS.At) : List Fi -> Int
 | [] => 0
 | p :: _ => evalE A p
end
def evalS (A : List EnS.At) (x : Fi) : Int := if formedS x = true then evalE A x else -1
theorem leafE_three (A : List EnS.At) (k : Int) (a v f l : List UInt8) (s : List (List UInt8)) : leafE A k a v f l s = -1 \/ leafE A k a v f l s = 0 \/ leafE A k a v f l s = 1 := by
 unfold leafE
 split
 · exact .inl rfl
 · split
   · exact .inr (.inr rfl)
   · exact .inr (.inl rfl)
mutual
theorem evalE_three (A : List EnS.At) : ∀ x : Fi, evalE A x = -1 \/ evalE A x = 0 \/ evalE A x = 1
 | .mk k a v f l s ps => by
  rw [evalE]
  split
  · rename_i h
    have := evalG_three A k (1 - k) (by omega) ps
    rcases this with h2 | h2 | h2
    · exact .inl h2
    · rw [h2]; omega
    · rw [h2]; omega
  · split
    · unfold notE
      split
      · exact .inl rfl
      · split
        · exact .inr (.inr rfl)
        · exact .inr (.inl rfl)
    · exact leafE_three ..
theorem evalG_three (A : List EnS.At) (k acc : Int) (ha : acc = -1 \/ acc = 1 - k) : ∀ ps : List Fi, evalG A k acc ps = -1 \/ evalG A k acc ps = k \/ evalG A k acc ps = 1 - k
 | [] => by rw [evalG]; omega
 | p :: r => by
  rw [evalG]
  split
  · exact .inr (.inl rfl)
  · exact evalG_three A k _ (by split <;> omega) r
end
theorem evalG_stop (A : List EnS.At) (k : Int) : ∀ (acc : Int) (ps : List Fi) (j : Nat) (hj : j < ps.length), evalE A (ps[j]'hj) = k -> evalG A k acc ps = k
 | acc, [], j, hj, _ => by simp at hj
 | acc, p :: r, 0, _, h => by rw [evalG, if_pos (show evalE A p = k from h)]
 | acc, p :: r, j + 1, hj, h => by
  rw [evalG]
  split
  · rfl
  · exact evalG_stop A k _ r j (by simpa using hj) h
def accE (A : List EnS.At) (acc : Int) : List Fi -> Int
 | [] => acc
 | p :: r => accE A (if evalE A p = -1 then -1 else acc) r
theorem accE_take {A : List EnS.At} : ∀ {acc : Int} {ps : List Fi} {j : Nat} (hj : j < ps.length), accE A acc (ps.take (j + 1)) = if evalE A (ps[j]'hj) = -1 then -1 else accE A acc (ps.take j)
 | acc, [], j, hj => by simp at hj
 | acc, p :: r, 0, _ => by
  show accE A (if evalE A p = -1 then -1 else acc) (r.take 0) = if evalE A p = -1 then -1 else accE A acc []
  simp [accE]
 | acc, p :: r, j + 1, hj => accE_take (acc := if evalE A p = -1 then -1 else acc) (ps := r) (j := j) (by simpa using hj)
theorem evalG_all {A : List EnS.At} {k : Int} : ∀ {acc : Int} {ps : List Fi}, (∀ j (hj : j < ps.length), evalE A (ps[j]'hj) ≠ k) -> evalG A k acc ps = accE A acc ps
 | acc, [], _ => by rw [evalG]; rfl
 | acc, p :: r, h => by
  rw [evalG, if_neg (show ¬ evalE A p = k from h 0 (by simp)), accE]
  exact evalG_all (fun j hj => h (j + 1) (by simpa using hj))
end FiS
end
end Go.Proofs.YtjmfknfponjgkaaGreatDoor
