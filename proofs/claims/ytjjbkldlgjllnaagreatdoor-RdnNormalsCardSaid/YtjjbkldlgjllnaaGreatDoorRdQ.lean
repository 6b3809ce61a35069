/- Plain laws of parts of names: a part's text is read as the part; the normal part is its own. No program. Conditions: those that each theorem states. -/
import Derived.Test.YtjjbkldlgjllnaaGreatDoorRdP
namespace Go.Proofs.YtjjbkldlgjllnaaGreatDoor.RdS
open Go.Lib

theorem join_snoc (X : List (List UInt8)) (y s : List UInt8) : Lib.join (X ++ [y]) s = if X.isEmpty then y else Lib.join X s ++ s ++ y := by
  cases X with
  | nil => simp [Lib.join_one]
  | cons x X =>
    simp only [List.isEmpty_cons, Bool.false_eq_true, if_false]
    unfold Lib.join List.intercalate
    induction X generalizing x with
    | nil => simp [List.intersperse]
    | cons z Z ih =>
      have := ih z
      simp only [List.cons_append, List.intersperse_cons_cons, List.flatten_cons, List.append_assoc] at this ⊢
      rw [this]
theorem textTo_join (l : List Pr) : ∀ k, k ≤ l.length → textTo l k = Lib.join ((l.take k).map pairT) [43]
  | 0, _ => by simp [textTo, Lib.join, List.intercalate]
  | k + 1, h => by
    have hk : k < l.length := by omega
    rw [textTo_succ l k hk, textTo_join l k (by omega), List.take_succ_eq_append_getElem hk, List.map_append, List.map_singleton, join_snoc]
    cases k with
    | zero => simp [Lib.join, List.intercalate]
    | succ k =>
      have e : ((l.take (k + 1)).map pairT).isEmpty = false := by
        rw [List.isEmpty_eq_false_iff]; intro h2
        have h3 := congrArg List.length h2
        rw [List.length_map, List.length_take, List.length_nil] at h3; omega
      rw [if_neg (by omega), e, if_neg (by decide)]
theorem split_join {sep : UInt8} : ∀ (Ps : List (List UInt8)), Ps ≠ [] → (∀ p ∈ Ps, NoSep sep p) → splitE sep (Lib.join Ps [sep]) = Ps
  | [], h, _ => absurd rfl h
  | [p], _, hn => by rw [Lib.join_one]; exact (hn p (List.mem_singleton.2 rfl)).split
  | p :: q :: r, _, hn => by
    rw [RuS.join_cons_cons]
    have ih := split_join (sep := sep) (q :: r) (by simp) (fun x hx => hn x (List.mem_cons_of_mem _ hx))
    rw [show p ++ [sep] ++ Lib.join (q :: r) [sep] = p ++ sep :: Lib.join (q :: r) [sep] from by simp]
    rw [(hn p (List.mem_cons_self ..)).split_sep, ih]

theorem tab_letters : ∀ r ∈ RuS.tab, ∀ c ∈ r.2.1, 65 ≤ c.toNat ∧ c.toNat ≤ 122 ∧ c ≠ 92 := by decide +kernel
theorem type_letters (nm : List UInt8) : ∀ c ∈ (RuS.typeOf nm).1, 65 ≤ c.toNat ∧ c.toNat ≤ 122 ∧ c ≠ 92 := by
  unfold RuS.typeOf RuS.typeM
  cases h : RuS.tab.find? (fun r => RuS.lower nm == r.1) with
  | none => intro c hc; cases hc
  | some r => exact tab_letters r (List.mem_of_find?_eq_some h)
theorem pairOk_parts {last : List UInt8} {p : Pr} (h : pairOk last p = true) : (RuS.typeOf p.1).1 = p.1 ∧ ((RuS.typeOf p.1).2 = 1 ∨ (RuS.typeOf p.1).2 = 3) ∧ Op.bytesLess last p.1 = true ∧ (RuS.normal p.1 p.2).2 = 0 := by
  unfold pairOk at h
  simp only [Bool.and_eq_true, Bool.or_eq_true, beq_iff_eq] at h
  exact ⟨h.1.1.1, h.1.1.2, h.1.2, h.2⟩
theorem chain_all : ∀ {l : List Pr} {last : List UInt8}, chain last l = true → ∀ p ∈ l, ∃ la, pairOk la p = true
  | q :: l, last, h, p, hp => by
    have h' : (pairOk last q && chain q.1 l) = true := h
    rw [Bool.and_eq_true] at h'
    rcases List.mem_cons.1 hp with rfl | hp
    · exact ⟨_, h'.1⟩
    · exact chain_all h'.2 p hp
theorem formed_parts {l : List Pr} (h : formedS l = true) : 1 ≤ l.length ∧ l.length ≤ 3 ∧ chain [] l = true ∧ ∀ p ∈ l, (RuS.typeOf p.1).1 = p.1 ∧ ((RuS.typeOf p.1).2 = 1 ∨ (RuS.typeOf p.1).2 = 3) ∧ (RuS.normal p.1 p.2).2 = 0 := by
  unfold formedS at h
  simp only [Bool.and_eq_true, decide_eq_true_eq] at h
  refine ⟨h.1.1, h.1.2, h.2, fun p hp => ?_⟩
  obtain ⟨la, hl⟩ := chain_all h.2 p hp
  have := pairOk_parts hl
  exact ⟨this.1, this.2.1, this.2.2.2⟩
theorem type_ne {nm : List UInt8} (h : (RuS.typeOf nm).2 = 1 ∨ (RuS.typeOf nm).2 = 3) : (RuS.typeOf nm).1 ≠ [] := by
  rcases RuS.typeM_all (RuS.lower nm) with e | e
  · have e2 : RuS.typeOf nm = ([], 0) := e
    rw [e2] at h; simp at h
  · have e2 : 1 ≤ (RuS.typeOf nm).1.length := e.2.2.1
    intro h0; rw [h0] at e2; simp at e2
theorem takeWhile_stop {t u : List UInt8} (h : ∀ c ∈ t, c ≠ 61) : (t ++ 61 :: u).takeWhile (· != 61) = t := by
  induction t with
  | nil => simp
  | cons c t ih =>
    have hc := h c (List.mem_cons_self ..)
    rw [List.cons_append, List.takeWhile_cons, if_pos (by simpa using hc), ih (fun d hd => h d (List.mem_cons_of_mem _ hd))]
theorem pair_back {p : Pr} (h1 : (RuS.typeOf p.1).1 = p.1) (h2 : (RuS.typeOf p.1).2 = 1 ∨ (RuS.typeOf p.1).2 = 3) : pairS (pairT p) = some p := by
  have hl := type_letters p.1
  rw [h1] at hl
  have hn := type_ne h2
  rw [h1] at hn
  have e : pairT p = p.1 ++ 61 :: escS p.2 := by unfold pairT; simp
  have e2 : nameOf (pairT p) = p.1 := by
    unfold nameOf
    rw [e]
    exact takeWhile_stop (fun c hc => by intro h; subst h; exact absurd (hl _ hc).1 (by decide))
  unfold pairS
  rw [e2, if_pos (by rw [e, List.contains_iff_mem]; simp), h1, if_neg hn]
  have e3 : (pairT p).drop (p.1.length + 1) = escS p.2 := by
    rw [e, List.drop_append]
    simp
  rw [e3, read_escS]
  rfl
theorem pairT_noSep {sep : UInt8} (hs : special sep = true) (h9 : sep ≠ 92) (hr : sep.toNat < 65) {p : Pr} (h1 : (RuS.typeOf p.1).1 = p.1) : NoSep sep (pairT p) := by
  have hl := type_letters p.1
  rw [h1] at hl
  unfold pairT
  refine NoSep.append (NoSep.append (NoSep.all (fun c hc => ⟨?_, (hl c hc).2.2⟩)) (NoSep.one (special_sep hs (by decide)) (by decide))) (escS_noSep hs h9 p.2)
  intro h; subst h; have := (hl _ hc).1; omega
theorem formed_noSep {sep : UInt8} (hs : special sep = true) (h9 : sep ≠ 92) (hr : sep.toNat < 65) (h43 : sep ≠ 43) {l : List Pr} (h : formedS l = true) : NoSep sep (textTo l l.length) := by
  obtain ⟨g1, g2, g3, g4⟩ := formed_parts h
  rw [textTo_join l _ (Nat.le_refl _), List.take_length]
  have hall : ∀ p ∈ l.map pairT, NoSep sep p := by
    intro x hx
    obtain ⟨p, hp, rfl⟩ := List.mem_map.1 hx
    exact pairT_noSep hs h9 hr (g4 p hp).1
  generalize l.map pairT = Ps at hall
  clear g1 g2 g3 g4
  induction Ps with
  | nil => simpa [Lib.join, List.intercalate] using NoSep.nil sep
  | cons p r ih =>
    cases r with
    | nil => rw [Lib.join_one]; exact hall p (List.mem_cons_self ..)
    | cons q r =>
      rw [RuS.join_cons_cons]
      exact ((hall p (List.mem_cons_self ..)).append (NoSep.one (fun e => h43 e.symm) (by decide))).append (ih (fun x hx => hall x (List.mem_cons_of_mem _ hx)))
theorem pairs_back : ∀ {l : List Pr}, (∀ p ∈ l, pairS (pairT p) = some p) → pairsS (l.map pairT) = some l
  | [], _ => rfl
  | p :: l, h => by
    rw [List.map_cons]
    unfold pairsS
    rw [h p (List.mem_cons_self ..)]
    simp only
    rw [pairs_back (fun q hq => h q (List.mem_cons_of_mem _ hq))]
    rfl
theorem sort_formed {l : List Pr} (h : formedS l = true) : sortS l = l := ((sort_same (List.Perm.refl l) ((formed_lt h).imp lt2_le2)).2 h).symm
/-- a part's text is read as the part -/
theorem part_back {l : List Pr} (h : formedS l = true) : partS (textTo l l.length) = (l, 0) := by
  obtain ⟨g1, g2, g3, g4⟩ := formed_parts h
  have e : splitE 43 (textTo l l.length) = l.map pairT := by
    rw [textTo_join l _ (Nat.le_refl _), List.take_length]
    refine split_join _ ?_ ?_
    · intro h0; have := congrArg List.length h0; rw [List.length_map] at this; simp at this; rw [this] at g1; simp at g1
    · intro x hx
      obtain ⟨p, hp, rfl⟩ := List.mem_map.1 hx
      exact pairT_noSep (by decide) (by decide) (by decide) (g4 p hp).1
  unfold partS
  rw [e, pairs_back (fun p hp => pair_back (g4 p hp).1 (g4 p hp).2.1)]
  simp only
  rw [sort_formed h, if_pos h]
/-- what is read is a part -/
theorem part_formed {s : List UInt8} {l : List Pr} (h : partS s = (l, 0)) : formedS l = true := by
  unfold partS at h
  split at h
  · cases h
  · rename_i ps hp
    split at h
    · rename_i hf; cases h; exact hf
    · cases h
theorem part_none {s : List UInt8} (h : (partS s).2 ≠ 0) : partS s = ([], 2) := by
  unfold partS at h ⊢
  split
  · rfl
  · rename_i ps hp
    rw [hp] at h
    simp only at h
    split
    · rename_i hf; rw [if_pos hf] at h; exact absurd rfl h
    · rfl

/-- the normal values -/
def normL (l : List Pr) : List Pr := l.map fun p => (p.1, (RuS.normal p.1 p.2).1)
def normP (l : List Pr) : List Pr × Int := if formedS l then (normL l, 0) else ([], 1)
theorem norm_pairOk {last : List UInt8} {p : Pr} (h : pairOk last p = true) : pairOk last (p.1, (RuS.normal p.1 p.2).1) = true ∧ (RuS.normal p.1 (RuS.normal p.1 p.2).1).1 = (RuS.normal p.1 p.2).1 := by
  obtain ⟨h1, h2, h3, h4⟩ := pairOk_parts h
  have hn : RuS.normal p.1 p.2 = ((RuS.normal p.1 p.2).1, 0) := by rw [← h4]
  have hi := RuS.normal_idem hn
  refine ⟨?_, by rw [hi]⟩
  unfold pairOk
  simp only [Bool.and_eq_true, Bool.or_eq_true, beq_iff_eq]
  exact ⟨⟨⟨h1, h2⟩, h3⟩, by rw [hi]⟩
theorem norm_chain : ∀ {l : List Pr} {last : List UInt8}, chain last l = true → chain last (normL l) = true ∧ normL (normL l) = normL l
  | [], _, _ => ⟨rfl, rfl⟩
  | q :: l, last, h => by
    have h' : (pairOk last q && chain q.1 l) = true := h
    rw [Bool.and_eq_true] at h'
    have h1 := norm_pairOk h'.1
    have ih := norm_chain h'.2
    refine ⟨?_, ?_⟩
    · show (pairOk last (q.1, (RuS.normal q.1 q.2).1) && chain q.1 (normL l)) = true
      rw [h1.1, ih.1]; rfl
    · show (q.1, (RuS.normal q.1 (RuS.normal q.1 q.2).1).1) :: normL (normL l) = (q.1, (RuS.normal q.1 q.2).1) :: normL l
      rw [h1.2, ih.2]
theorem normL_length (l : List Pr) : (normL l).length = l.length := by unfold normL; rw [List.length_map]
/-- the normal part is a part, and its own normal one -/
theorem norm_formed {l : List Pr} (h : formedS l = true) : formedS (normL l) = true ∧ normL (normL l) = normL l := by
  unfold formedS at h ⊢
  simp only [Bool.and_eq_true, decide_eq_true_eq] at h
  have := norm_chain h.2
  refine ⟨?_, this.2⟩
  rw [normL_length, this.1, decide_eq_true h.1.1, decide_eq_true h.1.2]; rfl
theorem escS_len (v : List UInt8) : (escS v).length ≤ 3 * v.length := escTo_len v v.length (Nat.le_refl _)
theorem pairT_len (p : Pr) : (pairT p).length ≤ p.1.length + 1 + 3 * p.2.length := by
  have := escS_len p.2
  unfold pairT
  simp only [List.length_append, List.length_cons, List.length_nil]; omega
theorem textTo_len (l : List Pr) (m : Nat) (h : ∀ p ∈ l, p.1.length ≤ m ∧ p.2.length ≤ m) : ∀ k, k ≤ l.length → (textTo l k).length ≤ k * (4 * m + 2)
  | 0, _ => by simp [textTo]
  | k + 1, hk => by
    have hl : k < l.length := by omega
    have ih := textTo_len l m h k (by omega)
    have h1 := pairT_len l[k]
    have h2 := h l[k] (List.getElem_mem hl)
    rw [textTo_succ l k hl, List.length_append, List.length_append]
    have h3 : (if k = 0 then ([] : List UInt8) else [43]).length ≤ 1 := by split <;> simp
    have h4 : (k + 1) * (4 * m + 2) = k * (4 * m + 2) + (4 * m + 2) := by rw [Nat.add_mul, Nat.one_mul]
    omega
end Go.Proofs.YtjjbkldlgjllnaaGreatDoor.RdS
