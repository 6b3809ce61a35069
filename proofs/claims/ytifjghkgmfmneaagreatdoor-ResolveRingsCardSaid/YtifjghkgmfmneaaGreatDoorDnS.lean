/- Plain laws of names: read, their parts' normal texts, joined; a normal text is its own. No program. Conditions: those that each theorem states. Plain laws of names by their parts' texts: under one another, order, parent, join, move, values. No program. Conditions: those that each theorem states. -/
import Derived.Test.YtifjghkgmfmneaaGreatDoorRdS
import Derived.Test.YtifjghkgmfmneaaGreatDoorRuS
namespace Go.Proofs.YtifjghkgmfmneaaGreatDoor.DnS
open Go.Lib RdS

/-- the parts of a name's pieces -/
def partsS : List (List UInt8) → Option (List (List Pr))
  | [] => some []
  | p :: ps => if (partS p).2 = 0 then (partsS ps).map ((partS p).1 :: ·) else none
def nameS (s : List UInt8) : List (List Pr) × Int :=
  if 1000 < s.length then ([], 4) else if s = [] then ([], 0) else if 12 < (splitE 44 s).length then ([], 4)
  else match partsS (splitE 44 s) with
    | none => ([], 2)
    | some l => (l, 0)
/-- a part's normal text -/
def ntext (l : List Pr) : List UInt8 := (printS (normL l)).1
def joinS (ts : List (List UInt8)) : List UInt8 := Lib.join ts [44]
/-- the normal parts' texts of a name -/
def textsS (s : List UInt8) : List (List UInt8) × Int :=
  if (nameS s).2 = 0 then (if 1000 < (joinS ((nameS s).1.map ntext)).length then ([], 4) else ((nameS s).1.map ntext, 0)) else ([], (nameS s).2)
def normN (s : List UInt8) : List UInt8 × Int := (joinS (textsS s).1, (textsS s).2)

theorem partsS_formed : ∀ {ps : List (List UInt8)} {l : List (List Pr)}, partsS ps = some l → l.length = ps.length ∧ ∀ q ∈ l, formedS q = true
  | [], l, h => by cases h; exact ⟨rfl, fun q hq => by cases hq⟩
  | p :: ps, l, h => by
    unfold partsS at h
    split at h
    · rename_i h0
      obtain ⟨l2, hl2, rfl⟩ := Option.map_eq_some_iff.1 h
      have ih := partsS_formed hl2
      refine ⟨by simp [ih.1], fun q hq => ?_⟩
      rcases List.mem_cons.1 hq with rfl | hq
      · exact part_formed (s := p) (by rw [← h0])
      · exact ih.2 q hq
    · cases h
theorem nameS_formed {s : List UInt8} {l : List (List Pr)} (h : nameS s = (l, 0)) : l.length ≤ 12 ∧ (∀ q ∈ l, formedS q = true) ∧ (l = [] ↔ s = []) := by
  unfold nameS at h
  split at h
  · cases h
  · split at h
    · rename_i hs
      cases h
      exact ⟨by simp, fun q hq => (by cases hq), ⟨fun _ => hs, fun _ => rfl⟩⟩
    · split at h
      · cases h
      · rename_i hs h12
        cases hp : partsS (splitE 44 s) with
        | none => rw [hp] at h; cases h
        | some l2 =>
          rw [hp] at h
          cases h
          have := partsS_formed hp
          obtain ⟨p0, ps0, e⟩ := splitE_ne 44 s
          refine ⟨by rw [this.1]; omega, this.2, ⟨fun h0 => ?_, fun h0 => absurd h0 hs⟩⟩
          rw [h0, e] at this; simp at this
theorem ntext_eq {l : List Pr} (h : formedS l = true) : ntext l = textTo (normL l) (normL l).length := by
  unfold ntext printS
  rw [if_pos (norm_formed h).1]
theorem ntext_back {l : List Pr} (h : formedS l = true) : partS (ntext l) = (normL l, 0) := by rw [ntext_eq h]; exact part_back (norm_formed h).1
theorem ntext_noSep {l : List Pr} (h : formedS l = true) : NoSep 44 (ntext l) := by
  rw [ntext_eq h]; exact formed_noSep (by decide) (by decide) (by decide) (by decide) (norm_formed h).1
theorem ntext_norm {l : List Pr} (h : formedS l = true) : ntext (normL l) = ntext l := by unfold ntext; rw [(norm_formed h).2]
theorem ntext_ne {l : List Pr} (h : formedS l = true) : ntext l ≠ [] := by
  intro h0
  have hb := ntext_back h
  rw [h0] at hb
  have : partS [] = ([], 2) := by decide +kernel
  rw [this] at hb
  have h2 := congrArg Prod.snd hb
  exact absurd (show (2 : Int) = 0 from h2) (by decide)
theorem partsS_back : ∀ {l : List (List Pr)}, (∀ q ∈ l, formedS q = true) → partsS (l.map ntext) = some (l.map normL)
  | [], _ => rfl
  | q :: l, h => by
    rw [List.map_cons]
    unfold partsS
    rw [ntext_back (h q (List.mem_cons_self ..)), if_pos rfl, partsS_back (fun p hp => h p (List.mem_cons_of_mem _ hp))]
    rfl
/-- a name's normal text is read as its normal parts -/
theorem name_back {l : List (List Pr)} (hn : l.length ≤ 12) (hf : ∀ q ∈ l, formedS q = true) (hl : (joinS (l.map ntext)).length ≤ 1000) : nameS (joinS (l.map ntext)) = (l.map normL, 0) := by
  cases l with
  | nil => simp [joinS, Lib.join, List.intercalate, nameS]
  | cons q l =>
    have hq := ntext_ne (hf q (List.mem_cons_self ..))
    have hsp : splitE 44 (joinS ((q :: l).map ntext)) = (q :: l).map ntext := by
      refine split_join _ (by simp) (fun p hp => ?_)
      obtain ⟨r, hr, rfl⟩ := List.mem_map.1 hp
      exact ntext_noSep (hf r hr)
    have hne : joinS ((q :: l).map ntext) ≠ [] := by
      intro h0
      rw [h0] at hsp
      simp only [splitE, List.map_cons] at hsp
      exact hq (List.cons.inj hsp).1.symm
    unfold nameS
    rw [if_neg (by omega), if_neg hne, hsp, if_neg (by rw [List.length_map]; omega), partsS_back hf]
theorem textsS_spec {s : List UInt8} {ts : List (List UInt8)} (h : textsS s = (ts, 0)) : ∃ l, nameS s = (l, 0) ∧ ts = l.map ntext ∧ (joinS ts).length ≤ 1000 := by
  unfold textsS at h
  split at h
  · rename_i h0
    split at h
    · cases h
    · rename_i h1
      cases h
      exact ⟨_, by rw [← h0], rfl, by omega⟩
  · rename_i h0
    injection h with _ h2
    exact absurd h2 h0
/-- the normal text has the same parts -/
theorem texts_back {s : List UInt8} {ts : List (List UInt8)} (h : textsS s = (ts, 0)) : textsS (joinS ts) = (ts, 0) := by
  obtain ⟨l, hl, rfl, hlen⟩ := textsS_spec h
  have hf := nameS_formed hl
  have hb := name_back hf.1 hf.2.1 hlen
  have hm : (l.map normL).map ntext = l.map ntext := by
    rw [List.map_map]
    exact List.map_congr_left fun q hq => ntext_norm (hf.2.1 q hq)
  unfold textsS
  rw [hb]
  simp only [if_true, hm]
  rw [if_neg (by omega)]
end Go.Proofs.YtifjghkgmfmneaaGreatDoor.DnS
namespace Go.Proofs.YtifjghkgmfmneaaGreatDoor.DnS
open Go.Lib RdS

/-- parts' texts, if they aren't too many nor too long -/
def fitS (ts : List (List UInt8)) : List UInt8 × Int := if 12 < ts.length ∨ 1000 < (joinS ts).length then ([], 4) else (joinS ts, 0)
theorem ntext_small {l : List Pr} (h : formedS l = true) : (ntext l).length ≤ 3000 := by
  rw [ntext_eq h]; exact text_small (norm_formed h).1 _ (Nat.le_refl _)
theorem printS_norm {l : List Pr} (h : formedS l = true) : printS (normL l) = (ntext l, 0) := by
  unfold ntext printS; rw [if_pos (norm_formed h).1]
theorem normP_formed {l : List Pr} (h : formedS l = true) : normP l = (normL l, 0) := by unfold normP; rw [if_pos h]

/-- a text that is a normal part's -/
def PartT (t : List UInt8) : Prop := ∃ q, formedS q = true ∧ t = ntext q
theorem parts_of {s : List UInt8} {ts : List (List UInt8)} (h : textsS s = (ts, 0)) : ts.length ≤ 12 ∧ (joinS ts).length ≤ 1000 ∧ ∀ t ∈ ts, PartT t := by
  obtain ⟨l, hl, rfl, hlen⟩ := textsS_spec h
  have hf := nameS_formed hl
  refine ⟨by rw [List.length_map]; exact hf.1, hlen, fun t ht => ?_⟩
  obtain ⟨q, hq, rfl⟩ := List.mem_map.1 ht
  exact ⟨q, hf.2.1 q hq, rfl⟩
theorem list_of_parts : ∀ {ts : List (List UInt8)}, (∀ t ∈ ts, PartT t) → ∃ l : List (List Pr), (∀ q ∈ l, formedS q = true) ∧ ts = l.map ntext
  | [], _ => ⟨[], fun q hq => (by cases hq), rfl⟩
  | t :: ts, h => by
    obtain ⟨l, hl, rfl⟩ := list_of_parts (ts := ts) (fun u hu => h u (List.mem_cons_of_mem _ hu))
    obtain ⟨q, hq, rfl⟩ := h t (List.mem_cons_self ..)
    refine ⟨q :: l, fun p hp => ?_, rfl⟩
    rcases List.mem_cons.1 hp with rfl | hp
    · exact hq
    · exact hl p hp
/-- normal texts joined are read as they are -/
theorem texts_of {ts : List (List UInt8)} (h : ∀ t ∈ ts, PartT t) (hn : ts.length ≤ 12) (hl : (joinS ts).length ≤ 1000) : textsS (joinS ts) = (ts, 0) := by
  obtain ⟨l, hf, rfl⟩ := list_of_parts h
  have hb := name_back (by rw [List.length_map] at hn; exact hn) hf hl
  have hm : (l.map normL).map ntext = l.map ntext := by
    rw [List.map_map]
    exact List.map_congr_left fun q hq => ntext_norm (hf q hq)
  unfold textsS
  rw [hb]
  simp only [if_true, hm]
  rw [if_neg (by omega)]
theorem fit_yes {ts : List (List UInt8)} {x : List UInt8} (h : fitS ts = (x, 0)) : ts.length ≤ 12 ∧ (joinS ts).length ≤ 1000 ∧ x = joinS ts := by
  unfold fitS at h
  split at h
  · cases h
  · rename_i h0
    cases h
    exact ⟨by omega, by omega, rfl⟩
theorem fit_no {ts : List (List UInt8)} : (fitS ts).2 ≠ 0 → fitS ts = ([], 4) := by
  unfold fitS
  split
  · intro _; rfl
  · intro h; exact absurd rfl h
theorem fit_in {ts : List (List UInt8)} (hn : ts.length ≤ 12) (hl : (joinS ts).length ≤ 1000) : fitS ts = (joinS ts, 0) := by
  unfold fitS; rw [if_neg (by omega)]
theorem texts_bad {s : List UInt8} (h : (textsS s).2 ≠ 0) : (textsS s).1 = [] := by
  unfold textsS at h ⊢
  split
  · rename_i h0
    rw [if_pos h0] at h
    split
    · rfl
    · rename_i h1; rw [if_neg h1] at h; exact absurd rfl h
  · rfl
theorem texts_len (s : List UInt8) : (textsS s).1.length ≤ 12 ∧ (joinS (textsS s).1).length ≤ 1000 := by
  by_cases h : (textsS s).2 = 0
  · have := parts_of (s := s) (ts := (textsS s).1) (by rw [← h])
    exact ⟨this.1, this.2.1⟩
  · rw [texts_bad h]; exact ⟨by simp, by simp [joinS, Lib.join, List.intercalate]⟩
theorem norm_len (s : List UInt8) : (normN s).1.length ≤ 1000 := (texts_len s).2
theorem texts_each {s : List UInt8} : ∀ t ∈ (textsS s).1, t.length ≤ 3000 := by
  intro t ht
  by_cases h : (textsS s).2 = 0
  · obtain ⟨q, hq, rfl⟩ := (parts_of (s := s) (ts := (textsS s).1) (by rw [← h])).2.2 t ht
    exact ntext_small hq
  · rw [texts_bad h] at ht; cases ht

/-- the parts that a has ahead of b's -/
def belowS (a b : List (List UInt8)) : Option (List (List UInt8)) :=
  if a.length < b.length then none else if a.drop (a.length - b.length) = b then some (a.take (a.length - b.length)) else none
theorem below_iff {a b r : List (List UInt8)} : belowS a b = some r ↔ a = r ++ b := by
  unfold belowS
  constructor
  · intro h
    split at h
    · cases h
    · split at h
      · rename_i h1 h2
        cases h
        have := List.take_append_drop (a.length - b.length) a
        rw [h2] at this
        exact this.symm
      · cases h
  · rintro rfl
    rw [if_neg (by rw [List.length_append]; omega), List.length_append, Nat.add_sub_cancel]
    simp
theorem below_self (a : List (List UInt8)) : belowS a a = some [] := below_iff.2 rfl
def underS (a b : List UInt8) : Bool := decide ((textsS a).2 = 0) && decide ((textsS b).2 = 0) && (belowS (textsS a).1 (textsS b).1).isSome
theorem under_iff {a b : List UInt8} : underS a b = true ↔ (textsS a).2 = 0 ∧ (textsS b).2 = 0 ∧ ∃ r, (textsS a).1 = r ++ (textsS b).1 := by
  unfold underS
  rw [Bool.and_eq_true, Bool.and_eq_true, decide_eq_true_eq, decide_eq_true_eq, Option.isSome_iff_exists, and_assoc]
  simp only [below_iff]

/-- the order of lists of texts -/
def cmpL : List (List UInt8) → List (List UInt8) → Int
  | [], [] => 0
  | [], _ :: _ => -1
  | _ :: _, [] => 1
  | a :: x, b :: y => if compareBytes a b = 0 then cmpL x y else compareBytes a b
theorem cmpL_range : ∀ x y, -1 ≤ cmpL x y ∧ cmpL x y ≤ 1
  | [], [] => by simp [cmpL]
  | [], _ :: _ => by simp [cmpL]
  | _ :: _, [] => by simp [cmpL]
  | a :: x, b :: y => by
    unfold cmpL
    split
    · exact cmpL_range x y
    · exact RuS.compare_range a b
theorem cmpL_swap : ∀ x y, cmpL y x = -cmpL x y
  | [], [] => rfl
  | [], _ :: _ => rfl
  | _ :: _, [] => rfl
  | a :: x, b :: y => by
    unfold cmpL
    rw [RuS.compare_swap a b, cmpL_swap x y]
    split
    · rw [if_pos (by omega)]
    · rw [if_neg (by omega)]
theorem cmpL_self : ∀ x, cmpL x x = 0
  | [] => rfl
  | a :: x => by
    unfold cmpL
    rw [if_pos (RuS.compare_self a)]
    exact cmpL_self x
theorem compare_trans : ∀ x y z : List UInt8, compareBytes x y ≤ 0 → compareBytes y z ≤ 0 → compareBytes x z ≤ 0
  | [], y, [], _, _ => by simp [compareBytes]
  | [], y, _ :: _, _, _ => by simp [compareBytes]
  | a :: x, [], z, h, _ => by simp [compareBytes] at h
  | a :: x, b :: y, [], _, h => by simp [compareBytes] at h
  | a :: x, b :: y, c :: z, h, k => by
    have ih := compare_trans x y z
    unfold compareBytes at h k ⊢
    simp only [RuS.u8_lt] at h k ⊢
    by_cases h1 : a.toNat < b.toNat
    · by_cases h2 : b.toNat < c.toNat
      · rw [if_pos (by omega)]; omega
      · rw [if_neg h2] at k
        split at k
        · omega
        · rw [if_pos (by omega)]; omega
    · rw [if_neg h1] at h
      split at h
      · omega
      · by_cases h2 : b.toNat < c.toNat
        · rw [if_pos (by omega)]; omega
        · rw [if_neg h2] at k
          split at k
          · omega
          · rw [if_neg (by omega), if_neg (by omega)]
            exact ih h k
theorem cmpL_trans : ∀ x y z, cmpL x y ≤ 0 → cmpL y z ≤ 0 → cmpL x z ≤ 0
  | [], y, [], _, _ => by simp [cmpL]
  | [], y, _ :: _, _, _ => by simp [cmpL]
  | a :: x, [], z, h, _ => by simp [cmpL] at h
  | a :: x, b :: y, [], _, h => by simp [cmpL] at h
  | a :: x, b :: y, c :: z, h, k => by
    have ih := cmpL_trans x y z
    unfold cmpL at h k ⊢
    by_cases h1 : compareBytes a b = 0
    · rw [if_pos h1] at h
      have := (RuS.compare_zero a b).1 h1
      subst this
      split at k
      · rename_i h2; rw [if_pos h2]; exact ih h k
      · rename_i h2; rw [if_neg h2]; exact k
    · rw [if_neg h1] at h
      by_cases h2 : compareBytes b c = 0
      · have := (RuS.compare_zero b c).1 h2
        subst this
        rw [if_neg h1]; exact h
      · rw [if_neg h2] at k
        have h3 : compareBytes a c ≠ 0 := by
          intro h0
          have := (RuS.compare_zero a c).1 h0
          subst this
          have := RuS.compare_swap a b
          omega
        rw [if_neg h3]
        exact compare_trans a b c h k
theorem cmpL_prefix : ∀ y r, 0 ≤ cmpL (y ++ r) y
  | [], [] => by simp [cmpL]
  | [], _ :: _ => by simp [cmpL]
  | a :: y, r => by
    rw [List.cons_append]
    unfold cmpL
    rw [if_pos (RuS.compare_self a)]
    exact cmpL_prefix y r
def orderS (x y : List (List UInt8)) : Int := cmpL x.reverse y.reverse
def compareS (a b : List UInt8) : Int := if (textsS a).2 = 0 ∧ (textsS b).2 = 0 then orderS (textsS a).1 (textsS b).1 else 0
theorem compareS_swap (a b : List UInt8) : compareS b a = -compareS a b := by
  unfold compareS
  by_cases h : (textsS a).2 = 0 ∧ (textsS b).2 = 0
  · rw [if_pos h, if_pos ⟨h.2, h.1⟩]; exact cmpL_swap _ _
  · rw [if_neg h, if_neg (fun k => h ⟨k.2, k.1⟩)]; rfl
theorem compareS_range (a b : List UInt8) : -1 ≤ compareS a b ∧ compareS a b ≤ 1 := by
  unfold compareS
  split
  · exact cmpL_range _ _
  · omega
theorem compareS_trans {a b c : List UInt8} (ha : (textsS a).2 = 0) (hb : (textsS b).2 = 0) (hc : (textsS c).2 = 0) (h : compareS a b ≤ 0) (k : compareS b c ≤ 0) : compareS a c ≤ 0 := by
  unfold compareS at *
  rw [if_pos ⟨‹_›, ‹_›⟩] at *
  exact cmpL_trans _ _ _ h k
theorem compareS_under {a b : List UInt8} (h : underS a b = true) : 0 ≤ compareS a b := by
  obtain ⟨ha, hb, r, hr⟩ := under_iff.1 h
  unfold compareS
  rw [if_pos ⟨ha, hb⟩]
  unfold orderS
  rw [hr, List.reverse_append]
  exact cmpL_prefix _ _
theorem compareS_bad {a b : List UInt8} (h : (textsS a).2 ≠ 0) : compareS a b = 0 ∧ underS a b = false ∧ underS b a = false := by
  refine ⟨by unfold compareS; rw [if_neg (fun k => h k.1)], ?_, ?_⟩ <;> (unfold underS; simp [h])

/-- the name above -/
def parentS (s : List UInt8) : List UInt8 × Bool := if (textsS s).1 = [] then ([], false) else (joinS ((textsS s).1.drop 1), true)
theorem join_tail (t : List UInt8) : ∀ ts : List (List UInt8), (joinS ts).length ≤ (joinS (t :: ts)).length
  | [] => by simp [joinS, Lib.join, List.intercalate]
  | u :: ts => by
    unfold joinS
    rw [RuS.join_cons_cons, List.length_append]
    omega
theorem parent_texts {s p : List UInt8} (h : parentS s = (p, true)) : (textsS s).2 = 0 ∧ ∃ t, (textsS s).1 = t :: (textsS p).1 ∧ (textsS p).2 = 0 ∧ p = joinS (textsS p).1 := by
  unfold parentS at h
  split at h
  · cases h
  · rename_i h0
    have he : (textsS s).2 = 0 := by
      by_cases he : (textsS s).2 = 0
      · exact he
      · exact absurd (texts_bad he) h0
    refine ⟨he, ?_⟩
    obtain ⟨ts, hts⟩ : ∃ ts, textsS s = (ts, 0) := ⟨_, by rw [← he]⟩
    rw [hts] at h h0
    have hp := parts_of hts
    cases ts with
    | nil => exact absurd rfl h0
    | cons t ts =>
      cases h
      have hl := join_tail t ts
      have hb := texts_of (ts := ts) (fun u hu => hp.2.2 u (List.mem_cons_of_mem _ hu)) (by have := hp.1; simp at this; omega) (by have := hp.2.1; omega)
      refine ⟨t, ?_, ?_, ?_⟩
      · rw [hts]; show t :: ts = t :: (textsS (joinS ts)).1; rw [hb]
      · show (textsS (joinS ts)).2 = 0; rw [hb]
      · show joinS ts = joinS (textsS (joinS ts)).1; rw [hb]
theorem parent_under {s p : List UInt8} (h : parentS s = (p, true)) : underS s p = true ∧ ((textsS p).1.length : Int) = (textsS s).1.length - 1 := by
  obtain ⟨he, t, ht, hp, _⟩ := parent_texts h
  refine ⟨under_iff.2 ⟨he, hp, [t], ht⟩, ?_⟩
  rw [ht, List.length_cons]
  omega

/-- a name with a part ahead -/
def joinNS (part parent : List UInt8) : List UInt8 × Int :=
  if (partS part).2 = 0 then (if (textsS parent).2 = 0 then fitS (ntext (partS part).1 :: (textsS parent).1) else ([], (textsS parent).2)) else ([], 2)
theorem join_parent {part parent x : List UInt8} (h : joinNS part parent = (x, 0)) : parentS x = ((normN parent).1, true) := by
  unfold joinNS at h
  split at h
  · rename_i h0
    split at h
    · rename_i h1
      have hf := fit_yes h
      have hq : formedS (partS part).1 = true := part_formed (s := part) (by rw [← h0])
      have hp := parts_of (s := parent) (ts := (textsS parent).1) (by rw [← h1])
      have hb := texts_of (ts := ntext (partS part).1 :: (textsS parent).1) (fun u hu => by
        rcases List.mem_cons.1 hu with rfl | hu
        · exact ⟨_, hq, rfl⟩
        · exact hp.2.2 u hu) hf.1 hf.2.1
      rw [← hf.2.2] at hb
      unfold parentS normN
      rw [hb, if_neg (by simp)]
      rfl
    · rename_i h1
      injection h with _ h2
      exact absurd h2 h1
  · injection h with _ h2
    exact absurd h2 (by decide)
/-- a name under another one, under a third one -/
def moveS (s fr dst : List UInt8) : List UInt8 × Int :=
  if (textsS s).2 = 0 then (if (textsS fr).2 = 0 then (if (textsS dst).2 = 0 then (match belowS (textsS s).1 (textsS fr).1 with
    | some r => fitS (r ++ (textsS dst).1)
    | none => ([], 1)) else ([], (textsS dst).2)) else ([], (textsS fr).2)) else ([], (textsS s).2)
theorem move_spec {s fr dst x : List UInt8} (h : moveS s fr dst = (x, 0)) : (textsS s).2 = 0 ∧ (textsS fr).2 = 0 ∧ (textsS dst).2 = 0 ∧ ∃ r, (textsS s).1 = r ++ (textsS fr).1 ∧ textsS x = (r ++ (textsS dst).1, 0) := by
  unfold moveS at h
  split at h
  · rename_i h1
    split at h
    · rename_i h2
      split at h
      · rename_i h3
        refine ⟨h1, h2, h3, ?_⟩
        cases hb : belowS (textsS s).1 (textsS fr).1 with
        | none =>
          rw [hb] at h
          injection h with _ h4
          exact absurd h4 (by decide)
        | some r =>
          rw [hb] at h
          have hr := below_iff.1 hb
          have hf := fit_yes h
          have hp1 := parts_of (s := s) (ts := (textsS s).1) (by rw [← h1])
          have hp3 := parts_of (s := dst) (ts := (textsS dst).1) (by rw [← h3])
          refine ⟨r, hr, ?_⟩
          rw [hf.2.2]
          refine texts_of (fun t ht => ?_) hf.1 hf.2.1
          rcases List.mem_append.1 ht with ht | ht
          · exact hp1.2.2 t (by rw [hr]; exact List.mem_append_left _ ht)
          · exact hp3.2.2 t ht
      · rename_i h3; injection h with _ h4; exact absurd h4 h3
    · rename_i h3; injection h with _ h4; exact absurd h4 h3
  · rename_i h3; injection h with _ h4; exact absurd h4 h3
theorem move_back {s fr dst x : List UInt8} (h : moveS s fr dst = (x, 0)) : moveS x dst fr = ((normN s).1, 0) ∧ underS x dst = true ∧ ((textsS x).1.length : Int) - (textsS dst).1.length = (textsS s).1.length - (textsS fr).1.length := by
  obtain ⟨h1, h2, h3, r, hr, hx⟩ := move_spec h
  have hp1 := parts_of (s := s) (ts := (textsS s).1) (by rw [← h1])
  refine ⟨?_, under_iff.2 ⟨by rw [hx], h3, r, by rw [hx]⟩, ?_⟩
  · unfold moveS
    have hb : belowS (textsS x).1 (textsS dst).1 = some r := below_iff.2 (by rw [hx])
    rw [hb]
    have hx2 : (textsS x).2 = 0 := by rw [hx]
    rw [if_pos hx2, if_pos h3, if_pos h2]
    simp only
    rw [← hr]
    exact fit_in hp1.1 hp1.2.1
  · rw [hx, hr, List.length_append, List.length_append]
    omega
/-- a normal text is its own -/
theorem norm_norm {s : List UInt8} (h : (normN s).2 = 0) : normN (normN s).1 = ((normN s).1, 0) := by
  have hb := texts_back (s := s) (ts := (textsS s).1) (by
    have : (textsS s).2 = 0 := h
    rw [← this])
  show (joinS (textsS (joinS (textsS s).1)).1, (textsS (joinS (textsS s).1)).2) = (joinS (textsS s).1, 0)
  rw [hb]
theorem both_under {a b : List UInt8} (ha : (textsS a).2 = 0) : (underS a b && underS b a) = (decide ((normN b).2 = 0) && decide ((normN a).1 = (normN b).1)) := by
  rw [Bool.eq_iff_iff, Bool.and_eq_true, Bool.and_eq_true, decide_eq_true_eq, decide_eq_true_eq]
  constructor
  · rintro ⟨h, k⟩
    obtain ⟨_, hb, r, hr⟩ := under_iff.1 h
    obtain ⟨_, _, q, hq⟩ := under_iff.1 k
    refine ⟨hb, ?_⟩
    have h1 := congrArg List.length hr
    have h2 := congrArg List.length hq
    rw [List.length_append] at h1 h2
    have : r = [] := List.eq_nil_of_length_eq_zero (by omega)
    subst this
    show joinS _ = joinS _
    rw [hr]; rfl
  · rintro ⟨hb, h⟩
    have hb' : (textsS b).2 = 0 := hb
    have e1 := texts_back (s := a) (ts := (textsS a).1) (by rw [← ha])
    have e2 := texts_back (s := b) (ts := (textsS b).1) (by rw [← hb'])
    have h' : joinS (textsS a).1 = joinS (textsS b).1 := h
    rw [h', e2] at e1
    injection e1 with e1 _
    exact ⟨under_iff.2 ⟨ha, hb', [], e1.symm⟩, under_iff.2 ⟨hb', ha, [], e1⟩⟩
theorem norm_empty {s : List UInt8} (h : (normN s).2 = 0) : (normN s).1 = [] ↔ s = [] := by
  obtain ⟨l, hl, hts, _⟩ := textsS_spec (s := s) (ts := (textsS s).1) (by
    have : (textsS s).2 = 0 := h
    rw [← this])
  have hf := nameS_formed hl
  rw [← hf.2.2]
  show joinS (textsS s).1 = [] ↔ _
  rw [hts]
  cases l with
  | nil => simp [joinS, Lib.join, List.intercalate]
  | cons q l =>
    refine ⟨fun h0 => ?_, fun h0 => (by cases h0)⟩
    have hq := ntext_ne (hf.2.1 q (List.mem_cons_self ..))
    have := join_first (ntext q) (l.map ntext)
    rw [List.map_cons] at h0
    rw [h0] at this
    have h1 : (ntext q).length = 0 := Nat.eq_zero_of_le_zero this
    exact absurd (List.eq_nil_of_length_eq_zero h1) hq
where
  join_first (t : List UInt8) : ∀ ts : List (List UInt8), t.length ≤ (joinS (t :: ts)).length
    | [] => by unfold joinS; rw [Lib.join_one]; exact Nat.le_refl _
    | u :: ts => by
      unfold joinS
      rw [RuS.join_cons_cons, List.length_append, List.length_append]
      omega
/-- a value's normal form -/
def valueS (nm v : List UInt8) : List UInt8 × Int :=
  if (RuS.typeOf nm).2 = 5 then (if v.length < 1 ∨ 200 < v.length then ([], 2) else if (normN v).2 = 0 then ((normN v).1, 0) else ([], 2)) else RuS.normal nm v
theorem valueS_alt (nm v : List UInt8) : valueS nm v = if (RuS.typeOf nm).2 = 5 then (if (normN v).2 ≠ 0 ∨ (normN v).1 = [] ∨ 200 < v.length then ([], 2) else ((normN v).1, 0)) else RuS.normal nm v := by
  unfold valueS
  split
  · by_cases h0 : (normN v).2 = 0
    · have he := norm_empty h0
      rw [if_pos h0]
      by_cases h1 : v = []
      · subst h1
        rw [if_pos (.inl (by simp)), if_pos (.inr (.inl (he.2 rfl)))]
      · have hl : 1 ≤ v.length := by
          rcases Nat.eq_zero_or_pos v.length with h | h
          · exact absurd (List.eq_nil_of_length_eq_zero h) h1
          · exact h
        have h2 : (normN v).1 ≠ [] := fun h => h1 (he.1 h)
        by_cases h3 : 200 < v.length
        · rw [if_pos (.inr h3), if_pos (.inr (.inr h3))]
        · rw [if_neg (by omega), if_neg]
          rintro (h | h | h)
          · exact h h0
          · exact h2 h
          · exact h3 h
    · rw [if_neg h0, ite_self, if_pos (.inl h0)]
  · rfl
end Go.Proofs.YtifjghkgmfmneaaGreatDoor.DnS
