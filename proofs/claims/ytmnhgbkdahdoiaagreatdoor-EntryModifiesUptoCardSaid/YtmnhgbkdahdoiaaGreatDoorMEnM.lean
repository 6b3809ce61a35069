/- Plain laws of making, changing and renaming entries. No condition beyond those that each theorem states. Plain laws of entries that are made: what the document says of them, and that they are formed. No condition beyond those that each theorem states. -/
import Derived.Test.YtmnhgbkdahdoiaaGreatDoorMRuS
namespace Go.Proofs.YtmnhgbkdahdoiaaGreatDoor
namespace EnS
open Go.Lib DnS

theorem less_self (a : List UInt8) : Op.bytesLess a a = false := by rw [RuS.less_iff, RuS.compare_self]; rfl
theorem less_eq {a b : List UInt8} (h : Op.bytesLess a b = false) (k : Op.bytesLess b a = false) : a = b := by
  rw [RuS.less_iff] at h k
  have h := of_decide_eq_false h
  have k := of_decide_eq_false k
  have h1 := RuS.compare_swap a b
  have h2 := RuS.compare_range a b
  exact (RuS.compare_zero a b).1 (by omega)
/-- an attribute's values set; without any it is gone -/
def newL (t : List UInt8) (vs : List (List UInt8)) : List At := match vs with | [] => [] | v :: r => [⟨t, v :: r⟩]
def setL (t : List UInt8) (vs : List (List UInt8)) : List At → List At
  | [] => newL t vs
  | a :: r => if Op.bytesLess a.typ t = true then a :: setL t vs r else newL t vs ++ (if a.typ = t then r else a :: r)
def soundB (last : List UInt8) (a : At) : Bool := decide ((RuS.typeOf a.typ).1 = a.typ) && Op.bytesLess last a.typ && decide (a.vals ≠ []) && fineS a.typ a.vals && aloneS a.typ a.vals
def soundA : List UInt8 → List At → Bool
  | _, [] => true
  | last, a :: r => soundB last a && soundA a.typ r
theorem form_sound (last : List UInt8) (a : At) : formA last a = (soundB last a && decide (a.vals.length ≤ 20)) := by
  unfold formA soundB
  cases decide ((RuS.typeOf a.typ).1 = a.typ) <;> cases Op.bytesLess last a.typ <;> cases decide (a.vals ≠ []) <;> cases decide (a.vals.length ≤ 20) <;> cases fineS a.typ a.vals <;> cases aloneS a.typ a.vals <;> rfl
theorem formed_sound : ∀ (l : List At) (last : List UInt8), formedA last l = (soundA last l && l.all (fun a => decide (a.vals.length ≤ 20)))
  | [], _ => rfl
  | a :: r, last => by
    unfold formedA soundA
    rw [form_sound, formed_sound r, List.all_cons]
    cases soundB last a <;> cases decide (a.vals.length ≤ 20) <;> cases soundA a.typ r <;> rfl
theorem sound_head {last : List UInt8} {a : At} (h : soundB last a = true) : (RuS.typeOf a.typ).1 = a.typ ∧ Op.bytesLess last a.typ = true ∧ a.vals ≠ [] ∧ fineS a.typ a.vals = true ∧ aloneS a.typ a.vals = true := by
  unfold soundB at h
  simp only [Bool.and_eq_true, decide_eq_true_eq] at h
  exact ⟨h.1.1.1.1, h.1.1.1.2, h.1.1.2, h.1.2, h.2⟩
theorem sound_cons {last : List UInt8} {a : At} {r : List At} (h : soundA last (a :: r) = true) : soundB last a = true ∧ soundA a.typ r = true := by
  unfold soundA at h
  rwa [Bool.and_eq_true] at h
theorem sound_mono {x y : List UInt8} (h : Op.bytesLess x y = true) : ∀ {l : List At}, soundA y l = true → soundA x l = true
  | [], _ => rfl
  | a :: r, k => by
    obtain ⟨k1, k2⟩ := sound_cons k
    have := (sound_head k1).2.1
    unfold soundA
    rw [k2, Bool.and_true]
    unfold soundB at k1 ⊢
    simp only [Bool.and_eq_true, decide_eq_true_eq] at k1 ⊢
    exact ⟨⟨⟨⟨k1.1.1.1.1, RdS.less_trans h this⟩, k1.1.1.2⟩, k1.1.2⟩, k1.2⟩
theorem new_sound {t last : List UInt8} {vs : List (List UInt8)} {r : List At} (ht : (RuS.typeOf t).1 = t) (hl : Op.bytesLess last t = true) (hv : vs = [] ∨ (fineS t vs = true ∧ aloneS t vs = true)) (hr : soundA t r = true) : soundA last (newL t vs ++ r) = true := by
  cases vs with
  | nil => exact sound_mono hl hr
  | cons v vs =>
    show soundA last (⟨t, v :: vs⟩ :: r) = true
    rcases hv with hv | ⟨h1, h2⟩
    · cases hv
    unfold soundA soundB
    rw [hr, hl]
    simp [ht, h1, h2]
theorem set_sound {t : List UInt8} {vs : List (List UInt8)} (ht : (RuS.typeOf t).1 = t) (hv : vs = [] ∨ (fineS t vs = true ∧ aloneS t vs = true)) : ∀ {l : List At} {last : List UInt8}, Op.bytesLess last t = true → soundA last l = true → soundA last (setL t vs l) = true
  | [], last, hl, _ => by
    have := new_sound (r := []) ht hl hv rfl
    rwa [List.append_nil] at this
  | a :: r, last, hl, h => by
    obtain ⟨h1, h2⟩ := sound_cons h
    unfold setL
    split
    · rename_i hlt
      unfold soundA
      rw [h1, set_sound ht hv hlt h2]; rfl
    · rename_i hlt
      have hlt : Op.bytesLess a.typ t = false := by simpa using hlt
      refine new_sound ht hl hv ?_
      split
      · rename_i he; rw [← he]; exact h2
      · rename_i he
        unfold soundA
        rw [h2, Bool.and_true]
        have h4 : Op.bytesLess t a.typ = true := by
          cases h5 : Op.bytesLess t a.typ with
          | true => rfl
          | false => exact absurd (less_eq hlt h5) he
        unfold soundB at h1 ⊢
        simp only [Bool.and_eq_true, decide_eq_true_eq] at h1 ⊢
        exact ⟨⟨⟨⟨h1.1.1.1.1, h4⟩, h1.1.1.2⟩, h1.1.2⟩, h1.2⟩
theorem values_none {t : List UInt8} : ∀ {l : List At}, soundA t l = true → valuesL l t = []
  | [], _ => rfl
  | a :: r, h => by
    obtain ⟨h1, h2⟩ := sound_cons h
    have hl := (sound_head h1).2.1
    unfold valuesL
    rw [if_neg (fun e => by rw [e, less_self] at hl; cases hl)]
    exact values_none (sound_mono hl h2)
theorem values_new {t u : List UInt8} {vs : List (List UInt8)} {r : List At} (hr : valuesL r t = []) : valuesL (newL t vs ++ r) u = if u = t then vs else valuesL r u := by
  cases vs with
  | nil =>
    show valuesL r u = _
    split
    · rename_i h; rw [h, hr]
    · rfl
  | cons v vs =>
    show (if t = u then v :: vs else valuesL r u) = _
    by_cases h : t = u
    · rw [if_pos h, if_pos h.symm]
    · rw [if_neg h, if_neg (fun e => h e.symm)]
theorem values_set {t u : List UInt8} {vs : List (List UInt8)} : ∀ {l : List At} {last : List UInt8}, soundA last l = true → valuesL (setL t vs l) u = if u = t then vs else valuesL l u
  | [], last, _ => by
    have := values_new (t := t) (u := u) (vs := vs) (r := []) rfl
    rwa [List.append_nil] at this
  | a :: r, last, h => by
    obtain ⟨h1, h2⟩ := sound_cons h
    unfold setL
    split
    · rename_i hlt
      have ih := values_set (t := t) (u := u) (vs := vs) h2
      unfold valuesL
      rw [ih]
      by_cases ha : a.typ = u
      · rw [if_pos ha, if_pos ha, if_neg]
        rintro rfl
        rw [ha, less_self] at hlt
        cases hlt
      · rw [if_neg ha, if_neg ha]
    · rename_i hlt
      have hlt : Op.bytesLess a.typ t = false := by simpa using hlt
      by_cases he : a.typ = t
      · rw [if_pos he, values_new (by rw [← he]; exact values_none h2)]
        by_cases hu : u = t
        · rw [if_pos hu, if_pos hu]
        · rw [if_neg hu, if_neg hu]
          conv => rhs; unfold valuesL
          rw [if_neg (fun e => hu (by rw [← e, he]))]
      · have h4 : Op.bytesLess t a.typ = true := by
          cases h5 : Op.bytesLess t a.typ with
          | true => rfl
          | false => exact absurd (less_eq hlt h5) he
        rw [if_neg he, values_new]
        unfold valuesL
        rw [if_neg he]
        exact values_none (sound_mono h4 h2)
theorem set_new {t : List UInt8} {us vs : List (List UInt8)} : ∀ {r : List At}, soundA t r = true → setL t vs (newL t us ++ r) = newL t vs ++ r := by
  intro r hr
  cases us with
  | nil =>
    show setL t vs r = _
    cases r with
    | nil => unfold setL; rw [List.append_nil]
    | cons a r =>
      have hl := (sound_head (sound_cons hr).1).2.1
      unfold setL
      rw [RdS.less_asymm hl, if_neg (by simp), if_neg (fun e => by rw [e, less_self] at hl; cases hl)]
  | cons u us =>
    show setL t vs (⟨t, u :: us⟩ :: r) = _
    unfold setL
    rw [less_self, if_neg (by simp), if_pos rfl]
theorem set_set {t : List UInt8} {us vs : List (List UInt8)} : ∀ {l : List At} {last : List UInt8}, soundA last l = true → setL t vs (setL t us l) = setL t vs l
  | [], _, _ => by
    have := set_new (t := t) (us := us) (vs := vs) (r := []) rfl
    rw [List.append_nil, List.append_nil] at this
    exact this
  | a :: r, last, h => by
    obtain ⟨h1, h2⟩ := sound_cons h
    by_cases hlt : Op.bytesLess a.typ t = true
    · have e1 : ∀ x, setL t x (a :: r) = a :: setL t x r := fun x => by rw [setL, if_pos hlt]
      have e2 : setL t vs (a :: setL t us r) = a :: setL t vs (setL t us r) := by rw [setL, if_pos hlt]
      rw [e1, e1, e2, set_set h2]
    · have e1 : ∀ x, setL t x (a :: r) = newL t x ++ (if a.typ = t then r else a :: r) := fun x => by rw [setL, if_neg hlt]
      rw [e1, e1, set_new]
      have hlt : Op.bytesLess a.typ t = false := by simpa using hlt
      split
      · rename_i he; rw [← he]; exact h2
      · rename_i he
        have h4 : Op.bytesLess t a.typ = true := by
          cases h5 : Op.bytesLess t a.typ with
          | true => rfl
          | false => exact absurd (less_eq hlt h5) he
        unfold soundA
        rw [h2, Bool.and_true]
        unfold soundB at h1 ⊢
        simp only [Bool.and_eq_true, decide_eq_true_eq] at h1 ⊢
        exact ⟨⟨⟨⟨h1.1.1.1.1, h4⟩, h1.1.1.2⟩, h1.1.2⟩, h1.2⟩
theorem set_same {t : List UInt8} : ∀ {l : List At} {last : List UInt8}, soundA last l = true → setL t (valuesL l t) l = l
  | [], _, _ => rfl
  | a :: r, last, h => by
    obtain ⟨h1, h2⟩ := sound_cons h
    by_cases hlt : Op.bytesLess a.typ t = true
    · have hne : a.typ ≠ t := fun e => by rw [e, less_self] at hlt; cases hlt
      rw [setL, if_pos hlt, valuesL, if_neg hne, set_same h2]
    · rw [setL, if_neg hlt]
      have hlt : Op.bytesLess a.typ t = false := by simpa using hlt
      by_cases he : a.typ = t
      · rw [if_pos he, valuesL, if_pos he]
        have h3 := (sound_head h1).2.2.1
        obtain ⟨ty, vals⟩ := a
        simp only at he h3
        subst he
        cases vals with
        | nil => exact absurd rfl h3
        | cons v vs => rfl
      · have h4 : Op.bytesLess t a.typ = true := by
          cases h5 : Op.bytesLess t a.typ with
          | true => rfl
          | false => exact absurd (less_eq hlt h5) he
        rw [if_neg he, valuesL, if_neg he, values_none (sound_mono h4 h2)]
        rfl
/-! as many attributes as there are types, at most -/
def types14 : List (List UInt8) := RuS.tab.map (fun r => r.2.1)
def rankT (x : List UInt8) : Nat := types14.countP (fun y => Op.bytesLess y x || y == x)
theorem type_in (x : List UInt8) : (RuS.typeOf x).1 = [] ∨ (RuS.typeOf x).1 ∈ types14 := by
  unfold RuS.typeOf RuS.typeM
  split
  · rename_i r hr
    exact .inr (List.mem_map.2 ⟨r, List.mem_of_find?_eq_some hr, rfl⟩)
  · exact .inl rfl
theorem rank_less : ∀ a ∈ [] :: types14, ∀ b ∈ types14, Op.bytesLess a b = true → rankT a < rankT b := by decide +kernel
theorem rank_top : ∀ a ∈ [] :: types14, rankT a ≤ 14 := by decide +kernel
theorem sound_count : ∀ {l : List At} {last : List UInt8}, last ∈ [] :: types14 → soundA last l = true → l.length + rankT last ≤ 14
  | [], last, hm, _ => by have := rank_top last hm; simpa using this
  | a :: r, last, hm, h => by
    obtain ⟨h1, h2⟩ := sound_cons h
    obtain ⟨k1, k2, _⟩ := sound_head h1
    have hin : a.typ ∈ types14 := by
      rcases type_in a.typ with h | h
      · rw [k1] at h
        rw [h] at k2
        cases last <;> simp [Op.bytesLess] at k2
      · rwa [k1] at h
    have ih := sound_count (List.mem_cons_of_mem _ hin) h2
    have := rank_less last hm a.typ hin k2
    rw [List.length_cons]; omega
end EnS
end Go.Proofs.YtmnhgbkdahdoiaaGreatDoor
namespace Go.Proofs.YtmnhgbkdahdoiaaGreatDoor
namespace EnS
open Go.Lib DnS

/-- values that are added to others, one by one -/
def addS (t : List UInt8) : List (List UInt8) → List (List UInt8) → List (List UInt8) × Int
  | l, [] => (l, 0)
  | l, v :: r => if (valueS t v).2 ≠ 0 then ([], 21) else if withinS t l v = true then ([], 20) else addS t (l ++ [v]) r
def makeA (l : List At) (a : At) : List At × Int :=
  if (RuS.typeOf a.typ).1 = [] then ([], 17) else if a.vals = [] then ([], 19)
  else if (addS (RuS.typeOf a.typ).1 (valuesL l (RuS.typeOf a.typ).1) a.vals).2 ≠ 0 then ([], (addS (RuS.typeOf a.typ).1 (valuesL l (RuS.typeOf a.typ).1) a.vals).2)
  else (setL (RuS.typeOf a.typ).1 (addS (RuS.typeOf a.typ).1 (valuesL l (RuS.typeOf a.typ).1) a.vals).1 l, 0)
def makeL : List At → List At → List At × Int
  | l, [] => (l, 0)
  | l, a :: r => if (makeA l a).2 ≠ 0 then ([], (makeA l a).2) else makeL (makeA l a).1 r
def manyB (l : List At) : Bool := l.any (fun a => decide (20 < a.vals.length))
def judgeS (e : En) (naming : Int) : Int := if manyB e.attrs = true then 19 else if valuesS e tClass = [] then 65 else if namedS e = true then 0 else naming
def doneS (e : En) (naming : Int) : En × Int := if judgeS e naming = 0 then (e, 0) else (⟨[], []⟩, judgeS e naming)
def makeS (name : List UInt8) (ys : List At) : En × Int :=
  if (normN name).2 ≠ 0 ∨ (normN name).1 = [] then (⟨[], []⟩, 34)
  else if (makeL [] ys).2 ≠ 0 then (⟨[], []⟩, (makeL [] ys).2) else doneS ⟨(normN name).1, (makeL [] ys).1⟩ 64

theorem type_type (x : List UInt8) : (RuS.typeOf (RuS.typeOf x).1).1 = (RuS.typeOf x).1 := by
  have h : ∀ y ∈ [] :: types14, (RuS.typeOf y).1 = y := by decide +kernel
  rcases type_in x with h1 | h1
  · rw [h1]; exact h [] (List.mem_cons_self ..)
  · exact h _ (List.mem_cons_of_mem _ h1)
theorem nil_less3 {l : List UInt8} (h : l ≠ []) : Op.bytesLess [] l = true := by cases l <;> simp_all [Op.bytesLess]
theorem alone_snoc (nm v : List UInt8) : ∀ (l pre : List (List UInt8)), aloneF nm pre (l ++ [v]) = (aloneF nm pre l && !withinS nm (pre ++ l) v)
  | [], pre => by simp [aloneF]
  | x :: l, pre => by
    rw [List.cons_append, aloneF, aloneF, alone_snoc nm v l (pre ++ [x]), List.append_assoc, List.singleton_append, Bool.and_assoc]
theorem fine_snoc (nm v : List UInt8) (l : List (List UInt8)) : fineS nm (l ++ [v]) = (fineS nm l && decide ((valueS nm v).2 = 0)) := by
  unfold fineS
  rw [List.all_append]
  simp
theorem add_sound {t : List UInt8} : ∀ {vs l q : List (List UInt8)}, addS t l vs = (q, 0) → fineS t l = true → aloneS t l = true → fineS t q = true ∧ aloneS t q = true ∧ q = l ++ vs
  | [], l, q, h, h1, h2 => by
    have := congrArg Prod.fst h
    simp only [addS] at this
    subst this
    exact ⟨h1, h2, by rw [List.append_nil]⟩
  | v :: r, l, q, h, h1, h2 => by
    unfold addS at h
    split at h
    · cases h
    · rename_i h3
      split at h
      · cases h
      · rename_i h4
        have h3 : (valueS t v).2 = 0 := by simpa using h3
        have h4 : withinS t l v = false := by simpa using h4
        obtain ⟨k1, k2, k3⟩ := add_sound (vs := r) h (by rw [fine_snoc, h1, decide_eq_true h3]; rfl) (by unfold aloneS at h2 ⊢; rw [alone_snoc, h2, List.nil_append, h4]; rfl)
        exact ⟨k1, k2, by rw [k3, List.append_assoc]; rfl⟩
theorem sound_values {t : List UInt8} : ∀ {l : List At} {last : List UInt8}, soundA last l = true → fineS t (valuesL l t) = true ∧ aloneS t (valuesL l t) = true
  | [], _, _ => ⟨rfl, rfl⟩
  | a :: r, last, h => by
    obtain ⟨h1, h2⟩ := sound_cons h
    obtain ⟨_, _, _, k1, k2⟩ := sound_head h1
    unfold valuesL
    split
    · rename_i he; rw [← he]; exact ⟨k1, k2⟩
    · exact sound_values h2
theorem makeA_sound {l : List At} {a : At} {q : List At} (h : makeA l a = (q, 0)) (hl : soundA [] l = true) : soundA [] q = true := by
  unfold makeA at h
  split at h
  · cases h
  · rename_i h0
    split at h
    · cases h
    · split at h
      · rename_i h3; exact absurd (congrArg Prod.snd h) h3
      · rename_i h3
        have h3 : (addS (RuS.typeOf a.typ).1 (valuesL l (RuS.typeOf a.typ).1) a.vals).2 = 0 := by simpa using h3
        have hq := congrArg Prod.fst h
        simp only at hq
        obtain ⟨k1, k2⟩ := sound_values (t := (RuS.typeOf a.typ).1) hl
        obtain ⟨m1, m2, _⟩ := add_sound (t := (RuS.typeOf a.typ).1) (vs := a.vals) (l := valuesL l (RuS.typeOf a.typ).1) (q := (addS (RuS.typeOf a.typ).1 (valuesL l (RuS.typeOf a.typ).1) a.vals).1) (by rw [← h3]) k1 k2
        rw [← hq]
        exact set_sound (type_type a.typ) (.inr ⟨m1, m2⟩) (nil_less3 h0) hl
theorem makeL_sound : ∀ {ys l q : List At}, makeL l ys = (q, 0) → soundA [] l = true → soundA [] q = true
  | [], l, q, h, hl => by
    have := congrArg Prod.fst h
    simp only [makeL] at this
    rw [← this]; exact hl
  | a :: r, l, q, h, hl => by
    unfold makeL at h
    split at h
    · rename_i h3; exact absurd (congrArg Prod.snd h) h3
    · rename_i h3
      have h3 : (makeA l a).2 = 0 := by simpa using h3
      exact makeL_sound h (makeA_sound (by rw [← h3]) hl)
theorem done_zero {e f : En} {naming : Int} (h : doneS e naming = (f, 0)) (hn : naming ≠ 0) : f = e ∧ manyB e.attrs = false ∧ valuesS e tClass ≠ [] ∧ namedS e = true := by
  unfold doneS at h
  split at h
  · rename_i h0
    refine ⟨(congrArg Prod.fst h).symm, ?_⟩
    unfold judgeS at h0
    split at h0
    · cases h0
    · rename_i h1
      split at h0
      · cases h0
      · rename_i h2
        split at h0
        · rename_i h3; exact ⟨by simpa using h1, h2, h3⟩
        · exact absurd h0 hn
  · rename_i h0; exact absurd (congrArg Prod.snd h) h0
theorem many_each {l : List At} (h : manyB l = false) : l.all (fun a => decide (a.vals.length ≤ 20)) = true := by
  unfold manyB at h
  rw [List.any_eq_false] at h
  rw [List.all_eq_true]
  intro a ha
  have := h a ha
  simp only [decide_eq_true_eq] at this ⊢
  omega
theorem sound_formed {e : En} (hn : normN e.name = (e.name, 0)) (h0 : e.name ≠ []) (hs : soundA [] e.attrs = true) (hm : manyB e.attrs = false) (hc : valuesS e tClass ≠ []) (hd : namedS e = true) : formedE e = true := by
  have h14 := sound_count (last := []) (List.mem_cons_self ..) hs
  unfold formedE looseS
  rw [formed_sound, hs, many_each hm, hd, decide_eq_true hn, decide_eq_true h0, decide_eq_true hc, decide_eq_true (show e.attrs.length ≤ 14 by omega)]
  rfl
/-- what is made is formed -/
theorem make_formed {name : List UInt8} {ys : List At} {e : En} (h : makeS name ys = (e, 0)) : formedE e = true := by
  unfold makeS at h
  split at h
  · cases h
  · rename_i h0
    split at h
    · rename_i h3; exact absurd (congrArg Prod.snd h) h3
    · rename_i h3
      have h3 : (makeL [] ys).2 = 0 := by simpa using h3
      obtain ⟨rfl, hm, hc, hd⟩ := done_zero h (by decide)
      have hn : (normN name).2 = 0 := by
        cases Decidable.em ((normN name).2 = 0) with
        | inl h => exact h
        | inr h => exact absurd (.inl h) h0
      exact sound_formed (norm_norm hn) (fun e => h0 (.inr e)) (makeL_sound (by rw [← h3]) rfl) hm hc hd
end EnS
end Go.Proofs.YtmnhgbkdahdoiaaGreatDoor
