/- Plain laws of entries that are made: what the document says of them, and that they are formed. No condition beyond those that each theorem states. -/
import Derived.Test.YtdcljilfnkmloaaGreatDoorREnM
namespace Go.Proofs.YtdcljilfnkmloaaGreatDoor
namespace EnS
open Go.Lib DnS

/-- values that are added to others, one by one -/
def addS (t : List UInt8) : List (List UInt8) → List (List UInt8) → List (List UInt8) × Int
  | l, [] => (l, 0)
  | l, v :: r => if (valueS t v).2 ≠ 0 then ([], 21) else if withinS t l v = true then ([], 20) else addS t (l ++ [v]) r
def makeA (l : List At) (a : At) : List At × Int :=
  if (RuS.typeOf a.typ).1 = [] then ([], 17) else if a.vals = [] then ([], 19)
  else if (addS (RuS.typeOf a.typ).1 (valuesL l (RuS.typeOf a.typ).1) a.vals).2 ≠ 0 then ([], (addS (RuS.typeOf a.typ).1 (valuesL l (RuS.typeOf a.typ).1) a.vals).2)
  else (setL (RuS.typeOf a.typ).1 (addS (RuS.typeOf a.typ).1 (valuesL l (RuS.typeOf a.typ).1) a.vals).1 l, 0)
def makeL : List At → List At → List At × Int
  | l, [] => (l, 0)
  | l, a :: r => if (makeA l a).2 ≠ 0 then ([], (makeA l a).2) else makeL (makeA l a).1 r
def manyB (l : List At) : Bool := l.any (fun a => decide (20 < a.vals.length))
def judgeS (e : En) (naming : Int) : Int := if manyB e.attrs = true then 19 else if valuesS e tClass = [] then 65 else if namedS e = true then 0 else naming
def doneS (e : En) (naming : Int) : En × Int := if judgeS e naming = 0 then (e, 0) else (⟨[], []⟩, judgeS e naming)
def makeS (name : List UInt8) (ys : List At) : En × Int :=
  if (normN name).2 ≠ 0 ∨ (normN name).1 = [] then (⟨[], []⟩, 34)
  else if (makeL [] ys).2 ≠ 0 then (⟨[], []⟩, (makeL [] ys).2) else doneS ⟨(normN name).1, (makeL [] ys).1⟩ 64

theorem type_type (x : List UInt8) : (RuS.typeOf (RuS.typeOf x).1).1 = (RuS.typeOf x).1 := by
  have h : ∀ y ∈ [] :: types14, (RuS.typeOf y).1 = y := by decide +kernel
  rcases type_in x with h1 | h1
  · rw [h1]; exact h [] (List.mem_cons_self ..)
  · exact h _ (List.mem_cons_of_mem _ h1)
theorem nil_less3 {l : List UInt8} (h : l ≠ []) : Op.bytesLess [] l = true := by cases l <;> simp_all [Op.bytesLess]
theorem alone_snoc (nm v : List UInt8) : ∀ (l pre : List (List UInt8)), aloneF nm pre (l ++ [v]) = (aloneF nm pre l && !withinS nm (pre ++ l) v)
  | [], pre => by simp [aloneF]
  | x :: l, pre => by
    rw [List.cons_append, aloneF, aloneF, alone_snoc nm v l (pre ++ [x]), List.append_assoc, List.singleton_append, Bool.and_assoc]
theorem fine_snoc (nm v : List UInt8) (l : List (List UInt8)) : fineS nm (l ++ [v]) = (fineS nm l && decide ((valueS nm v).2 = 0)) := by
  unfold fineS
  rw [List.all_append]
  simp
theorem add_sound {t : List UInt8} : ∀ {vs l q : List (List UInt8)}, addS t l vs = (q, 0) → fineS t l = true → aloneS t l = true → fineS t q = true ∧ aloneS t q = true ∧ q = l ++ vs
  | [], l, q, h, h1, h2 => by
    have := congrArg Prod.fst h
    simp only [addS] at this
    subst this
    exact ⟨h1, h2, by rw [List.append_nil]⟩
  | v :: r, l, q, h, h1, h2 => by
    unfold addS at h
    split at h
    · cases h
    · rename_i h3
      split at h
      · cases h
      · rename_i h4
        have h3 : (valueS t v).2 = 0 := by simpa using h3
        have h4 : withinS t l v = false := by simpa using h4
        obtain ⟨k1, k2, k3⟩ := add_sound (vs := r) h (by rw [fine_snoc, h1, decide_eq_true h3]; rfl) (by unfold aloneS at h2 ⊢; rw [alone_snoc, h2, List.nil_append, h4]; rfl)
        exact ⟨k1, k2, by rw [k3, List.append_assoc]; rfl⟩
theorem sound_values {t : List UInt8} : ∀ {l : List At} {last : List UInt8}, soundA last l = true → fineS t (valuesL l t) = true ∧ aloneS t (valuesL l t) = true
  | [], _, _ => ⟨rfl, rfl⟩
  | a :: r, last, h => by
    obtain ⟨h1, h2⟩ := sound_cons h
    obtain ⟨_, _, _, k1, k2⟩ := sound_head h1
    unfold valuesL
    split
    · rename_i he; rw [← he]; exact ⟨k1, k2⟩
    · exact sound_values h2
theorem makeA_sound {l : List At} {a : At} {q : List At} (h : makeA l a = (q, 0)) (hl : soundA [] l = true) : soundA [] q = true := by
  unfold makeA at h
  split at h
  · cases h
  · rename_i h0
    split at h
    · cases h
    · split at h
      · rename_i h3; exact absurd (congrArg Prod.snd h) h3
      · rename_i h3
        have h3 : (addS (RuS.typeOf a.typ).1 (valuesL l (RuS.typeOf a.typ).1) a.vals).2 = 0 := by simpa using h3
        have hq := congrArg Prod.fst h
        simp only at hq
        obtain ⟨k1, k2⟩ := sound_values (t := (RuS.typeOf a.typ).1) hl
        obtain ⟨m1, m2, _⟩ := add_sound (t := (RuS.typeOf a.typ).1) (vs := a.vals) (l := valuesL l (RuS.typeOf a.typ).1) (q := (addS (RuS.typeOf a.typ).1 (valuesL l (RuS.typeOf a.typ).1) a.vals).1) (by rw [← h3]) k1 k2
        rw [← hq]
        exact set_sound (type_type a.typ) (.inr ⟨m1, m2⟩) (nil_less3 h0) hl
theorem makeL_sound : ∀ {ys l q : List At}, makeL l ys = (q, 0) → soundA [] l = true → soundA [] q = true
  | [], l, q, h, hl => by
    have := congrArg Prod.fst h
    simp only [makeL] at this
    rw [← this]; exact hl
  | a :: r, l, q, h, hl => by
    unfold makeL at h
    split at h
    · rename_i h3; exact absurd (congrArg Prod.snd h) h3
    · rename_i h3
      have h3 : (makeA l a).2 = 0 := by simpa using h3
      exact makeL_sound h (makeA_sound (by rw [← h3]) hl)
theorem done_zero {e f : En} {naming : Int} (h : doneS e naming = (f, 0)) (hn : naming ≠ 0) : f = e ∧ manyB e.attrs = false ∧ valuesS e tClass ≠ [] ∧ namedS e = true := by
  unfold doneS at h
  split at h
  · rename_i h0
    refine ⟨(congrArg Prod.fst h).symm, ?_⟩
    unfold judgeS at h0
    split at h0
    · cases h0
    · rename_i h1
      split at h0
      · cases h0
      · rename_i h2
        split at h0
        · rename_i h3; exact ⟨by simpa using h1, h2, h3⟩
        · exact absurd h0 hn
  · rename_i h0; exact absurd (congrArg Prod.snd h) h0
theorem many_each {l : List At} (h : manyB l = false) : l.all (fun a => decide (a.vals.length ≤ 20)) = true := by
  unfold manyB at h
  rw [List.any_eq_false] at h
  rw [List.all_eq_true]
  intro a ha
  have := h a ha
  simp only [decide_eq_true_eq] at this ⊢
  omega
theorem sound_formed {e : En} (hn : normN e.name = (e.name, 0)) (h0 : e.name ≠ []) (hs : soundA [] e.attrs = true) (hm : manyB e.attrs = false) (hc : valuesS e tClass ≠ []) (hd : namedS e = true) : formedE e = true := by
  have h14 := sound_count (last := []) (List.mem_cons_self ..) hs
  unfold formedE looseS
  rw [formed_sound, hs, many_each hm, hd, decide_eq_true hn, decide_eq_true h0, decide_eq_true hc, decide_eq_true (show e.attrs.length ≤ 14 by omega)]
  rfl
/-- what is made is formed -/
theorem make_formed {name : List UInt8} {ys : List At} {e : En} (h : makeS name ys = (e, 0)) : formedE e = true := by
  unfold makeS at h
  split at h
  · cases h
  · rename_i h0
    split at h
    · rename_i h3; exact absurd (congrArg Prod.snd h) h3
    · rename_i h3
      have h3 : (makeL [] ys).2 = 0 := by simpa using h3
      obtain ⟨rfl, hm, hc, hd⟩ := done_zero h (by decide)
      have hn : (normN name).2 = 0 := by
        cases Decidable.em ((normN name).2 = 0) with
        | inl h => exact h
        | inr h => exact absurd (.inl h) h0
      exact sound_formed (norm_norm hn) (fun e => h0 (.inr e)) (makeL_sound (by rw [← h3]) rfl) hm hc hd
end EnS
end Go.Proofs.YtdcljilfnkmloaaGreatDoor
