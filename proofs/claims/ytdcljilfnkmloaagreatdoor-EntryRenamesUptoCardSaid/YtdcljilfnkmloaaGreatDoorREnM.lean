/- Plain laws of making, changing and renaming entries. No condition beyond those that each theorem states. -/
import Derived.Test.YtdcljilfnkmloaaGreatDoorRRuS
namespace Go.Proofs.YtdcljilfnkmloaaGreatDoor
namespace EnS
open Go.Lib DnS

theorem less_self (a : List UInt8) : Op.bytesLess a a = false := by rw [RuS.less_iff, RuS.compare_self]; rfl
theorem less_eq {a b : List UInt8} (h : Op.bytesLess a b = false) (k : Op.bytesLess b a = false) : a = b := by
  rw [RuS.less_iff] at h k
  have h := of_decide_eq_false h
  have k := of_decide_eq_false k
  have h1 := RuS.compare_swap a b
  have h2 := RuS.compare_range a b
  exact (RuS.compare_zero a b).1 (by omega)
/-- an attribute's values set; without any it is gone -/
def newL (t : List UInt8) (vs : List (List UInt8)) : List At := match vs with | [] => [] | v :: r => [⟨t, v :: r⟩]
def setL (t : List UInt8) (vs : List (List UInt8)) : List At → List At
  | [] => newL t vs
  | a :: r => if Op.bytesLess a.typ t = true then a :: setL t vs r else newL t vs ++ (if a.typ = t then r else a :: r)
def soundB (last : List UInt8) (a : At) : Bool := decide ((RuS.typeOf a.typ).1 = a.typ) && Op.bytesLess last a.typ && decide (a.vals ≠ []) && fineS a.typ a.vals && aloneS a.typ a.vals
def soundA : List UInt8 → List At → Bool
  | _, [] => true
  | last, a :: r => soundB last a && soundA a.typ r
theorem form_sound (last : List UInt8) (a : At) : formA last a = (soundB last a && decide (a.vals.length ≤ 20)) := by
  unfold formA soundB
  cases decide ((RuS.typeOf a.typ).1 = a.typ) <;> cases Op.bytesLess last a.typ <;> cases decide (a.vals ≠ []) <;> cases decide (a.vals.length ≤ 20) <;> cases fineS a.typ a.vals <;> cases aloneS a.typ a.vals <;> rfl
theorem formed_sound : ∀ (l : List At) (last : List UInt8), formedA last l = (soundA last l && l.all (fun a => decide (a.vals.length ≤ 20)))
  | [], _ => rfl
  | a :: r, last => by
    unfold formedA soundA
    rw [form_sound, formed_sound r, List.all_cons]
    cases soundB last a <;> cases decide (a.vals.length ≤ 20) <;> cases soundA a.typ r <;> rfl
theorem sound_head {last : List UInt8} {a : At} (h : soundB last a = true) : (RuS.typeOf a.typ).1 = a.typ ∧ Op.bytesLess last a.typ = true ∧ a.vals ≠ [] ∧ fineS a.typ a.vals = true ∧ aloneS a.typ a.vals = true := by
  unfold soundB at h
  simp only [Bool.and_eq_true, decide_eq_true_eq] at h
  exact ⟨h.1.1.1.1, h.1.1.1.2, h.1.1.2, h.1.2, h.2⟩
theorem sound_cons {last : List UInt8} {a : At} {r : List At} (h : soundA last (a :: r) = true) : soundB last a = true ∧ soundA a.typ r = true := by
  unfold soundA at h
  rwa [Bool.and_eq_true] at h
theorem sound_mono {x y : List UInt8} (h : Op.bytesLess x y = true) : ∀ {l : List At}, soundA y l = true → soundA x l = true
  | [], _ => rfl
  | a :: r, k => by
    obtain ⟨k1, k2⟩ := sound_cons k
    have := (sound_head k1).2.1
    unfold soundA
    rw [k2, Bool.and_true]
    unfold soundB at k1 ⊢
    simp only [Bool.and_eq_true, decide_eq_true_eq] at k1 ⊢
    exact ⟨⟨⟨⟨k1.1.1.1.1, RdS.less_trans h this⟩, k1.1.1.2⟩, k1.1.2⟩, k1.2⟩
theorem new_sound {t last : List UInt8} {vs : List (List UInt8)} {r : List At} (ht : (RuS.typeOf t).1 = t) (hl : Op.bytesLess last t = true) (hv : vs = [] ∨ (fineS t vs = true ∧ aloneS t vs = true)) (hr : soundA t r = true) : soundA last (newL t vs ++ r) = true := by
  cases vs with
  | nil => exact sound_mono hl hr
  | cons v vs =>
    show soundA last (⟨t, v :: vs⟩ :: r) = true
    rcases hv with hv | ⟨h1, h2⟩
    · cases hv
    unfold soundA soundB
    rw [hr, hl]
    simp [ht, h1, h2]
theorem set_sound {t : List UInt8} {vs : List (List UInt8)} (ht : (RuS.typeOf t).1 = t) (hv : vs = [] ∨ (fineS t vs = true ∧ aloneS t vs = true)) : ∀ {l : List At} {last : List UInt8}, Op.bytesLess last t = true → soundA last l = true → soundA last (setL t vs l) = true
  | [], last, hl, _ => by
    have := new_sound (r := []) ht hl hv rfl
    rwa [List.append_nil] at this
  | a :: r, last, hl, h => by
    obtain ⟨h1, h2⟩ := sound_cons h
    unfold setL
    split
    · rename_i hlt
      unfold soundA
      rw [h1, set_sound ht hv hlt h2]; rfl
    · rename_i hlt
      have hlt : Op.bytesLess a.typ t = false := by simpa using hlt
      refine new_sound ht hl hv ?_
      split
      · rename_i he; rw [← he]; exact h2
      · rename_i he
        unfold soundA
        rw [h2, Bool.and_true]
        have h4 : Op.bytesLess t a.typ = true := by
          cases h5 : Op.bytesLess t a.typ with
          | true => rfl
          | false => exact absurd (less_eq hlt h5) he
        unfold soundB at h1 ⊢
        simp only [Bool.and_eq_true, decide_eq_true_eq] at h1 ⊢
        exact ⟨⟨⟨⟨h1.1.1.1.1, h4⟩, h1.1.1.2⟩, h1.1.2⟩, h1.2⟩
theorem values_none {t : List UInt8} : ∀ {l : List At}, soundA t l = true → valuesL l t = []
  | [], _ => rfl
  | a :: r, h => by
    obtain ⟨h1, h2⟩ := sound_cons h
    have hl := (sound_head h1).2.1
    unfold valuesL
    rw [if_neg (fun e => by rw [e, less_self] at hl; cases hl)]
    exact values_none (sound_mono hl h2)
theorem set_same {t : List UInt8} : ∀ {l : List At} {last : List UInt8}, soundA last l = true → setL t (valuesL l t) l = l
  | [], _, _ => rfl
  | a :: r, last, h => by
    obtain ⟨h1, h2⟩ := sound_cons h
    by_cases hlt : Op.bytesLess a.typ t = true
    · have hne : a.typ ≠ t := fun e => by rw [e, less_self] at hlt; cases hlt
      rw [setL, if_pos hlt, valuesL, if_neg hne, set_same h2]
    · rw [setL, if_neg hlt]
      have hlt : Op.bytesLess a.typ t = false := by simpa using hlt
      by_cases he : a.typ = t
      · rw [if_pos he, valuesL, if_pos he]
        have h3 := (sound_head h1).2.2.1
        obtain ⟨ty, vals⟩ := a
        simp only at he h3
        subst he
        cases vals with
        | nil => exact absurd rfl h3
        | cons v vs => rfl
      · have h4 : Op.bytesLess t a.typ = true := by
          cases h5 : Op.bytesLess t a.typ with
          | true => rfl
          | false => exact absurd (less_eq hlt h5) he
        rw [if_neg he, valuesL, if_neg he, values_none (sound_mono h4 h2)]
        rfl
/-! as many attributes as there are types, at most -/
def types14 : List (List UInt8) := RuS.tab.map (fun r => r.2.1)
def rankT (x : List UInt8) : Nat := types14.countP (fun y => Op.bytesLess y x || y == x)
theorem type_in (x : List UInt8) : (RuS.typeOf x).1 = [] ∨ (RuS.typeOf x).1 ∈ types14 := by
  unfold RuS.typeOf RuS.typeM
  split
  · rename_i r hr
    exact .inr (List.mem_map.2 ⟨r, List.mem_of_find?_eq_some hr, rfl⟩)
  · exact .inl rfl
theorem rank_less : ∀ a ∈ [] :: types14, ∀ b ∈ types14, Op.bytesLess a b = true → rankT a < rankT b := by decide +kernel
theorem rank_top : ∀ a ∈ [] :: types14, rankT a ≤ 14 := by decide +kernel
theorem sound_count : ∀ {l : List At} {last : List UInt8}, last ∈ [] :: types14 → soundA last l = true → l.length + rankT last ≤ 14
  | [], last, hm, _ => by have := rank_top last hm; simpa using this
  | a :: r, last, hm, h => by
    obtain ⟨h1, h2⟩ := sound_cons h
    obtain ⟨k1, k2, _⟩ := sound_head h1
    have hin : a.typ ∈ types14 := by
      rcases type_in a.typ with h | h
      · rw [k1] at h
        rw [h] at k2
        cases last <;> simp [Op.bytesLess] at k2
      · rwa [k1] at h
    have ih := sound_count (List.mem_cons_of_mem _ hin) h2
    have := rank_less last hm a.typ hin k2
    rw [List.length_cons]; omega
end EnS
end Go.Proofs.YtdcljilfnkmloaaGreatDoor
