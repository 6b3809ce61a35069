/- Plain steps of making an entry; the walk of the document's many. Conditions: those that each theorem states. -/
import Derived.Deep.DrawnRows
import Derived.Test.YtmnhgbkdahdoiaaGreatDoorIMkc
import Derived.Test.YtmnhgbkdahdoiaaGreatDoorIOwk
import Derived.Test.YtmnhgbkdahdoiaaGreatDoorIEna
import Derived.Test.YtmnhgbkdahdoiaaGreatDoorITai
namespace Go.Proofs.YtmnhgbkdahdoiaaGreatDoor
namespace EnS
open Go.Lib DnS

theorem mk_17 {q ys : List At} {k : Nat} (hk : k < ys.length) (h : (RuS.typeOf ys[k].typ).1 = []) : makeL q (ys.drop k) = ([], 17) := by
  rw [List.drop_eq_getElem_cons hk, makeL]
  have : makeA q ys[k] = ([], 17) := by unfold makeA; rw [if_pos h]
  rw [this, if_pos (by decide)]
theorem mk_19 {q ys : List At} {k : Nat} (hk : k < ys.length) (h : (RuS.typeOf ys[k].typ).1 ≠ []) (h0 : ys[k].vals = []) : makeL q (ys.drop k) = ([], 19) := by
  rw [List.drop_eq_getElem_cons hk, makeL]
  have : makeA q ys[k] = ([], 19) := by unfold makeA; rw [if_neg h, if_pos h0]
  rw [this, if_pos (by decide)]
theorem mk_bad {q ys : List At} {k : Nat} (hk : k < ys.length) (h : (RuS.typeOf ys[k].typ).1 ≠ []) (h0 : ys[k].vals ≠ []) {e : Int} (ha : addS (RuS.typeOf ys[k].typ).1 (valuesL q (RuS.typeOf ys[k].typ).1) ys[k].vals = ([], e)) (he : e ≠ 0) : makeL q (ys.drop k) = ([], e) := by
  rw [List.drop_eq_getElem_cons hk, makeL]
  have : makeA q ys[k] = ([], e) := by unfold makeA; rw [if_neg h, if_neg h0, ha, if_pos he]
  rw [this, if_pos he]
theorem mk_ok {q ys : List At} {k : Nat} (hk : k < ys.length) (h : (RuS.typeOf ys[k].typ).1 ≠ []) (h0 : ys[k].vals ≠ []) {l : List (List UInt8)} (ha : addS (RuS.typeOf ys[k].typ).1 (valuesL q (RuS.typeOf ys[k].typ).1) ys[k].vals = (l, 0)) : makeL q (ys.drop k) = makeL (setL (RuS.typeOf ys[k].typ).1 l q) (ys.drop (k + 1)) ∧ (soundA [] q = true → soundA [] (setL (RuS.typeOf ys[k].typ).1 l q) = true) := by
  have : makeA q ys[k] = (setL (RuS.typeOf ys[k].typ).1 l q, 0) := by unfold makeA; rw [if_neg h, if_neg h0, ha, if_neg (by simp)]
  refine ⟨?_, makeA_sound this⟩
  rw [List.drop_eq_getElem_cons hk, makeL, this, if_neg (by simp)]
theorem mk_end {q ys : List At} {k : Nat} (hk : ys.length ≤ k) : makeL q (ys.drop k) = (q, 0) := by rw [List.drop_eq_nil_of_le hk]; rfl
theorem makeS_34 {name : List UInt8} {ys : List At} (h : (normN name).2 ≠ 0 ∨ (normN name).1 = []) : makeS name ys = (⟨[], []⟩, 34) := by unfold makeS; rw [if_pos h]
theorem makeS_no {name : List UInt8} {ys : List At} (h : ¬ ((normN name).2 ≠ 0 ∨ (normN name).1 = [])) {e : Int} (hm : makeL [] ys = ([], e)) (he : e ≠ 0) : makeS name ys = (⟨[], []⟩, e) := by unfold makeS; rw [if_neg h, hm, if_pos he]
theorem makeS_yes {name : List UInt8} {ys : List At} (h : ¬ ((normN name).2 ≠ 0 ∨ (normN name).1 = [])) {q : List At} (hm : makeL [] ys = (q, 0)) : makeS name ys = doneS ⟨(normN name).1, q⟩ 64 := by unfold makeS; rw [if_neg h, hm, if_neg (by simp)]
theorem add_21 {t : List UInt8} {l vs : List (List UInt8)} {j : Nat} (hj : j < vs.length) (h : (valueS t vs[j]).2 ≠ 0) : addS t l (vs.drop j) = ([], 21) := by
  rw [List.drop_eq_getElem_cons hj, addS, if_pos h]
theorem add_20 {t : List UInt8} {l vs : List (List UInt8)} {j : Nat} (hj : j < vs.length) (h : (valueS t vs[j]).2 = 0) (h2 : withinS t l vs[j] = true) : addS t l (vs.drop j) = ([], 20) := by
  rw [List.drop_eq_getElem_cons hj, addS, if_neg (by simp [h]), if_pos h2]
theorem add_ok {t : List UInt8} {l vs : List (List UInt8)} {j : Nat} (hj : j < vs.length) (h : (valueS t vs[j]).2 = 0) (h2 : withinS t l vs[j] = false) : addS t l (vs.drop j) = addS t (l ++ [vs[j]]) (vs.drop (j + 1)) := by
  rw [List.drop_eq_getElem_cons hj, addS, if_neg (by simp [h]), if_neg (by simp [h2])]
theorem add_end {t : List UInt8} {l vs : List (List UInt8)} {j : Nat} (hj : vs.length ≤ j) : addS t l (vs.drop j) = (l, 0) := by rw [List.drop_eq_nil_of_le hj]; rfl
/-- values of a size that can be looked at -/
def FitQ (N : Nat) (q : List At) : Prop := ∀ a ∈ q, a.vals.length ≤ N ∧ ∀ v ∈ a.vals, v.length ≤ 1000000
theorem FitQ.set {N M : Nat} {q : List At} (h : FitQ N q) (hNM : N ≤ M) (t : List UInt8) {vs : List (List UInt8)} (hv : vs.length ≤ M) (hl : ∀ v ∈ vs, v.length ≤ 1000000) : FitQ M (setL t vs q) := by
  rw [setL_low]
  intro a ha
  rcases List.mem_append.1 ha with ha | ha
  · rcases List.mem_append.1 ha with ha | ha
    · have := h a (List.mem_of_mem_take ha)
      exact ⟨by omega, this.2⟩
    · cases vs with
      | nil => cases ha
      | cons v vs =>
        rw [show newL t (v :: vs) = [⟨t, v :: vs⟩] from rfl, List.mem_singleton] at ha
        subst ha
        exact ⟨hv, hl⟩
  · have := h a (List.mem_of_mem_drop ha)
    exact ⟨by omega, this.2⟩
theorem FitQ.values {N : Nat} {q : List At} (h : FitQ N q) (t : List UInt8) : (valuesL q t).length ≤ N ∧ ∀ v ∈ valuesL q t, v.length ≤ 1000000 := by
  induction q with
  | nil => exact ⟨Nat.zero_le _, fun v hv => by cases hv⟩
  | cons a r ih =>
    unfold valuesL
    split
    · exact h a (List.mem_cons_self ..)
    · exact ih (fun b hb => h b (List.mem_cons_of_mem _ hb))
theorem valuesS_type (n x : List UInt8) (q : List At) (h : (RuS.typeOf x).1 ≠ []) : valuesS ⟨n, q⟩ (RuS.typeOf x).1 = valuesL q (RuS.typeOf x).1 := by
  unfold valuesS; rw [type_type, if_neg h]
theorem type_len (x : List UInt8) : (RuS.typeOf x).1.length ≤ 1000 := by
  have h : ∀ y ∈ [] :: types14, y.length ≤ 1000 := by decide +kernel
  rcases type_in x with h1 | h1
  · rw [h1]; simp
  · exact h _ (List.mem_cons_of_mem _ h1)
end EnS
open Go.RowKit
theorem FitQ.fit {N : Nat} {q : List EnS.At} (h : EnS.FitQ N q) (hN : N ≤ 1048576) (hs : EnS.soundA [] q = true) : FitA q := by
  have := EnS.sound_count (last := []) (List.mem_cons_self ..) hs
  exact ⟨by omega, fun a ha => ⟨by have := (h a ha).1; omega, (h a ha).2⟩⟩
theorem SliceP.nth {α : Type} {k : Nat} {El : World → Nat → Nat → α → Prop} {ok : Nat → Prop} {w : World} {a : Option Addr} {n c : Nat} {xs : List α} (h : SliceP k El ok w (.slice a n c) xs) {j : Nat} (hj : j < xs.length) : ∃ g o, a = some ⟨g, o, none⟩ ∧ g < w.heap.size ∧ ok g ∧ El w g (o + j * k) (xs[j]'hj) := by
  obtain ⟨a', c', e, _, hat⟩ := SliceP.at h
  cases e
  exact hat j hj
end Go.Proofs.YtmnhgbkdahdoiaaGreatDoor
