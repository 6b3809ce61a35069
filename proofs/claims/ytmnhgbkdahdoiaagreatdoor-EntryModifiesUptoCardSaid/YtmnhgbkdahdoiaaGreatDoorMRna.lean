/- Plain laws of entries that are given another name. No condition beyond those that each theorem states. The walks of pairs that are kept: the program's closure over them, slices.ContainsFunc; the document's paired and without. Conditions: those that each theorem states; the library's variables are laid. Rows of attributes that come in or are the call's own; the walk of slices.Delete of one text. Conditions: those that each theorem states. -/
import Derived.Laws.IdiomCopy
import Derived.Lib.LazyBuf
import Derived.Test.YtmnhgbkdahdoiaaGreatDoorMMka
import Derived.Test.YtmnhgbkdahdoiaaGreatDoorMMkf
import Derived.Test.YtmnhgbkdahdoiaaGreatDoorMCqa
namespace Go.Proofs.YtmnhgbkdahdoiaaGreatDoor
namespace EnS
open Go.Lib DnS

/-- the first value that is alike another one is taken off -/
def withoutS (t : List UInt8) (l : List (List UInt8)) (v : List UInt8) : List (List UInt8) := match findI t l v with | some i => l.eraseIdx i | none => l
theorem within_app (t v x : List UInt8) (l : List (List UInt8)) : withinS t (l ++ [x]) v = (withinS t l v || withinS t [x] v) := by
  unfold withinS
  rw [List.any_append]
  cases decide ((valueS t v).2 = 0) <;> simp
theorem alone_pair (t : List UInt8) : ∀ (l pre : List (List UInt8)), aloneF t pre l = true ↔ (∀ v ∈ l, withinS t pre v = false) ∧ l.Pairwise (fun a b => withinS t [a] b = false)
  | [], pre => by simp [aloneF]
  | x :: r, pre => by
    rw [aloneF, Bool.and_eq_true, alone_pair t r (pre ++ [x]), List.pairwise_cons]
    constructor
    · rintro ⟨h1, h2, h3⟩
      refine ⟨fun v hv => ?_, fun b hb => ?_, h3⟩
      · rcases List.mem_cons.1 hv with rfl | hv
        · simpa using h1
        · have := h2 v hv
          rw [within_app, Bool.or_eq_false_iff] at this
          exact this.1
      · have := h2 b hb
        rw [within_app, Bool.or_eq_false_iff] at this
        exact this.2
    · rintro ⟨h1, h2, h3⟩
      refine ⟨by simpa using h1 x (List.mem_cons_self ..), fun v hv => ?_, h3⟩
      rw [within_app, h1 v (List.mem_cons_of_mem _ hv), h2 v hv]; rfl
theorem within_nil (t v : List UInt8) : withinS t [] v = false := by unfold withinS; simp
theorem alone_sub {t : List UInt8} {l m : List (List UInt8)} (h : aloneS t l = true) (hs : m.Sublist l) : aloneS t m = true := by
  unfold aloneS at h ⊢
  rw [alone_pair] at h ⊢
  exact ⟨fun v _ => within_nil t v, h.2.sublist hs⟩
theorem fine_sub {t : List UInt8} {l m : List (List UInt8)} (h : fineS t l = true) (hs : m.Sublist l) : fineS t m = true := by
  unfold fineS at h ⊢
  rw [List.all_eq_true] at h ⊢
  exact fun v hv => h v (hs.subset hv)
theorem without_sub (t : List UInt8) (l : List (List UInt8)) (v : List UInt8) : (withoutS t l v).Sublist l := by
  unfold withoutS
  split
  · exact List.eraseIdx_sublist l _
  · exact List.Sublist.refl l
theorem formed_sound2 {e : En} (h : formedE e = true) : soundA [] e.attrs = true ∧ ∀ a ∈ e.attrs, a.vals.length ≤ 20 := by
  have h1 := (formed_parts h).2.2
  rw [formed_sound, Bool.and_eq_true] at h1
  exact ⟨h1.1, fun a ha => of_decide_eq_true (List.all_eq_true.1 h1.2 a ha)⟩
end EnS
end Go.Proofs.YtmnhgbkdahdoiaaGreatDoor
namespace Go.Proofs.YtmnhgbkdahdoiaaGreatDoor
open Go.RowKit

theorem strs_one {w : World} {g : Nat} {x : List UInt8} (h : Whole w g 9 #[.string ⟨x.toArray⟩]) : StrsIn w (.slice (some ⟨g, 0, none⟩) 1 1) [x] := by
  refine ⟨some ⟨g, 0, none⟩, 1, rfl, by simp, .inr ⟨g, 0, rfl, h.lt, fun j y hj => ?_⟩⟩
  cases j with
  | zero =>
    simp only [List.getElem?_cons_zero, Option.some.injEq] at hj
    subst hj
    exact h.cell 0
  | succ j => simp at hj
/-- the first value that is alike another one taken off, one by one; is it gone? -/
def woutS (t v : List UInt8) : Bool → List (List UInt8) → List (List UInt8)
  | _, [] => []
  | g, x :: r => if (!g && EnS.withinS t [x] v) = true then woutS t v true r else x :: woutS t v g r
theorem wout_true (t v : List UInt8) : ∀ l : List (List UInt8), woutS t v true l = l
  | [] => rfl
  | x :: r => by simp [woutS, wout_true t v r]
theorem wout_is (t v : List UInt8) : ∀ l : List (List UInt8), woutS t v false l = EnS.withoutS t l v
  | [] => by
    unfold EnS.withoutS EnS.findI
    split <;> simp_all [woutS]
  | x :: r => by
    have ih := wout_is t v r
    unfold woutS
    unfold EnS.withoutS EnS.findI at ih ⊢
    unfold EnS.withinS
    by_cases h : (DnS.valueS t v).2 = 0
    · rw [if_pos h] at ih ⊢
      rw [List.findIdx?_cons]
      cases hm : EnS.meetS t (DnS.valueS t v).1 x with
      | true => simp [h, hm, wout_true]
      | false =>
        simp only [h, hm, List.any_cons, List.any_nil, Bool.or_false, decide_true, Bool.and_false, Bool.not_false, Bool.false_eq_true, if_false, ih]
        cases hf : r.findIdx? (EnS.meetS t (DnS.valueS t v).1) with
        | none => simp
        | some i => simp
    · rw [if_neg h] at ih ⊢
      simp [h, ih]
theorem wout_at (t v : List UInt8) {l : List (List UInt8)} {k : Nat} (hk : k < l.length) (g : Bool) : woutS t v g (l.drop k) = if (!g && EnS.withinS t [l[k]] v) = true then woutS t v true (l.drop (k + 1)) else l[k] :: woutS t v g (l.drop (k + 1)) := by
  rw [List.drop_eq_getElem_cons hk, woutS]
theorem strs_part {w : World} {g o c : Nat} {l : List (List UInt8)} (h : StrsIn w (.slice (some ⟨g, o, none⟩) l.length c) l) {k : Nat} (hk : k < l.length) (m : Nat) (hm : 1 ≤ m) : StrsIn w (.slice (some ⟨g, o + k, none⟩) 1 m) [l[k]] := by
  obtain ⟨a', c', e, hc, hcase⟩ := h
  cases e
  rcases hcase with rfl | ⟨g', o', e, hg, hcell⟩
  · simp at hk
  · cases e
    refine ⟨some ⟨g, o + k, none⟩, m, rfl, by simpa using hm, .inr ⟨g, o + k, rfl, hg, fun j y hj => ?_⟩⟩
    cases j with
    | zero =>
      simp only [List.getElem?_cons_zero, Option.some.injEq] at hj
      subst hj
      exact hcell k _ (List.getElem?_eq_getElem hk)
    | succ j => simp at hj
end Go.Proofs.YtmnhgbkdahdoiaaGreatDoor
namespace Go.Proofs.YtmnhgbkdahdoiaaGreatDoor
open Go.RowKit

/-- attributes: those that came in at w0, or a row of the call's own -/
def RowAt (C : Nat) (w0 w : World) (y : Value) (q : List EnS.At) : Prop := AttrsE [9] C w0 y q ∨ OwnK atK 37 [9] C w w0.heap.size y q
theorem RowAt.form {C : Nat} {w0 w : World} {y : Value} {q : List EnS.At} (h : RowAt C w0 w y q) : ∃ a c, y = .slice a q.length c := by
  rcases h with h | h
  · obtain ⟨a, c, e, _⟩ := SliceP.form h; exact ⟨a, c, e⟩
  · exact h.form
theorem RowAt.call {C : Nat} {w0 w w' : World} {y : Value} {q : List EnS.At} (h : RowAt C w0 w y q) (hb : Below w.heap.size w w') : RowAt C w0 w' y q := by
  rcases h with h | h
  · exact .inl h
  · exact .inr (h.call hb)
theorem RowAt.attrs {C : Nat} {w0 w : World} {y : Value} {q : List EnS.At} (h : RowAt C w0 w y q) (hb : Below w0.heap.size w0 w) : AttrsE [9] C w y q := by
  rcases h with h | h
  · exact h.callT hb
  · exact h.attrsE
theorem RowAt.other {C : Nat} {w0 w : World} {y : Value} {q : List EnS.At} (h : RowAt C w0 w y q) {g : Nat} {cs : Array Value} (hw : Whole w g 24 cs) (hg : C ≤ g) (i : Nat) (v : Value) : RowAt C w0 (w.setCell ⟨g, i, none⟩ v) y q := by
  rcases h with h | h
  · exact .inl h
  · exact .inr (h.other hw hg (by decide) (by decide) i v)
theorem RowAt.own {C : Nat} {w0 w : World} {B : Nat} {y : Value} {q : List EnS.At} (h : OwnK atK 37 [9] C w B y q) (hB : w0.heap.size ≤ B) : RowAt C w0 w y q := .inr (h.mono hB)
theorem strs_fn (l : List (List UInt8)) : Lib.strsOf (fun j => ⟨(l.getD j []).toArray⟩) l.length = l := by
  unfold Lib.strsOf
  apply List.ext_getElem
  · simp
  · intro i h1 h2
    simp [List.getD, h2]
end Go.Proofs.YtmnhgbkdahdoiaaGreatDoor
