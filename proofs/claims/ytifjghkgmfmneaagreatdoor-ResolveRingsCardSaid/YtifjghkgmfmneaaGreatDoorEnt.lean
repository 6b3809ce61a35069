/- Slices of texts, of attributes and of entries in memory, each block of which has a property. Conditions: those that each theorem states. -/
import Derived.Test.YtifjghkgmfmneaaGreatDoorMem
import Derived.Test.YtifjghkgmfmneaaGreatDoorEnS
namespace Go.Proofs.YtifjghkgmfmneaaGreatDoor
open Go.RowKit

namespace EnS
/-- a sum over a list -/
def sumBy {α : Type} (f : α → Nat) : List α → Nat
  | [] => 0
  | x :: r => f x + sumBy f r
theorem sumBy_append {α : Type} (f : α → Nat) : ∀ (l r : List α), sumBy f (l ++ r) = sumBy f l + sumBy f r
  | [], r => by show sumBy f r = 0 + sumBy f r; omega
  | x :: l, r => by
    show f x + sumBy f (l ++ r) = f x + sumBy f l + sumBy f r
    rw [sumBy_append f l r]; omega
theorem sumBy_take {α : Type} {f : α → Nat} {l : List α} {k : Nat} (hk : k < l.length) : sumBy f (l.take (k + 1)) = sumBy f (l.take k) + f l[k] := by
  rw [List.take_succ_eq_append_getElem hk, sumBy_append]
  rfl
theorem sumBy_le {α : Type} {f : α → Nat} (l : List α) (k : Nat) : sumBy f (l.take k) ≤ sumBy f l := by
  have h := sumBy_append f (l.take k) (l.drop k)
  rw [List.take_append_drop] at h
  omega
theorem sumBy_mem {α : Type} {f : α → Nat} {x : α} : ∀ {l : List α}, x ∈ l → f x ≤ sumBy f l
  | [], h => by cases h
  | y :: l, h => by
    show f x ≤ f y + sumBy f l
    rcases List.mem_cons.1 h with rfl | h
    · omega
    · have := sumBy_mem (f := f) h; omega
theorem sumBy_len {α : Type} {f : α → Nat} (h : ∀ x, 1 ≤ f x) : ∀ l : List α, l.length ≤ sumBy f l
  | [] => Nat.le_refl _
  | x :: l => by
    have := sumBy_len h l
    have := h x
    show l.length + 1 ≤ f x + sumBy f l
    omega
theorem sumBy_one {α : Type} (f : α → Nat) : ∀ l : List α, sumBy (fun x => 1 + f x) l = l.length + sumBy f l
  | [] => rfl
  | x :: l => by
    show 1 + f x + sumBy (fun x => 1 + f x) l = (l.length + 1) + (f x + sumBy f l)
    rw [sumBy_one f l]; omega
/-- what is counted of a value, an attribute, an entry -/
def cV (v : List UInt8) : Nat := v.length / 100
def cA (a : At) : Nat := 1 + a.vals.length + sumBy cV a.vals
def cE (e : En) : Nat := 1 + e.name.length / 100 + sumBy cA e.attrs
end EnS

/-- v is a slice with the elements xs (k cells each), in a block that has the property ok -/
def SliceP {α : Type} (k : Nat) (El : World → Nat → Nat → α → Prop) (ok : Nat → Prop) (w : World) (v : Value) (xs : List α) : Prop :=
  ∃ a c, v = .slice a xs.length c ∧ xs.length ≤ c ∧ (xs = [] ∨ ∃ g o, a = some ⟨g, o, none⟩ ∧ g < w.heap.size ∧ ok g ∧ ∀ (j : Nat) (x : α), xs[j]? = some x → El w g (o + j * k) x)
theorem SliceP.imp {α : Type} {k : Nat} {El El' : World → Nat → Nat → α → Prop} {ok ok' : Nat → Prop} {w w' : World} {v : Value} {xs : List α} (h : SliceP k El ok w v xs) (hs : w.heap.size ≤ w'.heap.size)
    (hk : ∀ g, g < w.heap.size → ok g → ok' g) (hE : ∀ g o x, g < w.heap.size → ok g → El w g o x → El' w' g o x) : SliceP k El' ok' w' v xs := by
  obtain ⟨a, c, e, hc, h⟩ := h
  refine ⟨a, c, e, hc, ?_⟩
  rcases h with h | ⟨g, o, ha, hg, hok, h⟩
  · exact .inl h
  · exact .inr ⟨g, o, ha, Nat.lt_of_lt_of_le hg hs, hk g hg hok, fun j x hj => hE g _ x hg hok (h j x hj)⟩
theorem SliceP.at {α : Type} {k : Nat} {El : World → Nat → Nat → α → Prop} {ok : Nat → Prop} {w : World} {v : Value} {xs : List α} (h : SliceP k El ok w v xs) :
    ∃ a c, v = .slice a xs.length c ∧ xs.length ≤ c ∧ ∀ j (hj : j < xs.length), ∃ g o, a = some ⟨g, o, none⟩ ∧ g < w.heap.size ∧ ok g ∧ El w g (o + j * k) xs[j] := by
  obtain ⟨a, c, e, hc, h⟩ := h
  refine ⟨a, c, e, hc, fun j hj => ?_⟩
  rcases h with rfl | ⟨g, o, ha, hg, hok, h⟩
  · simp at hj
  · exact ⟨g, o, ha, hg, hok, h j _ (List.getElem?_eq_getElem hj)⟩
theorem SliceP.form {α : Type} {k : Nat} {El : World → Nat → Nat → α → Prop} {ok : Nat → Prop} {w : World} {v : Value} {xs : List α} (h : SliceP k El ok w v xs) : ∃ a c, v = .slice a xs.length c ∧ xs.length ≤ c := by
  obtain ⟨a, c, e, hc, _⟩ := h
  exact ⟨a, c, e, hc⟩
theorem SliceP.nil {α : Type} {k : Nat} {El : World → Nat → Nat → α → Prop} {ok : Nat → Prop} {w : World} (a : Option Addr) (c : Nat) : SliceP (α := α) k El ok w (.slice a 0 c) [] := ⟨a, c, rfl, Nat.zero_le _, .inl rfl⟩
theorem SliceP.take {α : Type} {k : Nat} {El : World → Nat → Nat → α → Prop} {ok : Nat → Prop} {w : World} {a : Option Addr} {n c : Nat} {xs : List α} (h : SliceP k El ok w (.slice a n c) xs) {m : Nat} (hm : m ≤ n) : SliceP k El ok w (.slice a m c) (xs.take m) := by
  obtain ⟨a', c', e, hc, hcase⟩ := h
  cases e
  have hl : (xs.take m).length = m := by rw [List.length_take]; omega
  refine ⟨a, c, by rw [hl], by rw [hl]; omega, ?_⟩
  rcases hcase with rfl | ⟨g, o, rfl, hg, hok, hcell⟩
  · exact .inl (by simp)
  · refine .inr ⟨g, o, rfl, hg, hok, fun j y hj => ?_⟩
    rw [List.getElem?_take] at hj
    split at hj
    · exact hcell j y hj
    · cases hj

def StrAt (w : World) (g o : Nat) (y : List UInt8) : Prop := w.cell? ⟨g, o, none⟩ = some (strV y)
def StrsP (ok : Nat → Prop) (w : World) (v : Value) (xs : List (List UInt8)) : Prop := SliceP 1 StrAt ok w v xs
theorem StrsP.strs {ok : Nat → Prop} {w : World} {v : Value} {xs : List (List UInt8)} (h : StrsP ok w v xs) : StrsIn w v xs := by
  obtain ⟨a, c, e, hc, h⟩ := h
  refine ⟨a, c, e, hc, ?_⟩
  rcases h with h | ⟨g, o, ha, hg, hok, h⟩
  · exact .inl h
  · exact .inr ⟨g, o, ha, hg, fun j y hj => by have := h j y hj; rwa [Nat.mul_one] at this⟩
theorem StrsIn.strsP {w : World} {v : Value} {xs : List (List UInt8)} (h : StrsIn w v xs) (ok : Nat → Prop) (hok : ∀ g, v.ownBlock = some g → ok g) : StrsP ok w v xs := by
  obtain ⟨a, c, rfl, hc, h⟩ := h
  refine ⟨a, c, rfl, hc, ?_⟩
  rcases h with h | ⟨g, o, rfl, hg, h⟩
  · exact .inl h
  · exact .inr ⟨g, o, rfl, hg, hok g rfl, fun j y hj => by rw [Nat.mul_one]; exact h j y hj⟩
theorem StrsP.keep {ok ok' : Nat → Prop} {w w' : World} {v : Value} {xs : List (List UInt8)} (h : StrsP ok w v xs) (hs : w.heap.size ≤ w'.heap.size)
    (hb : ∀ g, g < w.heap.size → ok g → w'.heap[g]? = w.heap[g]?) (hk : ∀ g, g < w.heap.size → ok g → ok' g) : StrsP ok' w' v xs :=
  h.imp hs hk fun g o _ hg hok hx => (World.cell?_of_block (a := ⟨g, o, none⟩) (hb g hg hok)).trans hx
def AttrAt (ok : Nat → Prop) (w : World) (g o : Nat) (x : EnS.At) : Prop := w.cell? ⟨g, o, none⟩ = some (strV x.typ) ∧ ∃ u, w.cell? ⟨g, o + 1, none⟩ = some u ∧ StrsP ok w u x.vals
theorem AttrAt.keep {ok ok' : Nat → Prop} {w w' : World} {g o : Nat} {x : EnS.At} (h : AttrAt ok w g o x) (hg : g < w.heap.size) (hok : ok g) (hs : w.heap.size ≤ w'.heap.size)
    (hb : ∀ g, g < w.heap.size → ok g → w'.heap[g]? = w.heap[g]?) (hk : ∀ g, g < w.heap.size → ok g → ok' g) : AttrAt ok' w' g o x := by
  obtain ⟨h1, u, h2, h3⟩ := h
  exact ⟨(World.cell?_of_block (a := ⟨g, o, none⟩) (hb g hg hok)).trans h1, u, (World.cell?_of_block (a := ⟨g, o + 1, none⟩) (hb g hg hok)).trans h2, h3.keep hs hb hk⟩
def AttrsP (ok : Nat → Prop) (w : World) (v : Value) (xs : List EnS.At) : Prop := SliceP 2 (AttrAt ok) ok w v xs
theorem AttrsP.keep {ok ok' : Nat → Prop} {w w' : World} {v : Value} {xs : List EnS.At} (h : AttrsP ok w v xs) (hs : w.heap.size ≤ w'.heap.size)
    (hb : ∀ g, g < w.heap.size → ok g → w'.heap[g]? = w.heap[g]?) (hk : ∀ g, g < w.heap.size → ok g → ok' g) : AttrsP ok' w' v xs :=
  SliceP.imp h hs hk fun _ _ _ hg hok hx => hx.keep hg hok hs hb hk
def EnAt (ok : Nat → Prop) (w : World) (g o : Nat) (x : EnS.En) : Prop := w.cell? ⟨g, o, none⟩ = some (strV x.name) ∧ ∃ u, w.cell? ⟨g, o + 1, none⟩ = some u ∧ AttrsP ok w u x.attrs
theorem EnAt.keep {ok ok' : Nat → Prop} {w w' : World} {g o : Nat} {x : EnS.En} (h : EnAt ok w g o x) (hg : g < w.heap.size) (hok : ok g) (hs : w.heap.size ≤ w'.heap.size)
    (hb : ∀ g, g < w.heap.size → ok g → w'.heap[g]? = w.heap[g]?) (hk : ∀ g, g < w.heap.size → ok g → ok' g) : EnAt ok' w' g o x := by
  obtain ⟨h1, u, h2, h3⟩ := h
  exact ⟨(World.cell?_of_block (a := ⟨g, o, none⟩) (hb g hg hok)).trans h1, u, (World.cell?_of_block (a := ⟨g, o + 1, none⟩) (hb g hg hok)).trans h2, h3.keep hs hb hk⟩
def EnsP (ok : Nat → Prop) (w : World) (v : Value) (xs : List EnS.En) : Prop := SliceP 2 (EnAt ok) ok w v xs
theorem EnsP.keep {ok ok' : Nat → Prop} {w w' : World} {v : Value} {xs : List EnS.En} (h : EnsP ok w v xs) (hs : w.heap.size ≤ w'.heap.size)
    (hb : ∀ g, g < w.heap.size → ok g → w'.heap[g]? = w.heap[g]?) (hk : ∀ g, g < w.heap.size → ok g → ok' g) : EnsP ok' w' v xs :=
  SliceP.imp h hs hk fun _ _ _ hg hok hx => hx.keep hg hok hs hb hk
theorem StrsP.call {ok : Nat → Prop} {w w' : World} {v : Value} {xs : List (List UInt8)} (h : StrsP ok w v xs) (hb : Below w.heap.size w w') : StrsP ok w' v xs := h.keep hb.size (fun g hg _ => hb.block g hg) (fun _ _ h => h)
theorem AttrsP.call {ok : Nat → Prop} {w w' : World} {v : Value} {xs : List EnS.At} (h : AttrsP ok w v xs) (hb : Below w.heap.size w w') : AttrsP ok w' v xs := h.keep hb.size (fun g hg _ => hb.block g hg) (fun _ _ h => h)
theorem EnsP.call {ok : Nat → Prop} {w w' : World} {v : Value} {xs : List EnS.En} (h : EnsP ok w v xs) (hb : Below w.heap.size w w') : EnsP ok w' v xs := h.keep hb.size (fun g hg _ => hb.block g hg) (fun _ _ h => h)
theorem AttrAt.call {ok : Nat → Prop} {w w' : World} {g o : Nat} {x : EnS.At} (h : AttrAt ok w g o x) (hg : g < w.heap.size) (hok : ok g) (hb : Below w.heap.size w w') : AttrAt ok w' g o x := h.keep hg hok hb.size (fun g hg _ => hb.block g hg) (fun _ _ h => h)
theorem EnAt.call {ok : Nat → Prop} {w w' : World} {g o : Nat} {x : EnS.En} (h : EnAt ok w g o x) (hg : g < w.heap.size) (hok : ok g) (hb : Below w.heap.size w w') : EnAt ok w' g o x := h.keep hg hok hb.size (fun g hg _ => hb.block g hg) (fun _ _ h => h)
theorem StrsP.any {ok : Nat → Prop} {w : World} {v : Value} {xs : List (List UInt8)} (h : StrsP ok w v xs) : StrsP (fun _ => True) w v xs := h.keep (Nat.le_refl _) (fun _ _ _ => rfl) (fun _ _ _ => trivial)
theorem AttrsP.any {ok : Nat → Prop} {w : World} {v : Value} {xs : List EnS.At} (h : AttrsP ok w v xs) : AttrsP (fun _ => True) w v xs := h.keep (Nat.le_refl _) (fun _ _ _ => rfl) (fun _ _ _ => trivial)
theorem EnsP.any {ok : Nat → Prop} {w : World} {v : Value} {xs : List EnS.En} (h : EnsP ok w v xs) : EnsP (fun _ => True) w v xs := h.keep (Nat.le_refl _) (fun _ _ _ => rfl) (fun _ _ _ => trivial)
/-- attributes and entries that are read -/
abbrev AttrsIn : World → Value → List EnS.At → Prop := AttrsP (fun _ => True)
abbrev EnsIn : World → Value → List EnS.En → Prop := EnsP (fun _ => True)
def enV (name : List UInt8) (u : Value) : Value := .agg #[.string ⟨name.toArray⟩, u]
/-- of a size that is looked at -/
def SmallA (x : EnS.At) : Prop := x.typ.length ≤ 1000000 ∧ x.vals.length ≤ 1000000 ∧ ∀ v ∈ x.vals, v.length ≤ 1000000
def SmallE (e : EnS.En) : Prop := e.name.length ≤ 1000000 ∧ e.attrs.length ≤ 1000000 ∧ ∀ x ∈ e.attrs, SmallA x
theorem EnAt.parts {w : World} {g o : Nat} {x : EnS.En} (h : EnAt (fun _ => True) w g o x) : w.cell? ⟨g, o, none⟩ = some (.string ⟨x.name.toArray⟩) ∧ ∃ a c, w.cell? ⟨g, o + 1, none⟩ = some (.slice a x.attrs.length c) ∧ x.attrs.length ≤ c ∧ AttrsIn w (.slice a x.attrs.length c) x.attrs := by
  obtain ⟨h1, u, h2, h3⟩ := h
  obtain ⟨a, c, rfl, hc⟩ := SliceP.form h3
  exact ⟨h1, a, c, h2, hc, h3⟩
theorem AttrAt.parts {w : World} {g o : Nat} {x : EnS.At} (h : AttrAt (fun _ => True) w g o x) : w.cell? ⟨g, o, none⟩ = some (.string ⟨x.typ.toArray⟩) ∧ ∃ a c, w.cell? ⟨g, o + 1, none⟩ = some (.slice a x.vals.length c) ∧ x.vals.length ≤ c ∧ StrsP (fun _ => True) w (.slice a x.vals.length c) x.vals := by
  obtain ⟨h1, u, h2, h3⟩ := h
  obtain ⟨a, c, rfl, hc⟩ := SliceP.form h3
  exact ⟨h1, a, c, h2, hc, h3⟩
end Go.Proofs.YtifjghkgmfmneaaGreatDoor
