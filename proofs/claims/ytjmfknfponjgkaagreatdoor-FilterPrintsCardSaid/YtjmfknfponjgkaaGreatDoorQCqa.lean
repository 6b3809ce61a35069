/- Rows of the call's own, whose elements are a text and a slice: attributes, entries. Conditions: those that each theorem states. The walks of entries that are copied: slices.Clone of attributes, the program's Copy. Conditions: an entry has at most 1048576 attributes of as many values each. The walk of the program's Copy of an entry. Conditions: an entry has at most 1048576 attributes of as many values each. The walks of an entry's values, of what is alike one of them, and of aliases: the document's. Conditions: an entry has at most 1048576 attributes of as many values each, of at most 1000000 bytes; the library's variables are laid. The walks of 'Small' and 'At' of entries (the document's). Conditions: those that each theorem states; the library's variables are laid. The walk of the document's Copy of an entry. Conditions: an entry has at most 1048576 attributes of as many values each. -/
import Derived.Lib.OwnKind
import Derived.Deep.Onto
import Derived.Shelf.SlicesE.Clone
import Derived.BigQuiet
import Derived.Deep.DrawnRows
import Derived.Laws.ResultCell
import Derived.Test.YtjmfknfponjgkaaGreatDoorQAva
import Derived.Test.YtjmfknfponjgkaaGreatDoorQEna
import Derived.Test.YtjmfknfponjgkaaGreatDoorQTai
namespace Go.Proofs.YtjmfknfponjgkaaGreatDoor
open Go.RowKit

/-- a block below B, or of one of the types Ts -/
def okT (Ts : List TypeId) (B : Nat) (w : World) (g : Nat) : Prop := g < B ∨ ∃ cs T fz, w.heap[g]? = some (.cells cs T fz) ∧ T ∈ Ts
theorem okT.same {Ts : List TypeId} {B : Nat} {w w' : World} {g : Nat} (h : okT Ts B w g) (e : w'.heap[g]? = w.heap[g]?) : okT Ts B w' g := by
  rcases h with h | ⟨cs, T, fz, h, ht⟩
  · exact .inl h
  · exact .inr ⟨cs, T, fz, e.trans h, ht⟩
theorem okT.mono {Ts Ts' : List TypeId} {B B' : Nat} {w : World} {g : Nat} (h : okT Ts B w g) (hB : B ≤ B') (hT : ∀ T ∈ Ts, T ∈ Ts') : okT Ts' B' w g := by
  rcases h with h | ⟨cs, T, fz, h, ht⟩
  · exact .inl (Nat.lt_of_lt_of_le h hB)
  · exact .inr ⟨cs, T, fz, h, hT T ht⟩
/-- how an element lies: its text, and what its slice is -/
structure KLay (α : Type) where
  key : α → List UInt8
  El : (Nat → Prop) → World → Value → α → Prop
  keep : ∀ {ok ok' : Nat → Prop} {w w' : World} {u : Value} {x : α}, El ok w u x → w.heap.size ≤ w'.heap.size → (∀ g, g < w.heap.size → ok g → w'.heap[g]? = w.heap[g]?) → (∀ g, g < w.heap.size → ok g → ok' g) → El ok' w' u x
  one : ∀ {ok : Nat → Prop} {w : World} {u : Value} {x : α}, El ok w u x → u.oneCell' = true
def flatK {α : Type} (L : KLay α) : List α → List Value → List Value
  | x :: xs, u :: us => strV (L.key x) :: u :: flatK L xs us
  | _, _ => []
theorem flatK_at {α : Type} (L : KLay α) : ∀ (xs : List α) (us : List Value) (i : Nat) (x : α) (u : Value), xs[i]? = some x → us[i]? = some u → (flatK L xs us)[i * 2]? = some (strV (L.key x)) ∧ (flatK L xs us)[i * 2 + 1]? = some u
  | [], _, i, x, u, h, _ => by simp at h
  | _ :: _, [], i, x, u, _, h => by simp at h
  | y :: xs, z :: us, 0, x, u, h, k => by
    simp only [List.getElem?_cons_zero, Option.some.injEq] at h k
    subst h; subst k
    exact ⟨rfl, rfl⟩
  | y :: xs, z :: us, i + 1, x, u, h, k => by
    have hh := flatK_at L xs us i x u (by simpa using h) (by simpa using k)
    have e : (i + 1) * 2 = i * 2 + 1 + 1 := by omega
    rw [e]
    exact ⟨by simpa [flatK] using hh.1, by simpa [flatK] using hh.2⟩
/-- v is a row of the call's own (element type T) of texts and slices; what these hold lies below C or in blocks of the types Ts -/
def OwnK {α : Type} (L : KLay α) (T : TypeId) (Ts : List TypeId) (C : Nat) (w : World) (B : Nat) (v : Value) (xs : List α) : Prop :=
  ∃ us : List Value, w.ownsRow B T 2 v xs.length (flatK L xs us) ∧ us.length = xs.length ∧ ∀ (i : Nat) (u : Value) (x : α), us[i]? = some u → xs[i]? = some x → L.El (okT Ts C w) w u x
theorem OwnK.empty {α : Type} (L : KLay α) (T : TypeId) (Ts : List TypeId) (C : Nat) (w : World) (B : Nat) : OwnK L T Ts C w B (.slice none 0 0) [] := ⟨[], World.ownsRow_nil w B _ 2, rfl, fun i u x h => by simp at h⟩
theorem OwnK.form {α : Type} {L : KLay α} {T : TypeId} {Ts : List TypeId} {C : Nat} {w : World} {B : Nat} {v : Value} {xs : List α} (h : OwnK L T Ts C w B v xs) : ∃ a c, v = .slice a xs.length c := by
  obtain ⟨us, h, _⟩ := h
  rcases h.2 with ⟨rfl, hn⟩ | ⟨g, cap, cur, rfl, _⟩
  · exact ⟨_, _, by rw [hn]⟩
  · exact ⟨_, _, rfl⟩
theorem OwnK.call {α : Type} {L : KLay α} {T : TypeId} {Ts : List TypeId} {C : Nat} {w w' : World} {B : Nat} {v : Value} {xs : List α} (h : OwnK L T Ts C w B v xs) (hb : Below w.heap.size w w') : OwnK L T Ts C w' B v xs := by
  obtain ⟨us, h1, h2, h3⟩ := h
  exact ⟨us, World.ownsRow.kept h1 (grown_none hb) (by cases v.ownBlock <;> simp), h2, fun i u l a b => L.keep (h3 i u l a b) hb.size (fun g hg _ => hb.block g hg) (fun g hg hok => hok.same (hb.block g hg))⟩
theorem OwnK.mono {α : Type} {L : KLay α} {T : TypeId} {Ts : List TypeId} {C : Nat} {w : World} {B B' : Nat} {v : Value} {xs : List α} (h : OwnK L T Ts C w B v xs) (hB : B' ≤ B) : OwnK L T Ts C w B' v xs := by
  obtain ⟨us, h1, h2, h3⟩ := h
  exact ⟨us, World.ownsRow.mono h1 hB, h2, h3⟩
end Go.Proofs.YtjmfknfponjgkaaGreatDoor
namespace Go.Proofs.YtjmfknfponjgkaaGreatDoor
open Go.RowKit

/-- a cell elsewhere is set -/
theorem OwnK.other {α : Type} {L : KLay α} {T : TypeId} {Ts : List TypeId} {C : Nat} {w : World} {B : Nat} {v : Value} {xs : List α} (h : OwnK L T Ts C w B v xs) {g : Nat} {T' : TypeId} {cs : Array Value} (hw : Whole w g T' cs) (hg : C ≤ g) (hT : T' ∉ Ts) (hTT : T ≠ T') (i : Nat) (y : Value) : OwnK L T Ts C (w.setCell ⟨g, i, none⟩ y) B v xs := by
  obtain ⟨us, h1, h2, h3⟩ := h
  have hgr : w.grownBy (w.setCell ⟨g, i, none⟩ y) (some g) := ⟨rfl, rfl, rfl, by simp [World.setCell], fun k _ hk => Below.heap_setCell w ⟨g, i, none⟩ y k (fun e => hk (by rw [e]))⟩
  have hne : v.ownBlock ≠ some g := fun e => by
    obtain ⟨c, fz, h⟩ := Lib.ownsRow_kind h1 g e
    unfold Whole at hw
    rw [hw] at h
    cases h
    exact hTT rfl
  have hblk : ∀ k, okT Ts C w k → (w.setCell ⟨g, i, none⟩ y).heap[k]? = w.heap[k]? := fun k hk => by
    refine Below.heap_setCell w ⟨g, i, none⟩ y k (fun e => ?_)
    subst e
    rcases hk with hk | ⟨c, T2, fz, hk, ht⟩
    · exact absurd hg (Nat.not_le_of_lt hk)
    · unfold Whole at hw
      rw [hw] at hk
      cases hk
      exact hT ht
  exact ⟨us, World.ownsRow.kept h1 hgr (.inr hne), h2, fun j u x hu hx => L.keep (h3 j u x hu hx) hgr.size (fun k _ hk => hblk k hk) (fun k _ hk => hk.same (hblk k hk))⟩
theorem OwnK.alloc {α : Type} {L : KLay α} {T : TypeId} {Ts : List TypeId} {C : Nat} {w : World} {B : Nat} {v : Value} {xs : List α} (h : OwnK L T Ts C w B v xs) (o : Obj) : OwnK L T Ts C (w.alloc o) B v xs := h.call (grow1 w o)
theorem AttrsP.base {w : World} {u : Value} {xs : List EnS.At} (h : AttrsIn w u xs) (Ts : List TypeId) : AttrsP (okT Ts w.heap.size w) w u xs := h.keep (Nat.le_refl _) (fun _ _ _ => rfl) (fun _ hg _ => .inl hg)
end Go.Proofs.YtjmfknfponjgkaaGreatDoor
namespace Go.Proofs.YtjmfknfponjgkaaGreatDoor
open Go.RowKit

theorem results_cell1 {fn : Func} {p : Tmp} {ty : TypeId} (h : fn.results = #[.cell p ty]) (tmps : Array Value) (P : Program) (w : World) :
    (results fn tmps).run P w = ((asAddr (tmps.getD p undef)).run P w).andThen fun a w₁ => (loadVar ty a).run P w₁ := by
  simp only [results, h]
  simp [Sem.run_bind]
theorem OwnK.slice {α : Type} {L : KLay α} {T : TypeId} {Ts : List TypeId} {C : Nat} {w : World} {B : Nat} {v : Value} {xs : List α} (h : OwnK L T Ts C w B v xs) {k : Nat} (hk : k < xs.length) : ∃ g cap us, v = .slice (some ⟨g, 0, none⟩) xs.length cap ∧ B ≤ g ∧ xs.length ≤ cap ∧ (∃ cur : Array Value, w.heap[g]? = some (.cells cur T (0, 0))) ∧ (us : Value) = us ∧ w.cell? ⟨g, k * 2, none⟩ = some (strV (L.key (xs[k]'hk))) ∧ w.cell? ⟨g, k * 2 + 1, none⟩ = some us ∧ L.El (okT Ts C w) w us (xs[k]'hk) := by
  obtain ⟨us, h1, h2, h3⟩ := h
  rcases h1.2 with ⟨rfl, hn⟩ | ⟨g, cap, cur, rfl, hg, hh, hn, hm, hsz, htk⟩
  · omega
  · have hlt : k < us.length := by omega
    obtain ⟨f0, f1⟩ := flatK_at L xs us k _ _ (List.getElem?_eq_getElem hk) (List.getElem?_eq_getElem hlt)
    have c0 := World.ownsRow.cells h1 (g := g) rfl (k * 2) _ f0
    have c1 := World.ownsRow.cells h1 (g := g) rfl (k * 2 + 1) _ f1
    have hadd : ∀ i, (⟨g, 0, none⟩ : Addr).add i = ⟨g, i, none⟩ := fun i => by unfold Addr.add; split <;> simp_all
    rw [hadd] at c0 c1
    exact ⟨g, cap, us[k], rfl, hg, hn, ⟨cur, hh⟩, rfl, c0, c1, h3 k _ _ (List.getElem?_eq_getElem hlt) (List.getElem?_eq_getElem hk)⟩
attribute [local go_sem ↓] Go.wp_at_zero Go.wp_at_succ
end Go.Proofs.YtjmfknfponjgkaaGreatDoor
namespace Go.Proofs.YtjmfknfponjgkaaGreatDoor
open Go.RowKit

theorem Own.made0 (w : World) : Own (w.alloc (.cells #[] 9)) w.heap.size (.slice (some ⟨w.heap.size, 0, none⟩) 0 0) [] := World.ownsRow_made w #[] 0 (Nat.le_refl _) (Nat.zero_le _) rfl
theorem build0 (w : World) : (Instr.buildSlice 22 0 #[]).run Tryz.prog w = .ok (.slice (some ⟨w.heap.size, 0, none⟩) 0 0) (w.alloc (.cells #[] 9)) := by
  obtain ⟨i0, hi, hz0, hz1, hz2⟩ := info_parts infoStr
  simp [Instr.buildSlice, run_underlying Tryz.underlying22, sizeOf, typeInfo, hi, newRow, Instr.fill]
  have e : ∀ f : Nat → Value, Array.map f (Array.range 0) = #[] := fun f => Array.eq_empty_of_size_eq_zero (by simp)
  rw [e]
end Go.Proofs.YtjmfknfponjgkaaGreatDoor
namespace Go.Proofs.YtjmfknfponjgkaaGreatDoor
open Go.RowKit

/-- a block of another type stays while a row grows -/
theorem Whole.grown {α : Type} {L : KLay α} {T T' : TypeId} {Ts : List TypeId} {w w' : World} {C B g : Nat} {v : Value} {xs : List α} {cs : Array Value} (h : Whole w g T' cs) (ho : OwnK L T Ts C w B v xs) (hT : T ≠ T') (hg : w.grownBy w' v.ownBlock) : Whole w' g T' cs := by
  refine (hg.block g h.lt (fun e => ?_)).trans h
  obtain ⟨us, h1, _⟩ := ho
  obtain ⟨c, fz, h2⟩ := Lib.ownsRow_kind h1 g e.symm
  unfold Whole at h
  rw [h] at h2
  cases h2
  exact hT rfl
theorem Own.nilOf {w : World} {B : Nat} {v : Value} {xs : List (List UInt8)} (h : Own w B v ([] ++ xs)) : Own w B v xs := h
end Go.Proofs.YtjmfknfponjgkaaGreatDoor
