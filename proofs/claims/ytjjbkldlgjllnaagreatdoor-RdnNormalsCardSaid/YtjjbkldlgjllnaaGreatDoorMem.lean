/- Small facts on memory, of no program: a block known whole; a world that differs from another one in new blocks alone. No condition beyond those that each theorem states. -/
import Derived.WalkKit
import Derived.WalkSpells
import Derived.WalkLawsBesides
import Derived.Lib.Hide
import Derived.Handy
import Derived.Deep.Draws
namespace Go.Proofs.YtjjbkldlgjllnaaGreatDoor
open Go.RowKit

theorem cell_lt {w : World} {a : Addr} {v : Value} (h : w.cell? a = some v) : a.block < w.heap.size := by
  rcases Nat.lt_or_ge a.block w.heap.size with hlt | hge
  · exact hlt
  · unfold World.cell? at h
    rw [Array.getElem?_eq_none hge] at h
    cases h

theorem below_cell {B : Nat} {w w' : World} (hb : Below B w w') (hB : w.heap.size ≤ B) {a : Addr} {v : Value} (h : w.cell? a = some v) : w'.cell? a = some v := by
  rw [hb.cell (Nat.lt_of_lt_of_le (cell_lt h) hB)]; exact h

/-- one call behind another -/
theorem below_trans {a b c : World} (h : Below a.heap.size a b) (k : Below b.heap.size b c) : Below a.heap.size a c := h.trans (k.mono h.size)
theorem below_alloc {a b : World} (h : Below a.heap.size a b) (o : Obj) : Below a.heap.size a (b.alloc o) := h.alloc h.size o
theorem grow1 (w : World) (o : Obj) : Below w.heap.size w (w.alloc o) := (Below.refl _ _).alloc (Nat.le_refl _) o
theorem keepC {w w' : World} {a : Addr} {v : Value} (h : w.cell? a = some v) (hb : Below w.heap.size w w') : w'.cell? a = some v := below_cell hb (Nat.le_refl _) h
theorem below_drewN (w : World) (k : Nat) : Below w.heap.size w (w.drewN k) := ⟨rfl, rfl, rfl, Nat.le_refl _, fun _ _ => rfl⟩

/-- block g is just these cells, of element type t, none of them frozen -/
def Whole (w : World) (g : Nat) (t : TypeId) (cs : Array Value) : Prop := w.heap[g]? = some (.cells cs t (0, 0))
theorem Whole.lt {w : World} {g : Nat} {t : TypeId} {cs : Array Value} (h : Whole w g t cs) : g < w.heap.size := by
  unfold Whole at h
  exact (Array.getElem?_eq_some_iff.1 h).1
theorem Whole.cell {w : World} {g : Nat} {t : TypeId} {cs : Array Value} (h : Whole w g t cs) (i : Nat) : w.cell? ⟨g, i, none⟩ = cs[i]? := by
  unfold Whole at h
  unfold World.cell?
  simp only [h]
  rfl
theorem Whole.thaw {w : World} {g : Nat} {t : TypeId} {cs : Array Value} (h : Whole w g t cs) (i : Nat) : w.frozen? ⟨g, i, none⟩ = false := by
  unfold Whole at h
  simp [World.frozen?, h]
theorem Whole.made (w : World) (t : TypeId) (cs : Array Value) : Whole (w.alloc (.cells cs t)) w.heap.size t cs := by
  show (w.heap.push _)[w.heap.size]? = _
  rw [Array.getElem?_push_size]
theorem Whole.drew {w : World} {g : Nat} {t : TypeId} {cs : Array Value} (h : Whole w g t cs) : Whole w.drew g t cs := h
theorem Whole.drewN {w : World} {g : Nat} {t : TypeId} {cs : Array Value} (h : Whole w g t cs) (k : Nat) : Whole (w.drewN k) g t cs := h
theorem Whole.below {B : Nat} {w w' : World} {g : Nat} {t : TypeId} {cs : Array Value} (h : Whole w g t cs) (hb : Below B w w') (hg : g < B) : Whole w' g t cs := (hb.block g hg).trans h
theorem Whole.alloc {w : World} {g : Nat} {t : TypeId} {cs : Array Value} (h : Whole w g t cs) (o : Obj) : Whole (w.alloc o) g t cs := h.below ((Below.refl w.heap.size w).alloc (Nat.le_refl _) o) h.lt
theorem Whole.call {w w' : World} {g : Nat} {t : TypeId} {cs : Array Value} (h : Whole w g t cs) (hb : Below w.heap.size w w') : Whole w' g t cs := h.below hb h.lt
theorem Whole.put {w : World} {g : Nat} {t : TypeId} {cs : Array Value} (h : Whole w g t cs) (i : Nat) (v : Value) : Whole (w.setCell ⟨g, i, none⟩ v) g t (cs.setIfInBounds i v) := by
  unfold Whole at h ⊢
  simp [World.setCell, Array.getElem?_modify, h]
theorem Whole.other {w : World} {g : Nat} {t : TypeId} {cs : Array Value} (h : Whole w g t cs) {p : Addr} (hp : g ≠ p.block) (v : Value) : Whole (w.setCell p v) g t cs :=
  (Below.heap_setCell w p v g hp).trans h
/-- the call says true and leaves what was there -/
def True_ (w : World) (e : Ending) (w' : World) : Prop := e = .returned (.bool true) ∧ Below w.heap.size w w'
end Go.Proofs.YtjjbkldlgjllnaaGreatDoor
