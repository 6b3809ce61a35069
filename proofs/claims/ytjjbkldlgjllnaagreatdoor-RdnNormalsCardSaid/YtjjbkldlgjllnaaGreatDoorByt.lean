/- Rows of bytes in memory, of no program: a block whose first cells are the bytes of a list and may be written. Conditions: those that each theorem states. -/
import Derived.Test.YtjjbkldlgjllnaaGreatDoorMem
import Derived.Lib.ConvBytes
import Derived.Laws.IdiomStrings
import Derived.Laws.BytesString
namespace Go.Proofs.YtjjbkldlgjllnaaGreatDoor
open Go.RowKit

/-- the first cells of block b are the bytes l, and may be written -/
def BytesIn (w : World) (b : Nat) (l : List UInt8) : Prop :=
  b < w.heap.size ∧ ∀ (j : Nat) (h : j < l.length), w.cell? ⟨b, j, none⟩ = some (.int .u8 (l[j].toNat : Int)) ∧ w.frozen? ⟨b, j, none⟩ = false
theorem BytesIn.cell {w : World} {b : Nat} {l : List UInt8} (h : BytesIn w b l) {j : Nat} (hj : j < l.length) : w.cell? ⟨b, j, none⟩ = some (.int .u8 (l[j].toNat : Int)) := (h.2 j hj).1
theorem BytesIn.thaw {w : World} {b : Nat} {l : List UInt8} (h : BytesIn w b l) {j : Nat} (hj : j < l.length) : w.frozen? ⟨b, j, none⟩ = false := (h.2 j hj).2
theorem BytesIn.call {w w' : World} {b : Nat} {l : List UInt8} (h : BytesIn w b l) (hb : Below w.heap.size w w') : BytesIn w' b l :=
  ⟨Nat.lt_of_lt_of_le h.1 hb.size, fun j hj => ⟨(hb.cell (p := ⟨b, j, none⟩) h.1).trans (h.cell hj), (hb.frozen (p := ⟨b, j, none⟩) h.1).trans (h.thaw hj)⟩⟩
theorem BytesIn.drew {w : World} {b : Nat} {l : List UInt8} (h : BytesIn w b l) : BytesIn w.drew b l := h
theorem BytesIn.drewN {w : World} {b : Nat} {l : List UInt8} (h : BytesIn w b l) (k : Nat) : BytesIn (w.drewN k) b l := h
theorem BytesIn.alloc {w : World} {b : Nat} {l : List UInt8} (h : BytesIn w b l) (o : Obj) : BytesIn (w.alloc o) b l := h.call ((Below.refl _ _).alloc (Nat.le_refl _) o)
theorem BytesIn.put {w : World} {b : Nat} {l : List UInt8} (h : BytesIn w b l) (i : Nat) (c : UInt8) : BytesIn (w.setCell ⟨b, i, none⟩ (.int .u8 (c.toNat : Int))) b (l.set i c) := by
  refine ⟨by simpa [World.setCell] using h.1, fun j hj => ?_⟩
  have hj' : j < l.length := by simpa using hj
  have h1 := h.cell hj'
  have h2 := h.thaw hj'
  refine ⟨?_, by rw [World.frozen?_setCell]; exact h2⟩
  by_cases he : i = j
  · subst he
    simp only [List.getElem_set_self]
    exact World.cell?_setCell_same _ _ _ h1
  · rw [List.getElem_set_ne he]
    rw [World.cell?_setCell_other _ _ _ _ (by intro e; injection e with e1 e2; exact he e2)]
    exact h1
theorem BytesIn.put_other {w : World} {b : Nat} {l : List UInt8} (h : BytesIn w b l) {p : Addr} (hp : p.block ≠ b) (v : Value) : BytesIn (w.setCell p v) b l := by
  refine ⟨by simpa [World.setCell] using h.1, fun j hj => ⟨?_, by rw [World.frozen?_setCell]; exact h.thaw hj⟩⟩
  rw [World.cell?_setCell_other _ _ _ _ (by intro e; subst e; exact hp rfl)]
  exact h.cell hj
theorem BytesIn.conv (w : World) (e : TypeId) (s : ByteArray) : BytesIn (Lib.bytesWorld w e s) w.heap.size s.data.toList := by
  refine ⟨by rw [Lib.bytesWorld_size]; omega, fun j hj => ?_⟩
  have hj' : j < s.size := by simpa using hj
  refine ⟨?_, ?_⟩
  · rw [Lib.bytesWorld_cell w e s j hj']
    simp [List.getD, hj']
  · have hs : j < (Lib.bytesCells w e s).size := by unfold Lib.bytesCells; simp; omega
    simp [World.frozen?, Lib.bytesWorld_at_new]
    omega
/-- the bytes, made a text again -/
theorem BytesIn.back {P : Program} {w : World} {b : Nat} {l : List UInt8} (h : BytesIn w b l) (src dst e : TypeId) (n cap : Nat) (hn : l.length = n) (hs : P.underlying src = some (.slice e)) (he : P.underlying e = some (.int .u8)) (hd : P.underlying dst = some .string) :
    (convert src dst (.slice (some ⟨b, 0, none⟩) n cap)).run P w = .ok (.string ⟨l.toArray⟩) w := by
  subst hn
  refine run_convert_bytes_back w src dst e ⟨b, 0, none⟩ cap l hs he hd fun j hj => ?_
  have hadd : (⟨b, 0, none⟩ : Addr).add j = ⟨b, j, none⟩ := by unfold Addr.add; split <;> simp_all
  rw [hadd]
  exact h.cell hj
end Go.Proofs.YtjjbkldlgjllnaaGreatDoor
