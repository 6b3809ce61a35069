/- A strings.Builder whose row lies behind a block C: what lies ahead of C stays (also rows of bytes). Conditions: as stated. -/
import Derived.Deep.DrawnRows
import Derived.Deep.RegionHeld3
import Derived.Deep.Onto
import Derived.Test.YtjmfknfponjgkaaGreatDoorJRda
import Derived.Test.YtjmfknfponjgkaaGreatDoorJFiS
namespace Go.Proofs.YtjmfknfponjgkaaGreatDoor
open Go.RowKit
open FiS (Fi)
def Bld2 (C b : Nat) (l : List UInt8) (w : World) : Prop := b < C /\ C <= w.heap.size /\ ∃ p v, (p = .pointer none \/ p = .pointer (some ⟨b, 0, none⟩)) /\ w.heap[b]? = some (.cells #[p, v] 63 (0, 0)) /\ OwnB w C v l
def Kept2 (C b : Nat) (w w' : World) : Prop := Below b w w' /\ ∀ k, k < C -> k ≠ b -> w'.heap[k]? = w.heap[k]?
theorem Kept2.refl (C b : Nat) (w : World) : Kept2 C b w w := ⟨Below.refl _ _, fun _ _ _ => rfl⟩
theorem Kept2.trans {C b : Nat} {u v w : World} (h : Kept2 C b u v) (h2 : Kept2 C b v w) : Kept2 C b u w := ⟨h.1.trans h2.1, fun k hk hb => (h2.2 k hk hb).trans (h.2 k hk hb)⟩
theorem Kept2.of_below {C b : Nat} {w w' : World} (h : Below C w w') (hb : b <= C) : Kept2 C b w w' := ⟨h.mono hb, fun k hk _ => h.block k hk⟩
theorem Kept2.alloc {C b : Nat} {w w' : World} (h : Kept2 C b w w') (hb : b <= C) (hC : C <= w'.heap.size) (o : Obj) : Kept2 C b w (w'.alloc o) := h.trans (Kept2.of_below ((grow1 w' o).mono hC) hb)
theorem Kept2.drew {C b : Nat} {w w' : World} (h : Kept2 C b w w') : Kept2 C b w w'.drew := ⟨h.1.drew, h.2⟩
theorem Kept2.setCell {C b : Nat} {w w' : World} (h : Kept2 C b w w') (i : Nat) (u : Value) : Kept2 C b w (w'.setCell ⟨b, i, none⟩ u) := ⟨h.1.setCell (p := ⟨b, i, none⟩) (Nat.le_refl _) u, fun k hk hb => by
 rw [Below.heap_setCell _ _ _ _ hb]; exact h.2 k hk hb⟩
theorem Kept2.bytes {C b g : Nat} {w w' : World} {l : List UInt8} (h : Kept2 C b w w') (hg : g < C) (hne : g ≠ b) (hin : BytesIn w g l) : BytesIn w' g l := by
 have e := h.2 g hg hne
 refine ⟨Nat.lt_of_lt_of_le hin.1 h.1.size, fun j hj => ⟨(World.cell?_of_block (a := ⟨g, j, none⟩) e).trans (hin.cell hj), ?_⟩⟩
 have h2 := hin.thaw hj
 unfold World.frozen? at h2 ⊢
 rw [e]; exact h2
theorem Bld2.call {C b : Nat} {l : List UInt8} {w w' : World} (h : Bld2 C b l w) (hb : Below w.heap.size w w') : Bld2 C b l w' := by
 obtain ⟨h1, h2, p, v, hp, h3, h4⟩ := h
 exact ⟨h1, Nat.le_trans h2 hb.size, p, v, hp, (hb.block b (by omega)).trans h3, h4.call hb⟩
theorem Bld2.alloc {C b : Nat} {l : List UInt8} {w : World} (h : Bld2 C b l w) (o : Obj) : Bld2 C b l (w.alloc o) := h.call (grow1 w o)
theorem Bld2.drew {C b : Nat} {l : List UInt8} {w : World} (h : Bld2 C b l w) : Bld2 C b l w.drew := h.call ((Below.refl _ _).drew)
theorem Bld2.bld {C b : Nat} {l : List UInt8} {w : World} (h : Bld2 C b l w) : Bld b b l w := by
 obtain ⟨h1, h2, p, v, hp, h3, h4⟩ := h
 have hne : v.ownBlock ≠ some b := fun e => by have := (World.ownsRow.lt h4 b e).1; omega
 have hown : w.ownsRow b 5 1 v (l.map byteV).length (l.map byteV) := by
  rw [List.length_map]; exact World.ownsRow.mono h4 (by omega)
 rcases hp with rfl | rfl
 · exact .inl ⟨Nat.le_refl _, v, h3, hown, hne⟩
 · exact .inr ⟨Nat.le_refl _, v, h3, hown, hne⟩
theorem Bld2.fresh {w w' : World} (hb : Below (w.heap.size + 1) (w.alloc (.cells #[.pointer none, .slice none 0 0] 63)) w') : Bld2 w'.heap.size w.heap.size [] w' := by
 have hs := hb.size
 refine ⟨by simp at hs; omega, Nat.le_refl _, _, _, .inl rfl, ?_, OwnB.empty _ _⟩
 rw [hb.block _ (by omega)]
 show (w.heap.push _)[w.heap.size]? = _
 simp
theorem Bld2.stored {C b : Nat} {l l' : List UInt8} {w w2 : World} {v v' : Value} (hbC : b < C) (hC : C <= w.heap.size) (hbk : w.heap[b]? = some (.cells #[.pointer (some ⟨b, 0, none⟩), v] 63 (0, 0))) (hown0 : OwnB w C v l')
  (hg : w.grownBy w2 v.ownBlock) (hown : OwnB w2 C v' l) : w2.cell? ⟨b, 0, none⟩ = some (.pointer (some ⟨b, 0, none⟩)) /\ w2.cell? ⟨b, 1, none⟩ = some v /\ w2.frozen? ⟨b, 1, none⟩ = false /\ Bld2 C b l (w2.setCell ⟨b, 1, none⟩ v') := by
 have hne : v.ownBlock ≠ some b := fun e => by have := (World.ownsRow.lt hown0 b e).1; omega
 have hne2 : v'.ownBlock ≠ some b := fun e => by have := (World.ownsRow.lt hown b e).1; omega
 have hb2 : w2.heap[b]? = some (.cells #[.pointer (some ⟨b, 0, none⟩), v] 63 (0, 0)) := by
  rw [hg.block b (by omega) (fun e => hne e.symm)]; exact hbk
 refine ⟨by rw [Lib.cell_of_heap hb2]; rfl, by rw [Lib.cell_of_heap hb2]; rfl, Lib.frozen_of_heap hb2 1, hbC, ?_, .pointer (some ⟨b, 0, none⟩), v', .inr rfl, by simp [World.setCell, Array.getElem?_modify, hb2], ?_⟩
 · have := hg.size; simp [World.setCell]; omega
 · exact World.ownsRow.kept hown (row := some b) ⟨rfl, rfl, rfl, by simp [World.setCell], fun k _ hk => Below.heap_setCell _ _ _ _ (fun e => hk (by simp [e]))⟩ (Or.inr hne2)
end Go.Proofs.YtjmfknfponjgkaaGreatDoor
