/- The walks of the reference's numbers: their texts, what they are read of, how they are held against the program's. Conditions: parts within a million; the library's tables lie as the program's text lays them. The walk of the reference's 'number': what it reads of any text. No condition but that a text's length is a machine's. The walk of the reference's Parse of a number's text: it answers what the plain parser answers. Condition: a text's length is a machine's; the library's tables lie as the program's text lays them. -/
import Derived.Deep.RegionHeld3
import Derived.Deep.DeepCutAuto
import Derived.Test.YtjmfknfponjgkaaGreatDoorQPha
namespace Go.Proofs.YtjmfknfponjgkaaGreatDoor
open Go.RowKit

def Pair (a b : Int) : Value := .agg #[.int .i64 a, .int .i64 b]

end Go.Proofs.YtjmfknfponjgkaaGreatDoor
namespace Go.Proofs.YtjmfknfponjgkaaGreatDoor
open Go.RowKit

def NumRet (l : List UInt8) (w : World) (e : Ending) (w' : World) : Prop := e = .returned (.tuple #[.int .i64 (PhS.numV l), .bool (PhS.numOk l)]) ∧ w = w'
theorem NumRet.no {l : List UInt8} {w : World} (h : PhS.numS l = none) : NumRet l w (.returned (.tuple #[.int .i64 0, .bool false])) w := by
  refine ⟨?_, rfl⟩; unfold PhS.numV PhS.numOk; rw [h]; rfl

end Go.Proofs.YtjmfknfponjgkaaGreatDoor
namespace Go.Proofs.YtjmfknfponjgkaaGreatDoor
open Go.RowKit

/-- what both parsers hand back -/
def ParseRet (l : List UInt8) (w : World) (e : Ending) (w' : World) : Prop :=
  (match PhS.parseP l with
  | some (a, b) => e = .returned (.tuple #[.agg #[.int .i64 a, .int .i64 b], .int .i64 0])
  | none => e = .returned (.tuple #[.agg #[.int .i64 0, .int .i64 0], .int .i64 2])) ∧ Below w.heap.size w w'

theorem ParseRet.no {l : List UInt8} {w w' : World} (h : PhS.parseP l = none) (hb : Below w.heap.size w w') : ParseRet l w (.returned (.tuple #[.agg #[.int .i64 0, .int .i64 0], .int .i64 2])) w' := by
  unfold ParseRet; rw [h]; exact ⟨rfl, hb⟩
/-- the pair in memory, in a block of the call's own -/
def PairAt (w wc : World) (x y : Int) : Prop := Below w.heap.size w wc ∧ Whole wc w.heap.size 114 #[.int .i64 0, .int .i64 0] ∧ Whole wc (w.heap.size + 1) 114 #[.int .i64 x, .int .i64 y]
theorem PairAt.made {w : World} {x y : Int} : PairAt w ((w.alloc (Obj.cells #[Value.int IntKind.i64 0, Value.int IntKind.i64 0] 114)).alloc (Obj.cells #[Value.int IntKind.i64 x, Value.int IntKind.i64 y] 114)) x y := by
  refine ⟨((Below.refl _ _).alloc (Nat.le_refl _) _).alloc (by simp) _, (Whole.made w _ _).alloc _, ?_⟩
  have := Whole.made (w.alloc (Obj.cells #[Value.int IntKind.i64 0, Value.int IntKind.i64 0] 114)) 114 #[.int .i64 x, .int .i64 y]
  simpa using this
theorem PairAt.thaw {w wc : World} {x y : Int} (h : PairAt w wc x y) : wc.frozen? ⟨w.heap.size, 0, none⟩ = false ∧ wc.frozen? ⟨w.heap.size, 1, none⟩ = false ∧ wc.frozen? ⟨w.heap.size + 1, 0, none⟩ = false ∧ wc.frozen? ⟨w.heap.size + 1, 1, none⟩ = false :=
  ⟨h.2.1.thaw 0, h.2.1.thaw 1, h.2.2.thaw 0, h.2.2.thaw 1⟩
theorem PairAt.call {w wc w' : World} {x y : Int} (h : PairAt w wc x y) (hb : Below wc.heap.size wc w') : PairAt w w' x y :=
  ⟨h.1.trans (hb.mono h.1.size), h.2.1.call hb, h.2.2.call hb⟩
theorem PairAt.last {w wc : World} {x y : Int} (h : PairAt w wc x y) (a b : Int) : (wc.setCell ⟨w.heap.size, 0, none⟩ (.int .i64 a)).cell? ⟨w.heap.size, 0, none⟩ = some (.int .i64 a) ∧
    ((wc.setCell ⟨w.heap.size, 0, none⟩ (.int .i64 a)).setCell ⟨w.heap.size, 1, none⟩ (.int .i64 b)).cell? ⟨w.heap.size, 1, none⟩ = some (.int .i64 b) ∧
    (wc.setCell ⟨w.heap.size, 0, none⟩ (.int .i64 a)).frozen? ⟨w.heap.size, 1, none⟩ = false ∧ (wc.setCell ⟨w.heap.size, 0, none⟩ (.int .i64 a)).cell? ⟨w.heap.size, 1, none⟩ = some (.int .i64 0) := by
  have h1 := h.2.1.put 0 (.int .i64 a)
  have h2 := h1.put 1 (.int .i64 b)
  exact ⟨h1.cell 0, h2.cell 1, h1.thaw 1, h1.cell 1⟩
end Go.Proofs.YtjmfknfponjgkaaGreatDoor
