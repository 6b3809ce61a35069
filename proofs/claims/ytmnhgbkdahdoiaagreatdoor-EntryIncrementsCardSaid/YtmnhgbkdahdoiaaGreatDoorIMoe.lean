/- The walk of Few, of changes; what is told of changes that are few. Conditions: the arguments' sizes are at most 1048576 in all. -/
import Derived.Test.YtmnhgbkdahdoiaaGreatDoorIMob
import Derived.Test.YtmnhgbkdahdoiaaGreatDoorIRel
namespace Go.Proofs.YtmnhgbkdahdoiaaGreatDoor
open Go.RowKit
attribute [local go_sem ↓] Go.wp_at_zero Go.wp_at_succ
/-- a change that was laid, as a row of one -/
theorem chg_one {w : World} {g : Nat} {op : Int} {name : List UInt8} {u : Value} {vals : List (List UInt8)} (hw : Whole w g 39 #[.int .i64 op, .string ⟨name.toArray⟩, u]) (h : StrsIn w u vals) : ChgsIn w (.slice (some ⟨g, 0, none⟩) 1 1) [⟨op, name, vals⟩] := by
  refine ⟨some ⟨g, 0, none⟩, 1, rfl, by simp, .inr ⟨g, 0, rfl, hw.lt, trivial, fun j y hj => ?_⟩⟩
  cases j with
  | zero =>
    simp only [List.getElem?_cons_zero, Option.some.injEq] at hj
    subst hj
    exact ⟨hw.cell 0, hw.cell 1, u, hw.cell 2, h.strsP (fun _ => True) (fun _ _ => trivial)⟩
  | succ j => simp at hj
end Go.Proofs.YtmnhgbkdahdoiaaGreatDoor
