/- The walks of slices.SortStableFunc at pairs: the row keeps its pairs; up to 20 of them are sorted. Conditions: the row has fewer than 1000000000 pairs. -/
import Derived.Test.YtjjbkldlgjllnaaGreatDoorAva
import Derived.Test.YtjjbkldlgjllnaaGreatDoorRdP
import Derived.Shelf.SlSortCmp.InsertionK
import Derived.Sort.Lot0
import Derived.KernelRfl
namespace Go.Proofs.YtjjbkldlgjllnaaGreatDoor
open Go.Shelf Go.RowKit Go.Lib Go.Sort Go.Proofs

def ren : Ren := { f := fun x => if x = 20 then 167 else x, t := fun x => match x with | 0 => 0 | 3 => 3 | 4 => 4 | 22 => 35 | 24 => 53 | 25 => 105 | x => x, g := fun x => x }
theorem insBears : Bears Tryz.prog (ren.f 20) (SlBodyF.n20 ren) := ⟨"slices.insertionSortCmpFunc[verger/rdn.AVA]", by kernel_rfl, by kernel_rfl⟩
theorem insLays : SlLaysF0.n20 Tryz.prog ren where
  mixed := by kernel_rfl
  f20 := insBears
  t0 := Tryz.underlying0
  a0 := fun w => by kernel_rfl
  z0 := fun w => by kernel_rfl
  v0 := fun w => by kernel_rfl
  t3 := Tryz.underlying3
  a3 := fun w => by kernel_rfl
  z3 := fun w => by kernel_rfl
  v3 := fun w => by kernel_rfl
  t4 := Tryz.underlying4
  a4 := fun w => by kernel_rfl
  z4 := fun w => by kernel_rfl
  v4 := fun w => by kernel_rfl
  t22 := Tryz.underlying35
  a22 := fun w => by kernel_rfl
  z22 := fun w => by kernel_rfl
  v22 := fun w => by kernel_rfl
  t25 := Tryz.underlying105
  a25 := fun w => by kernel_rfl
  z25 := fun w => by kernel_rfl
  v25 := fun w => by kernel_rfl

/-- a pair's two cells -/
def encP (p : RdS.Pr) : List Value := [strV p.1, strV p.2]
theorem encP_len (p : RdS.Pr) : (encP p).length = 2 := rfl
theorem encP_one (p : RdS.Pr) : ∀ v ∈ encP p, v.oneCell' = true := by
  intro v hv
  simp only [encP, List.mem_cons, List.not_mem_nil, or_false] at hv
  rcases hv with rfl | rfl <;> rfl
def cfP (x y : RdS.Pr) : Int := Lib.compareBytes x.1 y.1
theorem cmp_c (x y : RdS.Pr) (W : World) : Calls Tryz.prog 89 #[.agg #[.string ⟨x.1.toArray⟩, .string ⟨x.2.toArray⟩], .agg #[.string ⟨y.1.toArray⟩, .string ⟨y.2.toArray⟩]] W fun e w' => e = .returned (.int .i64 (cfP x y)) ∧ ∃ q os', w' = grow (W.drewN q) os' := by
  have hcon := fun W' => Tryz.strings_Compare ⟨x.1.toArray⟩ ⟨y.1.toArray⟩ W'
  change ∀ W, Calls Tryz.prog 84 _ W (fun e w2 => e = .returned (.int .i64 (cfP x y)) ∧ w2 = W) at hcon
  generalize cfP x y = r at *
  go_enter Tryz.func89, Tryz.ntmps89
  go_wp2_with (go_at_call 84; refine (hcon _).mono ?_; rintro e w1 ⟨rfl, rfl⟩)
  go_ret
  exact ⟨rfl, 0, _, by rw [alloc_eq_grow, alloc_eq_grow, grow_grow]; rfl⟩
theorem cmpLays (blk off size : Nat) (w : World) : CmpLays Tryz.prog 89 #[] encP 2 cfP blk off size w := fun _ _ _ _ x y => cmp_c x y _
theorem cmpEnters : ∀ args w, (callFunc 89 args).run Tryz.prog w = .ok (.enter 89 args) w := enters_of Tryz.func89 (by kernel_rfl) rfl

def cmpV : Value := .func (.func 89) #[] #[]
theorem inssort_c (blk off cap a b : Nat) (d : Array RdS.Pr) (w : World) (hH : HoldsK encP 2 w blk off d) (hblk : blk < w.heap.size) (hab : a ≤ b) (hb : b ≤ d.size) (hsz : d.size < 1000000000) :
    Calls Tryz.prog 167 #[.slice (some ⟨blk, off, none⟩) d.size cap, .int .i64 a, .int .i64 b, cmpV] w fun e w' =>
      e = .returned (.tuple #[]) ∧ ∃ n os, w' = sortWorldK encP 2 w blk off n (Sort.insertionSort (ltOf cfP) d a b) os :=
  AnyQ.insertionSortCmpFunc insLays 2 Tryz.isAgg53 Tryz.sizeOf53 encP encP_len encP_one cfP 89 #[] blk off cap a b d w cmpEnters (cmpLays blk off d.size w) hH hblk hab hb (by omega)
end Go.Proofs.YtjjbkldlgjllnaaGreatDoor
