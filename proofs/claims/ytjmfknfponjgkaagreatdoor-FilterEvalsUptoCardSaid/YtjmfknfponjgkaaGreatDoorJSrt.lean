/- The walks of slices.SortStableFunc at pairs: the row keeps its pairs; up to 20 of them are sorted. Conditions: as stated. -/
import Derived.Shelf.SlSortCmp.InsertionK
import Derived.Sort.Lot0
import Derived.KernelRfl
import Derived.Shelf.SlSortCmp.QuietGrown
import Derived.BigQuiet
import Derived.Test.YtjmfknfponjgkaaGreatDoorJAva
import Derived.Test.YtjmfknfponjgkaaGreatDoorJRuS
set_option maxRecDepth 1000000
set_option maxHeartbeats 16000000
namespace Go.Proofs.YtjmfknfponjgkaaGreatDoor
section
open Go.Shelf Go.RowKit Go.Lib Go.Sort Go.Proofs
def ren : Ren := { f := fun x => if x = 20 then 218 else x, t := fun x => match x with | 0 => 0 | 3 => 3 | 4 => 4 | 22 => 155 | 24 => 190 | 25 => 216 | x => x, g := fun x => x }
theorem insBears : Bears Tryz.prog (ren.f 20) (SlBodyF.n20 ren) := ⟨"slices.insertionSortCmpFunc[verger/rdn.AVA]", by kernel_rfl, by kernel_rfl⟩
theorem insLays : SlLaysF0.n20 Tryz.prog ren where
 mixed := by kernel_rfl
 f20 := insBears
 t0 := Tryz.underlying0
 a0 := fun w => by kernel_rfl
 z0 := fun w => by kernel_rfl
 v0 := fun w => by kernel_rfl
 t3 := Tryz.underlying3
 a3 := fun w => by kernel_rfl
 z3 := fun w => by kernel_rfl
 v3 := fun w => by kernel_rfl
 t4 := Tryz.underlying4
 a4 := fun w => by kernel_rfl
 z4 := fun w => by kernel_rfl
 v4 := fun w => by kernel_rfl
 t22 := Tryz.underlying155
 a22 := fun w => by kernel_rfl
 z22 := fun w => by kernel_rfl
 v22 := fun w => by kernel_rfl
 t25 := Tryz.underlying216
 a25 := fun w => by kernel_rfl
 z25 := fun w => by kernel_rfl
 v25 := fun w => by kernel_rfl
def encP (p : RdS.Pr) : List Value := [strV p.1, strV p.2]
theorem encP_len (p : RdS.Pr) : (encP p).length = 2 := rfl
theorem encP_one (p : RdS.Pr) : ∀ v ∈ encP p, v.oneCell' = true := by
 intro v hv
 simp only [encP, List.mem_cons, List.not_mem_nil, or_false] at hv
 rcases hv with rfl | rfl <;> rfl
def cfP (x y : RdS.Pr) : Int := Lib.compareBytes x.1 y.1
theorem cmp_c (x y : RdS.Pr) (W : World) : Calls Tryz.prog 189 #[.agg #[.string ⟨x.1.toArray⟩, .string ⟨x.2.toArray⟩], .agg #[.string ⟨y.1.toArray⟩, .string ⟨y.2.toArray⟩]] W fun e w' => e = .returned (.int .i64 (cfP x y)) /\ ∃ q os', w' = grow (W.drewN q) os' := by
 have hcon := fun W' => Tryz.strings_Compare ⟨x.1.toArray⟩ ⟨y.1.toArray⟩ W'
 change ∀ W, Calls Tryz.prog 109 _ W (fun e w2 => e = .returned (.int .i64 (cfP x y)) /\ w2 = W) at hcon
 generalize cfP x y = r at *
 go_enter Tryz.func189, Tryz.ntmps189
 go_wp2_with (go_at_call 109; refine (hcon _).mono ?_; rintro e w1 ⟨rfl, rfl⟩)
 go_ret
 exact ⟨rfl, 0, _, by rw [alloc_eq_grow, alloc_eq_grow, grow_grow]; rfl⟩
theorem cmpLays (blk off size : Nat) (w : World) : CmpLays Tryz.prog 189 #[] encP 2 cfP blk off size w := fun _ _ _ _ x y => cmp_c x y _
theorem cmpEnters : ∀ args w, (callFunc 189 args).run Tryz.prog w = .ok (.enter 189 args) w := enters_of Tryz.func189 (by kernel_rfl) rfl
def cmpV : Value := .func (.func 189) #[] #[]
theorem inssort_c (blk off cap a b : Nat) (d : Array RdS.Pr) (w : World) (hH : HoldsK encP 2 w blk off d) (hblk : blk < w.heap.size) (hab : a <= b) (hb : b <= d.size) (hsz : d.size < 1000000000) :
  Calls Tryz.prog 218 #[.slice (some ⟨blk, off, none⟩) d.size cap, .int .i64 a, .int .i64 b, cmpV] w fun e w' =>
   e = .returned (.tuple #[]) /\ ∃ n os, w' = sortWorldK encP 2 w blk off n (Sort.insertionSort (ltOf cfP) d a b) os :=
 AnyQ.insertionSortCmpFunc insLays 2 Tryz.isAgg190 Tryz.sizeOf190 encP encP_len encP_one cfP 189 #[] blk off cap a b d w cmpEnters (cmpLays blk off d.size w) hH hblk hab hb (by omega)
end
section
open Go.Shelf Go.RowKit Go.Lib Go.Sort Go.Proofs
def SW (w0 : World) (blk off n : Nat) (w : World) : Prop := ∃ (m : Nat) (dk : Array RdS.Pr) (os : Array Obj), dk.size = n /\ w = sortWorldK encP 2 w0 blk off m dk os
def Swp (w0 : World) (blk off n : Nat) (e : Ending) (w : World) : Prop := e = .returned (.tuple #[]) /\ SW w0 blk off n w
theorem exch (w0 : World) (blk off : Nat) (d : Array RdS.Pr) (hH : HoldsK encP 2 w0 blk off d) (hblk : blk < w0.heap.size) (m : Nat) (dk : Array RdS.Pr) (os : Array Obj) (hs : dk.size = d.size) (i j : Nat) (hi : i < dk.size) (hj : j < dk.size) (hij : i ≠ j) :
  ∃ (A B : Nat) (x1 x2 y1 y2 : List UInt8), (off + i * 2 = A /\ off + j * 2 = B) /\ (¬ A = B /\ ¬ B = A /\ ¬ A + 1 = B /\ ¬ A = B + 1 /\ ¬ B = A + 1 /\ ¬ B + 1 = A) /\
   ((sortWorldK encP 2 w0 blk off m dk os).cell? ⟨blk, A, none⟩ = some (.string ⟨x1.toArray⟩) /\ (sortWorldK encP 2 w0 blk off m dk os).cell? ⟨blk, A + 1, none⟩ = some (.string ⟨x2.toArray⟩) /\
    (sortWorldK encP 2 w0 blk off m dk os).cell? ⟨blk, B, none⟩ = some (.string ⟨y1.toArray⟩) /\ (sortWorldK encP 2 w0 blk off m dk os).cell? ⟨blk, B + 1, none⟩ = some (.string ⟨y2.toArray⟩)) /\
   ((sortWorldK encP 2 w0 blk off m dk os).frozen? ⟨blk, A, none⟩ = false /\ (sortWorldK encP 2 w0 blk off m dk os).frozen? ⟨blk, A + 1, none⟩ = false /\
    (sortWorldK encP 2 w0 blk off m dk os).frozen? ⟨blk, B, none⟩ = false /\ (sortWorldK encP 2 w0 blk off m dk os).frozen? ⟨blk, B + 1, none⟩ = false) /\
   (((((sortWorldK encP 2 w0 blk off m dk os).drew.setCell ⟨blk, A, none⟩ (.string ⟨y1.toArray⟩)).setCell ⟨blk, A + 1, none⟩ (.string ⟨y2.toArray⟩)).setCell ⟨blk, B, none⟩ (.string ⟨x1.toArray⟩)).setCell ⟨blk, B + 1, none⟩ (.string ⟨x2.toArray⟩)) = sortWorldK encP 2 w0 blk off (m + 1) (swp dk i j) os := by
 have hHd : HoldsK encP 2 (sortWorldK encP 2 w0 blk off m dk os) blk off dk := holdsK_sortWorldK_c encP 2 w0 blk off d dk m os hH hblk hs
 have ci := hHd.cell hi (c := 0) (by decide)
 have ci1 := hHd.cell hi (c := 1) (by decide)
 have cj := hHd.cell hj (c := 0) (by decide)
 have cj1 := hHd.cell hj (c := 1) (by decide)
 exact ⟨off + i * 2, off + j * 2, dk[i]!.1, dk[i]!.2, dk[j]!.1, dk[j]!.2, ⟨rfl, rfl⟩, by omega, ⟨ci.1, ci1.1, cj.1, cj1.1⟩, ⟨ci.2, ci1.2, cj.2, cj1.2⟩,
  sortWorldK_swp_c encP 2 w0 blk off encP_len m dk os hblk i j hi hj⟩
theorem swaprange_c (w0 : World) (blk off cap : Nat) (d : Array RdS.Pr) (hH : HoldsK encP 2 w0 blk off d) (hblk : blk < w0.heap.size) (hsz : d.size < 1000000000) (a b n : Nat) (ha : a + n <= b) (hb : b + n <= d.size) (w : World) (hw : SW w0 blk off d.size w) :
  Calls Tryz.prog 223 #[.slice (some ⟨blk, off, none⟩) d.size cap, .int .i64 a, .int .i64 b, .int .i64 n, cmpV] w (Swp w0 blk off d.size) := by
 obtain ⟨m0, dk0, os0, hs0, rfl⟩ := hw
 have hex := exch w0 blk off d hH hblk
 have HEX := hZ9 hex
 clear hex hH
 generalize hn : d.size = sz at *
 have HN := hZ9 hn
 clear hn
 go_enter Tryz.func223, Tryz.ntmps223
 go_wp2
 go_loopg [10] n (fun g1 vi wr => ∃ (i m : Nat) (dk : Array RdS.Pr) (os : Array Obj), vi = .int .i64 i /\ i <= n /\ n - i <= g1 /\ dk.size = sz /\ wr = sortWorldK encP 2 w0 blk off m dk os)
 case atStart => exact ⟨0, m0, dk0, os0, rfl, Nat.zero_le _, by omega, hs0, rfl⟩
 case round =>
  obtain ⟨i, m, dk, os, rfl, hin, hg1, hsk, rfl⟩ := hrel
  by_cases hlt : i < n
  · have hltz : (i : Int) < (n : Int) := by omega
    obtain ⟨A, B, x1, x2, y1, y2, ⟨hA, hB⟩, ⟨n1, n2, n3, n4, n5, n6⟩, ⟨c1, c2, c3, c4⟩, ⟨f1, f2, f3, f4⟩, hfin⟩ := HEX.out m dk os hsk (a + i) (b + i) (by omega) (by omega) (by omega)
    have wa : IntKind.i64.wrap ((a : Int) + (i : Int)) = (a : Int) + (i : Int) := by rw [IntKind.wrap_i64]; omega
    have wb : IntKind.i64.wrap ((b : Int) + (i : Int)) = (b : Int) + (i : Int) := by rw [IntKind.wrap_i64]; omega
    have ea : ((a : Int) + (i : Int)).toNat = a + i := by omega
    have eb : ((b : Int) + (i : Int)).toNat = b + i := by omega
    have ja : (a : Int) + (i : Int) < (sz : Int) := by omega
    have jb : (b : Int) + (i : Int) < (sz : Int) := by omega
    have ja0 : (0 : Int) <= (a : Int) + (i : Int) := by omega
    have jb0 : (0 : Int) <= (b : Int) + (i : Int) := by omega
    have HFIN := hZ9 hfin
    clear hfin
    have HSWP : Hid ((swp dk (a + i) (b + i)).size = sz) := hZ9 (by rw [size_swp]; exact hsk)
    generalize swp dk (a + i) (b + i) = dk2 at *
    generalize sortWorldK encP 2 w0 blk off m dk os = wq at *
    go_wp2
    go_region
    all_goals go_wp2
    go_roundg (n - (i + 1))
    case measure => omega
    case rel => exact ⟨i + 1, m + 1, dk2, os, by go_num, hlt, by omega, HSWP.out, HFIN.out⟩
  · have hltz : ¬ (i : Int) < (n : Int) := by omega
    go_wp2
    go_end0
    exact ⟨rfl, m, dk, os, hsk, rfl⟩
theorem rotate_c (w0 : World) (blk off cap : Nat) (d : Array RdS.Pr) (hH : HoldsK encP 2 w0 blk off d) (hblk : blk < w0.heap.size) (hsz : d.size < 1000000000) (a m b : Nat) (ham : a < m) (hmb : m < b) (hb : b <= d.size) (w : World) (hw : SW w0 blk off d.size w) :
  Calls Tryz.prog 222 #[.slice (some ⟨blk, off, none⟩) d.size cap, .int .i64 a, .int .i64 m, .int .i64 b, cmpV] w (Swp w0 blk off d.size) := by
 have hsw := fun a b n h1 h2 w hw => swaprange_c w0 blk off cap d hH hblk hsz a b n h1 h2 w hw
 unfold Swp cmpV at hsw
 have HSW := hZ9 hsw
 clear hsw hH
 generalize hn : d.size = sz at *
 clear hn
 have HW := hZ9 hw
 clear hw
 obtain ⟨i0, hi0⟩ : ∃ i0 : Nat, (m : Int) - (a : Int) = (i0 : Int) := ⟨m - a, by omega⟩
 obtain ⟨j0, hj0⟩ : ∃ j0 : Nat, (b : Int) - (m : Int) = (j0 : Int) := ⟨b - m, by omega⟩
 have wi0 : IntKind.i64.wrap (i0 : Int) = (i0 : Int) := by rw [IntKind.wrap_i64]; omega
 have wj0 : IntKind.i64.wrap (j0 : Int) = (j0 : Int) := by rw [IntKind.wrap_i64]; omega
 unfold cmpV
 go_enter Tryz.func222, Tryz.ntmps222
 go_wp2
 go_loopg [10, 11] (i0 + j0) (fun g1 vi vj wr => ∃ (i j : Nat), vi = .int .i64 i /\ vj = .int .i64 j /\ 1 <= i /\ 1 <= j /\ i <= m /\ m + j <= sz /\ i + j <= g1 /\ Hid (SW w0 blk off sz wr))
 case atStart => exact ⟨i0, j0, rfl, rfl, by omega, by omega, by omega, by omega, Nat.le_refl _, HW⟩
 case round =>
  obtain ⟨i, j, rfl, rfl, hi1, hj1, him, hjm, hg1, HS⟩ := hrel
  obtain ⟨p, hp⟩ : ∃ p : Nat, (m : Int) - (i : Int) = (p : Int) := ⟨m - i, by omega⟩
  have wp : IntKind.i64.wrap (p : Int) = (p : Int) := by rw [IntKind.wrap_i64]; omega
  by_cases hij : i = j
  · subst hij
    have hne : ((i : Int) != (i : Int)) = false := by simp
    go_wp2_with (go_at_call 223; refine (HSW.out p m i (by omega) (by omega) _ HS.out).mono ?_; rintro e w1 ⟨rfl, hs1⟩)
    go_end0
    exact ⟨rfl, hs1⟩
  · have hne : ((i : Int) != (j : Int)) = true := by simp; omega
    by_cases hlt : j < i
    · have hz : (j : Int) < (i : Int) := by omega
      obtain ⟨q, hq⟩ : ∃ q : Nat, (i : Int) - (j : Int) = (q : Int) := ⟨i - j, by omega⟩
      have wq : IntKind.i64.wrap (q : Int) = (q : Int) := by rw [IntKind.wrap_i64]; omega
      go_wp2_with (go_at_call 223; refine (HSW.out p m j (by omega) (by omega) _ HS.out).mono ?_; rintro e w1 ⟨rfl, hs1⟩)
      go_roundg (q + j)
      case measure => omega
      case rel => exact ⟨q, j, rfl, rfl, by omega, hj1, by omega, hjm, Nat.le_refl _, hZ9 hs1⟩
    · have hz : ¬ (j : Int) < (i : Int) := by omega
      obtain ⟨q, hq⟩ : ∃ q : Nat, (j : Int) - (i : Int) = (q : Int) := ⟨j - i, by omega⟩
      have wq : IntKind.i64.wrap (q : Int) = (q : Int) := by rw [IntKind.wrap_i64]; omega
      obtain ⟨s, hs⟩ : ∃ s : Nat, (m : Int) + (j : Int) = (s : Int) := ⟨m + j, by omega⟩
      have ws : IntKind.i64.wrap (s : Int) = (s : Int) := by rw [IntKind.wrap_i64]; omega
      obtain ⟨r, hr⟩ : ∃ r : Nat, (s : Int) - (i : Int) = (r : Int) := ⟨s - i, by omega⟩
      have wr : IntKind.i64.wrap (r : Int) = (r : Int) := by rw [IntKind.wrap_i64]; omega
      go_wp2_with (go_at_call 223; refine (HSW.out p r i (by omega) (by omega) _ HS.out).mono ?_; rintro e w1 ⟨rfl, hs1⟩)
      go_roundg (i + q)
      case measure => omega
      case rel => exact ⟨i, q, rfl, rfl, hi1, by omega, him, by omega, Nat.le_refl _, hZ9 hs1⟩
end
section
open Go.Shelf Go.RowKit Go.Lib Go.Sort Go.Proofs
theorem SW.grown {w0 : World} {blk off n : Nat} {w : World} (h : SW w0 blk off n w) (q : Nat) (os : Array Obj) : SW w0 blk off n (grow (w.drewN q) os) := by
 obtain ⟨m, dk, o, hs, rfl⟩ := h
 exact ⟨m + q, dk, o ++ os, hs, sortWorldK_grown_c encP 2 w0 blk off m q dk o os⟩
theorem SW.lt {w0 : World} {blk off n : Nat} {w : World} (h : SW w0 blk off n w) (hblk : blk < w0.heap.size) : blk < w.heap.size := by
 obtain ⟨m, dk, o, hs, rfl⟩ := h
 exact Nat.lt_of_lt_of_le hblk (size_sortWorldK_c encP 2 w0 blk off m dk o)
theorem SW.read {w0 : World} {blk off : Nat} {d : Array RdS.Pr} (hH : HoldsK encP 2 w0 blk off d) (hblk : blk < w0.heap.size) {w : World} (h : SW w0 blk off d.size w) (i : Nat) (hi : i < d.size) :
  ∃ (A : Nat) (x : RdS.Pr), off + i * 2 = A /\ (∀ q os, (grow (w.drewN q) os).cell? ⟨blk, A, none⟩ = some (.string ⟨x.1.toArray⟩)) /\ (∀ q os, (grow (w.drewN q) os).cell? ⟨blk, A + 1, none⟩ = some (.string ⟨x.2.toArray⟩)) := by
 have hlt := h.lt hblk
 obtain ⟨m, dk, o, hs, rfl⟩ := h
 have hHd : HoldsK encP 2 (sortWorldK encP 2 w0 blk off m dk o) blk off dk := holdsK_sortWorldK_c encP 2 w0 blk off d dk m o hH hblk hs
 have ci := hHd.cell (i := i) (by omega) (c := 0) (by decide)
 have ci1 := hHd.cell (i := i) (by omega) (c := 1) (by decide)
 exact ⟨off + i * 2, dk[i]!, rfl, fun q os => cell_grown hlt ci.1 q os, fun q os => cell_grown hlt ci1.1 q os⟩
theorem SW.exch {w0 : World} {blk off : Nat} {d : Array RdS.Pr} (hH : HoldsK encP 2 w0 blk off d) (hblk : blk < w0.heap.size) {w : World} (h : SW w0 blk off d.size w) (i j : Nat) (hi : i < d.size) (hj : j < d.size) (hij : i ≠ j) :
  ∃ (A B : Nat) (x1 x2 y1 y2 : List UInt8), (off + i * 2 = A /\ off + j * 2 = B) /\ (¬ A = B /\ ¬ B = A /\ ¬ A + 1 = B /\ ¬ A = B + 1 /\ ¬ B = A + 1 /\ ¬ B + 1 = A) /\
   (w.cell? ⟨blk, A, none⟩ = some (.string ⟨x1.toArray⟩) /\ w.cell? ⟨blk, A + 1, none⟩ = some (.string ⟨x2.toArray⟩) /\ w.cell? ⟨blk, B, none⟩ = some (.string ⟨y1.toArray⟩) /\ w.cell? ⟨blk, B + 1, none⟩ = some (.string ⟨y2.toArray⟩)) /\
   (w.frozen? ⟨blk, A, none⟩ = false /\ w.frozen? ⟨blk, A + 1, none⟩ = false /\ w.frozen? ⟨blk, B, none⟩ = false /\ w.frozen? ⟨blk, B + 1, none⟩ = false) /\
   SW w0 blk off d.size ((((w.drew.setCell ⟨blk, A, none⟩ (.string ⟨y1.toArray⟩)).setCell ⟨blk, A + 1, none⟩ (.string ⟨y2.toArray⟩)).setCell ⟨blk, B, none⟩ (.string ⟨x1.toArray⟩)).setCell ⟨blk, B + 1, none⟩ (.string ⟨x2.toArray⟩)) := by
 obtain ⟨m, dk, o, hs, rfl⟩ := h
 obtain ⟨A, B, x1, x2, y1, y2, h1, h2, h3, h4, h5⟩ := Go.Proofs.YtjmfknfponjgkaaGreatDoor.exch w0 blk off d hH hblk m dk o hs i j (by omega) (by omega) hij
 exact ⟨A, B, x1, x2, y1, y2, h1, h2, h3, h4, m + 1, swp dk i j, o, by rw [size_swp]; exact hs, h5⟩
theorem symmerge_c (w0 : World) (blk off cap : Nat) (d : Array RdS.Pr) (hH : HoldsK encP 2 w0 blk off d) (hblk : blk < w0.heap.size) (hsz : d.size < 1000000000) : ∀ (N a m b : Nat), b - a <= N -> a < m -> m < b -> b <= d.size -> ∀ w, SW w0 blk off d.size w ->
  Calls Tryz.prog 219 #[.slice (some ⟨blk, off, none⟩) d.size cap, .int .i64 a, .int .i64 m, .int .i64 b, cmpV] w (Swp w0 blk off d.size) := by
 have hrot := fun a m b h1 h2 h3 w hw => rotate_c w0 blk off cap d hH hblk hsz a m b h1 h2 h3 w hw
 have hread := fun w h i hi => SW.read (w := w) hH hblk h i hi
 have hexch := fun w h i j hi hj hij => SW.exch (w := w) hH hblk h i j hi hj hij
 have hcmp := cmp_c
 have mixed : Tryz.prog.follows .mixedOrders = true := insLays.mixed
 unfold Swp cmpV at *
 have HROT := hZ9 hrot
 have HREAD := hZ9 hread
 have HEXCH := hZ9 hexch
 have HCMP := hZ9 hcmp
 clear hrot hread hexch hcmp hH
 generalize d.size = sz at *
 intro N
 induction N with
 | zero => intro a m b h1 h2 h3; omega
 | succ N ih =>
  intro a m b hN ham hmb hb w hw
  have IH := hZ9 ih
  have HW := hZ9 hw
  clear ih hw
  by_cases h1 : m = a + 1
  · have hd1 : (m : Int) - (a : Int) = 1 := by omega
    have hle1 : m <= a + 1 := by omega
    clear h1
    go_enter Tryz.func219, Tryz.ntmps219
    go_wp2
    go_loopg [10, 11] (b - m) (fun g1 vi vj wr => ∃ (i j : Nat), vi = .int .i64 i /\ vj = .int .i64 j /\ m <= i /\ i <= j /\ j <= b /\ j - i <= g1 /\ Hid (SW w0 blk off sz wr))
    case atStart => exact ⟨m, b, rfl, rfl, Nat.le_refl _, by omega, Nat.le_refl _, Nat.le_refl _, HW⟩
    case round =>
     obtain ⟨i, j, rfl, rfl, hi1, hij, hj1, hg1, HS⟩ := hrel
     by_cases hlt : i < j
     · have hz : (i : Int) < (j : Int) := by omega
       obtain ⟨h, hh⟩ : ∃ h : Nat, ((i : Int) + (j : Int)) / 2 = (h : Int) := ⟨(i + j) / 2, by omega⟩
       have hhi : i <= h := by omega
       have hhj : h < j := by omega
       obtain ⟨A, x, hA, cA, cA1⟩ := HREAD.out _ HS.out h (by omega)
       obtain ⟨B, y, hB, cB, cB1⟩ := HREAD.out _ HS.out a (by omega)
       have jh : (h : Int) < (sz : Int) := by omega
       have ja : (a : Int) < (sz : Int) := by omega
       by_cases hlv : cfP x y < 0
       · go_wp2_with fail
         go_quiet_grown (first | (go_at_call 189; refine Calls.grown_of (HCMP.out x y _)))
         go_wp2
         go_roundg (j - (h + 1))
         case measure => omega
         case rel => exact ⟨h + 1, j, by go_num, rfl, by omega, by omega, hj1, Nat.le_refl _, hZ9 (HS.out.grown nq osq)⟩
       · go_wp2_with fail
         go_quiet_grown (first | (go_at_call 189; refine Calls.grown_of (HCMP.out x y _)))
         go_wp2
         go_roundg (h - i)
         case measure => omega
         case rel => exact ⟨i, h, rfl, rfl, hi1, hhi, by omega, Nat.le_refl _, hZ9 (HS.out.grown nq osq)⟩
     · have hz : ¬ (i : Int) < (j : Int) := by omega
       obtain ⟨ip, hip⟩ : ∃ ip : Nat, (i : Int) - 1 = (ip : Int) := ⟨i - 1, by omega⟩
       have wip : IntKind.i64.wrap (ip : Int) = (ip : Int) := by rw [IntKind.wrap_i64]; omega
       go_wp2
       go_loopg [13] (ip - a) (fun g1 vk wr => ∃ (k : Nat), vk = .int .i64 k /\ a <= k /\ k <= ip /\ ip - k <= g1 /\ Hid (SW w0 blk off sz wr))
       case atStart => exact ⟨a, rfl, Nat.le_refl _, by omega, Nat.le_refl _, HS⟩
       case round =>
        obtain ⟨k, rfl, hk1, hk2, hg2, HS2⟩ := hrel
        by_cases hlt2 : k < ip
        · have hz2 : (k : Int) < (ip : Int) := by omega
          obtain ⟨A, B, x1, x2, y1, y2, ⟨hA, hB⟩, ⟨n1, n2, n3, n4, n5, n6⟩, ⟨c1, c2, c3, c4⟩, ⟨f1, f2, f3, f4⟩, hfin⟩ := HEXCH.out _ HS2.out k (k + 1) (by omega) (by omega) (by omega)
          have HFIN := hZ9 hfin
          clear hfin
          have jk : (k : Int) < (sz : Int) := by omega
          have jk1 : (k : Int) + 1 < (sz : Int) := by omega
          have ek : ((k : Int) + 1).toNat = k + 1 := by omega
          have j0 : (0 : Int) <= (k : Int) + 1 := by omega
          go_wp2
          go_region
          all_goals go_wp2
          go_roundg (ip - (k + 1))
          case measure => omega
          case rel => exact ⟨k + 1, by go_num, by omega, by omega, Nat.le_refl _, HFIN⟩
        · have hz2 : ¬ (k : Int) < (ip : Int) := by omega
          go_wp2
          (try simp only [Exit.inBlock, Exit.then])
          refine bodyPost_ret (results_none rfl _ _ _) rfl ?_
          exact ⟨rfl, HS2.out⟩
  · have hd1 : ∃ q : Nat, (m : Int) - (a : Int) = (q : Int) /\ 2 <= q := ⟨m - a, by omega, by omega⟩
    obtain ⟨q, hq, hq2⟩ := hd1
    have hq1 : ((q : Int) == 1) = false := by rw [beq_eq_false_iff_ne]; omega
    have wq : IntKind.i64.wrap (q : Int) = (q : Int) := by rw [IntKind.wrap_i64]; omega
    by_cases h2 : b = m + 1
    · have hd2 : (b : Int) - (m : Int) = 1 := by omega
      have hle2 : b <= m + 1 := by omega
      clear h2
      go_enter Tryz.func219, Tryz.ntmps219
      go_wp2
      go_loopg [14, 15] (m - a) (fun g1 vi vj wr => ∃ (i j : Nat), vi = .int .i64 i /\ vj = .int .i64 j /\ a <= i /\ i <= j /\ j <= m /\ j - i <= g1 /\ Hid (SW w0 blk off sz wr))
      case atStart => exact ⟨a, m, rfl, rfl, Nat.le_refl _, by omega, Nat.le_refl _, Nat.le_refl _, HW⟩
      case round =>
       obtain ⟨i, j, rfl, rfl, hi1, hij, hj1, hg1, HS⟩ := hrel
       by_cases hlt : i < j
       · have hz : (i : Int) < (j : Int) := by omega
         obtain ⟨h, hh⟩ : ∃ h : Nat, ((i : Int) + (j : Int)) / 2 = (h : Int) := ⟨(i + j) / 2, by omega⟩
         have hhi : i <= h := by omega
         have hhj : h < j := by omega
         obtain ⟨A, x, hA, cA, cA1⟩ := HREAD.out _ HS.out m (by omega)
         obtain ⟨B, y, hB, cB, cB1⟩ := HREAD.out _ HS.out h (by omega)
         have jh : (h : Int) < (sz : Int) := by omega
         have ja : (m : Int) < (sz : Int) := by omega
         by_cases hlv : cfP x y < 0
         · go_wp2_with fail
           go_quiet_grown (first | (go_at_call 189; refine Calls.grown_of (HCMP.out x y _)))
           go_wp2
           go_roundg (h - i)
           case measure => omega
           case rel => exact ⟨i, h, rfl, rfl, hi1, hhi, by omega, Nat.le_refl _, hZ9 (HS.out.grown nq osq)⟩
         · have hdv : decide (cfP x y < 0) = false := decide_eq_false hlv
           go_wp2_with fail
           go_quiet_grown (first | (go_at_call 189; refine Calls.grown_of (HCMP.out x y _)))
           go_wp2
           go_roundg (j - (h + 1))
           case measure => omega
           case rel => exact ⟨h + 1, j, by go_num, rfl, by omega, by omega, hj1, Nat.le_refl _, hZ9 (HS.out.grown nq osq)⟩
       · have hz : ¬ (i : Int) < (j : Int) := by omega
         go_wp2
         go_loopg [17] (m - i) (fun g1 vk wr => ∃ (k : Nat), vk = .int .i64 k /\ i <= k /\ k <= m /\ k - i <= g1 /\ Hid (SW w0 blk off sz wr))
         case atStart => exact ⟨m, rfl, by omega, Nat.le_refl _, Nat.le_refl _, HS⟩
         case round =>
          obtain ⟨k, rfl, hk1, hk2, hg2, HS2⟩ := hrel
          by_cases hlt2 : i < k
          · have hz2 : (i : Int) < (k : Int) := by omega
            obtain ⟨kp, hkp⟩ : ∃ kp : Nat, (k : Int) - 1 = (kp : Int) := ⟨k - 1, by omega⟩
            have wkp : IntKind.i64.wrap (kp : Int) = (kp : Int) := by rw [IntKind.wrap_i64]; omega
            obtain ⟨A, B, x1, x2, y1, y2, ⟨hA, hB⟩, ⟨n1, n2, n3, n4, n5, n6⟩, ⟨c1, c2, c3, c4⟩, ⟨f1, f2, f3, f4⟩, hfin⟩ := HEXCH.out _ HS2.out k kp (by omega) (by omega) (by omega)
            have HFIN := hZ9 hfin
            clear hfin
            have jk : (k : Int) < (sz : Int) := by omega
            have jk1 : (kp : Int) < (sz : Int) := by omega
            go_wp2
            go_region
            all_goals go_wp2
            go_roundg (kp - i)
            case measure => omega
            case rel => exact ⟨kp, rfl, by omega, by omega, Nat.le_refl _, HFIN⟩
          · have hz2 : ¬ (i : Int) < (k : Int) := by omega
            go_wp2
            (try simp only [Exit.inBlock, Exit.then])
            refine bodyPost_ret (results_none rfl _ _ _) rfl ?_
            exact ⟨rfl, HS2.out⟩
    · have hd2 : ∃ q : Nat, (b : Int) - (m : Int) = (q : Int) /\ 2 <= q := ⟨b - m, by omega, by omega⟩
      obtain ⟨r, hr, hr2⟩ := hd2
      have hr1 : ((r : Int) == 1) = false := by rw [beq_eq_false_iff_ne]; omega
      have wr : IntKind.i64.wrap (r : Int) = (r : Int) := by rw [IntKind.wrap_i64]; omega
      obtain ⟨mid, hmid⟩ : ∃ mid : Nat, ((a : Int) + (b : Int)) / 2 = (mid : Int) := ⟨(a + b) / 2, by omega⟩
      have hmid1 : a < mid := by omega
      have hmid2 : mid < b := by omega
      obtain ⟨n, hn⟩ : ∃ n : Nat, (mid : Int) + (m : Int) = (n : Int) := ⟨mid + m, by omega⟩
      have wn : IntKind.i64.wrap (n : Int) = (n : Int) := by rw [IntKind.wrap_i64]; omega
      obtain ⟨p, hp⟩ : ∃ p : Nat, (n : Int) - 1 = (p : Int) := ⟨n - 1, by omega⟩
      have wp : IntKind.i64.wrap (p : Int) = (p : Int) := by rw [IntKind.wrap_i64]; omega
      by_cases hmm : mid < m
      · have hzm : (mid : Int) < (m : Int) := by omega
        obtain ⟨s0, hs0⟩ : ∃ s0 : Nat, (n : Int) - (b : Int) = (s0 : Int) := ⟨n - b, by omega⟩
        have ws0 : IntKind.i64.wrap (s0 : Int) = (s0 : Int) := by rw [IntKind.wrap_i64]; omega
        go_enter Tryz.func219, Tryz.ntmps219
        go_wp2
        go_loopg [20, 21] (mid - s0) (fun g1 vi vj wr => ∃ (s r : Nat), vi = .int .i64 s /\ vj = .int .i64 r /\ s0 <= s /\ s <= r /\ r <= mid /\ r - s <= g1 /\ Hid (SW w0 blk off sz wr))
        case atStart => exact ⟨s0, mid, rfl, rfl, Nat.le_refl _, by omega, Nat.le_refl _, Nat.le_refl _, HW⟩
        case round =>
         obtain ⟨s, r, rfl, rfl, hs1, hsr, hr1, hg1, HS⟩ := hrel
         by_cases hlt : s < r
         · have hz : (s : Int) < (r : Int) := by omega
           obtain ⟨c, hc⟩ : ∃ c : Nat, ((s : Int) + (r : Int)) / 2 = (c : Int) := ⟨(s + r) / 2, by omega⟩
           have hsc : s <= c := by omega
           have hcr : c < r := by omega
           obtain ⟨pc, hpc⟩ : ∃ pc : Nat, (p : Int) - (c : Int) = (pc : Int) := ⟨p - c, by omega⟩
           have wpc : IntKind.i64.wrap (pc : Int) = (pc : Int) := by rw [IntKind.wrap_i64]; omega
           obtain ⟨A, x, hA, cA, cA1⟩ := HREAD.out _ HS.out pc (by omega)
           obtain ⟨B, y, hB, cB, cB1⟩ := HREAD.out _ HS.out c (by omega)
           have jp : (pc : Int) < (sz : Int) := by omega
           have jc : (c : Int) < (sz : Int) := by omega
           by_cases hlv : cfP x y < 0
           · go_wp2_with fail
             go_quiet_grown (first | (go_at_call 189; refine Calls.grown_of (HCMP.out x y _)))
             go_wp2
             go_roundg (c - s)
             case measure => omega
             case rel => exact ⟨s, c, rfl, rfl, hs1, hsc, by omega, Nat.le_refl _, hZ9 (HS.out.grown nq osq)⟩
           · have hdv : decide (cfP x y < 0) = false := decide_eq_false hlv
             go_wp2_with fail
             go_quiet_grown (first | (go_at_call 189; refine Calls.grown_of (HCMP.out x y _)))
             go_wp2
             go_roundg (r - (c + 1))
             case measure => omega
             case rel => exact ⟨c + 1, r, by go_num, rfl, by omega, by omega, hr1, Nat.le_refl _, hZ9 (HS.out.grown nq osq)⟩
         · have hz : ¬ (s : Int) < (r : Int) := by omega
           obtain ⟨e, he⟩ : ∃ e : Nat, (n : Int) - (s : Int) = (e : Int) := ⟨n - s, by omega⟩
           have we : IntKind.i64.wrap (e : Int) = (e : Int) := by rw [IntKind.wrap_i64]; omega
           have hs0 := HS.out
           by_cases k1 : s < m <;> by_cases k2 : s < mid <;> by_cases k3 : a < s <;> by_cases k4 : e < b
           all_goals
            first | have z1 : decide ((s : Int) < (m : Int)) = true := decide_eq_true (by omega) | have z1 : decide ((s : Int) < (m : Int)) = false := decide_eq_false (by omega)
            first | have z2 : decide ((s : Int) < (mid : Int)) = true := decide_eq_true (by omega) | have z2 : decide ((s : Int) < (mid : Int)) = false := decide_eq_false (by omega)
            first | have z3 : decide ((a : Int) < (s : Int)) = true := decide_eq_true (by omega) | have z3 : decide ((a : Int) < (s : Int)) = false := decide_eq_false (by omega)
            first | have z4 : decide ((e : Int) < (b : Int)) = true := decide_eq_true (by omega) | have z4 : decide ((e : Int) < (b : Int)) = false := decide_eq_false (by omega)
            first | have z5 : decide ((m : Int) < (e : Int)) = true := decide_eq_true (by omega) | have z5 : decide ((m : Int) < (e : Int)) = false := decide_eq_false (by omega)
            first | have z6 : decide ((mid : Int) < (e : Int)) = true := decide_eq_true (by omega) | have z6 : decide ((mid : Int) < (e : Int)) = false := decide_eq_false (by omega)
            go_wp2_with (first
             | (go_at_call 222; refine (HROT.out _ _ _ (by omega) (by omega) (by omega) _ (by assumption)).mono ?_; rintro en w1 ⟨rfl, hs1⟩)
             | (go_at_call 219; refine (IH.out _ _ _ (by omega) (by omega) (by omega) (by omega) _ (by assumption)).mono ?_; rintro en w2 ⟨rfl, hs2⟩))
            all_goals (go_end0; exact ⟨rfl, by assumption⟩)
      · have hzm : ¬ (mid : Int) < (m : Int) := by omega
        go_enter Tryz.func219, Tryz.ntmps219
        go_wp2
        go_loopg [20, 21] (m - a) (fun g1 vi vj wr => ∃ (s r : Nat), vi = .int .i64 s /\ vj = .int .i64 r /\ a <= s /\ s <= r /\ r <= m /\ r - s <= g1 /\ Hid (SW w0 blk off sz wr))
        case atStart => exact ⟨a, m, rfl, rfl, Nat.le_refl _, by omega, Nat.le_refl _, Nat.le_refl _, HW⟩
        case round =>
         obtain ⟨s, r, rfl, rfl, hs1, hsr, hr1, hg1, HS⟩ := hrel
         by_cases hlt : s < r
         · have hz : (s : Int) < (r : Int) := by omega
           obtain ⟨c, hc⟩ : ∃ c : Nat, ((s : Int) + (r : Int)) / 2 = (c : Int) := ⟨(s + r) / 2, by omega⟩
           have hsc : s <= c := by omega
           have hcr : c < r := by omega
           obtain ⟨pc, hpc⟩ : ∃ pc : Nat, (p : Int) - (c : Int) = (pc : Int) := ⟨p - c, by omega⟩
           have wpc : IntKind.i64.wrap (pc : Int) = (pc : Int) := by rw [IntKind.wrap_i64]; omega
           obtain ⟨A, x, hA, cA, cA1⟩ := HREAD.out _ HS.out pc (by omega)
           obtain ⟨B, y, hB, cB, cB1⟩ := HREAD.out _ HS.out c (by omega)
           have jp : (pc : Int) < (sz : Int) := by omega
           have jc : (c : Int) < (sz : Int) := by omega
           by_cases hlv : cfP x y < 0
           · go_wp2_with fail
             go_quiet_grown (first | (go_at_call 189; refine Calls.grown_of (HCMP.out x y _)))
             go_wp2
             go_roundg (c - s)
             case measure => omega
             case rel => exact ⟨s, c, rfl, rfl, hs1, hsc, by omega, Nat.le_refl _, hZ9 (HS.out.grown nq osq)⟩
           · have hdv : decide (cfP x y < 0) = false := decide_eq_false hlv
             go_wp2_with fail
             go_quiet_grown (first | (go_at_call 189; refine Calls.grown_of (HCMP.out x y _)))
             go_wp2
             go_roundg (r - (c + 1))
             case measure => omega
             case rel => exact ⟨c + 1, r, by go_num, rfl, by omega, by omega, hr1, Nat.le_refl _, hZ9 (HS.out.grown nq osq)⟩
         · have hz : ¬ (s : Int) < (r : Int) := by omega
           obtain ⟨e, he⟩ : ∃ e : Nat, (n : Int) - (s : Int) = (e : Int) := ⟨n - s, by omega⟩
           have we : IntKind.i64.wrap (e : Int) = (e : Int) := by rw [IntKind.wrap_i64]; omega
           have hs0 := HS.out
           by_cases k1 : s < m <;> by_cases k2 : s < mid <;> by_cases k3 : a < s <;> by_cases k4 : e < b
           all_goals
            first | have z1 : decide ((s : Int) < (m : Int)) = true := decide_eq_true (by omega) | have z1 : decide ((s : Int) < (m : Int)) = false := decide_eq_false (by omega)
            first | have z2 : decide ((s : Int) < (mid : Int)) = true := decide_eq_true (by omega) | have z2 : decide ((s : Int) < (mid : Int)) = false := decide_eq_false (by omega)
            first | have z3 : decide ((a : Int) < (s : Int)) = true := decide_eq_true (by omega) | have z3 : decide ((a : Int) < (s : Int)) = false := decide_eq_false (by omega)
            first | have z4 : decide ((e : Int) < (b : Int)) = true := decide_eq_true (by omega) | have z4 : decide ((e : Int) < (b : Int)) = false := decide_eq_false (by omega)
            first | have z5 : decide ((m : Int) < (e : Int)) = true := decide_eq_true (by omega) | have z5 : decide ((m : Int) < (e : Int)) = false := decide_eq_false (by omega)
            first | have z6 : decide ((mid : Int) < (e : Int)) = true := decide_eq_true (by omega) | have z6 : decide ((mid : Int) < (e : Int)) = false := decide_eq_false (by omega)
            go_wp2_with (first
             | (go_at_call 222; refine (HROT.out _ _ _ (by omega) (by omega) (by omega) _ (by assumption)).mono ?_; rintro en w1 ⟨rfl, hs1⟩)
             | (go_at_call 219; refine (IH.out _ _ _ (by omega) (by omega) (by omega) (by omega) _ (by assumption)).mono ?_; rintro en w2 ⟨rfl, hs2⟩))
            all_goals (go_end0; exact ⟨rfl, by assumption⟩)
end
end Go.Proofs.YtjmfknfponjgkaaGreatDoor
