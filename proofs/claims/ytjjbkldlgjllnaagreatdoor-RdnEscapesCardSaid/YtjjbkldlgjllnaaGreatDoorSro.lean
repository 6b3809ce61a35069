/- slices.SortStableFunc at a row of pairs of the call's own: the row keeps its length; up to 19 pairs are put in order. Conditions: the row is not empty, and has at most 1000000 pairs. -/
import Derived.Test.YtjjbkldlgjllnaaGreatDoorSrx
import Derived.Deep.AppendLies
namespace Go.Proofs.YtjjbkldlgjllnaaGreatDoor
open Go.Shelf Go.Lib Go.Sort Go.Proofs

theorem sortWorld_below (B : Nat) (w : World) (g : Nat) (hg : B ≤ g) (hlt : g < w.heap.size) (m : Nat) (dk : Array RdS.Pr) (os : Array Obj) : Go.RowKit.Below B w (sortWorldK encP 2 w g 0 m dk os) := by
  refine ⟨rfl, rfl, rfl, ?_, fun k hk => ?_⟩
  · unfold sortWorldK
    rw [size_grow, size_putRowK]
    exact Nat.le_add_right _ _
  · unfold sortWorldK
    rw [heap_grow_old _ _ (by rw [size_putRowK]; show k < w.heap.size; omega)]
    show (w.heap.modify g _)[k]? = w.heap[k]?
    rw [Array.getElem?_modify, if_neg (by omega)]
theorem own_holds {w : World} {B g n cap : Nat} {xs : List RdS.Pr} (h : OwnA 53 w B (.slice (some ⟨g, 0, none⟩) n cap) xs) (hn : n = xs.length) : HoldsK encP 2 w g 0 xs.toArray := by
  intro j hj
  rw [size_flatK, List.size_toArray] at hj
  have hfz := World.ownsRow.frozenAt (hn ▸ h) j
  have hj2 : j / 2 < xs.length := by omega
  have hat := avaC_at xs (j / 2) xs[j / 2] (List.getElem?_eq_getElem hj2)
  have hadd : ∀ k, (⟨g, 0, none⟩ : Addr).add k = ⟨g, 0 + k, none⟩ := fun k => by unfold Addr.add; split <;> simp_all
  rw [get_flatK _ _ _ _ (by rw [List.size_toArray]; exact hj)]
  have e : xs.toArray[j / 2]! = xs[j / 2] := by simp [hj2]
  rw [e]
  refine ⟨?_, by rw [Nat.zero_add]; exact hfz⟩
  rcases Nat.mod_two_eq_zero_or_one j with h0 | h1
  · have c := World.ownsRow.cells h (g := g) rfl _ _ hat.1
    rw [hadd, show j / 2 * 2 = j from by omega] at c
    rw [c, h0]; rfl
  · have c := World.ownsRow.cells h (g := g) rfl _ _ hat.2
    rw [hadd, show j / 2 * 2 + 1 = j from by omega] at c
    rw [c, h1]; rfl
theorem holds_avas {w : World} {g n cap : Nat} {d : Array RdS.Pr} (h : HoldsK encP 2 w g 0 d) (hn : n = d.size) (hc : n ≤ cap) (hg : g < w.heap.size) : AvasIn w (.slice (some ⟨g, 0, none⟩) n cap) d.toList := by
  refine ⟨some ⟨g, 0, none⟩, cap, by rw [hn]; simp, by simp; omega, .inr ⟨g, 0, rfl, hg, fun j p hj => ?_⟩⟩
  have hj2 : j < d.size := by
    have := (List.getElem?_eq_some_iff.1 hj).1
    simpa using this
  have e : d[j]! = p := by
    have := (List.getElem?_eq_some_iff.1 hj).2
    rw [getElem!_pos d j hj2]
    simpa using this
  have c0 := h.cell hj2 (c := 0) (by decide)
  have c1 := h.cell hj2 (c := 1) (by decide)
  rw [e] at c0 c1
  exact ⟨c0.1, c1.1⟩
theorem sorted_list {d d' : Array RdS.Pr} (hp : PermIn 0 d.size d d') (hs : SortedIn (ltOf cfP) 0 d.size d') : d'.toList.Perm d.toList ∧ d'.toList.Pairwise RdS.le2 := by
  have hsz := hp.1
  refine ⟨?_, ?_⟩
  · have h := hp.2.2
    rw [Array.extract_size, ← hsz, Array.extract_size] at h
    exact h
  · rw [List.pairwise_iff_getElem]
    intro i j hi hj hij
    have h := hs i j (Nat.zero_le _) hij (by simpa [hsz] using hj)
    rw [ltOf_cfP] at h
    simp only [Array.length_toList] at hi hj
    rw [getElem!_pos d' i hi, getElem!_pos d' j hj] at h
    simpa [RdS.le2] using h

def SortRet (B : Nat) (v : Value) (xs : List RdS.Pr) (w : World) (e : Ending) (w' : World) : Prop :=
  e = .returned (.tuple #[]) ∧ Go.RowKit.Below B w w' ∧ ∃ ys : List RdS.Pr, ys.length = xs.length ∧ AvasIn w' v ys ∧ (xs.length < 20 → ys.Perm xs ∧ ys.Pairwise RdS.le2)
theorem sort_c (B : Nat) (v : Value) (xs : List RdS.Pr) (w : World) (h : OwnA 53 w B v xs) (h0 : xs ≠ []) (hl : xs.length ≤ 1000000) :
    Calls Tryz.prog 88 #[v, .func (.func 89) #[] #[]] w (SortRet B v xs w) := by
  have hpos : 0 < xs.length := List.length_pos_iff.2 h0
  obtain ⟨g, cap, rfl, hg, hlt⟩ := World.ownsRow.form h hpos
  have hcap : xs.length ≤ cap := by
    rcases h.2 with ⟨e, _⟩ | ⟨g', cap', cr, e, _, _, hn, _⟩
    · cases e
    · cases e; exact hn
  have hH := own_holds h rfl
  have hsz : xs.toArray.size = xs.length := List.size_toArray ..
  by_cases h20 : xs.length < 20
  · have hc := stable_few g 0 cap xs.toArray w hH hlt (by omega)
    have hpi := insertionSort_holds cfP_swo xs.toArray 0 xs.toArray.size (Nat.zero_le _) (Nat.le_refl _)
    have hp := sorted_list hpi.1 hpi.2
    have hs2 := hpi.1.1
    generalize Sort.insertionSort (ltOf cfP) xs.toArray 0 xs.toArray.size = d' at *
    rw [hsz] at hc
    refine hc.mono ?_
    rintro e w' ⟨rfl, n, os, rfl⟩
    have hH2 := holdsK_sortWorldK_c encP 2 w g 0 xs.toArray d' n os hH hlt hs2
    refine ⟨rfl, sortWorld_below B w g hg hlt n d' os, d'.toList, by simp [hs2], holds_avas hH2 (by omega) hcap (Nat.lt_of_lt_of_le hlt (size_sortWorldK_c encP 2 w g 0 n d' os)), fun _ => ?_⟩
    simpa using hp
  · have hc := sort_weak w g 0 cap xs.toArray hH hlt (by omega)
    rw [hsz] at hc
    refine hc.mono ?_
    rintro e w' ⟨rfl, n, d', os, hs2, rfl⟩
    have hH2 := holdsK_sortWorldK_c encP 2 w g 0 xs.toArray d' n os hH hlt (by omega)
    exact ⟨rfl, sortWorld_below B w g hg hlt n d' os, d'.toList, by simp [hs2], holds_avas hH2 (by omega) hcap (Nat.lt_of_lt_of_le hlt (size_sortWorldK_c encP 2 w g 0 n d' os)), fun h => absurd h h20⟩
end Go.Proofs.YtjjbkldlgjllnaaGreatDoor
