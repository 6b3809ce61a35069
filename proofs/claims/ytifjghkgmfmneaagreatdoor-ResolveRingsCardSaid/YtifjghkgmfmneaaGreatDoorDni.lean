/- Comparison of texts and of lists of texts, and the walk of the document's Order. Conditions: those that each theorem states. -/
import Derived.Test.YtifjghkgmfmneaaGreatDoorMem
import Derived.Test.YtifjghkgmfmneaaGreatDoorDnS
import Derived.Deep.MidRow
import Derived.Deep.Upon
import Derived.BigQuiet
namespace Go.Proofs.YtifjghkgmfmneaaGreatDoor
open Go.RowKit

theorem less_cmp (x y : List UInt8) : Op.bytesLess x y = decide (Lib.compareBytes x y = -1) := RuS.less_iff x y
theorem cmp_lt {x y : List UInt8} (h : Op.bytesLess x y = true) : Lib.compareBytes x y = -1 := by rw [less_cmp] at h; exact of_decide_eq_true h
theorem cmp_gt {x y : List UInt8} (h : Op.bytesLess y x = true) : Lib.compareBytes x y = 1 := by
  have h1 := cmp_lt h
  rw [RuS.compare_swap y x, h1]; rfl
theorem cmp_eq {x y : List UInt8} (h : Op.bytesLess x y = false) (h2 : Op.bytesLess y x = false) : Lib.compareBytes x y = 0 := by
  rw [less_cmp] at h h2
  have h1 := of_decide_eq_false h
  have h3 := of_decide_eq_false h2
  have hr := RuS.compare_range x y
  have hs := RuS.compare_swap x y
  omega
namespace DnS
theorem cmpL_drop : ∀ (k : Nat) (x y : List (List UInt8)) (a b : List UInt8), x[k]? = some a → y[k]? = some b → cmpL (x.drop k) (y.drop k) = if Lib.compareBytes a b = 0 then cmpL (x.drop (k + 1)) (y.drop (k + 1)) else Lib.compareBytes a b
  | k, x, y, a, b, hx, hy => by
    obtain ⟨hxl, rfl⟩ := List.getElem?_eq_some_iff.1 hx
    obtain ⟨hyl, rfl⟩ := List.getElem?_eq_some_iff.1 hy
    rw [List.drop_eq_getElem_cons hxl, List.drop_eq_getElem_cons hyl, cmpL]
theorem cmpL_more {x y : List (List UInt8)} {k : Nat} (hx : k < x.length) (hy : y.length ≤ k) : cmpL (x.drop k) (y.drop k) = 1 := by
  rw [List.drop_eq_getElem_cons hx, List.drop_of_length_le hy, cmpL]
theorem cmpL_less {x y : List (List UInt8)} {k : Nat} (hx : x.length ≤ k) (hy : k < y.length) : cmpL (x.drop k) (y.drop k) = -1 := by
  rw [List.drop_eq_getElem_cons hy, List.drop_of_length_le hx, cmpL]
theorem cmpL_end {x y : List (List UInt8)} {k : Nat} (hx : x.length ≤ k) (hy : y.length ≤ k) : cmpL (x.drop k) (y.drop k) = 0 := by
  rw [List.drop_of_length_le hx, List.drop_of_length_le hy, cmpL]
end DnS
/-- the texts' cells, wherever they lie -/
theorem StrsIn.cells {w : World} {a : Option Addr} {n c : Nat} {xs : List (List UInt8)} (h : StrsIn w (.slice a n c) xs) : xs.length = n ∧ n ≤ c ∧ ∀ (k : Nat) (y : List UInt8), xs[k]? = some y → ∃ g o, a = some ⟨g, o, none⟩ ∧ g < w.heap.size ∧ w.cell? ⟨g, o + k, none⟩ = some (strV y) := by
  obtain ⟨a', c', e, hc, hcase⟩ := h
  cases e
  refine ⟨rfl, hc, fun k y hk => ?_⟩
  rcases hcase with rfl | ⟨g, o, rfl, hg, hcell⟩
  · simp at hk
  · exact ⟨g, o, rfl, hg, hcell k y hk⟩

def CmpLRet (n : Int) (w : World) (e : Ending) (w' : World) : Prop := e = .returned (.int .i64 n) ∧ w = w'
theorem below_cells {B b : Nat} {a : World} (hb : B ≤ b) : ∀ (vs : List Value) (o : Nat) (w : World), Below B a w → Below B a (w.setCells b o vs)
  | [], _, _, h => h
  | v :: r, o, _, h => below_cells hb r (o + 1) _ (h.setCell (p := ⟨b, o, none⟩) hb v)
theorem ownBlock_lt {w : World} {B : Nat} {v : Value} {xs : List (List UInt8)} (h : Own w B v xs) {k : Nat} (hk : v.ownBlock = some k) : B ≤ k ∧ k < w.heap.size := by
  rcases h.2 with ⟨rfl, _⟩ | ⟨g, cap, cur, rfl, hg, hh, _⟩
  · cases hk
  · cases hk
    exact ⟨hg, (Array.getElem?_eq_some_iff.1 hh).1⟩
/-- a list of the call's own, where its block is as it was -/
theorem Own.kept {w w' : World} {B : Nat} {v : Value} {xs : List (List UInt8)} (h : Own w B v xs) (hb : ∀ k, v.ownBlock = some k → w'.heap[k]? = w.heap[k]?) : Own w' B v xs := by
  refine ⟨h.1, ?_⟩
  rcases h.2 with h | ⟨g, cap, cur, rfl, hg, hh, hn, hm, hsz, htk⟩
  · exact .inl h
  · exact .inr ⟨g, cap, cur, rfl, hg, (hb g rfl).trans hh, hn, hm, hsz, htk⟩
theorem StrsIn.kept {w w' : World} {B : Nat} {v : Value} {xs ys : List (List UInt8)} (ho : Own w B v ys) (h : StrsIn w v xs) (hs : w.heap.size ≤ w'.heap.size) (hb : ∀ k, v.ownBlock = some k → w'.heap[k]? = w.heap[k]?) : StrsIn w' v xs := by
  obtain ⟨a, c, rfl, hc, hcase⟩ := h
  refine ⟨a, c, rfl, hc, ?_⟩
  rcases hcase with h | ⟨g, o, rfl, hg, hcell⟩
  · exact .inl h
  · refine .inr ⟨g, o, rfl, Nat.lt_of_lt_of_le hg hs, fun j y hj => ?_⟩
    have ho2 : (Value.slice (some ⟨g, o, none⟩) xs.length c).ownBlock = some g := rfl
    exact (World.cell?_of_block (a := ⟨g, o + j, none⟩) (hb g ho2)).trans (hcell j y hj)
end Go.Proofs.YtifjghkgmfmneaaGreatDoor
namespace Go.Proofs.YtifjghkgmfmneaaGreatDoor
open Go.RowKit

def OrderRet (n : Int) (w : World) (e : Ending) (w' : World) : Prop := e = .returned (.int .i64 n) ∧ Below w.heap.size w w'
def OrderLoop (xs ys : List (List UInt8)) (w : World) (i : Value) (wr : World) : Prop :=
  ∃ k : Nat, k ≤ xs.length ∧ k ≤ ys.length ∧ i = .int .i64 (k + 1 : Nat) ∧ DnS.orderS xs ys = DnS.cmpL (xs.reverse.drop k) (ys.reverse.drop k) ∧ Below w.heap.size w wr
set_option maxRecDepth 100000 in
set_option maxHeartbeats 2000000 in
theorem order_c (v1 v2 : Value) (xs ys : List (List UInt8)) (w : World) (h1 : StrsIn w v1 xs) (h2 : StrsIn w v2 ys) (hl : xs.length ≤ 1000) (hl2 : ys.length ≤ 1000) : Calls Tryz.prog 215 #[v1, v2] w (OrderRet (DnS.orderS xs ys) w) := by
  obtain ⟨a1, c1, rfl⟩ := h1.form
  obtain ⟨a2, c2, rfl⟩ := h2.form
  obtain ⟨-, hc1, C1⟩ := h1.cells
  obtain ⟨-, hc2, C2⟩ := h2.cells
  have HC1 := Lib.hid C1
  have HC2 := Lib.hid C2
  clear h1 h2 C1 C2
  generalize hn : xs.length = n at *
  generalize hm : ys.length = m at *
  have HN := Lib.hid hn
  have HM := Lib.hid hm
  clear hn hm
  go_enter Tryz.func215, Tryz.ntmps215
  go_wp2_with fail
  go_loopw [5] (fun i wr => OrderLoop xs ys w i wr) (fun i _ => n + 1 - (intOf i).toNat)
  case atStart => exact ⟨0, Nat.zero_le _, Nat.zero_le _, rfl, rfl, Below.refl _ _⟩
  case round =>
    obtain ⟨k, hk, hkm, rfl, hd, hb⟩ := hrel
    rw [HN.out] at hk
    rw [HM.out] at hkm
    have HD := Lib.hid hd
    clear hd
    by_cases hlt : k < n
    · by_cases hlt2 : k < m
      · obtain ⟨j1, hj1⟩ : ∃ j, n = j + (k + 1) := ⟨n - (k + 1), by omega⟩
        obtain ⟨j2, hj2⟩ : ∃ j, m = j + (k + 1) := ⟨m - (k + 1), by omega⟩
        have hx1 : j1 < xs.length := by rw [HN.out]; omega
        have hy1 : j2 < ys.length := by rw [HM.out]; omega
        have hxr : xs.reverse[k]? = some xs[j1] := by
          rw [List.getElem?_reverse (by rw [HN.out]; exact hlt), HN.out, show n - 1 - k = j1 from by omega, List.getElem?_eq_getElem hx1]
        have hyr : ys.reverse[k]? = some ys[j2] := by
          rw [List.getElem?_reverse (by rw [HM.out]; exact hlt2), HM.out, show m - 1 - k = j2 from by omega, List.getElem?_eq_getElem hy1]
        have HS := Lib.hid (DnS.cmpL_drop k xs.reverse ys.reverse xs[j1] ys[j2] hxr hyr)
        obtain ⟨g1, o1, rfl, hg1, d1⟩ := HC1.out j1 _ (List.getElem?_eq_getElem hx1)
        obtain ⟨g2, o2, rfl, hg2, d2⟩ := HC2.out j2 _ (List.getElem?_eq_getElem hy1)
        replace d1 : wr.cell? ⟨g1, o1 + j1, none⟩ = some (strV xs[j1]) := (hb.cell (p := ⟨g1, o1 + j1, none⟩) hg1).trans d1
        replace d2 : wr.cell? ⟨g2, o2 + j2, none⟩ = some (strV ys[j2]) := (hb.cell (p := ⟨g2, o2 + j2, none⟩) hg2).trans d2
        clear hxr hyr
        generalize xs[j1] = x at *
        generalize ys[j2] = y at *
        unfold strV at d1 d2
        have hz1 : ((n : Int) - ((k : Int) + 1)) = (j1 : Int) := by omega
        have hz2 : ((m : Int) - ((k : Int) + 1)) = (j2 : Int) := by omega
        have hb1 : j1 < n := by omega
        have hb2 : j2 < m := by omega
        have q1 : decide ((k : Int) + 1 ≤ (n : Int)) = true := decide_eq_true (by omega)
        have q2 : decide ((k : Int) + 1 ≤ (m : Int)) = true := decide_eq_true (by omega)
        have q3 : decide (k + 1 ≤ n) = true := decide_eq_true (by omega)
        have q4 : decide (k + 1 ≤ m) = true := decide_eq_true (by omega)
        clear hx1 hy1 hj1 hj2
        cases hp : Op.bytesLess x y with
        | true =>
          have HR : Hid (DnS.orderS xs ys = -1) := Lib.hid (by rw [HD.out, HS.out, cmp_lt hp]; rfl)
          go_wp2_with fail
          go_quiet (fail)
          go_wp2_with fail
          go_ret
          exact ⟨by rw [HR.out]; rfl, hb.trans ((below_drewN wr nq).mono hb.size)⟩
        | false =>
          cases hq : Op.bytesLess y x with
          | true =>
            have HR : Hid (DnS.orderS xs ys = 1) := Lib.hid (by rw [HD.out, HS.out, cmp_gt hq]; rfl)
            have hne : (x == y) = false := by rw [RuS.eq_iff, cmp_gt hq]; rfl
            go_wp2_with fail
            go_quiet (fail)
            go_wp2_with fail
            go_ret
            exact ⟨by rw [HR.out]; rfl, hb.trans ((below_drewN wr nq).mono hb.size)⟩
          | false =>
            have HR : Hid (DnS.orderS xs ys = DnS.cmpL (xs.reverse.drop (k + 1)) (ys.reverse.drop (k + 1))) := Lib.hid (by rw [HD.out, HS.out, cmp_eq hp hq, if_pos rfl])
            have hne : (x == y) = true := by rw [RuS.eq_iff, cmp_eq hp hq]; rfl
            go_wp2_with fail
            go_quiet (fail)
            go_wp2_with fail
            go_roundw
            case rel => exact ⟨k + 1, by rw [HN.out]; omega, by rw [HM.out]; omega, by go_num, HR.out, hb.trans ((below_drewN wr nq).mono hb.size)⟩
            case measure => simp [intOf]; omega
      · have hkm2 : k = m := by omega
        subst hkm2
        have HR : Hid (DnS.orderS xs ys = 1) := Lib.hid (by rw [HD.out, DnS.cmpL_more (by rw [List.length_reverse, HN.out]; exact hlt) (by rw [List.length_reverse, HM.out]; exact Nat.le_refl _)])
        have q1 : decide ((k : Int) + 1 ≤ (n : Int)) = true := decide_eq_true (by omega)
        have q3 : decide (k + 1 ≤ n) = true := decide_eq_true (by omega)
        go_wp2_with fail
        go_ret
        exact ⟨by rw [HR.out]; rfl, hb⟩
    · have hkn : k = n := by omega
      subst hkn
      by_cases hlt2 : k < m
      · have HR : Hid (DnS.orderS xs ys = -1) := Lib.hid (by rw [HD.out, DnS.cmpL_less (by rw [List.length_reverse, HN.out]; exact Nat.le_refl _) (by rw [List.length_reverse, HM.out]; exact hlt2)])
        go_wp2_with fail
        go_ret
        exact ⟨by rw [HR.out]; rfl, hb⟩
      · have hkm2 : k = m := by omega
        subst hkm2
        have HR : Hid (DnS.orderS xs ys = 0) := Lib.hid (by rw [HD.out, DnS.cmpL_end (by rw [List.length_reverse, HN.out]; exact Nat.le_refl _) (by rw [List.length_reverse, HM.out]; exact Nat.le_refl _)])
        go_wp2_with fail
        go_ret
        exact ⟨by rw [HR.out]; rfl, hb⟩
end Go.Proofs.YtifjghkgmfmneaaGreatDoor
