/- Where an attribute stands in a row of attributes in order. No condition beyond those that each theorem states. The walks of an attribute that is set: slices.BinarySearchFunc, the program's set. Conditions: an entry has at most 1048576 attributes of as many values each. -/
import Derived.Deep.CutBlock
import Derived.Deep.DeepCutAuto
import Derived.Test.YtmnhgbkdahdoiaaGreatDoorMEnM
import Derived.Test.YtmnhgbkdahdoiaaGreatDoorMOks
namespace Go.Proofs.YtmnhgbkdahdoiaaGreatDoor
namespace EnS
open Go.Lib DnS

/-- how many attributes come ahead of a type; is the next one of that type? -/
def lowN (t : List UInt8) : List At → Nat
  | [] => 0
  | a :: r => if Op.bytesLess a.typ t = true then lowN t r + 1 else 0
def hitB (t : List UInt8) : List At → Bool
  | [] => false
  | a :: r => if Op.bytesLess a.typ t = true then hitB t r else decide (a.typ = t)
def endN (t : List UInt8) (xs : List At) : Nat := if hitB t xs = true then lowN t xs + 1 else lowN t xs
theorem low_le (t : List UInt8) : ∀ xs : List At, lowN t xs ≤ xs.length
  | [] => Nat.le_refl _
  | a :: r => by
    unfold lowN
    split
    · have := low_le t r; simp; omega
    · exact Nat.zero_le _
theorem hit_lt {t : List UInt8} : ∀ {xs : List At}, hitB t xs = true → lowN t xs < xs.length
  | [], h => by cases h
  | a :: r, h => by
    unfold hitB at h
    unfold lowN
    split
    · rename_i hl
      rw [if_pos hl] at h
      have := hit_lt h
      simp; omega
    · simp
theorem end_le (t : List UInt8) (xs : List At) : endN t xs ≤ xs.length := by
  unfold endN
  split
  · rename_i h; exact hit_lt h
  · exact low_le t xs
theorem setL_low (t : List UInt8) (vs : List (List UInt8)) : ∀ xs : List At, setL t vs xs = xs.take (lowN t xs) ++ newL t vs ++ xs.drop (endN t xs)
  | [] => by simp [setL, lowN]
  | a :: r => by
    have ih := setL_low t vs r
    unfold setL endN lowN hitB
    by_cases hl : Op.bytesLess a.typ t = true
    · rw [if_pos hl, if_pos hl, if_pos hl, ih]
      unfold endN
      cases hitB t r <;> simp
    · rw [if_neg hl, if_neg hl, if_neg hl]
      by_cases he : a.typ = t
      · simp [he]
      · simp [he]
theorem low_less {t : List UInt8} : ∀ {xs : List At} {m : Nat} (hm : m < xs.length), m < lowN t xs → Op.bytesLess xs[m].typ t = true
  | [], m, hm, _ => by simp at hm
  | a :: r, m, hm, h => by
    unfold lowN at h
    split at h
    · rename_i hl
      cases m with
      | zero => exact hl
      | succ m => exact low_less (xs := r) (m := m) (by simpa using hm) (by omega)
    · omega
theorem low_not {t : List UInt8} : ∀ {xs : List At} (h : lowN t xs < xs.length), Op.bytesLess xs[lowN t xs].typ t = false ∧ hitB t xs = decide (xs[lowN t xs].typ = t)
  | [], h => by simp at h
  | a :: r, h => by
    by_cases hl : Op.bytesLess a.typ t = true
    · have e1 : lowN t (a :: r) = lowN t r + 1 := by rw [lowN, if_pos hl]
      have h2 : lowN t r < r.length := by rw [e1] at h; simpa using h
      have := low_not h2
      simp only [e1, List.getElem_cons_succ]
      rw [hitB, if_pos hl]
      exact this
    · have e1 : lowN t (a :: r) = 0 := by rw [lowN, if_neg hl]
      simp only [e1, List.getElem_cons_zero]
      rw [hitB, if_neg hl]
      exact ⟨by simpa using hl, rfl⟩
theorem hit_no {t : List UInt8} {xs : List At} (h : xs.length ≤ lowN t xs) : hitB t xs = false := by
  cases hh : hitB t xs with
  | false => rfl
  | true => have := hit_lt hh; omega
theorem low_eq {t : List UInt8} {xs : List At} {i : Nat} (hi : i ≤ xs.length) (h1 : ∀ m (hm : m < xs.length), m < i → Op.bytesLess xs[m].typ t = true) (h2 : ∀ m (hm : m < xs.length), i ≤ m → Op.bytesLess xs[m].typ t = false) : lowN t xs = i := by
  have hle := low_le t xs
  rcases Nat.lt_trichotomy (lowN t xs) i with h | h | h
  · have h3 := (low_not (show lowN t xs < xs.length by omega)).1
    rw [h1 _ _ h] at h3; cases h3
  · exact h
  · have h3 := low_less (show i < xs.length by omega) h
    rw [h2 _ _ (Nat.le_refl _)] at h3; cases h3
/-- attributes in order -/
def SortA (xs : List At) : Prop := xs.Pairwise (fun a b => Op.bytesLess a.typ b.typ = true)
theorem sound_all : ∀ {l : List At} {last : List UInt8}, soundA last l = true → ∀ b ∈ l, Op.bytesLess last b.typ = true
  | [], _, _, b, hb => by cases hb
  | a :: r, last, h, b, hb => by
    obtain ⟨h1, h2⟩ := sound_cons h
    have ha := (sound_head h1).2.1
    rcases List.mem_cons.1 hb with rfl | hb
    · exact ha
    · exact RdS.less_trans ha (sound_all h2 b hb)
theorem sound_sort : ∀ {l : List At} {last : List UInt8}, soundA last l = true → SortA l
  | [], _, _ => List.Pairwise.nil
  | a :: r, last, h => by
    obtain ⟨h1, h2⟩ := sound_cons h
    exact List.Pairwise.cons (sound_all h2) (sound_sort h2)
theorem sort_low {t : List UInt8} {xs : List At} (hs : SortA xs) {i j : Nat} (hij : i ≤ j) (hj : j < xs.length) (h : Op.bytesLess xs[j].typ t = true) : Op.bytesLess (xs[i]'(Nat.lt_of_le_of_lt hij hj)).typ t = true := by
  rcases Nat.lt_or_ge i j with hlt | hge
  · exact RdS.less_trans (List.pairwise_iff_getElem.1 hs i j (by omega) hj hlt) h
  · have : i = j := by omega
    subst this; exact h
/-- what the search knows behind a look -/
def LowTo (t : List UInt8) (xs : List At) (i : Nat) : Prop := ∀ m (hm : m < xs.length), m < i → Op.bytesLess xs[m].typ t = true
def HighTo (t : List UInt8) (xs : List At) (j : Nat) : Prop := ∀ m (hm : m < xs.length), j ≤ m → Op.bytesLess xs[m].typ t = false
theorem LowTo.step {t : List UInt8} {xs : List At} (hs : SortA xs) {h : Nat} (hh : h < xs.length) (hl : Op.bytesLess xs[h].typ t = true) : LowTo t xs (h + 1) := fun _ _ hmi => sort_low hs (by omega) hh hl
theorem HighTo.step {t : List UInt8} {xs : List At} (hs : SortA xs) {h : Nat} (hh : h < xs.length) (hl : Op.bytesLess xs[h].typ t = false) : HighTo t xs h := fun m hm hmi => by
  cases hx : Op.bytesLess xs[m].typ t with
  | false => rfl
  | true => rw [sort_low hs hmi hm hx] at hl; cases hl
theorem low_found {t : List UInt8} {xs : List At} {i : Nat} (hi : i ≤ xs.length) (h1 : LowTo t xs i) (h2 : HighTo t xs i) : lowN t xs = i := low_eq hi h1 h2
theorem cmp_less {a b : List UInt8} : decide (compareBytes a b < 0) = Op.bytesLess a b := by
  rw [RuS.less_iff]
  have := RuS.compare_range a b
  by_cases h : compareBytes a b = -1
  · rw [h]; rfl
  · rw [decide_eq_false h]; exact decide_eq_false (by omega)
theorem cmp_zero {a b : List UInt8} : (compareBytes a b == 0) = decide (a = b) := by
  have := RuS.compare_zero a b
  by_cases h : a = b
  · rw [decide_eq_true h, this.2 h]; rfl
  · rw [decide_eq_false h]
    simp only [beq_eq_false_iff_ne, ne_eq]
    exact fun e => h (this.1 e)
/-- an attribute set as the document does it: one by one; has the new one been laid? -/
def refS (t : List UInt8) (vs : List (List UInt8)) : Bool → List At → List At
  | lb, [] => if lb = true then [] else [⟨t, vs⟩]
  | lb, a :: r => (if (!lb && !Op.bytesLess a.typ t) = true then [⟨t, vs⟩] else []) ++ (if a.typ = t then [] else [a]) ++ refS t vs (lb || !Op.bytesLess a.typ t) r
theorem refS_rest {t : List UInt8} {vs : List (List UInt8)} : ∀ {r : List At}, (∀ a ∈ r, a.typ ≠ t) → refS t vs true r = r
  | [], _ => rfl
  | a :: r, h => by
    have h1 := h a (List.mem_cons_self ..)
    have ih := refS_rest (t := t) (vs := vs) (r := r) (fun b hb => h b (List.mem_cons_of_mem _ hb))
    simp [refS, h1, ih]
theorem refS_set {t : List UInt8} {vs : List (List UInt8)} : ∀ {xs : List At}, SortA xs → refS t vs (decide (vs = [])) xs = setL t vs xs
  | [], _ => by cases vs <;> rfl
  | a :: r, h => by
    obtain ⟨h1, h2⟩ := List.pairwise_cons.1 h
    have ih := refS_set (t := t) (vs := vs) h2
    by_cases hl : Op.bytesLess a.typ t = true
    · have hn : a.typ ≠ t := fun e => by rw [e, less_self] at hl; cases hl
      rw [setL, if_pos hl, refS, ← ih]
      simp [hl, hn]
    · have hl' : Op.bytesLess a.typ t = false := by simpa using hl
      have hr : ∀ b ∈ r, b.typ ≠ t := fun b hb e => by
        have := h1 b hb
        rw [e, hl'] at this; cases this
      rw [setL, if_neg hl, refS, hl']
      have h3 : (decide (vs = []) || !false) = true := by simp
      rw [h3, refS_rest hr]
      cases vs with
      | nil => by_cases he : a.typ = t <;> simp [newL, he]
      | cons v vs => by_cases he : a.typ = t <;> simp [newL, he]
/-- a step of it -/
theorem refS_at {t : List UInt8} {vs : List (List UInt8)} {xs : List At} {k : Nat} (hk : k < xs.length) (lb : Bool) : refS t vs lb (xs.drop k) = (if (!lb && !Op.bytesLess xs[k].typ t) = true then [⟨t, vs⟩] else []) ++ (if xs[k].typ = t then [] else [xs[k]]) ++ refS t vs (lb || !Op.bytesLess xs[k].typ t) (xs.drop (k + 1)) := by
  rw [List.drop_eq_getElem_cons hk, refS]
theorem refS_end {t : List UInt8} {vs : List (List UInt8)} {xs : List At} {k : Nat} (hk : xs.length ≤ k) (lb : Bool) : refS t vs lb (xs.drop k) = if lb = true then [] else [⟨t, vs⟩] := by
  rw [List.drop_eq_nil_of_le hk]; rfl
end EnS
end Go.Proofs.YtmnhgbkdahdoiaaGreatDoor
namespace Go.Proofs.YtmnhgbkdahdoiaaGreatDoor
open Go.RowKit

set_option maxRecDepth 100000 in
theorem setcmp_c (ty nm : List UInt8) (a : Option Addr) (n c : Nat) (w : World) : Calls Tryz.prog 48 #[.agg #[.string ⟨ty.toArray⟩, .slice a n c], .string ⟨nm.toArray⟩] w (fun e w' => e = .returned (.int .i64 (Lib.compareBytes ty nm)) ∧ Below w.heap.size w w') := by
  have hbx := grow1 w (.cells #[.string ⟨ty.toArray⟩, .slice a n c] 37)
  have hwx := Whole.made w 37 #[.string ⟨ty.toArray⟩, .slice a n c]
  have q0 := hwx.cell 0
  simp only [List.getElem?_toArray, List.getElem?_cons_zero] at q0
  have hc := fun W => Tryz.strings_Compare ⟨ty.toArray⟩ ⟨nm.toArray⟩ W
  simp only at hc
  generalize Lib.compareBytes ty nm = z at *
  clear hwx
  go_enter Tryz.func48, Tryz.ntmps48
  go_wp2_with fail
  refine (hc _).mono ?_; rintro e w1 ⟨rfl, rfl⟩
  go_wp2_with fail
  go_ret
  exact ⟨rfl, hbx⟩
theorem srch_ret {M j : Nat} {H b : Bool} {w w' : World} (h1 : M = j) (h2 : H = b) (hb : Below w.heap.size w w') : (Ending.returned (.tuple #[.int .i64 j, .bool b]) = .returned (.tuple #[.int .i64 (M : Nat), .bool H])) ∧ Below w.heap.size w w' := by
  subst h1 h2; exact ⟨rfl, hb⟩
def SrchRet (t : List UInt8) (xs : List EnS.At) (w : World) (e : Ending) (w' : World) : Prop := e = .returned (.tuple #[.int .i64 (EnS.lowN t xs : Nat), .bool (EnS.hitB t xs)]) ∧ Below w.heap.size w w'
set_option maxRecDepth 100000 in
set_option maxHeartbeats 2000000 in
theorem bsearch_c (t : List UInt8) (xs : List EnS.At) (u : Value) (w : World) (h : AttrsIn w u xs) (hs : EnS.SortA xs) (hl : xs.length ≤ 1048576) :
    Calls Tryz.prog 47 #[u, .string ⟨t.toArray⟩, .func (.func 48) #[] #[]] w (SrchRet t xs w) := by
  obtain ⟨a, c, rfl, hc, hat⟩ := SliceP.at h
  have HAT := Lib.hid hat
  have HLO := Lib.hid (fun h (hh : h < xs.length) hl => EnS.LowTo.step (t := t) hs (h := h) hh hl)
  have HHI := Lib.hid (fun h (hh : h < xs.length) hl => EnS.HighTo.step (t := t) hs (h := h) hh hl)
  have HFD := Lib.hid (fun i hi h1 h2 => EnS.low_found (t := t) (xs := xs) (i := i) hi h1 h2)
  have HNT := Lib.hid (fun i (he : EnS.lowN t xs = i) (hi : i < xs.length) => show EnS.hitB t xs = decide (xs[i].typ = t) from by subst he; exact (EnS.low_not hi).2)
  have HNO := Lib.hid (fun h => EnS.hit_no (t := t) (xs := xs) h)
  unfold SrchRet
  clear h hat hs
  generalize EnS.hitB t xs = H at *
  generalize EnS.lowN t xs = M at *
  go_enter Tryz.func47, Tryz.ntmps47
  go_wp2_with fail
  go_loopw [9, 10] (fun vi vj wr => ∃ i j : Nat, vi = .int .i64 i ∧ vj = .int .i64 j ∧ i ≤ j ∧ j ≤ xs.length ∧ Hid (EnS.LowTo t xs i) ∧ Hid (EnS.HighTo t xs j) ∧ Below w.heap.size w wr) (fun vi vj _ => (intOf vj).toNat - (intOf vi).toNat)
  case atStart => exact ⟨0, xs.length, rfl, rfl, Nat.zero_le _, Nat.le_refl _, Lib.hid (fun m hm h => absurd h (by omega)), Lib.hid (fun m hm h => absurd hm (by omega)), Below.refl _ _⟩
  case round =>
    obtain ⟨i, j, rfl, rfl, hij, hjn, HA, HB, hb⟩ := hrel
    by_cases hlt : i < j
    · obtain ⟨h, hh⟩ : ∃ h : Nat, ((i : Int) + (j : Int)) / 2 = (h : Int) := ⟨(i + j) / 2, by omega⟩
      have hhi : i ≤ h := by omega
      have hhj : h < j := by omega
      have hhn : h < xs.length := by omega
      obtain ⟨g, o, rfl, hg, _, hra⟩ := HAT.out h hhn
      obtain ⟨c0, a2, p2, c1, hp2, _⟩ := AttrAt.parts (AttrAt.call hra hg trivial hb)
      have HL := Lib.hid (fun hl => HLO.out h hhn hl)
      have HH := Lib.hid (fun hl => HHI.out h hhn hl)
      clear hra HAT HLO HHI HFD HNT HNO
      generalize xs[h] = x at *
      obtain ⟨ty, vals⟩ := x
      simp only at c0 c1 hp2 HL HH
      generalize vals.length = L at *
      have hcm := setcmp_c ty t a2 L p2 wr
      have hx := EnS.cmp_less (a := ty) (b := t)
      generalize Lib.compareBytes ty t = z at *
      have jh : (h : Int) < (xs.length : Int) := by omega
      have jh0 : (0 : Int) ≤ (h : Int) := by omega
      have hz : (i : Int) < (j : Int) := by omega
      go_wp2_with fail
      refine hcm.mono ?_; rintro e w1 ⟨rfl, hb1⟩
      have hz1 := hb.trans (hb1.mono hb.size)
      cases hzz : decide (z < 0) with
      | true =>
        have HL2 := Lib.hid (HL.out (hx.symm.trans hzz))
        clear HL HH hx
        go_wp2_with fail
        go_roundw
        case rel => exact ⟨h + 1, j, by go_num, rfl, by omega, hjn, HL2, HB, hz1⟩
        case measure => simp [intOf]; omega
      | false =>
        have HH2 := Lib.hid (HH.out (hx.symm.trans hzz))
        clear HL HH hx
        go_wp2_with fail
        go_roundw
        case rel => exact ⟨i, h, rfl, rfl, hhi, by omega, HA, HH2, hz1⟩
        case measure => simp [intOf]; omega
    · have hji : j = i := by omega
      subst hji
      have HM := Lib.hid (HFD.out j hjn HA.out HB.out)
      clear HFD HLO HHI HA HB
      have hz : ¬ (j : Int) < (j : Int) := by omega
      by_cases hjl : j < xs.length
      · obtain ⟨g, o, rfl, hg, _, hra⟩ := HAT.out j hjl
        obtain ⟨c0, a2, p2, c1, hp2, _⟩ := AttrAt.parts (AttrAt.call hra hg trivial hb)
        have hHt := HNT.out j HM.out hjl
        clear hra HAT HNT HNO
        generalize xs[j] = x at *
        obtain ⟨ty, vals⟩ := x
        simp only at c0 c1 hp2 hHt
        generalize vals.length = L at *
        have hcm := setcmp_c ty t a2 L p2 wr
        have hx := EnS.cmp_zero (a := ty) (b := t)
        rw [← hHt] at hx
        generalize Lib.compareBytes ty t = z at *
        have jh : (j : Int) < (xs.length : Int) := by omega
        have jh0 : (0 : Int) ≤ (j : Int) := by omega
        clear hHt
        go_wp2_with fail
        refine hcm.mono ?_; rintro e w1 ⟨rfl, hb1⟩
        have hz1 := hb.trans (hb1.mono hb.size)
        go_wp2_with fail
        go_ret2
        exact srch_ret HM.out rfl hz1
      · have hHt := HNO.out (by rw [HM.out]; omega)
        have jh : ¬ (j : Int) < (xs.length : Int) := by omega
        clear HAT HNT HNO
        go_wp2_with fail
        go_ret2
        exact srch_ret HM.out rfl hb
end Go.Proofs.YtmnhgbkdahdoiaaGreatDoor
