/- The walks of the program's 'Print' and of the document's 'PrintName' of a name, and of the law's helper 'same'. Conditions: those that each theorem states; the library's variables are laid. -/
import Derived.Test.YtadhkemdndcjlaaGreatDoorDnP
import Derived.BigQuiet
namespace Go.Proofs.YtadhkemdndcjlaaGreatDoor
open Go.RowKit

def PrN (ls : List (List RdS.Pr)) (w : World) (e : Ending) (w' : World) : Prop := e = .returned (.tuple #[.string ⟨(DnS.printN ls).1.toArray⟩, .int .i64 (DnS.printN ls).2]) ∧ Below w.heap.size w w'
theorem PrN.mk' {ls : List (List RdS.Pr)} {q : List UInt8 × Int} {w w' : World} (h : DnS.printN ls = q) (hb : Below w.heap.size w w') : PrN ls w (.returned (.tuple #[.string ⟨q.1.toArray⟩, .int .i64 q.2])) w' := by subst h; exact ⟨rfl, hb⟩
def PrnLoop (ls : List (List RdS.Pr)) (w0 : World) (out i : Value) (wr : World) : Prop :=
  ∃ k : Nat, k ≤ ls.length ∧ i = .int .i64 k ∧ Hid ((ls.take k).all RdS.formedS = true) ∧ Own wr w0.heap.size out ((ls.take k).map DnS.ptext) ∧ Below w0.heap.size w0 wr

set_option maxRecDepth 100000 in
set_option maxHeartbeats 4000000 in
theorem dnprint_c (v : Value) (ls : List (List RdS.Pr)) (w : World) (h : AvssIn w v ls) (hf : ∀ q ∈ ls, PairsFit q) (hE : Env w) (hl : ls.length ≤ 1000000) : Calls Tryz.prog 27 #[.agg #[v]] w (PrN ls w) := by
  obtain ⟨a, c, rfl, hc, hcase⟩ := h.at
  by_cases hn12 : 12 < ls.length
  · have HR := Lib.hid (DnS.printN_many hn12)
    have hz : (12 : Int) < (ls.length : Int) := by omega
    generalize ls.length = n at *
    clear hn12 hcase h
    go_enter Tryz.func27, Tryz.ntmps27
    go_wp2_with fail
    go_ret2
    exact PrN.mk' HR.out (grow1 w _)
  have HC : Hid (∀ k (h : k < ls.length), ∃ g o, a = some ⟨g, o, none⟩ ∧ g < w.heap.size ∧ ∃ u, w.cell? ⟨g, o + k, none⟩ = some u ∧ AvasIn w u ls[k]) := Lib.hid (fun k hk => by
    rcases hcase with rfl | ⟨g, o, rfl, hg, hcell⟩
    · simp at hk
    · exact ⟨g, o, rfl, hg, hcell k _ (List.getElem?_eq_getElem hk)⟩)
  have HPF := Lib.hid (fun k (h : k < ls.length) => hf ls[k] (List.getElem_mem h))
  have HNO := Lib.hid (fun k (h : k < ls.length) hb => DnS.printN_no h hb)
  have HYES := Lib.hid (DnS.printN_yes hn12)
  have hz : decide ((12 : Int) < (ls.length : Int)) = false := decide_eq_false (by omega)
  have hn : ls.length ≤ 12 := by omega
  clear hcase h hf hn12
  generalize hln : ls.length = n at hz hn hc hl ⊢
  have HN := Lib.hid hln
  clear hln
  go_enter Tryz.func27, Tryz.ntmps27
  go_wp2_with fail
  go_loopw [4, 16] (fun out i wr => PrnLoop ls w out i wr) (fun _ i _ => n - (intOf i).toNat)
  case atStart => exact ⟨0, Nat.zero_le _, rfl, Lib.hid rfl, Own.empty _ _, grow1 w _⟩
  case round =>
    obtain ⟨k, hk, rfl, HF, hown, hb⟩ := hrel
    rw [HN.out] at hk
    have hsz := hb.size
    have hEr := hE.below hb
    have HOWN := Lib.hid hown
    clear hown
    by_cases hlt : k < n
    · have hlt2 : k < ls.length := by rw [HN.out]; exact hlt
      obtain ⟨g, o, rfl, hg, u, hcx, hav⟩ := HC.out k hlt2
      replace hcx : wr.cell? ⟨g, o + k, none⟩ = some u := (hb.cell (p := ⟨g, o + k, none⟩) hg).trans hcx
      replace hav : AvasIn wr u ls[k] := hav.call hb (Nat.le_refl _)
      have HST := Lib.hid (fun h => DnS.all_step hlt2 HF.out h)
      have HMT : Hid ((ls.take (k + 1)).map DnS.ptext = (ls.take k).map DnS.ptext ++ [DnS.ptext ls[k]]) := Lib.hid (by rw [List.take_succ_eq_append_getElem hlt2, List.map_append, List.map_singleton])
      have hpf := HPF.out k hlt2
      have HNK := Lib.hid (HNO.out k hlt2)
      generalize ls[k] = q at *
      obtain ⟨a1, n1, c1, rfl⟩ : ∃ a1 n1 c1, u = .slice a1 n1 c1 := by
        obtain ⟨a1, c1, e, _⟩ := hav
        exact ⟨a1, _, c1, e⟩
      have hpr := rdprint_c _ q wr hav hpf hEr
      unfold PrintRet at hpr
      clear hlt2 hav hpf
      cases hq : RdS.formedS q with
      | false =>
        have HR := Lib.hid (HNK.out hq)
        rw [DnS.printS_no hq] at hpr
        simp only at hpr
        clear HST HMT HNK hq
        go_wp2_with fail
        refine hpr.mono ?_; rintro e w1 ⟨rfl, hb1⟩
        go_wp2_with fail
        go_ret2
        exact PrN.mk' HR.out (hb.trans (hb1.mono hsz))
      | true =>
        rw [DnS.printS_yes hq] at hpr
        simp only at hpr
        have HF2 := Lib.hid (HST.out hq)
        generalize DnS.ptext q = t at *
        clear HST HNK hq
        go_wp2_with fail
        refine hpr.mono ?_; rintro e w1 ⟨rfl, hb1⟩
        have hsz1 := hb1.size
        go_wp2_with (at_builtin; refine push_str (by rfl) _ _ (by rfl) w.heap.size _ ((ls.take k).map DnS.ptext) (by rfl) ((HOWN.out.call hb1).alloc _) w1.heap.size (by rfl) t ?e1 ?e3 ?e4 ?_)
        case e1 => simp [go_sem, strV]
        case e3 => rw [List.length_map, List.length_take]; omega
        case e4 => simp; omega
        intro v' w4 hown4 hb4
        have HOWN4 := Lib.hid hown4
        clear hown4
        go_wp2_with fail
        go_roundw
        case rel => exact ⟨k + 1, by rw [HN.out]; omega, by go_num, HF2, by rw [HMT.out, List.map_take]; exact HOWN4.out, ((hb.trans (hb1.mono hsz)).alloc (by omega) _).trans hb4⟩
        case measure => simp [intOf]; omega
    · have hkn : k = n := by omega
      subst hkn
      have hall : ls.take k = ls := List.take_of_length_le (by rw [HN.out]; omega)
      have hown := HOWN.out
      have hF := HF.out
      rw [hall] at hown hF
      have HR := Lib.hid (HYES.out hF)
      have hfit := fit_c _ _ wr hown.strs (by rw [List.length_map, HN.out]; omega) (by have := DnS.join_len _ (DnS.ptexts_small hF); rw [List.length_map, HN.out] at this; omega)
      generalize DnS.fitS (ls.map DnS.ptext) = F at *
      obtain ⟨s, e0⟩ := F
      simp only at hfit
      clear hall hown hF HYES HNO
      go_wp2_with fail
      refine hfit.mono ?_; rintro e w1 ⟨rfl, hb1⟩
      go_wp2_with fail
      go_ret2
      exact PrN.mk' HR.out (hb.trans (hb1.mono hsz))

def RPrnLoop (ls : List (List RdS.Pr)) (w : World) (s i : Value) (wr : World) : Prop :=
  ∃ k : Nat, k ≤ ls.length ∧ i = .int .i64 k ∧ Hid ((ls.take k).all RdS.formedS = true) ∧ s = .string ⟨(DnS.joinS ((ls.take k).map DnS.ptext)).toArray⟩ ∧ Below w.heap.size w wr
set_option maxRecDepth 100000 in
set_option maxHeartbeats 4000000 in
theorem rnprintname_c (v : Value) (ls : List (List RdS.Pr)) (w : World) (h : AvssIn w v ls) (hf : ∀ q ∈ ls, PairsFit q) (hE : Env w) (hl : ls.length ≤ 1000000) : Calls Tryz.prog 28 #[v] w (PrN ls w) := by
  obtain ⟨a, c, rfl, hc, hcase⟩ := h.at
  by_cases hn12 : 12 < ls.length
  · have HR := Lib.hid (DnS.printN_many hn12)
    have hz : (12 : Int) < (ls.length : Int) := by omega
    generalize ls.length = n at *
    clear hn12 hcase h
    go_enter Tryz.func28, Tryz.ntmps28
    go_wp2_with fail
    go_ret2
    exact PrN.mk' HR.out (Below.refl _ _)
  have HC : Hid (∀ k (h : k < ls.length), ∃ g o, a = some ⟨g, o, none⟩ ∧ g < w.heap.size ∧ ∃ u, w.cell? ⟨g, o + k, none⟩ = some u ∧ AvasIn w u ls[k]) := Lib.hid (fun k hk => by
    rcases hcase with rfl | ⟨g, o, rfl, hg, hcell⟩
    · simp at hk
    · exact ⟨g, o, rfl, hg, hcell k _ (List.getElem?_eq_getElem hk)⟩)
  have HPF := Lib.hid (fun k (h : k < ls.length) => hf ls[k] (List.getElem_mem h))
  have HNO := Lib.hid (fun k (h : k < ls.length) hb => DnS.printN_no h hb)
  have HYES := Lib.hid (DnS.printN_yes hn12)
  have hz : decide ((12 : Int) < (ls.length : Int)) = false := decide_eq_false (by omega)
  have hn : ls.length ≤ 12 := by omega
  clear hcase h hf hn12
  generalize hln : ls.length = n at hz hn hc hl ⊢
  have HN := Lib.hid hln
  clear hln
  go_enter Tryz.func28, Tryz.ntmps28
  go_wp2_with fail
  go_loopw [4, 13] (fun s i wr => RPrnLoop ls w s i wr) (fun _ i _ => n - (intOf i).toNat)
  case atStart => exact ⟨0, Nat.zero_le _, rfl, Lib.hid rfl, by simp [DnS.joinS, Lib.join, List.intercalate], Below.refl _ _⟩
  case round =>
    obtain ⟨k, hk, rfl, HF, rfl, hb⟩ := hrel
    rw [HN.out] at hk
    have hsz := hb.size
    have hEr := hE.below hb
    have hjl : (DnS.joinS ((ls.take k).map DnS.ptext)).length ≤ 40000 := by
      have := DnS.join_len _ (DnS.ptexts_small HF.out)
      rw [List.length_map, List.length_take] at this
      omega
    by_cases hlt : k < n
    · have hlt2 : k < ls.length := by rw [HN.out]; exact hlt
      obtain ⟨g, o, rfl, hg, u, hcx, hav⟩ := HC.out k hlt2
      replace hcx : wr.cell? ⟨g, o + k, none⟩ = some u := (hb.cell (p := ⟨g, o + k, none⟩) hg).trans hcx
      replace hav : AvasIn wr u ls[k] := hav.call hb (Nat.le_refl _)
      have HST := Lib.hid (fun h => DnS.all_step hlt2 HF.out h)
      have HJ2 : Hid (DnS.joinS ((ls.take (k + 1)).map DnS.ptext) = if k = 0 then DnS.ptext ls[k] else DnS.joinS ((ls.take k).map DnS.ptext) ++ [44] ++ DnS.ptext ls[k]) := Lib.hid (by
        have := DnS.join_take (ts := ls.map DnS.ptext) (k := k) (by rw [List.length_map]; exact hlt2)
        rw [← List.map_take, ← List.map_take, List.getElem_map] at this
        exact this)
      have HACC : Hid (k = 0 → DnS.joinS ((ls.take k).map DnS.ptext) = []) := Lib.hid (fun h => by subst h; simp [DnS.joinS, Lib.join, List.intercalate])
      have hpf := HPF.out k hlt2
      have HNK := Lib.hid (HNO.out k hlt2)
      generalize ls[k] = q at *
      obtain ⟨a1, n1, c1, rfl⟩ : ∃ a1 n1 c1, u = .slice a1 n1 c1 := by
        obtain ⟨a1, c1, e, _⟩ := hav
        exact ⟨a1, _, c1, e⟩
      have hpr := refprint_c _ q wr hav hpf hEr
      unfold PrintRet at hpr
      clear hlt2 hav hpf
      generalize DnS.joinS ((ls.take k).map DnS.ptext) = acc at *
      cases hq : RdS.formedS q with
      | false =>
        have HR := Lib.hid (HNK.out hq)
        rw [DnS.printS_no hq] at hpr
        simp only at hpr
        clear HST HNK hq
        go_wp2_with fail
        refine hpr.mono ?_; rintro e w1 ⟨rfl, hb1⟩
        go_wp2_with fail
        go_ret2
        exact PrN.mk' HR.out (hb.trans (hb1.mono hsz))
      | true =>
        rw [DnS.printS_yes hq] at hpr
        simp only at hpr
        have HF2 := Lib.hid (HST.out hq)
        have hpl := DnS.ptext_small hq
        generalize DnS.ptext q = p at *
        clear HST HNK hq
        by_cases hk0 : k = 0
        · have hkz : decide ((0 : Int) < (k : Int)) = false := decide_eq_false (by omega)
          have hkz2 : decide (0 < k) = false := decide_eq_false (by omega)
          have HJ3 : Hid (DnS.joinS ((ls.take (k + 1)).map DnS.ptext) = acc ++ p) := Lib.hid (by
            rw [HJ2.out, if_pos hk0, HACC.out hk0]; rfl)
          have ha := cat_lit acc p (by omega) (by omega)
          clear hk0
          go_wp2_with fail
          refine hpr.mono ?_; rintro e w1 ⟨rfl, hb1⟩
          go_wp2_with fail
          go_roundw
          case rel => exact ⟨k + 1, by rw [HN.out]; omega, by go_num, HF2, by rw [HJ3.out], hb.trans (hb1.mono hsz)⟩
          case measure => simp [intOf]; omega
        · have hkz : (0 : Int) < (k : Int) := by omega
          have hkz2 : 0 < k := by omega
          have HJ3 : Hid (DnS.joinS ((ls.take (k + 1)).map DnS.ptext) = acc ++ [44] ++ p) := Lib.hid (by
            rw [HJ2.out, if_neg hk0])
          have ha := cat_lit acc [44] (by omega) (by decide)
          have hy1l : (acc ++ [44]).length ≤ 2000000 := by rw [List.length_append, List.length_singleton]; omega
          have hap := mk_app acc [44]
          obtain ⟨y1, hy1⟩ : ∃ y1, y1 = acc ++ [44] := ⟨_, rfl⟩
          rw [← hy1] at ha hy1l HJ3 hap
          have ha2 := cat_lit y1 p hy1l (by omega)
          clear hk0 hy1
          go_wp2_with fail
          refine hpr.mono ?_; rintro e w1 ⟨rfl, hb1⟩
          go_wp2_with fail
          go_roundw
          case rel => exact ⟨k + 1, by rw [HN.out]; omega, by go_num, HF2, by rw [HJ3.out], hb.trans (hb1.mono hsz)⟩
          case measure => simp [intOf]; omega
    · have hkn : k = n := by omega
      subst hkn
      have hall : ls.take k = ls := List.take_of_length_le (by rw [HN.out]; omega)
      have hF := HF.out
      rw [hall] at hF hjl ⊢
      have HR := Lib.hid (HYES.out hF)
      have HF1 : Hid (1000 < (DnS.joinS (ls.map DnS.ptext)).length → DnS.fitS (ls.map DnS.ptext) = ([], 4)) := Lib.hid (fun h => by unfold DnS.fitS; rw [if_pos (.inr h)])
      have HF2 : Hid (¬ 1000 < (DnS.joinS (ls.map DnS.ptext)).length → DnS.fitS (ls.map DnS.ptext) = (DnS.joinS (ls.map DnS.ptext), 0)) := Lib.hid (fun h => DnS.fit_in (by rw [List.length_map, HN.out]; omega) (by omega))
      generalize DnS.joinS (ls.map DnS.ptext) = J at *
      clear hall hF HYES HNO
      by_cases h1000 : 1000 < J.length
      · have hz2 : (1000 : Int) < (J.length : Int) := by omega
        have HR2 := Lib.hid (HR.out.trans (HF1.out h1000))
        clear HF1 HF2 HR
        go_wp2_with fail
        go_ret2
        exact PrN.mk' HR2.out hb
      · have hz2 : decide ((1000 : Int) < (J.length : Int)) = false := decide_eq_false (by omega)
        have HR2 := Lib.hid (HR.out.trans (HF2.out h1000))
        clear HF1 HF2 HR
        go_wp2_with fail
        go_ret2
        exact PrN.mk' HR2.out hb

def SameNRet (ls ms : List (List RdS.Pr)) (w : World) (e : Ending) (w' : World) : Prop := e = .returned (.bool (decide (ls = ms))) ∧ Below w.heap.size w w'
def SameNLoop (ls ms : List (List RdS.Pr)) (w : World) (i : Value) (wr : World) : Prop := ∃ k : Nat, k ≤ ls.length ∧ i = .int .i64 k ∧ Hid (ls.take k = ms.take k) ∧ Below w.heap.size w wr
def SameNLoop2 (xs ys : List RdS.Pr) (w : World) (i : Value) (wr : World) : Prop := ∃ k : Nat, k ≤ xs.length ∧ i = .int .i64 k ∧ Hid (xs.take k = ys.take k) ∧ Below w.heap.size w wr
theorem take_same {α : Type} {xs ys : List α} {k : Nat} (hx : k < xs.length) (hy : k < ys.length) (h : xs.take k = ys.take k) (he : xs[k] = ys[k]) : xs.take (k + 1) = ys.take (k + 1) := by
  rw [List.take_succ_eq_append_getElem hx, List.take_succ_eq_append_getElem hy, h, he]
/-- the cell of a slice's header, elsewhere than what is there already -/
theorem AvasIn.cells {w : World} {v : Value} {xs : List RdS.Pr} (h : AvasIn w v xs) : ∃ a c, v = .slice a xs.length c ∧ xs.length ≤ c ∧ ∀ k (h : k < xs.length), ∃ g o, a = some ⟨g, o, none⟩ ∧ g < w.heap.size ∧ w.cell? ⟨g, o + k * 2, none⟩ = some (strV xs[k].1) ∧ w.cell? ⟨g, o + k * 2 + 1, none⟩ = some (strV xs[k].2) := by
  obtain ⟨a, c, rfl, hc, hcase⟩ := h
  refine ⟨a, c, rfl, hc, fun k hk => ?_⟩
  rcases hcase with rfl | ⟨g, o, rfl, hg, hcell⟩
  · simp at hk
  · have := hcell k _ (List.getElem?_eq_getElem hk)
    exact ⟨g, o, rfl, hg, this.1, this.2⟩
theorem AvssIn.cells {w : World} {v : Value} {ls : List (List RdS.Pr)} (h : AvssIn w v ls) : ∃ a c, v = .slice a ls.length c ∧ ls.length ≤ c ∧ ∀ k (h : k < ls.length), ∃ g o, a = some ⟨g, o, none⟩ ∧ g < w.heap.size ∧ ∃ u, w.cell? ⟨g, o + k, none⟩ = some u ∧ AvasIn w u ls[k] := by
  obtain ⟨a, c, rfl, hc, hcase⟩ := h.at
  refine ⟨a, c, rfl, hc, fun k hk => ?_⟩
  rcases hcase with rfl | ⟨g, o, rfl, hg, hcell⟩
  · simp at hk
  · exact ⟨g, o, rfl, hg, hcell k _ (List.getElem?_eq_getElem hk)⟩

set_option maxRecDepth 100000 in
set_option maxHeartbeats 8000000 in
theorem same06_c (v1 v2 : Value) (ls ms : List (List RdS.Pr)) (w : World) (h1 : AvssIn w v1 ls) (h2 : AvssIn w v2 ms) (hl : ls.length ≤ 1000000) (hl2 : ms.length ≤ 1000000)
    (hx : ∀ q ∈ ls, q.length ≤ 1000000) (hy : ∀ q ∈ ms, q.length ≤ 1000000) : Calls Tryz.prog 30 #[.agg #[v1], v2] w (SameNRet ls ms w) := by
  obtain ⟨a1, c1, rfl, hc1, hcell1⟩ := h1.cells
  obtain ⟨a2, c2, rfl, hc2, hcell2⟩ := h2.cells
  have hwh := Whole.made w 26 #[.slice a1 ls.length c1]
  have hbw : Below w.heap.size w (w.alloc (.cells #[.slice a1 ls.length c1] 26)) := grow1 w _
  by_cases hlen : ls.length = ms.length
  · have he : ((ls.length : Int) != (ms.length : Int)) = false := by simp [hlen]
    have HC1 := Lib.hid hcell1
    have HC2 := Lib.hid hcell2
    have HX := Lib.hid (fun k (h : k < ls.length) => hx ls[k] (List.getElem_mem h))
    have HY := Lib.hid (fun k (h : k < ms.length) => hy ms[k] (List.getElem_mem h))
    have HLE := Lib.hid hlen
    rw [← hlen] at hc2 hl2 ⊢
    clear hcell1 hcell2 hlen he h1 h2 hx hy
    generalize hn : ls.length = n at hwh hbw hc1 hc2 hl hl2 ⊢
    have HN := Lib.hid hn
    clear hn
    go_enter Tryz.func30, Tryz.ntmps30
    go_wp2_with fail
    go_loopw [15] (fun i wr => SameNLoop ls ms w i wr ∧ Whole wr w.heap.size 26 #[.slice a1 n c1]) (fun i _ => n - (intOf i).toNat)
    case atStart => exact ⟨⟨0, Nat.zero_le _, rfl, Lib.hid rfl, hbw⟩, hwh⟩
    case round =>
      obtain ⟨⟨k, hk, rfl, HT, hb⟩, hwr⟩ := hrel
      rw [HN.out] at hk
      have hsz := hb.size
      have hwc : wr.cell? ⟨w.heap.size, 0, none⟩ = some (.slice a1 n c1) := hwr.cell 0
      by_cases hlt : k < n
      · have hx : k < ls.length := by rw [HN.out]; exact hlt
        have hy : k < ms.length := by rw [← HLE.out, HN.out]; exact hlt
        obtain ⟨g1, o1, rfl, hg1, u1, e1, hav1⟩ := HC1.out k hx
        obtain ⟨g2, o2, rfl, hg2, u2, e2, hav2⟩ := HC2.out k hy
        replace e1 : wr.cell? ⟨g1, o1 + k, none⟩ = some u1 := (hb.cell (p := ⟨g1, o1 + k, none⟩) hg1).trans e1
        replace e2 : wr.cell? ⟨g2, o2 + k, none⟩ = some u2 := (hb.cell (p := ⟨g2, o2 + k, none⟩) hg2).trans e2
        have HTS := Lib.hid (take_same hx hy HT.out)
        have HNE : Hid (¬ ls[k] = ms[k] → ¬ ls = ms) := Lib.hid (fun h e => h (by subst e; rfl))
        have hxl := HX.out k hx
        have hyl := HY.out k hy
        generalize ls[k] = xs at *
        generalize ms[k] = ys at *
        obtain ⟨b1, d1, rfl, hd1, hat1⟩ := hav1.cells
        obtain ⟨b2, d2, rfl, hd2, hat2⟩ := hav2.cells
        clear hx hy hav1 hav2
        by_cases hll : xs.length = ys.length
        · have hle : ((xs.length : Int) != (ys.length : Int)) = false := by simp [hll]
          have HA1 := Lib.hid hat1
          have HA2 := Lib.hid hat2
          have HLL := Lib.hid hll
          rw [← hll] at hd2 hyl hle e2
          clear hat1 hat2 hll
          generalize hm : xs.length = m at hxl hd1 hd2 hyl hle e1 e2
          have HM := Lib.hid hm
          clear hm
          go_wp2_with fail
          go_quiet (fail)
          go_wp2_with fail
          generalize wr = wz at *
          go_loopw [35] (fun i wr2 => SameNLoop2 xs ys wz i wr2) (fun i _ => m - (intOf i).toNat)
          case atStart => exact ⟨0, Nat.zero_le _, rfl, Lib.hid rfl, below_drewN wz nq⟩
          case round =>
            obtain ⟨j, hj, rfl, HT2, hb2⟩ := hrel
            rw [HM.out] at hj
            have hg1r : g1 < wz.heap.size := Nat.lt_of_lt_of_le hg1 hsz
            have hg2r : g2 < wz.heap.size := Nat.lt_of_lt_of_le hg2 hsz
            have hwlt : w.heap.size < wz.heap.size := hwr.lt
            have f0 : ∀ wx, Below wz.heap.size wz wx → wx.cell? ⟨w.heap.size, 0, none⟩ = some (.slice (some ⟨g1, o1, none⟩) n c1) := fun wx h => (h.cell (p := ⟨w.heap.size, 0, none⟩) hwlt).trans hwc
            have f1 : ∀ wx, Below wz.heap.size wz wx → wx.cell? ⟨g1, o1 + k, none⟩ = some (.slice b1 m d1) := fun wx h => (h.cell (p := ⟨g1, o1 + k, none⟩) hg1r).trans e1
            have f2 : ∀ wx, Below wz.heap.size wz wx → wx.cell? ⟨g2, o2 + k, none⟩ = some (.slice b2 m d2) := fun wx h => (h.cell (p := ⟨g2, o2 + k, none⟩) hg2r).trans e2
            have k0 := f0 _ hb2
            have k1 := f1 _ hb2
            have k2 := f2 _ hb2
            clear f0 f1 f2
            by_cases hjlt : j < m
            · have hx2 : j < xs.length := by rw [HM.out]; exact hjlt
              have hy2 : j < ys.length := by rw [← HLL.out, HM.out]; exact hjlt
              obtain ⟨p1, q1, rfl, hp1, s1, t1⟩ := HA1.out j hx2
              obtain ⟨p2, q2, rfl, hp2, s2, t2⟩ := HA2.out j hy2
              have hb3 : Below w.heap.size w wr := hb.trans (hb2.mono hsz)
              have HTS2 := Lib.hid (take_same hx2 hy2 HT2.out)
              have HNE2 : Hid (¬ xs[j] = ys[j] → ¬ ls = ms) := Lib.hid (fun h => HNE.out (fun e => h (by subst e; rfl)))
              generalize xs[j] = x at *
              generalize ys[j] = y at *
              obtain ⟨tx, ux⟩ := x
              obtain ⟨ty, uy⟩ := y
              simp only at s1 t1 s2 t2
              replace s1 : wr.cell? ⟨p1, q1 + j * 2, none⟩ = some (strV tx) := (hb3.cell (p := ⟨p1, q1 + j * 2, none⟩) hp1).trans s1
              replace t1 : wr.cell? ⟨p1, q1 + j * 2 + 1, none⟩ = some (strV ux) := (hb3.cell (p := ⟨p1, q1 + j * 2 + 1, none⟩) hp1).trans t1
              replace s2 : wr.cell? ⟨p2, q2 + j * 2, none⟩ = some (strV ty) := (hb3.cell (p := ⟨p2, q2 + j * 2, none⟩) hp2).trans s2
              replace t2 : wr.cell? ⟨p2, q2 + j * 2 + 1, none⟩ = some (strV uy) := (hb3.cell (p := ⟨p2, q2 + j * 2 + 1, none⟩) hp2).trans t2
              unfold strV at s1 t1 s2 t2
              clear hx2 hy2
              have hgd : ∀ x y w, (eqGuard .neq 31 x y (.agg #[.string ⟨tx.toArray⟩, .string ⟨ux.toArray⟩]) (.agg #[.string ⟨ty.toArray⟩, .string ⟨uy.toArray⟩])).run Tryz.prog w = .ok () w := fun x y w => run_eqGuard_agg w .neq _ x y _ _ (by kernel_rfl)
              have hne : ∀ w, (binOp .neq 31 (.agg #[.string ⟨tx.toArray⟩, .string ⟨ux.toArray⟩]) (.agg #[.string ⟨ty.toArray⟩, .string ⟨uy.toArray⟩])).run Tryz.prog w = .ok (.bool (!(tx == ty && ux == uy))) w := fun w => by
                rw [run_neq_struct, equal_pair 31 (by kernel_rfl) (by kernel_rfl) (by kernel_rfl)]; rfl
              cases hq : (tx == ty && ux == uy) with
              | true =>
                rw [hq] at hne
                rw [Bool.and_eq_true, beq_iff_eq, beq_iff_eq] at hq
                obtain ⟨rfl, rfl⟩ := hq
                have HTS3 := Lib.hid (HTS2.out rfl)
                go_wp2_with fail
                go_quiet (fail)
                go_wp2_with fail
                go_roundw
                case rel => exact ⟨j + 1, by rw [HM.out]; omega, by go_num, HTS3, hb2.trans ((below_drewN wr nq).mono hb2.size)⟩
                case measure => simp [intOf]; omega
              | false =>
                rw [hq] at hne
                have HF : Hid (¬ ls = ms) := Lib.hid (HNE2.out (fun h => by
                  rw [Prod.mk.injEq] at h
                  rw [h.1, h.2] at hq
                  simp at hq))
                clear hq
                go_wp2_with fail
                go_quiet (fail)
                go_wp2_with fail
                go_ret
                exact ⟨by rw [decide_eq_false HF.out]; rfl, hb3.trans ((below_drewN wr nq).mono hb3.size)⟩
            · have hjm : j = m := by omega
              subst hjm
              have HTN : Hid (ls.take (k + 1) = ms.take (k + 1)) := Lib.hid (HTS.out (by
                have htk := HT2.out
                rw [List.take_of_length_le (by rw [HM.out]; omega), List.take_of_length_le (by rw [← HLL.out, HM.out]; omega)] at htk; exact htk))
              have hwr2 := hwr.call hb2
              go_wp2_with fail
              go_roundw
              case rel => exact ⟨⟨k + 1, by rw [HN.out]; omega, by go_num, HTN, hb.trans (hb2.mono hsz)⟩, hwr2⟩
              case measure => simp [intOf]; omega
        · have hle : ((xs.length : Int) != (ys.length : Int)) = true := by simp; omega
          have HF : Hid (¬ ls = ms) := Lib.hid (HNE.out (fun h => hll (by rw [h])))
          clear hll hat1 hat2
          go_wp2_with fail
          go_quiet (fail)
          go_wp2_with fail
          go_ret
          exact ⟨by rw [decide_eq_false HF.out]; rfl, hb.trans ((below_drewN wr nq).mono hb.size)⟩
      · have hkn : k = n := by omega
        subst hkn
        have HEQ : Hid (ls = ms) := Lib.hid (by
          have htk := HT.out
          rw [List.take_of_length_le (by rw [HN.out]; omega), List.take_of_length_le (by rw [← HLE.out, HN.out]; omega)] at htk; exact htk)
        go_wp2_with fail
        go_ret
        exact ⟨by rw [decide_eq_true HEQ.out]; rfl, hb⟩
  · have he : ((ls.length : Int) != (ms.length : Int)) = true := by simp; omega
    have HNE : Hid (¬ ls = ms) := Lib.hid (fun h => hlen (by rw [h]))
    clear hlen hcell1 hcell2 h1 h2
    go_enter Tryz.func30, Tryz.ntmps30
    go_wp2_with fail
    go_ret
    exact ⟨by rw [decide_eq_false HNE.out]; rfl, hbw⟩
end Go.Proofs.YtadhkemdndcjlaaGreatDoor
