/- The walk of the document's Print of a part. Conditions: those that each theorem states; the library's variables are laid. -/
import Derived.Test.YtifjghkgmfmneaaGreatDoorRdo
import Derived.Test.YtifjghkgmfmneaaGreatDoorRdk
namespace Go.Proofs.YtifjghkgmfmneaaGreatDoor
open Go.RowKit
attribute [local go_sem ↓] Go.wp_at_zero Go.wp_at_succ

def RPrLoop (xs : List RdS.Pr) (w1 : World) (s i : Value) (wr : World) : Prop := ∃ k : Nat, k ≤ xs.length ∧ i = .int .i64 k ∧ s = .string ⟨(RdS.textTo xs k).toArray⟩ ∧ Below w1.heap.size w1 wr

set_option maxRecDepth 100000 in
set_option maxHeartbeats 4000000 in
theorem refprint_c (v : Value) (xs : List RdS.Pr) (w : World) (h : AvasIn w v xs) (hf : PairsFit xs) (hE : Env w) : Calls Tryz.prog 174 #[v] w (PrintRet xs w) := by
  have hfm := refformed_any v xs w h hf hE
  unfold FmRet at hfm
  cases hfd : RdS.formedS xs with
  | false =>
    rw [hfd] at hfm
    have HFD := Lib.hid hfd
    clear h hf hfd
    go_enter Tryz.func174, Tryz.ntmps174
    go_wp2_with fail
    refine hfm.mono ?_; rintro e w1 ⟨rfl, hb1⟩
    go_wp2_with fail
    go_ret2
    exact PrintRet.bad HFD.out hb1
  | true =>
    rw [hfd] at hfm
    have HFD := Lib.hid hfd
    have HSM := Lib.hid (RdS.formed_small hfd)
    have HTS := Lib.hid (RdS.text_small hfd)
    have HPR : Hid (RdS.printS xs = (RdS.textTo xs xs.length, 0)) := Lib.hid (by unfold RdS.printS; rw [if_pos hfd])
    clear hfd hf
    obtain ⟨a, c, rfl, hc, hcase⟩ := h
    rcases hcase with rfl | ⟨g, o, rfl, hg, hcell⟩
    · have := HFD.out; cases this
    have HC := Lib.hid hcell
    generalize hn : xs.length = n at *
    have HN := Lib.hid hn
    have hn3 : n ≤ 3 := HSM.out.1
    clear hn hcell
    go_enter Tryz.func174, Tryz.ntmps174
    go_wp2_with fail
    refine hfm.mono ?_; rintro e w1 ⟨rfl, hb1⟩
    have hg1 : g < w1.heap.size := Nat.lt_of_lt_of_le hg hb1.size
    go_wp2_with fail
    go_loopw [4, 11] (fun s i wr => RPrLoop xs w1 s i wr) (fun _ i _ => n - (intOf i).toNat)
    case atStart => exact ⟨0, Nat.zero_le _, rfl, rfl, Below.refl _ _⟩
    case round =>
      obtain ⟨k, hk, rfl, rfl, hb⟩ := hrel
      rw [HN.out] at hk
      have hsz := hb.size
      by_cases hlt : k < n
      · have hlt2 : k < xs.length := by rw [HN.out]; exact hlt
        obtain ⟨c0, c1⟩ := HC.out k _ (List.getElem?_eq_getElem hlt2)
        have HTX := Lib.hid (RdS.textTo_succ xs k hlt2)
        have hsm := HSM.out.2 _ (List.getElem_mem hlt2)
        have hts := HTS.out k hk
        generalize xs[k] = p at *
        obtain ⟨t, u⟩ := p
        simp only at c0 c1 hsm
        have HPT : Hid (RdS.pairT (t, u) = t ++ [61] ++ RdS.escS u) := Lib.hid rfl
        have hesc := RdS.escS_len u
        have hrv := fun w => refvalue_c u (by omega) w
        replace c0 : wr.cell? ⟨g, o + k * 2, none⟩ = some (strV t) := (hb.cell (p := ⟨g, o + k * 2, none⟩) hg1).trans ((hb1.cell (p := ⟨g, o + k * 2, none⟩) hg).trans c0)
        replace c1 : wr.cell? ⟨g, o + k * 2 + 1, none⟩ = some (strV u) := (hb.cell (p := ⟨g, o + k * 2 + 1, none⟩) hg1).trans ((hb1.cell (p := ⟨g, o + k * 2 + 1, none⟩) hg).trans c1)
        unfold strV at c0 c1
        have hgw : g < wr.heap.size := Nat.lt_of_lt_of_le hg1 hsz
        clear hlt2
        by_cases hk0 : k = 0
        · have HT0 : Hid (RdS.textTo xs (k + 1) = RdS.textTo xs k ++ t ++ [61] ++ RdS.escS u) := Lib.hid (by rw [HTX.out, if_pos hk0, HPT.out]; simp)
          have hkz : decide ((0 : Int) < (k : Int)) = false := decide_eq_false (by omega)
          have hkz2 : decide (0 < k) = false := decide_eq_false (by omega)
          clear hk0
          generalize RdS.textTo xs k = acc at *
          generalize RdS.escS u = eu at *
          have ha1 := cat_lit acc t (by omega) (by omega)
          have hy1l : (acc ++ t).length ≤ 4000 := by rw [List.length_append]; omega
          obtain ⟨y1, hy1⟩ : ∃ y1, y1 = acc ++ t := ⟨_, rfl⟩
          rw [← hy1] at ha1 hy1l
          have ha2 := cat_lit y1 [61] (by omega) (by decide)
          have hy2l : (y1 ++ [61]).length ≤ 5000 := by rw [List.length_append, List.length_singleton]; omega
          obtain ⟨y2, hy2⟩ : ∃ y2, y2 = y1 ++ [61] := ⟨_, rfl⟩
          rw [← hy2] at ha2 hy2l
          have ha3 := cat_lit y2 eu (by omega) (by omega)
          obtain ⟨y3, hy3⟩ : ∃ y3, y3 = y2 ++ eu := ⟨_, rfl⟩
          rw [← hy3] at ha3
          have HY : Hid (y3 = acc ++ t ++ [61] ++ eu) := Lib.hid (by rw [hy3, hy2, hy1])
          clear hy1 hy2 hy3 hy1l hy2l
          go_wp2_with fail
          go_region_held3 (fun W => W.cell? ⟨g, o + k * 2, none⟩ = some (.string ⟨t.toArray⟩) ∧ W.cell? ⟨g, o + k * 2 + 1, none⟩ = some (.string ⟨u.toArray⟩)) (first | exact ⟨c0, c1⟩ | exact ⟨(hb2.cell (p := ⟨g, o + k * 2, none⟩) hgw).trans c0, (hb2.cell (p := ⟨g, o + k * 2 + 1, none⟩) hgw).trans c1⟩)
            (first | (go_at_call 216; (with_reducible refine (hrv _).mono ?_); rintro e w2 ⟨rfl, hb2⟩))
          all_goals go_wp2_with fail
          all_goals go_roundw
          all_goals first | exact ⟨k + 1, by rw [HN.out]; omega, by go_num, by rw [HT0.out, HY.out], hb.trans ((below_trans (Below.drew (Below.refl _ _)) hb2).mono hsz)⟩ | (simp [intOf]; omega)
        · have HT0 : Hid (RdS.textTo xs (k + 1) = RdS.textTo xs k ++ [43] ++ t ++ [61] ++ RdS.escS u) := Lib.hid (by rw [HTX.out, if_neg hk0, HPT.out]; simp)
          have hkz : (0 : Int) < (k : Int) := by omega
          have hkz2 : 0 < k := by omega
          clear hk0
          generalize RdS.textTo xs k = acc at *
          generalize RdS.escS u = eu at *
          have ha0 := cat_lit acc [43] (by omega) (by decide)
          have hc0 : (⟨acc.toArray⟩ ++ ⟨#[43]⟩ : ByteArray) = ⟨(acc ++ [43]).toArray⟩ := mk_app acc [43]
          have hy0l : (acc ++ [43]).length ≤ 3500 := by rw [List.length_append, List.length_singleton]; omega
          obtain ⟨y0, hy0⟩ : ∃ y0, y0 = acc ++ [43] := ⟨_, rfl⟩
          rw [← hy0] at ha0 hc0 hy0l
          have ha1 := cat_lit y0 t (by omega) (by omega)
          have hy1l : (y0 ++ t).length ≤ 4000 := by rw [List.length_append]; omega
          obtain ⟨y1, hy1⟩ : ∃ y1, y1 = y0 ++ t := ⟨_, rfl⟩
          rw [← hy1] at ha1 hy1l
          have ha2 := cat_lit y1 [61] (by omega) (by decide)
          have hy2l : (y1 ++ [61]).length ≤ 5000 := by rw [List.length_append, List.length_singleton]; omega
          obtain ⟨y2, hy2⟩ : ∃ y2, y2 = y1 ++ [61] := ⟨_, rfl⟩
          rw [← hy2] at ha2 hy2l
          have ha3 := cat_lit y2 eu (by omega) (by omega)
          obtain ⟨y3, hy3⟩ : ∃ y3, y3 = y2 ++ eu := ⟨_, rfl⟩
          rw [← hy3] at ha3
          have HY : Hid (y3 = acc ++ [43] ++ t ++ [61] ++ eu) := Lib.hid (by rw [hy3, hy2, hy1, hy0])
          clear hy0 hy1 hy2 hy3 hy0l hy1l hy2l
          go_wp2_with fail
          go_region_held3 (fun W => W.cell? ⟨g, o + k * 2, none⟩ = some (.string ⟨t.toArray⟩) ∧ W.cell? ⟨g, o + k * 2 + 1, none⟩ = some (.string ⟨u.toArray⟩)) (first | exact ⟨c0, c1⟩ | exact ⟨(hb2.cell (p := ⟨g, o + k * 2, none⟩) hgw).trans c0, (hb2.cell (p := ⟨g, o + k * 2 + 1, none⟩) hgw).trans c1⟩)
            (first | (go_at_call 216; (with_reducible refine (hrv _).mono ?_); rintro e w2 ⟨rfl, hb2⟩))
          all_goals go_wp2_with fail
          all_goals go_roundw
          all_goals first | exact ⟨k + 1, by rw [HN.out]; omega, by go_num, by rw [HT0.out, HY.out], hb.trans ((below_trans (Below.drew (Below.refl _ _)) hb2).mono hsz)⟩ | (simp [intOf]; omega)
      · have hkn : k = n := by omega
        subst hkn
        generalize RdS.textTo xs k = tx at *
        go_wp2_with fail
        go_ret2
        exact ⟨by rw [HPR.out]; rfl, hb1.trans (hb.mono hb1.size)⟩
end Go.Proofs.YtifjghkgmfmneaaGreatDoor
namespace Go.Proofs.YtifjghkgmfmneaaGreatDoor
open Go.RowKit
end Go.Proofs.YtifjghkgmfmneaaGreatDoor
