/- The walk of the document's 'Print' of a part. Condition: the library's variables are laid. The walk of the law RdnPrints. Condition: the library's variables are laid. The walk of the law RdnBack. Condition: the library's variables are laid. -/
import Derived.Test.YtjjbkldlgjllnaaGreatDoorRdv
import Derived.Test.YtjjbkldlgjllnaaGreatDoorRdk
import Derived.Test.YtjjbkldlgjllnaaGreatDoorRdo
import Derived.Test.YtjjbkldlgjllnaaGreatDoorRdn
namespace Go.Proofs.YtjjbkldlgjllnaaGreatDoor
open Go.RowKit
attribute [local go_sem ↓] Go.wp_at_zero Go.wp_at_succ

def RPrLoop (xs : List RdS.Pr) (w1 : World) (s i : Value) (wr : World) : Prop := ∃ k : Nat, k ≤ xs.length ∧ i = .int .i64 k ∧ s = .string ⟨(RdS.textTo xs k).toArray⟩ ∧ Below w1.heap.size w1 wr

set_option maxRecDepth 100000 in
set_option maxHeartbeats 4000000 in
theorem refprint_c (v : Value) (xs : List RdS.Pr) (w : World) (h : AvasIn w v xs) (hf : PairsFit xs) (hE : Env w) : Calls Tryz.prog 41 #[v] w (PrintRet xs w) := by
  have hfm := refformed_any v xs w h hf hE
  unfold FmRet at hfm
  cases hfd : RdS.formedS xs with
  | false =>
    rw [hfd] at hfm
    have HFD := Lib.hid hfd
    clear h hf hfd
    go_enter Tryz.func41, Tryz.ntmps41
    go_wp2_with fail
    refine hfm.mono ?_; rintro e w1 ⟨rfl, hb1⟩
    go_wp2_with fail
    go_ret2
    exact PrintRet.bad HFD.out hb1
  | true =>
    rw [hfd] at hfm
    have HFD := Lib.hid hfd
    have HSM := Lib.hid (RdS.formed_small hfd)
    have HTS := Lib.hid (RdS.text_small hfd)
    have HPR : Hid (RdS.printS xs = (RdS.textTo xs xs.length, 0)) := Lib.hid (by unfold RdS.printS; rw [if_pos hfd])
    clear hfd hf
    obtain ⟨a, c, rfl, hc, hcase⟩ := h
    rcases hcase with rfl | ⟨g, o, rfl, hg, hcell⟩
    · have := HFD.out; cases this
    have HC := Lib.hid hcell
    generalize hn : xs.length = n at *
    have HN := Lib.hid hn
    have hn3 : n ≤ 3 := HSM.out.1
    clear hn hcell
    go_enter Tryz.func41, Tryz.ntmps41
    go_wp2_with fail
    refine hfm.mono ?_; rintro e w1 ⟨rfl, hb1⟩
    have hg1 : g < w1.heap.size := Nat.lt_of_lt_of_le hg hb1.size
    go_wp2_with fail
    go_loopw [4, 11] (fun s i wr => RPrLoop xs w1 s i wr) (fun _ i _ => n - (intOf i).toNat)
    case atStart => exact ⟨0, Nat.zero_le _, rfl, rfl, Below.refl _ _⟩
    case round =>
      obtain ⟨k, hk, rfl, rfl, hb⟩ := hrel
      rw [HN.out] at hk
      have hsz := hb.size
      by_cases hlt : k < n
      · have hlt2 : k < xs.length := by rw [HN.out]; exact hlt
        obtain ⟨c0, c1⟩ := HC.out k _ (List.getElem?_eq_getElem hlt2)
        have HTX := Lib.hid (RdS.textTo_succ xs k hlt2)
        have hsm := HSM.out.2 _ (List.getElem_mem hlt2)
        have hts := HTS.out k hk
        generalize xs[k] = p at *
        obtain ⟨t, u⟩ := p
        simp only at c0 c1 hsm
        have HPT : Hid (RdS.pairT (t, u) = t ++ [61] ++ RdS.escS u) := Lib.hid rfl
        have hesc := RdS.escS_len u
        have hrv := fun w => refvalue_c u (by omega) w
        replace c0 : wr.cell? ⟨g, o + k * 2, none⟩ = some (strV t) := (hb.cell (p := ⟨g, o + k * 2, none⟩) hg1).trans ((hb1.cell (p := ⟨g, o + k * 2, none⟩) hg).trans c0)
        replace c1 : wr.cell? ⟨g, o + k * 2 + 1, none⟩ = some (strV u) := (hb.cell (p := ⟨g, o + k * 2 + 1, none⟩) hg1).trans ((hb1.cell (p := ⟨g, o + k * 2 + 1, none⟩) hg).trans c1)
        unfold strV at c0 c1
        have hgw : g < wr.heap.size := Nat.lt_of_lt_of_le hg1 hsz
        clear hlt2
        by_cases hk0 : k = 0
        · have HT0 : Hid (RdS.textTo xs (k + 1) = RdS.textTo xs k ++ t ++ [61] ++ RdS.escS u) := Lib.hid (by rw [HTX.out, if_pos hk0, HPT.out]; simp)
          have hkz : decide ((0 : Int) < (k : Int)) = false := decide_eq_false (by omega)
          have hkz2 : decide (0 < k) = false := decide_eq_false (by omega)
          clear hk0
          generalize RdS.textTo xs k = acc at *
          generalize RdS.escS u = eu at *
          have ha1 := cat_lit acc t (by omega) (by omega)
          have hy1l : (acc ++ t).length ≤ 4000 := by rw [List.length_append]; omega
          obtain ⟨y1, hy1⟩ : ∃ y1, y1 = acc ++ t := ⟨_, rfl⟩
          rw [← hy1] at ha1 hy1l
          have ha2 := cat_lit y1 [61] (by omega) (by decide)
          have hy2l : (y1 ++ [61]).length ≤ 5000 := by rw [List.length_append, List.length_singleton]; omega
          obtain ⟨y2, hy2⟩ : ∃ y2, y2 = y1 ++ [61] := ⟨_, rfl⟩
          rw [← hy2] at ha2 hy2l
          have ha3 := cat_lit y2 eu (by omega) (by omega)
          obtain ⟨y3, hy3⟩ : ∃ y3, y3 = y2 ++ eu := ⟨_, rfl⟩
          rw [← hy3] at ha3
          have HY : Hid (y3 = acc ++ t ++ [61] ++ eu) := Lib.hid (by rw [hy3, hy2, hy1])
          clear hy1 hy2 hy3 hy1l hy2l
          go_wp2_with fail
          go_region_held3 (fun W => W.cell? ⟨g, o + k * 2, none⟩ = some (.string ⟨t.toArray⟩) ∧ W.cell? ⟨g, o + k * 2 + 1, none⟩ = some (.string ⟨u.toArray⟩)) (first | exact ⟨c0, c1⟩ | exact ⟨(hb2.cell (p := ⟨g, o + k * 2, none⟩) hgw).trans c0, (hb2.cell (p := ⟨g, o + k * 2 + 1, none⟩) hgw).trans c1⟩)
            (first | (go_at_call 97; (with_reducible refine (hrv _).mono ?_); rintro e w2 ⟨rfl, hb2⟩))
          all_goals go_wp2_with fail
          all_goals go_roundw
          all_goals first | exact ⟨k + 1, by rw [HN.out]; omega, by go_num, by rw [HT0.out, HY.out], hb.trans ((below_trans (Below.drew (Below.refl _ _)) hb2).mono hsz)⟩ | (simp [intOf]; omega)
        · have HT0 : Hid (RdS.textTo xs (k + 1) = RdS.textTo xs k ++ [43] ++ t ++ [61] ++ RdS.escS u) := Lib.hid (by rw [HTX.out, if_neg hk0, HPT.out]; simp)
          have hkz : (0 : Int) < (k : Int) := by omega
          have hkz2 : 0 < k := by omega
          clear hk0
          generalize RdS.textTo xs k = acc at *
          generalize RdS.escS u = eu at *
          have ha0 := cat_lit acc [43] (by omega) (by decide)
          have hc0 : (⟨acc.toArray⟩ ++ ⟨#[43]⟩ : ByteArray) = ⟨(acc ++ [43]).toArray⟩ := mk_app acc [43]
          have hy0l : (acc ++ [43]).length ≤ 3500 := by rw [List.length_append, List.length_singleton]; omega
          obtain ⟨y0, hy0⟩ : ∃ y0, y0 = acc ++ [43] := ⟨_, rfl⟩
          rw [← hy0] at ha0 hc0 hy0l
          have ha1 := cat_lit y0 t (by omega) (by omega)
          have hy1l : (y0 ++ t).length ≤ 4000 := by rw [List.length_append]; omega
          obtain ⟨y1, hy1⟩ : ∃ y1, y1 = y0 ++ t := ⟨_, rfl⟩
          rw [← hy1] at ha1 hy1l
          have ha2 := cat_lit y1 [61] (by omega) (by decide)
          have hy2l : (y1 ++ [61]).length ≤ 5000 := by rw [List.length_append, List.length_singleton]; omega
          obtain ⟨y2, hy2⟩ : ∃ y2, y2 = y1 ++ [61] := ⟨_, rfl⟩
          rw [← hy2] at ha2 hy2l
          have ha3 := cat_lit y2 eu (by omega) (by omega)
          obtain ⟨y3, hy3⟩ : ∃ y3, y3 = y2 ++ eu := ⟨_, rfl⟩
          rw [← hy3] at ha3
          have HY : Hid (y3 = acc ++ [43] ++ t ++ [61] ++ eu) := Lib.hid (by rw [hy3, hy2, hy1, hy0])
          clear hy0 hy1 hy2 hy3 hy0l hy1l hy2l
          go_wp2_with fail
          go_region_held3 (fun W => W.cell? ⟨g, o + k * 2, none⟩ = some (.string ⟨t.toArray⟩) ∧ W.cell? ⟨g, o + k * 2 + 1, none⟩ = some (.string ⟨u.toArray⟩)) (first | exact ⟨c0, c1⟩ | exact ⟨(hb2.cell (p := ⟨g, o + k * 2, none⟩) hgw).trans c0, (hb2.cell (p := ⟨g, o + k * 2 + 1, none⟩) hgw).trans c1⟩)
            (first | (go_at_call 97; (with_reducible refine (hrv _).mono ?_); rintro e w2 ⟨rfl, hb2⟩))
          all_goals go_wp2_with fail
          all_goals go_roundw
          all_goals first | exact ⟨k + 1, by rw [HN.out]; omega, by go_num, by rw [HT0.out, HY.out], hb.trans ((below_trans (Below.drew (Below.refl _ _)) hb2).mono hsz)⟩ | (simp [intOf]; omega)
      · have hkn : k = n := by omega
        subst hkn
        generalize RdS.textTo xs k = tx at *
        go_wp2_with fail
        go_ret2
        exact ⟨by rw [HPR.out]; rfl, hb1.trans (hb.mono hb1.size)⟩
end Go.Proofs.YtjjbkldlgjllnaaGreatDoor
namespace Go.Proofs.YtjjbkldlgjllnaaGreatDoor
open Go.RowKit

theorem few_fit {xs : List RdS.Pr} (h : xs.length ≤ 51 ∧ ∀ p ∈ xs, p.1.length ≤ 1000 ∧ p.2.length ≤ 1000) : PairsFit xs := fun p hp => by
  have := h.2 p hp
  omega
set_option maxRecDepth 100000 in
set_option maxHeartbeats 4000000 in
theorem rdnprints_c (v : Value) (xs : List RdS.Pr) (w : World) (h : AvasIn w v xs) (hl : xs.length ≤ 9223372036854775807) (hE : Env w) : Calls Tryz.prog 10 #[v] w (True_ w) := by
  have hfew := fun w h => few05_c v xs w h hl
  unfold FewRet05 at hfew
  go_enter Tryz.func10, Tryz.ntmps10
  go_wp2_with fail
  refine (awake05_c _ hE).mono ?_; rintro e w1 ⟨rfl, hb1⟩
  have h1 := h.call hb1 (Nat.le_refl _)
  have hE1 := hE.below hb1
  go_wp2_with fail
  refine (hfew _ h1).mono ?_; rintro e w2 ⟨b, rfl, hbt, rfl⟩
  cases b with
  | false =>
    clear hbt
    go_wp2_with fail
    refine (awake05_c _ hE1).mono ?_; rintro e w2 ⟨rfl, hb2⟩
    go_wp2_with fail
    go_ret
    exact ⟨rfl, below_trans hb1 hb2⟩
  | true =>
    have hsm := hbt rfl
    have hfit := few_fit hsm
    have hl2 : xs.length ≤ 1000000 := by omega
    have hth := fun w h => theirs_c v xs w h hl2
    clear hbt hfew hsm
    go_wp2_with fail
    refine (hth _ h1).mono ?_; rintro e w2 ⟨u, rfl, hu, hb2⟩
    have hE2 := hE1.below hb2
    have h2 := h1.call hb2 (Nat.le_refl _)
    go_wp2_with fail
    refine (rdprint_c u xs _ hu.avas hfit hE2).mono ?_; rintro e w3 ⟨rfl, hb3⟩
    have hE3 := hE2.below hb3
    have h3 := h2.call hb3 (Nat.le_refl _)
    go_wp2_with fail
    refine (refprint_c v xs _ h3 hfit hE3).mono ?_; rintro e w4 ⟨rfl, hb4⟩
    have hE4 := hE3.below hb4
    have h4 := h3.call hb4 (Nat.le_refl _)
    generalize RdS.printS xs = pr at *
    obtain ⟨tx, e0⟩ := pr
    go_wp2_with fail
    refine (hth _ h4).mono ?_; rintro e w5 ⟨u5, rfl, hu5, hb5⟩
    have hE5 := hE4.below hb5
    have h5 := h4.call hb5 (Nat.le_refl _)
    go_wp2_with fail
    refine (formed_any u5 xs _ hu5.avas hfit hE5).mono ?_; rintro e w6 ⟨rfl, hb6⟩
    have h6 := h5.call hb6 (Nat.le_refl _)
    go_wp2_with fail
    refine (refformed_any v xs _ h6 hfit (hE5.below hb6)).mono ?_; rintro e w7 ⟨rfl, hb7⟩
    cases RdS.formedS xs
    all_goals
      go_wp2_with fail
      go_ret
      exact ⟨rfl, below_trans (below_trans (below_trans (below_trans (below_trans (below_trans hb1 hb2) hb3) hb4) hb5) hb6) hb7⟩
end Go.Proofs.YtjjbkldlgjllnaaGreatDoor
namespace Go.Proofs.YtjjbkldlgjllnaaGreatDoor
open Go.RowKit

set_option maxRecDepth 100000 in
set_option maxHeartbeats 4000000 in
theorem rdnback_c (v : Value) (xs : List RdS.Pr) (s : ByteArray) (hs : s.size ≤ 9223372036854775807) (w : World) (h : AvasIn w v xs) (hl : xs.length ≤ 9223372036854775807) (hE : Env w) : Calls Tryz.prog 11 #[v, .string s] w (True_ w) := by
  obtain ⟨⟨ls⟩⟩ := s
  have hs : ls.length ≤ 9223372036854775807 := hs
  have hfew := fun w h => few05_c v xs w h hl
  unfold FewRet05 at hfew
  go_enter Tryz.func11, Tryz.ntmps11
  go_wp2_with fail
  refine (awake05_c _ hE).mono ?_; rintro e w1 ⟨rfl, hb1⟩
  have h1 := h.call hb1 (Nat.le_refl _)
  have hE1 := hE.below hb1
  go_wp2_with fail
  refine (hfew _ h1).mono ?_; rintro e w2 ⟨b, rfl, hbt, rfl⟩
  cases b with
  | false =>
    clear hbt
    go_wp2_with fail
    refine (awake05_c _ hE1).mono ?_; rintro e w2 ⟨rfl, hb2⟩
    go_wp2_with fail
    go_ret
    exact ⟨rfl, below_trans hb1 hb2⟩
  | true =>
    have hsm := hbt rfl
    by_cases h3 : 3000 < ls.length
    · have hz : (3000 : Int) < (ls.length : Int) := by omega
      clear hbt
      go_wp2_with fail
      refine (awake05_c _ hE1).mono ?_; rintro e w2 ⟨rfl, hb2⟩
      go_wp2_with fail
      go_ret
      exact ⟨rfl, below_trans hb1 hb2⟩
    have hz : decide ((3000 : Int) < (ls.length : Int)) = false := decide_eq_false (by omega)
    have hps := fun w hE => rdparse_c ls (by omega) w hE
    unfold PartRet at hps
    have hfit := few_fit hsm
    have hl2 : xs.length ≤ 1000000 := by omega
    have hth := fun w h => theirs_c v xs w h hl2
    clear hbt hfew hsm h3
    go_wp2_with fail
    refine (hth _ h1).mono ?_; rintro e w2 ⟨u, rfl, hu, hb2⟩
    have hE2 := hE1.below hb2
    have h2 := h1.call hb2 (Nat.le_refl _)
    have hprint := rdprint_c u xs _ hu.avas hfit hE2
    unfold PrintRet at hprint
    cases hfd : RdS.formedS xs with
    | false =>
      have hpr : RdS.printS xs = ([], 1) := by unfold RdS.printS; rw [hfd]; rfl
      rw [hpr] at hprint
      clear hpr hfd hth
      go_wp2_with fail
      refine hprint.mono ?_; rintro e w3 ⟨rfl, hb3⟩
      have hE3 := hE2.below hb3
      go_wp2_with fail
      refine (hps _ hE3).mono ?_; rintro e wa ⟨vx, rfl, hvx, hba⟩
      have hEa := Env.below hE3 hba
      have hta := below_trans (below_trans (below_trans hb1 hb2) hb3) hba
      cases hfy : (RdS.partS ls).2 == 0 with
      | false =>
        have hnone := RdS.part_none (s := ls) (by simpa using hfy)
        rw [hnone] at hvx ⊢
        obtain ⟨ax, cx, rfl, hcx, _⟩ := hvx
        clear hnone hfy hps
        go_wp2_with fail
        go_ret
        exact ⟨rfl, hta⟩
      | true =>
        obtain ⟨ys, hys⟩ : ∃ ys, RdS.partS ls = (ys, 0) := ⟨(RdS.partS ls).1, by rw [← beq_iff_eq.1 hfy]⟩
        have hfm := RdS.part_formed hys
        have hsm := RdS.formed_small hfm
        have hfit : PairsFit ys := fun p hp => by have := hsm.2 p hp; omega
        have htl := RdS.text_small hfm ys.length (Nat.le_refl _)
        have hbk := RdS.part_back hfm
        have hpr : RdS.printS ys = (RdS.textTo ys ys.length, 0) := by unfold RdS.printS; rw [if_pos hfm]
        have hyl : ys.length ≤ 1000000 := by have := hsm.1; omega
        rw [hys] at hvx ⊢
        have hprint := rdprint_c vx ys wa hvx hfit hEa
        unfold PrintRet at hprint
        rw [hpr] at hprint
        have hparse := fun w hE => rdparse_c (RdS.textTo ys ys.length) (by omega) w hE
        unfold PartRet at hparse
        rw [hbk] at hparse
        clear hfy hys hfm hsm hbk hpr hps htl hfit
        generalize RdS.textTo ys ys.length = tx at *
        go_wp2_with fail
        refine hprint.mono ?_; rintro e wb ⟨rfl, hbb⟩
        have hEb := Env.below hEa hbb
        go_wp2_with fail
        refine (hparse _ hEb).mono ?_; rintro e wc ⟨vy, rfl, hvy, hbc⟩
        have hxc := (hvx.call hbb (Nat.le_refl _)).call hbc (Nat.le_refl _)
        go_wp2_with fail
        refine (ours_c vx ys _ hxc hyl).mono ?_; rintro e wd ⟨v7, rfl, hv7, hbd⟩
        go_wp2_with fail
        refine (ours_c vy ys _ (hvy.call hbd (Nat.le_refl _)) hyl).mono ?_; rintro e we ⟨v8, rfl, hv8, hbe⟩
        go_wp2_with fail
        refine (sameavas_c v7 v8 ys ys _ (hv7.avas.call hbe (Nat.le_refl _)) hv8.avas hyl hyl).mono ?_; rintro e wf ⟨rfl, hbf⟩
        rw [decide_eq_true rfl]
        go_wp2_with fail
        go_ret
        exact ⟨rfl, below_trans (below_trans (below_trans (below_trans (below_trans hta hbb) hbc) hbd) hbe) hbf⟩
    | true =>
      have hpr : RdS.printS xs = (RdS.textTo xs xs.length, 0) := by unfold RdS.printS; rw [if_pos hfd]
      have htl := RdS.text_small hfd xs.length (Nat.le_refl _)
      have hbk := RdS.part_back hfd
      have hparse := fun w hE => rdparse_c (RdS.textTo xs xs.length) (by omega) w hE
      unfold PartRet at hparse
      rw [hbk] at hparse
      rw [hpr] at hprint
      clear hpr hfd hth hbk htl
      generalize RdS.textTo xs xs.length = tx0 at *
      go_wp2_with fail
      refine hprint.mono ?_; rintro e w3 ⟨rfl, hb3⟩
      have hE3 := hE2.below hb3
      go_wp2_with fail
      refine (hparse _ hE3).mono ?_; rintro e w4 ⟨v4, rfl, hv4, hb4⟩
      have hE4 := hE3.below hb4
      have h4 := (h2.call hb3 (Nat.le_refl _)).call hb4 (Nat.le_refl _)
      go_wp2_with fail
      refine (ours_c v4 xs _ hv4 hl2).mono ?_; rintro e w5 ⟨v5, rfl, hv5, hb5⟩
      have hE5 := hE4.below hb5
      go_wp2_with fail
      refine (sameavas_c v5 v xs xs _ hv5.avas (h4.call hb5 (Nat.le_refl _)) hl2 hl2).mono ?_; rintro e w6 ⟨rfl, hb6⟩
      have hE6 := hE5.below hb6
      rw [decide_eq_true rfl]
      go_wp2_with fail
      refine (hps _ hE6).mono ?_; rintro e wa ⟨vx, rfl, hvx, hba⟩
      have hEa := Env.below hE6 hba
      have hta := below_trans (below_trans (below_trans (below_trans (below_trans (below_trans hb1 hb2) hb3) hb4) hb5) hb6) hba
      cases hfy : (RdS.partS ls).2 == 0 with
      | false =>
        have hnone := RdS.part_none (s := ls) (by simpa using hfy)
        rw [hnone] at hvx ⊢
        obtain ⟨ax, cx, rfl, hcx, _⟩ := hvx
        clear hnone hfy hps
        go_wp2_with fail
        go_ret
        exact ⟨rfl, hta⟩
      | true =>
        obtain ⟨ys, hys⟩ : ∃ ys, RdS.partS ls = (ys, 0) := ⟨(RdS.partS ls).1, by rw [← beq_iff_eq.1 hfy]⟩
        have hfm := RdS.part_formed hys
        have hsm := RdS.formed_small hfm
        have hfit : PairsFit ys := fun p hp => by have := hsm.2 p hp; omega
        have htl := RdS.text_small hfm ys.length (Nat.le_refl _)
        have hbk := RdS.part_back hfm
        have hpr : RdS.printS ys = (RdS.textTo ys ys.length, 0) := by unfold RdS.printS; rw [if_pos hfm]
        have hyl : ys.length ≤ 1000000 := by have := hsm.1; omega
        rw [hys] at hvx ⊢
        have hprint := rdprint_c vx ys wa hvx hfit hEa
        unfold PrintRet at hprint
        rw [hpr] at hprint
        have hparse := fun w hE => rdparse_c (RdS.textTo ys ys.length) (by omega) w hE
        unfold PartRet at hparse
        rw [hbk] at hparse
        clear hfy hys hfm hsm hbk hpr hps htl hfit
        generalize RdS.textTo ys ys.length = tx at *
        go_wp2_with fail
        refine hprint.mono ?_; rintro e wb ⟨rfl, hbb⟩
        have hEb := Env.below hEa hbb
        go_wp2_with fail
        refine (hparse _ hEb).mono ?_; rintro e wc ⟨vy, rfl, hvy, hbc⟩
        have hxc := (hvx.call hbb (Nat.le_refl _)).call hbc (Nat.le_refl _)
        go_wp2_with fail
        refine (ours_c vx ys _ hxc hyl).mono ?_; rintro e wd ⟨v7, rfl, hv7, hbd⟩
        go_wp2_with fail
        refine (ours_c vy ys _ (hvy.call hbd (Nat.le_refl _)) hyl).mono ?_; rintro e we ⟨v8, rfl, hv8, hbe⟩
        go_wp2_with fail
        refine (sameavas_c v7 v8 ys ys _ (hv7.avas.call hbe (Nat.le_refl _)) hv8.avas hyl hyl).mono ?_; rintro e wf ⟨rfl, hbf⟩
        rw [decide_eq_true rfl]
        go_wp2_with fail
        go_ret
        exact ⟨rfl, below_trans (below_trans (below_trans (below_trans (below_trans hta hbb) hbc) hbd) hbe) hbf⟩
end Go.Proofs.YtjjbkldlgjllnaaGreatDoor
