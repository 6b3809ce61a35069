/- The walk of the document's 'Formed' of a part. Condition: the library's variables are laid. -/
import Derived.Test.YtifjghkgmfmneaaGreatDoorRda
import Derived.Test.YtifjghkgmfmneaaGreatDoorRuh
import Derived.Test.YtifjghkgmfmneaaGreatDoorRdS
import Derived.Deep.DrawnRows
import Derived.Deep.RegionHeld3
namespace Go.Proofs.YtifjghkgmfmneaaGreatDoor
open Go.RowKit
attribute [local go_sem ↓] Go.wp_at_zero Go.wp_at_succ

def FmLoop2 (xs : List RdS.Pr) (w : World) (i : Value) (wr : World) : Prop := ∃ k : Nat, k ≤ xs.length ∧ i = .int .i64 k ∧ RdS.okTo xs k = true ∧ Below w.heap.size w wr
theorem less_nil {t : List UInt8} (h : t ≠ []) : Op.bytesLess [] t = true := by
  cases t with
  | nil => exact absurd rfl h
  | cons a l => rfl

set_option maxRecDepth 100000 in
set_option maxHeartbeats 8000000 in
theorem refformed_any (v : Value) (xs : List RdS.Pr) (w : World) (h : AvasIn w v xs) (hf : PairsFit xs) (hE : Env w) : Calls Tryz.prog 212 #[v] w (FmRet xs w) := by
  obtain ⟨a, c, rfl, hc, h⟩ := h
  have HF := Lib.hid (RdS.formed_okTo xs)
  rcases h with rfl | ⟨g, o, rfl, hg, h⟩
  · go_enter Tryz.func212, Tryz.ntmps212
    go_wp2_with fail
    go_ret
    exact ⟨rfl, Below.refl _ _⟩
  · have H := Lib.hid h
    have HFI := Lib.hid hf
    generalize hn : xs.length = n at *
    have HN := Lib.hid hn
    clear h hf hn
    by_cases hn0 : n = 0
    · subst hn0
      go_enter Tryz.func212, Tryz.ntmps212
      go_wp2_with fail
      go_ret
      exact ⟨by rw [HF.out]; rfl, Below.refl _ _⟩
    by_cases hn3 : 3 < n
    · have HB : Hid (decide (n ≤ 3) = false) := Lib.hid (decide_eq_false (by omega))
      have hz : decide ((n : Int) < 1) = false := decide_eq_false (by omega)
      have hz3 : (3 : Int) < (n : Int) := by omega
      go_enter Tryz.func212, Tryz.ntmps212
      go_wp2_with fail
      go_ret
      exact ⟨by rw [HF.out, HB.out]; simp, Below.refl _ _⟩
    have hz : decide ((n : Int) < 1) = false := decide_eq_false (by omega)
    have HB : Hid (decide (1 ≤ n) = true ∧ decide (n ≤ 3) = true) := Lib.hid ⟨decide_eq_true (by omega), decide_eq_true (by omega)⟩
    have hd3 : decide ((3 : Int) < (n : Int)) = false := decide_eq_false (by omega)
    have hn3' : n ≤ 3 := by omega
    clear hn0 hn3
    go_enter Tryz.func212, Tryz.ntmps212
    go_wp2_with fail
    go_loopw [18] (fun i wr => FmLoop2 xs w i wr) (fun i _ => n - (intOf i).toNat)
    case atStart => exact ⟨0, Nat.zero_le _, rfl, rfl, Below.refl _ _⟩
    case round =>
      obtain ⟨k, hk, rfl, hok, hb⟩ := hrel
      rw [HN.out] at hk
      have HOK := Lib.hid hok
      clear hok
      by_cases hlt : k < n
      · have hlt2 : k < xs.length := by rw [HN.out]; exact hlt
        obtain ⟨c0, c1⟩ := H.out k _ (List.getElem?_eq_getElem hlt2)
        have HSUC := Lib.hid (RdS.okTo_succ xs k hlt2)
        have HFL := Lib.hid (fun hp n hn => RdS.okTo_false hlt2 hp n hn)
        obtain ⟨f1, f2⟩ := HFI.out _ (List.getElem_mem hlt2)
        have HPREV : Hid (∀ j, k = j + 1 → ∃ p : RdS.Pr, RdS.lastT xs k = p.1 ∧ wr.cell? ⟨g, o + j * 2, none⟩ = some (strV p.1)) := Lib.hid (fun j hj => by
          have hj2 : j < xs.length := by omega
          exact ⟨xs[j], by rw [hj]; exact RdS.lastT_succ xs j hj2, (hb.cell (p := ⟨g, o + j * 2, none⟩) hg).trans (H.out j _ (List.getElem?_eq_getElem hj2)).1⟩)
        have HP0 : Hid (k = 0 → RdS.lastT xs k = []) := Lib.hid (fun h => by rw [h]; rfl)
        generalize xs[k] = p at *
        obtain ⟨t, u⟩ := p
        simp only at c0 c1 f1 f2
        replace c0 : wr.cell? ⟨g, o + k * 2, none⟩ = some (strV t) := (hb.cell (p := ⟨g, o + k * 2, none⟩) hg).trans c0
        replace c1 : wr.cell? ⟨g, o + k * 2 + 1, none⟩ = some (strV u) := (hb.cell (p := ⟨g, o + k * 2 + 1, none⟩) hg).trans c1
        unfold strV at c0 c1
        have HFA : Hid (RdS.pairOk (RdS.lastT xs k) (t, u) = false → RdS.formedS xs = false) := Lib.hid (fun hp => by
          rw [HF.out, HFL.out hp n hlt, Bool.and_false])
        have hty := fun w => reftype_c ⟨t.toArray⟩ f1 w
        unfold TypeRet at hty
        have hnm := fun w hE => refnormal_c ⟨t.toArray⟩ ⟨u.toArray⟩ f1 f2 w hE
        unfold NormRet at hnm
        have du : ∀ l : List UInt8, (⟨l.toArray⟩ : ByteArray).data.toList = l := fun _ => rfl
        rw [du] at hty
        rw [du, du] at hnm
        clear du
        have HP : Hid (RdS.pairOk (RdS.lastT xs k) (t, u) = (((RuS.typeOf t).1 == t) && ((RuS.typeOf t).2 == 1 || (RuS.typeOf t).2 == 3) && Op.bytesLess (RdS.lastT xs k) t && ((RuS.normal t u).2 == 0))) := Lib.hid rfl
        have HTN := Lib.hid (fun h => RdS.type_ne (nm := t) h)
        generalize RdS.lastT xs k = last at *
        generalize RuS.typeOf t = r at *
        generalize RuS.normal t u = nr at *
        obtain ⟨t', sy⟩ := r
        obtain ⟨x, e0⟩ := nr
        simp only at hty hnm
        have hbk := hb
        have HNM := Lib.hid hnm
        clear hnm
        have HHG := Lib.hid hg
        go_wp2_with fail
        refine (hty _).mono ?_; rintro e w1 ⟨rfl, hb1⟩
        have hg1 : g < wr.heap.size := Nat.lt_of_lt_of_le hg hb.size
        have d0 : w1.cell? ⟨g, o + k * 2, none⟩ = some (.string ⟨t.toArray⟩) := (hb1.cell (p := ⟨g, o + k * 2, none⟩) hg1).trans c0
        have d1 : w1.cell? ⟨g, o + k * 2 + 1, none⟩ = some (.string ⟨u.toArray⟩) := (hb1.cell (p := ⟨g, o + k * 2 + 1, none⟩) hg1).trans c1
        have hbw1 : Below w.heap.size w w1 := hbk.trans (hb1.mono hbk.size)
        have hE1 : Env w1.drew := (hE.below hbw1).drew
        have hnm1 := HNM.out w1.drew hE1
        clear c0 c1 hty
        go_wp2_with fail
        have hg2 : g < w1.drew.heap.size := Nat.lt_of_lt_of_le hg1 hb1.size
        go_region_held3 (fun W => W.cell? ⟨g, o + k * 2, none⟩ = some (.string ⟨t.toArray⟩) ∧ W.cell? ⟨g, o + k * 2 + 1, none⟩ = some (.string ⟨u.toArray⟩)) (first | exact ⟨d0, d1⟩ | exact ⟨(hb2.cell (p := ⟨g, o + k * 2, none⟩) hg2).trans d0, (hb2.cell (p := ⟨g, o + k * 2 + 1, none⟩) hg2).trans d1⟩)
          (first | (go_at_call 155; (with_reducible refine hnm1.mono ?_); rintro e w2 ⟨rfl, hb2⟩))
        have hbw2 : Below w.heap.size w w2 := (hbw1.drew).trans (hb2.mono hbw1.size)
        have e0c : w2.cell? ⟨g, o + k * 2, none⟩ = some (.string ⟨t.toArray⟩) := (hb2.cell (p := ⟨g, o + k * 2, none⟩) hg2).trans d0
        have HPR : Hid (∀ j, k = j + 1 → ∃ p : RdS.Pr, last = p.1 ∧ w2.cell? ⟨g, o + j * 2, none⟩ = some (strV p.1)) := Lib.hid (fun j hj => by
          obtain ⟨p, h1, h2⟩ := HPREV.out j hj
          exact ⟨p, h1, (hb2.cell (p := ⟨g, o + j * 2, none⟩) hg2).trans ((hb1.cell (p := ⟨g, o + j * 2, none⟩) hg1).trans h2)⟩)
        clear hnm1 d0 d1
        cases q1 : (t' == t) with
        | false =>
          have Q1 := Lib.hid q1
          go_wp2_with fail
          go_ret
          exact ⟨by rw [HFA.out (by rw [HP.out]; simp only [Q1.out]; rfl)]; rfl, hbw2⟩
        | true =>
          have e1 := beq_iff_eq.1 q1
          subst e1
          clear q1
          by_cases q2 : sy = 1 ∨ sy = 3
          · have HT0 := Lib.hid (HTN.out q2)
            have Q2 : Hid ((sy == 1 || sy == 3) = true) := Lib.hid (by rcases q2 with rfl | rfl <;> rfl)
            have q2b : (sy != 1) = false ∨ ((sy != 1) = true ∧ (sy != 3) = false) := by rcases q2 with rfl | rfl <;> simp
            clear q2
            by_cases q4 : e0 = 0
            · subst q4
              by_cases hk0 : k = 0
              · have HL0 := Lib.hid (HP0.out hk0)
                have hkz : decide ((0 : Int) < (k : Int)) = false := decide_eq_false (by omega)
                have hkz2 : decide (0 < k) = false := decide_eq_false (by omega)
                clear hk0
                rcases q2b with g1 | ⟨g1, g3⟩
                all_goals
                  go_wp2_with fail
                  go_roundw
                  case rel => exact ⟨k + 1, by rw [HN.out]; omega, by go_num, by rw [HSUC.out, HOK.out, HP.out, HL0.out, less_nil HT0.out, Q2.out]; simp, hbw2⟩
                  case measure => simp [intOf]; omega
              · obtain ⟨j, hj⟩ : ∃ j, k = j + 1 := ⟨k - 1, by omega⟩
                obtain ⟨p, hp1, hp2⟩ := HPR.out j hj
                have hjk : (k : Int) - 1 = (j : Int) := by omega
                have hwj : IntKind.i64.wrap (j : Int) = (j : Int) := by rw [IntKind.wrap_i64]; omega
                have hjn : (j : Int) < (n : Int) := by omega
                have hkz : (0 : Int) < (k : Int) := by omega
                unfold strV at hp2
                rw [← hp1] at hp2
                clear hk0 hj hp1
                cases q5 : Op.bytesLess last t' with
                | true =>
                  have Q5 := Lib.hid q5
                  rcases q2b with g1 | ⟨g1, g3⟩
                  all_goals
                    go_wp2_with fail
                    go_roundw
                    case rel => exact ⟨k + 1, by rw [HN.out]; omega, by go_num, by rw [HSUC.out, HOK.out, HP.out, Q5.out, Q2.out]; simp, hbw2⟩
                    case measure => simp [intOf]; omega
                | false =>
                  have Q5 := Lib.hid q5
                  rcases q2b with g1 | ⟨g1, g3⟩
                  all_goals
                    go_wp2_with fail
                    go_ret
                    exact ⟨by rw [HFA.out (by rw [HP.out]; simp only [Q5.out, Bool.and_false, Bool.false_and])]; rfl, hbw2⟩
            · have hz5 : (e0 != 0) = true := by simpa using q4
              have Q4 : Hid ((e0 == 0) = false) := Lib.hid (by simpa using q4)
              clear q4
              rcases q2b with g1 | ⟨g1, g3⟩
              all_goals
                go_wp2_with fail
                go_ret
                exact ⟨by rw [HFA.out (by rw [HP.out]; simp only [Q4.out, Bool.and_false])]; rfl, hbw2⟩
          · have g1 : (sy != 1) = true := by simp; omega
            have g3 : (sy != 3) = true := by simp; omega
            have Q2 : Hid ((sy == 1 || sy == 3) = false) := Lib.hid (by simp; omega)
            clear q2
            go_wp2_with fail
            go_ret
            exact ⟨by rw [HFA.out (by rw [HP.out]; simp only [Q2.out, Bool.and_false, Bool.false_and])]; rfl, hbw2⟩
      · have hkn : k = n := by omega
        subst hkn
        go_wp2_with fail
        go_ret
        exact ⟨by rw [HF.out, HOK.out, HB.out.1, HB.out.2]; rfl, hb⟩
end Go.Proofs.YtifjghkgmfmneaaGreatDoor
