/- The walks of 'Formed' of a part. Condition: the library's variables are laid. -/
import Derived.Test.YtjjbkldlgjllnaaGreatDoorAva
import Derived.Test.YtjjbkldlgjllnaaGreatDoorRue
namespace Go.Proofs.YtjjbkldlgjllnaaGreatDoor
open Go.RowKit

def FmRet (xs : List RdS.Pr) (w : World) (e : Ending) (w' : World) : Prop := e = .returned (.bool (RdS.formedS xs)) ∧ Below w.heap.size w w'
def FmLoop (xs : List RdS.Pr) (w : World) (l i : Value) (wr : World) : Prop :=
  ∃ k : Nat, k ≤ xs.length ∧ i = .int .i64 k ∧ l = .string ⟨(RdS.lastT xs k).toArray⟩ ∧ RdS.okTo xs k = true ∧ Below w.heap.size w wr
def PairsFit (xs : List RdS.Pr) : Prop := ∀ p ∈ xs, p.1.length ≤ 9223372036854775807 ∧ p.2.length ≤ 9223372036854775807

set_option maxRecDepth 100000 in
theorem formed_any (v : Value) (xs : List RdS.Pr) (w : World) (h : AvasIn w v xs) (hf : PairsFit xs) (hE : Env w) : Calls Tryz.prog 42 #[v] w (FmRet xs w) := by
  obtain ⟨a, c, rfl, hc, h⟩ := h
  have HF := Lib.hid (RdS.formed_okTo xs)
  rcases h with rfl | ⟨g, o, rfl, hg, h⟩
  · go_enter Tryz.func42, Tryz.ntmps42
    go_wp2_with fail
    go_ret
    exact ⟨rfl, Below.refl _ _⟩
  · have H := Lib.hid h
    have HFI := Lib.hid hf
    generalize hn : xs.length = n at *
    have HN := Lib.hid hn
    clear h hf hn
    by_cases hn0 : n = 0
    · subst hn0
      go_enter Tryz.func42, Tryz.ntmps42
      go_wp2_with fail
      go_ret
      exact ⟨by rw [HF.out]; rfl, Below.refl _ _⟩
    by_cases hn3 : 3 < n
    · have HB : Hid (decide (n ≤ 3) = false) := Lib.hid (decide_eq_false (by omega))
      have hz : ((n : Int) == 0) = false := beq_eq_false_iff_ne.2 (by omega)
      go_enter Tryz.func42, Tryz.ntmps42
      go_wp2_with fail
      go_ret
      exact ⟨by rw [HF.out, HB.out]; simp, Below.refl _ _⟩
    have hz : ((n : Int) == 0) = false := beq_eq_false_iff_ne.2 (by omega)
    have HB : Hid (decide (1 ≤ n) = true ∧ decide (n ≤ 3) = true) := Lib.hid ⟨decide_eq_true (by omega), decide_eq_true (by omega)⟩
    have hd3 : decide ((3 : Int) < (n : Int)) = false := decide_eq_false (by omega)
    have hn3' : n ≤ 3 := by omega
    clear hn0 hn3
    go_enter Tryz.func42, Tryz.ntmps42
    go_wp2_with fail
    go_loopw [3, 20] (fun l i wr => FmLoop xs w l i wr) (fun _ i _ => n - (intOf i).toNat)
    case atStart => exact ⟨0, Nat.zero_le _, rfl, rfl, rfl, Below.refl _ _⟩
    case round =>
      obtain ⟨k, hk, rfl, rfl, hok, hb⟩ := hrel
      rw [HN.out] at hk
      have HOK := Lib.hid hok
      clear hok
      by_cases hlt : k < n
      · have hlt2 : k < xs.length := by rw [HN.out]; exact hlt
        obtain ⟨c0, c1⟩ := H.out k _ (List.getElem?_eq_getElem hlt2)
        have HSUC := Lib.hid (RdS.okTo_succ xs k hlt2)
        have HLS := Lib.hid (RdS.lastT_succ xs k hlt2)
        have HFL := Lib.hid (fun hp n hn => RdS.okTo_false hlt2 hp n hn)
        obtain ⟨f1, f2⟩ := HFI.out _ (List.getElem_mem hlt2)
        generalize xs[k] = p at *
        obtain ⟨t, u⟩ := p
        simp only at c0 c1 f1 f2
        replace c0 : wr.cell? ⟨g, o + k * 2, none⟩ = some (strV t) := (hb.cell (p := ⟨g, o + k * 2, none⟩) hg).trans c0
        replace c1 : wr.cell? ⟨g, o + k * 2 + 1, none⟩ = some (strV u) := (hb.cell (p := ⟨g, o + k * 2 + 1, none⟩) hg).trans c1
        unfold strV at c0 c1
        have HFA : Hid (RdS.pairOk (RdS.lastT xs k) (t, u) = false → RdS.formedS xs = false) := Lib.hid (fun hp => by
          rw [HF.out, HFL.out hp n hlt, Bool.and_false])
        have hty := fun w => type_c ⟨t.toArray⟩ f1 w
        unfold TypeRet at hty
        have dt : (⟨t.toArray⟩ : ByteArray).data.toList = t := rfl
        rw [dt] at hty
        clear dt
        have HP : Hid (RdS.pairOk (RdS.lastT xs k) (t, u) = (((RuS.typeOf t).1 == t) && ((RuS.typeOf t).2 == 1 || (RuS.typeOf t).2 == 3) && Op.bytesLess (RdS.lastT xs k) t && ((RuS.normal t u).2 == 0))) := Lib.hid rfl
        generalize RdS.lastT xs k = last at *
        generalize RuS.typeOf t = r at *
        obtain ⟨t', sy⟩ := r
        simp only at hty
        have hbk := hb
        cases q1 : (t' == t) with
        | false =>
          have Q1 := Lib.hid q1
          go_wp2_with fail
          refine (hty _).mono ?_; rintro e w1 ⟨rfl, hb1⟩
          have d0 : w1.cell? ⟨wr.heap.size, 0, none⟩ = some (.string ⟨t.toArray⟩) := keepC (by go_simp) hb1
          go_wp2_with fail
          go_ret
          exact ⟨by rw [HFA.out (by rw [HP.out]; simp only [Q1.out]; rfl)]; rfl, (hbk.alloc hbk.size _).trans (hb1.mono (by have := hbk.size; simp; omega))⟩
        | true =>
          have e1 := beq_iff_eq.1 q1
          subst e1
          clear q1
          have hs1 : t'.length ≤ 9223372036854775807 := f1
          by_cases q2 : sy = 1 ∨ sy = 3
          · have hcr := RuS.compare_range last t'
            have hls := RuS.less_iff last t'
            have hls2 := RuS.less_iff t' last
            have heq := RuS.eq_iff t' last
            have hsw := RuS.compare_swap last t'
            rw [hsw] at hls2 heq
            generalize Lib.compareBytes last t' = cb at *
            have hcb : cb = -1 ∨ cb = 0 ∨ cb = 1 := by omega
            have Q2 : Hid ((sy == 1 || sy == 3) = true) := Lib.hid (by rcases q2 with rfl | rfl <;> rfl)
            clear hsw hcr
            have hnm := fun w hE => rulenormal_c ⟨t'.toArray⟩ ⟨u.toArray⟩ f1 f2 w hE
            unfold NormRet at hnm
            have du : ∀ l : List UInt8, (⟨l.toArray⟩ : ByteArray).data.toList = l := fun _ => rfl
            rw [du, du] at hnm
            clear du
            generalize RuS.normal t' u = nr at *
            obtain ⟨x, e0⟩ := nr
            simp only at hnm
            rcases hcb with rfl | hcb
            · simp only [Int.reduceNeg, decide_true, Int.reduceEq, decide_false, Int.neg_neg] at hls hls2 heq
              have HLS2 := Lib.hid hls
              clear hls
              by_cases q4 : e0 = 0
              · subst q4
                rcases q2 with rfl | rfl
                all_goals
                  go_wp2_with fail
                  refine (hty _).mono ?_; rintro e w1 ⟨rfl, hb1⟩
                  have d0 : w1.cell? ⟨wr.heap.size, 0, none⟩ = some (.string ⟨t'.toArray⟩) := keepC (by go_simp) hb1
                  have d1 : w1.cell? ⟨wr.heap.size, 1, none⟩ = some (.string ⟨u.toArray⟩) := keepC (by go_simp) hb1
                  have hb2 : Below w.heap.size w w1 := (hbk.alloc hbk.size _).trans (hb1.mono (by have := hbk.size; simp; omega))
                  go_wp2_with fail
                  refine (hnm _ (hE.below hb2)).mono ?_; rintro e w2 ⟨rfl, hb3⟩
                  have hb4 : Below w.heap.size w w2 := hb2.trans (hb3.mono hb2.size)
                  go_wp2_with fail
                  go_roundw
                  case rel => exact ⟨k + 1, by rw [HN.out]; omega, by go_num, by rw [HLS.out], by rw [HSUC.out, HOK.out, HP.out]; simp [HLS2.out], hb4⟩
                  case measure => simp [intOf]; omega
              · have hz4 : (e0 == 0) = false := by simpa using q4
                have hz5 : (e0 != 0) = true := by simpa using q4
                have Q4 := Lib.hid hz4
                clear q4
                rcases q2 with rfl | rfl
                all_goals
                  go_wp2_with fail
                  refine (hty _).mono ?_; rintro e w1 ⟨rfl, hb1⟩
                  have d0 : w1.cell? ⟨wr.heap.size, 0, none⟩ = some (.string ⟨t'.toArray⟩) := keepC (by go_simp) hb1
                  have d1 : w1.cell? ⟨wr.heap.size, 1, none⟩ = some (.string ⟨u.toArray⟩) := keepC (by go_simp) hb1
                  have hb2 : Below w.heap.size w w1 := (hbk.alloc hbk.size _).trans (hb1.mono (by have := hbk.size; simp; omega))
                  go_wp2_with fail
                  refine (hnm _ (hE.below hb2)).mono ?_; rintro e w2 ⟨rfl, hb3⟩
                  have hb4 : Below w.heap.size w w2 := hb2.trans (hb3.mono hb2.size)
                  go_wp2_with fail
                  go_ret
                  exact ⟨by rw [HFA.out (by rw [HP.out]; simp only [Q4.out, Bool.and_false])]; rfl, hb4⟩
            · have HLS2 : Hid (Op.bytesLess last t' = false) := Lib.hid (by rw [hls, decide_eq_false (by omega)])
              have hle : (Op.bytesLess t' last || t' == last) = true := by
                rw [hls2, heq]
                rcases hcb with rfl | rfl <;> rfl
              clear hls hls2 heq hcb
              rcases q2 with rfl | rfl
              all_goals
                go_wp2_with fail
                refine (hty _).mono ?_; rintro e w1 ⟨rfl, hb1⟩
                have d0 : w1.cell? ⟨wr.heap.size, 0, none⟩ = some (.string ⟨t'.toArray⟩) := keepC (by go_simp) hb1
                go_wp2_with fail
                all_goals go_ret
                all_goals exact ⟨by rw [HFA.out (by rw [HP.out]; simp only [HLS2.out, Bool.and_false, Bool.false_and])]; rfl, (hbk.alloc hbk.size _).trans (hb1.mono (by have := hbk.size; simp; omega))⟩
          · have g1 : (sy != 1) = true := by simp; omega
            have g3 : (sy != 3) = true := by simp; omega
            have Q2 : Hid ((sy == 1 || sy == 3) = false) := Lib.hid (by simp; omega)
            clear q2
            go_wp2_with fail
            refine (hty _).mono ?_; rintro e w1 ⟨rfl, hb1⟩
            have d0 : w1.cell? ⟨wr.heap.size, 0, none⟩ = some (.string ⟨t'.toArray⟩) := keepC (by go_simp) hb1
            go_wp2_with fail
            go_ret
            exact ⟨by rw [HFA.out (by rw [HP.out]; simp only [Q2.out, Bool.and_false, Bool.false_and])]; rfl, (hbk.alloc hbk.size _).trans (hb1.mono (by have := hbk.size; simp; omega))⟩
      · have hkn : k = n := by omega
        subst hkn
        go_wp2_with fail
        go_ret
        exact ⟨by rw [HF.out, HOK.out, HB.out.1, HB.out.2]; rfl, hb⟩
end Go.Proofs.YtjjbkldlgjllnaaGreatDoor
