/- The walks of the document's 'Normal', of 'both' and 'Same', the program's and the document's. Condition: the library's variables are laid. -/
import Derived.Test.YtifjghkgmfmneaaGreatDoorRue
import Derived.Test.YtifjghkgmfmneaaGreatDoorRug
import Derived.Test.YtifjghkgmfmneaaGreatDoorPhc
namespace Go.Proofs.YtifjghkgmfmneaaGreatDoor
open Go.RowKit

theorem normV_one (l : List UInt8) : RuS.normV 1 l = if (textR l).isEmpty = true then none else some (textR l) := by
  show (if (RuS.textS l).isEmpty || RuS.hasNul l then none else some (RuS.textS l)) = _
  unfold textR
  cases h : RuS.hasNul l with
  | true => simp
  | false => simp
theorem normV_three (l : List UInt8) : RuS.normV 3 l = if (RuS.intR l).isSome = true then some l else none := by
  rw [RuS.intR_eq]; rfl
theorem normV_four (l : List UInt8) : RuS.normV 4 l = if (PhS.parseP l).isSome = true then some l else none := rfl

set_option maxRecDepth 100000 in
set_option maxHeartbeats 1000000 in
theorem refnormal_c (nm s : ByteArray) (hn : nm.size ≤ 9223372036854775807) (hs : s.size ≤ 9223372036854775807) (w : World) (hE : Env w) :
    Calls Tryz.prog 155 #[.string nm, .string s] w (NormRet nm.data.toList s.data.toList w) := by
  have hty := fun w => reftype_c nm hn w
  unfold TypeRet at hty
  have hall := RuS.typeM_all (RuS.lower nm.data.toList)
  have HN : Hid (RuS.normal nm.data.toList s.data.toList = RuS.normalR (RuS.typeOf nm.data.toList).2 s.data.toList) := Lib.hid rfl
  have hall' : RuS.typeOf nm.data.toList = ([], 0) ∨ (1 ≤ (RuS.typeOf nm.data.toList).2 ∧ (RuS.typeOf nm.data.toList).2 ≤ 5 ∧ 1 ≤ (RuS.typeOf nm.data.toList).1.length ∧ (RuS.typeOf nm.data.toList).1.length ≤ 17) := hall
  clear hall
  generalize RuS.typeOf nm.data.toList = r at *
  obtain ⟨t, sy⟩ := r
  simp only at hty HN hall'
  have hsl := Lib.size_eq s
  by_cases h0 : sy = 0
  · subst h0
    go_enter Tryz.func155, Tryz.ntmps155
    go_wp2_with fail
    refine (hty _).mono ?_; rintro e w1 ⟨rfl, hb1⟩
    go_wp2_with fail
    go_ret2
    exact NormRet.mk' (r := ([], 5)) (by rw [HN.out]; rfl) hb1
  by_cases h5 : sy = 5
  · subst h5
    go_enter Tryz.func155, Tryz.ntmps155
    go_wp2_with fail
    refine (hty _).mono ?_; rintro e w1 ⟨rfl, hb1⟩
    go_wp2_with fail
    go_ret2
    exact NormRet.mk' (r := ([], 1)) (by rw [HN.out]; rfl) hb1
  have hb15 : sy = 1 ∨ sy = 2 ∨ sy = 3 ∨ sy = 4 := by
    rcases hall' with h | h
    · injection h with _ h; exact absurd h h0
    · omega
  have g0 : (sy == 0) = false := by simpa using h0
  have g5 : (sy == 5) = false := by simpa using h5
  have H0 := Lib.hid h0
  have H5 := Lib.hid h5
  have HB := Lib.hid hb15
  clear h0 h5 hall' hb15
  by_cases he : s.data.toList.length < 1 ∨ 200 < s.data.toList.length
  · have HE := Lib.hid he
    rw [← hsl] at he
    clear hsl
    rcases he with he | he
    all_goals
      go_enter Tryz.func155, Tryz.ntmps155
      go_wp2_with fail
      refine (hty _).mono ?_; rintro e w1 ⟨rfl, hb1⟩
      go_wp2_with fail
      go_ret2
      exact NormRet.mk' (r := ([], 2)) (by rw [HN.out]; unfold RuS.normalR; rw [if_neg H0.out, if_neg H5.out, if_pos HE.out]) hb1
  have HG := Lib.hid he
  have hg1 : 1 ≤ s.size := by omega
  have hg2 : s.size ≤ 200 := by omega
  clear he hsl
  have hgd : decide ((200 : Int) < (s.size : Int)) = false := decide_eq_false (by omega)
  have hgd1 : decide ((s.size : Int) < 1) = false := decide_eq_false (by omega)
  have HF : ∀ r, (match RuS.normV sy s.data.toList with | none => ([], 2) | some s => (s, 0)) = r → RuS.normal nm.data.toList s.data.toList = r := by
    intro r hr
    rw [HN.out]; unfold RuS.normalR; rw [if_neg H0.out, if_neg H5.out, if_neg HG.out]; exact hr
  have HF := Lib.hid HF
  rcases HB.out with rfl | rfl | rfl | rfl
  · have ht := fun w => reftext_c s (by omega) w
    unfold TextRet at ht
    have HV := Lib.hid (normV_one s.data.toList)
    generalize textR s.data.toList = tx at *
    cases hx : tx.isEmpty with
    | true =>
      have HX := Lib.hid hx
      go_enter Tryz.func155, Tryz.ntmps155
      go_wp2_with fail
      refine (hty _).mono ?_; rintro e w1 ⟨rfl, hb1⟩
      go_wp2_with fail
      refine (ht _).mono ?_; rintro e w2 ⟨rfl, hb2⟩
      go_wp2_with fail
      go_ret2
      exact NormRet.mk' (r := ([], 2)) (HF.out _ (by rw [HV.out, if_pos HX.out])) (below_trans hb1 hb2)
    | false =>
      have HX : Hid (¬ tx.isEmpty = true) := Lib.hid (by rw [hx]; decide)
      go_enter Tryz.func155, Tryz.ntmps155
      go_wp2_with fail
      refine (hty _).mono ?_; rintro e w1 ⟨rfl, hb1⟩
      go_wp2_with fail
      refine (ht _).mono ?_; rintro e w2 ⟨rfl, hb2⟩
      go_wp2_with fail
      go_ret2
      exact NormRet.mk' (r := (_, 0)) (HF.out _ (by rw [HV.out, if_neg HX.out])) (below_trans hb1 hb2)
  · go_enter Tryz.func155, Tryz.ntmps155
    go_wp2_with fail
    refine (hty _).mono ?_; rintro e w1 ⟨rfl, hb1⟩
    go_wp2_with fail
    go_ret2
    have := NormRet.mk' (r := (s.data.toList, 0)) (HF.out _ rfl) hb1
    rw [mk_str] at this
    exact this
  · have hi := fun w => refint_c s (by omega) w
    unfold IntRet at hi
    have HV := Lib.hid (normV_three s.data.toList)
    generalize RuS.intR s.data.toList = iv at *
    cases iv with
    | none =>
      simp only [Option.isSome_none] at hi
      go_enter Tryz.func155, Tryz.ntmps155
      go_wp2_with fail
      refine (hty _).mono ?_; rintro e w1 ⟨rfl, hb1⟩
      go_wp2_with fail
      refine (hi _).mono ?_; rintro e w2 ⟨rfl, rfl⟩
      go_wp2_with fail
      go_ret2
      exact NormRet.mk' (r := ([], 2)) (HF.out _ (by rw [HV.out]; rfl)) hb1
    | some n =>
      simp only [Option.isSome_some, Option.getD_some] at hi
      go_enter Tryz.func155, Tryz.ntmps155
      go_wp2_with fail
      refine (hty _).mono ?_; rintro e w1 ⟨rfl, hb1⟩
      go_wp2_with fail
      refine (hi _).mono ?_; rintro e w2 ⟨rfl, rfl⟩
      go_wp2_with fail
      go_ret2
      have := NormRet.mk' (r := (s.data.toList, 0)) (HF.out _ (by rw [HV.out]; rfl)) hb1
      rw [mk_str] at this
      exact this
  · have hp := fun w hE => refparse_c s (by omega) w hE
    unfold ParseRet at hp
    have HV := Lib.hid (normV_four s.data.toList)
    generalize PhS.parseP s.data.toList = pv at *
    cases pv with
    | none =>
      simp only at hp
      go_enter Tryz.func155, Tryz.ntmps155
      go_wp2_with fail
      refine (hty _).mono ?_; rintro e w1 ⟨rfl, hb1⟩
      go_wp2_with fail
      refine (hp _ (hE.below hb1)).mono ?_; rintro e w2 ⟨rfl, hb2⟩
      go_wp2_with fail
      go_ret2
      exact NormRet.mk' (r := ([], 2)) (HF.out _ (by rw [HV.out]; rfl)) (below_alloc (below_trans hb1 hb2) _)
    | some p =>
      obtain ⟨pa, pb⟩ := p
      simp only at hp
      go_enter Tryz.func155, Tryz.ntmps155
      go_wp2_with fail
      refine (hty _).mono ?_; rintro e w1 ⟨rfl, hb1⟩
      go_wp2_with fail
      refine (hp _ (hE.below hb1)).mono ?_; rintro e w2 ⟨rfl, hb2⟩
      go_wp2_with fail
      go_ret2
      have := NormRet.mk' (r := (s.data.toList, 0)) (HF.out _ (by rw [HV.out]; rfl)) (below_alloc (below_trans hb1 hb2) (.cells #[.int .i64 pa, .int .i64 pb] 240))
      rw [mk_str] at this
      exact this

end Go.Proofs.YtifjghkgmfmneaaGreatDoor
