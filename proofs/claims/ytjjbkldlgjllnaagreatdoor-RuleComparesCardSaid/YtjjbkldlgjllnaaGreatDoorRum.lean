/- The walks of the laws of near values and of the comparison of values. Condition: the library's variables are laid. -/
import Derived.Test.YtjjbkldlgjllnaaGreatDoorRul
namespace Go.Proofs.YtjjbkldlgjllnaaGreatDoor
open Go.RowKit

theorem same_near {nm a b : List UInt8} (h : sameB nm a b = true) : nearB nm a b = true := by
  unfold sameB at h
  unfold nearB
  rw [Bool.and_eq_true] at h ⊢
  refine ⟨h.1, ?_⟩
  rw [beq_iff_eq.1 h.2]
  unfold nearN
  split
  · simp
  · split <;> simp

set_option maxRecDepth 100000 in
theorem lawnear_c (nm a b : ByteArray) (hn : nm.size ≤ 9223372036854775807) (ha : a.size ≤ 9223372036854775807) (hb : b.size ≤ 9223372036854775807) (w : World) (hE : Env w) :
    Calls Tryz.prog 5 #[.string nm, .string a, .string b] w (True_ w) := by
  have hfew := fun w => few3 nm a b w
  generalize (decide (nm.data.toList.length ≤ 3000) && (decide (a.data.toList.length ≤ 3000) && decide (b.data.toList.length ≤ 3000))) = q at *
  cases q with
  | false =>
    go_enter Tryz.func5, Tryz.ntmps5
    go_wp2_with fail
    refine (awake04_c _ hE).mono ?_; rintro e w1 ⟨rfl, hb1⟩
    go_wp2_with fail
    refine (hfew _).mono ?_; rintro e w2 ⟨rfl, rfl⟩
    go_wp2_with fail
    refine (awake04_c _ ((hE.below hb1).alloc _)).mono ?_; rintro e w2 ⟨rfl, hb2⟩
    go_wp2_with fail
    go_ret
    exact ⟨rfl, below_trans (below_trans hb1 (grow1 _ _)) hb2⟩
  | true =>
    have h1 := fun w hE => near_c nm a b hn ha hb w hE
    have h2 := fun w hE => refnear_c nm a b hn ha hb w hE
    have h3 := fun w hE => same_c nm a b hn ha hb w hE
    unfold NearRet at h1 h2
    unfold SameRet at h3
    have hq : nearB nm.data.toList a.data.toList b.data.toList = true ∨ sameB nm.data.toList a.data.toList b.data.toList = false := by
      cases h : sameB nm.data.toList a.data.toList b.data.toList with
      | false => exact .inr rfl
      | true => exact .inl (same_near h)
    generalize sameB nm.data.toList a.data.toList b.data.toList = p at *
    generalize nearB nm.data.toList a.data.toList b.data.toList = r at *
    generalize errB nm.data.toList a.data.toList b.data.toList = e1 at *
    by_cases z1 : e1 = 0
    · subst z1
      cases p
      all_goals cases r
      case true.false => simp at hq
      all_goals
        clear hq
        go_enter Tryz.func5, Tryz.ntmps5
        go_wp2_with fail
        refine (awake04_c _ hE).mono ?_; rintro e w1 ⟨rfl, hb1⟩
        go_wp2_with fail
        refine (hfew _).mono ?_; rintro e w2 ⟨rfl, rfl⟩
        have hE1 := (hE.below hb1).alloc (.cells #[.string nm, .string a, .string b] 9)
        go_wp2_with fail
        refine (h1 _ hE1).mono ?_; rintro e w2 ⟨rfl, hb2⟩
        go_wp2_with fail
        refine (h2 _ (hE1.below hb2)).mono ?_; rintro e w3 ⟨rfl, hb3⟩
        go_wp2_with fail
        refine (h3 _ ((hE1.below hb2).below hb3)).mono ?_; rintro e w4 ⟨rfl, hb4⟩
        go_wp2_with fail
        go_ret
        exact ⟨rfl, below_trans (below_trans (below_trans (below_trans hb1 (grow1 _ _)) hb2) hb3) hb4⟩
    · have hz : (e1 != 0) = true := by simpa using z1
      clear z1 hq
      cases r
      all_goals
        go_enter Tryz.func5, Tryz.ntmps5
        go_wp2_with fail
        refine (awake04_c _ hE).mono ?_; rintro e w1 ⟨rfl, hb1⟩
        go_wp2_with fail
        refine (hfew _).mono ?_; rintro e w2 ⟨rfl, rfl⟩
        have hE1 := (hE.below hb1).alloc (.cells #[.string nm, .string a, .string b] 9)
        go_wp2_with fail
        refine (h1 _ hE1).mono ?_; rintro e w2 ⟨rfl, hb2⟩
        go_wp2_with fail
        refine (h2 _ (hE1.below hb2)).mono ?_; rintro e w3 ⟨rfl, hb3⟩
        go_wp2_with fail
        refine (h3 _ ((hE1.below hb2).below hb3)).mono ?_; rintro e w4 ⟨rfl, hb4⟩
        go_wp2_with fail
        go_ret
        exact ⟨rfl, below_trans (below_trans (below_trans (below_trans hb1 (grow1 _ _)) hb2) hb3) hb4⟩

set_option maxRecDepth 100000 in
theorem lawcompares_c (nm a b : ByteArray) (hn : nm.size ≤ 9223372036854775807) (ha : a.size ≤ 9223372036854775807) (hb : b.size ≤ 9223372036854775807) (w : World) (hE : Env w) :
    Calls Tryz.prog 7 #[.string nm, .string a, .string b] w (True_ w) := by
  have hfew := fun w => few3 nm a b w
  generalize (decide (nm.data.toList.length ≤ 3000) && (decide (a.data.toList.length ≤ 3000) && decide (b.data.toList.length ≤ 3000))) = q at *
  cases q with
  | false =>
    go_enter Tryz.func7, Tryz.ntmps7
    go_wp2_with fail
    refine (awake04_c _ hE).mono ?_; rintro e w1 ⟨rfl, hb1⟩
    go_wp2_with fail
    refine (hfew _).mono ?_; rintro e w2 ⟨rfl, rfl⟩
    go_wp2_with fail
    refine (awake04_c _ ((hE.below hb1).alloc _)).mono ?_; rintro e w2 ⟨rfl, hb2⟩
    go_wp2_with fail
    go_ret
    exact ⟨rfl, below_trans (below_trans hb1 (grow1 _ _)) hb2⟩
  | true =>
    have h1 := fun w hE => rulecompare_c nm a b hn ha hb w hE
    have h2 := fun w hE => refcompareV_c nm a b hn ha hb w hE
    have h3 := fun w hE => rulecompare_c nm b a hn hb ha w hE
    have h4 := fun w hE => same_c nm a b hn ha hb w hE
    unfold CmpRet at h1 h2 h3
    unfold SameRet at h4
    rw [cmpB_swap] at h3
    have hr := cmpB_range nm.data.toList a.data.toList b.data.toList
    have hs : errB nm.data.toList a.data.toList b.data.toList = 0 → decide (cmpB nm.data.toList a.data.toList b.data.toList = 0) = sameB nm.data.toList a.data.toList b.data.toList := cmpB_same
    generalize sameB nm.data.toList a.data.toList b.data.toList = p at *
    generalize cmpB nm.data.toList a.data.toList b.data.toList = r at *
    generalize errB nm.data.toList a.data.toList b.data.toList = e1 at *
    generalize errB nm.data.toList b.data.toList a.data.toList = e2 at *
    have hwr : IntKind.i64.wrap (-r) = -r := Go.IntWalk.i64_in _ (by omega)
    by_cases z1 : e1 = 0
    · subst z1
      have hp := hs rfl
      have hp2 : (r == 0) = p := by rw [← hp]; rfl
      clear hs hp
      subst hp2
      go_enter Tryz.func7, Tryz.ntmps7
      go_wp2_with fail
      refine (awake04_c _ hE).mono ?_; rintro e w1 ⟨rfl, hb1⟩
      go_wp2_with fail
      refine (hfew _).mono ?_; rintro e w2 ⟨rfl, rfl⟩
      have hE1 := (hE.below hb1).alloc (.cells #[.string nm, .string a, .string b] 9)
      go_wp2_with fail
      refine (h1 _ hE1).mono ?_; rintro e w2 ⟨rfl, hb2⟩
      go_wp2_with fail
      refine (h2 _ (hE1.below hb2)).mono ?_; rintro e w3 ⟨rfl, hb3⟩
      go_wp2_with fail
      refine (h3 _ ((hE1.below hb2).below hb3)).mono ?_; rintro e w4 ⟨rfl, hb4⟩
      go_wp2_with fail
      refine (h4 _ (((hE1.below hb2).below hb3).below hb4)).mono ?_; rintro e w5 ⟨rfl, hb5⟩
      go_wp2_with fail
      all_goals go_ret
      all_goals exact ⟨by first | rfl | (simp; done), below_trans (below_trans (below_trans (below_trans (below_trans hb1 (grow1 _ _)) hb2) hb3) hb4) hb5⟩
    · have hz : (e1 != 0) = true := by simpa using z1
      clear z1 hs
      go_enter Tryz.func7, Tryz.ntmps7
      go_wp2_with fail
      refine (awake04_c _ hE).mono ?_; rintro e w1 ⟨rfl, hb1⟩
      go_wp2_with fail
      refine (hfew _).mono ?_; rintro e w2 ⟨rfl, rfl⟩
      have hE1 := (hE.below hb1).alloc (.cells #[.string nm, .string a, .string b] 9)
      go_wp2_with fail
      refine (h1 _ hE1).mono ?_; rintro e w2 ⟨rfl, hb2⟩
      go_wp2_with fail
      refine (h2 _ (hE1.below hb2)).mono ?_; rintro e w3 ⟨rfl, hb3⟩
      go_wp2_with fail
      refine (h3 _ ((hE1.below hb2).below hb3)).mono ?_; rintro e w4 ⟨rfl, hb4⟩
      go_wp2_with fail
      refine (h4 _ (((hE1.below hb2).below hb3).below hb4)).mono ?_; rintro e w5 ⟨rfl, hb5⟩
      go_wp2_with fail
      go_ret
      exact ⟨rfl, below_trans (below_trans (below_trans (below_trans (below_trans hb1 (grow1 _ _)) hb2) hb3) hb4) hb5⟩
end Go.Proofs.YtjjbkldlgjllnaaGreatDoor
