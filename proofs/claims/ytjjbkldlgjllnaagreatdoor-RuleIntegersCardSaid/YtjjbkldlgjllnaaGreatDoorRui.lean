/- The walks of the laws of normal forms and of alike values. Condition: the library's variables are laid. -/
import Derived.Test.YtjjbkldlgjllnaaGreatDoorRuC
import Derived.Test.YtjjbkldlgjllnaaGreatDoorRuh
namespace Go.Proofs.YtjjbkldlgjllnaaGreatDoor
open Go.RowKit

theorem few2 (a b : ByteArray) (w : World) : Calls Tryz.prog 21 #[.slice (some ⟨w.heap.size, 0, none⟩) 2 2] (w.alloc (.cells #[.string a, .string b] 9)) fun e w' =>
    e = .returned (.bool (decide (a.data.toList.length ≤ 3000) && decide (b.data.toList.length ≤ 3000))) ∧ (w.alloc (.cells #[.string a, .string b] 9)) = w' := by
  have hfew := few04_c (.slice (some ⟨w.heap.size, 0, none⟩) 2 2) [a.data.toList, b.data.toList] _ (StrsIn.laid w [a.data.toList, b.data.toList] 2 rfl) (by simp)
  unfold FewRet at hfew
  have e1 : ∀ s : ByteArray, strV s.data.toList = .string s := fun s => by unfold strV; rw [mk_str]
  simp only [List.map_cons, List.map_nil, e1, List.all_cons, List.all_nil, Bool.and_true] at hfew
  exact hfew
theorem few3 (a b c : ByteArray) (w : World) : Calls Tryz.prog 21 #[.slice (some ⟨w.heap.size, 0, none⟩) 3 3] (w.alloc (.cells #[.string a, .string b, .string c] 9)) fun e w' =>
    e = .returned (.bool (decide (a.data.toList.length ≤ 3000) && (decide (b.data.toList.length ≤ 3000) && decide (c.data.toList.length ≤ 3000)))) ∧ (w.alloc (.cells #[.string a, .string b, .string c] 9)) = w' := by
  have hfew := few04_c (.slice (some ⟨w.heap.size, 0, none⟩) 3 3) [a.data.toList, b.data.toList, c.data.toList] _ (StrsIn.laid w [a.data.toList, b.data.toList, c.data.toList] 3 rfl) (by simp)
  unfold FewRet at hfew
  have e1 : ∀ s : ByteArray, strV s.data.toList = .string s := fun s => by unfold strV; rw [mk_str]
  simp only [List.map_cons, List.map_nil, e1, List.all_cons, List.all_nil, Bool.and_true] at hfew
  exact hfew

set_option maxRecDepth 100000 in
theorem normals_c (nm s : ByteArray) (hn : nm.size ≤ 9223372036854775807) (hs : s.size ≤ 9223372036854775807) (w : World) (hE : Env w) : Calls Tryz.prog 3 #[.string nm, .string s] w (True_ w) := by
  have hfew := fun w => few2 nm s w
  generalize (decide (nm.data.toList.length ≤ 3000) && decide (s.data.toList.length ≤ 3000)) = q at *
  cases q with
  | false =>
    go_enter Tryz.func3, Tryz.ntmps3
    go_wp2_with fail
    refine (awake04_c _ hE).mono ?_; rintro e w1 ⟨rfl, hb1⟩
    go_wp2_with fail
    refine (hfew _).mono ?_; rintro e w2 ⟨rfl, rfl⟩
    go_wp2_with fail
    refine (awake04_c _ ((hE.below hb1).alloc _)).mono ?_; rintro e w2 ⟨rfl, hb2⟩
    go_wp2_with fail
    go_ret
    exact ⟨rfl, below_trans (below_trans hb1 (grow1 _ _)) hb2⟩
  | true =>
    have h1 := fun w hE => rulenormal_c nm s hn hs w hE
    have h2 := fun w hE => refnormal_c nm s hn hs w hE
    unfold NormRet at h1 h2
    have hlen := RuS.normal_len nm.data.toList s.data.toList
    have hid := fun t => RuS.normal_idem (nm := nm.data.toList) (v := s.data.toList) (s := t)
    generalize RuS.normal nm.data.toList s.data.toList = r at *
    obtain ⟨t, e0⟩ := r
    simp only at h1 h2 hlen
    by_cases z : e0 = 0
    · subst z
      have hid' := hid t rfl
      have h3 := fun w hE => rulenormal_c nm ⟨t.toArray⟩ hn (by show t.length ≤ _; omega) w hE
      unfold NormRet at h3
      have ht : (⟨t.toArray⟩ : ByteArray).data.toList = t := rfl
      rw [ht, hid'] at h3
      clear ht hid hid'
      go_enter Tryz.func3, Tryz.ntmps3
      go_wp2_with fail
      refine (awake04_c _ hE).mono ?_; rintro e w1 ⟨rfl, hb1⟩
      go_wp2_with fail
      refine (hfew _).mono ?_; rintro e w2 ⟨rfl, rfl⟩
      have hE1 := (hE.below hb1).alloc (.cells #[.string nm, .string s] 9)
      go_wp2_with fail
      refine (h1 _ hE1).mono ?_; rintro e w2 ⟨rfl, hb2⟩
      go_wp2_with fail
      refine (h2 _ (hE1.below hb2)).mono ?_; rintro e w3 ⟨rfl, hb3⟩
      go_wp2_with fail
      refine (h3 _ ((hE1.below hb2).below hb3)).mono ?_; rintro e w4 ⟨rfl, hb4⟩
      go_wp2_with fail
      go_ret
      exact ⟨rfl, below_trans (below_trans (below_trans (below_trans hb1 (grow1 _ _)) hb2) hb3) hb4⟩
    · have hz : (e0 == 0) = false := by simpa using z
      have hz2 : (e0 != 0) = true := by simpa using z
      clear z hid
      go_enter Tryz.func3, Tryz.ntmps3
      go_wp2_with fail
      refine (awake04_c _ hE).mono ?_; rintro e w1 ⟨rfl, hb1⟩
      go_wp2_with fail
      refine (hfew _).mono ?_; rintro e w2 ⟨rfl, rfl⟩
      have hE1 := (hE.below hb1).alloc (.cells #[.string nm, .string s] 9)
      go_wp2_with fail
      refine (h1 _ hE1).mono ?_; rintro e w2 ⟨rfl, hb2⟩
      go_wp2_with fail
      refine (h2 _ (hE1.below hb2)).mono ?_; rintro e w3 ⟨rfl, hb3⟩
      go_wp2_with fail
      go_ret
      exact ⟨rfl, below_trans (below_trans (below_trans hb1 (grow1 _ _)) hb2) hb3⟩

theorem errB_zero (nm a b : List UInt8) : errB nm a b = 0 ↔ (RuS.normal nm a).2 = 0 ∧ (RuS.normal nm b).2 = 0 := by
  unfold errB
  by_cases h : (RuS.normal nm a).2 = 0
  · rw [if_neg (by simpa using h)]; exact ⟨fun h2 => ⟨h, h2⟩, fun h2 => h2.2⟩
  · rw [if_pos h]; exact ⟨fun h2 => absurd h2 h, fun h2 => h2.1⟩
theorem sameB_swap (nm a b : List UInt8) : sameB nm b a = sameB nm a b := by
  unfold sameB
  have h1 : decide (errB nm b a = 0) = decide (errB nm a b = 0) := by
    apply decide_eq_decide.2
    rw [errB_zero, errB_zero, And.comm]
  have h2 : ((RuS.normal nm b).1 == (RuS.normal nm a).1) = ((RuS.normal nm a).1 == (RuS.normal nm b).1) := by
    rw [Bool.eq_iff_iff, beq_iff_eq, beq_iff_eq]; exact eq_comm
  rw [h1, h2]

set_option maxRecDepth 100000 in
theorem lawsame_c (nm a b : ByteArray) (hn : nm.size ≤ 9223372036854775807) (ha : a.size ≤ 9223372036854775807) (hb : b.size ≤ 9223372036854775807) (w : World) (hE : Env w) :
    Calls Tryz.prog 4 #[.string nm, .string a, .string b] w (True_ w) := by
  have hfew := fun w => few3 nm a b w
  generalize (decide (nm.data.toList.length ≤ 3000) && (decide (a.data.toList.length ≤ 3000) && decide (b.data.toList.length ≤ 3000))) = q at *
  cases q with
  | false =>
    go_enter Tryz.func4, Tryz.ntmps4
    go_wp2_with fail
    refine (awake04_c _ hE).mono ?_; rintro e w1 ⟨rfl, hb1⟩
    go_wp2_with fail
    refine (hfew _).mono ?_; rintro e w2 ⟨rfl, rfl⟩
    go_wp2_with fail
    refine (awake04_c _ ((hE.below hb1).alloc _)).mono ?_; rintro e w2 ⟨rfl, hb2⟩
    go_wp2_with fail
    go_ret
    exact ⟨rfl, below_trans (below_trans hb1 (grow1 _ _)) hb2⟩
  | true =>
    have h1 := fun w hE => same_c nm a b hn ha hb w hE
    have h2 := fun w hE => refsame_c nm a b hn ha hb w hE
    have h3 := fun w hE => same_c nm b a hn hb ha w hE
    unfold SameRet at h1 h2 h3
    rw [sameB_swap] at h3
    generalize sameB nm.data.toList a.data.toList b.data.toList = p at *
    generalize errB nm.data.toList a.data.toList b.data.toList = e1 at *
    generalize errB nm.data.toList b.data.toList a.data.toList = e2 at *
    cases p
    all_goals
      go_enter Tryz.func4, Tryz.ntmps4
      go_wp2_with fail
      refine (awake04_c _ hE).mono ?_; rintro e w1 ⟨rfl, hb1⟩
      go_wp2_with fail
      refine (hfew _).mono ?_; rintro e w2 ⟨rfl, rfl⟩
      have hE1 := (hE.below hb1).alloc (.cells #[.string nm, .string a, .string b] 9)
      go_wp2_with fail
      refine (h1 _ hE1).mono ?_; rintro e w2 ⟨rfl, hb2⟩
      go_wp2_with fail
      refine (h2 _ (hE1.below hb2)).mono ?_; rintro e w3 ⟨rfl, hb3⟩
      go_wp2_with fail
      refine (h3 _ ((hE1.below hb2).below hb3)).mono ?_; rintro e w4 ⟨rfl, hb4⟩
      go_wp2_with fail
      go_ret
      exact ⟨rfl, below_trans (below_trans (below_trans (below_trans hb1 (grow1 _ _)) hb2) hb3) hb4⟩
end Go.Proofs.YtjjbkldlgjllnaaGreatDoor
