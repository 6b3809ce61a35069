/- The walk of the law PolicySpelt. Condition: the library's variables are laid; what comes in is of a machine's size. -/
import Derived.Test.YtadhkemdndcjlaaGreatDoorPou
import Derived.Deep.DrawnRows
namespace Go.Proofs.YtadhkemdndcjlaaGreatDoor
open Go.RowKit
attribute [local go_sem ↓] Go.wp_at_zero Go.wp_at_succ

set_option maxRecDepth 100000 in
set_option maxHeartbeats 4000000 in
theorem lawpolicyspelt_c (v : Value) (xs : List PoS.Rl) (a : Ask) (w : World) (h : RulesIn w v xs) (hl : xs.length ≤ 9223372036854775807) (hs : ∀ r ∈ xs, WideR r) (ha : WideAsk a) (hE : Env w) :
    Calls Tryz.prog 6 #[v, askV a] w (True_ w) := by
  obtain ⟨s, n, t, right⟩ := a
  obtain ⟨qs, qn, qt, qr⟩ := ha
  simp only at qs qn qt
  have hbx := grow1 w (.cells #[.string ⟨s.toArray⟩, .string ⟨n.toArray⟩, .string ⟨t.toArray⟩, .int .i64 right] 43)
  have hwx := Whole.made w 43 #[.string ⟨s.toArray⟩, .string ⟨n.toArray⟩, .string ⟨t.toArray⟩, .int .i64 right]
  have hEx := hE.below hbx
  have hrx := h.call hbx (Nat.le_refl _)
  obtain ⟨p0, c0, rfl⟩ := h.form
  have hfewc := fun w h => few11_c (.slice p0 xs.length c0) xs w h hl hs
  have haskc := fun w => askfew_c s n t right w qs qn qt
  unfold askV
  simp only
  clear h qs qn qt qr
  go_enter Tryz.func6, Tryz.ntmps6
  go_wp2_with fail
  refine (awake11_c _ hEx).mono ?_; rintro e w1 ⟨rfl, hb1⟩
  have hE1 := hEx.below hb1
  have hr1 := hrx.call hb1 (Nat.le_refl _)
  have hw1 := hwx.call hb1
  have hz1 := below_trans hbx hb1
  clear hEx hrx hwx hbx hb1
  clear hl hs
  go_wp2_with fail
  refine (hfewc _ hr1).mono ?_; rintro e w2 ⟨b, rfl, hfew, hb2⟩
  have hE2 := hE1.below hb2
  have hr2 := hr1.call hb2 (Nat.le_refl _)
  have hw2 := hw1.call hb2
  have hz2 := below_trans hz1 hb2
  have k0 := hw2.cell 0
  have k1 := hw2.cell 1
  have k2 := hw2.cell 2
  have k3 := hw2.cell 3
  simp only [List.getElem?_toArray, List.getElem?_cons_zero, List.getElem?_cons_succ] at k0 k1 k2 k3
  clear hE1 hr1 hw1 hz1 hb2 hfewc
  cases b with
  | false =>
    clear hfew
    go_wp2_with fail
    refine (awake11_c _ hE2).mono ?_; rintro e w9 ⟨rfl, hb9⟩
    go_wp2_with fail
    go_ret
    exact ⟨rfl, below_trans hz2 hb9⟩
  | true =>
  obtain ⟨hxl, hsm⟩ := small_of (hfew (by rfl))
  clear hfew
  go_wp2_with fail
  refine (haskc _).mono ?_; rintro e w3 ⟨b, rfl, hask, hb3⟩
  have HP : PKeep w.heap.size w (.slice p0 xs.length c0) xs w3 := ⟨below_trans hz2 hb3, hr2.call hb3 (Nat.le_refl _), hE2.below hb3⟩
  have d0 := keepC k0 hb3
  have d1 := keepC k1 hb3
  have d2 := keepC k2 hb3
  have d3 := keepC k3 hb3
  clear k0 k1 k2 k3 hE2 hr2 hw2 hz2 hb3 haskc
  cases b with
  | false =>
    clear hask
    go_wp2_with fail
    refine (awake11_c _ HP.env).mono ?_; rintro e w9 ⟨rfl, hb9⟩
    go_wp2_with fail
    go_ret
    exact ⟨rfl, below_trans HP.below hb9⟩
  | true =>
  obtain ⟨ps, pn, pt⟩ := hask (by rfl)
  clear hask
  have ht := fun w h => theirs11_c (.slice p0 xs.length c0) xs w h hxl
  have hd := fun u w h hE => polDecide_c u xs s n t right w h hsm hxl (by omega) (by omega) (by omega) hE
  have hform := fun w B u (h : OwnR 52 w B u xs) => h.form
  unfold RulesRet at ht
  unfold NmBool at hd
  have h1 := fun w hE => rnnormal_c s (by omega) w hE
  have h2 := fun w hE => rnnormal_c n (by omega) w hE
  have l1 := DnS.norm_len s
  have l2 := DnS.norm_len n
  have HB := Lib.hid (fun h => PoS.bad_decides (l := xs) (subject := s) (name := n) h right t)
  have HS := Lib.hid (fun a b => PoS.spelt_decides (l := xs) (subject := s) (name := n) a b right t)
  unfold NmTxt at h1 h2
  generalize DnS.normN s = A at *
  obtain ⟨sn, e1⟩ := A
  generalize DnS.normN n = B at *
  obtain ⟨nn, e2⟩ := B
  simp only at h1 h2 l1 l2 HB HS
  have hdn := fun u w h hE => polDecide_c u xs sn nn t right w h hsm hxl (by omega) (by omega) (by omega) hE
  unfold NmBool at hdn
  clear hsm hxl ps pn pt l1 l2
  go_wp2_with fail
  refine (h1 _ HP.env).mono ?_; rintro e w4 ⟨rfl, hb4⟩
  obtain ⟨d0, d1, d2, d3, HP⟩ := keepAsk d0 d1 d2 d3 HP hb4
  go_wp2_with fail
  refine (h2 _ HP.env).mono ?_; rintro e w5 ⟨rfl, hb5⟩
  obtain ⟨d0, d1, d2, d3, HP⟩ := keepAsk d0 d1 d2 d3 HP hb5
  clear h1 h2 hb4 hb5
  by_cases z1 : e1 = 0
  · by_cases z2 : e2 = 0
    · subst z1
      subst z2
      have hD := HS.out (by trivial) (by trivial)
      rw [hD] at hdn
      clear HB HS hD
      generalize PoS.decideS xs s right n t = D at *
      generalize xs.length = m at *
      go_wp2_with fail
      go_region_held3 (fun w' => w'.cell? ⟨w.heap.size, 0, none⟩ = some (.string ⟨s.toArray⟩) ∧ w'.cell? ⟨w.heap.size, 1, none⟩ = some (.string ⟨n.toArray⟩) ∧ w'.cell? ⟨w.heap.size, 2, none⟩ = some (.string ⟨t.toArray⟩) ∧ w'.cell? ⟨w.heap.size, 3, none⟩ = some (.int .i64 right) ∧ PKeep w.heap.size w (.slice p0 m c0) xs w')
        (first | exact begAsk d0 d1 d2 d3 HP | (go_split_ands; exact keepAsk (by assumption) (by assumption) (by assumption) (by assumption) (by assumption) hbN) | go_keep)
        (first
          | (go_at_call 35; go_split_ands; with_reducible refine (ht _ ?_).mono ?_; exact PKeep.rules (by assumption); rintro e wN ⟨u, rfl, hu, hbN⟩; obtain ⟨pu, cu, rfl⟩ := hform _ _ _ hu; have hur := OwnR.rules hu)
          | (go_at_call 34; go_split_ands; with_reducible refine (hdn _ _ ?_ ?_).mono ?_; assumption; exact PKeep.env (by assumption); rintro e wN ⟨rfl, hbN⟩)
          | (go_at_call 34; go_split_ands; with_reducible refine (hd _ _ ?_ ?_).mono ?_; assumption; exact PKeep.env (by assumption); rintro e wN ⟨rfl, hbN⟩))
      all_goals go_wp2_with fail
      all_goals go_split_ands
      all_goals go_ret
      all_goals exact ⟨rfl, PKeep.below (by assumption)⟩
    · have z1b : (e1 != 0) = false := by rw [z1]; rfl
      have z2b : (e2 != 0) = true := by simpa using z2
      have hD := HB.out (.inr z2)
      rw [hD] at hd
      clear HB HS hD z2 hdn
      generalize xs.length = m at *
      go_wp2_with fail
      go_region_held3 (fun w' => w'.cell? ⟨w.heap.size, 0, none⟩ = some (.string ⟨s.toArray⟩) ∧ w'.cell? ⟨w.heap.size, 1, none⟩ = some (.string ⟨n.toArray⟩) ∧ w'.cell? ⟨w.heap.size, 2, none⟩ = some (.string ⟨t.toArray⟩) ∧ w'.cell? ⟨w.heap.size, 3, none⟩ = some (.int .i64 right) ∧ PKeep w.heap.size w (.slice p0 m c0) xs w')
        (first | exact begAsk d0 d1 d2 d3 HP | (go_split_ands; exact keepAsk (by assumption) (by assumption) (by assumption) (by assumption) (by assumption) hbN) | go_keep)
        (first
          | (go_at_call 35; go_split_ands; with_reducible refine (ht _ ?_).mono ?_; exact PKeep.rules (by assumption); rintro e wN ⟨u, rfl, hu, hbN⟩; obtain ⟨pu, cu, rfl⟩ := hform _ _ _ hu; have hur := OwnR.rules hu)
          | (go_at_call 34; go_split_ands; with_reducible refine (hd _ _ ?_ ?_).mono ?_; assumption; exact PKeep.env (by assumption); rintro e wN ⟨rfl, hbN⟩))
      all_goals go_wp2_with fail
      all_goals go_split_ands
      all_goals go_ret
      all_goals exact ⟨rfl, PKeep.below (by assumption)⟩
  · have z1b : (e1 != 0) = true := by simpa using z1
    have hD := HB.out (.inl z1)
    rw [hD] at hd
    clear HB HS hD z1 hdn
    generalize xs.length = m at *
    go_wp2_with fail
    go_region_held3 (fun w' => w'.cell? ⟨w.heap.size, 0, none⟩ = some (.string ⟨s.toArray⟩) ∧ w'.cell? ⟨w.heap.size, 1, none⟩ = some (.string ⟨n.toArray⟩) ∧ w'.cell? ⟨w.heap.size, 2, none⟩ = some (.string ⟨t.toArray⟩) ∧ w'.cell? ⟨w.heap.size, 3, none⟩ = some (.int .i64 right) ∧ PKeep w.heap.size w (.slice p0 m c0) xs w')
      (first | exact begAsk d0 d1 d2 d3 HP | (go_split_ands; exact keepAsk (by assumption) (by assumption) (by assumption) (by assumption) (by assumption) hbN) | go_keep)
      (first
        | (go_at_call 35; go_split_ands; with_reducible refine (ht _ ?_).mono ?_; exact PKeep.rules (by assumption); rintro e wN ⟨u, rfl, hu, hbN⟩; obtain ⟨pu, cu, rfl⟩ := hform _ _ _ hu; have hur := OwnR.rules hu)
        | (go_at_call 34; go_split_ands; with_reducible refine (hd _ _ ?_ ?_).mono ?_; assumption; exact PKeep.env (by assumption); rintro e wN ⟨rfl, hbN⟩))
    all_goals go_wp2_with fail
    all_goals go_split_ands
    all_goals go_ret
    all_goals exact ⟨rfl, PKeep.below (by assumption)⟩
end Go.Proofs.YtadhkemdndcjlaaGreatDoor
