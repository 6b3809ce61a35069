/- The walk of the law PolicyRestricts. Condition: the library's variables are laid; what comes in is of a machine's size. -/
import Derived.Test.YtadhkemdndcjlaaGreatDoorPou
namespace Go.Proofs.YtadhkemdndcjlaaGreatDoor
open Go.RowKit

theorem bytes_lst11 (x : ByteArray) : ∃ l : List UInt8, x = ⟨l.toArray⟩ := ⟨x.data.toList, by cases x; simp⟩
theorem PoS.restrict_sub (l : List PoS.Rl) (c : List UInt8) : (PoS.restrictS l c).length ≤ l.length ∧ ∀ r ∈ PoS.restrictS l c, r ∈ l := by
  unfold PoS.restrictS
  split
  · exact ⟨List.length_filter_le _ _, fun r hr => (List.mem_filter.1 hr).1⟩
  · exact ⟨Nat.zero_le _, fun r hr => by cases hr⟩
theorem keepAsk2 {B : Nat} {w W W' : World} {v u : Value} {xs ys : List PoS.Rl} {g : Nat} {c0 c1 c2 c3 : Value} (h0 : W.cell? ⟨g, 0, none⟩ = some c0) (h1 : W.cell? ⟨g, 1, none⟩ = some c1) (h2 : W.cell? ⟨g, 2, none⟩ = some c2) (h3 : W.cell? ⟨g, 3, none⟩ = some c3)
    (h : PKeep B w v xs W) (k : PKeep B w u ys W) (hb : Below W.heap.size W W') : W'.cell? ⟨g, 0, none⟩ = some c0 ∧ W'.cell? ⟨g, 1, none⟩ = some c1 ∧ W'.cell? ⟨g, 2, none⟩ = some c2 ∧ W'.cell? ⟨g, 3, none⟩ = some c3 ∧ PKeep B w v xs W' ∧ PKeep B w u ys W' :=
  ⟨keepC h0 hb, keepC h1 hb, keepC h2 hb, keepC h3 hb, h.call hb, k.call hb⟩
theorem begAsk2 {B : Nat} {w W : World} {v u : Value} {xs ys : List PoS.Rl} {g : Nat} {c0 c1 c2 c3 : Value} (h0 : W.cell? ⟨g, 0, none⟩ = some c0) (h1 : W.cell? ⟨g, 1, none⟩ = some c1) (h2 : W.cell? ⟨g, 2, none⟩ = some c2) (h3 : W.cell? ⟨g, 3, none⟩ = some c3)
    (h : PKeep B w v xs W) (k : PKeep B w u ys W) : W.drew.cell? ⟨g, 0, none⟩ = some c0 ∧ W.drew.cell? ⟨g, 1, none⟩ = some c1 ∧ W.drew.cell? ⟨g, 2, none⟩ = some c2 ∧ W.drew.cell? ⟨g, 3, none⟩ = some c3 ∧ PKeep B w v xs W.drew ∧ PKeep B w u ys W.drew :=
  ⟨h0, h1, h2, h3, h.drew, k.drew⟩

set_option maxRecDepth 100000 in
set_option maxHeartbeats 4000000 in
theorem lawpolicyrestricts_c (v : Value) (xs : List PoS.Rl) (x1 : ByteArray) (a : Ask) (w : World) (h : RulesIn w v xs) (hl : xs.length ≤ 9223372036854775807) (hs : ∀ r ∈ xs, WideR r) (ha : WideAsk a) (hE : Env w) :
    Calls Tryz.prog 8 #[v, .string x1, askV a] w (True_ w) := by
  obtain ⟨x, rfl⟩ := bytes_lst11 x1
  obtain ⟨s, n, t, right⟩ := a
  obtain ⟨qs, qn, qt, qr⟩ := ha
  simp only at qs qn qt
  have hbx := grow1 w (.cells #[.string ⟨s.toArray⟩, .string ⟨n.toArray⟩, .string ⟨t.toArray⟩, .int .i64 right] 43)
  have hwx := Whole.made w 43 #[.string ⟨s.toArray⟩, .string ⟨n.toArray⟩, .string ⟨t.toArray⟩, .int .i64 right]
  have hEx := hE.below hbx
  have hrx := h.call hbx (Nat.le_refl _)
  obtain ⟨p0, c0, rfl⟩ := h.form
  have hfewc := fun w h => few11_c (.slice p0 xs.length c0) xs w h hl hs
  have haskc := fun w => askfew_c s n t right w qs qn qt
  unfold askV
  simp only
  clear h qs qn qt qr
  go_enter Tryz.func8, Tryz.ntmps8
  go_wp2_with fail
  refine (awake11_c _ hEx).mono ?_; rintro e w1 ⟨rfl, hb1⟩
  have hE1 := hEx.below hb1
  have hr1 := hrx.call hb1 (Nat.le_refl _)
  have hw1 := hwx.call hb1
  have hz1 := below_trans hbx hb1
  clear hEx hrx hwx hbx hb1
  clear hl hs
  go_wp2_with fail
  refine (hfewc _ hr1).mono ?_; rintro e w2 ⟨b, rfl, hfew, hb2⟩
  have hE2 := hE1.below hb2
  have hr2 := hr1.call hb2 (Nat.le_refl _)
  have hw2 := hw1.call hb2
  have hz2 := below_trans hz1 hb2
  have k0 := hw2.cell 0
  have k1 := hw2.cell 1
  have k2 := hw2.cell 2
  have k3 := hw2.cell 3
  simp only [List.getElem?_toArray, List.getElem?_cons_zero, List.getElem?_cons_succ] at k0 k1 k2 k3
  clear hE1 hr1 hw1 hz1 hb2 hfewc
  cases b with
  | false =>
    clear hfew
    go_wp2_with fail
    refine (awake11_c _ hE2).mono ?_; rintro e w9 ⟨rfl, hb9⟩
    go_wp2_with fail
    go_ret
    exact ⟨rfl, below_trans hz2 hb9⟩
  | true =>
  obtain ⟨hxl, hsm⟩ := small_of (hfew (by rfl))
  clear hfew
  go_wp2_with fail
  refine (haskc _).mono ?_; rintro e w3 ⟨b, rfl, hask, hb3⟩
  have HP : PKeep w.heap.size w (.slice p0 xs.length c0) xs w3 := ⟨below_trans hz2 hb3, hr2.call hb3 (Nat.le_refl _), hE2.below hb3⟩
  have d0 := keepC k0 hb3
  have d1 := keepC k1 hb3
  have d2 := keepC k2 hb3
  have d3 := keepC k3 hb3
  clear k0 k1 k2 k3 hE2 hr2 hw2 hz2 hb3 haskc
  cases b with
  | false =>
    clear hask
    go_wp2_with fail
    refine (awake11_c _ HP.env).mono ?_; rintro e w9 ⟨rfl, hb9⟩
    go_wp2_with fail
    go_ret
    exact ⟨rfl, below_trans HP.below hb9⟩
  | true =>
  obtain ⟨ps, pn, pt⟩ := hask (by rfl)
  clear hask
  by_cases hx : 3000 < x.length
  · have hxd : decide ((3000 : Int) < (x.length : Int)) = true := decide_eq_true (by omega)
    clear hx
    go_wp2_with fail
    refine (awake11_c _ HP.env).mono ?_; rintro e w9 ⟨rfl, hb9⟩
    go_wp2_with fail
    go_ret
    exact ⟨rfl, below_trans HP.below hb9⟩
  have hxd : decide ((3000 : Int) < (x.length : Int)) = false := decide_eq_false (by omega)
  have ht := fun w h => theirs11_c (.slice p0 xs.length c0) xs w h hxl
  have hd := fun u w h hE => polDecide_c u xs s n t right w h hsm hxl (by omega) (by omega) (by omega) hE
  have hform := fun w B u (h : OwnR 52 w B u xs) => h.form
  unfold RulesRet at ht
  unfold NmBool at hd
  obtain ⟨hrl, hrm⟩ := PoS.restrict_sub xs x
  have hrs : ∀ r ∈ PoS.restrictS xs x, SmallR r := fun r hr => hsm r (hrm r hr)
  have hres := fun u w h hE => polrestrict_c u xs x w h hsm hxl (by omega) hE
  have hres2 := fun w h hE => refrestrict_c (.slice p0 xs.length c0) xs x w h hsm hxl (by omega) hE
  have hour := fun u w h => ours11_c u (PoS.restrictS xs x) w h (by omega)
  have hsame := fun u1 u2 w h1 h2 => same12_c u1 u2 (PoS.restrictS xs x) w h1 h2 (by omega)
  have hun := fun w hE => rnunder_c n x (by omega) (by omega) w hE
  have hdr := fun u w h hE => polDecide_c u (PoS.restrictS xs x) s n t right w h hrs (by omega) (by omega) (by omega) (by omega) hE
  have HD := Lib.hid (fun h => PoS.restrict_decides (l := xs) (context := x) (name := n) h s right t)
  unfold RulesRet at hres hres2 hour
  unfold True_ at hsame
  unfold NmBool at hun hdr
  clear hsm hxl ps pn pt hx hrl hrm hrs
  generalize PoS.restrictS xs x = R at *
  generalize DnS.underS n x = U at *
  generalize PoS.decideS xs s right n t = D at *
  generalize PoS.decideS R s right n t = D2 at *
  have hformR := fun w B u (h : OwnR 52 w B u R) => h.form
  generalize xs.length = m at *
  go_wp2_with fail
  refine (ht _ HP.rules).mono ?_; rintro e w4 ⟨u, rfl, hu, hb4⟩
  obtain ⟨pu, cu, rfl⟩ := hform _ _ _ hu
  obtain ⟨d0, d1, d2, d3, HP⟩ := keepAsk d0 d1 d2 d3 HP hb4
  go_wp2_with fail
  refine (hres _ _ hu.rules HP.env).mono ?_; rintro e w5 ⟨r, rfl, hr, hb5⟩
  clear hu
  obtain ⟨pr, cr, rfl⟩ := hformR _ _ _ hr
  obtain ⟨d0, d1, d2, d3, HP⟩ := keepAsk d0 d1 d2 d3 HP hb5
  have HQ : PKeep w.heap.size w _ R w5 := ⟨HP.below, hr.rules, HP.env⟩
  clear hr hb4 hb5
  generalize R.length = mr at *
  go_wp2_with fail
  refine (hour _ _ HQ.rules).mono ?_; rintro e w6 ⟨r2, rfl, hr2, hb6⟩
  obtain ⟨d0, d1, d2, d3, HP, HQ⟩ := keepAsk2 d0 d1 d2 d3 HP HQ hb6
  go_wp2_with fail
  refine (hres2 _ HP.rules HP.env).mono ?_; rintro e w7 ⟨r3, rfl, hr3, hb7⟩
  obtain ⟨d0, d1, d2, d3, HP, HQ⟩ := keepAsk2 d0 d1 d2 d3 HP HQ hb7
  go_wp2_with fail
  refine (hsame _ _ _ (hr2.rules.call hb7 (Nat.le_refl _)) hr3.rules).mono ?_; rintro e w8 ⟨rfl, hb8⟩
  obtain ⟨d0, d1, d2, d3, HP, HQ⟩ := keepAsk2 d0 d1 d2 d3 HP HQ hb8
  clear hr2 hr3 hb6 hb7 hb8 hour hsame hres hres2
  go_wp2_with fail
  refine (hun _ HP.env).mono ?_; rintro e wa ⟨rfl, hba⟩
  obtain ⟨d0, d1, d2, d3, HP, HQ⟩ := keepAsk2 d0 d1 d2 d3 HP HQ hba
  clear hun hba
  cases U with
  | false =>
    go_wp2_with fail
    go_ret
    exact ⟨rfl, HP.below⟩
  | true =>
    obtain rfl : D2 = D := HD.out (by trivial)
    clear HD
    go_wp2_with fail
    go_region_held3 (fun w' => w'.cell? ⟨w.heap.size, 0, none⟩ = some (.string ⟨s.toArray⟩) ∧ w'.cell? ⟨w.heap.size, 1, none⟩ = some (.string ⟨n.toArray⟩) ∧ w'.cell? ⟨w.heap.size, 2, none⟩ = some (.string ⟨t.toArray⟩) ∧ w'.cell? ⟨w.heap.size, 3, none⟩ = some (.int .i64 right) ∧ PKeep w.heap.size w (.slice p0 m c0) xs w' ∧ PKeep w.heap.size w (.slice pr mr cr) R w')
      (first | exact begAsk2 d0 d1 d2 d3 HP HQ | (go_split_ands; exact keepAsk2 (by assumption) (by assumption) (by assumption) (by assumption) (by assumption) (by assumption) hbN) | go_keep)
      (first
        | (go_at_call 35; go_split_ands; refine (ht _ ?_).mono ?_; exact PKeep.rules (by assumption); rintro e wN ⟨u, rfl, hu, hbN⟩; obtain ⟨pu, cu, rfl⟩ := hform _ _ _ hu; have hur := OwnR.rules hu)
        | (go_at_call 34; go_split_ands; refine (hdr _ _ ?_ ?_).mono ?_; exact PKeep.rules (by assumption); exact PKeep.env (xs := xs) (by assumption); rintro e wN ⟨rfl, hbN⟩)
        | (go_at_call 34; go_split_ands; refine (hd _ _ ?_ ?_).mono ?_; assumption; exact PKeep.env (by assumption); rintro e wN ⟨rfl, hbN⟩))
    all_goals go_wp2_with fail
    all_goals go_split_ands
    all_goals go_ret
    all_goals exact ⟨rfl, PKeep.below (xs := xs) (by assumption)⟩
end Go.Proofs.YtadhkemdndcjlaaGreatDoor
