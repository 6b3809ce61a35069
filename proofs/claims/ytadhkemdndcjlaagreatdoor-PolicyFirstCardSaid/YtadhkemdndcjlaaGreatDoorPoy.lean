/- The walk of the law PolicyFirst. Condition: the library's variables are laid; what comes in is of a machine's size. -/
import Derived.Test.YtadhkemdndcjlaaGreatDoorPou
namespace Go.Proofs.YtadhkemdndcjlaaGreatDoor
open Go.RowKit

theorem alloc_sz (w : World) (o : Obj) : (w.alloc o).heap.size = w.heap.size + 1 := by
  show (w.heap.push _).size = _
  simp
theorem World.ownR_lit (T : TypeId) (w : World) (B : Nat) (hB : B ≤ w.heap.size) (r : PoS.Rl) : OwnR T (w.alloc (.cells (oneC r).toArray T)) B (.slice (some ⟨w.heap.size, 0, none⟩) 1 1) [r] := by
  refine ⟨by simp [oneC, ruleC], .inr ⟨w.heap.size, 1, (oneC r).toArray, rfl, hB, heap_alloc_new w _, Nat.le_refl _, by unfold maxLen; omega, by simp [oneC], ?_⟩⟩
  simp [ruleC, oneC]
theorem append_nil_rules {w : World} {B : Nat} {v : Value} {n : Nat} {xs : List Value} (ty : TypeId) (hown : w.ownsRow B 52 5 v n xs) (c : Nat) : (Builtin.append_ #[46, 46] ty #[v, .slice none 0 c]).run Tryz.prog w = .ok v w := by
  obtain ⟨i0, hi, hz0, hz1, hz2⟩ := info_parts infoRule
  have hu := run_underlying Tryz.underlying46
  rcases hown.2 with ⟨rfl, rfl⟩ | ⟨g, cap, cur, rfl, _, _, hnc, _⟩
  · simp [Builtin.append_, hu, sizeOf, typeInfo, hi, Builtin.lenOf, Builtin.firstCells]
  · simp [Builtin.append_, hu, sizeOf, typeInfo, hi, Builtin.lenOf, Builtin.firstCells, hnc, storeCells]
/-- a slice of rules more, in a region -/
theorem step_rules {w : World} {ops : Array Oper} {o : Oper} {a : Act} {K : Act → World → Prop} {Q : Exit → Act → World → Prop} {E : Prop} (hgd : o.guard = none) (s x : Operand)
    (ho : o.op = .call { callee := .builtin .append, args := #[s, x], argTypes := #[46, 46] })
    (B : Nat) (v : Value) (r : PoS.Rl) (hs : a.eval s = v) (hown : OwnR 52 w B v [r]) (u : Value) (ys : List PoS.Rl) (hx : a.eval x = u) (hin : OwnR 52 w B u ys)
    (hn : ys.length ≤ 1000000000) (hB : B ≤ w.heap.size)
    (hK : ∀ v' w', OwnR 52 w' B v' (r :: ys) → Below B w w' → K (a.put o.dst v') w') : if Region.wanted o (yielded ops a.tmps) = true then Oper.wp Tryz.prog o a w K Q else E := by
  have hw : Region.wanted o (yielded ops a.tmps) = true := by simp [Region.wanted, hgd]
  rw [if_pos hw]
  obtain ⟨i0, hi, hz0, hz1, hz2⟩ := info_parts infoRule
  have hlen : (ruleC ys).length = ys.length * 5 := by
    clear hx hin hn hK
    induction ys with
    | nil => rfl
    | cons q l ih =>
      show (oneC q ++ ruleC l).length = _
      rw [List.length_append, ih, List.length_cons]
      show 5 + l.length * 5 = _
      omega
  have hone : ∀ y ∈ ruleC ys, y.oneCell' = true := by
    intro y hy
    unfold ruleC at hy
    obtain ⟨q, _, hq⟩ := List.mem_flatMap.1 hy
    unfold oneC at hq
    simp only [List.mem_cons, List.not_mem_nil, or_false] at hq
    rcases hq with rfl | rfl | rfl | rfl | rfl <;> rfl
  have hK2 : ∀ v' w', w'.ownsRow B 52 5 v' (1 + ys.length) (ruleC [r] ++ ruleC ys) → w.grownBy w' v.ownBlock → K (a.put o.dst v') w' := fun v' w' h1 h2 => hK v' w' (by
    unfold OwnR
    have e : ruleC (r :: ys) = ruleC [r] ++ ruleC ys := by unfold ruleC; simp
    rw [e, List.length_cons, Nat.add_comm]
    exact h1) ((Below.refl B w).grown h2 hB (fun k hk => (World.ownsRow.lt hown k hk).1))
  rcases hin.2 with ⟨rfl, hn0⟩ | ⟨g, cap, cur, rfl, hg⟩
  · obtain rfl : ys = [] := List.eq_nil_of_length_eq_zero hn0
    have hrun := append_nil_rules o.type hown 0
    unfold Oper.wp
    simp [execOp, ho, resolve, invoke, builtin, hs, hx, hrun, Result.andThen]
    exact hK v w hown (Below.refl B w)
  · refine wp_append_own w s x _ ho B 52 i0 _ 5 64 Tryz.underlying46 hi hz0 hz1 hz2 (by rfl) (by decide) v 1 (ruleC [r]) hs hown ⟨g, 0, none⟩ ys.length cap (ruleC ys) hx hlen (fun j u hj => World.ownsRow.cells hin rfl j u hj) hone (by unfold maxLen; omega) (by omega) hB (fun v' w' h1 h2 _ => hK2 v' w' h1 h2)

set_option maxRecDepth 100000 in
set_option maxHeartbeats 4000000 in
theorem lawpolicyfirst_c (v : Value) (xs : List PoS.Rl) (x1 : Bool) (a : Ask) (w : World) (h : RulesIn w v xs) (hl : xs.length ≤ 9223372036854775807) (hs : ∀ r ∈ xs, WideR r) (ha : WideAsk a) (hE : Env w) :
    Calls Tryz.prog 5 #[v, .bool x1, askV a] w (True_ w) := by
  obtain ⟨s, n, t, right⟩ := a
  obtain ⟨qs, qn, qt, qr⟩ := ha
  simp only at qs qn qt
  have hbx := grow1 w (.cells #[.string ⟨s.toArray⟩, .string ⟨n.toArray⟩, .string ⟨t.toArray⟩, .int .i64 right] 43)
  have hwx := Whole.made w 43 #[.string ⟨s.toArray⟩, .string ⟨n.toArray⟩, .string ⟨t.toArray⟩, .int .i64 right]
  have hEx := hE.below hbx
  have hrx := h.call hbx (Nat.le_refl _)
  obtain ⟨p0, c0, rfl⟩ := h.form
  have hfewc := fun w h => few11_c (.slice p0 xs.length c0) xs w h hl hs
  have haskc := fun w => askfew_c s n t right w qs qn qt
  unfold askV
  simp only
  clear h qs qn qt qr
  go_enter Tryz.func5, Tryz.ntmps5
  go_wp2_with fail
  refine (awake11_c _ hEx).mono ?_; rintro e w1 ⟨rfl, hb1⟩
  have hE1 := hEx.below hb1
  have hr1 := hrx.call hb1 (Nat.le_refl _)
  have hw1 := hwx.call hb1
  have hz1 := below_trans hbx hb1
  clear hEx hrx hwx hbx hb1
  by_cases h40 : 40 ≤ xs.length
  · have h40d : decide ((40 : Int) ≤ (xs.length : Int)) = true := decide_eq_true (by omega)
    clear h40 hl hs hfewc haskc
    generalize xs.length = m at *
    go_wp2_with fail
    refine (awake11_c _ hE1).mono ?_; rintro e w9 ⟨rfl, hb9⟩
    go_wp2_with fail
    go_ret
    exact ⟨rfl, below_trans hz1 hb9⟩
  have h40d : decide ((40 : Int) ≤ (xs.length : Int)) = false := decide_eq_false (by omega)
  clear hl hs
  go_wp2_with fail
  refine (hfewc _ hr1).mono ?_; rintro e w2 ⟨b, rfl, hfew, hb2⟩
  have hE2 := hE1.below hb2
  have hr2 := hr1.call hb2 (Nat.le_refl _)
  have hw2 := hw1.call hb2
  have hz2 := below_trans hz1 hb2
  have k0 := hw2.cell 0
  have k1 := hw2.cell 1
  have k2 := hw2.cell 2
  have k3 := hw2.cell 3
  simp only [List.getElem?_toArray, List.getElem?_cons_zero, List.getElem?_cons_succ] at k0 k1 k2 k3
  clear hE1 hr1 hw1 hz1 hb2 hfewc
  cases b with
  | false =>
    clear hfew
    go_wp2_with fail
    refine (awake11_c _ hE2).mono ?_; rintro e w9 ⟨rfl, hb9⟩
    go_wp2_with fail
    go_ret
    exact ⟨rfl, below_trans hz2 hb9⟩
  | true =>
  obtain ⟨hxl, hsm⟩ := small_of (hfew (by rfl))
  clear hfew
  go_wp2_with fail
  refine (haskc _).mono ?_; rintro e w3 ⟨b, rfl, hask, hb3⟩
  have HP : PKeep w.heap.size w (.slice p0 xs.length c0) xs w3 := ⟨below_trans hz2 hb3, hr2.call hb3 (Nat.le_refl _), hE2.below hb3⟩
  have d0 := keepC k0 hb3
  have d1 := keepC k1 hb3
  have d2 := keepC k2 hb3
  have d3 := keepC k3 hb3
  clear k0 k1 k2 k3 hE2 hr2 hw2 hz2 hb3 haskc
  cases b with
  | false =>
    clear hask
    go_wp2_with fail
    refine (awake11_c _ HP.env).mono ?_; rintro e w9 ⟨rfl, hb9⟩
    go_wp2_with fail
    go_ret
    exact ⟨rfl, below_trans HP.below hb9⟩
  | true =>
  obtain ⟨ps, pn, pt⟩ := hask (by rfl)
  clear hask
  have ht := fun w h => theirs11_c (.slice p0 xs.length c0) xs w h hxl
  have hd := fun u w h hE => polDecide_c u xs s n t right w h hsm hxl (by omega) (by omega) (by omega) hE
  have hform := fun w B u (h : OwnR 52 w B u xs) => h.form
  unfold RulesRet at ht
  unfold NmBool at hd
  have hfm := fun w h hE => refFormed_c (.slice p0 xs.length c0) xs w h hsm hxl hE
  unfold NmBool at hfm
  cases hG : PoS.formedL xs with
  | false =>
    rw [hG] at hfm
    clear hG
    go_wp2_with fail
    refine (hfm _ HP.rules HP.env).mono ?_; rintro e w4 ⟨rfl, hb4⟩
    obtain ⟨d0, d1, d2, d3, HP⟩ := keepAsk d0 d1 d2 d3 HP hb4
    go_wp2_with fail
    refine (awake11_c _ HP.env).mono ?_; rintro e w9 ⟨rfl, hb9⟩
    go_wp2_with fail
    go_ret
    exact ⟨rfl, below_trans HP.below hb9⟩
  | true =>
  rw [hG] at hfm
  have hdl := fun (r : PoS.Rl) (hr : SmallR r) (w : World) hE => refDecide_c (.slice (some ⟨w.heap.size, 0, none⟩) 1 1) [r] s n t right (w.alloc (.cells (oneC r).toArray 53)) (RulesIn.lit _ _ _) (fun q hq => by rw [List.mem_singleton.1 hq]; exact hr) (by simp) (by omega) (by omega) (by omega) hE
  have hdf := fun u w h hE => polDecide_c u (PoS.wholeR x1 :: xs) s n t right w h (fun q hq => by
    rcases List.mem_cons.1 hq with rfl | hq
    · unfold PoS.wholeR; simp [SmallR]
    · exact hsm q hq) (by rw [List.length_cons]; omega) (by omega) (by omega) (by omega) hE
  have hdn := fun w hE => polDecide_c (.slice none 0 0) [] s n t right w (RulesIn.empty w) (fun q hq => by cases hq) (by simp) (by omega) (by omega) (by omega) hE
  rw [PoS.decide_nil] at hdn
  rw [PoS.whole_decides (by omega) hG] at hdf
  have hdl1 := hdl (PoS.wholeR true) (by unfold PoS.wholeR; simp [SmallR])
  unfold NmBool at hdl1 hdf hdn
  generalize PoS.decideS [PoS.wholeR true] s right n t = F at *
  simp only [oneC, PoS.wholeR, strV] at hdl1
  clear hG hsm ps pn pt hdl hd
  go_wp2_with fail
  refine (hfm _ HP.rules HP.env).mono ?_; rintro e w4 ⟨rfl, hb4⟩
  obtain ⟨d0, d1, d2, d3, HP⟩ := keepAsk d0 d1 d2 d3 HP hb4
  have hw4 := Whole.made w4 52 #[.string ⟨#[42]⟩, .string ⟨#[]⟩, .string ⟨#[]⟩, .int .i64 63, .bool x1]
  have hg4 := grow1 w4 (.cells #[.string ⟨#[42]⟩, .string ⟨#[]⟩, .string ⟨#[]⟩, .int .i64 63, .bool x1] 52)
  have hg5 := grow1 (w4.alloc (.cells #[.string ⟨#[42]⟩, .string ⟨#[]⟩, .string ⟨#[]⟩, .int .i64 63, .bool x1] 52)) (.cells #[.string ⟨#[42]⟩, .string ⟨#[]⟩, .string ⟨#[]⟩, .int .i64 63, .bool true] 53)
  have hw5 := hw4.call hg5
  obtain ⟨d0, d1, d2, d3, HP⟩ := keepAsk d0 d1 d2 d3 HP hg4
  obtain ⟨d0, d1, d2, d3, HP⟩ := keepAsk d0 d1 d2 d3 HP hg5
  have hc5 := hdl1 _ HP.env
  have hsz : (w4.alloc (.cells #[.string ⟨#[42]⟩, .string ⟨#[]⟩, .string ⟨#[]⟩, .int .i64 63, .bool x1] 52)).heap.size = w4.heap.size + 1 := by show (w4.heap.push _).size = _; simp
  rw [hsz] at hc5
  clear hdl1 hfm hw4 hg4 hg5
  go_wp2_with fail
  refine hc5.mono ?_; rintro e w6 ⟨rfl, hb6⟩
  have hw6 := hw5.call (hb6.mono (by rw [alloc_sz]; omega))
  obtain ⟨d0, d1, d2, d3, HP⟩ := keepAsk d0 d1 d2 d3 HP hb6
  have hBw := HP.below.size
  have q0 := hw6.cell 0
  have q1 := hw6.cell 1
  have q2 := hw6.cell 2
  have q3 := hw6.cell 3
  have q4 := hw6.cell 4
  simp only [List.getElem?_toArray, List.getElem?_cons_zero, List.getElem?_cons_succ] at q0 q1 q2 q3 q4
  have hri := HP.rules
  have hX := fun w => World.ownR_lit 52 w w.heap.size (Nat.le_refl _) (PoS.wholeR x1)
  clear hw5 hc5 hb6
  have HS : ∀ W, Below w6.heap.size w6 W → (W.cell? ⟨w4.heap.size, 0, none⟩ = some (.string ⟨#[42]⟩) ∧ W.cell? ⟨w4.heap.size, 1, none⟩ = some (.string ⟨#[]⟩) ∧ W.cell? ⟨w4.heap.size, 2, none⟩ = some (.string ⟨#[]⟩) ∧ W.cell? ⟨w4.heap.size, 3, none⟩ = some (.int .i64 63) ∧ W.cell? ⟨w4.heap.size, 4, none⟩ = some (.bool x1)) := fun W hb => ⟨keepC q0 hb, keepC q1 hb, keepC q2 hb, keepC q3 hb, keepC q4 hb⟩
  have hbd : Below w6.heap.size w6 w6.drew := (Below.refl _ _).drew
  go_wp2_with fail
  go_region_held3 (fun W => W.cell? ⟨w4.heap.size, 0, none⟩ = some (.string ⟨#[42]⟩) ∧ W.cell? ⟨w4.heap.size, 1, none⟩ = some (.string ⟨#[]⟩) ∧ W.cell? ⟨w4.heap.size, 2, none⟩ = some (.string ⟨#[]⟩) ∧ W.cell? ⟨w4.heap.size, 3, none⟩ = some (.int .i64 63) ∧ W.cell? ⟨w4.heap.size, 4, none⟩ = some (.bool x1))
    (first | exact HS _ hbd | exact HS _ ((grow1 w6 _).drew) | exact HS _ hbA | exact HS _ (hbA.alloc hbA.size _) | exact HS _ hb9)
    (first
      | (refine step_rules (by rfl) _ _ (by rfl) w6.heap.size _ (PoS.wholeR x1) (by rfl) (OwnR.call (w := (w6.alloc _).drew) (hX w6) hbN) _ xs (by rfl) (OwnR.mono hu (grow1 w6 _).drew.size) (by omega) hbA.size ?_; intro v' w8 hown8 hb8; obtain ⟨pv, cv, rfl⟩ := OwnR.form hown8; have hb9 := hbA.trans hb8)
      | (refine step_rules (by rfl) _ _ (by rfl) w6.heap.size _ (PoS.wholeR x1) (by rfl) (World.ownR_lit _ wN w6.heap.size hbA.size _) _ xs (by rfl) (OwnR.mono (OwnR.alloc hu _) hbd.size) (by omega) (Nat.le_trans hbA.size (grow1 wN _).size) ?_; intro v' w8 hown8 hb8; obtain ⟨pv, cv, rfl⟩ := OwnR.form hown8; have hb9 := (hbA.alloc hbA.size _).trans hb8)
      | (go_at_call 35; refine (ht _ (by first | exact hri.call hbd (Nat.le_refl _) | exact hri.call ((grow1 w6 _).drew) (Nat.le_refl _))).mono ?_; rintro e wN ⟨u, rfl, hu, hbN⟩; obtain ⟨pu, cu, rfl⟩ := hform _ _ _ hu; have hbA : Below w6.heap.size w6 wN := (by first | exact hbd.trans hbN | exact ((grow1 w6 _).drew).trans (hbN.mono (grow1 w6 _).size))))
  all_goals
    obtain ⟨d0, d1, d2, d3, HP⟩ := keepAsk d0 d1 d2 d3 HP hb9
    have hdf8 := hdf _ w8 (OwnR.rules hown8) HP.env
    clear hb9 hb8 hbA hu hdf hri hX HS hbd q0 q1 q2 q3 q4 hown8
    have hlen : (PoS.wholeR x1 :: xs).length = xs.length + 1 := rfl
    rw [hlen] at hdf8 ⊢
    clear hlen
    generalize xs.length + 1 = L at *
    go_wp2_with fail
    refine hdf8.mono ?_; rintro e wa ⟨rfl, hba⟩
    obtain ⟨d0, d1, d2, d3, HP⟩ := keepAsk d0 d1 d2 d3 HP hba
    have hdn8 := hdn wa HP.env
    have hfin : Below w.heap.size w wa := HP.below
    clear hdf8 hdn hba
    cases x1
    all_goals
      cases F
      all_goals
        go_wp2_with fail
        refine hdn8.mono ?_; rintro e wb ⟨rfl, hbb⟩
        go_wp2_with fail
        go_ret
        exact ⟨rfl, below_trans hfin hbb⟩
end Go.Proofs.YtadhkemdndcjlaaGreatDoor
