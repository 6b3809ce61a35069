/- The walk of the law PolicyParts. Condition: the library's variables are laid; what comes in is of a machine's size. -/
import Derived.Test.YtifjghkgmfmneaaGreatDoorPou
import Derived.Test.YtifjghkgmfmneaaGreatDoorTai
import Derived.Deep.DrawnRows
namespace Go.Proofs.YtifjghkgmfmneaaGreatDoor
open Go.RowKit

theorem PoS.part_step {by_ : Int} {l : List PoS.Rl} {k : Nat} (hk : k < l.length) : PoS.partL by_ (l.take (k + 1)) = PoS.partL by_ (l.take k) ++ PoS.partR by_ l[k] := by
  unfold PoS.partL
  rw [List.take_succ_eq_append_getElem hk, List.flatMap_append, List.flatMap_cons, List.flatMap_nil, List.append_nil]
theorem partR_small {by_ : Int} {r : PoS.Rl} (h : SmallR r) : ∀ q ∈ PoS.partR by_ r, SmallR q := fun q hq => by
  unfold PoS.partR at hq
  rcases List.mem_append.1 hq with hq | hq
  · split at hq
    · rw [List.mem_singleton] at hq; subst hq; exact h
    · cases hq
  · split at hq
    · rw [List.mem_singleton] at hq; subst hq; exact h
    · cases hq
theorem partL_small {by_ : Int} {l : List PoS.Rl} (h : ∀ r ∈ l, SmallR r) : ∀ q ∈ PoS.partL by_ l, SmallR q := fun q hq => by
  obtain ⟨r, hr, hq⟩ := List.mem_flatMap.1 hq
  exact partR_small (h r hr) q hq
/-- five cells set -/
def five (w : World) (g : Nat) (v0 v1 v2 v3 v4 : Value) : World := ((((w.setCell ⟨g, 0, none⟩ v0).setCell ⟨g, 1, none⟩ v1).setCell ⟨g, 2, none⟩ v2).setCell ⟨g, 3, none⟩ v3).setCell ⟨g, 4, none⟩ v4
theorem Whole.put5 {w : World} {g : Nat} {t : TypeId} {a0 a1 a2 a3 a4 : Value} (h : Whole w g t #[a0, a1, a2, a3, a4]) (v0 v1 v2 v3 v4 : Value) : Whole (five w g v0 v1 v2 v3 v4) g t #[v0, v1, v2, v3, v4] := by
  have h5 := ((((h.put 0 v0).put 1 v1).put 2 v2).put 3 v3).put 4 v4
  unfold five
  simpa using h5
theorem Whole.other5 {w : World} {g g' : Nat} {t : TypeId} {cs : Array Value} (h : Whole w g' t cs) (hne : g' ≠ g) (v0 v1 v2 v3 v4 : Value) : Whole (five w g v0 v1 v2 v3 v4) g' t cs :=
  ((((h.other (p := ⟨g, 0, none⟩) hne v0).other (p := ⟨g, 1, none⟩) hne v1).other (p := ⟨g, 2, none⟩) hne v2).other (p := ⟨g, 3, none⟩) hne v3).other (p := ⟨g, 4, none⟩) hne v4
theorem below5 {B : Nat} {w0 w : World} (hb : Below B w0 w) {g : Nat} (hg : B ≤ g) (v0 v1 v2 v3 v4 : Value) : Below B w0 (five w g v0 v1 v2 v3 v4) :=
  ((((hb.setCell (p := ⟨g, 0, none⟩) hg v0).setCell (p := ⟨g, 1, none⟩) hg v1).setCell (p := ⟨g, 2, none⟩) hg v2).setCell (p := ⟨g, 3, none⟩) hg v3).setCell (p := ⟨g, 4, none⟩) hg v4
/-- a rule more; of other blocks nothing turns -/
theorem push_rule_g {w : World} {ops : Array Oper} {rest : List Oper} {o : Oper} {a : Act} {Q : Exit → Act → World → Prop} (T sT : TypeId) (hsT : Tryz.prog.underlying sT = some (.slice T)) {i0 : TypeInfo} {z : Value}
    (hi : Tryz.prog.info? T = some i0) (hz : i0.zero = some z) (hsz2 : i0.size = 5) (hby : i0.bytes = 64) (hzs : z.cells.size = 5) (hgd : o.guard = none) (s x : Operand)
    (ho : o.op = .call { callee := .builtin .append, args := #[s, x], argTypes := #[sT, sT] })
    (B : Nat) (v : Value) (xs : List PoS.Rl) (hs : a.eval s = v) (hown : OwnR T w B v xs) (g : Nat) (hx : a.eval x = .slice (some ⟨g, 0, none⟩) 1 1)
    (r : PoS.Rl) (hc : RuleAt w g 0 r) (hn : xs.length ≤ 1000000000) (hB : B ≤ w.heap.size)
    (h : ∀ v' w', OwnR T w' B v' (xs ++ [r]) → Below B w w' → w.grownBy w' v.ownBlock → wpList Tryz.prog ops Q rest (a.put o.dst v') w') : wpList Tryz.prog ops Q (o :: rest) a w := by
  refine wpList_append_own w hgd s x _ ho B T i0 z 5 64 hsT hi hz hsz2 hby hzs (by decide) v xs.length (ruleC xs) hs hown ⟨g, 0, none⟩ 1 1 (oneC r) hx rfl
    (fun j u hj => ?_) (fun u hu => ?_) (by unfold maxLen; omega) (by omega) hB (fun v' w' h1 h2 _ => h v' w' ?_ ?_ h2)
  · have hadd : ∀ k, (⟨g, 0, none⟩ : Addr).add k = ⟨g, k, none⟩ := fun k => by unfold Addr.add; split <;> simp_all
    rw [hadd]
    obtain ⟨c0, c1, c2, c3, c4⟩ := hc
    unfold oneC at hj
    match j, hj with
    | 0, hj => rw [c0]; simpa using hj
    | 1, hj => rw [c1]; simpa using hj
    | 2, hj => rw [c2]; simpa using hj
    | 3, hj => rw [c3]; simpa using hj
    | 4, hj => rw [c4]; simpa using hj
  · unfold oneC at hu
    simp only [List.mem_cons, List.not_mem_nil, or_false] at hu
    rcases hu with rfl | rfl | rfl | rfl | rfl <;> rfl
  · unfold OwnR
    rw [ruleC_append, List.length_append]
    have e : ruleC [r] = oneC r := by unfold ruleC; simp
    rw [e]
    exact h1
  · exact (Below.refl B w).grown h2 hB (fun k hk => (World.ownsRow.lt hown k hk).1)
theorem own_ne {w : World} {B gy : Nat} {v : Value} {xs : List PoS.Rl} {T : TypeId} (h : OwnR T w B v xs) (hg : w.heap.size ≤ gy) : v.ownBlock ≠ some gy := fun e => by
  have := (World.ownsRow.lt h gy e).2
  omega
attribute [local go_sem ↓] Go.wp_at_zero Go.wp_at_succ
set_option maxRecDepth 100000 in
set_option maxHeartbeats 4000000 in
theorem lawpolicyparts_c (v : Value) (xs : List PoS.Rl) (by_ : Int) (a : Ask) (w : World) (h : RulesIn w v xs) (hl : xs.length ≤ 9223372036854775807) (hs : ∀ r ∈ xs, WideR r) (ha : WideAsk a) (hE : Env w) :
    Calls Tryz.prog 3 #[v, .int .i64 by_, askV a] w (True_ w) := by
  obtain ⟨s, n, t, right⟩ := a
  obtain ⟨qs, qn, qt, qr⟩ := ha
  simp only at qs qn qt
  have hbx := grow1 w (.cells #[.string ⟨s.toArray⟩, .string ⟨n.toArray⟩, .string ⟨t.toArray⟩, .int .i64 right] 24)
  have hwx := Whole.made w 24 #[.string ⟨s.toArray⟩, .string ⟨n.toArray⟩, .string ⟨t.toArray⟩, .int .i64 right]
  have hEx := hE.below hbx
  have hrx := h.call hbx (Nat.le_refl _)
  obtain ⟨p0, c0, rfl⟩ := h.form
  have hfewc := fun w h => few11_c (.slice p0 xs.length c0) xs w h hl hs
  have haskc := fun w => askfew_c s n t right w qs qn qt
  unfold askV
  simp only
  clear h qs qn qt qr
  go_enter Tryz.func3, Tryz.ntmps3
  go_wp2_with fail
  refine (awake11_c _ hEx).mono ?_; rintro e w1 ⟨rfl, hb1⟩
  have hE1 := hEx.below hb1
  have hr1 := hrx.call hb1 (Nat.le_refl _)
  have hw1 := hwx.call hb1
  have hz1 := below_trans hbx hb1
  clear hEx hrx hwx hbx hb1
  by_cases h20 : 20 < xs.length
  · have h20d : decide ((20 : Int) < (xs.length : Int)) = true := decide_eq_true (by omega)
    clear h20 hl hs hfewc haskc
    generalize xs.length = m at *
    go_wp2_with fail
    refine (awake11_c _ hE1).mono ?_; rintro e w9 ⟨rfl, hb9⟩
    go_wp2_with fail
    go_ret
    exact ⟨rfl, below_trans hz1 hb9⟩
  have h20d : decide ((20 : Int) < (xs.length : Int)) = false := decide_eq_false (by omega)
  clear hl hs
  go_wp2_with fail
  refine (hfewc _ hr1).mono ?_; rintro e w2 ⟨b, rfl, hfew, hb2⟩
  have hE2 := hE1.below hb2
  have hr2 := hr1.call hb2 (Nat.le_refl _)
  have hw2 := hw1.call hb2
  have hz2 := below_trans hz1 hb2
  have k0 := hw2.cell 0
  have k1 := hw2.cell 1
  have k2 := hw2.cell 2
  have k3 := hw2.cell 3
  simp only [List.getElem?_toArray, List.getElem?_cons_zero, List.getElem?_cons_succ] at k0 k1 k2 k3
  clear hE1 hr1 hw1 hz1 hb2 hfewc
  cases b with
  | false =>
    clear hfew
    go_wp2_with fail
    refine (awake11_c _ hE2).mono ?_; rintro e w9 ⟨rfl, hb9⟩
    go_wp2_with fail
    go_ret
    exact ⟨rfl, below_trans hz2 hb9⟩
  | true =>
  obtain ⟨hxl, hsm⟩ := small_of (hfew (by rfl))
  clear hfew
  go_wp2_with fail
  refine (haskc _).mono ?_; rintro e w3 ⟨b, rfl, hask, hb3⟩
  have HP : PKeep w.heap.size w (.slice p0 xs.length c0) xs w3 := ⟨below_trans hz2 hb3, hr2.call hb3 (Nat.le_refl _), hE2.below hb3⟩
  have d0 := keepC k0 hb3
  have d1 := keepC k1 hb3
  have d2 := keepC k2 hb3
  have d3 := keepC k3 hb3
  clear k0 k1 k2 k3 hE2 hr2 hw2 hz2 hb3 haskc
  cases b with
  | false =>
    clear hask
    go_wp2_with fail
    refine (awake11_c _ HP.env).mono ?_; rintro e w9 ⟨rfl, hb9⟩
    go_wp2_with fail
    go_ret
    exact ⟨rfl, below_trans HP.below hb9⟩
  | true =>
  obtain ⟨ps, pn, pt⟩ := hask (by rfl)
  clear hask
  have ht := fun w h => theirs11_c (.slice p0 xs.length c0) xs w h hxl
  have hd := fun u w h hE => polDecide_c u xs s n t right w h hsm hxl (by omega) (by omega) (by omega) hE
  have hform := fun w B u (h : OwnR 29 w B u xs) => h.form
  unfold RulesRet at ht
  unfold NmBool at hd
  have hfm := fun w h hE => refFormed_c (.slice p0 xs.length c0) xs w h hsm hxl hE
  unfold NmBool at hfm
  cases hG : PoS.formedL xs with
  | false =>
    rw [hG] at hfm
    clear hG
    go_wp2_with fail
    refine (hfm _ HP.rules HP.env).mono ?_; rintro e w4 ⟨rfl, hb4⟩
    obtain ⟨d0, d1, d2, d3, HP⟩ := keepAsk d0 d1 d2 d3 HP hb4
    go_wp2_with fail
    refine (awake11_c _ HP.env).mono ?_; rintro e w9 ⟨rfl, hb9⟩
    go_wp2_with fail
    go_ret
    exact ⟨rfl, below_trans HP.below hb9⟩
  | true =>
  rw [hG] at hfm
  have h20l : xs.length ≤ 20 := by omega
  have hpd := PoS.part_decides (by_ := by_) h20l hG s right n t
  have hpl := PoS.partL_len by_ xs
  have hps := partL_small (by_ := by_) hsm
  have hdp := fun u w h hE => polDecide_c u (PoS.partL by_ xs) s n t right w h hps (by omega) (by omega) (by omega) (by omega) hE
  unfold NmBool at hdp
  rw [hpd] at hdp
  have HPS := Lib.hid (fun k (hk : k < xs.length) => PoS.part_step (by_ := by_) (l := xs) hk)
  have HPL := Lib.hid (fun k => show (PoS.partL by_ (xs.take k)).length ≤ 40 from Nat.le_trans (PoS.partL_len by_ (xs.take k)) (by rw [List.length_take]; omega))
  clear hpd hps hsm hG h20 h20d ps pn pt
  go_wp2_with fail
  refine (hfm _ HP.rules HP.env).mono ?_; rintro e w4 ⟨rfl, hb4⟩
  obtain ⟨d0, d1, d2, d3, HP⟩ := keepAsk d0 d1 d2 d3 HP hb4
  obtain ⟨_, _, e, hc, hat⟩ := HP.rules.at
  cases e
  have HAT := Lib.hid hat
  obtain ⟨i0, hi, hz0, hz1, hz2⟩ := info_parts infoRule
  have HI := Lib.hid hi
  clear hat hi hfm hb4
  go_wp2_with fail
  go_loopw [7, 36] (fun out i wr => ∃ k : Nat, k ≤ xs.length ∧ i = .int .i64 k ∧ OwnR 29 wr w4.heap.size out (PoS.partL by_ (xs.take k)) ∧ Below w4.heap.size w4 wr) (fun _ i _ => xs.length - (intOf i).toNat)
  case atStart => exact ⟨0, Nat.zero_le _, rfl, OwnR.empty _ _ _, Below.refl _ _⟩
  case round =>
    obtain ⟨k, hk, rfl, hown, hb⟩ := hrel
    by_cases hlt : k < xs.length
    · obtain ⟨g, o, rfl, hg, hra⟩ := HAT.out k hlt
      have hrc := hra.call hb hg
      have hps := HPS.out k hlt
      have hpl2 := HPL.out k
      clear hra HAT HPS HPL ht hd hdp hpl
      generalize xs[k] = r at hrc hps
      obtain ⟨who, target, ra, rights, allow⟩ := r
      obtain ⟨c0, c1, c2, c3, c4⟩ := hrc
      unfold strV at c0 c1 c2
      simp only at c0 c1 c2 c3 c4
      have hl0 : (0 : Int) ≤ (k : Int) := by omega
      have hl1 : (k : Int) < (xs.length : Int) := by omega
      have hgr : g < wr.heap.size := Nat.lt_of_lt_of_le hg hb.size
      have hbD : Below wr.heap.size wr wr.drew := below_drewN wr 1
      have hbz := hb.size
      go_wp2_with fail
      refine head_begin 11 (fun W => W.cell? ⟨g, o + k * 5, none⟩ = some (.string ⟨who.toArray⟩) ∧ W.cell? ⟨g, o + k * 5 + 1, none⟩ = some (.string ⟨target.toArray⟩) ∧ W.cell? ⟨g, o + k * 5 + 2, none⟩ = some (.string ⟨ra.toArray⟩) ∧ W.cell? ⟨g, o + k * 5 + 3, none⟩ = some (.int .i64 rights) ∧ W.cell? ⟨g, o + k * 5 + 4, none⟩ = some (.bool allow)) (by kernel_rfl) (by kernel_rfl) ⟨c0, c1, c2, c3, c4⟩ (fun hHeld => ?_)
      refine head_take 0 ?_ (by simp only [List.length_cons, List.length_nil]; decide) (by kernel_rfl) (fun _ _ _ h => h) (by rfl) ?_ hHeld ?_
      rotate_left
      · intro W hSw; (try simp only [List.getElem_cons_zero]); (try go_split_ands); go_simp; (try with_reducible rfl)
      (try simp only [List.getElem_cons_zero, Act.put, List.setIfInBounds_toArray, List.set_cons_zero, List.set_cons_succ])
      refine head_take 1 ?_ (by simp only [List.length_cons, List.length_nil]; decide) (by kernel_rfl) (fun _ _ _ h => h) (by rfl) ?_ hHeld ?_
      rotate_left
      · intro W hSw; (try simp only [List.getElem_cons_succ, List.getElem_cons_zero]); (try go_split_ands); go_simp; (try with_reducible rfl)
      (try simp only [List.getElem_cons_succ, List.getElem_cons_zero, Act.put, List.setIfInBounds_toArray, List.set_cons_zero, List.set_cons_succ])
      refine head_take 2 ?_ (by simp only [List.length_cons, List.length_nil]; decide) (by kernel_rfl) (fun _ _ _ h => h) (by rfl) ?_ hHeld ?_
      rotate_left
      · intro W hSw; (try simp only [List.getElem_cons_succ, List.getElem_cons_zero]); (try go_split_ands); go_simp; (try with_reducible rfl)
      (try simp only [List.getElem_cons_succ, List.getElem_cons_zero, Act.put, List.setIfInBounds_toArray, List.set_cons_zero, List.set_cons_succ])
      refine head_take 3 ?_ (by simp only [List.length_cons, List.length_nil]; decide) (by kernel_rfl) (fun _ _ _ h => h) (by rfl) ?_ hHeld ?_
      rotate_left
      · intro W hSw; (try simp only [List.getElem_cons_succ, List.getElem_cons_zero]); (try go_split_ands); go_simp; (try with_reducible rfl)
      (try simp only [List.getElem_cons_succ, List.getElem_cons_zero, Act.put, List.setIfInBounds_toArray, List.set_cons_zero, List.set_cons_succ])
      refine head_take 4 ?_ (by simp only [List.length_cons, List.length_nil]; decide) (by kernel_rfl) (fun _ _ _ h => h) (by rfl) ?_ hHeld ?_
      rotate_left
      · intro W hSw; (try simp only [List.getElem_cons_succ, List.getElem_cons_zero]); (try go_split_ands); go_simp; (try with_reducible rfl)
      (try simp only [List.getElem_cons_succ, List.getElem_cons_zero, Act.put, List.setIfInBounds_toArray, List.set_cons_zero, List.set_cons_succ])
      refine head_take 5 ?_ (by simp only [List.length_cons, List.length_nil]; decide) (by kernel_rfl) (fun _ _ _ h => h) (by rfl) ?_ hHeld ?_
      rotate_left
      · intro W hSw; (try simp only [List.getElem_cons_succ, List.getElem_cons_zero]); (try go_split_ands); go_simp; (try with_reducible rfl)
      (try simp only [List.getElem_cons_succ, List.getElem_cons_zero, Act.put, List.setIfInBounds_toArray, List.set_cons_zero, List.set_cons_succ])
      refine head_take 6 ?_ (by simp only [List.length_cons, List.length_nil]; decide) (by kernel_rfl) (fun _ _ _ h => h) (by rfl) ?_ hHeld ?_
      rotate_left
      · intro W hSw; (try simp only [List.getElem_cons_succ, List.getElem_cons_zero]); (try go_split_ands); go_simp; (try with_reducible rfl)
      (try simp only [List.getElem_cons_succ, List.getElem_cons_zero, Act.put, List.setIfInBounds_toArray, List.set_cons_zero, List.set_cons_succ])
      refine head_take 7 ?_ (by simp only [List.length_cons, List.length_nil]; decide) (by kernel_rfl) (fun _ _ _ h => h) (by rfl) ?_ hHeld ?_
      rotate_left
      · intro W hSw; (try simp only [List.getElem_cons_succ, List.getElem_cons_zero]); (try go_split_ands); go_simp; (try with_reducible rfl)
      (try simp only [List.getElem_cons_succ, List.getElem_cons_zero, Act.put, List.setIfInBounds_toArray, List.set_cons_zero, List.set_cons_succ])
      refine head_two 8 9 (by simp only [List.length_cons, List.length_nil]; decide) (by simp only [List.length_cons, List.length_nil]; decide) (by kernel_rfl) (fun K hK => ?_) (fun K hK => ?_)
      · (try simp only [List.getElem_cons_succ, List.getElem_cons_zero])
        refine if_step (by rfl) ?_
        go_simp
        have hX := (Whole.made wr 29 #[.string ⟨#[]⟩, .string ⟨#[]⟩, .string ⟨#[]⟩, .int .i64 0, .bool false]).drew
        replace hbD : Below wr.heap.size wr (wr.alloc (.cells #[.string ⟨#[]⟩, .string ⟨#[]⟩, .string ⟨#[]⟩, .int .i64 0, .bool false] 29)).drew := (grow1 wr _).drew
        refine hK.out _ _ ?_ (fun hHeld => ?_)
        · exact ⟨keepC c0 hbD, keepC c1 hbD, keepC c2 hbD, keepC c3 hbD, keepC c4 hbD⟩
        clear hK K
        (try simp only [List.getElem_cons_succ, List.getElem_cons_zero, Act.put, List.setIfInBounds_toArray, List.set_cons_zero, List.set_cons_succ])
        refine head_step 9 (by simp only [List.length_cons, List.length_nil]; decide) (by kernel_rfl) (fun K hK => ?_)
        (try simp only [List.getElem_cons_succ, List.getElem_cons_zero])
        refine if_step (by rfl) ?_
        go_simp
        have hm1 : (wr.alloc (.cells #[.string ⟨#[]⟩, .string ⟨#[]⟩, .string ⟨#[]⟩, .int .i64 0, .bool false] 29)).heap.size = wr.heap.size + 1 := by show (wr.heap.push _).size = _; exact Array.size_push _
        have hY := (Whole.made (wr.alloc (.cells #[.string ⟨#[]⟩, .string ⟨#[]⟩, .string ⟨#[]⟩, .int .i64 0, .bool false] 29)) 29 #[.string ⟨#[]⟩, .string ⟨#[]⟩, .string ⟨#[]⟩, .int .i64 0, .bool false]).drew
        rw [hm1] at hY
        have hX := (Whole.call (w := wr.alloc (.cells #[.string ⟨#[]⟩, .string ⟨#[]⟩, .string ⟨#[]⟩, .int .i64 0, .bool false] 29)) (Whole.made wr 29 #[.string ⟨#[]⟩, .string ⟨#[]⟩, .string ⟨#[]⟩, .int .i64 0, .bool false]) (grow1 _ (.cells #[.string ⟨#[]⟩, .string ⟨#[]⟩, .string ⟨#[]⟩, .int .i64 0, .bool false] 29))).drew
        replace hbD : Below wr.heap.size wr ((wr.alloc (.cells #[.string ⟨#[]⟩, .string ⟨#[]⟩, .string ⟨#[]⟩, .int .i64 0, .bool false] 29)).alloc (.cells #[.string ⟨#[]⟩, .string ⟨#[]⟩, .string ⟨#[]⟩, .int .i64 0, .bool false] 29)).drew := ((grow1 wr _).alloc (grow1 wr _).size _).drew
        refine hK.out _ _ ?_ (fun hHeld => ?_)
        · exact ⟨keepC c0 hbD, keepC c1 hbD, keepC c2 hbD, keepC c3 hbD, keepC c4 hbD⟩
        clear hK K
        (try simp only [List.getElem_cons_succ, List.getElem_cons_zero, Act.put, List.setIfInBounds_toArray, List.set_cons_zero, List.set_cons_succ])
        refine head_step 10 (by simp only [List.length_cons, List.length_nil]; decide) (by kernel_rfl) (fun K hK => ?_)
        (try simp only [List.getElem_cons_succ, List.getElem_cons_zero])
        refine if_step (by rfl) ?_
        generalize hWA : ((wr.alloc (.cells #[.string ⟨#[]⟩, .string ⟨#[]⟩, .string ⟨#[]⟩, .int .i64 0, .bool false] 29)).alloc (.cells #[.string ⟨#[]⟩, .string ⟨#[]⟩, .string ⟨#[]⟩, .int .i64 0, .bool false] 29)).drew = wa at *
        have x0 := hX.cell 0
        have x1 := hX.cell 1
        have x2 := hX.cell 2
        have x3 := hX.cell 3
        have x4 := hX.cell 4
        have xt0 := hX.thaw 0
        have xt1 := hX.thaw 1
        have xt2 := hX.thaw 2
        have xt3 := hX.thaw 3
        have xt4 := hX.thaw 4
        simp only [List.getElem?_toArray, List.getElem?_cons_zero, List.getElem?_cons_succ] at x0 x1 x2 x3 x4
        have hX2 := hX.put5 (.string ⟨who.toArray⟩) (.string ⟨target.toArray⟩) (.string ⟨ra.toArray⟩) (.int .i64 rights) (.bool allow)
        have hY2 := hY.other5 (g := wr.heap.size) (by omega) (.string ⟨who.toArray⟩) (.string ⟨target.toArray⟩) (.string ⟨ra.toArray⟩) (.int .i64 rights) (.bool allow)
        have hbD2 := below5 hbD (g := wr.heap.size) (by omega) (.string ⟨who.toArray⟩) (.string ⟨target.toArray⟩) (.string ⟨ra.toArray⟩) (.int .i64 rights) (.bool allow)
        unfold five at hX2 hY2 hbD2
        go_simp
        refine hK.out _ _ ?_ (fun hHeld => ?_)
        · exact ⟨keepC c0 hbD2, keepC c1 hbD2, keepC c2 hbD2, keepC c3 hbD2, keepC c4 hbD2⟩
        clear hK K
        (try simp only [List.getElem_cons_succ, List.getElem_cons_zero, Act.put, List.setIfInBounds_toArray, List.set_cons_zero, List.set_cons_succ])
        refine head_end (by kernel_rfl) ?_
        simp only [List.drop_succ_cons, List.drop_zero]
        generalize hWB : ((((wa.setCell ⟨wr.heap.size, 0, none⟩ (.string ⟨who.toArray⟩)).setCell ⟨wr.heap.size, 1, none⟩ (.string ⟨target.toArray⟩)).setCell ⟨wr.heap.size, 2, none⟩ (.string ⟨ra.toArray⟩)).setCell ⟨wr.heap.size, 3, none⟩ (.int .i64 rights)).setCell ⟨wr.heap.size, 4, none⟩ (.bool allow) = wb at *
        have y0 := hY2.cell 0
        have y1 := hY2.cell 1
        have y2 := hY2.cell 2
        have y3 := hY2.cell 3
        have y4 := hY2.cell 4
        have yt0 := hY2.thaw 0
        have yt1 := hY2.thaw 1
        have yt2 := hY2.thaw 2
        have yt3 := hY2.thaw 3
        have yt4 := hY2.thaw 4
        simp only [List.getElem?_toArray, List.getElem?_cons_zero, List.getElem?_cons_succ] at y0 y1 y2 y3 y4
        have hY3 := hY2.put5 (.string ⟨who.toArray⟩) (.string ⟨target.toArray⟩) (.string ⟨ra.toArray⟩) (.int .i64 rights) (.bool allow)
        have hX3 := hX2.other5 (g := (wr.heap.size + 1)) (by omega) (.string ⟨who.toArray⟩) (.string ⟨target.toArray⟩) (.string ⟨ra.toArray⟩) (.int .i64 rights) (.bool allow)
        have hbD3 := below5 hbD2 (g := (wr.heap.size + 1)) (by omega) (.string ⟨who.toArray⟩) (.string ⟨target.toArray⟩) (.string ⟨ra.toArray⟩) (.int .i64 rights) (.bool allow)
        unfold five at hY3 hX3 hbD3
        have hgne : wr.heap.size ≠ (wr.heap.size + 1) := by omega
        clear hX hY hX2 hY2 hbD hbD2 hHeld
        go_wp2_with fail
        generalize hWC : ((((wb.setCell ⟨(wr.heap.size + 1), 0, none⟩ (.string ⟨who.toArray⟩)).setCell ⟨(wr.heap.size + 1), 1, none⟩ (.string ⟨target.toArray⟩)).setCell ⟨(wr.heap.size + 1), 2, none⟩ (.string ⟨ra.toArray⟩)).setCell ⟨(wr.heap.size + 1), 3, none⟩ (.int .i64 rights)).setCell ⟨(wr.heap.size + 1), 4, none⟩ (.bool allow) = wc at hX3 hY3 hbD3 ⊢
        clear hWC hWA hWB y0 y1 y2 y3 y4 yt0 yt1 yt2 yt3 yt4 x0 x1 x2 x3 x4 xt0 xt1 xt2 xt3 xt4
        generalize hGY : (wr.heap.size + 1) = gy at hX3 hY3 hgne ⊢
        generalize hGX : wr.heap.size = gx at hX3 hY3 hgne ⊢
        have hgxb : wr.heap.size ≤ gx := by omega
        have hgyb : wr.heap.size ≤ gy := by omega
        clear hGX hGY
        obtain ⟨A, hA⟩ : ∃ A, bits BinOp.and IntKind.i64 rights by_ = A := ⟨_, rfl⟩
        obtain ⟨B, hB⟩ : ∃ B, bits BinOp.andNot IntKind.i64 rights by_ = B := ⟨_, rfl⟩
        have HPR : Hid (PoS.partR by_ ⟨who, target, ra, rights, allow⟩ = (if A ≠ 0 then [⟨who, target, ra, A, allow⟩] else []) ++ (if B ≠ 0 then [⟨who, target, ra, B, allow⟩] else [])) := Lib.hid (by rw [← hA, ← hB]; rfl)
        have x3 := hX3.cell 3
        have y3 := hY3.cell 3
        have xt3 := hX3.thaw 3
        simp only [List.getElem?_toArray, List.getElem?_cons_zero, List.getElem?_cons_succ] at x3 y3
        refine head_begin 10 (fun W => W.cell? ⟨gy, 3, none⟩ = some (.int .i64 rights)) (by kernel_rfl) (by kernel_rfl) y3 (fun hHeld => ?_)
        refine head_take 0 ?_ (by simp only [List.length_cons, List.length_nil]; decide) (by kernel_rfl) (fun _ _ _ h => h) (by rfl) ?_ hHeld ?_
        rotate_left
        · intro W hSw; (try simp only [List.getElem_cons_zero]); (try go_split_ands); go_simp; (try with_reducible rfl)
        (try simp only [List.getElem_cons_zero, Act.put, List.setIfInBounds_toArray, List.set_cons_zero, List.set_cons_succ])
        refine head_take 2 ?_ (by simp only [List.length_cons, List.length_nil]; decide) (by kernel_rfl) (fun _ _ _ h => h) (by rfl) ?_ hHeld ?_
        rotate_left
        · intro W hSw; (try simp only [List.getElem_cons_succ, List.getElem_cons_zero]); (try go_split_ands); go_simp; (try with_reducible rfl)
        (try simp only [List.getElem_cons_succ, List.getElem_cons_zero, Act.put, List.setIfInBounds_toArray, List.set_cons_zero, List.set_cons_succ])
        refine head_take 4 ?_ (by simp only [List.length_cons, List.length_nil]; decide) (by kernel_rfl) (fun _ _ _ h => h) (by rfl) ?_ hHeld ?_
        rotate_left
        · intro W hSw; (try simp only [List.getElem_cons_succ, List.getElem_cons_zero]); (try go_split_ands); go_simp; (try with_reducible rfl)
        (try simp only [List.getElem_cons_succ, List.getElem_cons_zero, Act.put, List.setIfInBounds_toArray, List.set_cons_zero, List.set_cons_succ])
        refine head_take 5 ?_ (by simp only [List.length_cons, List.length_nil]; decide) (by kernel_rfl) (fun _ _ _ h => h) (by rfl) ?_ hHeld ?_
        rotate_left
        · intro W hSw; (try simp only [List.getElem_cons_succ, List.getElem_cons_zero]); (try go_split_ands); go_simp; (try with_reducible rfl)
        (try simp only [List.getElem_cons_succ, List.getElem_cons_zero, Act.put, List.setIfInBounds_toArray, List.set_cons_zero, List.set_cons_succ])
        refine head_take 6 ?_ (by simp only [List.length_cons, List.length_nil]; decide) (by kernel_rfl) (fun _ _ _ h => h) (by rfl) ?_ hHeld ?_
        rotate_left
        · intro W hSw; (try simp only [List.getElem_cons_succ, List.getElem_cons_zero]); (try go_split_ands); go_simp; (try with_reducible rfl)
        (try simp only [List.getElem_cons_succ, List.getElem_cons_zero, Act.put, List.setIfInBounds_toArray, List.set_cons_zero, List.set_cons_succ])
        refine head_take 7 ?_ (by simp only [List.length_cons, List.length_nil]; decide) (by kernel_rfl) (fun _ _ _ h => h) (by rfl) ?_ hHeld ?_
        rotate_left
        · intro W hSw; (try simp only [List.getElem_cons_succ, List.getElem_cons_zero]); (try go_split_ands); go_simp; (try with_reducible rfl)
        (try simp only [List.getElem_cons_succ, List.getElem_cons_zero, Act.put, List.setIfInBounds_toArray, List.set_cons_zero, List.set_cons_succ])
        refine head_step 1 (by simp only [List.length_cons, List.length_nil]; decide) (by kernel_rfl) (fun K hK => ?_)
        (try simp only [List.getElem_cons_succ, List.getElem_cons_zero])
        refine if_step (by rfl) ?_
        go_simp
        refine hK.out _ _ ?_ (fun hHeld => ?_)
        · exact hHeld
        clear hK K
        (try simp only [List.getElem_cons_succ, List.getElem_cons_zero, Act.put, List.setIfInBounds_toArray, List.set_cons_zero, List.set_cons_succ])
        refine head_take 3 ?_ (by simp only [List.length_cons, List.length_nil]; decide) (by kernel_rfl) (fun _ _ _ h => h) (by rfl) ?_ hHeld ?_
        rotate_left
        · intro W hSw; (try simp only [List.getElem_cons_succ, List.getElem_cons_zero]); (try go_split_ands); go_simp; (try with_reducible rfl)
        (try simp only [List.getElem_cons_succ, List.getElem_cons_zero, Act.put, List.setIfInBounds_toArray, List.set_cons_zero, List.set_cons_succ])
        refine head_take 8 ?_ (by simp only [List.length_cons, List.length_nil]; decide) (by kernel_rfl) (fun _ _ _ h => h) (by rfl) ?_ hHeld ?_
        rotate_left
        · intro W hSw; (try simp only [List.getElem_cons_succ, List.getElem_cons_zero]); (try go_split_ands); go_simp; (try with_reducible rfl)
        (try simp only [List.getElem_cons_succ, List.getElem_cons_zero, Act.put, List.setIfInBounds_toArray, List.set_cons_zero, List.set_cons_succ])
        refine head_step 9 (by simp only [List.length_cons, List.length_nil]; decide) (by kernel_rfl) (fun K hK => ?_)
        (try simp only [List.getElem_cons_succ, List.getElem_cons_zero])
        refine if_step (by rfl) ?_
        go_simp
        refine hK.out _ _ ?_ (fun hHeld => ?_)
        · exact (World.cell?_setCell_far _ ⟨gx, 3, none⟩ ⟨gy, 3, none⟩ _ hgne).trans y3
        clear hK K
        (try simp only [List.getElem_cons_succ, List.getElem_cons_zero, Act.put, List.setIfInBounds_toArray, List.set_cons_zero, List.set_cons_succ])
        refine head_end (by kernel_rfl) ?_
        simp only [List.drop_succ_cons, List.drop_zero]
        have hX4 := hX3.put 3 (.int .i64 A)
        have hY4 := hY3.other (p := ⟨gx, 3, none⟩) (fun e => hgne e.symm) (.int .i64 A)
        have yt4 := hY4.thaw 3
        have hY5 := (hY4.put 3 (.int .i64 B)).drew
        have hX5 := (hX4.other (p := ⟨gy, 3, none⟩) hgne (.int .i64 B)).drew
        have hbD5 := ((hbD3.setCell (p := ⟨gx, 3, none⟩) hgxb (.int .i64 A)).setCell (p := ⟨gy, 3, none⟩) hgyb (.int .i64 B)).drew
        simp only [List.setIfInBounds_toArray, List.set_cons_succ, List.set_cons_zero] at hX5 hY5
        have z4 := hY4.cell 3
        have hownD := hown.call hbD5
        have p0 := hX5.cell 0
        have p1 := hX5.cell 1
        have p2 := hX5.cell 2
        have p3 := hX5.cell 3
        have p4 := hX5.cell 4
        have pt0 := hX5.thaw 0
        have pt1 := hX5.thaw 1
        have pt2 := hX5.thaw 2
        have pt3 := hX5.thaw 3
        have pt4 := hX5.thaw 4
        simp only [List.getElem?_toArray, List.getElem?_cons_zero, List.getElem?_cons_succ] at p0 p1 p2 p3 p4
        have q0 := hY5.cell 0
        have q1 := hY5.cell 1
        have q2 := hY5.cell 2
        have q3 := hY5.cell 3
        have q4 := hY5.cell 4
        have qt0 := hY5.thaw 0
        have qt1 := hY5.thaw 1
        have qt2 := hY5.thaw 2
        have qt3 := hY5.thaw 3
        have qt4 := hY5.thaw 4
        simp only [List.getElem?_toArray, List.getElem?_cons_zero, List.getElem?_cons_succ] at q0 q1 q2 q3 q4
        simp only [List.getElem?_toArray, List.getElem?_cons_zero, List.getElem?_cons_succ] at z4
        have hzD := hb.trans (hbD5.mono hbz)
        have hszD := hzD.size
        clear hX3 hY3 hX4 hY4 hbD3 hHeld
        by_cases hA0 : A = 0
        · have ha : (A != 0) = false := by simp [hA0]
          by_cases hB0 : B = 0
          · have hbb : (B != 0) = false := by simp [hB0]
            have hps2 : PoS.partL by_ (xs.take (k + 1)) = PoS.partL by_ (xs.take k) := by rw [hps, HPR.out, if_neg (by simp [hA0]), if_neg (by simp [hB0])]; simp
            clear hA0 hB0 hA hB
            go_wp2_with fail
            go_roundw
            case rel => exact ⟨k + 1, by omega, by go_num, by rw [hps2]; exact hownD, hzD⟩
            case measure => simp [intOf]; omega
          · have hbb : (B != 0) = true := by simp [hB0]
            have hps2 : PoS.partL by_ (xs.take (k + 1)) = PoS.partL by_ (xs.take k) ++ [⟨who, target, ra, B, allow⟩] := by rw [hps, HPR.out, if_neg (by simp [hA0]), if_pos hB0]; simp
            clear hA0 hB0 hA hB
            go_wp2_with (at_builtin; refine push_rule_g 29 27 Tryz.underlying27 HI.out hz0 hz1 hz2 (by rfl) (by rfl) _ _ (by rfl) w4.heap.size _ (PoS.partL by_ (xs.take k)) (by rfl) (hownD.alloc _) _ (by rfl) ⟨who, target, ra, B, allow⟩ ?e11 ?e12 ?e13 ?_)
            case e11 => simp [go_sem, strV, RuleAt]
            case e12 => first | exact Nat.le_trans hpl2 (by decide) | (simp; omega)
            case e13 => exact (hzD.alloc hszD _).size
            intro v6 w6 hown_1 hb_1 hgw_1
            go_wp2_with fail
            go_roundw
            case rel => exact ⟨k + 1, by omega, by go_num, by rw [hps2]; exact hown_1, (hzD.alloc hszD _).trans hb_1⟩
            case measure => simp [intOf]; omega
        · have ha : (A != 0) = true := by simp [hA0]
          by_cases hB0 : B = 0
          · have hbb : (B != 0) = false := by simp [hB0]
            have hps2 : PoS.partL by_ (xs.take (k + 1)) = PoS.partL by_ (xs.take k) ++ [⟨who, target, ra, A, allow⟩] := by rw [hps, HPR.out, if_pos hA0, if_neg (by simp [hB0])]; simp
            clear hA0 hB0 hA hB
            go_wp2_with (at_builtin; refine push_rule_g 29 27 Tryz.underlying27 HI.out hz0 hz1 hz2 (by rfl) (by rfl) _ _ (by rfl) w4.heap.size _ (PoS.partL by_ (xs.take k)) (by rfl) (hownD.alloc _) _ (by rfl) ⟨who, target, ra, A, allow⟩ ?e11 ?e12 ?e13 ?_)
            case e11 => simp [go_sem, strV, RuleAt]
            case e12 => first | exact Nat.le_trans hpl2 (by decide) | (simp; omega)
            case e13 => exact (hzD.alloc hszD _).size
            intro v6 w6 hown_1 hb_1 hgw_1
            have hY6 := (hY5.alloc (.cells #[.string ⟨who.toArray⟩, .string ⟨target.toArray⟩, .string ⟨ra.toArray⟩, .int .i64 A, .bool allow] 29))
            have hY7 : Whole w6 gy 29 _ := (hgw_1.block gy hY6.lt (fun e => own_ne hown hgyb e.symm)).trans hY6
            have r3 := hY7.cell 3
            simp only [List.getElem?_toArray, List.getElem?_cons_zero, List.getElem?_cons_succ] at r3
            go_wp2_with fail
            go_roundw
            case rel => exact ⟨k + 1, by omega, by go_num, by rw [hps2]; exact hown_1, (hzD.alloc hszD _).trans hb_1⟩
            case measure => simp [intOf]; omega
          · have hbb : (B != 0) = true := by simp [hB0]
            have hps2 : PoS.partL by_ (xs.take (k + 1)) = PoS.partL by_ (xs.take k) ++ [⟨who, target, ra, A, allow⟩, ⟨who, target, ra, B, allow⟩] := by rw [hps, HPR.out, if_pos hA0, if_pos hB0]; simp
            clear hA0 hB0 hA hB
            go_wp2_with (at_builtin; refine push_rule_g 29 27 Tryz.underlying27 HI.out hz0 hz1 hz2 (by rfl) (by rfl) _ _ (by rfl) w4.heap.size _ (PoS.partL by_ (xs.take k)) (by rfl) (hownD.alloc _) _ (by rfl) ⟨who, target, ra, A, allow⟩ ?e11 ?e12 ?e13 ?_)
            case e11 => simp [go_sem, strV, RuleAt]
            case e12 => first | exact Nat.le_trans hpl2 (by decide) | (simp; omega)
            case e13 => exact (hzD.alloc hszD _).size
            intro v6 w6 hown_1 hb_1 hgw_1
            have hY6 := (hY5.alloc (.cells #[.string ⟨who.toArray⟩, .string ⟨target.toArray⟩, .string ⟨ra.toArray⟩, .int .i64 A, .bool allow] 29))
            have hY7 : Whole w6 gy 29 _ := (hgw_1.block gy hY6.lt (fun e => own_ne hown hgyb e.symm)).trans hY6
            have hz6 := (hzD.alloc hszD (.cells #[.string ⟨who.toArray⟩, .string ⟨target.toArray⟩, .string ⟨ra.toArray⟩, .int .i64 A, .bool allow] 29)).trans hb_1
            have hsz6 := hz6.size
            clear q0 q1 q2 q3 q4 qt0 qt1 qt2 qt3 qt4
            have q0 := hY7.cell 0
            have q1 := hY7.cell 1
            have q2 := hY7.cell 2
            have q3 := hY7.cell 3
            have q4 := hY7.cell 4
            have qt0 := hY7.thaw 0
            have qt1 := hY7.thaw 1
            have qt2 := hY7.thaw 2
            have qt3 := hY7.thaw 3
            have qt4 := hY7.thaw 4
            simp only [List.getElem?_toArray, List.getElem?_cons_zero, List.getElem?_cons_succ] at q0 q1 q2 q3 q4
            go_wp2_with (at_builtin; refine push_rule_g 29 27 Tryz.underlying27 HI.out hz0 hz1 hz2 (by rfl) (by rfl) _ _ (by rfl) w4.heap.size _ (PoS.partL by_ (xs.take k) ++ [⟨who, target, ra, A, allow⟩]) (by rfl) (hown_1.alloc _) _ (by rfl) ⟨who, target, ra, B, allow⟩ ?e21 ?e22 ?e23 ?_)
            case e21 => simp [go_sem, strV, RuleAt]
            case e22 => first | exact Nat.le_trans hpl2 (by decide) | (simp; omega)
            case e23 => exact (hz6.alloc hsz6 _).size
            intro v7 w7 hown_2 hb_2 hgw_2
            go_wp2_with fail
            go_roundw
            case rel => exact ⟨k + 1, by omega, by go_num, by rw [hps2]; exact hown_2, (hz6.alloc hsz6 _).trans hb_2⟩
            case measure => simp [intOf]; omega
      · (try simp only [List.getElem_cons_succ, List.getElem_cons_zero])
        refine if_step (by rfl) ?_
        go_simp
        have hY := (Whole.made wr 29 #[.string ⟨#[]⟩, .string ⟨#[]⟩, .string ⟨#[]⟩, .int .i64 0, .bool false]).drew
        replace hbD : Below wr.heap.size wr (wr.alloc (.cells #[.string ⟨#[]⟩, .string ⟨#[]⟩, .string ⟨#[]⟩, .int .i64 0, .bool false] 29)).drew := (grow1 wr _).drew
        refine hK.out _ _ ?_ (fun hHeld => ?_)
        · exact ⟨keepC c0 hbD, keepC c1 hbD, keepC c2 hbD, keepC c3 hbD, keepC c4 hbD⟩
        clear hK K
        (try simp only [List.getElem_cons_succ, List.getElem_cons_zero, Act.put, List.setIfInBounds_toArray, List.set_cons_zero, List.set_cons_succ])
        refine head_step 8 (by simp only [List.length_cons, List.length_nil]; decide) (by kernel_rfl) (fun K hK => ?_)
        (try simp only [List.getElem_cons_succ, List.getElem_cons_zero])
        refine if_step (by rfl) ?_
        go_simp
        have hm1 : (wr.alloc (.cells #[.string ⟨#[]⟩, .string ⟨#[]⟩, .string ⟨#[]⟩, .int .i64 0, .bool false] 29)).heap.size = wr.heap.size + 1 := by show (wr.heap.push _).size = _; exact Array.size_push _
        have hX := (Whole.made (wr.alloc (.cells #[.string ⟨#[]⟩, .string ⟨#[]⟩, .string ⟨#[]⟩, .int .i64 0, .bool false] 29)) 29 #[.string ⟨#[]⟩, .string ⟨#[]⟩, .string ⟨#[]⟩, .int .i64 0, .bool false]).drew
        rw [hm1] at hX
        have hY := (Whole.call (w := wr.alloc (.cells #[.string ⟨#[]⟩, .string ⟨#[]⟩, .string ⟨#[]⟩, .int .i64 0, .bool false] 29)) (Whole.made wr 29 #[.string ⟨#[]⟩, .string ⟨#[]⟩, .string ⟨#[]⟩, .int .i64 0, .bool false]) (grow1 _ (.cells #[.string ⟨#[]⟩, .string ⟨#[]⟩, .string ⟨#[]⟩, .int .i64 0, .bool false] 29))).drew
        replace hbD : Below wr.heap.size wr ((wr.alloc (.cells #[.string ⟨#[]⟩, .string ⟨#[]⟩, .string ⟨#[]⟩, .int .i64 0, .bool false] 29)).alloc (.cells #[.string ⟨#[]⟩, .string ⟨#[]⟩, .string ⟨#[]⟩, .int .i64 0, .bool false] 29)).drew := ((grow1 wr _).alloc (grow1 wr _).size _).drew
        refine hK.out _ _ ?_ (fun hHeld => ?_)
        · exact ⟨keepC c0 hbD, keepC c1 hbD, keepC c2 hbD, keepC c3 hbD, keepC c4 hbD⟩
        clear hK K
        (try simp only [List.getElem_cons_succ, List.getElem_cons_zero, Act.put, List.setIfInBounds_toArray, List.set_cons_zero, List.set_cons_succ])
        refine head_step 10 (by simp only [List.length_cons, List.length_nil]; decide) (by kernel_rfl) (fun K hK => ?_)
        (try simp only [List.getElem_cons_succ, List.getElem_cons_zero])
        refine if_step (by rfl) ?_
        generalize hWA : ((wr.alloc (.cells #[.string ⟨#[]⟩, .string ⟨#[]⟩, .string ⟨#[]⟩, .int .i64 0, .bool false] 29)).alloc (.cells #[.string ⟨#[]⟩, .string ⟨#[]⟩, .string ⟨#[]⟩, .int .i64 0, .bool false] 29)).drew = wa at *
        have x0 := hX.cell 0
        have x1 := hX.cell 1
        have x2 := hX.cell 2
        have x3 := hX.cell 3
        have x4 := hX.cell 4
        have xt0 := hX.thaw 0
        have xt1 := hX.thaw 1
        have xt2 := hX.thaw 2
        have xt3 := hX.thaw 3
        have xt4 := hX.thaw 4
        simp only [List.getElem?_toArray, List.getElem?_cons_zero, List.getElem?_cons_succ] at x0 x1 x2 x3 x4
        have hX2 := hX.put5 (.string ⟨who.toArray⟩) (.string ⟨target.toArray⟩) (.string ⟨ra.toArray⟩) (.int .i64 rights) (.bool allow)
        have hY2 := hY.other5 (g := (wr.heap.size + 1)) (by omega) (.string ⟨who.toArray⟩) (.string ⟨target.toArray⟩) (.string ⟨ra.toArray⟩) (.int .i64 rights) (.bool allow)
        have hbD2 := below5 hbD (g := (wr.heap.size + 1)) (by omega) (.string ⟨who.toArray⟩) (.string ⟨target.toArray⟩) (.string ⟨ra.toArray⟩) (.int .i64 rights) (.bool allow)
        unfold five at hX2 hY2 hbD2
        go_simp
        refine hK.out _ _ ?_ (fun hHeld => ?_)
        · exact ⟨keepC c0 hbD2, keepC c1 hbD2, keepC c2 hbD2, keepC c3 hbD2, keepC c4 hbD2⟩
        clear hK K
        (try simp only [List.getElem_cons_succ, List.getElem_cons_zero, Act.put, List.setIfInBounds_toArray, List.set_cons_zero, List.set_cons_succ])
        refine head_end (by kernel_rfl) ?_
        simp only [List.drop_succ_cons, List.drop_zero]
        generalize hWB : ((((wa.setCell ⟨(wr.heap.size + 1), 0, none⟩ (.string ⟨who.toArray⟩)).setCell ⟨(wr.heap.size + 1), 1, none⟩ (.string ⟨target.toArray⟩)).setCell ⟨(wr.heap.size + 1), 2, none⟩ (.string ⟨ra.toArray⟩)).setCell ⟨(wr.heap.size + 1), 3, none⟩ (.int .i64 rights)).setCell ⟨(wr.heap.size + 1), 4, none⟩ (.bool allow) = wb at *
        have y0 := hY2.cell 0
        have y1 := hY2.cell 1
        have y2 := hY2.cell 2
        have y3 := hY2.cell 3
        have y4 := hY2.cell 4
        have yt0 := hY2.thaw 0
        have yt1 := hY2.thaw 1
        have yt2 := hY2.thaw 2
        have yt3 := hY2.thaw 3
        have yt4 := hY2.thaw 4
        simp only [List.getElem?_toArray, List.getElem?_cons_zero, List.getElem?_cons_succ] at y0 y1 y2 y3 y4
        have hY3 := hY2.put5 (.string ⟨who.toArray⟩) (.string ⟨target.toArray⟩) (.string ⟨ra.toArray⟩) (.int .i64 rights) (.bool allow)
        have hX3 := hX2.other5 (g := wr.heap.size) (by omega) (.string ⟨who.toArray⟩) (.string ⟨target.toArray⟩) (.string ⟨ra.toArray⟩) (.int .i64 rights) (.bool allow)
        have hbD3 := below5 hbD2 (g := wr.heap.size) (by omega) (.string ⟨who.toArray⟩) (.string ⟨target.toArray⟩) (.string ⟨ra.toArray⟩) (.int .i64 rights) (.bool allow)
        unfold five at hY3 hX3 hbD3
        have hgne : (wr.heap.size + 1) ≠ wr.heap.size := by omega
        clear hX hY hX2 hY2 hbD hbD2 hHeld
        go_wp2_with fail
        generalize hWC : ((((wb.setCell ⟨wr.heap.size, 0, none⟩ (.string ⟨who.toArray⟩)).setCell ⟨wr.heap.size, 1, none⟩ (.string ⟨target.toArray⟩)).setCell ⟨wr.heap.size, 2, none⟩ (.string ⟨ra.toArray⟩)).setCell ⟨wr.heap.size, 3, none⟩ (.int .i64 rights)).setCell ⟨wr.heap.size, 4, none⟩ (.bool allow) = wc at hX3 hY3 hbD3 ⊢
        clear hWC hWA hWB y0 y1 y2 y3 y4 yt0 yt1 yt2 yt3 yt4 x0 x1 x2 x3 x4 xt0 xt1 xt2 xt3 xt4
        generalize hGX : (wr.heap.size + 1) = gx at hX3 hY3 hgne ⊢
        generalize hGY : wr.heap.size = gy at hX3 hY3 hgne ⊢
        have hgxb : wr.heap.size ≤ gx := by omega
        have hgyb : wr.heap.size ≤ gy := by omega
        clear hGX hGY
        obtain ⟨A, hA⟩ : ∃ A, bits BinOp.and IntKind.i64 rights by_ = A := ⟨_, rfl⟩
        obtain ⟨B, hB⟩ : ∃ B, bits BinOp.andNot IntKind.i64 rights by_ = B := ⟨_, rfl⟩
        have HPR : Hid (PoS.partR by_ ⟨who, target, ra, rights, allow⟩ = (if A ≠ 0 then [⟨who, target, ra, A, allow⟩] else []) ++ (if B ≠ 0 then [⟨who, target, ra, B, allow⟩] else [])) := Lib.hid (by rw [← hA, ← hB]; rfl)
        have x3 := hX3.cell 3
        have y3 := hY3.cell 3
        have xt3 := hX3.thaw 3
        simp only [List.getElem?_toArray, List.getElem?_cons_zero, List.getElem?_cons_succ] at x3 y3
        refine head_begin 10 (fun W => W.cell? ⟨gy, 3, none⟩ = some (.int .i64 rights)) (by kernel_rfl) (by kernel_rfl) y3 (fun hHeld => ?_)
        refine head_take 0 ?_ (by simp only [List.length_cons, List.length_nil]; decide) (by kernel_rfl) (fun _ _ _ h => h) (by rfl) ?_ hHeld ?_
        rotate_left
        · intro W hSw; (try simp only [List.getElem_cons_zero]); (try go_split_ands); go_simp; (try with_reducible rfl)
        (try simp only [List.getElem_cons_zero, Act.put, List.setIfInBounds_toArray, List.set_cons_zero, List.set_cons_succ])
        refine head_take 2 ?_ (by simp only [List.length_cons, List.length_nil]; decide) (by kernel_rfl) (fun _ _ _ h => h) (by rfl) ?_ hHeld ?_
        rotate_left
        · intro W hSw; (try simp only [List.getElem_cons_succ, List.getElem_cons_zero]); (try go_split_ands); go_simp; (try with_reducible rfl)
        (try simp only [List.getElem_cons_succ, List.getElem_cons_zero, Act.put, List.setIfInBounds_toArray, List.set_cons_zero, List.set_cons_succ])
        refine head_take 4 ?_ (by simp only [List.length_cons, List.length_nil]; decide) (by kernel_rfl) (fun _ _ _ h => h) (by rfl) ?_ hHeld ?_
        rotate_left
        · intro W hSw; (try simp only [List.getElem_cons_succ, List.getElem_cons_zero]); (try go_split_ands); go_simp; (try with_reducible rfl)
        (try simp only [List.getElem_cons_succ, List.getElem_cons_zero, Act.put, List.setIfInBounds_toArray, List.set_cons_zero, List.set_cons_succ])
        refine head_take 5 ?_ (by simp only [List.length_cons, List.length_nil]; decide) (by kernel_rfl) (fun _ _ _ h => h) (by rfl) ?_ hHeld ?_
        rotate_left
        · intro W hSw; (try simp only [List.getElem_cons_succ, List.getElem_cons_zero]); (try go_split_ands); go_simp; (try with_reducible rfl)
        (try simp only [List.getElem_cons_succ, List.getElem_cons_zero, Act.put, List.setIfInBounds_toArray, List.set_cons_zero, List.set_cons_succ])
        refine head_take 6 ?_ (by simp only [List.length_cons, List.length_nil]; decide) (by kernel_rfl) (fun _ _ _ h => h) (by rfl) ?_ hHeld ?_
        rotate_left
        · intro W hSw; (try simp only [List.getElem_cons_succ, List.getElem_cons_zero]); (try go_split_ands); go_simp; (try with_reducible rfl)
        (try simp only [List.getElem_cons_succ, List.getElem_cons_zero, Act.put, List.setIfInBounds_toArray, List.set_cons_zero, List.set_cons_succ])
        refine head_take 7 ?_ (by simp only [List.length_cons, List.length_nil]; decide) (by kernel_rfl) (fun _ _ _ h => h) (by rfl) ?_ hHeld ?_
        rotate_left
        · intro W hSw; (try simp only [List.getElem_cons_succ, List.getElem_cons_zero]); (try go_split_ands); go_simp; (try with_reducible rfl)
        (try simp only [List.getElem_cons_succ, List.getElem_cons_zero, Act.put, List.setIfInBounds_toArray, List.set_cons_zero, List.set_cons_succ])
        refine head_step 1 (by simp only [List.length_cons, List.length_nil]; decide) (by kernel_rfl) (fun K hK => ?_)
        (try simp only [List.getElem_cons_succ, List.getElem_cons_zero])
        refine if_step (by rfl) ?_
        go_simp
        refine hK.out _ _ ?_ (fun hHeld => ?_)
        · exact hHeld
        clear hK K
        (try simp only [List.getElem_cons_succ, List.getElem_cons_zero, Act.put, List.setIfInBounds_toArray, List.set_cons_zero, List.set_cons_succ])
        refine head_take 3 ?_ (by simp only [List.length_cons, List.length_nil]; decide) (by kernel_rfl) (fun _ _ _ h => h) (by rfl) ?_ hHeld ?_
        rotate_left
        · intro W hSw; (try simp only [List.getElem_cons_succ, List.getElem_cons_zero]); (try go_split_ands); go_simp; (try with_reducible rfl)
        (try simp only [List.getElem_cons_succ, List.getElem_cons_zero, Act.put, List.setIfInBounds_toArray, List.set_cons_zero, List.set_cons_succ])
        refine head_take 8 ?_ (by simp only [List.length_cons, List.length_nil]; decide) (by kernel_rfl) (fun _ _ _ h => h) (by rfl) ?_ hHeld ?_
        rotate_left
        · intro W hSw; (try simp only [List.getElem_cons_succ, List.getElem_cons_zero]); (try go_split_ands); go_simp; (try with_reducible rfl)
        (try simp only [List.getElem_cons_succ, List.getElem_cons_zero, Act.put, List.setIfInBounds_toArray, List.set_cons_zero, List.set_cons_succ])
        refine head_step 9 (by simp only [List.length_cons, List.length_nil]; decide) (by kernel_rfl) (fun K hK => ?_)
        (try simp only [List.getElem_cons_succ, List.getElem_cons_zero])
        refine if_step (by rfl) ?_
        go_simp
        refine hK.out _ _ ?_ (fun hHeld => ?_)
        · exact (World.cell?_setCell_far _ ⟨gx, 3, none⟩ ⟨gy, 3, none⟩ _ hgne).trans y3
        clear hK K
        (try simp only [List.getElem_cons_succ, List.getElem_cons_zero, Act.put, List.setIfInBounds_toArray, List.set_cons_zero, List.set_cons_succ])
        refine head_end (by kernel_rfl) ?_
        simp only [List.drop_succ_cons, List.drop_zero]
        have hX4 := hX3.put 3 (.int .i64 A)
        have hY4 := hY3.other (p := ⟨gx, 3, none⟩) (fun e => hgne e.symm) (.int .i64 A)
        have yt4 := hY4.thaw 3
        have hY5 := (hY4.put 3 (.int .i64 B)).drew
        have hX5 := (hX4.other (p := ⟨gy, 3, none⟩) hgne (.int .i64 B)).drew
        have hbD5 := ((hbD3.setCell (p := ⟨gx, 3, none⟩) hgxb (.int .i64 A)).setCell (p := ⟨gy, 3, none⟩) hgyb (.int .i64 B)).drew
        simp only [List.setIfInBounds_toArray, List.set_cons_succ, List.set_cons_zero] at hX5 hY5
        have z4 := hY4.cell 3
        have hownD := hown.call hbD5
        have p0 := hX5.cell 0
        have p1 := hX5.cell 1
        have p2 := hX5.cell 2
        have p3 := hX5.cell 3
        have p4 := hX5.cell 4
        have pt0 := hX5.thaw 0
        have pt1 := hX5.thaw 1
        have pt2 := hX5.thaw 2
        have pt3 := hX5.thaw 3
        have pt4 := hX5.thaw 4
        simp only [List.getElem?_toArray, List.getElem?_cons_zero, List.getElem?_cons_succ] at p0 p1 p2 p3 p4
        have q0 := hY5.cell 0
        have q1 := hY5.cell 1
        have q2 := hY5.cell 2
        have q3 := hY5.cell 3
        have q4 := hY5.cell 4
        have qt0 := hY5.thaw 0
        have qt1 := hY5.thaw 1
        have qt2 := hY5.thaw 2
        have qt3 := hY5.thaw 3
        have qt4 := hY5.thaw 4
        simp only [List.getElem?_toArray, List.getElem?_cons_zero, List.getElem?_cons_succ] at q0 q1 q2 q3 q4
        simp only [List.getElem?_toArray, List.getElem?_cons_zero, List.getElem?_cons_succ] at z4
        have hzD := hb.trans (hbD5.mono hbz)
        have hszD := hzD.size
        clear hX3 hY3 hX4 hY4 hbD3 hHeld
        by_cases hA0 : A = 0
        · have ha : (A != 0) = false := by simp [hA0]
          by_cases hB0 : B = 0
          · have hbb : (B != 0) = false := by simp [hB0]
            have hps2 : PoS.partL by_ (xs.take (k + 1)) = PoS.partL by_ (xs.take k) := by rw [hps, HPR.out, if_neg (by simp [hA0]), if_neg (by simp [hB0])]; simp
            clear hA0 hB0 hA hB
            go_wp2_with fail
            go_roundw
            case rel => exact ⟨k + 1, by omega, by go_num, by rw [hps2]; exact hownD, hzD⟩
            case measure => simp [intOf]; omega
          · have hbb : (B != 0) = true := by simp [hB0]
            have hps2 : PoS.partL by_ (xs.take (k + 1)) = PoS.partL by_ (xs.take k) ++ [⟨who, target, ra, B, allow⟩] := by rw [hps, HPR.out, if_neg (by simp [hA0]), if_pos hB0]; simp
            clear hA0 hB0 hA hB
            go_wp2_with (at_builtin; refine push_rule_g 29 27 Tryz.underlying27 HI.out hz0 hz1 hz2 (by rfl) (by rfl) _ _ (by rfl) w4.heap.size _ (PoS.partL by_ (xs.take k)) (by rfl) (hownD.alloc _) _ (by rfl) ⟨who, target, ra, B, allow⟩ ?e11 ?e12 ?e13 ?_)
            case e11 => simp [go_sem, strV, RuleAt]
            case e12 => first | exact Nat.le_trans hpl2 (by decide) | (simp; omega)
            case e13 => exact (hzD.alloc hszD _).size
            intro v6 w6 hown_1 hb_1 hgw_1
            go_wp2_with fail
            go_roundw
            case rel => exact ⟨k + 1, by omega, by go_num, by rw [hps2]; exact hown_1, (hzD.alloc hszD _).trans hb_1⟩
            case measure => simp [intOf]; omega
        · have ha : (A != 0) = true := by simp [hA0]
          by_cases hB0 : B = 0
          · have hbb : (B != 0) = false := by simp [hB0]
            have hps2 : PoS.partL by_ (xs.take (k + 1)) = PoS.partL by_ (xs.take k) ++ [⟨who, target, ra, A, allow⟩] := by rw [hps, HPR.out, if_pos hA0, if_neg (by simp [hB0])]; simp
            clear hA0 hB0 hA hB
            go_wp2_with (at_builtin; refine push_rule_g 29 27 Tryz.underlying27 HI.out hz0 hz1 hz2 (by rfl) (by rfl) _ _ (by rfl) w4.heap.size _ (PoS.partL by_ (xs.take k)) (by rfl) (hownD.alloc _) _ (by rfl) ⟨who, target, ra, A, allow⟩ ?e11 ?e12 ?e13 ?_)
            case e11 => simp [go_sem, strV, RuleAt]
            case e12 => first | exact Nat.le_trans hpl2 (by decide) | (simp; omega)
            case e13 => exact (hzD.alloc hszD _).size
            intro v6 w6 hown_1 hb_1 hgw_1
            have hY6 := (hY5.alloc (.cells #[.string ⟨who.toArray⟩, .string ⟨target.toArray⟩, .string ⟨ra.toArray⟩, .int .i64 A, .bool allow] 29))
            have hY7 : Whole w6 gy 29 _ := (hgw_1.block gy hY6.lt (fun e => own_ne hown hgyb e.symm)).trans hY6
            have r3 := hY7.cell 3
            simp only [List.getElem?_toArray, List.getElem?_cons_zero, List.getElem?_cons_succ] at r3
            go_wp2_with fail
            go_roundw
            case rel => exact ⟨k + 1, by omega, by go_num, by rw [hps2]; exact hown_1, (hzD.alloc hszD _).trans hb_1⟩
            case measure => simp [intOf]; omega
          · have hbb : (B != 0) = true := by simp [hB0]
            have hps2 : PoS.partL by_ (xs.take (k + 1)) = PoS.partL by_ (xs.take k) ++ [⟨who, target, ra, A, allow⟩, ⟨who, target, ra, B, allow⟩] := by rw [hps, HPR.out, if_pos hA0, if_pos hB0]; simp
            clear hA0 hB0 hA hB
            go_wp2_with (at_builtin; refine push_rule_g 29 27 Tryz.underlying27 HI.out hz0 hz1 hz2 (by rfl) (by rfl) _ _ (by rfl) w4.heap.size _ (PoS.partL by_ (xs.take k)) (by rfl) (hownD.alloc _) _ (by rfl) ⟨who, target, ra, A, allow⟩ ?e11 ?e12 ?e13 ?_)
            case e11 => simp [go_sem, strV, RuleAt]
            case e12 => first | exact Nat.le_trans hpl2 (by decide) | (simp; omega)
            case e13 => exact (hzD.alloc hszD _).size
            intro v6 w6 hown_1 hb_1 hgw_1
            have hY6 := (hY5.alloc (.cells #[.string ⟨who.toArray⟩, .string ⟨target.toArray⟩, .string ⟨ra.toArray⟩, .int .i64 A, .bool allow] 29))
            have hY7 : Whole w6 gy 29 _ := (hgw_1.block gy hY6.lt (fun e => own_ne hown hgyb e.symm)).trans hY6
            have hz6 := (hzD.alloc hszD (.cells #[.string ⟨who.toArray⟩, .string ⟨target.toArray⟩, .string ⟨ra.toArray⟩, .int .i64 A, .bool allow] 29)).trans hb_1
            have hsz6 := hz6.size
            clear q0 q1 q2 q3 q4 qt0 qt1 qt2 qt3 qt4
            have q0 := hY7.cell 0
            have q1 := hY7.cell 1
            have q2 := hY7.cell 2
            have q3 := hY7.cell 3
            have q4 := hY7.cell 4
            have qt0 := hY7.thaw 0
            have qt1 := hY7.thaw 1
            have qt2 := hY7.thaw 2
            have qt3 := hY7.thaw 3
            have qt4 := hY7.thaw 4
            simp only [List.getElem?_toArray, List.getElem?_cons_zero, List.getElem?_cons_succ] at q0 q1 q2 q3 q4
            go_wp2_with (at_builtin; refine push_rule_g 29 27 Tryz.underlying27 HI.out hz0 hz1 hz2 (by rfl) (by rfl) _ _ (by rfl) w4.heap.size _ (PoS.partL by_ (xs.take k) ++ [⟨who, target, ra, A, allow⟩]) (by rfl) (hown_1.alloc _) _ (by rfl) ⟨who, target, ra, B, allow⟩ ?e21 ?e22 ?e23 ?_)
            case e21 => simp [go_sem, strV, RuleAt]
            case e22 => first | exact Nat.le_trans hpl2 (by decide) | (simp; omega)
            case e23 => exact (hz6.alloc hsz6 _).size
            intro v7 w7 hown_2 hb_2 hgw_2
            go_wp2_with fail
            go_roundw
            case rel => exact ⟨k + 1, by omega, by go_num, by rw [hps2]; exact hown_2, (hz6.alloc hsz6 _).trans hb_2⟩
            case measure => simp [intOf]; omega
    · have hkl : k = xs.length := by omega
      subst hkl
      simp only [List.take_length] at hown
      obtain ⟨po, co, rfl⟩ := hown.form
      have hPR := hown.rules
      obtain ⟨d0, d1, d2, d3, HP⟩ := keepAsk d0 d1 d2 d3 HP hb
      clear HAT HPS HPL hpl hown hb
      generalize PoS.decideS xs s right n t = D at *
      generalize hPLN : (PoS.partL by_ xs).length = pn at *
      generalize hPLG : PoS.partL by_ xs = PL at *
      generalize xs.length = m at *
      go_wp2_with fail
      go_region_held3 (fun w' => w'.cell? ⟨w.heap.size, 0, none⟩ = some (.string ⟨s.toArray⟩) ∧ w'.cell? ⟨w.heap.size, 1, none⟩ = some (.string ⟨n.toArray⟩) ∧ w'.cell? ⟨w.heap.size, 2, none⟩ = some (.string ⟨t.toArray⟩) ∧ w'.cell? ⟨w.heap.size, 3, none⟩ = some (.int .i64 right) ∧ RulesIn w' (.slice po pn co) PL ∧ PKeep w.heap.size w (.slice p0 m c0) xs w')
        (first | exact ⟨d0, d1, d2, d3, hPR, HP.drew⟩ | (go_split_ands; obtain ⟨t0, t1, t2, t3, t4⟩ := keepAsk (by assumption) (by assumption) (by assumption) (by assumption) (by assumption) hbN; exact ⟨t0, t1, t2, t3, RulesIn.call (by assumption) hbN (Nat.le_refl _), t4⟩) | go_keep)
        (first
          | (go_at_call 25; go_split_ands; with_reducible refine (ht _ ?_).mono ?_; exact PKeep.rules (by assumption); rintro e wN ⟨u, rfl, hu, hbN⟩; obtain ⟨pu, cu, rfl⟩ := hform _ _ _ hu; have hur := OwnR.rules hu)
          | (go_at_call 24; go_split_ands; with_reducible refine (hdp _ _ ?_ ?_).mono ?_; assumption; exact PKeep.env (by assumption); rintro e wN ⟨rfl, hbN⟩)
          | (go_at_call 24; go_split_ands; with_reducible refine (hd _ _ ?_ ?_).mono ?_; assumption; exact PKeep.env (by assumption); rintro e wN ⟨rfl, hbN⟩))
      all_goals go_wp2_with fail
      all_goals go_split_ands
      all_goals go_ret
      all_goals exact ⟨rfl, PKeep.below (by assumption)⟩
end Go.Proofs.YtifjghkgmfmneaaGreatDoor
