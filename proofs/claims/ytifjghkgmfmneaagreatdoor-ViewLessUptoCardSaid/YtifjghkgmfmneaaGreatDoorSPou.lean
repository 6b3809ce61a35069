/- The walks of restricting rules to a context, the program's and the document's. Conditions: each rule's texts and the context have at most 100000 bytes, the list at most 1000000 rules; the library's variables are laid. Small walks and facts for the laws on rules: a slice of one rule that is laid anew, 'awake', what a call keeps. Condition: the library's variables are laid. -/
import Derived.Deep.RegionHeld3
import Derived.Test.YtifjghkgmfmneaaGreatDoorSPom
import Derived.Test.YtifjghkgmfmneaaGreatDoorSPol
import Derived.Test.YtifjghkgmfmneaaGreatDoorSPoq
namespace Go.Proofs.YtifjghkgmfmneaaGreatDoor
open Go.RowKit
namespace PoS
theorem keep_step {context : List UInt8} {l : List Rl} {k : Nat} (hk : k < l.length) (h : keepsR context l[k] = true) : (l.take (k + 1)).filter (keepsR context) = (l.take k).filter (keepsR context) ++ [l[k]] := by
  rw [List.take_succ_eq_append_getElem hk, List.filter_append, List.filter_cons, if_pos h, List.filter_nil]
theorem skip_step {context : List UInt8} {l : List Rl} {k : Nat} (hk : k < l.length) (h : keepsR context l[k] = false) : (l.take (k + 1)).filter (keepsR context) = (l.take k).filter (keepsR context) := by
  rw [List.take_succ_eq_append_getElem hk, List.filter_append, List.filter_cons, if_neg (by rw [h]; simp), List.filter_nil, List.append_nil]
theorem keeps_eq (context who target ra : List UInt8) (rights : Int) (allow : Bool) : keepsR context ⟨who, target, ra, rights, allow⟩ = (DnS.underS target context || DnS.underS context target) := rfl
end PoS
def keepLoop (T : TypeId) (context : List UInt8) (xs : List PoS.Rl) (w0 : World) (out i : Value) (wr : World) : Prop :=
  ∃ k : Nat, k ≤ xs.length ∧ i = .int .i64 k ∧ OwnR T wr w0.heap.size out ((xs.take k).filter (PoS.keepsR context)) ∧ Below w0.heap.size w0 wr

set_option maxRecDepth 100000 in
set_option maxHeartbeats 4000000 in
theorem polrestrict_c (v : Value) (xs : List PoS.Rl) (context : List UInt8) (w : World) (h : RulesIn w v xs) (hs : ∀ r ∈ xs, SmallR r) (hl : xs.length ≤ 1000000) (q : context.length ≤ 100000) (hE : Env w) :
    Calls Tryz.prog 50 #[v, .string ⟨context.toArray⟩] w (RulesRet 29 (PoS.restrictS xs context) w) := by
  have h1 := fun w hE => dnnormal_c context (by omega) w hE
  have h4 := fun w h hE => polFormed_c v xs w h hs hl hE
  unfold NmTxt at h1
  unfold NmBool at h4
  have HY : Hid (PoS.formedL xs = true → (DnS.normN context).2 = 0 → PoS.restrictS xs context = xs.filter (PoS.keepsR context)) := Lib.hid (fun a b => by unfold PoS.restrictS; rw [a, decide_eq_true b]; rfl)
  have HN1 : Hid (PoS.formedL xs = false → PoS.restrictS xs context = []) := Lib.hid (fun a => by unfold PoS.restrictS; rw [a]; rfl)
  have HN2 : Hid ((DnS.normN context).2 ≠ 0 → PoS.restrictS xs context = []) := Lib.hid (fun a => by unfold PoS.restrictS; rw [decide_eq_false a, Bool.and_false]; rfl)
  generalize PoS.restrictS xs context = R at *
  generalize DnS.normN context = N at *
  obtain ⟨cn, e1⟩ := N
  simp only at h1 HY HN2
  have HRI := Lib.hid h
  obtain ⟨a, c, rfl, hc, hat⟩ := h.at
  have HAT := Lib.hid hat
  have HS := Lib.hid (fun k (h : k < xs.length) => hs xs[k] (List.getElem_mem h))
  obtain ⟨i0, hi, hz0, hz1, hz2⟩ := info_parts infoRule
  have HI := Lib.hid hi
  clear hat hs h hi
  obtain ⟨fd, hfd⟩ : ∃ fd, PoS.formedL xs = fd := ⟨_, rfl⟩
  rw [hfd] at h4 HY HN1
  clear hfd
  generalize hnn : xs.length = m at hc hl h4 ⊢
  have HN := Lib.hid hnn
  clear hnn
  by_cases z1 : e1 = 0
  · subst z1
    cases fd with
    | false =>
      have HR := Lib.hid (HN1.out (by trivial))
      go_enter Tryz.func50, Tryz.ntmps50
      go_wp2_with fail
      refine (h1 _ hE).mono ?_; rintro e w1 ⟨rfl, hb1⟩
      have hE1 := hE.below hb1
      have hri := HRI.out.call hb1 (Nat.le_refl _)
      rw [HN.out] at hri
      go_wp2_with fail
      refine (h4 _ hri hE1).mono ?_; rintro e w2 ⟨rfl, hb2⟩
      have hbz := below_trans hb1 hb2
      go_wp2_with fail
      go_ret
      exact ⟨_, rfl, by rw [HR.out]; exact OwnR.empty _ _ _, hbz⟩
    | true =>
      go_enter Tryz.func50, Tryz.ntmps50
      go_wp2_with fail
      refine (h1 _ hE).mono ?_; rintro e w1 ⟨rfl, hb1⟩
      have hE1 := hE.below hb1
      have hri := HRI.out.call hb1 (Nat.le_refl _)
      rw [HN.out] at hri
      go_wp2_with fail
      refine (h4 _ hri hE1).mono ?_; rintro e w2 ⟨rfl, hb2⟩
      have hbz := below_trans hb1 hb2
      go_wp2_with fail
      go_loopw [7, 24] (fun out i wr => keepLoop 29 context xs w out i wr) (fun _ i _ => m - (intOf i).toNat)
      case atStart => exact ⟨0, Nat.zero_le _, rfl, OwnR.empty _ _ _, hbz⟩
      case round =>
        obtain ⟨k, hk, rfl, hown, hb⟩ := hrel
        rw [HN.out] at hk
        have hsz := hb.size
        by_cases hlt : k < m
        · have hlt2 : k < xs.length := by rw [HN.out]; exact hlt
          obtain ⟨g, o, rfl, hg, hra⟩ := HAT.out k hlt2
          have hrc := hra.call hb hg
          have hsm := HS.out k hlt2
          have HKY := Lib.hid (fun h => PoS.keep_step (context := context) hlt2 h)
          have HKN := Lib.hid (fun h => PoS.skip_step (context := context) hlt2 h)
          have htl : ((xs.take k).filter (PoS.keepsR context)).length ≤ 1000000 := by
            have := List.length_filter_le (PoS.keepsR context) (xs.take k)
            rw [List.length_take] at this
            omega
          clear hra
          generalize xs[k] = r at hrc hsm HKY HKN
          clear hlt2
          obtain ⟨who, target, ra, rights, allow⟩ := r
          obtain ⟨c0, c1, c2, c3, c4⟩ := hrc
          unfold strV at c0 c1 c2
          simp only at c0 c1 c2 c3 c4
          obtain ⟨p1, p2, p3⟩ := hsm
          simp only at p1 p2 p3
          have hEr := hE.below hb
          have HK := Lib.hid (PoS.keeps_eq context who target ra rights allow)
          have hu1 := fun w hE => dnunder_c target context (by omega) (by omega) w hE
          have hu2 := fun w hE => dnunder_c context target (by omega) (by omega) w hE
          unfold NmBool at hu1 hu2
          generalize DnS.underS target context = b1 at *
          generalize DnS.underS context target = b2 at *
          cases b1 with
          | true =>
            have HT := Lib.hid (HKY.out (by rw [HK.out]; rfl))
            have hwb := Whole.made wr 29 #[.string ⟨who.toArray⟩, .string ⟨target.toArray⟩, .string ⟨ra.toArray⟩, .int .i64 rights, .bool allow]
            have hba : Below wr.heap.size wr (wr.alloc (.cells #[.string ⟨who.toArray⟩, .string ⟨target.toArray⟩, .string ⟨ra.toArray⟩, .int .i64 rights, .bool allow] 29)) := grow1 wr _
            have hEa := hEr.below hba
            have hbk := hb.trans (hba.mono hb.size)
            have hownA := hown.alloc (.cells #[.string ⟨who.toArray⟩, .string ⟨target.toArray⟩, .string ⟨ra.toArray⟩, .int .i64 rights, .bool allow] 29)
            go_wp2_with fail
            refine (hu1 _ hEa).mono ?_; rintro e w5 ⟨rfl, hb5⟩
            have hw5 := hwb.call hb5
            have hbk5 := hbk.trans (hb5.mono hbk.size)
            have hsz5 := hbk5.size
            have hown5 := hownA.call hb5
            have d0 := hw5.cell 0
            have d1 := hw5.cell 1
            have d2 := hw5.cell 2
            have d3 := hw5.cell 3
            have d4 := hw5.cell 4
            simp only [List.getElem?_toArray, List.getElem?_cons_zero, List.getElem?_cons_succ] at d0 d1 d2 d3 d4
            go_wp2_with (at_builtin; refine push_rule 29 27 Tryz.underlying27 HI.out hz0 hz1 hz2 (by rfl) (by rfl) _ _ (by rfl) w.heap.size _ ((xs.take k).filter (PoS.keepsR context)) (by rfl) (hown5.alloc _) w5.heap.size (by rfl) ⟨who, target, ra, rights, allow⟩ ?e1 ?e2 ?e3 ?_)
            case e1 => simp [go_sem, strV, RuleAt]
            case e2 => omega
            case e3 => simp; omega
            intro v' w9 hown9 hb9
            go_wp2_with fail
            go_roundw
            case rel => exact ⟨k + 1, by rw [HN.out]; omega, by go_num, by rw [HT.out]; exact hown9, (hbk5.alloc hbk5.size _).trans hb9⟩
            case measure => simp [intOf]; omega
          | false =>
            cases b2 with
            | true =>
              have HT := Lib.hid (HKY.out (by rw [HK.out]; rfl))
              have hwb := Whole.made wr 29 #[.string ⟨who.toArray⟩, .string ⟨target.toArray⟩, .string ⟨ra.toArray⟩, .int .i64 rights, .bool allow]
              have hba : Below wr.heap.size wr (wr.alloc (.cells #[.string ⟨who.toArray⟩, .string ⟨target.toArray⟩, .string ⟨ra.toArray⟩, .int .i64 rights, .bool allow] 29)) := grow1 wr _
              have hEa := hEr.below hba
              have hbk := hb.trans (hba.mono hb.size)
              have hownA := hown.alloc (.cells #[.string ⟨who.toArray⟩, .string ⟨target.toArray⟩, .string ⟨ra.toArray⟩, .int .i64 rights, .bool allow] 29)
              go_wp2_with fail
              refine (hu1 _ hEa).mono ?_; rintro e w5 ⟨rfl, hb5⟩
              have hw5 := hwb.call hb5
              have hbk5 := hbk.trans (hb5.mono hbk.size)
              have hsz5 := hbk5.size
              have hown5 := hownA.call hb5
              have d0 := hw5.cell 0
              have d1 := hw5.cell 1
              have d2 := hw5.cell 2
              have d3 := hw5.cell 3
              have d4 := hw5.cell 4
              simp only [List.getElem?_toArray, List.getElem?_cons_zero, List.getElem?_cons_succ] at d0 d1 d2 d3 d4
              go_wp2_with fail
              refine (hu2 _ (hEa.below hb5)).mono ?_; rintro e w6 ⟨rfl, hb6⟩
              have hw6 := hw5.call hb6
              have hbk6 := hbk5.trans (hb6.mono hbk5.size)
              have hsz6 := hbk6.size
              have hown6 := hown5.call hb6
              have f0 := hw6.cell 0
              have f1 := hw6.cell 1
              have f2 := hw6.cell 2
              have f3 := hw6.cell 3
              have f4 := hw6.cell 4
              simp only [List.getElem?_toArray, List.getElem?_cons_zero, List.getElem?_cons_succ] at f0 f1 f2 f3 f4
              go_wp2_with (at_builtin; refine push_rule 29 27 Tryz.underlying27 HI.out hz0 hz1 hz2 (by rfl) (by rfl) _ _ (by rfl) w.heap.size _ ((xs.take k).filter (PoS.keepsR context)) (by rfl) (hown6.alloc _) w6.heap.size (by rfl) ⟨who, target, ra, rights, allow⟩ ?e1 ?e2 ?e3 ?_)
              case e1 => simp [go_sem, strV, RuleAt]
              case e2 => omega
              case e3 => simp; omega
              intro v' w9 hown9 hb9
              go_wp2_with fail
              go_roundw
              case rel => exact ⟨k + 1, by rw [HN.out]; omega, by go_num, by rw [HT.out]; exact hown9, (hbk6.alloc hbk6.size _).trans hb9⟩
              case measure => simp [intOf]; omega
            | false =>
              have HT := Lib.hid (HKN.out (by rw [HK.out]; rfl))
              have hwb := Whole.made wr 29 #[.string ⟨who.toArray⟩, .string ⟨target.toArray⟩, .string ⟨ra.toArray⟩, .int .i64 rights, .bool allow]
              have hba : Below wr.heap.size wr (wr.alloc (.cells #[.string ⟨who.toArray⟩, .string ⟨target.toArray⟩, .string ⟨ra.toArray⟩, .int .i64 rights, .bool allow] 29)) := grow1 wr _
              have hEa := hEr.below hba
              have hbk := hb.trans (hba.mono hb.size)
              have hownA := hown.alloc (.cells #[.string ⟨who.toArray⟩, .string ⟨target.toArray⟩, .string ⟨ra.toArray⟩, .int .i64 rights, .bool allow] 29)
              go_wp2_with fail
              refine (hu1 _ hEa).mono ?_; rintro e w5 ⟨rfl, hb5⟩
              have hw5 := hwb.call hb5
              have hbk5 := hbk.trans (hb5.mono hbk.size)
              have hsz5 := hbk5.size
              have hown5 := hownA.call hb5
              have d0 := hw5.cell 0
              have d1 := hw5.cell 1
              have d2 := hw5.cell 2
              have d3 := hw5.cell 3
              have d4 := hw5.cell 4
              simp only [List.getElem?_toArray, List.getElem?_cons_zero, List.getElem?_cons_succ] at d0 d1 d2 d3 d4
              go_wp2_with fail
              refine (hu2 _ (hEa.below hb5)).mono ?_; rintro e w6 ⟨rfl, hb6⟩
              have hw6 := hw5.call hb6
              have hbk6 := hbk5.trans (hb6.mono hbk5.size)
              have hsz6 := hbk6.size
              have hown6 := hown5.call hb6
              have f0 := hw6.cell 0
              have f1 := hw6.cell 1
              have f2 := hw6.cell 2
              have f3 := hw6.cell 3
              have f4 := hw6.cell 4
              simp only [List.getElem?_toArray, List.getElem?_cons_zero, List.getElem?_cons_succ] at f0 f1 f2 f3 f4
              go_wp2_with fail
              go_roundw
              case rel => exact ⟨k + 1, by rw [HN.out]; omega, by go_num, by rw [HT.out]; exact hown6, hbk6⟩
              case measure => simp [intOf]; omega
        · have hall : xs.take k = xs := List.take_of_length_le (by rw [HN.out]; omega)
          rw [hall] at hown
          have HR : Hid (R = xs.filter (PoS.keepsR context)) := Lib.hid (HY.out (by trivial) (by trivial))
          clear hall
          go_wp2_with fail
          go_ret
          exact ⟨_, rfl, by rw [HR.out]; exact hown, hb⟩
  · have z1n : (e1 != 0) = true := by simpa using z1
    have HR := Lib.hid (HN2.out z1)
    go_enter Tryz.func50, Tryz.ntmps50
    go_wp2_with fail
    refine (h1 _ hE).mono ?_; rintro e w1 ⟨rfl, hb1⟩
    have hE1 := hE.below hb1
    have hri := HRI.out.call hb1 (Nat.le_refl _)
    rw [HN.out] at hri
    go_wp2_with fail
    go_ret
    exact ⟨_, rfl, by rw [HR.out]; exact OwnR.empty _ _ _, hb1⟩
end Go.Proofs.YtifjghkgmfmneaaGreatDoor
namespace Go.Proofs.YtifjghkgmfmneaaGreatDoor
open Go.RowKit

theorem RulesIn.lit (T : TypeId) (w : World) (r : PoS.Rl) : RulesIn (w.alloc (.cells (oneC r).toArray T)) (.slice (some ⟨w.heap.size, 0, none⟩) 1 1) [r] := by
  have hw := Whole.made w T (oneC r).toArray
  refine ⟨some ⟨w.heap.size, 0, none⟩, 1, rfl, Nat.le_refl _, .inr ⟨w.heap.size, 0, rfl, hw.lt, fun j q hj => ?_⟩⟩
  match j, hj with
  | 0, hj =>
    have := Option.some.inj hj
    subst this
    exact ⟨hw.cell 0, hw.cell 1, hw.cell 2, hw.cell 3, hw.cell 4⟩
  | j + 1, hj => simp at hj
def awakeR : PoS.Rl := ⟨[42], [], [], 1, true⟩
/-- what is kept while calls run: the rules that came in, the library's variables, all that stood at the call's start -/
def PKeep (_B : Nat) (w : World) (v : Value) (xs : List PoS.Rl) (W : World) : Prop := Below w.heap.size w W ∧ RulesIn W v xs ∧ Env W
theorem PKeep.call {B : Nat} {w W W' : World} {v : Value} {xs : List PoS.Rl} (h : PKeep B w v xs W) (hb : Below W.heap.size W W') : PKeep B w v xs W' :=
  ⟨h.1.trans (hb.mono h.1.size), h.2.1.call hb (Nat.le_refl _), h.2.2.below hb⟩
theorem PKeep.rules {B : Nat} {w W : World} {v : Value} {xs : List PoS.Rl} (h : PKeep B w v xs W) : RulesIn W v xs := h.2.1
theorem PKeep.below {B : Nat} {w W : World} {v : Value} {xs : List PoS.Rl} (h : PKeep B w v xs W) : Below w.heap.size w W := h.1
theorem PKeep.drew {B : Nat} {w W : World} {v : Value} {xs : List PoS.Rl} (h : PKeep B w v xs W) : PKeep B w v xs W.drew := ⟨h.1.drew, h.2.1, h.2.2.drew⟩
theorem small_of {xs : List PoS.Rl} (h : xs.length ≤ 100 ∧ ∀ r ∈ xs, r.who.length ≤ 3000 ∧ r.target.length ≤ 3000 ∧ r.attr.length ≤ 3000) : xs.length ≤ 1000000 ∧ ∀ r ∈ xs, SmallR r :=
  ⟨by omega, fun r hr => by obtain ⟨a, b, c⟩ := h.2 r hr; exact ⟨by omega, by omega, by omega⟩⟩
end Go.Proofs.YtifjghkgmfmneaaGreatDoor
