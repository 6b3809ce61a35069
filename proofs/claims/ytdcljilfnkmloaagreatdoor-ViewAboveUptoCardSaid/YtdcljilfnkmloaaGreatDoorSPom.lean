/- The walks of the program's rules: 'formed', 'Formed' (with slices.ContainsFunc and its closure), 'who'. Conditions: each rule's texts have at most 100000 bytes; the library's variables are laid. The walks of the document's rules: 'who', 'Formed'. Conditions: each rule's texts have at most 100000 bytes; the library's variables are laid. The walks of deciding by rules: the program's and the document's 'Decide', math/bits.OnesCount of a small number. Conditions: each rule's texts and the asked texts have at most 100000 bytes, the list at most 1000000 rules; the library's variables are laid. -/
import Derived.BigQuiet
import Derived.Test.YtdcljilfnkmloaaGreatDoorSPol
import Derived.Test.YtdcljilfnkmloaaGreatDoorSDnh
namespace Go.Proofs.YtdcljilfnkmloaaGreatDoor
open Go.RowKit

def SmallR (r : PoS.Rl) : Prop := r.who.length ≤ 100000 ∧ r.target.length ≤ 100000 ∧ r.attr.length ≤ 100000
namespace PoS
open Go.Lib DnS
theorem who_cases (s : List UInt8) : (∃ r : List UInt8, hasPrefix s [64] = true ∧ trimPrefix s [64] = r ∧ s = 64 :: r ∧ whoOk s = decide ((normN r).2 = 0)) ∨ (hasPrefix s [64] = false ∧ whoOk s = (s == [42] || s == [45] || s == [61])) := by
  cases s with
  | nil => exact .inr ⟨rfl, rfl⟩
  | cons c r =>
    by_cases h : c = 64
    · subst h
      refine .inl ⟨r, ?_, ?_, rfl, ?_⟩
      · simp [hasPrefix, List.isPrefixOf]
      · simp [trimPrefix, hasPrefix, List.isPrefixOf]
      · unfold whoOk
        simp
    · refine .inr ⟨?_, ?_⟩
      · simp [hasPrefix, List.isPrefixOf]; exact fun e => h e.symm
      · unfold whoOk
        simp [h]
theorem is_star (s n : List UInt8) {q : List UInt8} (h : (q == [42]) = true) : isS q s n = true := by unfold isS; rw [if_pos (beq_iff_eq.1 h)]
theorem is_dash (s n : List UInt8) {q : List UInt8} (h0 : (q == [42]) = false) (h : (q == [45]) = true) : isS q s n = (s == []) := by unfold isS; rw [if_neg (by simpa using h0), if_pos (beq_iff_eq.1 h)]
theorem is_self (s n : List UInt8) {q : List UInt8} (h0 : (q == [42]) = false) (h1 : (q == [45]) = false) (h : (q == [61]) = true) : isS q s n = (s != [] && s == n) := by unfold isS; rw [if_neg (by simpa using h0), if_neg (by simpa using h1), if_pos (beq_iff_eq.1 h)]
theorem is_name (s n : List UInt8) {q : List UInt8} (h0 : (q == [42]) = false) (h1 : (q == [45]) = false) (h : (q == [61]) = false) : isS q s n = (s != [] && underS s (q.drop 1)) := by unfold isS; rw [if_neg (by simpa using h0), if_neg (by simpa using h1), if_neg (by simpa using h)]
end PoS

set_option maxRecDepth 100000 in
set_option maxHeartbeats 4000000 in
theorem polformed_c (who target attr : List UInt8) (rights : Int) (allow : Bool) (hs : SmallR ⟨who, target, attr, rights, allow⟩) (w : World) (hE : Env w) :
    Calls Tryz.prog 159 #[.agg #[.string ⟨who.toArray⟩, .string ⟨target.toArray⟩, .string ⟨attr.toArray⟩, .int .i64 rights, .bool allow]] w (NmBool (PoS.formedR ⟨who, target, attr, rights, allow⟩) w) := by
  obtain ⟨q1, q2, q3⟩ := hs
  simp only at q1 q2 q3
  have hwb := Whole.made w 85 #[.string ⟨who.toArray⟩, .string ⟨target.toArray⟩, .string ⟨attr.toArray⟩, .int .i64 rights, .bool allow]
  have hba : Below w.heap.size w (w.alloc (.cells #[.string ⟨who.toArray⟩, .string ⟨target.toArray⟩, .string ⟨attr.toArray⟩, .int .i64 rights, .bool allow] 85)) := grow1 w _
  have hEa := hE.below hba
  have h2 := fun w hE => dnnormal_c target (by omega) w hE
  have h3 : ∀ w, Calls Tryz.prog 23 #[.string ⟨attr.toArray⟩] w (TypeRet attr w) := fun w => type_c ⟨attr.toArray⟩ (by show attr.toArray.size ≤ _; simp; omega) w
  have hcp : ∀ w, Calls Tryz.prog 186 #[.string ⟨who.toArray⟩, .string ⟨#[64]⟩] w fun e w' => e = .returned (.tuple #[.string ⟨(Lib.trimPrefix who [64]).toArray⟩, .bool (Lib.hasPrefix who [64])]) ∧ w' = w := fun w => Tryz.strings_CutPrefix ⟨who.toArray⟩ ⟨#[64]⟩ w
  have HF : Hid (PoS.formedR ⟨who, target, attr, rights, allow⟩ = (PoS.whoOk who && decide ((DnS.normN target).2 = 0) && decide ((RuS.typeOf attr).1 = attr) && decide (0 < rights) && decide (rights ≤ 63))) := Lib.hid rfl
  unfold NmTxt at h2
  unfold TypeRet at h3
  generalize DnS.normN target = N at *
  obtain ⟨nt, e2⟩ := N
  generalize RuS.typeOf attr = T at *
  obtain ⟨tt, sy⟩ := T
  simp only at h2 h3 HF
  rcases PoS.who_cases who with ⟨r, hp, ht, hwr, hok⟩ | ⟨hp, hok⟩
  · rw [hp, ht] at hcp
    have hrl : r.length ≤ 100000 := by have := congrArg List.length hwr; rw [List.length_cons] at this; omega
    have h1 := fun w hE => dnnormal_c r (by omega) w hE
    unfold NmTxt at h1
    generalize DnS.normN r = M at *
    obtain ⟨nr, e1⟩ := M
    simp only at h1 hok
    clear hwr hp ht
    go_enter Tryz.func159, Tryz.ntmps159
    go_wp2_with fail
    refine (hcp _).mono ?_; rintro e w1 ⟨rfl, rfl⟩
    go_wp2_with fail
    refine (h1 _ hEa).mono ?_; rintro e w2 ⟨rfl, hb2⟩
    have hE2 := hEa.below hb2
    have hw2 := hwb.call hb2
    have hbb := below_trans hba hb2
    have b1 := hw2.cell 1
    simp only [List.getElem?_toArray, List.getElem?_cons_zero, List.getElem?_cons_succ] at b1
    by_cases k0 : e1 = 0
    · subst k0
      have HWH : Hid (PoS.whoOk who = true) := Lib.hid (by rw [hok]; rfl)
      clear hok
      go_wp2_with fail
      refine (h2 _ hE2).mono ?_; rintro e wt ⟨rfl, hbt⟩
      have hwt := hw2.call hbt
      have c1 := hwt.cell 0
      have c2 := hwt.cell 1
      have c3 := hwt.cell 2
      have c4 := hwt.cell 3
      simp only [List.getElem?_toArray, List.getElem?_cons_zero, List.getElem?_cons_succ] at c1 c2 c3 c4
      go_wp2_with fail
      refine (h3 _).mono ?_; rintro e wu ⟨rfl, hbu⟩
      have hwu := hwt.call hbu
      have d1 := hwu.cell 0
      have d2 := hwu.cell 1
      have d3 := hwu.cell 2
      have d4 := hwu.cell 3
      simp only [List.getElem?_toArray, List.getElem?_cons_zero, List.getElem?_cons_succ] at d1 d2 d3 d4
      have hbz := below_trans (below_trans hbb hbt) hbu
      by_cases k1 : e2 = 0
      · subst k1
        cases k2 : (tt == attr) with
        | false =>
          have HR : Hid (PoS.formedR ⟨who, target, attr, rights, allow⟩ = false) := Lib.hid (by rw [HF.out]; have h9 : ¬ tt = attr := (by simpa using k2); simp [h9])
          go_wp2_with fail
          go_ret
          exact ⟨by rw [HR.out]; rfl, hbz⟩
        | true =>
          obtain rfl : tt = attr := beq_iff_eq.1 k2
          by_cases k3 : 0 < rights
          · have k3d : decide (0 < rights) = true := decide_eq_true k3
            by_cases k4 : rights ≤ 63
            · have k4d : decide (rights ≤ 63) = true := decide_eq_true k4
              have HR : Hid (PoS.formedR ⟨who, target, tt, rights, allow⟩ = true) := Lib.hid (by rw [HF.out, HWH.out]; simp [k3, k4])
              go_wp2_with fail
              go_ret
              exact ⟨by rw [HR.out]; rfl, hbz⟩
            · have k4d : decide (rights ≤ 63) = false := decide_eq_false k4
              have HR : Hid (PoS.formedR ⟨who, target, tt, rights, allow⟩ = false) := Lib.hid (by rw [HF.out]; simp [k4])
              go_wp2_with fail
              go_ret
              exact ⟨by rw [HR.out]; rfl, hbz⟩
          · have k3d : decide (0 < rights) = false := decide_eq_false k3
            have HR : Hid (PoS.formedR ⟨who, target, tt, rights, allow⟩ = false) := Lib.hid (by rw [HF.out]; simp [k3])
            go_wp2_with fail
            go_ret
            exact ⟨by rw [HR.out]; rfl, hbz⟩
      · have k1z : (e2 == 0) = false := by simpa using k1
        have HR : Hid (PoS.formedR ⟨who, target, attr, rights, allow⟩ = false) := Lib.hid (by rw [HF.out]; simp [k1])
        go_wp2_with fail
        go_ret
        exact ⟨by rw [HR.out]; rfl, hbz⟩
    · have k0z : (e1 != 0) = true := by simpa using k0
      have HR : Hid (PoS.formedR ⟨who, target, attr, rights, allow⟩ = false) := Lib.hid (by rw [HF.out, hok]; simp [k0])
      clear hok
      go_wp2_with fail
      go_ret
      exact ⟨by rw [HR.out]; rfl, hbb⟩
  · rw [hp] at hcp
    generalize Lib.trimPrefix who [64] = cut at *
    clear hp
    cases a1 : (who == [42]) with
    | true =>
      have HWH : Hid (PoS.whoOk who = true) := Lib.hid (by rw [hok, a1]; rfl)
      have a1n : (who != [42]) = false := by simp [bne, a1]
      clear hok
      go_enter Tryz.func159, Tryz.ntmps159
      go_wp2_with fail
      refine (hcp _).mono ?_; rintro e w1 ⟨rfl, rfl⟩
      go_wp2_with fail
      refine (h2 _ hEa).mono ?_; rintro e wt ⟨rfl, hbt⟩
      have hwt := hwb.call hbt
      have c1 := hwt.cell 0
      have c2 := hwt.cell 1
      have c3 := hwt.cell 2
      have c4 := hwt.cell 3
      simp only [List.getElem?_toArray, List.getElem?_cons_zero, List.getElem?_cons_succ] at c1 c2 c3 c4
      go_wp2_with fail
      refine (h3 _).mono ?_; rintro e wu ⟨rfl, hbu⟩
      have hwu := hwt.call hbu
      have d1 := hwu.cell 0
      have d2 := hwu.cell 1
      have d3 := hwu.cell 2
      have d4 := hwu.cell 3
      simp only [List.getElem?_toArray, List.getElem?_cons_zero, List.getElem?_cons_succ] at d1 d2 d3 d4
      have hbz := below_trans (below_trans hba hbt) hbu
      by_cases k1 : e2 = 0
      · subst k1
        cases k2 : (tt == attr) with
        | false =>
          have HR : Hid (PoS.formedR ⟨who, target, attr, rights, allow⟩ = false) := Lib.hid (by rw [HF.out]; have h9 : ¬ tt = attr := (by simpa using k2); simp [h9])
          go_wp2_with fail
          go_ret
          exact ⟨by rw [HR.out]; rfl, hbz⟩
        | true =>
          obtain rfl : tt = attr := beq_iff_eq.1 k2
          by_cases k3 : 0 < rights
          · have k3d : decide (0 < rights) = true := decide_eq_true k3
            by_cases k4 : rights ≤ 63
            · have k4d : decide (rights ≤ 63) = true := decide_eq_true k4
              have HR : Hid (PoS.formedR ⟨who, target, tt, rights, allow⟩ = true) := Lib.hid (by rw [HF.out, HWH.out]; simp [k3, k4])
              go_wp2_with fail
              go_ret
              exact ⟨by rw [HR.out]; rfl, hbz⟩
            · have k4d : decide (rights ≤ 63) = false := decide_eq_false k4
              have HR : Hid (PoS.formedR ⟨who, target, tt, rights, allow⟩ = false) := Lib.hid (by rw [HF.out]; simp [k4])
              go_wp2_with fail
              go_ret
              exact ⟨by rw [HR.out]; rfl, hbz⟩
          · have k3d : decide (0 < rights) = false := decide_eq_false k3
            have HR : Hid (PoS.formedR ⟨who, target, tt, rights, allow⟩ = false) := Lib.hid (by rw [HF.out]; simp [k3])
            go_wp2_with fail
            go_ret
            exact ⟨by rw [HR.out]; rfl, hbz⟩
      · have k1z : (e2 == 0) = false := by simpa using k1
        have HR : Hid (PoS.formedR ⟨who, target, attr, rights, allow⟩ = false) := Lib.hid (by rw [HF.out]; simp [k1])
        go_wp2_with fail
        go_ret
        exact ⟨by rw [HR.out]; rfl, hbz⟩
    | false =>
      have a1n : (who != [42]) = true := by simp [bne, a1]
      cases a2 : (who == [45]) with
      | true =>
        have HWH : Hid (PoS.whoOk who = true) := Lib.hid (by rw [hok, a1, a2]; rfl)
        have a2n : (who != [45]) = false := by simp [bne, a2]
        clear hok
        go_enter Tryz.func159, Tryz.ntmps159
        go_wp2_with fail
        refine (hcp _).mono ?_; rintro e w1 ⟨rfl, rfl⟩
        go_wp2_with fail
        refine (h2 _ hEa).mono ?_; rintro e wt ⟨rfl, hbt⟩
        have hwt := hwb.call hbt
        have c1 := hwt.cell 0
        have c2 := hwt.cell 1
        have c3 := hwt.cell 2
        have c4 := hwt.cell 3
        simp only [List.getElem?_toArray, List.getElem?_cons_zero, List.getElem?_cons_succ] at c1 c2 c3 c4
        go_wp2_with fail
        refine (h3 _).mono ?_; rintro e wu ⟨rfl, hbu⟩
        have hwu := hwt.call hbu
        have d1 := hwu.cell 0
        have d2 := hwu.cell 1
        have d3 := hwu.cell 2
        have d4 := hwu.cell 3
        simp only [List.getElem?_toArray, List.getElem?_cons_zero, List.getElem?_cons_succ] at d1 d2 d3 d4
        have hbz := below_trans (below_trans hba hbt) hbu
        by_cases k1 : e2 = 0
        · subst k1
          cases k2 : (tt == attr) with
          | false =>
            have HR : Hid (PoS.formedR ⟨who, target, attr, rights, allow⟩ = false) := Lib.hid (by rw [HF.out]; have h9 : ¬ tt = attr := (by simpa using k2); simp [h9])
            go_wp2_with fail
            go_ret
            exact ⟨by rw [HR.out]; rfl, hbz⟩
          | true =>
            obtain rfl : tt = attr := beq_iff_eq.1 k2
            by_cases k3 : 0 < rights
            · have k3d : decide (0 < rights) = true := decide_eq_true k3
              by_cases k4 : rights ≤ 63
              · have k4d : decide (rights ≤ 63) = true := decide_eq_true k4
                have HR : Hid (PoS.formedR ⟨who, target, tt, rights, allow⟩ = true) := Lib.hid (by rw [HF.out, HWH.out]; simp [k3, k4])
                go_wp2_with fail
                go_ret
                exact ⟨by rw [HR.out]; rfl, hbz⟩
              · have k4d : decide (rights ≤ 63) = false := decide_eq_false k4
                have HR : Hid (PoS.formedR ⟨who, target, tt, rights, allow⟩ = false) := Lib.hid (by rw [HF.out]; simp [k4])
                go_wp2_with fail
                go_ret
                exact ⟨by rw [HR.out]; rfl, hbz⟩
            · have k3d : decide (0 < rights) = false := decide_eq_false k3
              have HR : Hid (PoS.formedR ⟨who, target, tt, rights, allow⟩ = false) := Lib.hid (by rw [HF.out]; simp [k3])
              go_wp2_with fail
              go_ret
              exact ⟨by rw [HR.out]; rfl, hbz⟩
        · have k1z : (e2 == 0) = false := by simpa using k1
          have HR : Hid (PoS.formedR ⟨who, target, attr, rights, allow⟩ = false) := Lib.hid (by rw [HF.out]; simp [k1])
          go_wp2_with fail
          go_ret
          exact ⟨by rw [HR.out]; rfl, hbz⟩
      | false =>
        have a2n : (who != [45]) = true := by simp [bne, a2]
        cases a3 : (who == [61]) with
        | true =>
          have HWH : Hid (PoS.whoOk who = true) := Lib.hid (by rw [hok, a1, a2, a3]; rfl)
          have a3n : (who != [61]) = false := by simp [bne, a3]
          clear hok
          go_enter Tryz.func159, Tryz.ntmps159
          go_wp2_with fail
          refine (hcp _).mono ?_; rintro e w1 ⟨rfl, rfl⟩
          go_wp2_with fail
          refine (h2 _ hEa).mono ?_; rintro e wt ⟨rfl, hbt⟩
          have hwt := hwb.call hbt
          have c1 := hwt.cell 0
          have c2 := hwt.cell 1
          have c3 := hwt.cell 2
          have c4 := hwt.cell 3
          simp only [List.getElem?_toArray, List.getElem?_cons_zero, List.getElem?_cons_succ] at c1 c2 c3 c4
          go_wp2_with fail
          refine (h3 _).mono ?_; rintro e wu ⟨rfl, hbu⟩
          have hwu := hwt.call hbu
          have d1 := hwu.cell 0
          have d2 := hwu.cell 1
          have d3 := hwu.cell 2
          have d4 := hwu.cell 3
          simp only [List.getElem?_toArray, List.getElem?_cons_zero, List.getElem?_cons_succ] at d1 d2 d3 d4
          have hbz := below_trans (below_trans hba hbt) hbu
          by_cases k1 : e2 = 0
          · subst k1
            cases k2 : (tt == attr) with
            | false =>
              have HR : Hid (PoS.formedR ⟨who, target, attr, rights, allow⟩ = false) := Lib.hid (by rw [HF.out]; have h9 : ¬ tt = attr := (by simpa using k2); simp [h9])
              go_wp2_with fail
              go_ret
              exact ⟨by rw [HR.out]; rfl, hbz⟩
            | true =>
              obtain rfl : tt = attr := beq_iff_eq.1 k2
              by_cases k3 : 0 < rights
              · have k3d : decide (0 < rights) = true := decide_eq_true k3
                by_cases k4 : rights ≤ 63
                · have k4d : decide (rights ≤ 63) = true := decide_eq_true k4
                  have HR : Hid (PoS.formedR ⟨who, target, tt, rights, allow⟩ = true) := Lib.hid (by rw [HF.out, HWH.out]; simp [k3, k4])
                  go_wp2_with fail
                  go_ret
                  exact ⟨by rw [HR.out]; rfl, hbz⟩
                · have k4d : decide (rights ≤ 63) = false := decide_eq_false k4
                  have HR : Hid (PoS.formedR ⟨who, target, tt, rights, allow⟩ = false) := Lib.hid (by rw [HF.out]; simp [k4])
                  go_wp2_with fail
                  go_ret
                  exact ⟨by rw [HR.out]; rfl, hbz⟩
              · have k3d : decide (0 < rights) = false := decide_eq_false k3
                have HR : Hid (PoS.formedR ⟨who, target, tt, rights, allow⟩ = false) := Lib.hid (by rw [HF.out]; simp [k3])
                go_wp2_with fail
                go_ret
                exact ⟨by rw [HR.out]; rfl, hbz⟩
          · have k1z : (e2 == 0) = false := by simpa using k1
            have HR : Hid (PoS.formedR ⟨who, target, attr, rights, allow⟩ = false) := Lib.hid (by rw [HF.out]; simp [k1])
            go_wp2_with fail
            go_ret
            exact ⟨by rw [HR.out]; rfl, hbz⟩
        | false =>
          have a3n : (who != [61]) = true := by simp [bne, a3]
          have HR : Hid (PoS.formedR ⟨who, target, attr, rights, allow⟩ = false) := Lib.hid (by rw [HF.out, hok, a1, a2, a3]; rfl)
          clear hok
          go_enter Tryz.func159, Tryz.ntmps159
          go_wp2_with fail
          refine (hcp _).mono ?_; rintro e w1 ⟨rfl, rfl⟩
          go_wp2_with fail
          go_ret
          exact ⟨by rw [HR.out]; rfl, hba⟩

set_option maxRecDepth 100000 in
theorem polclo_c (who target attr : List UInt8) (rights : Int) (allow : Bool) (hs : SmallR ⟨who, target, attr, rights, allow⟩) (w : World) (hE : Env w) :
    Calls Tryz.prog 158 #[.agg #[.string ⟨who.toArray⟩, .string ⟨target.toArray⟩, .string ⟨attr.toArray⟩, .int .i64 rights, .bool allow]] w (NmBool (!PoS.formedR ⟨who, target, attr, rights, allow⟩) w) := by
  have hba : Below w.heap.size w (w.alloc (.cells #[.string ⟨who.toArray⟩, .string ⟨target.toArray⟩, .string ⟨attr.toArray⟩, .int .i64 rights, .bool allow] 85)) := grow1 w _
  have hEa := hE.below hba
  have h1 := fun w hE => polformed_c who target attr rights allow hs w hE
  unfold NmBool at h1
  generalize PoS.formedR ⟨who, target, attr, rights, allow⟩ = b at *
  go_enter Tryz.func158, Tryz.ntmps158
  go_wp2_with fail
  refine (h1 _ hEa).mono ?_; rintro e w1 ⟨rfl, hb1⟩
  go_wp2_with fail
  go_ret
  exact ⟨rfl, below_trans hba hb1⟩
def IdxRet (xs : List PoS.Rl) (w : World) (e : Ending) (w' : World) : Prop := ∃ i : Int, e = .returned (.int .i64 i) ∧ decide (0 ≤ i) = (!xs.all PoS.formedR) ∧ Below w.heap.size w w'
set_option maxRecDepth 100000 in
theorem polidx_c (v : Value) (xs : List PoS.Rl) (w : World) (h : RulesIn w v xs) (hs : ∀ r ∈ xs, SmallR r) (hl : xs.length ≤ 1000000) (hE : Env w) :
    Calls Tryz.prog 185 #[v, .func (.func 158) #[] #[]] w (IdxRet xs w) := by
  obtain ⟨a, c, rfl, hc, hat⟩ := h.at
  have HAT := Lib.hid hat
  have HS := Lib.hid (fun k (h : k < xs.length) => hs xs[k] (List.getElem_mem h))
  have HNO : Hid (∀ k (h : k < xs.length), PoS.formedR xs[k] = false → xs.all PoS.formedR = false) := Lib.hid (fun k hk hb => by
    cases ha : xs.all PoS.formedR with
    | false => rfl
    | true => rw [List.all_eq_true.1 ha _ (List.getElem_mem hk)] at hb; cases hb)
  clear hat hs h
  generalize hn : xs.length = n at hc hl ⊢
  have HN := Lib.hid hn
  clear hn
  go_enter Tryz.func185, Tryz.ntmps185
  go_wp2_with fail
  go_loopw [8] (fun i wr => ∃ k : Nat, k ≤ n ∧ i = .int .i64 k ∧ Hid ((xs.take k).all PoS.formedR = true) ∧ Below w.heap.size w wr) (fun i _ => n - (intOf i).toNat)
  case atStart => exact ⟨0, Nat.zero_le _, rfl, Lib.hid rfl, Below.refl _ _⟩
  case round =>
    obtain ⟨k, hk, rfl, HA, hb⟩ := hrel
    by_cases hlt : k < n
    · have hlt2 : k < xs.length := by rw [HN.out]; exact hlt
      obtain ⟨g, o, rfl, hg, hra⟩ := HAT.out k hlt2
      obtain ⟨c0, c1, c2, c3, c4⟩ := hra.call hb hg
      have HTK := Lib.hid (List.take_succ_eq_append_getElem hlt2)
      have hsm := HS.out k hlt2
      have HNK := Lib.hid (HNO.out k hlt2)
      generalize xs[k] = r at *
      obtain ⟨who, target, attr, rights, allow⟩ := r
      unfold strV at c0 c1 c2
      simp only at c0 c1 c2 c3 c4
      have hcl := fun w hE => polclo_c who target attr rights allow hsm w hE
      unfold NmBool at hcl
      have hEr := hE.below hb
      clear hra hlt2 hsm
      cases hq : PoS.formedR ⟨who, target, attr, rights, allow⟩ with
      | false =>
        have HR := Lib.hid (HNK.out hq)
        rw [hq] at hcl
        clear hq HNK
        go_wp2_with fail
        refine (hcl _ hEr).mono ?_; rintro e w1 ⟨rfl, hb1⟩
        go_wp2_with fail
        go_ret
        exact ⟨k, rfl, by rw [HR.out, decide_eq_true (by omega)]; rfl, hb.trans (hb1.mono hb.size)⟩
      | true =>
        have HR : Hid ((xs.take (k + 1)).all PoS.formedR = true) := Lib.hid (by rw [HTK.out, List.all_append, HA.out]; simp [hq])
        rw [hq] at hcl
        clear hq HNK
        go_wp2_with fail
        refine (hcl _ hEr).mono ?_; rintro e w1 ⟨rfl, hb1⟩
        go_wp2_with fail
        go_roundw
        case rel => exact ⟨k + 1, by omega, by go_num, HR, hb.trans (hb1.mono hb.size)⟩
        case measure => simp [intOf]; omega
    · have hkn : k = n := by omega
      subst hkn
      have HALL : Hid (xs.all PoS.formedR = true) := Lib.hid (by have := HA.out; rwa [List.take_of_length_le (by rw [HN.out]; omega)] at this)
      go_wp2_with fail
      go_ret
      exact ⟨-1, rfl, by rw [HALL.out]; rfl, hb⟩
set_option maxRecDepth 100000 in
theorem polcon_c (v : Value) (xs : List PoS.Rl) (w : World) (h : RulesIn w v xs) (hs : ∀ r ∈ xs, SmallR r) (hl : xs.length ≤ 1000000) (hE : Env w) :
    Calls Tryz.prog 157 #[v, .func (.func 158) #[] #[]] w (NmBool (!xs.all PoS.formedR) w) := by
  have h1 := polidx_c v xs w h hs hl hE
  unfold IdxRet at h1
  obtain ⟨a, c, rfl⟩ := h.form
  generalize xs.all PoS.formedR = b at *
  generalize xs.length = n at *
  go_enter Tryz.func157, Tryz.ntmps157
  go_wp2_with fail
  refine h1.mono ?_; rintro e w1 ⟨i, rfl, hi, hb1⟩
  go_wp2_with fail
  go_ret
  exact ⟨rfl, hb1⟩
set_option maxRecDepth 100000 in
theorem polFormed_c (v : Value) (xs : List PoS.Rl) (w : World) (h : RulesIn w v xs) (hs : ∀ r ∈ xs, SmallR r) (hl : xs.length ≤ 1000000) (hE : Env w) :
    Calls Tryz.prog 133 #[v] w (NmBool (PoS.formedL xs) w) := by
  have h1 := polcon_c v xs w h hs hl hE
  unfold NmBool at h1
  obtain ⟨a, c, rfl⟩ := h.form
  have HF : Hid (PoS.formedL xs = (decide (xs.length ≤ 40) && xs.all PoS.formedR)) := Lib.hid rfl
  generalize PoS.formedL xs = F at *
  generalize xs.all PoS.formedR = b at *
  generalize xs.length = n at *
  by_cases hn : n ≤ 40
  · have hz : decide ((n : Int) ≤ 40) = true := decide_eq_true (by omega)
    have HR : Hid (F = b) := Lib.hid (by rw [HF.out, decide_eq_true hn]; rfl)
    clear hn
    go_enter Tryz.func133, Tryz.ntmps133
    go_wp2_with fail
    refine h1.mono ?_; rintro e w1 ⟨rfl, hb1⟩
    go_wp2_with fail
    go_ret
    exact ⟨by rw [HR.out]; simp, hb1⟩
  · have hz : decide ((n : Int) ≤ 40) = false := decide_eq_false (by omega)
    have HR : Hid (F = false) := Lib.hid (by rw [HF.out, decide_eq_false hn]; rfl)
    clear hn
    go_enter Tryz.func133, Tryz.ntmps133
    go_wp2_with fail
    go_ret
    exact ⟨by rw [HR.out]; rfl, Below.refl _ _⟩

set_option maxRecDepth 100000 in
set_option maxHeartbeats 2000000 in
theorem polwho_c (who target attr : List UInt8) (rights : Int) (allow : Bool) (s n : List UInt8) (q1 : who.length ≤ 100000) (q2 : s.length ≤ 100000) (hw0 : who ≠ []) (w : World) (hE : Env w) :
    Calls Tryz.prog 134 #[.agg #[.string ⟨who.toArray⟩, .string ⟨target.toArray⟩, .string ⟨attr.toArray⟩, .int .i64 rights, .bool allow], .string ⟨s.toArray⟩, .string ⟨n.toArray⟩] w (NmBool (PoS.isS who s n) w) := by
  have HB : Below w.heap.size w (w.alloc (.cells #[.string ⟨who.toArray⟩, .string ⟨target.toArray⟩, .string ⟨attr.toArray⟩, .int .i64 rights, .bool allow] 85)) := grow1 w _
  have HE := hE.below HB
  cases a1 : (who == [42]) with
  | true =>
    have HR := Lib.hid (PoS.is_star s n a1)
    go_enter Tryz.func134, Tryz.ntmps134
    go_wp2_with fail
    go_ret
    exact ⟨by rw [HR.out]; rfl, HB⟩
  | false =>
    cases a2 : (who == [45]) with
    | true =>
      have HR := Lib.hid (PoS.is_dash s n a1 a2)
      go_enter Tryz.func134, Tryz.ntmps134
      go_wp2_with fail
      go_ret
      exact ⟨by rw [HR.out]; cases s <;> rfl, HB⟩
    | false =>
      cases a3 : (who == [61]) with
      | true =>
        have HR := Lib.hid (PoS.is_self s n a1 a2 a3)
        cases hs0 : s.isEmpty with
        | true =>
          have hs1 : (s == []) = true := by cases s <;> simp_all
          have hs2 : (s != []) = false := by simp [bne, hs1]
          go_enter Tryz.func134, Tryz.ntmps134
          go_wp2_with fail
          go_ret
          exact ⟨by rw [HR.out, hs2]; rfl, HB⟩
        | false =>
          have hs1 : (s == []) = false := by cases s <;> simp_all
          have hs2 : (s != []) = true := by simp [bne, hs1]
          go_enter Tryz.func134, Tryz.ntmps134
          go_wp2_with fail
          go_ret
          exact ⟨by rw [HR.out, hs2]; rfl, HB⟩
      | false =>
        have HR := Lib.hid (PoS.is_name s n a1 a2 a3)
        cases hs0 : s.isEmpty with
        | true =>
          have hs1 : (s == []) = true := by cases s <;> simp_all
          have hs2 : (s != []) = false := by simp [bne, hs1]
          go_enter Tryz.func134, Tryz.ntmps134
          go_wp2_with fail
          go_ret
          exact ⟨by rw [HR.out, hs2]; rfl, HB⟩
        | false =>
          have hs1 : (s == []) = false := by cases s <;> simp_all
          have hs2 : (s != []) = true := by simp [bne, hs1]
          have hw1 : (1 : Int) ≤ (who.length : Int) := by
            cases who with
            | nil => exact absurd rfl hw0
            | cons c r => rw [List.length_cons]; omega
          have x2 : (⟨who.toArray⟩ : ByteArray).extract 1 who.length = ⟨(who.drop 1).toArray⟩ := by rw [mk_extract, List.take_length]
          have hu : ∀ w, Env w → Calls Tryz.prog 135 #[.string ⟨s.toArray⟩, .string ⟨(who.drop 1).toArray⟩] w (NmBool (DnS.underS s (who.drop 1)) w) := fun w hE => dnunder_c s (who.drop 1) (by omega) (by rw [List.length_drop]; omega) w hE
          generalize who.drop 1 = r at *
          unfold NmBool at hu
          generalize DnS.underS s r = b at *
          go_enter Tryz.func134, Tryz.ntmps134
          go_wp2_with fail
          refine (hu _ HE).mono ?_; rintro e w1 ⟨rfl, hb1⟩
          go_wp2_with fail
          go_ret
          exact ⟨by rw [HR.out, hs2]; rfl, below_trans HB hb1⟩

end Go.Proofs.YtdcljilfnkmloaaGreatDoor
namespace Go.Proofs.YtdcljilfnkmloaaGreatDoor
open Go.RowKit

namespace PoS
open Go.Lib DnS
/-- is a question fit to be decided? -/
def goodD (e1 e2 : Int) (attr t : List UInt8) (one fd : Bool) : Bool := decide (e1 = 0) && decide (e2 = 0) && !(attr != [] && t == []) && one && fd
theorem good_e1 {e1 e2 : Int} (attr t : List UInt8) (one fd : Bool) (h : e1 ≠ 0) : goodD e1 e2 attr t one fd = false := by unfold goodD; rw [decide_eq_false h]; rfl
theorem good_e2 {e1 e2 : Int} (attr t : List UInt8) (one fd : Bool) (h : e2 ≠ 0) : goodD e1 e2 attr t one fd = false := by unfold goodD; rw [decide_eq_false h, Bool.and_false]; rfl
theorem good_at {e1 e2 : Int} {attr t : List UInt8} (one fd : Bool) (h : attr.isEmpty = false ∧ t.isEmpty = true) : goodD e1 e2 attr t one fd = false := by
  obtain ⟨h, k⟩ := h
  cases attr with
  | nil => cases h
  | cons c r =>
    cases t with
    | nil => unfold goodD; rw [show (!((c :: r) != [] && ([] : List UInt8) == [])) = false from rfl, Bool.and_false]; rfl
    | cons c r => cases k
theorem good_o (e1 e2 : Int) (attr t : List UInt8) (fd : Bool) : goodD e1 e2 attr t false fd = false := by unfold goodD; rw [Bool.and_false]; rfl
theorem good_fd (e1 e2 : Int) (attr t : List UInt8) (one : Bool) : goodD e1 e2 attr t one false = false := by unfold goodD; rw [Bool.and_false]
theorem good_has {e1 e2 : Int} {attr t : List UInt8} {one fd : Bool} (h : goodD e1 e2 attr t one fd = true) : fd = true := by
  unfold goodD at h
  rw [Bool.and_eq_true] at h
  exact h.2
theorem good_all {attr t : List UInt8} (h : attr.isEmpty = true ∨ (attr.isEmpty = false ∧ t.isEmpty = false)) : goodD 0 0 attr t true true = true := by
  rcases h with h | ⟨_, h⟩
  · cases attr with
    | nil => rfl
    | cons c r => cases h
  · cases t with
    | nil => cases h
    | cons c r =>
      unfold goodD
      cases attr <;> rfl
theorem decide_g {l : List Rl} {subject name attr : List UInt8} {right : Int} {s n t : List UInt8} {e1 e2 y : Int} (h1 : normN subject = (s, e1)) (h2 : normN name = (n, e2)) (h3 : RuS.typeOf attr = (t, y)) :
    decideS l subject right name attr = (goodD e1 e2 attr t (oneS right) (formedL l) && firstS s n t right l) := by
  unfold decideS askedS goodD
  rw [h1, h2, h3]
  cases formedL l <;> simp
theorem first_at {s n t : List UInt8} {right : Int} {l : List Rl} {k : Nat} (hk : k < l.length) (h : ∀ r ∈ l.take k, fitsR s n t right r = false) (hf : fitsR s n t right l[k] = true) : firstS s n t right l = l[k].allow := by
  have e : l = l.take k ++ l[k] :: l.drop (k + 1) := by
    conv => lhs; rw [← List.take_append_drop k l, List.drop_eq_getElem_cons hk]
  have h2 : l.find? (fitsR s n t right) = some l[k] := by
    have hf2 := hf
    generalize l[k] = q at e hf2 ⊢
    rw [e, List.find?_append]
    have h3 : (l.take k).find? (fitsR s n t right) = none := by
      rw [List.find?_eq_none]
      intro r hr; rw [h r hr]; simp
    rw [h3]
    show (q :: l.drop (k + 1)).find? (fitsR s n t right) = some q
    rw [List.find?_cons, hf2]
  unfold firstS
  rw [h2]
theorem first_none {s n t : List UInt8} {right : Int} {l : List Rl} (h : ∀ r ∈ l, fitsR s n t right r = false) : firstS s n t right l = false := by
  unfold firstS
  rw [List.find?_eq_none.2 (fun r hr => by rw [h r hr]; simp)]
theorem fits_eq (s n t who target attr : List UInt8) (right rights : Int) (allow : Bool) : fitsR s n t right ⟨who, target, attr, rights, allow⟩ = (isS who s n && (andI rights right != 0) && underS n target && (attr == [] || attr == t)) := rfl
theorem formed_who {l : List Rl} (h : formedL l = true) {k : Nat} (hk : k < l.length) : l[k].who ≠ [] := by
  unfold formedL at h
  rw [Bool.and_eq_true] at h
  have h1 := List.all_eq_true.1 h.2 _ (List.getElem_mem hk)
  unfold formedR at h1
  simp only [Bool.and_eq_true] at h1
  intro h0
  rw [h0] at h1
  have := h1.1.1.1.1
  cases this
theorem none_step {s n t : List UInt8} {right : Int} {l : List Rl} {k : Nat} (hk : k < l.length) (h : ∀ r ∈ l.take k, fitsR s n t right r = false) (hf : fitsR s n t right l[k] = false) : ∀ r ∈ l.take (k + 1), fitsR s n t right r = false := by
  intro r hr
  rw [List.take_succ_eq_append_getElem hk] at hr
  rcases List.mem_append.1 hr with hr | hr
  · exact h r hr
  · rw [List.mem_singleton] at hr; subst hr; exact hf
/-- how many bits a small number has -/
def onesN (x : Nat) : Int := (x % 2 + x / 2 % 2 + x / 4 % 2 + x / 8 % 2 + x / 16 % 2 + x / 32 % 2 : Nat)
theorem ones_one : ∀ x : Nat, x < 64 → ((onesN x == 1) = oneS (x : Int)) := by
  have h : ∀ x : Fin 64, ((onesN x.1 == 1) = oneS (x.1 : Int)) := by decide +kernel
  intro x hx
  exact h ⟨x, hx⟩
end PoS
set_option maxRecDepth 100000 in
set_option maxHeartbeats 2000000 in
theorem ones_c (x : Nat) (hx : x < 64) (w : World) : Calls Tryz.prog 156 #[.int .u64 (x : Int)] w fun e w' => e = .returned (.int .i64 (PoS.onesN x)) ∧ w = w' := by
  go_enter Tryz.func156, Tryz.ntmps156
  go_wp2_with fail
  go_ret
  refine ⟨congrArg (fun z => Ending.returned (Value.int IntKind.i64 z)) (?_ : _ = PoS.onesN x), rfl⟩
  clear w
  revert x
  decide +kernel
set_option maxRecDepth 100000 in
theorem onesT_c (x : Nat) (hx : x < 64) (w : World) : Calls Tryz.prog 132 #[.int .u64 (x : Int)] w fun e w' => e = .returned (.int .i64 (PoS.onesN x)) ∧ w = w' := by
  have h1 := fun w => ones_c x hx w
  generalize PoS.onesN x = y at *
  go_enter Tryz.func132, Tryz.ntmps132
  go_wp2_with fail
  refine (h1 _).mono ?_; rintro e w1 ⟨rfl, rfl⟩
  go_wp2_with fail
  go_ret
  exact ⟨rfl, rfl⟩
theorem empty_cases {attr t : List UInt8} (h : ¬ (attr.isEmpty = false ∧ t.isEmpty = true)) : attr.isEmpty = true ∨ (attr.isEmpty = false ∧ t.isEmpty = false) := by
  cases attr with
  | nil => exact .inl rfl
  | cons c r =>
    refine .inr ⟨rfl, ?_⟩
    cases t with
    | nil => exact absurd ⟨rfl, rfl⟩ h
    | cons c r => rfl
theorem meet_t {g : Bool} (h : g = false) : Value.bool true = .bool (!g) := by rw [h]; rfl
theorem meet_f {g : Bool} (h : g = true) : Value.bool false = .bool (!g) := by rw [h]; rfl
end Go.Proofs.YtdcljilfnkmloaaGreatDoor
