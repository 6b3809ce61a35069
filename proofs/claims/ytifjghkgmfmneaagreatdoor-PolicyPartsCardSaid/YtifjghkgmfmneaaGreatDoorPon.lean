/- The walks of the document's rules: 'who', 'Formed'. Conditions: each rule's texts have at most 100000 bytes; the library's variables are laid. The walks of deciding by rules: the program's and the document's 'Decide', math/bits.OnesCount of a small number. Conditions: each rule's texts and the asked texts have at most 100000 bytes, the list at most 1000000 rules; the library's variables are laid. -/
import Derived.Test.YtifjghkgmfmneaaGreatDoorPom
namespace Go.Proofs.YtifjghkgmfmneaaGreatDoor
open Go.RowKit

set_option maxRecDepth 100000 in
set_option maxHeartbeats 2000000 in
theorem refwho_c (who : List UInt8) (q1 : who.length ≤ 100000) (w : World) (hE : Env w) : Calls Tryz.prog 75 #[.string ⟨who.toArray⟩] w (NmBool (PoS.whoOk who) w) := by
  cases a1 : (who == [42]) with
  | true =>
    have HR : Hid (PoS.whoOk who = true) := Lib.hid (by unfold PoS.whoOk; rw [a1]; rfl)
    go_enter Tryz.func75, Tryz.ntmps75
    go_wp2_with fail
    go_ret
    exact ⟨by rw [HR.out]; rfl, Below.refl _ _⟩
  | false =>
    cases a2 : (who == [45]) with
    | true =>
      have HR : Hid (PoS.whoOk who = true) := Lib.hid (by unfold PoS.whoOk; rw [a1, a2]; rfl)
      go_enter Tryz.func75, Tryz.ntmps75
      go_wp2_with fail
      go_ret
      exact ⟨by rw [HR.out]; rfl, Below.refl _ _⟩
    | false =>
      cases a3 : (who == [61]) with
      | true =>
        have HR : Hid (PoS.whoOk who = true) := Lib.hid (by unfold PoS.whoOk; rw [a1, a2, a3]; rfl)
        go_enter Tryz.func75, Tryz.ntmps75
        go_wp2_with fail
        go_ret
        exact ⟨by rw [HR.out]; rfl, Below.refl _ _⟩
      | false =>
        by_cases h0 : who = []
        · subst h0
          have HR : Hid (PoS.whoOk [] = false) := Lib.hid rfl
          go_enter Tryz.func75, Tryz.ntmps75
          go_wp2_with fail
          go_ret
          exact ⟨by rw [HR.out]; rfl, Below.refl _ _⟩
        have hpos : 0 < who.length := by
          cases who with
          | nil => exact absurd rfl h0
          | cons c r => rw [List.length_cons]; omega
        have hl0 : ((who.length : Int) == 0) = false := by simp; omega
        have hl1 : (0 : Int) < (who.length : Int) := by omega
        have HW : Hid (PoS.whoOk who = (who[0] == 64 && decide ((DnS.normN (who.drop 1)).2 = 0))) := Lib.hid (by
          unfold PoS.whoOk
          rw [a1, a2, a3]
          cases who with
          | nil => exact absurd rfl h0
          | cons c r => rfl)
        generalize hcq : who[0] = c at *
        have hq2 : ∀ h, (⟨who.toArray⟩ : ByteArray)[0]'h = c := fun _ => hcq
        clear hcq h0
        by_cases h64 : c = 64
        · have e64 : ((c.toNat : Int) != 64) = false := by rw [h64]; rfl
          have hw1 : (1 : Int) ≤ (who.length : Int) := by omega
          have x2 : (⟨who.toArray⟩ : ByteArray).extract 1 who.length = ⟨(who.drop 1).toArray⟩ := by rw [mk_extract, List.take_length]
          have h1 := fun w hE => rnnormal_c (who.drop 1) (by rw [List.length_drop]; omega) w hE
          unfold NmTxt at h1
          generalize DnS.normN (who.drop 1) = M at *
          obtain ⟨nr, e1⟩ := M
          generalize who.drop 1 = r at *
          simp only at h1 HW
          have HR : Hid (PoS.whoOk who = (e1 == 0)) := Lib.hid (by rw [HW.out, h64]; simp [Bool.beq_eq_decide_eq])
          clear h64
          go_enter Tryz.func75, Tryz.ntmps75
          go_wp2_with fail
          refine (h1 _ hE).mono ?_; rintro e w1 ⟨rfl, hb1⟩
          go_wp2_with fail
          go_ret
          exact ⟨by rw [HR.out]; first | rfl | simp, hb1⟩
        · have e64 : ((c.toNat : Int) != 64) = true := by
            have hn : c.toNat ≠ 64 := fun h => h64 (UInt8.toNat_inj.1 (by rw [h]; rfl))
            simp; omega
          have HR : Hid (PoS.whoOk who = false) := Lib.hid (by rw [HW.out]; simp [h64])
          clear h64
          go_enter Tryz.func75, Tryz.ntmps75
          go_wp2_with fail
          go_ret
          exact ⟨by rw [HR.out]; rfl, Below.refl _ _⟩

theorem formedR_eq (who target attr : List UInt8) (rights : Int) (allow : Bool) : PoS.formedR ⟨who, target, attr, rights, allow⟩ = (PoS.whoOk who && decide ((DnS.normN target).2 = 0) && decide ((RuS.typeOf attr).1 = attr) && decide (0 < rights) && decide (rights ≤ 63)) := rfl
set_option maxRecDepth 100000 in
set_option maxHeartbeats 8000000 in
theorem refFormed_c (v : Value) (xs : List PoS.Rl) (w : World) (h : RulesIn w v xs) (hs : ∀ r ∈ xs, SmallR r) (hl : xs.length ≤ 1000000) (hE : Env w) :
    Calls Tryz.prog 23 #[v] w (NmBool (PoS.formedL xs) w) := by
  obtain ⟨a, c, rfl, hc, hat⟩ := h.at
  by_cases h40 : 40 < xs.length
  · have hz : (40 : Int) < (xs.length : Int) := by omega
    have HR : Hid (PoS.formedL xs = false) := Lib.hid (by unfold PoS.formedL; rw [decide_eq_false (by omega)]; rfl)
    clear h40 hat h
    generalize xs.length = n at *
    go_enter Tryz.func23, Tryz.ntmps23
    go_wp2_with fail
    go_ret
    exact ⟨by rw [HR.out]; rfl, Below.refl _ _⟩
  have hz : decide ((40 : Int) < (xs.length : Int)) = false := decide_eq_false (by omega)
  have HFL : Hid (PoS.formedL xs = xs.all PoS.formedR) := Lib.hid (by unfold PoS.formedL; rw [decide_eq_true (by omega)]; rfl)
  have HAT := Lib.hid hat
  have HS := Lib.hid (fun k (h : k < xs.length) => hs xs[k] (List.getElem_mem h))
  have HNO : Hid (∀ k (h : k < xs.length), PoS.formedR xs[k] = false → PoS.formedL xs = false) := Lib.hid (fun k hk hb => by
    rw [HFL.out]
    cases ha : xs.all PoS.formedR with
    | false => rfl
    | true => rw [List.all_eq_true.1 ha _ (List.getElem_mem hk)] at hb; cases hb)
  clear hat hs h h40
  generalize hn : xs.length = n at hz hc hl ⊢
  have HN := Lib.hid hn
  clear hn
  go_enter Tryz.func23, Tryz.ntmps23
  go_wp2_with fail
  go_loopw [14] (fun i wr => ∃ k : Nat, k ≤ n ∧ i = .int .i64 k ∧ Hid ((xs.take k).all PoS.formedR = true) ∧ Below w.heap.size w wr) (fun i _ => n - (intOf i).toNat)
  case atStart => exact ⟨0, Nat.zero_le _, rfl, Lib.hid rfl, Below.refl _ _⟩
  case round =>
    obtain ⟨k, hk, rfl, HA, hb⟩ := hrel
    by_cases hlt : k < n
    · have hlt2 : k < xs.length := by rw [HN.out]; exact hlt
      obtain ⟨g, o, rfl, hg, hra⟩ := HAT.out k hlt2
      obtain ⟨c0, c1, c2, c3, c4⟩ := hra.call hb hg
      have HTK := Lib.hid (List.take_succ_eq_append_getElem hlt2)
      have hsm := HS.out k hlt2
      have HNK := Lib.hid (HNO.out k hlt2)
      generalize xs[k] = r at *
      obtain ⟨who, target, attr, rights, allow⟩ := r
      unfold strV at c0 c1 c2
      simp only at c0 c1 c2 c3 c4
      obtain ⟨q1, q2, q3⟩ := hsm
      simp only at q1 q2 q3
      have hEr := hE.below hb
      have HF := Lib.hid (formedR_eq who target attr rights allow)
      have h1 := fun w hE => refwho_c who (by omega) w hE
      have h2 := fun w hE => rnnormal_c target (by omega) w hE
      have h3 : ∀ w, Calls Tryz.prog 74 #[.string ⟨attr.toArray⟩] w (TypeRet attr w) := fun w => reftype_c ⟨attr.toArray⟩ (by show attr.toArray.size ≤ _; simp; omega) w
      unfold NmTxt at h2
      unfold NmBool at h1
      unfold TypeRet at h3
      generalize DnS.normN target = N at *
      obtain ⟨nt, e2⟩ := N
      generalize RuS.typeOf attr = T at *
      obtain ⟨tt, sy⟩ := T
      generalize PoS.whoOk who = wb at *
      simp only at h2 h3 HF
      have hwb := Whole.made wr 30 #[.string ⟨who.toArray⟩, .string ⟨target.toArray⟩, .string ⟨attr.toArray⟩, .int .i64 rights, .bool allow]
      have hba : Below wr.heap.size wr (wr.alloc (.cells #[.string ⟨who.toArray⟩, .string ⟨target.toArray⟩, .string ⟨attr.toArray⟩, .int .i64 rights, .bool allow] 30)) := grow1 wr _
      have hEa := hEr.below hba
      clear hra hlt2
      go_wp2_with fail
      refine (h2 _ hEa).mono ?_; rintro e w2 ⟨rfl, hb2⟩
      have hw2 := hwb.call hb2
      have b2 := hw2.cell 2
      simp only [List.getElem?_toArray, List.getElem?_cons_zero, List.getElem?_cons_succ] at b2
      go_wp2_with fail
      refine (h3 _).mono ?_; rintro e w3 ⟨rfl, hb3⟩
      have hw3 := hw2.call hb3
      have d0 := hw3.cell 0
      simp only [List.getElem?_toArray, List.getElem?_cons_zero] at d0
      go_wp2_with fail
      refine (h1 _ ((hEa.below hb2).below hb3)).mono ?_; rintro e w4 ⟨rfl, hb4⟩
      have hw4 := hw3.call hb4
      have f2 := hw4.cell 2
      have f3 := hw4.cell 3
      simp only [List.getElem?_toArray, List.getElem?_cons_zero, List.getElem?_cons_succ] at f2 f3
      have hbz := below_trans (below_trans (below_trans hba hb2) hb3) hb4
      have hbk := hb.trans (hbz.mono hb.size)
      cases k0 : wb with
      | false =>
        have HR := Lib.hid (HNK.out (by rw [HF.out, k0]; rfl))
        subst k0
        go_wp2_with fail
        go_ret
        exact ⟨by rw [HR.out]; rfl, hbk⟩
      | true =>
        subst k0
        by_cases k1 : e2 = 0
        · subst k1
          cases k2 : (attr == tt) with
          | false =>
            have k2n : (attr != tt) = true := by simp [bne, k2]
            have HR := Lib.hid (HNK.out (by
              rw [HF.out]
              have : ¬ tt = attr := fun h => by subst h; simp at k2
              simp [this]))
            go_wp2_with fail
            go_ret
            exact ⟨by rw [HR.out]; rfl, hbk⟩
          | true =>
            obtain rfl : attr = tt := beq_iff_eq.1 k2
            have k2n : (attr != attr) = false := by simp [bne]
            by_cases k3 : rights < 1
            · have k3d : decide (rights < 1) = true := decide_eq_true k3
              have HR := Lib.hid (HNK.out (by
                rw [HF.out]
                have : ¬ 0 < rights := by omega
                simp [this]))
              go_wp2_with fail
              go_ret
              exact ⟨by rw [HR.out]; rfl, hbk⟩
            · have k3d : decide (rights < 1) = false := decide_eq_false k3
              by_cases k4 : 63 < rights
              · have k4d : decide (63 < rights) = true := decide_eq_true k4
                have HR := Lib.hid (HNK.out (by
                  rw [HF.out]
                  have : ¬ rights ≤ 63 := by omega
                  simp [this]))
                go_wp2_with fail
                go_ret
                exact ⟨by rw [HR.out]; rfl, hbk⟩
              · have k4d : decide (63 < rights) = false := decide_eq_false k4
                have HT : Hid ((xs.take (k + 1)).all PoS.formedR = true) := Lib.hid (by
                  rw [HTK.out, List.all_append, HA.out]
                  have e1 : 0 < rights := by omega
                  have e2 : rights ≤ 63 := by omega
                  simp [HF.out, e1, e2])
                go_wp2_with fail
                go_roundw
                case rel => exact ⟨k + 1, by omega, by go_num, HT, hbk⟩
                case measure => simp [intOf]; omega
        · have k1z : (e2 != 0) = true := by simpa using k1
          have HR := Lib.hid (HNK.out (by rw [HF.out]; simp [k1]))
          go_wp2_with fail
          go_ret
          exact ⟨by rw [HR.out]; rfl, hbk⟩
    · have hkn : k = n := by omega
      subst hkn
      have HALL : Hid (PoS.formedL xs = true) := Lib.hid (by have := HA.out; rw [List.take_of_length_le (by rw [HN.out]; omega)] at this; rw [HFL.out, this])
      go_wp2_with fail
      go_ret
      exact ⟨by rw [HALL.out]; rfl, hb⟩
end Go.Proofs.YtifjghkgmfmneaaGreatDoor
namespace Go.Proofs.YtifjghkgmfmneaaGreatDoor
open Go.RowKit

namespace PoS
open Go.Lib DnS
/-- is a question fit to be decided? -/
def goodD (e1 e2 : Int) (attr t : List UInt8) (one fd : Bool) : Bool := decide (e1 = 0) && decide (e2 = 0) && !(attr != [] && t == []) && one && fd
theorem good_e1 {e1 e2 : Int} (attr t : List UInt8) (one fd : Bool) (h : e1 ≠ 0) : goodD e1 e2 attr t one fd = false := by unfold goodD; rw [decide_eq_false h]; rfl
theorem good_e2 {e1 e2 : Int} (attr t : List UInt8) (one fd : Bool) (h : e2 ≠ 0) : goodD e1 e2 attr t one fd = false := by unfold goodD; rw [decide_eq_false h, Bool.and_false]; rfl
theorem good_at {e1 e2 : Int} {attr t : List UInt8} (one fd : Bool) (h : attr.isEmpty = false ∧ t.isEmpty = true) : goodD e1 e2 attr t one fd = false := by
  obtain ⟨h, k⟩ := h
  cases attr with
  | nil => cases h
  | cons c r =>
    cases t with
    | nil => unfold goodD; rw [show (!((c :: r) != [] && ([] : List UInt8) == [])) = false from rfl, Bool.and_false]; rfl
    | cons c r => cases k
theorem good_o (e1 e2 : Int) (attr t : List UInt8) (fd : Bool) : goodD e1 e2 attr t false fd = false := by unfold goodD; rw [Bool.and_false]; rfl
theorem good_fd (e1 e2 : Int) (attr t : List UInt8) (one : Bool) : goodD e1 e2 attr t one false = false := by unfold goodD; rw [Bool.and_false]
theorem good_has {e1 e2 : Int} {attr t : List UInt8} {one fd : Bool} (h : goodD e1 e2 attr t one fd = true) : fd = true := by
  unfold goodD at h
  rw [Bool.and_eq_true] at h
  exact h.2
theorem good_all {attr t : List UInt8} (h : attr.isEmpty = true ∨ (attr.isEmpty = false ∧ t.isEmpty = false)) : goodD 0 0 attr t true true = true := by
  rcases h with h | ⟨_, h⟩
  · cases attr with
    | nil => rfl
    | cons c r => cases h
  · cases t with
    | nil => cases h
    | cons c r =>
      unfold goodD
      cases attr <;> rfl
theorem decide_g {l : List Rl} {subject name attr : List UInt8} {right : Int} {s n t : List UInt8} {e1 e2 y : Int} (h1 : normN subject = (s, e1)) (h2 : normN name = (n, e2)) (h3 : RuS.typeOf attr = (t, y)) :
    decideS l subject right name attr = (goodD e1 e2 attr t (oneS right) (formedL l) && firstS s n t right l) := by
  unfold decideS askedS goodD
  rw [h1, h2, h3]
  cases formedL l <;> simp
theorem first_at {s n t : List UInt8} {right : Int} {l : List Rl} {k : Nat} (hk : k < l.length) (h : ∀ r ∈ l.take k, fitsR s n t right r = false) (hf : fitsR s n t right l[k] = true) : firstS s n t right l = l[k].allow := by
  have e : l = l.take k ++ l[k] :: l.drop (k + 1) := by
    conv => lhs; rw [← List.take_append_drop k l, List.drop_eq_getElem_cons hk]
  have h2 : l.find? (fitsR s n t right) = some l[k] := by
    have hf2 := hf
    generalize l[k] = q at e hf2 ⊢
    rw [e, List.find?_append]
    have h3 : (l.take k).find? (fitsR s n t right) = none := by
      rw [List.find?_eq_none]
      intro r hr; rw [h r hr]; simp
    rw [h3]
    show (q :: l.drop (k + 1)).find? (fitsR s n t right) = some q
    rw [List.find?_cons, hf2]
  unfold firstS
  rw [h2]
theorem first_none {s n t : List UInt8} {right : Int} {l : List Rl} (h : ∀ r ∈ l, fitsR s n t right r = false) : firstS s n t right l = false := by
  unfold firstS
  rw [List.find?_eq_none.2 (fun r hr => by rw [h r hr]; simp)]
theorem fits_eq (s n t who target attr : List UInt8) (right rights : Int) (allow : Bool) : fitsR s n t right ⟨who, target, attr, rights, allow⟩ = (isS who s n && (andI rights right != 0) && underS n target && (attr == [] || attr == t)) := rfl
theorem formed_who {l : List Rl} (h : formedL l = true) {k : Nat} (hk : k < l.length) : l[k].who ≠ [] := by
  unfold formedL at h
  rw [Bool.and_eq_true] at h
  have h1 := List.all_eq_true.1 h.2 _ (List.getElem_mem hk)
  unfold formedR at h1
  simp only [Bool.and_eq_true] at h1
  intro h0
  rw [h0] at h1
  have := h1.1.1.1.1
  cases this
theorem none_step {s n t : List UInt8} {right : Int} {l : List Rl} {k : Nat} (hk : k < l.length) (h : ∀ r ∈ l.take k, fitsR s n t right r = false) (hf : fitsR s n t right l[k] = false) : ∀ r ∈ l.take (k + 1), fitsR s n t right r = false := by
  intro r hr
  rw [List.take_succ_eq_append_getElem hk] at hr
  rcases List.mem_append.1 hr with hr | hr
  · exact h r hr
  · rw [List.mem_singleton] at hr; subst hr; exact hf
/-- how many bits a small number has -/
def onesN (x : Nat) : Int := (x % 2 + x / 2 % 2 + x / 4 % 2 + x / 8 % 2 + x / 16 % 2 + x / 32 % 2 : Nat)
theorem ones_one : ∀ x : Nat, x < 64 → ((onesN x == 1) = oneS (x : Int)) := by
  have h : ∀ x : Fin 64, ((onesN x.1 == 1) = oneS (x.1 : Int)) := by decide +kernel
  intro x hx
  exact h ⟨x, hx⟩
end PoS
set_option maxRecDepth 100000 in
set_option maxHeartbeats 2000000 in
theorem ones_c (x : Nat) (hx : x < 64) (w : World) : Calls Tryz.prog 140 #[.int .u64 (x : Int)] w fun e w' => e = .returned (.int .i64 (PoS.onesN x)) ∧ w = w' := by
  go_enter Tryz.func140, Tryz.ntmps140
  go_wp2_with fail
  go_ret
  refine ⟨congrArg (fun z => Ending.returned (Value.int IntKind.i64 z)) (?_ : _ = PoS.onesN x), rfl⟩
  clear w
  revert x
  decide +kernel
set_option maxRecDepth 100000 in
theorem onesT_c (x : Nat) (hx : x < 64) (w : World) : Calls Tryz.prog 78 #[.int .u64 (x : Int)] w fun e w' => e = .returned (.int .i64 (PoS.onesN x)) ∧ w = w' := by
  have h1 := fun w => ones_c x hx w
  generalize PoS.onesN x = y at *
  go_enter Tryz.func78, Tryz.ntmps78
  go_wp2_with fail
  refine (h1 _).mono ?_; rintro e w1 ⟨rfl, rfl⟩
  go_wp2_with fail
  go_ret
  exact ⟨rfl, rfl⟩
theorem empty_cases {attr t : List UInt8} (h : ¬ (attr.isEmpty = false ∧ t.isEmpty = true)) : attr.isEmpty = true ∨ (attr.isEmpty = false ∧ t.isEmpty = false) := by
  cases attr with
  | nil => exact .inl rfl
  | cons c r =>
    refine .inr ⟨rfl, ?_⟩
    cases t with
    | nil => exact absurd ⟨rfl, rfl⟩ h
    | cons c r => rfl
theorem meet_t {g : Bool} (h : g = false) : Value.bool true = .bool (!g) := by rw [h]; rfl
theorem meet_f {g : Bool} (h : g = true) : Value.bool false = .bool (!g) := by rw [h]; rfl
end Go.Proofs.YtifjghkgmfmneaaGreatDoor
