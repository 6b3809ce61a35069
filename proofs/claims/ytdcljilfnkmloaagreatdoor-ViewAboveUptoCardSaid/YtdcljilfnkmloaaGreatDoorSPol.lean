/- Slices of rules (five cells an element) in memory. Conditions: those that each theorem states. The small walks of the laws on rules: 'Theirs', 'ours', 'Few', 'few', 'Same'. Conditions: lists of at most 1000000 rules ('Few': of any length, each text of at most 2^47 bytes). -/
import Derived.Laws.StructEq
import Derived.BigQuiet
import Derived.Test.YtdcljilfnkmloaaGreatDoorSMem
import Derived.Test.YtdcljilfnkmloaaGreatDoorSRuS
namespace Go.Proofs.YtdcljilfnkmloaaGreatDoor
open Go.RowKit

/-- five cells from a place on -/
def RuleAt (w : World) (g o : Nat) (r : PoS.Rl) : Prop :=
  w.cell? ⟨g, o, none⟩ = some (strV r.who) ∧ w.cell? ⟨g, o + 1, none⟩ = some (strV r.target) ∧ w.cell? ⟨g, o + 2, none⟩ = some (strV r.attr) ∧ w.cell? ⟨g, o + 3, none⟩ = some (.int .i64 r.rights) ∧ w.cell? ⟨g, o + 4, none⟩ = some (.bool r.allow)
theorem RuleAt.call {w w' : World} {g o : Nat} {r : PoS.Rl} (h : RuleAt w g o r) {B : Nat} (hb : Below B w w') (hg : g < B) : RuleAt w' g o r :=
  ⟨(hb.cell (p := ⟨g, o, none⟩) hg).trans h.1, (hb.cell (p := ⟨g, o + 1, none⟩) hg).trans h.2.1, (hb.cell (p := ⟨g, o + 2, none⟩) hg).trans h.2.2.1, (hb.cell (p := ⟨g, o + 3, none⟩) hg).trans h.2.2.2.1, (hb.cell (p := ⟨g, o + 4, none⟩) hg).trans h.2.2.2.2⟩
/-- v is a slice whose elements are the rules xs -/
def RulesIn (w : World) (v : Value) (xs : List PoS.Rl) : Prop :=
  ∃ a c, v = .slice a xs.length c ∧ xs.length ≤ c ∧ (xs = [] ∨ ∃ g o, a = some ⟨g, o, none⟩ ∧ g < w.heap.size ∧ ∀ (j : Nat) (r : PoS.Rl), xs[j]? = some r → RuleAt w g (o + j * 5) r)
theorem RulesIn.call {w w' : World} {v : Value} {xs : List PoS.Rl} (h : RulesIn w v xs) {B : Nat} (hb : Below B w w') (hB : w.heap.size ≤ B) : RulesIn w' v xs := by
  obtain ⟨a, c, rfl, hc, h⟩ := h
  refine ⟨a, c, rfl, hc, ?_⟩
  rcases h with h | ⟨g, o, rfl, hg, h⟩
  · exact .inl h
  · exact .inr ⟨g, o, rfl, Nat.lt_of_lt_of_le hg hb.size, fun j r hj => (h j r hj).call hb (Nat.lt_of_lt_of_le hg hB)⟩
theorem RulesIn.empty (w : World) : RulesIn w (.slice none 0 0) [] := ⟨none, 0, rfl, Nat.le_refl _, .inl rfl⟩
theorem RulesIn.form {w : World} {v : Value} {xs : List PoS.Rl} (h : RulesIn w v xs) : ∃ a c, v = .slice a xs.length c := by obtain ⟨a, c, e, _⟩ := h; exact ⟨a, c, e⟩
theorem RulesIn.at {w : World} {v : Value} {xs : List PoS.Rl} (h : RulesIn w v xs) : ∃ a c, v = .slice a xs.length c ∧ xs.length ≤ c ∧ ∀ k (h : k < xs.length), ∃ g o, a = some ⟨g, o, none⟩ ∧ g < w.heap.size ∧ RuleAt w g (o + k * 5) xs[k] := by
  obtain ⟨a, c, rfl, hc, h⟩ := h
  refine ⟨a, c, rfl, hc, fun k hk => ?_⟩
  rcases h with rfl | ⟨g, o, rfl, hg, h⟩
  · simp at hk
  · exact ⟨g, o, rfl, hg, h k _ (List.getElem?_eq_getElem hk)⟩
def oneC (r : PoS.Rl) : List Value := [strV r.who, strV r.target, strV r.attr, .int .i64 r.rights, .bool r.allow]
def ruleC (xs : List PoS.Rl) : List Value := xs.flatMap oneC
theorem ruleC_append (xs ys : List PoS.Rl) : ruleC (xs ++ ys) = ruleC xs ++ ruleC ys := by unfold ruleC; rw [List.flatMap_append]
theorem ruleC_at : ∀ (xs : List PoS.Rl) (j : Nat) (r : PoS.Rl), xs[j]? = some r → (ruleC xs)[j * 5]? = some (strV r.who) ∧ (ruleC xs)[j * 5 + 1]? = some (strV r.target) ∧ (ruleC xs)[j * 5 + 2]? = some (strV r.attr) ∧ (ruleC xs)[j * 5 + 3]? = some (.int .i64 r.rights) ∧ (ruleC xs)[j * 5 + 4]? = some (.bool r.allow)
  | [], j, r, h => by simp at h
  | q :: xs, 0, r, h => by have := Option.some.inj h; subst this; exact ⟨rfl, rfl, rfl, rfl, rfl⟩
  | q :: xs, j + 1, r, h => by
    have := ruleC_at xs j r (by simpa using h)
    have e : ruleC (q :: xs) = strV q.who :: strV q.target :: strV q.attr :: .int .i64 q.rights :: .bool q.allow :: ruleC xs := rfl
    rw [e, show (j + 1) * 5 = j * 5 + 1 + 1 + 1 + 1 + 1 from by omega]
    exact this
/-- v is a slice of the call's own, of element type T, its elements are the rules xs -/
def OwnR (T : TypeId) (w : World) (B : Nat) (v : Value) (xs : List PoS.Rl) : Prop := w.ownsRow B T 5 v xs.length (ruleC xs)
theorem OwnR.empty (T : TypeId) (w : World) (B : Nat) : OwnR T w B (.slice none 0 0) [] := World.ownsRow_nil w B _ 5
theorem OwnR.form {T : TypeId} {w : World} {B : Nat} {v : Value} {xs : List PoS.Rl} (h : OwnR T w B v xs) : ∃ a c, v = .slice a xs.length c := by
  rcases h.2 with ⟨rfl, hn⟩ | ⟨g, cap, cur, rfl, _⟩
  · exact ⟨_, _, by rw [hn]⟩
  · exact ⟨_, _, rfl⟩
theorem OwnR.call {T : TypeId} {w w' : World} {B : Nat} {v : Value} {xs : List PoS.Rl} (h : OwnR T w B v xs) (hb : Below w.heap.size w w') : OwnR T w' B v xs :=
  World.ownsRow.kept h (grown_none hb) (by cases v.ownBlock <;> simp)
theorem OwnR.alloc {T : TypeId} {w : World} {B : Nat} {v : Value} {xs : List PoS.Rl} (h : OwnR T w B v xs) (o : Obj) : OwnR T (w.alloc o) B v xs := World.ownsRow.alloc h o
theorem OwnR.mono {T : TypeId} {w : World} {B B' : Nat} {v : Value} {xs : List PoS.Rl} (h : OwnR T w B v xs) (hB : B' ≤ B) : OwnR T w B' v xs := by
  refine ⟨h.1, ?_⟩
  rcases h.2 with h | ⟨g, cap, cur, e, hg, h⟩
  · exact .inl h
  · exact .inr ⟨g, cap, cur, e, Nat.le_trans hB hg, h⟩
theorem OwnR.rules {T : TypeId} {w : World} {B : Nat} {v : Value} {xs : List PoS.Rl} (h : OwnR T w B v xs) : RulesIn w v xs := by
  rcases h.2 with ⟨rfl, hn⟩ | ⟨g, cap, cur, rfl, hg, hh, hn, hm, hsz, htk⟩
  · exact ⟨none, 0, by rw [hn], by omega, .inl (List.eq_nil_of_length_eq_zero hn)⟩
  · refine ⟨some ⟨g, 0, none⟩, cap, rfl, hn, .inr ⟨g, 0, rfl, (Array.getElem?_eq_some_iff.1 hh).1, fun j r hj => ?_⟩⟩
    obtain ⟨h0, h1, h2, h3, h4⟩ := ruleC_at xs j r hj
    have hadd : ∀ k, (⟨g, 0, none⟩ : Addr).add k = ⟨g, 0 + k, none⟩ := fun k => by unfold Addr.add; split <;> simp_all
    have c0 := World.ownsRow.cells h (g := g) rfl _ _ h0
    have c1 := World.ownsRow.cells h (g := g) rfl _ _ h1
    have c2 := World.ownsRow.cells h (g := g) rfl _ _ h2
    have c3 := World.ownsRow.cells h (g := g) rfl _ _ h3
    have c4 := World.ownsRow.cells h (g := g) rfl _ _ h4
    rw [hadd] at c0 c1 c2 c3 c4
    exact ⟨c0, by rw [Nat.add_assoc]; exact c1, by rw [Nat.add_assoc]; exact c2, by rw [Nat.add_assoc]; exact c3, by rw [Nat.add_assoc]; exact c4⟩

/-- one rule more -/
theorem push_rule {w : World} {ops : Array Oper} {rest : List Oper} {o : Oper} {a : Act} {Q : Exit → Act → World → Prop} (T sT : TypeId) (hsT : Tryz.prog.underlying sT = some (.slice T)) {i0 : TypeInfo} {z : Value}
    (hi : Tryz.prog.info? T = some i0) (hz : i0.zero = some z) (hsz2 : i0.size = 5) (hby : i0.bytes = 64) (hzs : z.cells.size = 5) (hgd : o.guard = none) (s x : Operand)
    (ho : o.op = .call { callee := .builtin .append, args := #[s, x], argTypes := #[sT, sT] })
    (B : Nat) (v : Value) (xs : List PoS.Rl) (hs : a.eval s = v) (hown : OwnR T w B v xs) (g : Nat) (hx : a.eval x = .slice (some ⟨g, 0, none⟩) 1 1)
    (r : PoS.Rl) (hc : RuleAt w g 0 r) (hn : xs.length ≤ 1000000000) (hB : B ≤ w.heap.size)
    (h : ∀ v' w', OwnR T w' B v' (xs ++ [r]) → Below B w w' → wpList Tryz.prog ops Q rest (a.put o.dst v') w') : wpList Tryz.prog ops Q (o :: rest) a w := by
  refine wpList_append_own w hgd s x _ ho B T i0 z 5 64 hsT hi hz hsz2 hby hzs (by decide) v xs.length (ruleC xs) hs hown ⟨g, 0, none⟩ 1 1 (oneC r) hx rfl
    (fun j u hj => ?_) (fun u hu => ?_) (by unfold maxLen; omega) (by omega) hB (fun v' w' h1 h2 _ => h v' w' ?_ ?_)
  · have hadd : ∀ k, (⟨g, 0, none⟩ : Addr).add k = ⟨g, k, none⟩ := fun k => by unfold Addr.add; split <;> simp_all
    rw [hadd]
    obtain ⟨c0, c1, c2, c3, c4⟩ := hc
    unfold oneC at hj
    match j, hj with
    | 0, hj => rw [c0]; simpa using hj
    | 1, hj => rw [c1]; simpa using hj
    | 2, hj => rw [c2]; simpa using hj
    | 3, hj => rw [c3]; simpa using hj
    | 4, hj => rw [c4]; simpa using hj
  · unfold oneC at hu
    simp only [List.mem_cons, List.not_mem_nil, or_false] at hu
    rcases hu with rfl | rfl | rfl | rfl | rfl <;> rfl
  · unfold OwnR
    rw [ruleC_append, List.length_append]
    have e : ruleC [r] = oneC r := by unfold ruleC; simp
    rw [e]
    exact h1
  · exact (Below.refl B w).grown h2 hB (fun k hk => (World.ownsRow.lt hown k hk).1)
end Go.Proofs.YtdcljilfnkmloaaGreatDoor
namespace Go.Proofs.YtdcljilfnkmloaaGreatDoor
open Go.RowKit

theorem infoRule : (Tryz.prog.info? 85).map (fun i => (i.zero, i.size, i.bytes)) = some (some (.agg #[.string ⟨#[]⟩, .string ⟨#[]⟩, .string ⟨#[]⟩, .int .i64 0, .bool false]), 5, 64) := by kernel_rfl
def RulesRet (T : TypeId) (xs : List PoS.Rl) (w : World) (e : Ending) (w' : World) : Prop := ∃ u, e = .returned u ∧ OwnR T w' w.heap.size u xs ∧ Below w.heap.size w w'
def turnLoop (T : TypeId) (xs : List PoS.Rl) (w0 : World) (out i : Value) (wr : World) : Prop :=
  ∃ k : Nat, k ≤ xs.length ∧ i = .int .i64 k ∧ OwnR T wr w0.heap.size out (xs.take k) ∧ Below w0.heap.size w0 wr
set_option maxRecDepth 100000 in
set_option maxHeartbeats 1000000 in
theorem theirs11_c (v : Value) (xs : List PoS.Rl) (w : World) (h : RulesIn w v xs) (hl : xs.length ≤ 1000000) : Calls Tryz.prog 18 #[v] w (RulesRet 85 xs w) := by
  obtain ⟨a, c, rfl, hc, hat⟩ := h.at
  have HAT := Lib.hid hat
  obtain ⟨i0, hi, hz0, hz1, hz2⟩ := info_parts infoRule
  have HI := Lib.hid hi
  clear hat h hi
  generalize hn : xs.length = n at hc hl ⊢
  have HN := Lib.hid hn
  clear hn
  go_enter Tryz.func18, Tryz.ntmps18
  go_wp2_with fail
  go_loopw [3, 7] (fun out i wr => turnLoop 85 xs w out i wr) (fun _ i _ => n - (intOf i).toNat)
  case atStart => exact ⟨0, Nat.zero_le _, rfl, OwnR.empty _ _ _, Below.refl _ _⟩
  case round =>
    obtain ⟨k, hk, rfl, hown, hb⟩ := hrel
    rw [HN.out] at hk
    have hsz := hb.size
    by_cases hlt : k < n
    · have hlt2 : k < xs.length := by rw [HN.out]; exact hlt
      obtain ⟨g, o, rfl, hg, hra⟩ := HAT.out k hlt2
      have hrc := hra.call hb hg
      have HTK := Lib.hid (List.take_succ_eq_append_getElem hlt2)
      have htl : (xs.take k).length ≤ 1000000 := by rw [List.length_take]; omega
      clear hra
      generalize xs[k] = r at hrc HTK
      obtain ⟨who, target, ra, rights, allow⟩ := r
      obtain ⟨c0, c1, c2, c3, c4⟩ := hrc
      unfold strV at c0 c1 c2
      simp only at c0 c1 c2 c3 c4
      clear hlt2
      go_wp2_with (at_builtin; refine push_rule 85 44 Tryz.underlying44 HI.out hz0 hz1 hz2 (by rfl) (by rfl) _ _ (by rfl) w.heap.size _ (xs.take k) (by rfl) (hown.alloc _) wr.heap.size (by rfl) ⟨who, target, ra, rights, allow⟩ ?e1 ?e2 ?e3 ?_)
      case e1 => simp [go_sem, strV, RuleAt]
      case e2 => omega
      case e3 => simp; omega
      intro v' w2 hown2 hb2
      go_wp2_with fail
      go_roundw
      case rel => exact ⟨k + 1, by rw [HN.out]; omega, by go_num, by rw [HTK.out]; exact hown2, (hb.alloc hsz _).trans hb2⟩
      case measure => simp [intOf]; omega
    · have hall : xs.take k = xs := List.take_of_length_le (by rw [HN.out]; omega)
      rw [hall] at hown
      clear hall
      go_wp2_with fail
      go_ret
      exact ⟨_, rfl, hown, hb⟩
def FewRet11 (xs : List PoS.Rl) (w : World) (e : Ending) (w' : World) : Prop := ∃ b, e = .returned (.bool b) ∧ (b = true → xs.length ≤ 100 ∧ ∀ r ∈ xs, r.who.length ≤ 3000 ∧ r.target.length ≤ 3000 ∧ r.attr.length ≤ 3000) ∧ Below w.heap.size w w'
def WideR (r : PoS.Rl) : Prop := r.who.length ≤ 281474976710656 ∧ r.target.length ≤ 281474976710656 ∧ r.attr.length ≤ 281474976710656
set_option maxRecDepth 100000 in
set_option maxHeartbeats 1000000 in
theorem few11_c (v : Value) (xs : List PoS.Rl) (w : World) (h : RulesIn w v xs) (hl0 : xs.length ≤ 9223372036854775807) (hs : ∀ r ∈ xs, WideR r) : Calls Tryz.prog 53 #[v] w (FewRet11 xs w) := by
  have hl := hl0
  obtain ⟨a, c, rfl, hc, hat⟩ := h.at
  have HAT := Lib.hid hat
  have HS := Lib.hid (fun k (h : k < xs.length) => hs xs[k] (List.getElem_mem h))
  clear hat h hs
  generalize hn : xs.length = n at hc hl ⊢
  have HN := Lib.hid hn
  clear hn
  go_enter Tryz.func53, Tryz.ntmps53
  go_wp2_with fail
  go_loopw [6] (fun i wr => ∃ k : Nat, k ≤ n ∧ k ≤ 100 ∧ i = .int .i64 k ∧ Hid (∀ r ∈ xs.take k, r.who.length ≤ 3000 ∧ r.target.length ≤ 3000 ∧ r.attr.length ≤ 3000) ∧ Below w.heap.size w wr) (fun i _ => n - (intOf i).toNat)
  case atStart => exact ⟨0, Nat.zero_le _, by omega, rfl, Lib.hid (by simp), Below.refl _ _⟩
  case round =>
    obtain ⟨k, hk, hk100, rfl, HA, hb⟩ := hrel
    by_cases hlt : k < n
    · have hlt2 : k < xs.length := by rw [HN.out]; exact hlt
      obtain ⟨g, o, rfl, hg, hra⟩ := HAT.out k hlt2
      have hrc := hra.call hb hg
      have HTK := Lib.hid (List.take_succ_eq_append_getElem hlt2)
      have hsm := HS.out k hlt2
      clear hra
      generalize xs[k] = r at hrc HTK hsm
      obtain ⟨who, target, ra, rights, allow⟩ := r
      obtain ⟨c0, c1, c2, c3, c4⟩ := hrc
      obtain ⟨q1, q2, q3⟩ := hsm
      unfold strV at c0 c1 c2
      simp only at c0 c1 c2 c3 c4 q1 q2 q3
      clear hlt2
      by_cases hi : 100 ≤ k
      · have h3 : decide ((100 : Int) ≤ (k : Int)) = true := decide_eq_true (by omega)
        go_wp2_with fail
        go_quiet (fail)
        go_wp2_with fail
        go_ret
        exact ⟨false, rfl, (fun h => by cases h), hb.trans ((below_drewN wr nq).mono hb.size)⟩
      have h3 : decide ((100 : Int) ≤ (k : Int)) = false := decide_eq_false (by omega)
      have hi2 : k ≤ 99 := by omega
      clear hi
      by_cases hsum : 3000 < who.length + target.length + ra.length
      · have h4 : (3000 : Int) < (who.length : Int) + (target.length : Int) + (ra.length : Int) := by omega
        go_wp2_with fail
        go_quiet (fail)
        go_wp2_with fail
        go_ret
        exact ⟨false, rfl, (fun h => by cases h), hb.trans ((below_drewN wr nq).mono hb.size)⟩
      have h4 : decide ((3000 : Int) < (who.length : Int) + (target.length : Int) + (ra.length : Int)) = false := decide_eq_false (by omega)
      have HT : Hid (who.length ≤ 3000 ∧ target.length ≤ 3000 ∧ ra.length ≤ 3000) := Lib.hid ⟨by omega, by omega, by omega⟩
      clear hsum
      go_wp2_with fail
      go_quiet (fail)
      go_wp2_with fail
      go_roundw
      case rel => exact ⟨k + 1, by omega, by omega, by go_num, Lib.hid (fun q hq => by
        rw [HTK.out] at hq
        rcases List.mem_append.1 hq with hq | hq
        · exact HA.out q hq
        · have := List.mem_singleton.1 hq; subst this; exact HT.out), hb.trans ((below_drewN wr nq).mono hb.size)⟩
      case measure => simp [intOf]; omega
    · have hall : xs.take k = xs := List.take_of_length_le (by rw [HN.out]; omega)
      have HR : Hid (xs.length ≤ 100 ∧ ∀ r ∈ xs, r.who.length ≤ 3000 ∧ r.target.length ≤ 3000 ∧ r.attr.length ≤ 3000) := Lib.hid ⟨by rw [HN.out]; omega, by have := HA.out; rwa [hall] at this⟩
      clear hall
      go_wp2_with fail
      go_ret
      exact ⟨true, rfl, fun _ => HR.out, hb⟩
/-- what is asked -/
structure Ask where
  s : List UInt8
  n : List UInt8
  t : List UInt8
  right : Int
end Go.Proofs.YtdcljilfnkmloaaGreatDoor
