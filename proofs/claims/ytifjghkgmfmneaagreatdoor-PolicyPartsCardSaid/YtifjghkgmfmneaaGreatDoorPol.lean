/- Slices of rules (five cells an element) in memory. Conditions: those that each theorem states. -/
import Derived.Test.YtifjghkgmfmneaaGreatDoorMem
import Derived.Test.YtifjghkgmfmneaaGreatDoorPoS
import Derived.Laws.StructEq
namespace Go.Proofs.YtifjghkgmfmneaaGreatDoor
open Go.RowKit

/-- five cells from a place on -/
def RuleAt (w : World) (g o : Nat) (r : PoS.Rl) : Prop :=
  w.cell? ⟨g, o, none⟩ = some (strV r.who) ∧ w.cell? ⟨g, o + 1, none⟩ = some (strV r.target) ∧ w.cell? ⟨g, o + 2, none⟩ = some (strV r.attr) ∧ w.cell? ⟨g, o + 3, none⟩ = some (.int .i64 r.rights) ∧ w.cell? ⟨g, o + 4, none⟩ = some (.bool r.allow)
theorem RuleAt.call {w w' : World} {g o : Nat} {r : PoS.Rl} (h : RuleAt w g o r) {B : Nat} (hb : Below B w w') (hg : g < B) : RuleAt w' g o r :=
  ⟨(hb.cell (p := ⟨g, o, none⟩) hg).trans h.1, (hb.cell (p := ⟨g, o + 1, none⟩) hg).trans h.2.1, (hb.cell (p := ⟨g, o + 2, none⟩) hg).trans h.2.2.1, (hb.cell (p := ⟨g, o + 3, none⟩) hg).trans h.2.2.2.1, (hb.cell (p := ⟨g, o + 4, none⟩) hg).trans h.2.2.2.2⟩
/-- v is a slice whose elements are the rules xs -/
def RulesIn (w : World) (v : Value) (xs : List PoS.Rl) : Prop :=
  ∃ a c, v = .slice a xs.length c ∧ xs.length ≤ c ∧ (xs = [] ∨ ∃ g o, a = some ⟨g, o, none⟩ ∧ g < w.heap.size ∧ ∀ (j : Nat) (r : PoS.Rl), xs[j]? = some r → RuleAt w g (o + j * 5) r)
theorem RulesIn.call {w w' : World} {v : Value} {xs : List PoS.Rl} (h : RulesIn w v xs) {B : Nat} (hb : Below B w w') (hB : w.heap.size ≤ B) : RulesIn w' v xs := by
  obtain ⟨a, c, rfl, hc, h⟩ := h
  refine ⟨a, c, rfl, hc, ?_⟩
  rcases h with h | ⟨g, o, rfl, hg, h⟩
  · exact .inl h
  · exact .inr ⟨g, o, rfl, Nat.lt_of_lt_of_le hg hb.size, fun j r hj => (h j r hj).call hb (Nat.lt_of_lt_of_le hg hB)⟩
theorem RulesIn.empty (w : World) : RulesIn w (.slice none 0 0) [] := ⟨none, 0, rfl, Nat.le_refl _, .inl rfl⟩
theorem RulesIn.form {w : World} {v : Value} {xs : List PoS.Rl} (h : RulesIn w v xs) : ∃ a c, v = .slice a xs.length c := by obtain ⟨a, c, e, _⟩ := h; exact ⟨a, c, e⟩
theorem RulesIn.at {w : World} {v : Value} {xs : List PoS.Rl} (h : RulesIn w v xs) : ∃ a c, v = .slice a xs.length c ∧ xs.length ≤ c ∧ ∀ k (h : k < xs.length), ∃ g o, a = some ⟨g, o, none⟩ ∧ g < w.heap.size ∧ RuleAt w g (o + k * 5) xs[k] := by
  obtain ⟨a, c, rfl, hc, h⟩ := h
  refine ⟨a, c, rfl, hc, fun k hk => ?_⟩
  rcases h with rfl | ⟨g, o, rfl, hg, h⟩
  · simp at hk
  · exact ⟨g, o, rfl, hg, h k _ (List.getElem?_eq_getElem hk)⟩
def oneC (r : PoS.Rl) : List Value := [strV r.who, strV r.target, strV r.attr, .int .i64 r.rights, .bool r.allow]
def ruleC (xs : List PoS.Rl) : List Value := xs.flatMap oneC
theorem ruleC_append (xs ys : List PoS.Rl) : ruleC (xs ++ ys) = ruleC xs ++ ruleC ys := by unfold ruleC; rw [List.flatMap_append]
theorem ruleC_at : ∀ (xs : List PoS.Rl) (j : Nat) (r : PoS.Rl), xs[j]? = some r → (ruleC xs)[j * 5]? = some (strV r.who) ∧ (ruleC xs)[j * 5 + 1]? = some (strV r.target) ∧ (ruleC xs)[j * 5 + 2]? = some (strV r.attr) ∧ (ruleC xs)[j * 5 + 3]? = some (.int .i64 r.rights) ∧ (ruleC xs)[j * 5 + 4]? = some (.bool r.allow)
  | [], j, r, h => by simp at h
  | q :: xs, 0, r, h => by have := Option.some.inj h; subst this; exact ⟨rfl, rfl, rfl, rfl, rfl⟩
  | q :: xs, j + 1, r, h => by
    have := ruleC_at xs j r (by simpa using h)
    have e : ruleC (q :: xs) = strV q.who :: strV q.target :: strV q.attr :: .int .i64 q.rights :: .bool q.allow :: ruleC xs := rfl
    rw [e, show (j + 1) * 5 = j * 5 + 1 + 1 + 1 + 1 + 1 from by omega]
    exact this
/-- v is a slice of the call's own, of element type T, its elements are the rules xs -/
def OwnR (T : TypeId) (w : World) (B : Nat) (v : Value) (xs : List PoS.Rl) : Prop := w.ownsRow B T 5 v xs.length (ruleC xs)
theorem OwnR.empty (T : TypeId) (w : World) (B : Nat) : OwnR T w B (.slice none 0 0) [] := World.ownsRow_nil w B _ 5
theorem OwnR.form {T : TypeId} {w : World} {B : Nat} {v : Value} {xs : List PoS.Rl} (h : OwnR T w B v xs) : ∃ a c, v = .slice a xs.length c := by
  rcases h.2 with ⟨rfl, hn⟩ | ⟨g, cap, cur, rfl, _⟩
  · exact ⟨_, _, by rw [hn]⟩
  · exact ⟨_, _, rfl⟩
theorem OwnR.call {T : TypeId} {w w' : World} {B : Nat} {v : Value} {xs : List PoS.Rl} (h : OwnR T w B v xs) (hb : Below w.heap.size w w') : OwnR T w' B v xs :=
  World.ownsRow.kept h (grown_none hb) (by cases v.ownBlock <;> simp)
theorem OwnR.alloc {T : TypeId} {w : World} {B : Nat} {v : Value} {xs : List PoS.Rl} (h : OwnR T w B v xs) (o : Obj) : OwnR T (w.alloc o) B v xs := World.ownsRow.alloc h o
theorem OwnR.mono {T : TypeId} {w : World} {B B' : Nat} {v : Value} {xs : List PoS.Rl} (h : OwnR T w B v xs) (hB : B' ≤ B) : OwnR T w B' v xs := by
  refine ⟨h.1, ?_⟩
  rcases h.2 with h | ⟨g, cap, cur, e, hg, h⟩
  · exact .inl h
  · exact .inr ⟨g, cap, cur, e, Nat.le_trans hB hg, h⟩
theorem OwnR.rules {T : TypeId} {w : World} {B : Nat} {v : Value} {xs : List PoS.Rl} (h : OwnR T w B v xs) : RulesIn w v xs := by
  rcases h.2 with ⟨rfl, hn⟩ | ⟨g, cap, cur, rfl, hg, hh, hn, hm, hsz, htk⟩
  · exact ⟨none, 0, by rw [hn], by omega, .inl (List.eq_nil_of_length_eq_zero hn)⟩
  · refine ⟨some ⟨g, 0, none⟩, cap, rfl, hn, .inr ⟨g, 0, rfl, (Array.getElem?_eq_some_iff.1 hh).1, fun j r hj => ?_⟩⟩
    obtain ⟨h0, h1, h2, h3, h4⟩ := ruleC_at xs j r hj
    have hadd : ∀ k, (⟨g, 0, none⟩ : Addr).add k = ⟨g, 0 + k, none⟩ := fun k => by unfold Addr.add; split <;> simp_all
    have c0 := World.ownsRow.cells h (g := g) rfl _ _ h0
    have c1 := World.ownsRow.cells h (g := g) rfl _ _ h1
    have c2 := World.ownsRow.cells h (g := g) rfl _ _ h2
    have c3 := World.ownsRow.cells h (g := g) rfl _ _ h3
    have c4 := World.ownsRow.cells h (g := g) rfl _ _ h4
    rw [hadd] at c0 c1 c2 c3 c4
    exact ⟨c0, by rw [Nat.add_assoc]; exact c1, by rw [Nat.add_assoc]; exact c2, by rw [Nat.add_assoc]; exact c3, by rw [Nat.add_assoc]; exact c4⟩

/-- one rule more -/
theorem push_rule {w : World} {ops : Array Oper} {rest : List Oper} {o : Oper} {a : Act} {Q : Exit → Act → World → Prop} (T sT : TypeId) (hsT : Tryz.prog.underlying sT = some (.slice T)) {i0 : TypeInfo} {z : Value}
    (hi : Tryz.prog.info? T = some i0) (hz : i0.zero = some z) (hsz2 : i0.size = 5) (hby : i0.bytes = 64) (hzs : z.cells.size = 5) (hgd : o.guard = none) (s x : Operand)
    (ho : o.op = .call { callee := .builtin .append, args := #[s, x], argTypes := #[sT, sT] })
    (B : Nat) (v : Value) (xs : List PoS.Rl) (hs : a.eval s = v) (hown : OwnR T w B v xs) (g : Nat) (hx : a.eval x = .slice (some ⟨g, 0, none⟩) 1 1)
    (r : PoS.Rl) (hc : RuleAt w g 0 r) (hn : xs.length ≤ 1000000000) (hB : B ≤ w.heap.size)
    (h : ∀ v' w', OwnR T w' B v' (xs ++ [r]) → Below B w w' → wpList Tryz.prog ops Q rest (a.put o.dst v') w') : wpList Tryz.prog ops Q (o :: rest) a w := by
  refine wpList_append_own w hgd s x _ ho B T i0 z 5 64 hsT hi hz hsz2 hby hzs (by decide) v xs.length (ruleC xs) hs hown ⟨g, 0, none⟩ 1 1 (oneC r) hx rfl
    (fun j u hj => ?_) (fun u hu => ?_) (by unfold maxLen; omega) (by omega) hB (fun v' w' h1 h2 _ => h v' w' ?_ ?_)
  · have hadd : ∀ k, (⟨g, 0, none⟩ : Addr).add k = ⟨g, k, none⟩ := fun k => by unfold Addr.add; split <;> simp_all
    rw [hadd]
    obtain ⟨c0, c1, c2, c3, c4⟩ := hc
    unfold oneC at hj
    match j, hj with
    | 0, hj => rw [c0]; simpa using hj
    | 1, hj => rw [c1]; simpa using hj
    | 2, hj => rw [c2]; simpa using hj
    | 3, hj => rw [c3]; simpa using hj
    | 4, hj => rw [c4]; simpa using hj
  · unfold oneC at hu
    simp only [List.mem_cons, List.not_mem_nil, or_false] at hu
    rcases hu with rfl | rfl | rfl | rfl | rfl <;> rfl
  · unfold OwnR
    rw [ruleC_append, List.length_append]
    have e : ruleC [r] = oneC r := by unfold ruleC; simp
    rw [e]
    exact h1
  · exact (Below.refl B w).grown h2 hB (fun k hk => (World.ownsRow.lt hown k hk).1)
end Go.Proofs.YtifjghkgmfmneaaGreatDoor
