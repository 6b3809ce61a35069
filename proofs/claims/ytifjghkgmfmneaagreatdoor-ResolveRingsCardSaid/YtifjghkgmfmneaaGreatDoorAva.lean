/- Slices of pairs (a type and a value, two cells an element) in memory. Conditions: those that each theorem states. -/
import Derived.Test.YtifjghkgmfmneaaGreatDoorMem
import Derived.Test.YtifjghkgmfmneaaGreatDoorRdS
import Derived.Laws.StructEq
namespace Go.Proofs.YtifjghkgmfmneaaGreatDoor
open Go.RowKit

/-- v is a slice whose elements are the pairs xs -/
def AvasIn (w : World) (v : Value) (xs : List RdS.Pr) : Prop :=
  ∃ a c, v = .slice a xs.length c ∧ xs.length ≤ c ∧ (xs = [] ∨ ∃ g o, a = some ⟨g, o, none⟩ ∧ g < w.heap.size ∧
    ∀ (j : Nat) (p : RdS.Pr), xs[j]? = some p → w.cell? ⟨g, o + j * 2, none⟩ = some (strV p.1) ∧ w.cell? ⟨g, o + j * 2 + 1, none⟩ = some (strV p.2))
theorem AvasIn.call {w w' : World} {v : Value} {xs : List RdS.Pr} (h : AvasIn w v xs) {B : Nat} (hb : Below B w w') (hB : w.heap.size ≤ B) : AvasIn w' v xs := by
  obtain ⟨a, c, rfl, hc, h⟩ := h
  refine ⟨a, c, rfl, hc, ?_⟩
  rcases h with h | ⟨g, o, rfl, hg, h⟩
  · exact .inl h
  · refine .inr ⟨g, o, rfl, Nat.lt_of_lt_of_le hg hb.size, fun j p hj => ⟨?_, ?_⟩⟩
    · exact (hb.cell (p := ⟨g, o + j * 2, none⟩) (Nat.lt_of_lt_of_le hg hB)).trans (h j p hj).1
    · exact (hb.cell (p := ⟨g, o + j * 2 + 1, none⟩) (Nat.lt_of_lt_of_le hg hB)).trans (h j p hj).2
theorem AvasIn.empty (w : World) : AvasIn w (.slice none 0 0) [] := ⟨Option.none, 0, rfl, Nat.le_refl _, .inl rfl⟩
def avaC (xs : List RdS.Pr) : List Value := xs.flatMap fun p => [strV p.1, strV p.2]
theorem avaC_len (xs : List RdS.Pr) : (avaC xs).length = xs.length * 2 := by
  induction xs with
  | nil => rfl
  | cons p xs ih => show ([strV p.1, strV p.2] ++ avaC xs).length = _; rw [List.length_append, ih]; simp; omega
theorem avaC_append (xs ys : List RdS.Pr) : avaC (xs ++ ys) = avaC xs ++ avaC ys := by unfold avaC; rw [List.flatMap_append]
theorem avaC_at : ∀ (xs : List RdS.Pr) (j : Nat) (p : RdS.Pr), xs[j]? = some p → (avaC xs)[j * 2]? = some (strV p.1) ∧ (avaC xs)[j * 2 + 1]? = some (strV p.2)
  | [], j, p, h => by simp at h
  | q :: xs, 0, p, h => by have := Option.some.inj h; subst this; exact ⟨rfl, rfl⟩
  | q :: xs, j + 1, p, h => by
    have := avaC_at xs j p (by simpa using h)
    have e : avaC (q :: xs) = strV q.1 :: strV q.2 :: avaC xs := rfl
    rw [e, show (j + 1) * 2 = j * 2 + 1 + 1 from by omega]
    exact this
/-- v is a slice of the call's own, of element type T, its elements are the pairs xs -/
def OwnA (T : TypeId) (w : World) (B : Nat) (v : Value) (xs : List RdS.Pr) : Prop := w.ownsRow B T 2 v xs.length (avaC xs)
theorem OwnA.empty (T : TypeId) (w : World) (B : Nat) : OwnA T w B (.slice none 0 0) [] := World.ownsRow_nil w B _ 2
theorem OwnA.form {T : TypeId} {w : World} {B : Nat} {v : Value} {xs : List RdS.Pr} (h : OwnA T w B v xs) : ∃ a c, v = .slice a xs.length c := by
  rcases h.2 with ⟨rfl, hn⟩ | ⟨g, cap, cur, rfl, _⟩
  · exact ⟨_, _, by rw [hn]⟩
  · exact ⟨_, _, rfl⟩
theorem OwnA.call {T : TypeId} {w w' : World} {B : Nat} {v : Value} {xs : List RdS.Pr} (h : OwnA T w B v xs) (hb : Below w.heap.size w w') : OwnA T w' B v xs :=
  World.ownsRow.kept h (grown_none hb) (by cases v.ownBlock <;> simp)
theorem OwnA.alloc {T : TypeId} {w : World} {B : Nat} {v : Value} {xs : List RdS.Pr} (h : OwnA T w B v xs) (o : Obj) : OwnA T (w.alloc o) B v xs := World.ownsRow.alloc h o
theorem OwnA.avas {T : TypeId} {w : World} {B : Nat} {v : Value} {xs : List RdS.Pr} (h : OwnA T w B v xs) : AvasIn w v xs := by
  rcases h.2 with ⟨rfl, hn⟩ | ⟨g, cap, cur, rfl, hg, hh, hn, hm, hsz, htk⟩
  · exact ⟨Option.none, 0, by rw [hn], by omega, .inl (List.eq_nil_of_length_eq_zero hn)⟩
  · refine ⟨some ⟨g, 0, Option.none⟩, cap, rfl, hn, .inr ⟨g, 0, rfl, (Array.getElem?_eq_some_iff.1 hh).1, fun j p hj => ?_⟩⟩
    have h2 := avaC_at xs j p hj
    have hadd : ∀ k, (⟨g, 0, Option.none⟩ : Addr).add k = ⟨g, 0 + k, Option.none⟩ := fun k => by unfold Addr.add; split <;> simp_all
    have c1 := World.ownsRow.cells h (g := g) rfl _ _ h2.1
    have c2 := World.ownsRow.cells h (g := g) rfl _ _ h2.2
    rw [hadd] at c1 c2
    exact ⟨c1, by rw [Nat.add_assoc]; exact c2⟩

/-- one pair more -/
theorem push_ava {w : World} {ops : Array Oper} {rest : List Oper} {o : Oper} {a : Act} {Q : Exit → Act → World → Prop} (T sT : TypeId) (hsT : Tryz.prog.underlying sT = some (.slice T)) {i0 : TypeInfo} {z : Value}
    (hi : Tryz.prog.info? T = some i0) (hz : i0.zero = some z) (hsz2 : i0.size = 2) (hby : i0.bytes = 32) (hzs : z.cells.size = 2) (hgd : o.guard = none) (s x : Operand)
    (ho : o.op = .call { callee := .builtin .append, args := #[s, x], argTypes := #[sT, sT] })
    (B : Nat) (v : Value) (xs : List RdS.Pr) (hs : a.eval s = v) (hown : OwnA T w B v xs) (g : Nat) (hx : a.eval x = .slice (some ⟨g, 0, Option.none⟩) 1 1)
    (p : RdS.Pr) (hc0 : w.cell? ⟨g, 0, Option.none⟩ = some (strV p.1)) (hc1 : w.cell? ⟨g, 1, Option.none⟩ = some (strV p.2)) (hn : xs.length ≤ 1000000000) (hB : B ≤ w.heap.size)
    (h : ∀ v' w', OwnA T w' B v' (xs ++ [p]) → Below B w w' → wpList Tryz.prog ops Q rest (a.put o.dst v') w') : wpList Tryz.prog ops Q (o :: rest) a w := by
  refine wpList_append_own w hgd s x _ ho B T i0 z 2 32 hsT hi hz hsz2 hby hzs (by decide) v xs.length (avaC xs) hs hown ⟨g, 0, Option.none⟩ 1 1 [strV p.1, strV p.2] hx rfl
    (fun j u hj => ?_) (fun u hu => ?_) (by unfold maxLen; omega) (by omega) hB (fun v' w' h1 h2 _ => h v' w' ?_ ?_)
  · have hadd : ∀ k, (⟨g, 0, Option.none⟩ : Addr).add k = ⟨g, k, Option.none⟩ := fun k => by unfold Addr.add; split <;> simp_all
    rw [hadd]
    match j, hj with
    | 0, hj => rw [hc0]; simpa using hj
    | 1, hj => rw [hc1]; simpa using hj
  · simp only [List.mem_cons, List.not_mem_nil, or_false] at hu
    rcases hu with rfl | rfl <;> rfl
  · unfold OwnA
    rw [avaC_append, List.length_append]
    exact h1
  · exact (Below.refl B w).grown h2 hB (fun k hk => (World.ownsRow.lt hown k hk).1)
theorem equal_pair (T : TypeId) (hf : (Tryz.prog.fieldsOf T).toList.map (fun f => (f.name == "_", f.type, f.offset)) = [(false, 9, 0), (false, 9, 1)]) (ht : Tryz.prog.underlying T = some (.struct (Tryz.prog.fieldsOf T))) (hp : Tryz.prog.stoodInHeld T = false)
    (t1 u1 t2 u2 : List UInt8) (w : World) : (Op.equalIn 10000 T (.agg #[.string ⟨t1.toArray⟩, .string ⟨u1.toArray⟩]) (.agg #[.string ⟨t2.toArray⟩, .string ⟨u2.toArray⟩])).run Tryz.prog w = .ok (t1 == t2 && u1 == u2) w := by
  rw [run_equalIn_struct w 9999 T _ _ ht hp]
  generalize (Tryz.prog.fieldsOf T).toList = fs at hf
  rcases fs with _ | ⟨f0, _ | ⟨f1, _ | ⟨f2, fs⟩⟩⟩
  · simp at hf
  · simp at hf
  · simp only [List.map_cons, List.map_nil, List.cons.injEq, Prod.mk.injEq, and_true] at hf
    obtain ⟨⟨n0, a0, o0⟩, ⟨n1, a1, o1⟩⟩ := hf
    have n0' : f0.name ≠ "_" := by simpa using n0
    have n1' : f1.name ≠ "_" := by simpa using n1
    cases h1 : (t1 == t2) <;> cases h2 : (u1 == u2) <;> simp [Op.eqFields, n0', n1', a0, a1, o0, o1, go_sem, Tryz.underlying9, h1, h2, part]
  · simp at hf
end Go.Proofs.YtifjghkgmfmneaaGreatDoor
