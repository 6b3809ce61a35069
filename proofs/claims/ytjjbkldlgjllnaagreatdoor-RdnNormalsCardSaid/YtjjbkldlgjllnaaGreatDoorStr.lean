/- Slices of strings in memory: one that is read; one of the call's own that is appended to. Conditions: those that each theorem states. -/
import Derived.Test.YtjjbkldlgjllnaaGreatDoorEnv
import Derived.Test.YtjjbkldlgjllnaaGreatDoorByt
import Derived.Laws.AppendOwn
namespace Go.Proofs.YtjjbkldlgjllnaaGreatDoor
open Go.RowKit

def strV (l : List UInt8) : Value := .string ⟨l.toArray⟩
theorem strV_one (l : List UInt8) : (strV l).oneCell' = true := rfl

/-- v is a slice whose elements are the texts xs -/
def StrsIn (w : World) (v : Value) (xs : List (List UInt8)) : Prop :=
  ∃ a c, v = .slice a xs.length c ∧ xs.length ≤ c ∧ (xs = [] ∨ ∃ g o, a = some ⟨g, o, none⟩ ∧ g < w.heap.size ∧ ∀ (j : Nat) (y : List UInt8), xs[j]? = some y → w.cell? ⟨g, o + j, none⟩ = some (strV y))
theorem StrsIn.call {w w' : World} {v : Value} {xs : List (List UInt8)} (h : StrsIn w v xs) {B : Nat} (hb : Below B w w') (hB : w.heap.size ≤ B) : StrsIn w' v xs := by
  obtain ⟨a, c, rfl, hc, h⟩ := h
  refine ⟨a, c, rfl, hc, ?_⟩
  rcases h with h | ⟨g, o, rfl, hg, h⟩
  · exact .inl h
  · exact .inr ⟨g, o, rfl, Nat.lt_of_lt_of_le hg hb.size, fun j y hj => (hb.cell (p := ⟨g, o + j, none⟩) (Nat.lt_of_lt_of_le hg hB)).trans (h j y hj)⟩
theorem StrsIn.empty (w : World) : StrsIn w (.slice none 0 0) [] := ⟨Option.none, 0, rfl, Nat.le_refl _, .inl rfl⟩

/-- v is a slice of the call's own (its block is B or a later one), its elements are the texts xs -/
def Own (w : World) (B : Nat) (v : Value) (xs : List (List UInt8)) : Prop := w.ownsRow B 9 1 v xs.length (xs.map strV)
theorem Own.empty (w : World) (B : Nat) : Own w B (.slice none 0 0) [] := World.ownsRow_nil w B _ 1
theorem Own.form {w : World} {B : Nat} {v : Value} {xs : List (List UInt8)} (h : Own w B v xs) : ∃ a c, v = .slice a xs.length c := by
  rcases h.2 with ⟨rfl, hn⟩ | ⟨g, cap, cur, rfl, _⟩
  · exact ⟨_, _, by rw [hn]⟩
  · exact ⟨_, _, rfl⟩
theorem grown_none {w w' : World} (hb : Below w.heap.size w w') : w.grownBy w' none := ⟨hb.os, hb.tape, hb.output, hb.size, fun k hk _ => hb.block k hk⟩
theorem Own.call {w w' : World} {B : Nat} {v : Value} {xs : List (List UInt8)} (h : Own w B v xs) (hb : Below w.heap.size w w') : Own w' B v xs :=
  World.ownsRow.kept h (grown_none hb) (by cases v.ownBlock <;> simp)
theorem Own.alloc {w : World} {B : Nat} {v : Value} {xs : List (List UInt8)} (h : Own w B v xs) (o : Obj) : Own (w.alloc o) B v xs := World.ownsRow.alloc h o
theorem Own.mono {w : World} {B B' : Nat} {v : Value} {xs : List (List UInt8)} (h : Own w B v xs) (hB : B' ≤ B) : Own w B' v xs := by
  refine ⟨h.1, ?_⟩
  rcases h.2 with h | ⟨g, cap, cur, e, hg, rest⟩
  · exact .inl h
  · exact .inr ⟨g, cap, cur, e, Nat.le_trans hB hg, rest⟩
theorem Own.strs {w : World} {B : Nat} {v : Value} {xs : List (List UInt8)} (h : Own w B v xs) : StrsIn w v xs := by
  rcases h.2 with ⟨rfl, hn⟩ | ⟨g, cap, cur, rfl, hg, hh, hn, hm, hsz, htk⟩
  · exact ⟨Option.none, 0, by rw [hn], by omega, .inl (List.eq_nil_of_length_eq_zero hn)⟩
  · refine ⟨some ⟨g, 0, Option.none⟩, cap, rfl, hn, .inr ⟨g, 0, rfl, (Array.getElem?_eq_some_iff.1 hh).1, fun j y hj => ?_⟩⟩
    have := World.ownsRow.cells h (g := g) rfl j (strV y) (by rw [List.getElem?_map, hj]; rfl)
    have hadd : (⟨g, 0, Option.none⟩ : Addr).add j = ⟨g, 0 + j, Option.none⟩ := by unfold Addr.add; split <;> simp_all
    rw [hadd] at this
    exact this
theorem StrsIn.at {w : World} {g o : Nat} {xs : List (List UInt8)} (h : ∀ (j : Nat) (y : List UInt8), xs[j]? = some y → w.cell? ⟨g, o + j, Option.none⟩ = some (strV y)) {k : Nat} (hk : k < xs.length) : w.cell? ⟨g, o + k, Option.none⟩ = some (strV xs[k]) := h k _ (List.getElem?_eq_getElem hk)
theorem infoStr : (Tryz.prog.info? 9).map (fun i => (i.zero, i.size, i.bytes)) = some (some (.string ⟨#[]⟩), 1, 16) := by kernel_rfl

/-- one text more -/
theorem push_str {w : World} {ops : Array Oper} {rest : List Oper} {o : Oper} {a : Act} {Q : Exit → Act → World → Prop} (hgd : o.guard = none) (s x : Operand)
    (ho : o.op = .call { callee := .builtin .append, args := #[s, x], argTypes := #[54, 54] })
    (B : Nat) (v : Value) (xs : List (List UInt8)) (hs : a.eval s = v) (hown : Own w B v xs) (g : Nat) (hx : a.eval x = .slice (some ⟨g, 0, Option.none⟩) 1 1)
    (y : List UInt8) (hc : w.cell? ⟨g, 0, Option.none⟩ = some (strV y)) (hn : xs.length ≤ 1000000000) (hB : B ≤ w.heap.size)
    (h : ∀ v' w', Own w' B v' (xs ++ [y]) → Below B w w' → wpList Tryz.prog ops Q rest (a.put o.dst v') w') : wpList Tryz.prog ops Q (o :: rest) a w := by
  obtain ⟨i0, hi, hz0, hz1, hz2⟩ := info_parts infoStr
  refine wpList_append_own w hgd s x _ ho B 9 i0 (.string ⟨#[]⟩) 1 16 Tryz.underlying54 hi hz0 hz1 hz2 rfl (by decide) v xs.length (xs.map strV) hs hown ⟨g, 0, Option.none⟩ 1 1 [strV y] hx rfl
    (fun j u hj => ?_) (fun u hu => ?_) (by unfold maxLen; omega) (by omega) hB (fun v' w' h1 h2 _ => h v' w' ?_ ?_)
  · have hj0 : j = 0 := by
      rcases Nat.eq_zero_or_pos j with h | h
      · exact h
      · rw [List.getElem?_eq_none (by simp; omega)] at hj; cases hj
    subst hj0
    have hadd : (⟨g, 0, Option.none⟩ : Addr).add 0 = ⟨g, 0, Option.none⟩ := by unfold Addr.add; split <;> simp_all
    rw [hadd, hc]
    simpa using hj
  · rw [List.mem_singleton] at hu; subst hu; rfl
  · unfold Own
    rw [List.map_append, List.length_append]
    exact h1
  · exact (Below.refl B w).grown h2 hB (fun k hk => (World.ownsRow.lt hown k hk).1)
end Go.Proofs.YtjjbkldlgjllnaaGreatDoor
