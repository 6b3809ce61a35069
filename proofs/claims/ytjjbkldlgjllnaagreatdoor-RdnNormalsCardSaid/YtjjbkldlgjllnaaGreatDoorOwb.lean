/- Rows of bytes of the call's own, appended to. Conditions: those that each theorem states. -/
import Derived.Test.YtjjbkldlgjllnaaGreatDoorStr
namespace Go.Proofs.YtjjbkldlgjllnaaGreatDoor
open Go.RowKit

def byteV (c : UInt8) : Value := .int .u8 (c.toNat : Int)
/-- v is a slice of the call's own (its block is B or a later one), its elements are the bytes l -/
def OwnB (w : World) (B : Nat) (v : Value) (l : List UInt8) : Prop := w.ownsRow B 5 1 v l.length (l.map byteV)
theorem OwnB.empty (w : World) (B : Nat) : OwnB w B (.slice none 0 0) [] := World.ownsRow_nil w B _ 1
theorem OwnB.form {w : World} {B : Nat} {v : Value} {l : List UInt8} (h : OwnB w B v l) : ∃ a c, v = .slice a l.length c := by
  rcases h.2 with ⟨rfl, hn⟩ | ⟨g, cap, cur, rfl, _⟩
  · exact ⟨_, _, by rw [hn]⟩
  · exact ⟨_, _, rfl⟩
theorem OwnB.call {w w' : World} {B : Nat} {v : Value} {l : List UInt8} (h : OwnB w B v l) (hb : Below w.heap.size w w') : OwnB w' B v l :=
  World.ownsRow.kept h (grown_none hb) (by cases v.ownBlock <;> simp)
theorem OwnB.alloc {w : World} {B : Nat} {v : Value} {l : List UInt8} (h : OwnB w B v l) (o : Obj) : OwnB (w.alloc o) B v l := World.ownsRow.alloc h o
theorem infoU8 : (Tryz.prog.info? 5).map (fun i => (i.zero, i.size, i.bytes)) = some (some (.int .u8 0), 1, 1) := by kernel_rfl

/-- some bytes more -/
theorem push_bytes_g {w : World} {ops : Array Oper} {rest : List Oper} {o : Oper} {a : Act} {Q : Exit → Act → World → Prop} (hgd : o.guard = none) (s x : Operand)
    (ho : o.op = .call { callee := .builtin .append, args := #[s, x], argTypes := #[100, 100] })
    (B : Nat) (v : Value) (l : List UInt8) (hs : a.eval s = v) (hown : OwnB w B v l) (g m c : Nat) (hx : a.eval x = .slice (some ⟨g, 0, none⟩) m c)
    (ys : List UInt8) (hm : ys.length = m) (hc : ∀ (j : Nat) (y : UInt8), ys[j]? = some y → w.cell? ⟨g, j, none⟩ = some (byteV y)) (hn : l.length + m ≤ 1000000000) (hB : B ≤ w.heap.size)
    (h : ∀ v' w', OwnB w' B v' (l ++ ys) → Below B w w' → w.grownBy w' v.ownBlock → wpList Tryz.prog ops Q rest (a.put o.dst v') w') : wpList Tryz.prog ops Q (o :: rest) a w := by
  obtain ⟨i0, hi, hz0, hz1, hz2⟩ := info_parts infoU8
  subst hm
  refine wpList_append_own w hgd s x _ ho B 5 i0 (.int .u8 0) 1 1 Tryz.underlying100 hi hz0 hz1 hz2 rfl (by decide) v l.length (l.map byteV) hs hown ⟨g, 0, none⟩ ys.length c (ys.map byteV) hx (by simp)
    (fun j u hj => ?_) (fun u hu => ?_) (by unfold maxLen; omega) (by omega) hB (fun v' w' h1 h2 _ => h v' w' ?_ ?_ h2)
  · rw [List.getElem?_map] at hj
    cases hy : ys[j]? with
    | none => rw [hy] at hj; cases hj
    | some y =>
      rw [hy] at hj
      have hj := Option.some.inj hj
      subst hj
      have hadd : (⟨g, 0, none⟩ : Addr).add j = ⟨g, j, none⟩ := by unfold Addr.add; split <;> simp_all
      rw [hadd]
      exact hc j y hy
  · obtain ⟨y, _, rfl⟩ := List.mem_map.1 hu; rfl
  · unfold OwnB
    rw [List.map_append, List.length_append]
    exact h1
  · exact (Below.refl B w).grown h2 hB (fun k hk => (World.ownsRow.lt hown k hk).1)
theorem push_bytes {w : World} {ops : Array Oper} {rest : List Oper} {o : Oper} {a : Act} {Q : Exit → Act → World → Prop} (hgd : o.guard = none) (s x : Operand)
    (ho : o.op = .call { callee := .builtin .append, args := #[s, x], argTypes := #[100, 100] })
    (B : Nat) (v : Value) (l : List UInt8) (hs : a.eval s = v) (hown : OwnB w B v l) (g m c : Nat) (hx : a.eval x = .slice (some ⟨g, 0, none⟩) m c)
    (ys : List UInt8) (hm : ys.length = m) (hc : ∀ (j : Nat) (y : UInt8), ys[j]? = some y → w.cell? ⟨g, j, none⟩ = some (byteV y)) (hn : l.length + m ≤ 1000000000) (hB : B ≤ w.heap.size)
    (h : ∀ v' w', OwnB w' B v' (l ++ ys) → Below B w w' → wpList Tryz.prog ops Q rest (a.put o.dst v') w') : wpList Tryz.prog ops Q (o :: rest) a w :=
  push_bytes_g hgd s x ho B v l hs hown g m c hx ys hm hc hn hB (fun v' w' h1 h2 _ => h v' w' h1 h2)
theorem one_cell {w : World} {g : Nat} {y : UInt8} (h : w.cell? ⟨g, 0, none⟩ = some (byteV y)) : ∀ (j : Nat) (z : UInt8), [y][j]? = some z → w.cell? ⟨g, j, none⟩ = some (byteV z) := by
  intro j z hz
  match j, hz with
  | 0, hz => have := Option.some.inj hz; subst this; exact h
theorem one_list (c : UInt8) : ∀ (j : Nat) (y : UInt8), [c][j]? = some y → [Value.int IntKind.u8 (c.toNat : Int)][j]? = some (byteV y) := by
  intro j z hz
  match j, hz with
  | 0, hz => have := Option.some.inj hz; subst this; rfl
theorem two_cells {w : World} {g : Nat} {y0 y1 : UInt8} (h0 : w.cell? ⟨g, 0, none⟩ = some (byteV y0)) (h1 : w.cell? ⟨g, 1, none⟩ = some (byteV y1)) : ∀ (j : Nat) (z : UInt8), [y0, y1][j]? = some z → w.cell? ⟨g, j, none⟩ = some (byteV z) := by
  intro j z hz
  match j, hz with
  | 0, hz => have := Option.some.inj hz; subst this; exact h0
  | 1, hz => have := Option.some.inj hz; subst this; exact h1
theorem three_cells {w : World} {g : Nat} {y0 y1 y2 : UInt8} (h0 : w.cell? ⟨g, 0, none⟩ = some (byteV y0)) (h1 : w.cell? ⟨g, 1, none⟩ = some (byteV y1)) (h2 : w.cell? ⟨g, 2, none⟩ = some (byteV y2)) :
    ∀ (j : Nat) (z : UInt8), [y0, y1, y2][j]? = some z → w.cell? ⟨g, j, none⟩ = some (byteV z) := by
  intro j z hz
  match j, hz with
  | 0, hz => have := Option.some.inj hz; subst this; exact h0
  | 1, hz => have := Option.some.inj hz; subst this; exact h1
  | 2, hz => have := Option.some.inj hz; subst this; exact h2
/-- the bytes, made a text -/
theorem OwnB.back {w : World} {B : Nat} {v : Value} {l : List UInt8} (h : OwnB w B v l) : (convert 100 9 v).run Tryz.prog w = .ok (.string ⟨l.toArray⟩) w := by
  rcases h.2 with ⟨rfl, hn⟩ | ⟨g, cap, cur, rfl, hg, hh, hn, hm, hsz, htk⟩
  · have hl := List.eq_nil_of_length_eq_zero hn
    subst hl
    rw [run_convert_bytes_string w _ _ 5 none 0 0 Tryz.underlying100 Tryz.underlying5 Tryz.underlying9]
    rfl
  · refine run_convert_bytes_back w _ _ 5 ⟨g, 0, none⟩ cap l Tryz.underlying100 Tryz.underlying5 Tryz.underlying9 fun j hj => ?_
    exact World.ownsRow.cells h (g := g) rfl j (byteV l[j]) (by simp [hj])
end Go.Proofs.YtjjbkldlgjllnaaGreatDoor
