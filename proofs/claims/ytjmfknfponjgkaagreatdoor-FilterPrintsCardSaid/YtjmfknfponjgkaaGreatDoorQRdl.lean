/- The walk of the document's 'pair': a pair, read. Conditions: the text has at most 1000000 bytes. The walk of the document's 'ParsePart'. Conditions: the text has at most 100000 bytes; the library's variables are laid. -/
import Derived.Deep.DrawnRows
import Derived.Deep.RegionHeld3
import Derived.Deep.RegionLaw
import Derived.Laws.AppendOwnNone
import Derived.BigQuiet
import Derived.Deep.QuietTactic
import Derived.Test.YtjmfknfponjgkaaGreatDoorQRdf
import Derived.Test.YtjmfknfponjgkaaGreatDoorQRdi
import Derived.Test.YtjmfknfponjgkaaGreatDoorQRub
import Derived.Test.YtjmfknfponjgkaaGreatDoorQRuS
import Derived.Test.YtjmfknfponjgkaaGreatDoorQRda
import Derived.Test.YtjmfknfponjgkaaGreatDoorQRue
import Derived.Test.YtjmfknfponjgkaaGreatDoorQRug
import Derived.Test.YtjmfknfponjgkaaGreatDoorQPhc
namespace Go.Proofs.YtjmfknfponjgkaaGreatDoor
open Go.RowKit

theorem Whole.two {w : World} {g : Nat} {T : TypeId} {x y : Value} (h : Whole w g T #[x, y]) (a b : Value) :
    w.cell? ⟨g, 0, none⟩ = some x ∧ w.cell? ⟨g, 1, none⟩ = some y ∧ w.frozen? ⟨g, 0, none⟩ = false ∧ w.frozen? ⟨g, 1, none⟩ = false ∧
    (w.setCell ⟨g, 0, none⟩ a).cell? ⟨g, 1, none⟩ = some y ∧ (w.setCell ⟨g, 0, none⟩ a).frozen? ⟨g, 1, none⟩ = false ∧
    ((w.setCell ⟨g, 0, none⟩ a).setCell ⟨g, 1, none⟩ b).cell? ⟨g, 0, none⟩ = some a ∧ ((w.setCell ⟨g, 0, none⟩ a).setCell ⟨g, 1, none⟩ b).cell? ⟨g, 1, none⟩ = some b := by
  have h1 := h.put 0 a
  have h2 := h1.put 1 b
  exact ⟨h.cell 0, h.cell 1, h.thaw 0, h.thaw 1, h1.cell 1, h1.thaw 1, h2.cell 0, h2.cell 1⟩
end Go.Proofs.YtjmfknfponjgkaaGreatDoor
namespace Go.Proofs.YtjmfknfponjgkaaGreatDoor
open Go.RowKit

theorem push_avas {w : World} {ops : Array Oper} {rest : List Oper} {o : Oper} {a : Act} {Q : Exit → Act → World → Prop} (T sT : TypeId) (hsT : Tryz.prog.underlying sT = some (.slice T)) {i0 : TypeInfo} {z : Value}
    (hi : Tryz.prog.info? T = some i0) (hz : i0.zero = some z) (hsz2 : i0.size = 2) (hby : i0.bytes = 32) (hzs : z.cells.size = 2) (hgd : o.guard = none) (s x : Operand)
    (ho : o.op = .call { callee := .builtin .append, args := #[s, x], argTypes := #[sT, sT] })
    (B : Nat) (v : Value) (xs : List RdS.Pr) (hs : a.eval s = v) (hown : OwnA T w B v xs) (ad : Addr) (m c : Nat) (hx : a.eval x = .slice (some ad) m c)
    (ys : List RdS.Pr) (hm : ys.length = m) (hc : ∀ (j : Nat) (u : Value), (avaC ys)[j]? = some u → w.cell? (ad.add j) = some u) (hn : xs.length + m ≤ 1000000000) (hB : B ≤ w.heap.size)
    (h : ∀ v' w', OwnA T w' B v' (xs ++ ys) → Below B w w' → w.grownBy w' v.ownBlock → wpList Tryz.prog ops Q rest (a.put o.dst v') w') : wpList Tryz.prog ops Q (o :: rest) a w := by
  subst hm
  refine wpList_append_own w hgd s x _ ho B T i0 z 2 32 hsT hi hz hsz2 hby hzs (by decide) v xs.length (avaC xs) hs hown ad ys.length c (avaC ys) hx (by rw [avaC_len])
    hc (fun u hu => ?_) (by unfold maxLen; omega) (by omega) hB (fun v' w' h1 h2 _ => h v' w' ?_ ?_ h2)
  · obtain ⟨p, _, hp⟩ := List.mem_flatMap.1 hu
    simp only [List.mem_cons, List.not_mem_nil, or_false] at hp
    rcases hp with rfl | rfl <;> rfl
  · unfold OwnA
    rw [avaC_append, List.length_append]
    exact h1
  · exact (Below.refl B w).grown h2 hB (fun k hk => (World.ownsRow.lt hown k hk).1)
theorem OwnA.mono {T : TypeId} {w : World} {B B' : Nat} {v : Value} {xs : List RdS.Pr} (h : OwnA T w B v xs) (hB : B' ≤ B) : OwnA T w B' v xs := by
  refine ⟨h.1, ?_⟩
  rcases h.2 with h | ⟨g, cap, cur, e, hg, rest⟩
  · exact .inl h
  · exact .inr ⟨g, cap, cur, e, Nat.le_trans hB hg, rest⟩
end Go.Proofs.YtjmfknfponjgkaaGreatDoor
