/- The walk of the document's 'ParsePart'. Conditions: the text has at most 100000 bytes; the library's variables are laid. -/
import Derived.Laws.AppendOwnNone
import Derived.BigQuiet
import Derived.Deep.QuietTactic
import Derived.Deep.DrawnRows
import Derived.Deep.RegionHeld3
import Derived.Deep.RegionLaw
import Derived.Test.YtjmfknfponjgkaaGreatDoorPRda
import Derived.Test.YtjmfknfponjgkaaGreatDoorPRdf
import Derived.Test.YtjmfknfponjgkaaGreatDoorPRdi
import Derived.Test.YtjmfknfponjgkaaGreatDoorPRub
import Derived.Test.YtjmfknfponjgkaaGreatDoorPRuS
import Derived.Test.YtjmfknfponjgkaaGreatDoorPRue
import Derived.Test.YtjmfknfponjgkaaGreatDoorPRug
import Derived.Test.YtjmfknfponjgkaaGreatDoorPPhc
namespace Go.Proofs.YtjmfknfponjgkaaGreatDoor
open Go.RowKit

theorem push_avas {w : World} {ops : Array Oper} {rest : List Oper} {o : Oper} {a : Act} {Q : Exit → Act → World → Prop} (T sT : TypeId) (hsT : Tryz.prog.underlying sT = some (.slice T)) {i0 : TypeInfo} {z : Value}
    (hi : Tryz.prog.info? T = some i0) (hz : i0.zero = some z) (hsz2 : i0.size = 2) (hby : i0.bytes = 32) (hzs : z.cells.size = 2) (hgd : o.guard = none) (s x : Operand)
    (ho : o.op = .call { callee := .builtin .append, args := #[s, x], argTypes := #[sT, sT] })
    (B : Nat) (v : Value) (xs : List RdS.Pr) (hs : a.eval s = v) (hown : OwnA T w B v xs) (ad : Addr) (m c : Nat) (hx : a.eval x = .slice (some ad) m c)
    (ys : List RdS.Pr) (hm : ys.length = m) (hc : ∀ (j : Nat) (u : Value), (avaC ys)[j]? = some u → w.cell? (ad.add j) = some u) (hn : xs.length + m ≤ 1000000000) (hB : B ≤ w.heap.size)
    (h : ∀ v' w', OwnA T w' B v' (xs ++ ys) → Below B w w' → w.grownBy w' v.ownBlock → wpList Tryz.prog ops Q rest (a.put o.dst v') w') : wpList Tryz.prog ops Q (o :: rest) a w := by
  subst hm
  refine wpList_append_own w hgd s x _ ho B T i0 z 2 32 hsT hi hz hsz2 hby hzs (by decide) v xs.length (avaC xs) hs hown ad ys.length c (avaC ys) hx (by rw [avaC_len])
    hc (fun u hu => ?_) (by unfold maxLen; omega) (by omega) hB (fun v' w' h1 h2 _ => h v' w' ?_ ?_ h2)
  · obtain ⟨p, _, hp⟩ := List.mem_flatMap.1 hu
    simp only [List.mem_cons, List.not_mem_nil, or_false] at hp
    rcases hp with rfl | rfl <;> rfl
  · unfold OwnA
    rw [avaC_append, List.length_append]
    exact h1
  · exact (Below.refl B w).grown h2 hB (fun k hk => (World.ownsRow.lt hown k hk).1)
theorem OwnA.mono {T : TypeId} {w : World} {B B' : Nat} {v : Value} {xs : List RdS.Pr} (h : OwnA T w B v xs) (hB : B' ≤ B) : OwnA T w B' v xs := by
  refine ⟨h.1, ?_⟩
  rcases h.2 with h | ⟨g, cap, cur, e, hg, rest⟩
  · exact .inl h
  · exact .inr ⟨g, cap, cur, e, Nat.le_trans hB hg, rest⟩
end Go.Proofs.YtjmfknfponjgkaaGreatDoor
