/- Plain laws of rules: formed, who is meant, deciding, restricting. Conditions: as stated. -/
import Derived.IntWalk
import Derived.Deep.CutBlock
import Derived.Deep.DeepCutAuto
import Derived.BigQuiet
import Derived.OneCell
import Derived.Lib.SlicesS
import Derived.Deep.DrawnRows
import Derived.Deep.RegionHeld3
import Derived.Test.YtjmfknfponjgkaaGreatDoorJRuS
import Derived.Test.YtjmfknfponjgkaaGreatDoorJCqa
import Derived.Test.YtjmfknfponjgkaaGreatDoorJEna
import Derived.Test.YtjmfknfponjgkaaGreatDoorJAva
import Derived.Test.YtjmfknfponjgkaaGreatDoorJPhi
import Derived.Test.YtjmfknfponjgkaaGreatDoorJRwe
namespace Go.Proofs.YtjmfknfponjgkaaGreatDoor.PoS
open Go.Lib RdS DnS
structure Rl where
 who : List UInt8
 target : List UInt8
 attr : List UInt8
 rights : Int
 allow : Bool
 deriving DecidableEq
end Go.Proofs.YtjmfknfponjgkaaGreatDoor.PoS
namespace Go.Proofs.YtjmfknfponjgkaaGreatDoor
section
open Go.RowKit
abbrev Ky : Type := List (List UInt8) × Bool
def flatQ : List Ky -> List Value -> List Value
 | x :: xs, u :: us => u :: .bool x.2 :: flatQ xs us
 | _, _ => []
def OwnQ (T : TypeId) (w : World) (C B : Nat) (v : Value) (xs : List Ky) : Prop :=
 ∃ us : List Value, w.ownsRow B T 2 v xs.length (flatQ xs us) /\ us.length = xs.length /\ ∀ (i : Nat) (u : Value) (x : Ky), us[i]? = some u -> xs[i]? = some x -> StrsP (okT [9] C w) w u x.1
theorem OwnQ.form {T : TypeId} {w : World} {C B : Nat} {v : Value} {xs : List Ky} (h : OwnQ T w C B v xs) : ∃ a c, v = .slice a xs.length c /\ xs.length <= c := by
 obtain ⟨us, h, _⟩ := h
 rcases h.2 with ⟨rfl, hn⟩ | ⟨g, cap, cur, rfl, _, _, hn, _⟩
 · exact ⟨_, _, by rw [hn], by omega⟩
 · exact ⟨_, _, rfl, hn⟩
theorem OwnQ.call {T : TypeId} {w w' : World} {C B : Nat} {v : Value} {xs : List Ky} (h : OwnQ T w C B v xs) (hb : Below w.heap.size w w') : OwnQ T w' C B v xs := by
 obtain ⟨us, h1, h2, h3⟩ := h
 exact ⟨us, World.ownsRow.kept h1 (grown_none hb) (by cases v.ownBlock <;> simp), h2, fun i u l a b => StrsP.keep (h3 i u l a b) hb.size (fun g hg _ => hb.block g hg) (fun g hg hok => hok.same (hb.block g hg))⟩
theorem OwnQ.mono {T : TypeId} {w : World} {C B B' : Nat} {v : Value} {xs : List Ky} (h : OwnQ T w C B v xs) (hB : B' <= B) : OwnQ T w C B' v xs := by
 obtain ⟨us, h1, h2, h3⟩ := h
 exact ⟨us, World.ownsRow.mono h1 hB, h2, h3⟩
theorem SliceP.drop {α : Type} {k : Nat} {El : World -> Nat -> Nat -> α -> Prop} {ok : Nat -> Prop} {w : World} {a : Option Addr} {n c : Nat} {xs : List α} (h : SliceP k El ok w (.slice a n c) xs) {m : Nat} (hm : m <= n) : SliceP k El ok w (.slice (Option.map (fun x => x.add (m * k)) a) (n - m) (c - m)) (xs.drop m) := by
 obtain ⟨a', c1, e, hc, hcase⟩ := h
 cases e
 have hl : (xs.drop m).length = xs.length - m := List.length_drop
 refine ⟨_, c - m, by rw [hl], by rw [hl]; omega, ?_⟩
 rcases hcase with rfl | ⟨g, o, rfl, hg, hok, hcell⟩
 · exact .inl (by simp)
 · have hadd : (⟨g, o, none⟩ : Addr).add (m * k) = ⟨g, o + m * k, none⟩ := by unfold Addr.add; split <;> simp_all
   refine .inr ⟨g, o + m * k, by simp only [Option.map_some, hadd], hg, hok, fun j y hj => ?_⟩
   rw [List.getElem?_drop] at hj
   have := hcell (m + j) y hj
   rwa [Nat.add_mul, <- Nat.add_assoc] at this
end
section
open Go.RowKit
attribute [local go_sem ↓] Go.wp_at_zero Go.wp_at_succ
theorem AttrsE.ins {w : World} {C : Nat} {u : Value} {xs : List EnS.At} {Ts : List TypeId} (h : AttrsE Ts C w u xs) : AttrsIn w u xs :=
 SliceP.imp h (Nat.le_refl _) (fun _ _ h => h) fun _ _ _ _ _ hx => by obtain ⟨h1, u, h2, h3⟩ := hx; exact ⟨h1, u, h2, h3.any⟩
end
section
open Go.RowKit
structure FKeep (xs : List EnS.At) (w : World) (b : Nat) (name : List UInt8) (u : Value) (wr : World) : Prop where
 env : Env wr
 whole : Whole wr b 56 #[.string ⟨name.toArray⟩, u]
 attrs : AttrsIn wr u xs
 below : Below w.heap.size w wr
theorem FKeep.call {xs : List EnS.At} {w : World} {b : Nat} {name : List UInt8} {u : Value} {w1 w2 : World} (h : FKeep xs w b name u w1) (hb : Below w1.heap.size w1 w2) : FKeep xs w b name u w2 :=
 ⟨h.env.below hb, h.whole.call hb, h.attrs.call hb, below_trans h.below hb⟩
end
section
open Go.RowKit
def FitE (xs : List EnS.En) : Prop := xs.length <= 1048576 /\ ∀ x ∈ xs, x.name.length <= 1000000 /\ FitA x.attrs
def StepRet (r : List UInt8 × Bool × Int) (w : World) (e : Ending) (w' : World) : Prop := e = .returned (.tuple #[.string ⟨r.1.toArray⟩, .bool r.2.1, .int .i64 r.2.2]) /\ Below w.heap.size w w'
theorem StepRet.mk' {r q : List UInt8 × Bool × Int} {w w' : World} (h : r = q) (hb : Below w.heap.size w w') : StepRet r w (.returned (.tuple #[.string ⟨q.1.toArray⟩, .bool q.2.1, .int .i64 q.2.2])) w' := by subst h; exact ⟨rfl, hb⟩
end
section
open Go.RowKit
theorem cost_fit {xs : List EnS.En} (h : EnS.sumBy EnS.cE xs <= 3000) : FitE xs := by
 refine ⟨Nat.le_trans (cost_len xs) (by omega), fun x hx => ?_⟩
 have h1 := EnS.sumBy_mem (f := EnS.cE) hx
 have h2 : EnS.cE x = 1 + x.name.length / 100 + EnS.sumBy EnS.cA x.attrs := rfl
 refine ⟨by omega, Nat.le_trans (cost_attrs x.attrs) (by omega), fun y hy => ?_⟩
 have h3 := EnS.sumBy_mem (f := EnS.cA) hy
 have h4 : EnS.cA y = 1 + y.vals.length + EnS.sumBy EnS.cV y.vals := rfl
 refine ⟨by omega, fun v hv => ?_⟩
 have h5 := EnS.sumBy_mem (f := EnS.cV) hv
 have h6 : EnS.cV v = v.length / 100 := rfl
 omega
end
section
namespace EnS
open Go.Lib DnS
theorem sum_vals : ∀ ys : List At, sumBy (fun a => a.vals.length) ys <= sumBy cA ys
 | [] => Nat.le_refl _
 | a :: r => by
  have := sum_vals r
  show a.vals.length + sumBy (fun a => a.vals.length) r <= cA a + sumBy cA r
  have h2 : a.vals.length <= cA a := by unfold cA; omega
  omega
end EnS
open Go.RowKit
attribute [local go_sem ↓] Go.wp_at_zero Go.wp_at_succ
theorem ens_one {w : World} {name : List UInt8} {u : Value} {ys : List EnS.At} (h : AttrsIn w u ys) : EnsIn (w.alloc (.cells #[.string ⟨name.toArray⟩, u] 56)) (.slice (some ⟨w.heap.size, 0, none⟩) 1 1) [⟨name, ys⟩] := by
 have hw := Whole.made w 56 #[.string ⟨name.toArray⟩, u]
 refine ⟨some ⟨w.heap.size, 0, none⟩, 1, rfl, by simp, .inr ⟨w.heap.size, 0, rfl, hw.lt, trivial, fun j y hj => ?_⟩⟩
 cases j with
 | zero =>
  simp only [List.getElem?_cons_zero, Option.some.injEq] at hj
  subst hj
  exact ⟨hw.cell 0, u, hw.cell 1, h.call (grow1 w _)⟩
 | succ j => simp at hj
end
end Go.Proofs.YtjmfknfponjgkaaGreatDoor
