/- Rows of the call's own whose elements have k cells each and hold slices themselves: what they hold lies outside the row. Conditions: as stated. -/
import Derived.Lib.OwnKind
import Derived.Deep.Onto
import Derived.Maps.AppendAt
import Derived.Test.YtjmfknfponjgkaaGreatDoorJAva
import Derived.Test.YtjmfknfponjgkaaGreatDoorJFiS
namespace Go.Proofs.YtjmfknfponjgkaaGreatDoor
section
open Go.RowKit
structure RLay (α : Type) where
 k : Nat
 pos : 0 < k
 El : (Nat -> Prop) -> World -> List Value -> α -> Prop
 keep : ∀ {ok ok' : Nat -> Prop} {w w' : World} {cs : List Value} {x : α}, El ok w cs x -> w.heap.size <= w'.heap.size -> (∀ g, g < w.heap.size -> ok g -> w'.heap[g]? = w.heap[g]?) -> (∀ g, g < w.heap.size -> ok g -> ok' g) -> El ok' w' cs x
 len : ∀ {ok : Nat -> Prop} {w : World} {cs : List Value} {x : α}, El ok w cs x -> cs.length = k
 one : ∀ {ok : Nat -> Prop} {w : World} {cs : List Value} {x : α}, El ok w cs x -> ∀ u ∈ cs, u.oneCell' = true
def AtG {α : Type} (L : RLay α) (ok : Nat -> Prop) (w : World) (g o : Nat) (x : α) : Prop := ∃ cs, (∀ (j : Nat) (u : Value), cs[j]? = some u -> w.cell? ⟨g, o + j, none⟩ = some u) /\ L.El ok w cs x
theorem AtG.keep {α : Type} {L : RLay α} {ok ok' : Nat -> Prop} {w w' : World} {g o : Nat} {x : α} (h : AtG L ok w g o x) (hg : w'.heap[g]? = w.heap[g]?) (hs : w.heap.size <= w'.heap.size) (hb : ∀ g, g < w.heap.size -> ok g -> w'.heap[g]? = w.heap[g]?) (hk : ∀ g, g < w.heap.size -> ok g -> ok' g) : AtG L ok' w' g o x := by
 obtain ⟨cs, h1, h2⟩ := h
 exact ⟨cs, fun j u hj => (World.cell?_of_block (a := ⟨g, o + j, none⟩) hg).trans (h1 j u hj), L.keep h2 hs hb hk⟩
def RowG {α : Type} (L : RLay α) (rok ok : Nat -> Prop) (w : World) (v : Value) (xs : List α) : Prop := SliceP L.k (AtG L ok) rok w v xs
theorem RowG.keep {α : Type} {L : RLay α} {rok rok' ok ok' : Nat -> Prop} {w w' : World} {v : Value} {xs : List α} (h : RowG L rok ok w v xs) (hs : w.heap.size <= w'.heap.size) (hr : ∀ g, g < w.heap.size -> rok g -> w'.heap[g]? = w.heap[g]?) (hr2 : ∀ g, g < w.heap.size -> rok g -> rok' g)
  (hb : ∀ g, g < w.heap.size -> ok g -> w'.heap[g]? = w.heap[g]?) (hk : ∀ g, g < w.heap.size -> ok g -> ok' g) : RowG L rok' ok' w' v xs :=
 SliceP.imp h hs hr2 fun g _ _ hg hok hx => hx.keep (hr g hg hok) hs hb hk
theorem flat_at {k : Nat} : ∀ {css : List (List Value)}, (∀ cs ∈ css, cs.length = k) -> ∀ (i j : Nat) (cs : List Value) (u : Value), css[i]? = some cs -> cs[j]? = some u -> css.flatten[i * k + j]? = some u
 | [], _, i, j, cs, u, h, _ => by simp at h
 | c :: css, hl, 0, j, cs, u, h, hj => by
  simp only [List.getElem?_cons_zero, Option.some.injEq] at h
  subst h
  have hlt := (List.getElem?_eq_some_iff.1 hj).1
  rw [List.flatten_cons, Nat.zero_mul, Nat.zero_add, List.getElem?_append_left hlt]
  exact hj
 | c :: css, hl, i + 1, j, cs, u, h, hj => by
  have h1 := hl c (List.mem_cons_self ..)
  have ih := flat_at (fun d hd => hl d (List.mem_cons_of_mem _ hd)) i j cs u (by simpa using h) hj
  have e : (i + 1) * k + j = c.length + (i * k + j) := by rw [h1, Nat.succ_mul]; omega
  rw [List.flatten_cons, e, List.getElem?_append_right (by omega), Nat.add_sub_cancel_left]
  exact ih
theorem flat_len {k : Nat} : ∀ {css : List (List Value)}, (∀ cs ∈ css, cs.length = k) -> css.flatten.length = css.length * k
 | [], _ => by simp
 | c :: css, hl => by
  rw [List.flatten_cons, List.length_append, hl c (List.mem_cons_self ..), flat_len (fun d hd => hl d (List.mem_cons_of_mem _ hd)), List.length_cons, Nat.succ_mul, Nat.add_comm]
def OwnG {α : Type} (L : RLay α) (T : TypeId) (P : Nat -> Prop) (w : World) (B : Nat) (v : Value) (xs : List α) : Prop :=
 ∃ css : List (List Value), w.ownsRow B T L.k v xs.length css.flatten /\ css.length = xs.length /\ ∀ (i : Nat) (cs : List Value) (x : α), css[i]? = some cs -> xs[i]? = some x -> L.El (fun g => P g /\ v.ownBlock ≠ some g) w cs x
theorem OwnG.empty {α : Type} (L : RLay α) (T : TypeId) (P : Nat -> Prop) (w : World) (B : Nat) : OwnG L T P w B (.slice none 0 0) [] := ⟨[], World.ownsRow_nil w B _ _, rfl, fun i cs x h => by simp at h⟩
theorem OwnG.form {α : Type} {L : RLay α} {T : TypeId} {P : Nat -> Prop} {w : World} {B : Nat} {v : Value} {xs : List α} (h : OwnG L T P w B v xs) : ∃ a c, v = .slice a xs.length c := by
 obtain ⟨us, h, _⟩ := h
 rcases h.2 with ⟨rfl, hn⟩ | ⟨g, cap, cur, rfl, _⟩
 · exact ⟨_, _, by rw [hn]⟩
 · exact ⟨_, _, rfl⟩
theorem OwnG.call {α : Type} {L : RLay α} {T : TypeId} {P : Nat -> Prop} {w w' : World} {B : Nat} {v : Value} {xs : List α} (h : OwnG L T P w B v xs) (hb : Below w.heap.size w w') : OwnG L T P w' B v xs := by
 obtain ⟨us, h1, h2, h3⟩ := h
 exact ⟨us, World.ownsRow.kept h1 (grown_none hb) (by cases v.ownBlock <;> simp), h2, fun i u l a b => L.keep (h3 i u l a b) hb.size (fun g hg _ => hb.block g hg) (fun g _ h => h)⟩
theorem OwnG.mono {α : Type} {L : RLay α} {T : TypeId} {P : Nat -> Prop} {w : World} {B B' : Nat} {v : Value} {xs : List α} (h : OwnG L T P w B v xs) (hB : B' <= B) : OwnG L T P w B' v xs := by
 obtain ⟨us, h1, h2, h3⟩ := h
 exact ⟨us, World.ownsRow.mono h1 hB, h2, h3⟩
theorem OwnG.lens {α : Type} {L : RLay α} {ok : Nat -> Prop} {w : World} {css : List (List Value)} {xs : List α} (h2 : css.length = xs.length) (h3 : ∀ (i : Nat) (cs : List Value) (x : α), css[i]? = some cs -> xs[i]? = some x -> L.El ok w cs x) : ∀ cs ∈ css, cs.length = L.k := fun cs hcs => by
 obtain ⟨i, hi, rfl⟩ := List.mem_iff_getElem.1 hcs
 exact L.len (h3 i _ _ (List.getElem?_eq_getElem hi) (List.getElem?_eq_getElem (show i < xs.length by omega)))
theorem OwnG.read {α : Type} {L : RLay α} {T : TypeId} {P : Nat -> Prop} {w : World} {B : Nat} {v : Value} {xs : List α} (h : OwnG L T P w B v xs) (rok : Nat -> Prop) (hrow : ∀ g, B <= g -> rok g) : RowG L rok P w v xs := by
 obtain ⟨css, h1, h2, h3⟩ := h
 have hl := OwnG.lens h2 h3
 rcases h1.2 with ⟨rfl, hn⟩ | ⟨g, cap, cur, rfl, hg, hh, hn, hm, hsz, htk⟩
 · exact ⟨none, 0, by rw [hn], by omega, .inl (List.eq_nil_of_length_eq_zero hn)⟩
 · refine ⟨some ⟨g, 0, none⟩, cap, rfl, hn, .inr ⟨g, 0, rfl, (Array.getElem?_eq_some_iff.1 hh).1, hrow g hg, fun j x hj => ?_⟩⟩
   have hlt : j < css.length := by rw [h2]; exact (List.getElem?_eq_some_iff.1 hj).1
   have hu := List.getElem?_eq_getElem hlt
   refine ⟨css[j], fun i u hi => ?_, L.keep (h3 j _ x hu hj) (Nat.le_refl _) (fun _ _ _ => rfl) (fun g _ h => h.1)⟩
   have c0 := World.ownsRow.cells h1 (g := g) rfl (j * L.k + i) u (flat_at hl j i _ u hu hi)
   have hadd : ∀ i, (⟨g, 0, none⟩ : Addr).add i = ⟨g, 0 + i, none⟩ := fun i => by unfold Addr.add; split <;> simp_all
   rw [hadd] at c0
   rw [Nat.add_assoc]
   exact c0
theorem OwnG.block {α : Type} {L : RLay α} {T : TypeId} {P : Nat -> Prop} {w : World} {B : Nat} {v : Value} {xs : List α} (h : OwnG L T P w B v xs) {g : Nat} (hg : v.ownBlock = some g) : B <= g /\ g < w.heap.size := by
 obtain ⟨us, h1, _⟩ := h
 exact World.ownsRow.lt h1 g hg
theorem rows_of {α : Type} {L : RLay α} {ok : Nat -> Prop} {w : World} {xs : List α} {g o : Nat} (h : ∀ (j : Nat) (x : α), xs[j]? = some x -> AtG L ok w g (o + j * L.k) x) :
  ∃ css : List (List Value), css.length = xs.length /\ (∀ (i : Nat) (cs : List Value) (x : α), css[i]? = some cs -> xs[i]? = some x -> L.El ok w cs x) /\ (∀ (j : Nat) (u : Value), css.flatten[j]? = some u -> w.cell? ⟨g, o + j, none⟩ = some u) /\ ∀ u ∈ css.flatten, u.oneCell' = true := by
 induction xs generalizing o with
 | nil => exact ⟨[], rfl, fun i cs x h => by simp at h, fun j u h => by simp at h, fun u h => by simp at h⟩
 | cons x xs ih =>
  obtain ⟨css, k1, k2, k3, k4⟩ := ih (o := o + L.k) (fun j y hj => by
   have := h (j + 1) y (by simpa using hj)
   have e : o + (j + 1) * L.k = o + L.k + j * L.k := by rw [Nat.succ_mul]; omega
   rw [e] at this; exact this)
  obtain ⟨cs, c1, c2⟩ := h 0 x rfl
  have hl := L.len c2
  refine ⟨cs :: css, by simp [k1], fun i ds y hi hy => ?_, fun j u hj => ?_, fun u hu => ?_⟩
  · cases i with
    | zero =>
     simp only [List.getElem?_cons_zero, Option.some.injEq] at hi hy
     subst hi; subst hy
     exact c2
    | succ i => exact k2 i ds y (by simpa using hi) (by simpa using hy)
  · rw [List.flatten_cons] at hj
    by_cases hlt : j < cs.length
    · rw [List.getElem?_append_left hlt] at hj
      have := c1 j u hj
      rw [Nat.zero_mul, Nat.add_zero] at this
      exact this
    · rw [List.getElem?_append_right (by omega)] at hj
      have := k3 _ u hj
      have e : o + L.k + (j - cs.length) = o + j := by omega
      rw [e] at this
      exact this
  · rw [List.flatten_cons] at hu
    rcases List.mem_append.1 hu with hu | hu
    · exact L.one c2 u hu
    · exact k4 u hu
theorem OwnG.grows {α : Type} {L : RLay α} {T : TypeId} {P : Nat -> Prop} {w w' : World} {B : Nat} {v v' : Value} {xs ys : List α} {css dss : List (List Value)} (h2 : css.length = xs.length)
  (h3 : ∀ (i : Nat) (cs : List Value) (x : α), css[i]? = some cs -> xs[i]? = some x -> L.El (fun g => P g /\ v.ownBlock ≠ some g) w cs x) (k2 : dss.length = ys.length) (k3 : ∀ (i : Nat) (cs : List Value) (x : α), dss[i]? = some cs -> ys[i]? = some x -> L.El (fun g => P g /\ v.ownBlock ≠ some g) w cs x)
  (h4 : w'.ownsRow B T L.k v' (xs.length + ys.length) (css.flatten ++ dss.flatten)) (hg : w.grownBy w' v.ownBlock) (hat : v'.ownBlock = v.ownBlock \/ v'.ownBlock = some w.heap.size) : OwnG L T P w' B v' (xs ++ ys) := by
 have hkeep : ∀ {cs : List Value} {x : α}, L.El (fun g => P g /\ v.ownBlock ≠ some g) w cs x -> L.El (fun g => P g /\ v'.ownBlock ≠ some g) w' cs x := fun h => L.keep h hg.size (fun g hlt hok => hg.block g hlt (fun e => hok.2 e.symm)) (fun g hlt hok => ⟨hok.1, fun e => by
  rcases hat with hat | hat
  · exact hok.2 (hat ▸ e)
  · rw [hat] at e; cases e; omega⟩)
 refine ⟨css ++ dss, by rw [List.flatten_append, List.length_append]; exact h4, by simp [h2, k2], fun i z y hi hy => ?_⟩
 by_cases hlt : i < css.length
 · rw [List.getElem?_append_left hlt] at hi
   rw [List.getElem?_append_left (by omega)] at hy
   exact hkeep (h3 i z y hi hy)
 · rw [List.getElem?_append_right (by omega)] at hi
   rw [List.getElem?_append_right (by omega), <- h2] at hy
   exact hkeep (k3 _ z y hi hy)
theorem run_append_g {α : Type} (L : RLay α) {w : World} (T sT ty : TypeId) (hsT : Tryz.prog.underlying sT = some (.slice T)) {i0 : TypeInfo} {z : Value}
  (hi : Tryz.prog.info? T = some i0) (hz : i0.zero = some z) (hsz : i0.size = L.k) (hby : i0.bytes <= 140) (hzc : z.cells.size = L.k) (P : Nat -> Prop) (B : Nat) (v : Value) (xs : List α) (hown : OwnG L T P w B v xs) (u : Value) (ys : List α)
  {rok : Nat -> Prop} (hin : RowG L rok (fun g => P g /\ v.ownBlock ≠ some g) w u ys) (hn : xs.length + ys.length <= 1000000000) (hB : B <= w.heap.size) :
  ∃ v' w', (Builtin.append_ #[sT, sT] ty #[v, u]).run Tryz.prog w = .ok v' w' /\ OwnG L T P w' B v' (xs ++ ys) /\ Below B w w' /\ w.grownBy w' v.ownBlock /\ (v'.ownBlock = v.ownBlock \/ v'.ownBlock = some w.heap.size) := by
 obtain ⟨A, c, rfl, hc, hcase⟩ := hin
 obtain ⟨css, h1, h2, h3⟩ := hown
 have hbm : (xs.length + ys.length) * i0.bytes <= 140737488355328 := Nat.le_trans (Nat.mul_le_mul hn hby) (by decide)
 have hu := run_underlying hsT
 cases A with
 | none =>
  rcases hcase with rfl | ⟨g, o, e, _⟩
  · refine ⟨v, w, ?_, by rw [List.append_nil]; exact ⟨css, h1, h2, h3⟩, Below.refl B w, ⟨rfl, rfl, rfl, Nat.le_refl _, fun _ _ _ => rfl⟩, .inl rfl⟩
    rcases h1.2 with ⟨rfl, hn0⟩ | ⟨g, cap, cur, rfl, _, _, hnc, _⟩
    · simp [Builtin.append_, hu, sizeOf, typeInfo, hi, Builtin.lenOf, Builtin.firstCells]
    · simp [Builtin.append_, hu, sizeOf, typeInfo, hi, Builtin.lenOf, Builtin.firstCells, hnc, storeCells]
  · cases e
 | some ad =>
  rcases hcase with rfl | ⟨g, o2, e, hg, _, hcell⟩
  · obtain ⟨v', w', hr, k1, k2, _, k4⟩ := run_append_own_at (P := Tryz.prog) w B sT ty T i0 z L.k i0.bytes hsT hi hz hsz rfl hzc L.pos v xs.length _ h1 ad 0 c [] (by simp) (fun j u hj => by simp at hj) (fun u hu => by cases hu) (by simp at hn; unfold maxLen; omega) (by simpa using hbm) hB
    exact ⟨v', w', hr, OwnG.grows (ys := []) (dss := []) h2 h3 rfl (fun i cs x h => by simp at h) (by simpa using k1) k2 k4, (Below.refl B w).grown k2 hB (fun k hk => (World.ownsRow.lt h1 k hk).1), k2, k4⟩
  · cases e
    obtain ⟨dss, d1, d2, d3, d4⟩ := rows_of hcell
    obtain ⟨v', w', hr, k1, k2, _, k4⟩ := run_append_own_at (P := Tryz.prog) w B sT ty T i0 z L.k i0.bytes hsT hi hz hsz rfl hzc L.pos v xs.length _ h1 ⟨g, o2, none⟩ ys.length c dss.flatten (by rw [flat_len (OwnG.lens d1 d2), d1])
     (fun j u hj => by
       have hadd : (⟨g, o2, none⟩ : Addr).add j = ⟨g, o2 + j, none⟩ := by unfold Addr.add; split <;> simp_all
       rw [hadd]
       exact d3 j u hj) d4 (by unfold maxLen; omega) hbm hB
    exact ⟨v', w', hr, OwnG.grows h2 h3 d1 d2 k1 k2 k4, (Below.refl B w).grown k2 hB (fun k hk => (World.ownsRow.lt h1 k hk).1), k2, k4⟩
theorem wp_g {α : Type} (L : RLay α) {w : World} {o : Oper} {a : Act} {K : Act -> World -> Prop} {Q : Exit -> Act -> World -> Prop} (T sT : TypeId) (hsT : Tryz.prog.underlying sT = some (.slice T)) {i0 : TypeInfo} {z : Value}
  (hi : Tryz.prog.info? T = some i0) (hz : i0.zero = some z) (hsz : i0.size = L.k) (hby : i0.bytes <= 140) (hzc : z.cells.size = L.k) (s x : Operand)
  (ho : o.op = .call { callee := .builtin .append, args := #[s, x], argTypes := #[sT, sT] })
  (P : Nat -> Prop) (B : Nat) (v : Value) (xs : List α) (hs : a.eval s = v) (hown : OwnG L T P w B v xs) (u : Value) (ys : List α) (hx : a.eval x = u)
  {rok : Nat -> Prop} (hin : RowG L rok (fun g => P g /\ v.ownBlock ≠ some g) w u ys) (hn : xs.length + ys.length <= 1000000000) (hB : B <= w.heap.size)
  (h : ∀ v' w', OwnG L T P w' B v' (xs ++ ys) -> Below B w w' -> w.grownBy w' v.ownBlock -> (v'.ownBlock = v.ownBlock \/ v'.ownBlock = some w.heap.size) -> K (a.put o.dst v') w') : Oper.wp Tryz.prog o a w K Q := by
 obtain ⟨v', w', hr, h1, h2, h3, h4⟩ := run_append_g L T sT o.type hsT hi hz hsz hby hzc P B v xs hown u ys hin hn hB
 unfold Oper.wp execOp
 simp only [ho, resolve, invoke, builtin, Sem.run_bind, Sem.run_pure, Result.andThen_ok, List.map_toArray, List.map_cons, List.map_nil, hs, hx, hr]
 exact h v' w' h1 h2 h3 h4
theorem push_g {α : Type} (L : RLay α) {w : World} {ops : Array Oper} {rest : List Oper} {o : Oper} {a : Act} {Q : Exit -> Act -> World -> Prop} (T sT : TypeId) (hsT : Tryz.prog.underlying sT = some (.slice T)) {i0 : TypeInfo} {z : Value}
  (hi : Tryz.prog.info? T = some i0) (hz : i0.zero = some z) (hsz : i0.size = L.k) (hby : i0.bytes <= 140) (hzc : z.cells.size = L.k) (hgd : o.guard = none) (s x : Operand)
  (ho : o.op = .call { callee := .builtin .append, args := #[s, x], argTypes := #[sT, sT] })
  (P : Nat -> Prop) (B : Nat) (v : Value) (xs : List α) (hs : a.eval s = v) (hown : OwnG L T P w B v xs) (u : Value) (ys : List α) (hx : a.eval x = u)
  {rok : Nat -> Prop} (hin : RowG L rok (fun g => P g /\ v.ownBlock ≠ some g) w u ys) (hn : xs.length + ys.length <= 1000000000) (hB : B <= w.heap.size)
  (h : ∀ v' w', OwnG L T P w' B v' (xs ++ ys) -> Below B w w' -> w.grownBy w' v.ownBlock -> (v'.ownBlock = v.ownBlock \/ v'.ownBlock = some w.heap.size) -> wpList Tryz.prog ops Q rest (a.put o.dst v') w') : wpList Tryz.prog ops Q (o :: rest) a w :=
 wpList_plain hgd fun _ hK => wp_g L T sT hsT hi hz hsz hby hzc s x ho P B v xs hs hown u ys hx hin hn hB fun v' w' h1 h2 h3 h4 => hK _ _ (h v' w' h1 h2 h3 h4)
end
section
open Go.RowKit
open FiS (Fi)
def FiAt : Nat -> (Nat -> Prop) -> World -> Nat -> Nat -> Fi -> Prop
 | 0, _, _, _, _, _ => False
 | n + 1, ok, w, g, o, x => ∃ ua up, (w.cell? ⟨g, o, none⟩ = some (.int .i64 x.kind) /\ w.cell? ⟨g, o + 1, none⟩ = some (strV x.attr) /\ w.cell? ⟨g, o + 2, none⟩ = some (strV x.value) /\ w.cell? ⟨g, o + 3, none⟩ = some (strV x.first) /\ w.cell? ⟨g, o + 4, none⟩ = some (strV x.last) /\ w.cell? ⟨g, o + 5, none⟩ = some ua /\ w.cell? ⟨g, o + 6, none⟩ = some up) /\ StrsP ok w ua x.any /\ SliceP 7 (FiAt n ok) ok w up x.parts
def FisP (n : Nat) (ok : Nat -> Prop) (w : World) (v : Value) (xs : List Fi) : Prop := SliceP 7 (FiAt n ok) ok w v xs
theorem FiAt.keep {ok ok' : Nat -> Prop} {w w' : World} (hs : w.heap.size <= w'.heap.size) (hb : ∀ g, g < w.heap.size -> ok g -> w'.heap[g]? = w.heap[g]?) (hk : ∀ g, g < w.heap.size -> ok g -> ok' g) :
  ∀ {n : Nat} {g o : Nat} {x : Fi}, FiAt n ok w g o x -> w'.heap[g]? = w.heap[g]? -> FiAt n ok' w' g o x := by
 intro n
 induction n with
 | zero => intro g o x h _; cases h
 | succ n ih =>
  intro g o x h hg
  obtain ⟨ua, up, ⟨h0, h1, h2, h3, h4, h5, h6⟩, ha, hp⟩ := h
  have hc := fun i => World.cell?_of_block (a := ⟨g, i, none⟩) hg
  exact ⟨ua, up, ⟨(hc _).trans h0, (hc _).trans h1, (hc _).trans h2, (hc _).trans h3, (hc _).trans h4, (hc _).trans h5, (hc _).trans h6⟩, StrsP.keep ha hs hb hk, SliceP.imp hp hs hk fun g o x hg hok hx => ih hx (hb g hg hok)⟩
theorem FisP.keep {n : Nat} {ok ok' : Nat -> Prop} {w w' : World} {v : Value} {xs : List Fi} (h : FisP n ok w v xs) (hs : w.heap.size <= w'.heap.size) (hb : ∀ g, g < w.heap.size -> ok g -> w'.heap[g]? = w.heap[g]?) (hk : ∀ g, g < w.heap.size -> ok g -> ok' g) : FisP n ok' w' v xs :=
 SliceP.imp h hs hk fun g _ _ hg hok hx => FiAt.keep hs hb hk hx (hb g hg hok)
theorem FisP.call {n : Nat} {ok : Nat -> Prop} {w w' : World} {v : Value} {xs : List Fi} (h : FisP n ok w v xs) (hb : Below w.heap.size w w') : FisP n ok w' v xs := h.keep hb.size (fun g hg _ => hb.block g hg) (fun _ _ h => h)
theorem FiAt.mono {n : Nat} : ∀ {m : Nat} {ok : Nat -> Prop} {w : World} {g o : Nat} {x : Fi}, FiAt m ok w g o x -> FiAt (m + n) ok w g o x := by
 intro m
 induction m with
 | zero => intro ok w g o x h; cases h
 | succ m ih =>
  intro ok w g o x h
  rw [Nat.succ_add]
  obtain ⟨ua, up, hc, ha, hp⟩ := h
  exact ⟨ua, up, hc, ha, SliceP.imp hp (Nat.le_refl _) (fun _ _ h => h) fun _ _ _ _ _ hx => ih hx⟩
theorem FisP.mono {n m : Nat} (hnm : m <= n) {ok : Nat -> Prop} {w : World} {v : Value} {xs : List Fi} (h : FisP m ok w v xs) : FisP n ok w v xs := by
 obtain ⟨d, rfl⟩ : ∃ d, n = m + d := ⟨n - m, by omega⟩
 exact SliceP.imp h (Nat.le_refl _) (fun _ _ h => h) fun _ _ _ _ _ hx => FiAt.mono hx
def FiV (n : Nat) (ok : Nat -> Prop) (w : World) (v : Value) (x : Fi) : Prop := ∃ ua up, v = .agg #[.int .i64 x.kind, .string ⟨x.attr.toArray⟩, .string ⟨x.value.toArray⟩, .string ⟨x.first.toArray⟩, .string ⟨x.last.toArray⟩, ua, up] /\ StrsP ok w ua x.any /\ FisP n ok w up x.parts
theorem FiV.keep {n : Nat} {ok ok' : Nat -> Prop} {w w' : World} {v : Value} {x : Fi} (h : FiV n ok w v x) (hs : w.heap.size <= w'.heap.size) (hb : ∀ g, g < w.heap.size -> ok g -> w'.heap[g]? = w.heap[g]?) (hk : ∀ g, g < w.heap.size -> ok g -> ok' g) : FiV n ok' w' v x := by
 obtain ⟨ua, up, rfl, h1, h2⟩ := h
 exact ⟨ua, up, rfl, h1.keep hs hb hk, h2.keep hs hb hk⟩
theorem FiV.call {n : Nat} {ok : Nat -> Prop} {w w' : World} {v : Value} {x : Fi} (h : FiV n ok w v x) (hb : Below w.heap.size w w') : FiV n ok w' v x := h.keep hb.size (fun g hg _ => hb.block g hg) (fun _ _ h => h)
abbrev FiIn (n : Nat) : World -> Value -> Fi -> Prop := FiV n (fun _ => True)
theorem FiV.ins {n : Nat} {ok : Nat -> Prop} {w : World} {v : Value} {x : Fi} (h : FiV n ok w v x) : FiIn n w v x := h.keep (Nat.le_refl _) (fun _ _ _ => rfl) (fun _ _ _ => trivial)
theorem FiV.parts {n : Nat} {w : World} {v : Value} {x : Fi} (h : FiIn n w v x) : ∃ a5 c5 a6 c6, v = .agg #[.int .i64 x.kind, .string ⟨x.attr.toArray⟩, .string ⟨x.value.toArray⟩, .string ⟨x.first.toArray⟩, .string ⟨x.last.toArray⟩, .slice a5 x.any.length c5, .slice a6 x.parts.length c6] /\ StrsIn w (.slice a5 x.any.length c5) x.any /\ x.parts.length <= c6 /\ FisP n (fun _ => True) w (.slice a6 x.parts.length c6) x.parts := by
 obtain ⟨ua, up, rfl, h1, h2⟩ := h
 obtain ⟨a5, c5, rfl, _⟩ := SliceP.form h1
 obtain ⟨a6, c6, rfl, hc⟩ := SliceP.form h2
 exact ⟨a5, c5, a6, c6, rfl, h1.strs, hc, h2⟩
theorem FisP.at {n : Nat} {w : World} {a : Option Addr} {m c : Nat} {xs : List Fi} (h : FisP n (fun _ => True) w (.slice a m c) xs) : ∀ j (hj : j < xs.length), ∃ d, n = d + 1 /\ ∃ g o, a = some ⟨g, o, none⟩ /\ g < w.heap.size /\ ∃ a5 c5 a6 c6, FiIn d w (.agg #[.int .i64 (xs[j]'hj).kind, .string ⟨(xs[j]'hj).attr.toArray⟩, .string ⟨(xs[j]'hj).value.toArray⟩, .string ⟨(xs[j]'hj).first.toArray⟩, .string ⟨(xs[j]'hj).last.toArray⟩, .slice a5 (xs[j]'hj).any.length c5, .slice a6 (xs[j]'hj).parts.length c6]) (xs[j]'hj) /\
  w.cell? ⟨g, o + j * 7, none⟩ = some (.int .i64 (xs[j]'hj).kind) /\ w.cell? ⟨g, o + j * 7 + 1, none⟩ = some (.string ⟨(xs[j]'hj).attr.toArray⟩) /\ w.cell? ⟨g, o + j * 7 + 2, none⟩ = some (.string ⟨(xs[j]'hj).value.toArray⟩) /\ w.cell? ⟨g, o + j * 7 + 3, none⟩ = some (.string ⟨(xs[j]'hj).first.toArray⟩) /\ w.cell? ⟨g, o + j * 7 + 4, none⟩ = some (.string ⟨(xs[j]'hj).last.toArray⟩) /\
  w.cell? ⟨g, o + j * 7 + 5, none⟩ = some (.slice a5 (xs[j]'hj).any.length c5) /\ w.cell? ⟨g, o + j * 7 + 6, none⟩ = some (.slice a6 (xs[j]'hj).parts.length c6) := by
 intro j hj
 obtain ⟨a', c', e, hc, hat⟩ := SliceP.at h
 injection e with e1 e2 e3
 subst e1
 obtain ⟨g, o, ha, hg, _, hx⟩ := hat j hj
 generalize xs[j] = x at *
 cases n with
 | zero => cases hx
 | succ d =>
  obtain ⟨ua, up, ⟨h0, h1, h2, h3, h4, h5, h6⟩, hs, hp⟩ := hx
  have hs' := hs
  have hp' := hp
  obtain ⟨a5, c5, rfl, _⟩ := SliceP.form hs
  obtain ⟨a6, c6, rfl, _⟩ := SliceP.form hp
  exact ⟨d, rfl, g, o, ha, hg, a5, c5, a6, c6, ⟨_, _, rfl, hs', hp'⟩, h0, h1, h2, h3, h4, h5, h6⟩
theorem Whole.seven {w : World} {g : Nat} {t : TypeId} {a0 a1 a2 a3 a4 a5 a6 : Value} (h : Whole w g t #[a0, a1, a2, a3, a4, a5, a6]) : w.cell? ⟨g, 0, none⟩ = some a0 /\ w.cell? ⟨g, 1, none⟩ = some a1 /\ w.cell? ⟨g, 2, none⟩ = some a2 /\ w.cell? ⟨g, 3, none⟩ = some a3 /\ w.cell? ⟨g, 4, none⟩ = some a4 /\ w.cell? ⟨g, 5, none⟩ = some a5 /\ w.cell? ⟨g, 6, none⟩ = some a6 :=
 ⟨h.cell 0, h.cell 1, h.cell 2, h.cell 3, h.cell 4, h.cell 5, h.cell 6⟩
theorem deep_ind {P : Nat -> Prop} (h : ∀ n, (∀ m, n = m + 1 -> P m) -> P n) : ∀ n, P n := by
 intro n
 induction n with
 | zero => exact h 0 (fun m e => by omega)
 | succ n ih => exact h (n + 1) (fun m e => by cases e; exact ih)
end
end Go.Proofs.YtjmfknfponjgkaaGreatDoor
