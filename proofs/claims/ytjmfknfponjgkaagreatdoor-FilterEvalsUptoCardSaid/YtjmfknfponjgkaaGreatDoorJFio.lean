/- The walk of the program's leaf of a filter's text. Conditions: as stated. -/
import Derived.Test.YtjmfknfponjgkaaGreatDoorJFin
import Derived.Test.YtjmfknfponjgkaaGreatDoorJFia
import Derived.Test.YtjmfknfponjgkaaGreatDoorJFii
set_option maxRecDepth 100000
set_option maxHeartbeats 64000000
namespace Go.Proofs.YtjmfknfponjgkaaGreatDoor
namespace FiS
theorem signs_fin : ∀ n : Fin 256, decide (Lib.indexByte [61, 60, 62, 126] (UInt8.ofNat n.val) < 0) = !isSign (UInt8.ofNat n.val) := by decide +kernel
theorem signs_index (c : UInt8) : decide (Lib.indexByte [61, 60, 62, 126] c < 0) = !isSign c := by
 have h := signs_fin ⟨c.toNat, c.toNat_lt⟩
 rwa [show UInt8.ofNat c.toNat = c from UInt8.ofNat_toNat] at h
theorem sign_cut : ∀ {l : List UInt8} {k : Nat}, (∀ j (hj : j < l.length), j < k -> isSign (l[j]'hj) = false) -> k <= l.length -> (∀ h : k < l.length, isSign (l[k]'h) = true) -> l.takeWhile (fun c => !isSign c) = l.take k /\ l.dropWhile (fun c => !isSign c) = l.drop k
 | [], k, _, hk, _ => by
  have : k = 0 := by simpa using hk
  subst this
  exact ⟨rfl, rfl⟩
 | c :: r, 0, _, _, h2 => by
  have h : isSign c = true := h2 (by simp)
  rw [List.takeWhile_cons, List.dropWhile_cons, h]
  exact ⟨rfl, rfl⟩
 | c :: r, k + 1, h1, hk, h2 => by
  have h : isSign c = false := h1 0 (by simp) (by omega)
  obtain ⟨i1, i2⟩ := sign_cut (l := r) (k := k) (fun j hj hjk => h1 (j + 1) (by simpa using hj) (by omega)) (by simpa using hk) (fun hh => h2 (by simpa using hh))
  rw [List.takeWhile_cons, List.dropWhile_cons, h]
  simp [i1, i2]
def leafD (a d : List UInt8) : Option Fi :=
 if [62, 61].isPrefixOf d = true then (unescV (d.drop 2)).map (fun v => .mk 5 a v [] [] [] [])
 else if [60, 61].isPrefixOf d = true then (unescV (d.drop 2)).map (fun v => .mk 6 a v [] [] [] [])
 else if [126, 61].isPrefixOf d = true then (unescV (d.drop 2)).map (fun v => .mk 8 a v [] [] [] [])
 else if [61].isPrefixOf d = true then restS a (d.drop 1)
 else none
theorem leafD_is (l : List UInt8) : leafS l = leafD (l.takeWhile (fun c => !isSign c)) (l.dropWhile (fun c => !isSign c)) := rfl
theorem unescL_take : ∀ {ps ds : List (List UInt8)} {k : Nat} (hk : k < ps.length), unescL (ps.take k) = some ds -> unescL (ps.take (k + 1)) = (unescV (ps[k]'hk)).map (fun v => ds ++ [v])
 | [], _, k, hk, _ => by simp at hk
 | p :: r, ds, 0, _, h => by
  have hd : ds = [] := by simpa [unescL] using h.symm
  subst hd
  show unescL (p :: r.take 0) = _
  rw [unescL, List.take_zero]
  show _ = (unescV p).map _
  cases unescV p <;> simp [unescL]
 | p :: r, ds, k + 1, hk, h => by
  have h : unescL (p :: r.take k) = some ds := h
  show unescL (p :: r.take (k + 1)) = _
  rw [unescL] at h ⊢
  cases hp : unescV p with
  | none => rw [hp] at h; cases h
  | some v =>
   rw [hp] at h
   cases hr : unescL (r.take k) with
   | none => rw [hr] at h; cases h
   | some l =>
    rw [hr] at h
    have hds : ds = v :: l := by simpa using h.symm
    subst hds
    rw [unescL_take (ps := r) (by simpa using hk) hr]
    show _ = (unescV (r[k]'(by simpa using hk))).map _
    cases unescV (r[k]'(by simpa using hk)) <;> rfl
theorem unescL_no : ∀ {ps : List (List UInt8)} {k : Nat} (hk : k < ps.length), unescV (ps[k]'hk) = none -> unescL ps = none
 | [], k, hk, _ => by simp at hk
 | p :: r, 0, _, h => by rw [unescL, show unescV p = none from h]
 | p :: r, k + 1, hk, h => by
  rw [unescL, unescL_no (ps := r) (k := k) (by simpa using hk) h]
  cases unescV p <;> rfl
theorem unescL_len : ∀ {ps ds : List (List UInt8)}, unescL ps = some ds -> ds.length = ps.length
 | [], ds, h => by
  have : ds = [] := by simpa [unescL] using h.symm
  subst this; rfl
 | p :: r, ds, h => by
  rw [unescL] at h
  cases hp : unescV p with
  | none => rw [hp] at h; cases h
  | some v =>
   rw [hp] at h
   cases hr : unescL r with
   | none => rw [hr] at h; cases h
   | some l =>
    rw [hr] at h
    have hds : ds = v :: l := by simpa using h.symm
    subst hds
    simp [unescL_len hr]
theorem pieces_small (c : UInt8) : ∀ (l : List UInt8), ∀ p ∈ RuS.pieces c l, p.length <= l.length
 | [], p, h => by
  have : p = [] := by simpa [RuS.pieces] using h
  subst this; simp
 | b :: l, p, h => by
  have ih := pieces_small c l
  unfold RuS.pieces at h
  split at h
  · rcases List.mem_cons.1 h with rfl | h
    · simp
    · exact Nat.le_trans (ih p h) (by simp)
  · obtain ⟨q, r, hq⟩ := RuS.pieces_ne c l
    rw [hq] at h ih
    simp only at h
    rcases List.mem_cons.1 h with rfl | h
    · have := ih q (List.mem_cons_self ..)
      simp only [List.length_cons]; omega
    · exact Nat.le_trans (ih p (List.mem_cons_of_mem _ h)) (by simp)
theorem piecesF_many {a : List UInt8} {ds : List (List UInt8)} (h : 2 <= ds.length) : piecesF a ds = .mk 4 a [] (ds[0]'(by omega)) (ds[ds.length - 1]'(by omega)) ((ds.drop 1).dropLast) [] := by
 match ds, h with
 | x :: y :: r, h =>
  show Fi.mk 4 a [] _ _ _ [] = _
  rw [List.getLastD_eq_getLast?, List.getLast?_eq_getElem?, List.getElem?_eq_getElem (show (x :: y :: r).length - 1 < (x :: y :: r).length by simp)]
  rfl
end FiS
open Go.RowKit
open FiS (Fi)
attribute [local go_sem ↓] Go.wp_at_zero Go.wp_at_succ
def sev (w : World) (g : Nat) (v0 v1 v2 v3 v4 v5 v6 : Value) : World := ((((((w.setCell ⟨g, 0, none⟩ v0).setCell ⟨g, 1, none⟩ v1).setCell ⟨g, 2, none⟩ v2).setCell ⟨g, 3, none⟩ v3).setCell ⟨g, 4, none⟩ v4).setCell ⟨g, 5, none⟩ v5).setCell ⟨g, 6, none⟩ v6
theorem Whole.put7 {w : World} {g : Nat} {t : TypeId} {a0 a1 a2 a3 a4 a5 a6 : Value} (h : Whole w g t #[a0, a1, a2, a3, a4, a5, a6]) (v0 v1 v2 v3 v4 v5 v6 : Value) : Whole (sev w g v0 v1 v2 v3 v4 v5 v6) g t #[v0, v1, v2, v3, v4, v5, v6] := by
 have := ((((((h.put 0 v0).put 1 v1).put 2 v2).put 3 v3).put 4 v4).put 5 v5).put 6 v6
 simp only [List.setIfInBounds_toArray, List.set_cons_zero, List.set_cons_succ] at this
 unfold sev
 exact this
theorem Whole.other7 {w : World} {g g' : Nat} {t : TypeId} {cs : Array Value} (h : Whole w g' t cs) (hne : g' ≠ g) (v0 v1 v2 v3 v4 v5 v6 : Value) : Whole (sev w g v0 v1 v2 v3 v4 v5 v6) g' t cs :=
 ((((((h.other (p := ⟨g, 0, none⟩) hne v0).other (p := ⟨g, 1, none⟩) hne v1).other (p := ⟨g, 2, none⟩) hne v2).other (p := ⟨g, 3, none⟩) hne v3).other (p := ⟨g, 4, none⟩) hne v4).other (p := ⟨g, 5, none⟩) hne v5).other (p := ⟨g, 6, none⟩) hne v6
theorem below_sev {B : Nat} {w0 w : World} {g : Nat} (h : Below B w0 w) (hg : B <= g) (v0 v1 v2 v3 v4 v5 v6 : Value) : Below B w0 (sev w g v0 v1 v2 v3 v4 v5 v6) :=
 ((((((h.setCell (p := ⟨g, 0, none⟩) hg v0).setCell (p := ⟨g, 1, none⟩) hg v1).setCell (p := ⟨g, 2, none⟩) hg v2).setCell (p := ⟨g, 3, none⟩) hg v3).setCell (p := ⟨g, 4, none⟩) hg v4).setCell (p := ⟨g, 5, none⟩) hg v5).setCell (p := ⟨g, 6, none⟩) hg v6
theorem Whole.thaws {w : World} {g : Nat} {t : TypeId} {cs : Array Value} (h : Whole w g t cs) : w.frozen? ⟨g, 0, none⟩ = false /\ w.frozen? ⟨g, 1, none⟩ = false /\ w.frozen? ⟨g, 2, none⟩ = false /\ w.frozen? ⟨g, 3, none⟩ = false /\ w.frozen? ⟨g, 4, none⟩ = false /\ w.frozen? ⟨g, 5, none⟩ = false /\ w.frozen? ⟨g, 6, none⟩ = false :=
 ⟨h.thaw 0, h.thaw 1, h.thaw 2, h.thaw 3, h.thaw 4, h.thaw 5, h.thaw 6⟩
theorem Whole.same {w : World} {g : Nat} {t : TypeId} {cs : Array Value} (h : Whole w g t cs) {i : Nat} {v : Value} (hi : cs[i]? = some v) : w.setCell ⟨g, i, none⟩ v = w := by
 have e : (w.setCell ⟨g, i, none⟩ v).heap = w.heap := by
  apply Array.ext_getElem?
  intro k
  by_cases hk : k = g
  · subst hk
    have h1 : w.heap[k]? = some (.cells cs t (0, 0)) := h
    have h2 := h.put i v
    unfold Whole at h2
    rw [h2, h1]
    congr 2
    apply Array.ext_getElem?
    intro j
    rw [Array.getElem?_setIfInBounds]
    split
    · rename_i hij
      subst hij
      rw [hi]
      split
      · rfl
      · rename_i hlt
        rw [Array.getElem?_eq_none (by omega)] at hi
        cases hi
    · rfl
  · exact Below.heap_setCell _ _ _ _ hk
 show ({ w with heap := (w.setCell ⟨g, i, none⟩ v).heap } : World) = w
 rw [e]
theorem Whole.sames {w : World} {g : Nat} {t : TypeId} {a0 a1 a2 a3 a4 a5 a6 : Value} (h : Whole w g t #[a0, a1, a2, a3, a4, a5, a6]) : w.setCell ⟨g, 0, none⟩ a0 = w /\ w.setCell ⟨g, 1, none⟩ a1 = w /\ w.setCell ⟨g, 2, none⟩ a2 = w /\ w.setCell ⟨g, 3, none⟩ a3 = w /\ w.setCell ⟨g, 4, none⟩ a4 = w /\ w.setCell ⟨g, 5, none⟩ a5 = w /\ w.setCell ⟨g, 6, none⟩ a6 = w :=
 ⟨h.same rfl, h.same rfl, h.same rfl, h.same rfl, h.same rfl, h.same rfl, h.same rfl⟩
theorem row_at {ps ds : List (List UInt8)} {j : Nat} (hj : j < ps.length) (hd : ds.length = j) : ((ds ++ ps.drop j).map strV).toArray[j]? = some (strV (ps[j]'hj)) := by
 rw [List.getElem?_toArray, List.getElem?_map, List.getElem?_append_right (by omega), hd, Nat.sub_self, List.getElem?_drop, Nat.add_zero, List.getElem?_eq_getElem hj]
 rfl
theorem row_set {ps ds : List (List UInt8)} {j : Nat} (hj : j < ps.length) (hd : ds.length = j) (v : List UInt8) : ((ds ++ ps.drop j).map strV).toArray.setIfInBounds j (strV v) = ((ds ++ [v] ++ ps.drop (j + 1)).map strV).toArray := by
 rw [List.setIfInBounds_toArray, <- List.map_set, List.set_append_right _ _ (by omega), hd, Nat.sub_self, List.drop_eq_getElem_cons hj, List.set_cons_zero, List.append_assoc]
 rfl
theorem row_all {ds : List (List UInt8)} {j : Nat} (hj : j < ds.length) : (ds.map strV).toArray[j]? = some (strV (ds[j]'hj)) := by
 rw [List.getElem?_toArray, List.getElem?_map, List.getElem?_eq_getElem hj]
 rfl
theorem strs_mid {w : World} {g : Nat} {t : TypeId} {ds : List (List UInt8)} {ok : Nat -> Prop} (h : Whole w g t (ds.map strV).toArray) (hok : ok g) (hn : 2 <= ds.length) : StrsP ok w (.slice (some ⟨g, 1, none⟩) (ds.length - 1 - 1) (ds.length - 1)) ((ds.drop 1).dropLast) := by
 have hl : ((ds.drop 1).dropLast).length = ds.length - 1 - 1 := by simp
 refine ⟨_, _, by rw [hl], by rw [hl]; omega, .inr ⟨g, 1, rfl, h.lt, hok, fun j x hj => ?_⟩⟩
 have hj2 : j < ((ds.drop 1).dropLast).length := (List.getElem?_eq_some_iff.1 hj).1
 rw [hl] at hj2
 show w.cell? ⟨g, 1 + j * 1, none⟩ = some (strV x)
 rw [h.cell]
 have e : ((ds.drop 1).dropLast)[j]? = ds[j + 1]? := by
  rw [List.getElem?_dropLast, if_pos (by rw [List.length_drop]; omega), List.getElem?_drop, Nat.add_comm]
 rw [e] at hj
 rw [List.getElem?_toArray, List.getElem?_map, show 1 + j * 1 = j + 1 by omega, hj]
 rfl
def FiForm (v : Value) : Prop := ∃ (x : Fi) (s1 s2 : Option Addr) (n1 c1 n2 c2 : Nat), v = .agg #[.int .i64 x.kind, .string ⟨x.attr.toArray⟩, .string ⟨x.value.toArray⟩, .string ⟨x.first.toArray⟩, .string ⟨x.last.toArray⟩, .slice s1 n1 c1, .slice s2 n2 c2]
theorem FiV.form {n : Nat} {ok : Nat -> Prop} {w : World} {v : Value} {x : Fi} (h : FiV n ok w v x) : FiForm v := by
 obtain ⟨ua, up, rfl, h1, h2⟩ := h
 obtain ⟨a5, c5, rfl, _⟩ := SliceP.form h1
 obtain ⟨a6, c6, rfl, _⟩ := SliceP.form h2
 exact ⟨x, _, _, _, _, _, _, rfl⟩
def LeafRet (l : List UInt8) (w : World) (e : Ending) (w' : World) : Prop := ∃ v, e = .returned (.tuple #[v, .bool (FiS.leafS l).isSome]) /\ FiForm v /\ (∀ x, FiS.leafS l = some x -> ∀ n, FiV n (fun g => w.heap.size <= g) w' v x) /\ Below w.heap.size w w'
theorem FiV.leaf (n : Nat) (ok : Nat -> Prop) (w : World) (k : Int) (a v f l : List UInt8) : FiV n ok w (.agg #[.int .i64 k, .string ⟨a.toArray⟩, .string ⟨v.toArray⟩, .string ⟨f.toArray⟩, .string ⟨l.toArray⟩, .slice none 0 0, .slice none 0 0]) (.mk k a v f l [] []) :=
 ⟨_, _, rfl, SliceP.nil none 0, SliceP.nil none 0⟩
theorem LeafRet.esc {l q a : List UInt8} {k : Int} {w w' : World} (h : FiS.leafS l = (FiS.unescV q).map (fun v => .mk k a v [] [] [] [])) (hb : Below w.heap.size w w') :
  LeafRet l w (.returned (.tuple #[.agg #[.int .i64 k, .string ⟨a.toArray⟩, .string ⟨((FiS.unescV q).getD []).toArray⟩, .string ⟨#[]⟩, .string ⟨#[]⟩, .slice none 0 0, .slice none 0 0], .bool (FiS.unescV q).isSome])) w' := by
 refine ⟨_, (by rw [h, Option.isSome_map]; rfl : Ending.returned (.tuple #[.agg #[.int .i64 k, .string ⟨a.toArray⟩, .string ⟨((FiS.unescV q).getD []).toArray⟩, .string ⟨#[]⟩, .string ⟨#[]⟩, .slice none 0 0, .slice none 0 0], .bool (FiS.unescV q).isSome]) = _), ⟨.mk k a ((FiS.unescV q).getD []) [] [] [] [], none, none, 0, 0, 0, 0, rfl⟩, fun x hx n => ?_, hb⟩
 rw [h] at hx
 cases hq : FiS.unescV q with
 | none => rw [hq] at hx; cases hx
 | some v =>
  rw [hq] at hx
  have hx : Fi.mk k a v [] [] [] [] = x := Option.some.inj hx
  subst hx
  exact FiV.leaf n _ _ k a v [] []
theorem LeafRet.no {l a : List UInt8} {k : Int} {w w' : World} (h : FiS.leafS l = none) (hb : Below w.heap.size w w') :
  LeafRet l w (.returned (.tuple #[.agg #[.int .i64 k, .string ⟨a.toArray⟩, .string ⟨#[]⟩, .string ⟨#[]⟩, .string ⟨#[]⟩, .slice none 0 0, .slice none 0 0], .bool false])) w' := by
 refine ⟨_, by rw [h]; rfl, ⟨.mk k a [] [] [] [] [], none, none, 0, 0, 0, 0, rfl⟩, fun x hx => (by rw [h] at hx; cases hx), hb⟩
theorem LeafRet.one {l a v : List UInt8} {k : Int} {w w' : World} (h : FiS.leafS l = some (.mk k a v [] [] [] [])) (hb : Below w.heap.size w w') :
  LeafRet l w (.returned (.tuple #[.agg #[.int .i64 k, .string ⟨a.toArray⟩, .string ⟨v.toArray⟩, .string ⟨#[]⟩, .string ⟨#[]⟩, .slice none 0 0, .slice none 0 0], .bool true])) w' := by
 refine ⟨_, by rw [h]; rfl, ⟨.mk k a v [] [] [] [], none, none, 0, 0, 0, 0, rfl⟩, fun x hx n => ?_, hb⟩
 rw [h] at hx
 have hx := Option.some.inj hx
 subst hx
 exact FiV.leaf n _ _ k a v [] []
theorem LeafRet.many {l a f t : List UInt8} {s : List (List UInt8)} {ua : Value} {w w' : World} (h : FiS.leafS l = some (.mk 4 a [] f t s [])) (hs : StrsP (fun g => w.heap.size <= g) w' ua s) (hb : Below w.heap.size w w') :
  LeafRet l w (.returned (.tuple #[.agg #[.int .i64 4, .string ⟨a.toArray⟩, .string ⟨#[]⟩, .string ⟨f.toArray⟩, .string ⟨t.toArray⟩, ua, .slice none 0 0], .bool true])) w' := by
 obtain ⟨sa, sc, rfl, _⟩ := SliceP.form hs
 refine ⟨_, by rw [h]; rfl, ⟨.mk 4 a [] f t s [], _, _, _, _, _, _, rfl⟩, fun x hx n => ?_, hb⟩
 rw [h] at hx
 have hx := Option.some.inj hx
 subst hx
 exact ⟨_, _, rfl, hs, SliceP.nil none 0⟩
theorem fleaf_c (l : List UInt8) (hl : l.length <= 16384) (w : World) (hE : Env w) : Calls Tryz.prog 51 #[.string ⟨l.toArray⟩] w (LeafRet l w) := by
 have hg0 := grow1 w (.cells #[.int .i64 0, .string ⟨#[]⟩, .string ⟨#[]⟩, .string ⟨#[]⟩, .string ⟨#[]⟩, .slice none 0 0, .slice none 0 0] 33)
 have hw0 := Whole.made w 33 #[.int .i64 0, .string ⟨#[]⟩, .string ⟨#[]⟩, .string ⟨#[]⟩, .string ⟨#[]⟩, .slice none 0 0, .slice none 0 0]
 have HX1 : Hid (∀ k, (⟨l.toArray⟩ : ByteArray).extract 0 k = ⟨(l.take k).toArray⟩) := hZ9 (fun k => by rw [mk_extract, List.drop_zero])
 have HX2 : Hid (∀ k, (⟨l.toArray⟩ : ByteArray).extract k l.length = ⟨(l.drop k).toArray⟩) := hZ9 (fun k => by rw [mk_extract, List.take_length])
 have HCUT := hZ9 (fun k => @FiS.sign_cut l k)
 have HLD := hZ9 (FiS.leafD_is l)
 go_enter Tryz.func51, Tryz.ntmps51
 go_upto_block 0 with fail
 go_cut [4] (fun i wd => ∃ k : Nat, k <= l.length /\ i = .int .i64 k /\ wd = w.alloc (.cells #[.int .i64 0, .string ⟨#[]⟩, .string ⟨#[]⟩, .string ⟨#[]⟩, .string ⟨#[]⟩, .slice none 0 0, .slice none 0 0] 33) /\ Hid (l.takeWhile (fun c => !FiS.isSign c) = l.take k /\ l.dropWhile (fun c => !FiS.isSign c) = l.drop k))
 case first =>
  go_wp2_with fail
  go_loopw [4] (fun i wr => ∃ k : Nat, k <= l.length /\ i = .int .i64 k /\ wr = w.alloc (.cells #[.int .i64 0, .string ⟨#[]⟩, .string ⟨#[]⟩, .string ⟨#[]⟩, .string ⟨#[]⟩, .slice none 0 0, .slice none 0 0] 33) /\ Hid (∀ j (hj : j < l.length), j < k -> FiS.isSign (l[j]'hj) = false)) (fun i _ => l.length - (intOf i).toNat)
  case atStart => exact ⟨0, Nat.zero_le _, by first | rfl | trivial, by first | rfl | trivial, hZ9 (fun j hj h => absurd h (Nat.not_lt_zero _))⟩
  case round =>
   obtain ⟨k, hk, rfl, rfl, HNO⟩ := hrel
   by_cases hlt : k < l.length
   · have HSTEP : Hid (FiS.isSign (l[k]'hlt) = false -> ∀ j (hj : j < l.length), j < k + 1 -> FiS.isSign (l[j]'hj) = false) := hZ9 (fun h j hj hjk => by
      rcases Nat.lt_or_eq_of_le (Nat.le_of_lt_succ hjk) with h2 | rfl
      · exact HNO.out j hj h2
      · exact h)
     have HEND : Hid (FiS.isSign (l[k]'hlt) = true -> l.takeWhile (fun c => !FiS.isSign c) = l.take k /\ l.dropWhile (fun c => !FiS.isSign c) = l.drop k) := hZ9 (fun h => HCUT.out _ HNO.out hk (fun _ => h))
     generalize hcq : l[k] = c at *
     have hq2 : ∀ h, (⟨l.toArray⟩ : ByteArray)[k]'h = c := fun _ => hcq
     clear hcq
     have hib := fun w => Tryz.strings_IndexByte ⟨#[61, 60, 62, 126]⟩ (c.toNat : Int) w
     have hd1 : (⟨#[61, 60, 62, 126]⟩ : ByteArray).data.toList = [61, 60, 62, 126] := rfl
     have hd2 : ((c.toNat : Int).toNat.toUInt8) = c := by rw [Int.toNat_natCast]; exact UInt8.ofNat_toNat
     rw [hd1, hd2] at hib
     clear hd1 hd2
     have HIX := hZ9 (FiS.signs_index c)
     generalize Lib.indexByte [61, 60, 62, 126] c = ix at *
     replace hib := fun w => (hib w).mono (fun e w' (h : _ /\ _) => (⟨h.1, h.2.symm⟩ : e = .returned (.int .i64 ix) /\ w = w'))
     have hkz : (k : Int) < (l.length : Int) := by omega
     cases hsg : FiS.isSign c with
     | false =>
      have hixn : decide (ix < 0) = true := by rw [HIX.out, hsg]; rfl
      have HS := hZ9 (HSTEP.out hsg)
      clear hsg HSTEP HEND HIX HNO HCUT HX1 HX2 HLD
      go_wp2_with fail
      refine (hib _).mono ?_; rintro e w9 ⟨rfl, rfl⟩
      go_wp2_with fail
      go_roundw
      case rel => exact ⟨k + 1, by omega, by go_num, by first | rfl | trivial, HS⟩
      case measure => simp [intOf]; omega
     | true =>
      have hixn : decide (ix < 0) = false := by rw [HIX.out, hsg]; rfl
      have HS := hZ9 (HEND.out hsg)
      clear hsg HSTEP HEND HIX HNO HCUT HX1 HX2 HLD
      go_wp2_with fail
      refine (hib _).mono ?_; rintro e w9 ⟨rfl, rfl⟩
      go_wp2_with fail
      go_meet
      exact ⟨k, hk, rfl, rfl, HS⟩
   · have hkl : k = l.length := by omega
     have hkz : decide ((k : Int) < (l.length : Int)) = false := decide_eq_false (by omega)
     have HS := hZ9 (HCUT.out _ HNO.out hk (fun h => absurd h hlt))
     clear HNO HCUT HX1 HX2 HLD
     go_wp2_with fail
     go_meet
     exact ⟨k, hk, rfl, rfl, HS⟩
 case rest =>
  obtain ⟨k, hk, rfl, rfl, HTD⟩ := hcut
  have x1 := HX1.out k
  have x2 := HX2.out k
  have HLF : Hid (FiS.leafS l = FiS.leafD (l.take k) (l.drop k)) := hZ9 (by rw [HLD.out, HTD.out.1, HTD.out.2])
  have hdl : (l.drop k).length <= 16384 := by rw [List.length_drop]; omega
  have hal : (l.take k).length <= 16384 := by rw [List.length_take]; omega
  clear HX1 HX2 HCUT HLD HTD
  generalize l.take k = a at *
  generalize l.drop k = d at *
  have hwD := hw0.drew
  obtain ⟨q0, q1, q2, q3, q4, q5, q6⟩ := hwD.seven
  obtain ⟨t0, t1, t2, t3, t4, t5, t6⟩ := hwD.thaws
  have hkz1 : (0 : Int) <= (k : Int) := by omega
  have hkz2 : (k : Int) <= (l.length : Int) := by omega
  go_upto_region 4 with fail
  go_cut [0] (fun s wd => s = .string ⟨d.toArray⟩ /\ Whole wd w.heap.size 33 #[.int .i64 0, .string ⟨a.toArray⟩, .string ⟨#[]⟩, .string ⟨#[]⟩, .string ⟨#[]⟩, .slice none 0 0, .slice none 0 0] /\ Below w.heap.size w wd)
  case first =>
   go_wp2_with fail
   go_region_held3 (fun _ => True) (trivial) (fail)
   all_goals go_wp2_with fail
   all_goals go_meet
   all_goals exact ⟨by first | rfl | trivial, (Whole.made w _ _).drew, (grow1 w _).drew⟩
  case rest =>
   obtain ⟨rfl, hw1, hz1⟩ := hcut
   clear hwD q0 q1 q2 q3 q4 q5 q6 t0 t1 t2 t3 t4 t5 t6 hw0 hg0 x1 x2
   obtain ⟨w1, rfl⟩ : ∃ x, x = wc := ⟨_, rfl⟩
   have hE1 := hE.below hz1
   have hs5 : ∀ W, Calls Tryz.prog 44 #[.int .i64 5] W (fun e w' => e = .returned (.string ⟨#[62, 61]⟩) /\ W = w') := fun W => sign_c 5 W
   have hs6 : ∀ W, Calls Tryz.prog 44 #[.int .i64 6] W (fun e w' => e = .returned (.string ⟨#[60, 61]⟩) /\ W = w') := fun W => sign_c 6 W
   have hs8 : ∀ W, Calls Tryz.prog 44 #[.int .i64 8] W (fun e w' => e = .returned (.string ⟨#[126, 61]⟩) /\ W = w') := fun W => sign_c 8 W
   have hcp5 : ∀ W, Calls Tryz.prog 72 #[.string ⟨d.toArray⟩, .string ⟨#[62, 61]⟩] W fun e w' => e = .returned (.tuple #[.string ⟨(Lib.trimPrefix d [62, 61]).toArray⟩, .bool (Lib.hasPrefix d [62, 61])]) /\ w' = W := fun W => Tryz.strings_CutPrefix ⟨d.toArray⟩ ⟨#[62, 61]⟩ W
   have hcp6 : ∀ W, Calls Tryz.prog 72 #[.string ⟨d.toArray⟩, .string ⟨#[60, 61]⟩] W fun e w' => e = .returned (.tuple #[.string ⟨(Lib.trimPrefix d [60, 61]).toArray⟩, .bool (Lib.hasPrefix d [60, 61])]) /\ w' = W := fun W => Tryz.strings_CutPrefix ⟨d.toArray⟩ ⟨#[60, 61]⟩ W
   have hcp8 : ∀ W, Calls Tryz.prog 72 #[.string ⟨d.toArray⟩, .string ⟨#[126, 61]⟩] W fun e w' => e = .returned (.tuple #[.string ⟨(Lib.trimPrefix d [126, 61]).toArray⟩, .bool (Lib.hasPrefix d [126, 61])]) /\ w' = W := fun W => Tryz.strings_CutPrefix ⟨d.toArray⟩ ⟨#[126, 61]⟩ W
   have hcp1 : ∀ W, Calls Tryz.prog 72 #[.string ⟨d.toArray⟩, .string ⟨#[61]⟩] W fun e w' => e = .returned (.tuple #[.string ⟨(Lib.trimPrefix d [61]).toArray⟩, .bool (Lib.hasPrefix d [61])]) /\ w' = W := fun W => Tryz.strings_CutPrefix ⟨d.toArray⟩ ⟨#[61]⟩ W
   have HTY : Hid (∀ p, Lib.hasPrefix d p = true -> Lib.trimPrefix d p = d.drop p.length) := hZ9 (fun p h => by unfold Lib.trimPrefix; rw [if_pos h])
   have HTN : Hid (∀ p, Lib.hasPrefix d p = false -> Lib.trimPrefix d p = d) := hZ9 (fun p h => by unfold Lib.trimPrefix; rw [h, if_neg (by simp)])
   cases h5 : Lib.hasPrefix d [62, 61] with
   | true =>
    have HL5 : Hid (FiS.leafS l = (FiS.unescV (d.drop 2)).map (fun v => .mk 5 a v [] [] [] [])) := hZ9 (by
     rw [HLF.out]; unfold FiS.leafD
     rw [if_pos (show [62, 61].isPrefixOf d = true from h5)])
    rw [h5, HTY.out _ h5] at hcp5
    simp only [List.length_cons, List.length_nil, Nat.zero_add, Nat.reduceAdd] at hcp5
    clear HLF HTY HTN h5 hcp1 hcp6 hcp8
    have hun := unescape_c (d.drop 2) (by rw [List.length_drop]; omega) ((w1.alloc (.cells #[.int .i64 5, .int .i64 6, .int .i64 8] 3)).setCell ⟨w.heap.size, 0, none⟩ (.int .i64 5))
    have HRET : Hid (∀ w', Below w.heap.size w w' -> LeafRet l w (.returned (.tuple #[.agg #[.int .i64 5, .string ⟨a.toArray⟩, .string ⟨((FiS.unescV (d.drop 2)).getD []).toArray⟩, .string ⟨#[]⟩, .string ⟨#[]⟩, .slice none 0 0, .slice none 0 0], .bool (FiS.unescV (d.drop 2)).isSome])) w') := hZ9 (fun w' hb => LeafRet.esc HL5.out hb)
    unfold UnRet at hun
    obtain ⟨UV, hUV⟩ : ∃ x, (FiS.unescV (d.drop 2)).getD [] = x := ⟨_, rfl⟩
    obtain ⟨UB, hUB⟩ : ∃ x, (FiS.unescV (d.drop 2)).isSome = x := ⟨_, rfl⟩
    rw [hUV, hUB] at hun HRET
    clear hUV hUB
    generalize d.drop 2 = d2 at *
    go_wp2_with fail
    refine wp_loop_rounds 4 ?_
    rw [rounds_succ]
    go_wp2_with fail
    refine (hs5 _).mono ?_; rintro e w9 ⟨rfl, rfl⟩
    go_wp2_with fail
    refine (hcp5 _).mono ?_; rintro e w9 ⟨rfl, rfl⟩
    have hgk := grow1 w1 (.cells #[.int .i64 5, .int .i64 6, .int .i64 8] 3)
    have hw2 := hw1.call hgk
    have hw3 := hw2.put 0 (.int .i64 5)
    simp only [List.setIfInBounds_toArray, List.set_cons_zero] at hw3
    obtain ⟨r0, r1, r2, r3, r4, r5, r6⟩ := hw2.seven
    obtain ⟨t0, t1, t2, t3, t4, t5, t6⟩ := hw2.thaws
    go_wp2_with fail
    refine hun.mono ?_; rintro e w5 ⟨rfl, hb5⟩
    clear r0 r1 r2 r3 r4 r5 r6 t0 t1 t2 t3 t4 t5 t6
    have hw5 := hw3.call hb5
    have hz5 := ((hz1.trans (hgk.mono hz1.size)).setCell (p := ⟨w.heap.size, 0, none⟩) (Nat.le_refl _) (.int .i64 5)).trans (hb5.mono (by have := hz1.size; simp [World.setCell]; omega))
    obtain ⟨u0, u1, u2, u3, u4, u5, u6⟩ := hw5.thaws
    obtain ⟨s0, s1, s2, s3, s4, s5, s6⟩ := hw5.seven
    have hw6 := hw5.put 2 (.string ⟨UV.toArray⟩)
    simp only [List.setIfInBounds_toArray, List.set_cons_zero, List.set_cons_succ] at hw6
    have hz6 := hz5.setCell (p := ⟨w.heap.size, 2, none⟩) (Nat.le_refl _) (.string ⟨UV.toArray⟩)
    clear hun hw2 hw3 hgk
    obtain ⟨r0, r1, r2, r3, r4, r5, r6⟩ := hw6.seven
    obtain ⟨t0, t1, t2, t3, t4, t5, t6⟩ := hw6.thaws
    obtain ⟨e0, e1, e2, e3, e4, e5, e6⟩ := hw6.sames
    have hbF := hz6
    go_wp2_with fail
    (try simp only [Exit.inBlock, Exit.then])
    refine bodyPost_ret (v := .tuple #[.agg #[.int .i64 5, .string ⟨a.toArray⟩, .string ⟨UV.toArray⟩, .string ⟨#[]⟩, .string ⟨#[]⟩, .slice none 0 0, .slice none 0 0], .bool UB]) ?_ rfl (HRET.out _ hbF)
    rw [results_cell_tmp rfl]
    go_simp
   | false =>
   rw [h5, HTN.out _ h5] at hcp5
   cases h6 : Lib.hasPrefix d [60, 61] with
   | true =>
    have HL6 : Hid (FiS.leafS l = (FiS.unescV (d.drop 2)).map (fun v => .mk 6 a v [] [] [] [])) := hZ9 (by
     rw [HLF.out]; unfold FiS.leafD
     rw [if_neg (show ¬ [62, 61].isPrefixOf d = true from by rw [show [62, 61].isPrefixOf d = false from h5]; simp), if_pos (show [60, 61].isPrefixOf d = true from h6)])
    rw [h6, HTY.out _ h6] at hcp6
    simp only [List.length_cons, List.length_nil, Nat.zero_add, Nat.reduceAdd] at hcp6
    clear HLF HTY HTN h6 hcp1 hcp8 h5
    have hun := unescape_c (d.drop 2) (by rw [List.length_drop]; omega) ((w1.alloc (.cells #[.int .i64 5, .int .i64 6, .int .i64 8] 3)).setCell ⟨w.heap.size, 0, none⟩ (.int .i64 6))
    have HRET : Hid (∀ w', Below w.heap.size w w' -> LeafRet l w (.returned (.tuple #[.agg #[.int .i64 6, .string ⟨a.toArray⟩, .string ⟨((FiS.unescV (d.drop 2)).getD []).toArray⟩, .string ⟨#[]⟩, .string ⟨#[]⟩, .slice none 0 0, .slice none 0 0], .bool (FiS.unescV (d.drop 2)).isSome])) w') := hZ9 (fun w' hb => LeafRet.esc HL6.out hb)
    unfold UnRet at hun
    obtain ⟨UV, hUV⟩ : ∃ x, (FiS.unescV (d.drop 2)).getD [] = x := ⟨_, rfl⟩
    obtain ⟨UB, hUB⟩ : ∃ x, (FiS.unescV (d.drop 2)).isSome = x := ⟨_, rfl⟩
    rw [hUV, hUB] at hun HRET
    clear hUV hUB
    generalize d.drop 2 = d2 at *
    go_wp2_with fail
    refine wp_loop_rounds 4 ?_
    rw [rounds_succ]
    go_wp2_with fail
    refine (hs5 _).mono ?_; rintro e w9 ⟨rfl, rfl⟩
    go_wp2_with fail
    refine (hcp5 _).mono ?_; rintro e w9 ⟨rfl, rfl⟩
    go_wp2_with fail
    rw [rounds_succ]
    go_wp2_with fail
    refine (hs6 _).mono ?_; rintro e w9 ⟨rfl, rfl⟩
    go_wp2_with fail
    refine (hcp6 _).mono ?_; rintro e w9 ⟨rfl, rfl⟩
    have hgk := grow1 w1 (.cells #[.int .i64 5, .int .i64 6, .int .i64 8] 3)
    have hw2 := hw1.call hgk
    have hw3 := hw2.put 0 (.int .i64 6)
    simp only [List.setIfInBounds_toArray, List.set_cons_zero] at hw3
    obtain ⟨r0, r1, r2, r3, r4, r5, r6⟩ := hw2.seven
    obtain ⟨t0, t1, t2, t3, t4, t5, t6⟩ := hw2.thaws
    go_wp2_with fail
    refine hun.mono ?_; rintro e w5 ⟨rfl, hb5⟩
    clear r0 r1 r2 r3 r4 r5 r6 t0 t1 t2 t3 t4 t5 t6
    have hw5 := hw3.call hb5
    have hz5 := ((hz1.trans (hgk.mono hz1.size)).setCell (p := ⟨w.heap.size, 0, none⟩) (Nat.le_refl _) (.int .i64 6)).trans (hb5.mono (by have := hz1.size; simp [World.setCell]; omega))
    obtain ⟨u0, u1, u2, u3, u4, u5, u6⟩ := hw5.thaws
    obtain ⟨s0, s1, s2, s3, s4, s5, s6⟩ := hw5.seven
    have hw6 := hw5.put 2 (.string ⟨UV.toArray⟩)
    simp only [List.setIfInBounds_toArray, List.set_cons_zero, List.set_cons_succ] at hw6
    have hz6 := hz5.setCell (p := ⟨w.heap.size, 2, none⟩) (Nat.le_refl _) (.string ⟨UV.toArray⟩)
    clear hun hw2 hw3 hgk
    obtain ⟨r0, r1, r2, r3, r4, r5, r6⟩ := hw6.seven
    obtain ⟨t0, t1, t2, t3, t4, t5, t6⟩ := hw6.thaws
    obtain ⟨e0, e1, e2, e3, e4, e5, e6⟩ := hw6.sames
    have hbF := hz6
    go_wp2_with fail
    (try simp only [Exit.inBlock, Exit.then])
    refine bodyPost_ret (v := .tuple #[.agg #[.int .i64 6, .string ⟨a.toArray⟩, .string ⟨UV.toArray⟩, .string ⟨#[]⟩, .string ⟨#[]⟩, .slice none 0 0, .slice none 0 0], .bool UB]) ?_ rfl (HRET.out _ hbF)
    rw [results_cell_tmp rfl]
    go_simp
   | false =>
   rw [h6, HTN.out _ h6] at hcp6
   cases h8 : Lib.hasPrefix d [126, 61] with
   | true =>
    have HL8 : Hid (FiS.leafS l = (FiS.unescV (d.drop 2)).map (fun v => .mk 8 a v [] [] [] [])) := hZ9 (by
     rw [HLF.out]; unfold FiS.leafD
     rw [if_neg (show ¬ [62, 61].isPrefixOf d = true from by rw [show [62, 61].isPrefixOf d = false from h5]; simp), if_neg (show ¬ [60, 61].isPrefixOf d = true from by rw [show [60, 61].isPrefixOf d = false from h6]; simp), if_pos (show [126, 61].isPrefixOf d = true from h8)])
    rw [h8, HTY.out _ h8] at hcp8
    simp only [List.length_cons, List.length_nil, Nat.zero_add, Nat.reduceAdd] at hcp8
    clear HLF HTY HTN h8 hcp1 h5 h6
    have hun := unescape_c (d.drop 2) (by rw [List.length_drop]; omega) ((w1.alloc (.cells #[.int .i64 5, .int .i64 6, .int .i64 8] 3)).setCell ⟨w.heap.size, 0, none⟩ (.int .i64 8))
    have HRET : Hid (∀ w', Below w.heap.size w w' -> LeafRet l w (.returned (.tuple #[.agg #[.int .i64 8, .string ⟨a.toArray⟩, .string ⟨((FiS.unescV (d.drop 2)).getD []).toArray⟩, .string ⟨#[]⟩, .string ⟨#[]⟩, .slice none 0 0, .slice none 0 0], .bool (FiS.unescV (d.drop 2)).isSome])) w') := hZ9 (fun w' hb => LeafRet.esc HL8.out hb)
    unfold UnRet at hun
    obtain ⟨UV, hUV⟩ : ∃ x, (FiS.unescV (d.drop 2)).getD [] = x := ⟨_, rfl⟩
    obtain ⟨UB, hUB⟩ : ∃ x, (FiS.unescV (d.drop 2)).isSome = x := ⟨_, rfl⟩
    rw [hUV, hUB] at hun HRET
    clear hUV hUB
    generalize d.drop 2 = d2 at *
    go_wp2_with fail
    refine wp_loop_rounds 4 ?_
    rw [rounds_succ]
    go_wp2_with fail
    refine (hs5 _).mono ?_; rintro e w9 ⟨rfl, rfl⟩
    go_wp2_with fail
    refine (hcp5 _).mono ?_; rintro e w9 ⟨rfl, rfl⟩
    go_wp2_with fail
    rw [rounds_succ]
    go_wp2_with fail
    refine (hs6 _).mono ?_; rintro e w9 ⟨rfl, rfl⟩
    go_wp2_with fail
    refine (hcp6 _).mono ?_; rintro e w9 ⟨rfl, rfl⟩
    go_wp2_with fail
    rw [rounds_succ]
    go_wp2_with fail
    refine (hs8 _).mono ?_; rintro e w9 ⟨rfl, rfl⟩
    go_wp2_with fail
    refine (hcp8 _).mono ?_; rintro e w9 ⟨rfl, rfl⟩
    have hgk := grow1 w1 (.cells #[.int .i64 5, .int .i64 6, .int .i64 8] 3)
    have hw2 := hw1.call hgk
    have hw3 := hw2.put 0 (.int .i64 8)
    simp only [List.setIfInBounds_toArray, List.set_cons_zero] at hw3
    obtain ⟨r0, r1, r2, r3, r4, r5, r6⟩ := hw2.seven
    obtain ⟨t0, t1, t2, t3, t4, t5, t6⟩ := hw2.thaws
    go_wp2_with fail
    refine hun.mono ?_; rintro e w5 ⟨rfl, hb5⟩
    clear r0 r1 r2 r3 r4 r5 r6 t0 t1 t2 t3 t4 t5 t6
    have hw5 := hw3.call hb5
    have hz5 := ((hz1.trans (hgk.mono hz1.size)).setCell (p := ⟨w.heap.size, 0, none⟩) (Nat.le_refl _) (.int .i64 8)).trans (hb5.mono (by have := hz1.size; simp [World.setCell]; omega))
    obtain ⟨u0, u1, u2, u3, u4, u5, u6⟩ := hw5.thaws
    obtain ⟨s0, s1, s2, s3, s4, s5, s6⟩ := hw5.seven
    have hw6 := hw5.put 2 (.string ⟨UV.toArray⟩)
    simp only [List.setIfInBounds_toArray, List.set_cons_zero, List.set_cons_succ] at hw6
    have hz6 := hz5.setCell (p := ⟨w.heap.size, 2, none⟩) (Nat.le_refl _) (.string ⟨UV.toArray⟩)
    clear hun hw2 hw3 hgk
    obtain ⟨r0, r1, r2, r3, r4, r5, r6⟩ := hw6.seven
    obtain ⟨t0, t1, t2, t3, t4, t5, t6⟩ := hw6.thaws
    obtain ⟨e0, e1, e2, e3, e4, e5, e6⟩ := hw6.sames
    have hbF := hz6
    go_wp2_with fail
    (try simp only [Exit.inBlock, Exit.then])
    refine bodyPost_ret (v := .tuple #[.agg #[.int .i64 8, .string ⟨a.toArray⟩, .string ⟨UV.toArray⟩, .string ⟨#[]⟩, .string ⟨#[]⟩, .slice none 0 0, .slice none 0 0], .bool UB]) ?_ rfl (HRET.out _ hbF)
    rw [results_cell_tmp rfl]
    go_simp
   | false =>
   rw [h8, HTN.out _ h8] at hcp8
   go_wp2_with fail
   refine wp_loop_rounds 4 ?_
   rw [rounds_succ]
   go_wp2_with fail
   refine (hs5 _).mono ?_; rintro e w9 ⟨rfl, rfl⟩
   go_wp2_with fail
   refine (hcp5 _).mono ?_; rintro e w9 ⟨rfl, rfl⟩
   go_wp2_with fail
   rw [rounds_succ]
   go_wp2_with fail
   refine (hs6 _).mono ?_; rintro e w9 ⟨rfl, rfl⟩
   go_wp2_with fail
   refine (hcp6 _).mono ?_; rintro e w9 ⟨rfl, rfl⟩
   go_wp2_with fail
   rw [rounds_succ]
   go_wp2_with fail
   refine (hs8 _).mono ?_; rintro e w9 ⟨rfl, rfl⟩
   go_wp2_with fail
   refine (hcp8 _).mono ?_; rintro e w9 ⟨rfl, rfl⟩
   go_wp2_with fail
   rw [rounds_succ]
   go_wp2_with fail
   have hgk := grow1 w1 (.cells #[.int .i64 5, .int .i64 6, .int .i64 8] 3)
   have hw2 := hw1.call hgk
   have hz2 := hz1.trans (hgk.mono hz1.size)
   have hE2 := hE1.below hgk
   replace hcp1 := fun W => (hcp1 W).mono (fun e w' (h : _ /\ _) => (⟨h.1, h.2.symm⟩ : e = .returned (.tuple #[.string ⟨(Lib.trimPrefix d [61]).toArray⟩, .bool (Lib.hasPrefix d [61])]) /\ W = w'))
   clear hgk hcp5 hcp6 hcp8 hs5 hs6 hs8 hw1 hz1 hE1
   generalize w1.alloc (.cells #[.int .i64 5, .int .i64 6, .int .i64 8] 3) = w2 at *
   cases h1 : Lib.hasPrefix d [61] with
   | false =>
    have HLN : Hid (FiS.leafS l = none) := hZ9 (by
     rw [HLF.out]; unfold FiS.leafD
     rw [if_neg (show ¬ [62, 61].isPrefixOf d = true from by rw [show [62, 61].isPrefixOf d = false from h5]; simp), if_neg (show ¬ [60, 61].isPrefixOf d = true from by rw [show [60, 61].isPrefixOf d = false from h6]; simp), if_neg (show ¬ [126, 61].isPrefixOf d = true from by rw [show [126, 61].isPrefixOf d = false from h8]; simp), if_neg (show ¬ [61].isPrefixOf d = true from by rw [show [61].isPrefixOf d = false from h1]; simp)])
    rw [h1, HTN.out _ h1] at hcp1
    clear HLF HTY HTN h1 h5 h6 h8
    refine (hcp1 _).mono ?_; rintro e w9 ⟨rfl, rfl⟩
    obtain ⟨r0, r1, r2, r3, r4, r5, r6⟩ := hw2.seven
    obtain ⟨t0, t1, t2, t3, t4, t5, t6⟩ := hw2.thaws
    obtain ⟨e0, e1, e2, e3, e4, e5, e6⟩ := hw2.sames
    have hbF := hz2
    go_wp2_with fail
    (try simp only [Exit.inBlock, Exit.then])
    refine bodyPost_ret (v := .tuple #[.agg #[.int .i64 0, .string ⟨a.toArray⟩, .string ⟨#[]⟩, .string ⟨#[]⟩, .string ⟨#[]⟩, .slice none 0 0, .slice none 0 0], .bool false]) ?_ rfl (LeafRet.no HLN.out hbF)
    rw [results_cell_tmp rfl]
    go_simp
   | true =>
   have HRS : Hid (FiS.leafS l = FiS.restS a (d.drop 1)) := hZ9 (by
    rw [HLF.out]; unfold FiS.leafD
    rw [if_neg (show ¬ [62, 61].isPrefixOf d = true from by rw [show [62, 61].isPrefixOf d = false from h5]; simp), if_neg (show ¬ [60, 61].isPrefixOf d = true from by rw [show [60, 61].isPrefixOf d = false from h6]; simp), if_neg (show ¬ [126, 61].isPrefixOf d = true from by rw [show [126, 61].isPrefixOf d = false from h8]; simp), if_pos (show [61].isPrefixOf d = true from h1)])
   rw [h1, HTY.out _ h1] at hcp1
   simp only [List.length_cons, List.length_nil, Nat.zero_add] at hcp1
   have hvl : (d.drop 1).length <= 16384 := by rw [List.length_drop]; omega
   clear HLF HTY HTN h1 h5 h6 h8
   generalize d.drop 1 = v at *
   by_cases h42 : v = [42]
   case pos =>
    have HL7 : Hid (FiS.leafS l = some (.mk 7 a [] [] [] [] [])) := hZ9 (by rw [HRS.out]; unfold FiS.restS; rw [if_pos h42])
    have hb42 : (v == [42]) = true := by simpa using h42
    clear HRS h42
    refine (hcp1 _).mono ?_; rintro e w9 ⟨rfl, rfl⟩
    obtain ⟨s0, s1, s2, s3, s4, s5, s6⟩ := hw2.seven
    obtain ⟨u0, u1, u2, u3, u4, u5, u6⟩ := hw2.thaws
    have hw3 := hw2.put 0 (.int .i64 7)
    simp only [List.setIfInBounds_toArray, List.set_cons_zero] at hw3
    have hz3 := hz2.setCell (p := ⟨w.heap.size, 0, none⟩) (Nat.le_refl _) (.int .i64 7)
    obtain ⟨r0, r1, r2, r3, r4, r5, r6⟩ := hw3.seven
    obtain ⟨t0, t1, t2, t3, t4, t5, t6⟩ := hw3.thaws
    obtain ⟨e0, e1, e2, e3, e4, e5, e6⟩ := hw3.sames
    have hbF := hz3
    go_wp2_with fail
    (try simp only [Exit.inBlock, Exit.then])
    refine bodyPost_ret (v := .tuple #[.agg #[.int .i64 7, .string ⟨a.toArray⟩, .string ⟨#[]⟩, .string ⟨#[]⟩, .string ⟨#[]⟩, .slice none 0 0, .slice none 0 0], .bool true]) ?_ rfl (LeafRet.one (v := []) HL7.out hbF)
    rw [results_cell_tmp rfl]
    go_simp
   have hb42 : (v == [42]) = false := by simpa using h42
   have hsp : Calls Tryz.prog 74 #[.string ⟨v.toArray⟩, .string ⟨#[42]⟩] w2 fun e w' => ∃ n : Nat, n = (RuS.pieces 42 v).length /\ e = .returned (.slice (some ⟨w2.heap.size, 0, none⟩) n n) /\ w' = w2.alloc (.cells ((RuS.pieces 42 v).map strV).toArray 9) := splitStr ⟨v.toArray⟩ 42 (by rw [bsize]; omega) w2 hE2
   have hpl := pieces_length 42 v
   have HPS := hZ9 (FiS.pieces_small 42 v)
   have hp1 : 1 <= (RuS.pieces 42 v).length := by obtain ⟨p, q, h⟩ := RuS.pieces_ne 42 v; rw [h]; simp
   have HRV : Hid (FiS.leafS l = (FiS.unescL (RuS.pieces 42 v)).map (FiS.piecesF a)) := hZ9 (by rw [HRS.out]; unfold FiS.restS; rw [if_neg h42])
   clear HRS h42
   generalize RuS.pieces 42 v = ps at *
   obtain ⟨n, hn⟩ : ∃ n, ps.length = n := ⟨_, rfl⟩
   have HN := hZ9 hn
   rw [hn] at hpl hp1
   refine (hcp1 _).mono ?_; rintro e w9 ⟨rfl, rfl⟩
   go_wp2_with fail
   refine hsp.mono ?_; rintro e w3 ⟨n2, hn2, rfl, rfl⟩
   rw [hn] at hn2
   have hn3 : n = n2 := hn2.symm
   clear hn2
   subst hn3
   have hgs := grow1 w2 (.cells (ps.map strV).toArray 9)
   have hwL := Whole.made w2 9 (ps.map strV).toArray
   have hwF := hw2.call hgs
   have hz3 := hz2.trans (hgs.mono hz2.size)
   have hlt := hw2.lt
   clear hsp hcp1 hw2 hgs hn hE2
   generalize w2.alloc (.cells (ps.map strV).toArray 9) = w3 at *
   have hlbz : w.heap.size <= w2.heap.size := hz2.size
   clear hz2
   generalize w2.heap.size = lb at *
   have hne : w.heap.size ≠ lb := by omega
   have HTK := hZ9 (fun (k : Nat) (ds : List (List UInt8)) (hk : k < ps.length) (h : FiS.unescL (ps.take k) = some ds) => FiS.unescL_take hk h)
   have HUN := hZ9 (fun (k : Nat) (hk : k < ps.length) (h : FiS.unescV (ps[k]'hk) = none) => FiS.unescL_no hk h)
   have HRA := hZ9 (fun (k : Nat) (ds : List (List UInt8)) (hk : k < ps.length) (h : ds.length = k) => row_at hk h)
   have HRE := hZ9 (fun (k : Nat) (ds : List (List UInt8)) (hk : k < ps.length) (h : ds.length = k) => row_set hk h)
   go_wp2_with fail
   go_loopw [3, 75] (fun okv i wr => ∃ (j : Nat) (ds : List (List UInt8)), j <= n /\ okv = .bool true /\ i = .int .i64 j /\ Hid (FiS.unescL (ps.take j) = some ds /\ ds.length = j) /\ Whole wr lb 9 ((ds ++ ps.drop j).map strV).toArray /\ Whole wr w.heap.size 33 #[.int .i64 0, .string ⟨a.toArray⟩, .string ⟨#[]⟩, .string ⟨#[]⟩, .string ⟨#[]⟩, .slice none 0 0, .slice none 0 0] /\ Below w.heap.size w wr) (fun _ i _ => n - (intOf i).toNat)
   case atStart => exact ⟨0, [], Nat.zero_le _, rfl, rfl, hZ9 ⟨rfl, rfl⟩, hwL, hwF, hz3⟩
   case round =>
    obtain ⟨j, ds, hj, rfl, rfl, HDS, hwl, hwf, hz⟩ := hrel
    clear hwL hwF hz3
    by_cases hltj : j < n
    · have hlt2 : j < ps.length := by rw [HN.out]; exact hltj
      have HTj := hZ9 (HTK.out j ds hlt2 HDS.out.1)
      have hnone := HUN.out j hlt2
      have hra := HRA.out j ds hlt2 HDS.out.2
      have HREj := hZ9 (HRE.out j ds hlt2 HDS.out.2)
      have hpp := HPS.out _ (List.getElem_mem hlt2)
      generalize ps[j] = p at *
      have hcj : wr.cell? ⟨lb, j, none⟩ = some (.string ⟨p.toArray⟩) := (hwl.cell j).trans hra
      have hfj := hwl.thaw j
      have hun := unescape_c p (by omega) wr
      unfold UnRet at hun
      have hj0 : (0 : Int) <= (j : Int) := by omega
      have hj1 : (j : Int) < (n : Int) := by omega
      clear hra HTK HUN HRA HRE HPS HN
      cases hu : FiS.unescV p with
      | none =>
       have HLN : Hid (FiS.leafS l = none) := hZ9 (by rw [HRV.out, hnone hu]; rfl)
       rw [hu] at hun
       clear hnone HTj HREj HRV HDS
       have hun : Calls Tryz.prog 73 #[.string ⟨p.toArray⟩] wr fun e w' => e = .returned (.tuple #[.string ⟨#[]⟩, .bool false]) /\ Below wr.heap.size wr w' := hun
       go_wp2_with fail
       refine hun.mono ?_; rintro e w5 ⟨rfl, hb5⟩
       have hcj5 := keepC hcj hb5
       have hfj5 := (hwl.call hb5).thaw j
       have hwf5 := (hwf.call hb5).other (p := ⟨lb, j, none⟩) hne (.string ⟨#[]⟩)
       have hz5 := (hz.trans (hb5.mono hz.size)).setCell (p := ⟨lb, j, none⟩) hlbz (.string ⟨#[]⟩)
       clear hun hwl hwf hcj hfj hb5
       obtain ⟨r0, r1, r2, r3, r4, r5, r6⟩ := hwf5.seven
       obtain ⟨t0, t1, t2, t3, t4, t5, t6⟩ := hwf5.thaws
       obtain ⟨e0, e1, e2, e3, e4, e5, e6⟩ := hwf5.sames
       have hbF := hz5
       go_wp2_with fail
       (try simp only [Exit.inBlock, Exit.then])
       refine bodyPost_ret (v := .tuple #[.agg #[.int .i64 0, .string ⟨a.toArray⟩, .string ⟨#[]⟩, .string ⟨#[]⟩, .string ⟨#[]⟩, .slice none 0 0, .slice none 0 0], .bool false]) ?_ rfl (LeafRet.no HLN.out hbF)
       rw [results_cell_tmp rfl]
       go_simp
      | some u =>
       have HS : Hid (FiS.unescL (ps.take (j + 1)) = some (ds ++ [u]) /\ (ds ++ [u]).length = j + 1) := hZ9 ⟨by rw [HTj.out, hu]; rfl, by rw [List.length_append, HDS.out.2]; rfl⟩
       rw [hu] at hun
       have hun : Calls Tryz.prog 73 #[.string ⟨p.toArray⟩] wr fun e w' => e = .returned (.tuple #[.string ⟨u.toArray⟩, .bool true]) /\ Below wr.heap.size wr w' := hun
       clear hnone HTj HRV HDS
       go_wp2_with fail
       refine hun.mono ?_; rintro e w5 ⟨rfl, hb5⟩
       have hcj5 := keepC hcj hb5
       have hfj5 := (hwl.call hb5).thaw j
       have hwl5 := (hwl.call hb5).put j (strV u)
       rw [HREj.out] at hwl5
       have hwl6 : Whole (w5.setCell ⟨lb, j, none⟩ (.string ⟨u.toArray⟩)) lb 9 ((ds ++ [u] ++ ps.drop (j + 1)).map strV).toArray := hwl5
       have hwf5 := (hwf.call hb5).other (p := ⟨lb, j, none⟩) hne (.string ⟨u.toArray⟩)
       have hz5 := (hz.trans (hb5.mono hz.size)).setCell (p := ⟨lb, j, none⟩) hlbz (.string ⟨u.toArray⟩)
       clear hun hwl hwf hcj hfj hb5 hwl5
       go_wp2_with fail
       go_roundw
       case rel => exact ⟨j + 1, ds ++ [u], by omega, rfl, by go_num, HS, hwl6, hwf5, hz5⟩
       case measure => simp [intOf]; omega
    · have hjn : j = n := by omega
      have HU : Hid (FiS.unescL ps = some ds /\ ds.length = n) := hZ9 (by have := HDS.out; rw [hjn, <- HN.out, List.take_length] at this; rw [<- HN.out]; exact this)
      have hwl2 : Whole wr lb 9 (ds.map strV).toArray := by
       have := hwl
       rw [hjn, List.drop_of_length_le (by rw [HN.out]; exact Nat.le_refl _), List.append_nil] at this
       exact this
      have HLP : Hid (FiS.leafS l = some (FiS.piecesF a ds)) := hZ9 (by rw [HRV.out, HU.out.1]; rfl)
      have hdn := HU.out.2
      subst hjn
      have hnl : decide ((j : Int) < (j : Int)) = false := decide_eq_false (by omega)
      clear hwl HDS HTK HUN HRA HRE HPS HRV HU hltj HN
      have hwlD := hwl2.drew
      have hwfD := hwf.drew
      have hzD := hz.drew
      by_cases hn1 : j = 1
      · subst hn1
        obtain ⟨v1, rfl⟩ : ∃ v1, ds = [v1] := by
         match ds, hdn with
         | [x], _ => exact ⟨x, rfl⟩
        have HL3 : Hid (FiS.leafS l = some (.mk 3 a v1 [] [] [] [])) := hZ9 HLP.out
        have c0 : wr.cell? ⟨lb, 0, none⟩ = some (.string ⟨v1.toArray⟩) := hwl2.cell 0
        have c0D : wr.drew.cell? ⟨lb, 0, none⟩ = some (.string ⟨v1.toArray⟩) := hwlD.cell 0
        obtain ⟨s0, s1, s2, s3, s4, s5, s6⟩ := hwf.seven
        obtain ⟨u0, u1, u2, u3, u4, u5, u6⟩ := hwf.thaws
        have hw5 := hwf.put 0 (.int .i64 3)
        simp only [List.setIfInBounds_toArray, List.set_cons_zero] at hw5
        obtain ⟨p0, p1, p2, p3, p4, p5, p6⟩ := hw5.seven
        obtain ⟨q0, q1, q2, q3, q4, q5, q6⟩ := hw5.thaws
        have hw6 := hw5.put 2 (.string ⟨v1.toArray⟩)
        simp only [List.setIfInBounds_toArray, List.set_cons_zero, List.set_cons_succ] at hw6
        have hz6 := ((hz.setCell (p := ⟨w.heap.size, 0, none⟩) (Nat.le_refl _) (.int .i64 3)).setCell (p := ⟨w.heap.size, 2, none⟩) (Nat.le_refl _) (.string ⟨v1.toArray⟩)).drew
        have hw6D := hw6.drew
        clear hwl2 hwf hw5 hw6 hwfD hwlD hzD HLP p0 p1 p2 p3 p4 p5 p6 q0 q1 q2 q3 q4 q5 q6
        go_wp2_with fail
        go_region_held3 (fun W => W.cell? ⟨lb, 0, none⟩ = some (.string ⟨v1.toArray⟩)) (first | exact c0D | exact (World.cell?_setCell_far _ ⟨w.heap.size, 0, none⟩ ⟨lb, 0, none⟩ _ hne).trans (c0D) | exact (World.cell?_setCell_far _ ⟨w.heap.size, 2, none⟩ ⟨lb, 0, none⟩ _ hne).trans ((World.cell?_setCell_far _ ⟨w.heap.size, 0, none⟩ ⟨lb, 0, none⟩ _ hne).trans (c0D))) (fail)
        all_goals clear s0 s1 s2 s3 s4 s5 s6 u0 u1 u2 u3 u4 u5 u6
        all_goals (
         generalize ((wr.setCell ⟨w.heap.size, 0, none⟩ (.int .i64 3)).setCell ⟨w.heap.size, 2, none⟩ (.string ⟨v1.toArray⟩)).drew = w8 at *
         obtain ⟨r0, r1, r2, r3, r4, r5, r6⟩ := hw6D.seven
         obtain ⟨t0, t1, t2, t3, t4, t5, t6⟩ := hw6D.thaws
         obtain ⟨e0, e1, e2, e3, e4, e5, e6⟩ := hw6D.sames
         have hbF := hz6
         go_wp2_with fail
         (try simp only [Exit.inBlock, Exit.then])
         refine bodyPost_ret (v := .tuple #[.agg #[.int .i64 3, .string ⟨a.toArray⟩, .string ⟨v1.toArray⟩, .string ⟨#[]⟩, .string ⟨#[]⟩, .slice none 0 0, .slice none 0 0], .bool true]) ?_ rfl (LeafRet.one HL3.out hbF)
         rw [results_cell_tmp rfl]
         go_simp)
      · have hn2 : 2 <= j := by omega
        have hd0 : 0 < ds.length := by omega
        have hd1 : ds.length - 1 < ds.length := by omega
        have HL4 : Hid (FiS.leafS l = some (.mk 4 a [] (ds[0]'hd0) (ds[ds.length - 1]'hd1) ((ds.drop 1).dropLast) [])) := hZ9 (by rw [HLP.out, FiS.piecesF_many (by omega)])
        have c0 : wr.drew.cell? ⟨lb, 0, none⟩ = some (strV (ds[0]'hd0)) := (hwlD.cell 0).trans (row_all hd0)
        have cl : wr.drew.cell? ⟨lb, ds.length - 1, none⟩ = some (strV (ds[ds.length - 1]'hd1)) := (hwlD.cell _).trans (row_all hd1)
        have hne' : lb ≠ w.heap.size := fun e => hne e.symm
        have hlA := hwl2.other (p := ⟨w.heap.size, 0, none⟩) hne' (.int .i64 4)
        have hlB := hlA.other (p := ⟨w.heap.size, 3, none⟩) hne' (.string ⟨(ds[0]'hd0).toArray⟩)
        have hlC := hlB.other (p := ⟨w.heap.size, 5, none⟩) hne' (.slice (some ⟨lb, 1, none⟩) (j - 1 - 1) (j - 1))
        have cA0 := (hlA.drew.cell 0).trans (row_all hd0)
        have clA := (hlA.drew.cell _).trans (row_all hd1)
        have cB0 := (hlB.drew.cell 0).trans (row_all hd0)
        have clB := (hlB.drew.cell _).trans (row_all hd1)
        have cC0 := (hlC.drew.cell 0).trans (row_all hd0)
        have clC := (hlC.drew.cell _).trans (row_all hd1)
        clear hlA hlB hlC
        generalize ds[0] = f0 at *
        generalize ds[ds.length - 1] = tl at *
        unfold strV at c0 cl cA0 clA cB0 clB cC0 clC
        have hmid := fun W (h : Whole W lb 9 (ds.map strV).toArray) => strs_mid (ok := fun g => w.heap.size <= g) h hlbz (by omega)
        rw [hdn] at cl clA clB clC hmid
        clear hd0 hd1 HLP
        obtain ⟨s0, s1, s2, s3, s4, s5, s6⟩ := hwf.seven
        obtain ⟨u0, u1, u2, u3, u4, u5, u6⟩ := hwf.thaws
        have hw5 := hwf.put 0 (.int .i64 4)
        simp only [List.setIfInBounds_toArray, List.set_cons_zero] at hw5
        have hw6 := hw5.put 3 (.string ⟨f0.toArray⟩)
        simp only [List.setIfInBounds_toArray, List.set_cons_zero, List.set_cons_succ] at hw6
        have hw7 := hw6.put 5 (.slice (some ⟨lb, 1, none⟩) (j - 1 - 1) (j - 1))
        simp only [List.setIfInBounds_toArray, List.set_cons_zero, List.set_cons_succ] at hw7
        have hw8 := hw7.put 4 (.string ⟨tl.toArray⟩)
        simp only [List.setIfInBounds_toArray, List.set_cons_zero, List.set_cons_succ] at hw8
        have hz8 := ((((hz.setCell (p := ⟨w.heap.size, 0, none⟩) (Nat.le_refl _) (.int .i64 4)).setCell (p := ⟨w.heap.size, 3, none⟩) (Nat.le_refl _) (.string ⟨f0.toArray⟩)).setCell (p := ⟨w.heap.size, 5, none⟩) (Nat.le_refl _) (.slice (some ⟨lb, 1, none⟩) (j - 1 - 1) (j - 1))).setCell (p := ⟨w.heap.size, 4, none⟩) (Nat.le_refl _) (.string ⟨tl.toArray⟩)).drew
        have hw8D := hw8.drew
        have hwl8 := ((((hwl2.other (p := ⟨w.heap.size, 0, none⟩) hne' (.int .i64 4)).other (p := ⟨w.heap.size, 3, none⟩) hne' (.string ⟨f0.toArray⟩)).other (p := ⟨w.heap.size, 5, none⟩) hne' (.slice (some ⟨lb, 1, none⟩) (j - 1 - 1) (j - 1))).other (p := ⟨w.heap.size, 4, none⟩) hne' (.string ⟨tl.toArray⟩)).drew
        have HMID := hZ9 (hmid _ hwl8)
        have h1n : ((j : Int) - 1 == 0) = false := by simp; omega
        have hjz : (1 : Int) <= (j : Int) - 1 := by omega
        have hjz2 : (j : Int) - 1 <= (j : Int) := by omega
        have hjz3 : (j : Int) - 1 < (j : Int) := by omega
        have hjz4 : (0 : Int) <= (j : Int) - 1 := by omega
        have hjt : ((j : Int) - 1).toNat = j - 1 := by omega
        have hji : IntKind.i64.wrap ((j : Int) - 1) = (j : Int) - 1 := by rw [IntKind.wrap_i64]; omega
        have hjp : (0 : Int) < (j : Int) := by omega
        have hjp2 : 0 < j := by omega
        have hjp3 : (1 : Int) <= (j : Int) := by omega
        have HW8 := hZ9 hw8D
        have HZ8 := hZ9 hz8
        have HNE := hZ9 hne'
        clear hmid hwf hwl8 hwl2 hwlD hwfD hzD hw5 hw6 hw7 hw8 hw8D hz8 hne' hz
        go_wp2_with fail
        generalize (j : Int) - 1 = LI at *
        refine head_begin 17 (fun W => W.cell? ⟨lb, 0, none⟩ = some (.string ⟨f0.toArray⟩) /\ W.cell? ⟨lb, j - 1, none⟩ = some (.string ⟨tl.toArray⟩)) (by kernel_rfl) (by kernel_rfl) ⟨c0, cl⟩ (fun hHeld => ?_)
        refine head_take 0 ?_ (by simp only [List.length_cons, List.length_nil]; decide) (by kernel_rfl) (fun _ _ _ h => h) (by rfl) ?_ hHeld ?_
        rotate_left
        · intro W hSw; (try simp only [List.getElem_cons_zero]); (try go_split_ands); go_simp; (try with_reducible rfl)
        (try simp only [List.getElem_cons_zero, Act.put, List.setIfInBounds_toArray, List.set_cons_zero, List.set_cons_succ])
        refine head_take 1 ?_ (by simp only [List.length_cons, List.length_nil]; decide) (by kernel_rfl) (fun _ _ _ h => h) (by rfl) ?_ hHeld ?_
        rotate_left
        · intro W hSw; (try simp only [List.getElem_cons_succ, List.getElem_cons_zero]); (try go_split_ands); go_simp; (try with_reducible rfl)
        (try simp only [List.getElem_cons_succ, List.getElem_cons_zero, Act.put, List.setIfInBounds_toArray, List.set_cons_zero, List.set_cons_succ])
        refine head_take 2 ?_ (by simp only [List.length_cons, List.length_nil]; decide) (by kernel_rfl) (fun _ _ _ h => h) (by rfl) ?_ hHeld ?_
        rotate_left
        · intro W hSw; (try simp only [List.getElem_cons_succ, List.getElem_cons_zero]); (try go_split_ands); go_simp; (try with_reducible rfl)
        (try simp only [List.getElem_cons_succ, List.getElem_cons_zero, Act.put, List.setIfInBounds_toArray, List.set_cons_zero, List.set_cons_succ])
        refine head_take 3 ?_ (by simp only [List.length_cons, List.length_nil]; decide) (by kernel_rfl) (fun _ _ _ h => h) (by rfl) ?_ hHeld ?_
        rotate_left
        · intro W hSw; (try simp only [List.getElem_cons_succ, List.getElem_cons_zero]); (try go_split_ands); go_simp; (try with_reducible rfl)
        (try simp only [List.getElem_cons_succ, List.getElem_cons_zero, Act.put, List.setIfInBounds_toArray, List.set_cons_zero, List.set_cons_succ])
        refine head_take 4 ?_ (by simp only [List.length_cons, List.length_nil]; decide) (by kernel_rfl) (fun _ _ _ h => h) (by rfl) ?_ hHeld ?_
        rotate_left
        · intro W hSw; (try simp only [List.getElem_cons_succ, List.getElem_cons_zero]); (try go_split_ands); go_simp; (try with_reducible rfl)
        (try simp only [List.getElem_cons_succ, List.getElem_cons_zero, Act.put, List.setIfInBounds_toArray, List.set_cons_zero, List.set_cons_succ])
        refine head_take 5 ?_ (by simp only [List.length_cons, List.length_nil]; decide) (by kernel_rfl) (fun _ _ _ h => h) (by rfl) ?_ hHeld ?_
        rotate_left
        · intro W hSw; (try simp only [List.getElem_cons_succ, List.getElem_cons_zero]); (try go_split_ands); go_simp; (try with_reducible rfl)
        (try simp only [List.getElem_cons_succ, List.getElem_cons_zero, Act.put, List.setIfInBounds_toArray, List.set_cons_zero, List.set_cons_succ])
        refine head_take 6 ?_ (by simp only [List.length_cons, List.length_nil]; decide) (by kernel_rfl) (fun _ _ _ h => h) (by rfl) ?_ hHeld ?_
        rotate_left
        · intro W hSw; (try simp only [List.getElem_cons_succ, List.getElem_cons_zero]); (try go_split_ands); go_simp; (try with_reducible rfl)
        (try simp only [List.getElem_cons_succ, List.getElem_cons_zero, Act.put, List.setIfInBounds_toArray, List.set_cons_zero, List.set_cons_succ])
        refine head_take 7 ?_ (by simp only [List.length_cons, List.length_nil]; decide) (by kernel_rfl) (fun _ _ _ h => h) (by rfl) ?_ hHeld ?_
        rotate_left
        · intro W hSw; (try simp only [List.getElem_cons_succ, List.getElem_cons_zero]); (try go_split_ands); go_simp; (try with_reducible rfl)
        (try simp only [List.getElem_cons_succ, List.getElem_cons_zero, Act.put, List.setIfInBounds_toArray, List.set_cons_zero, List.set_cons_succ])
        refine head_take 8 ?_ (by simp only [List.length_cons, List.length_nil]; decide) (by kernel_rfl) (fun _ _ _ h => h) (by rfl) ?_ hHeld ?_
        rotate_left
        · intro W hSw; (try simp only [List.getElem_cons_succ, List.getElem_cons_zero]); (try go_split_ands); go_simp; (try with_reducible rfl)
        (try simp only [List.getElem_cons_succ, List.getElem_cons_zero, Act.put, List.setIfInBounds_toArray, List.set_cons_zero, List.set_cons_succ])
        refine head_take 9 ?_ (by simp only [List.length_cons, List.length_nil]; decide) (by kernel_rfl) (fun _ _ _ h => h) (by rfl) ?_ hHeld ?_
        rotate_left
        · intro W hSw; (try simp only [List.getElem_cons_succ, List.getElem_cons_zero]); (try go_split_ands); go_simp; (try with_reducible rfl)
        (try simp only [List.getElem_cons_succ, List.getElem_cons_zero, Act.put, List.setIfInBounds_toArray, List.set_cons_zero, List.set_cons_succ])
        refine head_take 10 ?_ (by simp only [List.length_cons, List.length_nil]; decide) (by kernel_rfl) (fun _ _ _ h => h) (by rfl) ?_ hHeld ?_
        rotate_left
        · intro W hSw; (try simp only [List.getElem_cons_succ, List.getElem_cons_zero]); (try go_split_ands); go_simp; (try with_reducible rfl)
        (try simp only [List.getElem_cons_succ, List.getElem_cons_zero, Act.put, List.setIfInBounds_toArray, List.set_cons_zero, List.set_cons_succ])
        refine head_step 11 (by simp only [List.length_cons, List.length_nil]; decide) (by kernel_rfl) (fun K hK => ?_)
        (try simp only [List.getElem_cons_succ, List.getElem_cons_zero])
        refine if_step (by rfl) ?_
        go_simp
        clear hHeld
        refine hK.out _ _ ?_ (fun hHeld => ?_)
        · exact ⟨cA0, clA⟩
        clear hK K
        (try simp only [List.getElem_cons_succ, List.getElem_cons_zero, Act.put, List.setIfInBounds_toArray, List.set_cons_zero, List.set_cons_succ])
        refine head_take 12 ?_ (by simp only [List.length_cons, List.length_nil]; decide) (by kernel_rfl) (fun _ _ _ h => h) (by rfl) ?_ hHeld ?_
        rotate_left
        · intro W hSw; (try simp only [List.getElem_cons_succ, List.getElem_cons_zero]); (try go_split_ands); go_simp; (try with_reducible rfl)
        (try simp only [List.getElem_cons_succ, List.getElem_cons_zero, Act.put, List.setIfInBounds_toArray, List.set_cons_zero, List.set_cons_succ])
        refine head_step 13 (by simp only [List.length_cons, List.length_nil]; decide) (by kernel_rfl) (fun K hK => ?_)
        (try simp only [List.getElem_cons_succ, List.getElem_cons_zero])
        refine if_step (by rfl) ?_
        go_simp
        clear hHeld
        refine hK.out _ _ ?_ (fun hHeld => ?_)
        · exact ⟨cB0, clB⟩
        clear hK K
        (try simp only [List.getElem_cons_succ, List.getElem_cons_zero, Act.put, List.setIfInBounds_toArray, List.set_cons_zero, List.set_cons_succ])
        refine head_take 14 ?_ (by simp only [List.length_cons, List.length_nil]; decide) (by kernel_rfl) (fun _ _ _ h => h) (by rfl) ?_ hHeld ?_
        rotate_left
        · intro W hSw; (try simp only [List.getElem_cons_succ, List.getElem_cons_zero]); (try go_split_ands); go_simp; (try with_reducible rfl)
        (try simp only [List.getElem_cons_succ, List.getElem_cons_zero, Act.put, List.setIfInBounds_toArray, List.set_cons_zero, List.set_cons_succ])
        refine head_step 15 (by simp only [List.length_cons, List.length_nil]; decide) (by kernel_rfl) (fun K hK => ?_)
        (try simp only [List.getElem_cons_succ, List.getElem_cons_zero])
        refine if_step (by rfl) ?_
        go_simp
        clear hHeld
        refine hK.out _ _ ?_ (fun hHeld => ?_)
        · exact ⟨cC0, clC⟩
        clear hK K
        (try simp only [List.getElem_cons_succ, List.getElem_cons_zero, Act.put, List.setIfInBounds_toArray, List.set_cons_zero, List.set_cons_succ])
        refine head_take 16 ?_ (by simp only [List.length_cons, List.length_nil]; decide) (by kernel_rfl) (fun _ _ _ h => h) (by rfl) ?_ hHeld ?_
        rotate_left
        · intro W hSw; (try simp only [List.getElem_cons_succ, List.getElem_cons_zero]); (try go_split_ands); go_simp; (try with_reducible rfl)
        (try simp only [List.getElem_cons_succ, List.getElem_cons_zero, Act.put, List.setIfInBounds_toArray, List.set_cons_zero, List.set_cons_succ])
        refine head_end (by kernel_rfl) ?_
        simp only [List.drop_succ_cons, List.drop_zero]
        clear hHeld
        go_upto_region 33 with fail
        clear s0 s1 s2 s3 s4 s5 s6 u0 u1 u2 u3 u4 u5 u6 c0 cl cA0 clA cB0 clB cC0 clC
        generalize ((((wr.setCell ⟨w.heap.size, 0, none⟩ (.int .i64 4)).setCell ⟨w.heap.size, 3, none⟩ (.string ⟨f0.toArray⟩)).setCell ⟨w.heap.size, 5, none⟩ (.slice (some ⟨lb, 1, none⟩) (j - 1 - 1) (j - 1))).setCell ⟨w.heap.size, 4, none⟩ (.string ⟨tl.toArray⟩)).drew = w8 at *
        have hw8D := HW8.out
        have hz8 := HZ8.out
        obtain ⟨r0, r1, r2, r3, r4, r5, r6⟩ := hw8D.seven
        obtain ⟨t0, t1, t2, t3, t4, t5, t6⟩ := hw8D.thaws
        obtain ⟨e0, e1, e2, e3, e4, e5, e6⟩ := hw8D.sames
        have hbF := hz8
        go_wp2_with fail
        (try simp only [Exit.inBlock, Exit.then])
        refine bodyPost_ret (v := .tuple #[.agg #[.int .i64 4, .string ⟨a.toArray⟩, .string ⟨#[]⟩, .string ⟨f0.toArray⟩, .string ⟨tl.toArray⟩, .slice (some ⟨lb, 1, none⟩) (j - 1 - 1) (j - 1), .slice none 0 0], .bool true]) ?_ rfl (LeafRet.many HL4.out HMID.out hbF)
        rw [results_cell_tmp rfl]
        go_simp
end Go.Proofs.YtjmfknfponjgkaaGreatDoor
