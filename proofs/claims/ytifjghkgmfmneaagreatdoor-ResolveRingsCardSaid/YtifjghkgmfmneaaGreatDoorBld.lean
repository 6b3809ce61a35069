/- The walks of a strings.Builder's writers, at a builder that the call itself has made. Conditions: what is held and what is written are at most 1000000000 bytes. -/
import Derived.Test.YtifjghkgmfmneaaGreatDoorMem
import Derived.Lib.Builder
import Derived.Laws.Externs
import Derived.Lib.AppendStr
namespace Go.Proofs.YtifjghkgmfmneaaGreatDoor
open Go.RowKit

/-- the block b is a builder of the call's own that holds the bytes l -/
def Bld (B b : Nat) (l : List UInt8) (w : World) : Prop := Lib.IsBuilder 159 5 B b (l.map byteV) w
def BldU (B b : Nat) (l : List UInt8) (w : World) : Prop := Lib.BuilderAt 159 5 B b (.pointer (some ⟨b, 0, none⟩)) (l.map byteV) w
theorem BldU.bld {B b : Nat} {l : List UInt8} {w : World} (h : BldU B b l w) : Bld B b l w := .inr h
theorem Bld.fresh (w : World) : Bld w.heap.size w.heap.size [] (w.alloc (.cells #[.pointer none, .slice none 0 0] 159)) := Lib.fresh_isBuilder _ _ w
theorem Bld.lt {B b : Nat} {l : List UInt8} {w : World} (h : Bld B b l w) : b < w.heap.size ∧ B ≤ b := by
  rcases h with h | h
  · exact ⟨h.lt, h.1⟩
  · exact ⟨h.lt, h.1⟩
theorem bldAt_call {B b : Nat} {p : Value} {bs : List Value} {w w' : World} (h : Lib.BuilderAt 159 5 B b p bs w) (hb : Below w.heap.size w w') : Lib.BuilderAt 159 5 B b p bs w' := by
  have hlt := h.lt
  obtain ⟨hB, v, hbk, hown, hne⟩ := h
  exact ⟨hB, v, by rw [hb.block b hlt]; exact hbk, World.ownsRow.kept hown (grown_none hb) (by cases v.ownBlock <;> simp), hne⟩
theorem Bld.call {B b : Nat} {l : List UInt8} {w w' : World} (h : Bld B b l w) (hb : Below w.heap.size w w') : Bld B b l w' := by
  rcases h with h | h
  · exact .inl (bldAt_call h hb)
  · exact .inr (bldAt_call h hb)
theorem Bld.alloc {B b : Nat} {l : List UInt8} {w : World} (h : Bld B b l w) (o : Obj) : Bld B b l (w.alloc o) := h.call (grow1 w o)
theorem Bld.drew {B b : Nat} {l : List UInt8} {w : World} (h : Bld B b l w) : Bld B b l w.drew := h.call ((Below.refl _ _).drew)
theorem bld_ne : (159 : Nat) ≠ 5 := by decide
theorem infoBld : (Tryz.prog.info? 159).map (·.size) = some 2 := by kernel_rfl
theorem liesBld : liesAt Tryz.prog Tryz.prog.depth 159 (2 / Tryz.prog.cellsOf 159) 0 159 1 = true := by kernel_rfl

/-- no block but b, and rows of bytes, has turned -/
def Others (b : Nat) (w w' : World) : Prop := ∀ k, k < w.heap.size → k ≠ b → (∀ cs fz, w.heap[k]? ≠ some (.cells cs 5 fz)) → w'.heap[k]? = w.heap[k]?
theorem Others.refl (b : Nat) (w : World) : Others b w w := fun _ _ _ _ => rfl
theorem Others.trans {b : Nat} {u v w : World} (h : Others b u v) (h2 : Others b v w) (hs : u.heap.size ≤ v.heap.size) : Others b u w := fun k hk hb hn => by
  have e := h k hk hb hn
  rw [h2 k (by omega) hb (by rw [e]; exact hn), e]
theorem Others.alloc {b : Nat} {w w' : World} (h : Others b w w') (hs : w.heap.size ≤ w'.heap.size) (o : Obj) : Others b w (w'.alloc o) := fun k hk hb hn => by
  rw [Below.heap_alloc _ _ _ (by omega)]; exact h k hk hb hn
theorem Others.drew {b : Nat} {w w' : World} (h : Others b w w') : Others b w w'.drew := h
theorem Others.of_ne {b : Nat} {w w' : World} (h : ∀ k, k ≠ b → w'.heap[k]? = w.heap[k]?) : Others b w w' := fun k _ hb _ => h k hb
theorem Others.grown {b : Nat} {w w2 : World} {B : Nat} {v : Value} {n : Nat} {xs : List Value} (hg : w.grownBy w2 v.ownBlock) (hown : w.ownsRow B 5 1 v n xs) : Others b w w2 := fun k hk _ hn => by
  refine hg.block k hk (fun e => ?_)
  rcases hown.2 with ⟨rfl, _⟩ | ⟨g, cap, cur, rfl, _, hh, _⟩
  · cases e
  · cases e; exact hn _ _ hh
theorem Others.setCell {b : Nat} {w w' : World} (h : Others b w w') (i : Nat) (u : Value) : Others b w (w'.setCell ⟨b, i, none⟩ u) := fun k hk hb hn => by
  rw [Below.heap_setCell _ _ _ _ hb]; exact h k hk hb hn
theorem Others.cell {b : Nat} {w w' : World} (h : Others b w w') {g : Nat} {T : TypeId} {cs : Array Value} (hT : T ≠ 5) (hb : g ≠ b) (hw : Whole w g T cs) : Whole w' g T cs := by
  unfold Whole at hw ⊢
  rw [h g (Array.getElem?_eq_some_iff.1 hw).1 hb (fun cs2 fz e => by rw [hw] at e; cases e; exact hT rfl)]
  exact hw

set_option maxRecDepth 100000 in
theorem copyCheck_used (b : Nat) (w : World) (h0 : w.cell? ⟨b, 0, none⟩ = some (.pointer (some ⟨b, 0, none⟩))) :
    Calls Tryz.prog 233 #[.pointer (some ⟨b, 0, none⟩)] w fun e w' => e = .returned (.tuple #[]) ∧ w = w' := by
  obtain ⟨j, hj, _⟩ := Option.map_eq_some_iff.1 infoBld
  have hsame := fun w => Lib.run_neq_ptr_same (P := Tryz.prog) w ⟨b, 0, none⟩ Tryz.underlying157 hj
  clear hj
  go_enter Tryz.func233, Tryz.ntmps233
  go_wp2_with fail
  go_end0
  exact ⟨rfl, rfl⟩

set_option maxRecDepth 100000 in
theorem copyCheck_fresh (b : Nat) (w : World) (h0 : w.cell? ⟨b, 0, none⟩ = some (.pointer none)) (hsh : w.shape? b = some (159, 2)) (hfz : w.frozen? ⟨b, 0, none⟩ = false) :
    Calls Tryz.prog 233 #[.pointer (some ⟨b, 0, none⟩)] w fun e w' => e = .returned (.tuple #[]) ∧ (w.setCell ⟨b, 0, none⟩ (.pointer (some ⟨b, 0, none⟩))) = w' := by
  obtain ⟨j, hj, hjs⟩ := Option.map_eq_some_iff.1 infoBld
  have c1 := Lib.run_to_unsafe (P := Tryz.prog) w ⟨b, 0, none⟩ Tryz.underlying157 Tryz.underlying292 hj (by rw [hjs]; decide) hsh (Nat.zero_lt_succ 1)
  have c2 := Lib.run_from_unsafe (P := Tryz.prog) w ⟨b, 0, none⟩ Tryz.underlying292 Tryz.underlying157 hj hsh liesBld
  have hne : (callFunc 275 #[.pointer (some ⟨b, 0, none⟩)]).run Tryz.prog w = .ok (.value (.pointer (some ⟨b, 0, none⟩))) w := by
    rw [run_callFunc_extern Tryz.func275 (by kernel_rfl) (by kernel_rfl) (by kernel_rfl) (e := Extern.AbiNoEscape.same) (by kernel_rfl), Lib.run_noEscape]
    rfl
  clear hj hjs
  go_enter Tryz.func233, Tryz.ntmps233
  go_wp2_with fail
  go_end0
  exact ⟨rfl, rfl⟩

theorem copyCheck_c (B b : Nat) (l : List UInt8) (w : World) (h : Bld B b l w) :
    Calls Tryz.prog 233 #[.pointer (some ⟨b, 0, none⟩)] w fun e w' => e = .returned (.tuple #[]) ∧ BldU B b l w' ∧ Below B w w' ∧ (∀ k, k ≠ b → w'.heap[k]? = w.heap[k]?) ∧ w.heap.size ≤ w'.heap.size := by
  rcases h with h | h
  · refine (copyCheck_fresh b w h.cell0 h.shape h.frozen0).mono ?_
    rintro e w' ⟨rfl, rfl⟩
    exact ⟨rfl, h.used _, (Below.refl B w).setCell (p := ⟨b, 0, none⟩) h.1 _, fun k hk => Below.heap_setCell _ _ _ _ hk, by simp [World.setCell]⟩
  · refine (copyCheck_used b w h.cell0).mono ?_
    rintro e w' ⟨rfl, rfl⟩
    exact ⟨rfl, h, Below.refl B _, fun _ _ => rfl, Nat.le_refl _⟩

/-- what a writer finds behind copyCheck -/
theorem BldU.open_ {B b : Nat} {l : List UInt8} {w : World} (h : BldU B b l w) : ∃ v, w.heap[b]? = some (.cells #[.pointer (some ⟨b, 0, none⟩), v] 159 (0, 0)) ∧ OwnB w B v l ∧ v.ownBlock ≠ some b ∧ b < w.heap.size ∧ B ≤ b ∧
    w.cell? ⟨b, 0, none⟩ = some (.pointer (some ⟨b, 0, none⟩)) ∧ w.cell? ⟨b, 1, none⟩ = some v := by
  have hlt := h.lt
  obtain ⟨hB, v, hbk, hown, hne⟩ := h
  refine ⟨v, hbk, ?_, hne, hlt, hB, ?_, ?_⟩
  · unfold OwnB; rw [List.length_map] at hown; exact hown
  · rw [Lib.cell_of_heap hbk]; rfl
  · rw [Lib.cell_of_heap hbk]; rfl
/-- what it leaves -/
theorem BldU.stored {B b : Nat} {l : List UInt8} {w w2 : World} {v v' : Value} {row : Option Nat} (hbk : w.heap[b]? = some (.cells #[.pointer (some ⟨b, 0, none⟩), v] 159 (0, 0))) (hlt : b < w.heap.size) (hB : B ≤ b)
    (hg : w.grownBy w2 row) (hne : row ≠ some b) (hown : OwnB w2 B v' l) : w2.cell? ⟨b, 0, none⟩ = some (.pointer (some ⟨b, 0, none⟩)) ∧ w2.cell? ⟨b, 1, none⟩ = some v ∧ w2.frozen? ⟨b, 1, none⟩ = false ∧ BldU B b l (w2.setCell ⟨b, 1, none⟩ v') := by
  have hb2 : w2.heap[b]? = some (.cells #[.pointer (some ⟨b, 0, none⟩), v] 159 (0, 0)) := by
    rw [hg.block b hlt (fun e => hne e.symm)]; exact hbk
  refine ⟨by rw [Lib.cell_of_heap hb2]; rfl, by rw [Lib.cell_of_heap hb2]; rfl, Lib.frozen_of_heap hb2 1, ?_⟩
  exact Lib.BuilderAt.put hB hb2 (by unfold OwnB at hown; rw [List.length_map]; exact hown) bld_ne

set_option maxRecDepth 100000 in
theorem writeByte_k (B b : Nat) (l : List UInt8) (c : UInt8) (w : World) (h : Bld B b l w) (hl : l.length ≤ 900000000) (hBw : B ≤ w.heap.size) :
    Calls Tryz.prog 183 #[.pointer (some ⟨b, 0, none⟩), .int .u8 (c.toNat : Int)] w fun e w' => e = .returned .nilIface ∧ BldU B b (l ++ [c]) w' ∧ Below B w w' ∧ Others b w w' := by
  have hcc := copyCheck_c B b l w h
  clear h
  go_enter Tryz.func183, Tryz.ntmps183
  go_wp2_with fail
  refine hcc.mono ?_; rintro e w1 ⟨rfl, hu, hb1, hfr, hsz0⟩
  obtain ⟨v, hbk, hown, hne, hlt, hB, c0, c1⟩ := hu.open_
  obtain ⟨a, cp, rfl⟩ := hown.form
  have hsz := hb1.size
  have HOW := Lib.hid hown
  have HNE := Lib.hid hne
  have HBK := Lib.hid hbk
  have HO1 := Lib.hid (Others.of_ne hfr)
  clear hcc hne hbk hu hfr
  go_wp2_with (at_builtin; refine push_bytes_g (by rfl) _ _ (by rfl) B _ l (by rfl) (hown.alloc _) w1.heap.size 1 1 (by rfl) [c] (by rfl) ?c1 ?c2 ?c3 ?_)
  case c1 => first | exact one_cell (by simp [go_sem, byteV]) | exact one_list _
  case c2 => simp; omega
  case c3 => simp; omega
  intro v' w2 hown2 hb2 hg2
  have HO2 : Hid (Others b w w2) := Lib.hid ((HO1.out.alloc hsz0 _).trans (Others.grown hg2 (OwnB.alloc HOW.out _)) (by simp; omega))
  obtain ⟨a2, cp2, rfl⟩ := hown2.form
  have hbk2 : (w1.alloc (.cells #[.int .u8 (c.toNat : Int)] 5)).heap[b]? = some (.cells #[.pointer (some ⟨b, 0, none⟩), .slice a l.length cp] 159 (0, 0)) := by
    rw [Below.heap_alloc _ _ _ hlt]; exact HBK.out
  obtain ⟨d0, d1, f1, hfin⟩ := BldU.stored hbk2 (by simp; omega) hB hg2 HNE.out hown2
  rw [show (l ++ [c]).length = l.length + 1 from by simp] at hfin
  have HFIN := Lib.hid hfin
  clear hbk2 hfin
  go_wp2_with fail
  go_ret
  exact ⟨rfl, HFIN.out, ((hb1.alloc (by omega) _).trans hb2).setCell (p := ⟨b, 1, none⟩) hB _, HO2.out.setCell 1 _⟩

theorem writeByte_c (B b : Nat) (l : List UInt8) (c : UInt8) (w : World) (h : Bld B b l w) (hl : l.length ≤ 900000000) (hBw : B ≤ w.heap.size) :
    Calls Tryz.prog 183 #[.pointer (some ⟨b, 0, none⟩), .int .u8 (c.toNat : Int)] w fun e w' => e = .returned .nilIface ∧ BldU B b (l ++ [c]) w' ∧ Below B w w' :=
  (writeByte_k B b l c w h hl hBw).mono fun _ _ h => ⟨h.1, h.2.1, h.2.2.1⟩

set_option maxRecDepth 100000 in
theorem write_k (B b : Nat) (l : List UInt8) (g m cq : Nat) (ys : List UInt8) (w : World) (h : Bld B b l w) (hl : l.length + m ≤ 900000000) (hBw : B ≤ w.heap.size) (hm : ys.length = m) (hgb : g ≠ b)
    (hy : ∀ (j : Nat) (y : UInt8), ys[j]? = some y → w.cell? ⟨g, j, none⟩ = some (byteV y)) :
    Calls Tryz.prog 234 #[.pointer (some ⟨b, 0, none⟩), .slice (some ⟨g, 0, none⟩) m cq] w fun e w' => e = .returned (.tuple #[.int .i64 m, .nilIface]) ∧ BldU B b (l ++ ys) w' ∧ Below B w w' ∧ Others b w w' := by
  have hcc := copyCheck_c B b l w h
  clear h
  go_enter Tryz.func234, Tryz.ntmps234
  go_wp2_with fail
  refine hcc.mono ?_; rintro e w1 ⟨rfl, hu, hb1, hfr, hsz0⟩
  have hyc : ∀ (j : Nat) (y : UInt8), ys[j]? = some y → w1.cell? ⟨g, j, none⟩ = some (byteV y) := fun j y hj =>
    (World.cell?_of_block (a := ⟨g, j, none⟩) (hfr g hgb)).trans (hy j y hj)
  have HYC := Lib.hid hyc
  clear hy hyc
  obtain ⟨v, hbk, hown, hne, hlt, hB, c0, c1⟩ := hu.open_
  obtain ⟨a, cp, rfl⟩ := hown.form
  have hsz := hb1.size
  have HOW := Lib.hid hown
  have HNE := Lib.hid hne
  have HBK := Lib.hid hbk
  have HM := Lib.hid hm
  have HO1 := Lib.hid (Others.of_ne hfr)
  clear hcc hne hbk hu hm hfr
  go_wp2_with (at_builtin; refine push_bytes_g (by rfl) _ _ (by rfl) B _ l (by rfl) hown g m cq (by rfl) ys HM.out HYC.out ?c2 ?c3 ?_)
  case c2 => omega
  case c3 => omega
  intro v' w2 hown2 hb2 hg2
  have HO2 : Hid (Others b w w2) := Lib.hid (HO1.out.trans (Others.grown hg2 HOW.out) hsz0)
  obtain ⟨a2, cp2, rfl⟩ := hown2.form
  obtain ⟨d0, d1, f1, hfin⟩ := BldU.stored HBK.out hlt hB hg2 HNE.out hown2
  rw [show (l ++ ys).length = l.length + ys.length from List.length_append] at hfin
  have HFIN := Lib.hid hfin
  clear hfin
  go_wp2_with fail
  go_ret2
  exact ⟨rfl, HFIN.out, (hb1.trans hb2).setCell (p := ⟨b, 1, none⟩) hB _, HO2.out.setCell 1 _⟩

theorem write_c (B b : Nat) (l : List UInt8) (g m cq : Nat) (ys : List UInt8) (w : World) (h : Bld B b l w) (hl : l.length + m ≤ 900000000) (hBw : B ≤ w.heap.size) (hm : ys.length = m) (hgb : g ≠ b)
    (hy : ∀ (j : Nat) (y : UInt8), ys[j]? = some y → w.cell? ⟨g, j, none⟩ = some (byteV y)) :
    Calls Tryz.prog 234 #[.pointer (some ⟨b, 0, none⟩), .slice (some ⟨g, 0, none⟩) m cq] w fun e w' => e = .returned (.tuple #[.int .i64 m, .nilIface]) ∧ BldU B b (l ++ ys) w' ∧ Below B w w' :=
  (write_k B b l g m cq ys w h hl hBw hm hgb hy).mono fun _ _ h => ⟨h.1, h.2.1, h.2.2.1⟩

set_option maxRecDepth 100000 in
theorem writeString_k (B b : Nat) (l : List UInt8) (s : ByteArray) (w : World) (h : Bld B b l w) (hl : l.length + s.size ≤ 900000000) (hBw : B ≤ w.heap.size) :
    Calls Tryz.prog 184 #[.pointer (some ⟨b, 0, none⟩), .string s] w fun e w' => e = .returned (.tuple #[.int .i64 s.size, .nilIface]) ∧ BldU B b (l ++ s.data.toList) w' ∧ Below B w w' ∧ Others b w w' := by
  obtain ⟨i0, hi, hz0, hz1, hz2⟩ := info_parts infoU8
  have HI := Lib.hid hi
  have hcc := copyCheck_c B b l w h
  clear h hi
  go_enter Tryz.func184, Tryz.ntmps184
  go_wp2_with fail
  refine hcc.mono ?_; rintro e w1 ⟨rfl, hu, hb1, hfr, hsz0⟩
  obtain ⟨v, hbk, hown, hne, hlt, hB, c0, c1⟩ := hu.open_
  obtain ⟨a, cp, rfl⟩ := hown.form
  have hsz := hb1.size
  have HOW := Lib.hid hown
  have HNE := Lib.hid hne
  have HBK := Lib.hid hbk
  have hown1 : w1.ownsRow B 5 1 (.slice a l.length cp) l.length (l.map byteV) := hown
  have HO1 := Lib.hid (Others.of_ne hfr)
  clear hcc hne hbk hu hown hfr
  go_wp2_with (at_builtin; refine Lib.wpList_append_own_string _ (by rfl) _ _ 125 9 (by rfl) B 5 i0 Tryz.underlying125 Tryz.underlying9 HI.out hz0 hz1 hz2 _ _ _ (by rfl) hown1 s (by rfl) ?c3 ?c4 ?c5 ?_)
  case c3 => unfold maxLen; omega
  case c4 => omega
  case c5 => omega
  intro v' w2 hown2 hg2 _
  have HO2 : Hid (Others b w w2) := Lib.hid (HO1.out.trans (Others.grown hg2 HOW.out) hsz0)
  have hcells : Lib.strCells s = s.data.toList.map byteV := by
    unfold Lib.strCells byteV; first | rfl | simp
  have hown3 : OwnB w2 B v' (l ++ s.data.toList) := by
    unfold OwnB
    rw [List.map_append, List.length_append, ← Lib.size_eq, ← hcells]
    exact hown2
  clear hown2
  obtain ⟨a2, cp2, rfl⟩ := hown3.form
  obtain ⟨d0, d1, f1, hfin⟩ := BldU.stored HBK.out hlt hB hg2 HNE.out hown3
  rw [show (l ++ s.data.toList).length = l.length + s.data.toList.length from List.length_append] at hfin
  have HFIN := Lib.hid hfin
  have hb2 : Below B w1 w2 := (Below.refl B w1).grown hg2 (by omega) (fun k hk => (World.ownsRow.lt hown1 k hk).1)
  clear hfin
  go_wp2_with fail
  go_ret2
  exact ⟨rfl, by first | exact HFIN.out | simpa using HFIN.out, (hb1.trans hb2).setCell (p := ⟨b, 1, none⟩) hB _, HO2.out.setCell 1 _⟩

theorem writeString_c (B b : Nat) (l : List UInt8) (s : ByteArray) (w : World) (h : Bld B b l w) (hl : l.length + s.size ≤ 900000000) (hBw : B ≤ w.heap.size) :
    Calls Tryz.prog 184 #[.pointer (some ⟨b, 0, none⟩), .string s] w fun e w' => e = .returned (.tuple #[.int .i64 s.size, .nilIface]) ∧ BldU B b (l ++ s.data.toList) w' ∧ Below B w w' :=
  (writeString_k B b l s w h hl hBw).mono fun _ _ h => ⟨h.1, h.2.1, h.2.2.1⟩

end Go.Proofs.YtifjghkgmfmneaaGreatDoor
