/- A strings.Builder whose row lies behind a block C: what lies ahead of C stays (also rows of bytes). The walks of its writers; of a filter's escape. Conditions: those that each theorem states. The walks of how a filter's value is written: escape and sign, the program's and the document's. Conditions: at most 20000 bytes. -/
import Derived.Deep.DrawnRows
import Derived.Deep.RegionHeld3
import Derived.Deep.Onto
import Derived.Test.YtjmfknfponjgkaaGreatDoorQRda
import Derived.Test.YtjmfknfponjgkaaGreatDoorQFiS
namespace Go.Proofs.YtjmfknfponjgkaaGreatDoor
open Go.RowKit
open FiS (Fi)

/-- the block b is a builder that holds the bytes l in a row at C or behind it -/
def Bld2 (C b : Nat) (l : List UInt8) (w : World) : Prop := b < C ∧ C ≤ w.heap.size ∧ ∃ p v, (p = .pointer none ∨ p = .pointer (some ⟨b, 0, none⟩)) ∧ w.heap[b]? = some (.cells #[p, v] 63 (0, 0)) ∧ OwnB w C v l
/-- what lies ahead of C, but b, stays -/
def Kept2 (C b : Nat) (w w' : World) : Prop := Below b w w' ∧ ∀ k, k < C → k ≠ b → w'.heap[k]? = w.heap[k]?
theorem Kept2.refl (C b : Nat) (w : World) : Kept2 C b w w := ⟨Below.refl _ _, fun _ _ _ => rfl⟩
theorem Kept2.trans {C b : Nat} {u v w : World} (h : Kept2 C b u v) (h2 : Kept2 C b v w) : Kept2 C b u w := ⟨h.1.trans h2.1, fun k hk hb => (h2.2 k hk hb).trans (h.2 k hk hb)⟩
theorem Kept2.of_below {C b : Nat} {w w' : World} (h : Below C w w') (hb : b ≤ C) : Kept2 C b w w' := ⟨h.mono hb, fun k hk _ => h.block k hk⟩
theorem Kept2.alloc {C b : Nat} {w w' : World} (h : Kept2 C b w w') (hb : b ≤ C) (hC : C ≤ w'.heap.size) (o : Obj) : Kept2 C b w (w'.alloc o) := h.trans (Kept2.of_below ((grow1 w' o).mono hC) hb)
theorem Kept2.drew {C b : Nat} {w w' : World} (h : Kept2 C b w w') : Kept2 C b w w'.drew := ⟨h.1.drew, h.2⟩
theorem Kept2.setCell {C b : Nat} {w w' : World} (h : Kept2 C b w w') (i : Nat) (u : Value) : Kept2 C b w (w'.setCell ⟨b, i, none⟩ u) := ⟨h.1.setCell (p := ⟨b, i, none⟩) (Nat.le_refl _) u, fun k hk hb => by
  rw [Below.heap_setCell _ _ _ _ hb]; exact h.2 k hk hb⟩
theorem Kept2.bytes {C b g : Nat} {w w' : World} {l : List UInt8} (h : Kept2 C b w w') (hg : g < C) (hne : g ≠ b) (hin : BytesIn w g l) : BytesIn w' g l := by
  have e := h.2 g hg hne
  refine ⟨Nat.lt_of_lt_of_le hin.1 h.1.size, fun j hj => ⟨(World.cell?_of_block (a := ⟨g, j, none⟩) e).trans (hin.cell hj), ?_⟩⟩
  have h2 := hin.thaw hj
  unfold World.frozen? at h2 ⊢
  rw [e]; exact h2
theorem Bld2.call {C b : Nat} {l : List UInt8} {w w' : World} (h : Bld2 C b l w) (hb : Below w.heap.size w w') : Bld2 C b l w' := by
  obtain ⟨h1, h2, p, v, hp, h3, h4⟩ := h
  exact ⟨h1, Nat.le_trans h2 hb.size, p, v, hp, (hb.block b (by omega)).trans h3, h4.call hb⟩
theorem Bld2.alloc {C b : Nat} {l : List UInt8} {w : World} (h : Bld2 C b l w) (o : Obj) : Bld2 C b l (w.alloc o) := h.call (grow1 w o)
theorem Bld2.drew {C b : Nat} {l : List UInt8} {w : World} (h : Bld2 C b l w) : Bld2 C b l w.drew := h.call ((Below.refl _ _).drew)
theorem Bld2.bld {C b : Nat} {l : List UInt8} {w : World} (h : Bld2 C b l w) : Bld b b l w := by
  obtain ⟨h1, h2, p, v, hp, h3, h4⟩ := h
  have hne : v.ownBlock ≠ some b := fun e => by have := (World.ownsRow.lt h4 b e).1; omega
  have hown : w.ownsRow b 5 1 v (l.map byteV).length (l.map byteV) := by
    rw [List.length_map]; exact World.ownsRow.mono h4 (by omega)
  rcases hp with rfl | rfl
  · exact .inl ⟨Nat.le_refl _, v, h3, hown, hne⟩
  · exact .inr ⟨Nat.le_refl _, v, h3, hown, hne⟩
theorem Bld2.fresh {w w' : World} (hb : Below (w.heap.size + 1) (w.alloc (.cells #[.pointer none, .slice none 0 0] 63)) w') : Bld2 w'.heap.size w.heap.size [] w' := by
  have hs := hb.size
  refine ⟨by simp at hs; omega, Nat.le_refl _, _, _, .inl rfl, ?_, OwnB.empty _ _⟩
  rw [hb.block _ (by omega)]
  show (w.heap.push _)[w.heap.size]? = _
  simp
/-- what a writer finds behind copyCheck -/
theorem copyCheck2_c (C b : Nat) (l : List UInt8) (w : World) (h : Bld2 C b l w) :
    Calls Tryz.prog 66 #[.pointer (some ⟨b, 0, none⟩)] w fun e w' => e = .returned (.tuple #[]) ∧ (∃ v, w'.heap[b]? = some (.cells #[.pointer (some ⟨b, 0, none⟩), v] 63 (0, 0)) ∧ OwnB w' C v l) ∧ (∀ k, k ≠ b → w'.heap[k]? = w.heap[k]?) ∧ w.heap.size = w'.heap.size ∧ Below b w w' := by
  obtain ⟨h1, h2, p, v, hp, h3, h4⟩ := h
  have c0 : w.cell? ⟨b, 0, none⟩ = some p := by rw [Lib.cell_of_heap h3]; rfl
  have hne : v.ownBlock ≠ some b := fun e => by have := (World.ownsRow.lt h4 b e).1; omega
  rcases hp with rfl | rfl
  · refine (copyCheck_fresh b w c0 (by simp [World.shape?, h3]) (Lib.frozen_of_heap h3 0)).mono ?_
    rintro e w' ⟨rfl, rfl⟩
    refine ⟨rfl, ⟨v, by simp [World.setCell, Array.getElem?_modify, h3], ?_⟩, fun k hk => Below.heap_setCell _ _ _ _ hk, by simp [World.setCell], (Below.refl b w).setCell (p := ⟨b, 0, none⟩) (Nat.le_refl _) _⟩
    exact World.ownsRow.kept h4 (row := some b) ⟨rfl, rfl, rfl, by simp [World.setCell], fun k _ hk => Below.heap_setCell _ _ _ _ (fun e => hk (by simp [e]))⟩ (Or.inr hne)
  · refine (copyCheck_used b w c0).mono ?_
    rintro e w' ⟨rfl, rfl⟩
    exact ⟨rfl, ⟨v, h3, h4⟩, fun _ _ => rfl, rfl, Below.refl _ _⟩
theorem Bld2.stored {C b : Nat} {l l' : List UInt8} {w w2 : World} {v v' : Value} (hbC : b < C) (hC : C ≤ w.heap.size) (hbk : w.heap[b]? = some (.cells #[.pointer (some ⟨b, 0, none⟩), v] 63 (0, 0))) (hown0 : OwnB w C v l')
    (hg : w.grownBy w2 v.ownBlock) (hown : OwnB w2 C v' l) : w2.cell? ⟨b, 0, none⟩ = some (.pointer (some ⟨b, 0, none⟩)) ∧ w2.cell? ⟨b, 1, none⟩ = some v ∧ w2.frozen? ⟨b, 1, none⟩ = false ∧ Bld2 C b l (w2.setCell ⟨b, 1, none⟩ v') := by
  have hne : v.ownBlock ≠ some b := fun e => by have := (World.ownsRow.lt hown0 b e).1; omega
  have hne2 : v'.ownBlock ≠ some b := fun e => by have := (World.ownsRow.lt hown b e).1; omega
  have hb2 : w2.heap[b]? = some (.cells #[.pointer (some ⟨b, 0, none⟩), v] 63 (0, 0)) := by
    rw [hg.block b (by omega) (fun e => hne e.symm)]; exact hbk
  refine ⟨by rw [Lib.cell_of_heap hb2]; rfl, by rw [Lib.cell_of_heap hb2]; rfl, Lib.frozen_of_heap hb2 1, hbC, ?_, .pointer (some ⟨b, 0, none⟩), v', .inr rfl, by simp [World.setCell, Array.getElem?_modify, hb2], ?_⟩
  · have := hg.size; simp [World.setCell]; omega
  · exact World.ownsRow.kept hown (row := some b) ⟨rfl, rfl, rfl, by simp [World.setCell], fun k _ hk => Below.heap_setCell _ _ _ _ (fun e => hk (by simp [e]))⟩ (Or.inr hne2)

set_option maxRecDepth 100000 in
theorem writeByte2_c (C b : Nat) (l : List UInt8) (c : UInt8) (w : World) (h : Bld2 C b l w) (hl : l.length ≤ 900000000) :
    Calls Tryz.prog 41 #[.pointer (some ⟨b, 0, none⟩), .int .u8 (c.toNat : Int)] w fun e w' => e = .returned .nilIface ∧ Bld2 C b (l ++ [c]) w' ∧ Kept2 C b w w' := by
  have hcc := copyCheck2_c C b l w h
  have hbC := h.1
  have hCw := h.2.1
  clear h
  go_enter Tryz.func41, Tryz.ntmps41
  go_wp2_with fail
  refine hcc.mono ?_; rintro e w1 ⟨rfl, ⟨v, hbk, hown⟩, hfr, hsz0, hb1⟩
  have c0 : w1.cell? ⟨b, 0, none⟩ = some (.pointer (some ⟨b, 0, none⟩)) := by rw [Lib.cell_of_heap hbk]; rfl
  have c1 : w1.cell? ⟨b, 1, none⟩ = some v := by rw [Lib.cell_of_heap hbk]; rfl
  obtain ⟨a, cp, rfl⟩ := hown.form
  have HOW := Lib.hid hown
  have HBK := Lib.hid hbk
  have HK1 : Hid (Kept2 C b w w1) := Lib.hid ⟨hb1, fun k _ hb => hfr k hb⟩
  clear hcc hbk hfr
  go_wp2_with (at_builtin; refine push_bytes_g (by rfl) _ _ (by rfl) C _ l (by rfl) (hown.alloc _) w1.heap.size 1 1 (by rfl) [c] (by rfl) ?c1 ?c2 ?c3 ?_)
  case c1 => first | exact one_cell (by simp [go_sem, byteV]) | exact one_list _
  case c2 => simp; omega
  case c3 => simp; omega
  intro v' w2 hown2 hb2 hg2
  have hCa : C ≤ (w1.alloc (.cells #[.int .u8 (c.toNat : Int)] 5)).heap.size := by simp; omega
  have HK2 : Hid (Kept2 C b w w2) := Lib.hid ((HK1.out.alloc (Nat.le_of_lt hbC) (by omega) _).trans (Kept2.of_below hb2 (Nat.le_of_lt hbC)))
  obtain ⟨a2, cp2, rfl⟩ := hown2.form
  have hbk2 : (w1.alloc (.cells #[.int .u8 (c.toNat : Int)] 5)).heap[b]? = some (.cells #[.pointer (some ⟨b, 0, none⟩), .slice a l.length cp] 63 (0, 0)) := by
    rw [Below.heap_alloc _ _ _ (by omega)]; exact HBK.out
  obtain ⟨d0, d1, f1, hfin⟩ := Bld2.stored hbC hCa hbk2 (OwnB.alloc HOW.out _) hg2 hown2
  rw [show (l ++ [c]).length = l.length + 1 from by simp] at hfin
  have HFIN := Lib.hid hfin
  clear hbk2 hfin
  go_wp2_with fail
  go_ret
  exact ⟨rfl, HFIN.out, HK2.out.setCell 1 _⟩

set_option maxRecDepth 100000 in
theorem write2_c (C b : Nat) (l : List UInt8) (g m cq : Nat) (ys : List UInt8) (w : World) (h : Bld2 C b l w) (hl : l.length + m ≤ 900000000) (hm : ys.length = m) (hgb : g ≠ b)
    (hy : ∀ (j : Nat) (y : UInt8), ys[j]? = some y → w.cell? ⟨g, j, none⟩ = some (byteV y)) :
    Calls Tryz.prog 67 #[.pointer (some ⟨b, 0, none⟩), .slice (some ⟨g, 0, none⟩) m cq] w fun e w' => e = .returned (.tuple #[.int .i64 m, .nilIface]) ∧ Bld2 C b (l ++ ys) w' ∧ Kept2 C b w w' := by
  have hcc := copyCheck2_c C b l w h
  have hbC := h.1
  have hCw := h.2.1
  clear h
  go_enter Tryz.func67, Tryz.ntmps67
  go_wp2_with fail
  refine hcc.mono ?_; rintro e w1 ⟨rfl, ⟨v, hbk, hown⟩, hfr, hsz0, hb1⟩
  have hyc : ∀ (j : Nat) (y : UInt8), ys[j]? = some y → w1.cell? ⟨g, j, none⟩ = some (byteV y) := fun j y hj =>
    (World.cell?_of_block (a := ⟨g, j, none⟩) (hfr g hgb)).trans (hy j y hj)
  have HYC := Lib.hid hyc
  clear hy hyc
  have c0 : w1.cell? ⟨b, 0, none⟩ = some (.pointer (some ⟨b, 0, none⟩)) := by rw [Lib.cell_of_heap hbk]; rfl
  have c1 : w1.cell? ⟨b, 1, none⟩ = some v := by rw [Lib.cell_of_heap hbk]; rfl
  obtain ⟨a, cp, rfl⟩ := hown.form
  have HOW := Lib.hid hown
  have HBK := Lib.hid hbk
  have HM := Lib.hid hm
  have hC1 : C ≤ w1.heap.size := by omega
  have HK1 : Hid (Kept2 C b w w1) := Lib.hid ⟨hb1, fun k _ hb => hfr k hb⟩
  clear hcc hbk hm hfr
  go_wp2_with (at_builtin; refine push_bytes_g (by rfl) _ _ (by rfl) C _ l (by rfl) hown g m cq (by rfl) ys HM.out HYC.out ?c2 ?c3 ?_)
  case c2 => omega
  case c3 => omega
  intro v' w2 hown2 hb2 hg2
  have HK2 : Hid (Kept2 C b w w2) := Lib.hid (HK1.out.trans (Kept2.of_below hb2 (Nat.le_of_lt hbC)))
  obtain ⟨a2, cp2, rfl⟩ := hown2.form
  obtain ⟨d0, d1, f1, hfin⟩ := Bld2.stored hbC hC1 HBK.out HOW.out hg2 hown2
  rw [show (l ++ ys).length = l.length + ys.length from List.length_append] at hfin
  have HFIN := Lib.hid hfin
  clear hfin
  go_wp2_with fail
  go_ret2
  exact ⟨rfl, HFIN.out, HK2.out.setCell 1 _⟩
end Go.Proofs.YtjmfknfponjgkaaGreatDoor
namespace Go.Proofs.YtjmfknfponjgkaaGreatDoor
namespace FiS
theorem escV_take : ∀ {v : List UInt8} {k : Nat} (hk : k < v.length), escV (v.take (k + 1)) = escV (v.take k) ++ escF (v[k]'hk)
  | [], k, hk => by simp at hk
  | c :: r, 0, _ => by
    show escF c ++ escV (r.take 0) = [] ++ escF c
    simp [escV]
  | c :: r, k + 1, hk => by
    have ih := escV_take (v := r) (k := k) (by simpa using hk)
    show escF c ++ escV (r.take (k + 1)) = escF c ++ escV (r.take k) ++ escF (r[k]'(by simpa using hk))
    rw [ih, List.append_assoc]
theorem escV_le : ∀ v : List UInt8, (escV v).length ≤ 3 * v.length
  | [] => by simp [escV]
  | c :: r => by
    have := escV_le r
    have h : (escF c).length ≤ 3 := by unfold escF; split <;> simp
    show (escF c ++ escV r).length ≤ 3 * (r.length + 1)
    rw [List.length_append]; omega
theorem escV_take_le {v : List UInt8} {k : Nat} : (escV (v.take k)).length ≤ 3 * v.length := by
  have := escV_le (v.take k)
  rw [List.length_take] at this
  omega
theorem escF_hex {c : UInt8} (h : bad c = true) : escF c = [92, RdS.hexd (c.toNat / 16), RdS.hexd (c.toNat % 16)] := by unfold escF; rw [if_pos h]
theorem escF_plain {c : UInt8} (h : bad c = false) : escF c = [c] := by unfold escF; rw [if_neg (by rw [h]; simp)]
theorem four_index (c : UInt8) : decide (0 ≤ Lib.indexByte [42, 40, 41, 92] c) = [42, 40, 41, 92].contains c := by
  have h := RuS.indexByte_none [42, 40, 41, 92] c
  rw [Bool.eq_iff_iff, decide_eq_true_eq, List.contains_iff_mem]
  constructor
  · intro h1; exact Decidable.byContradiction fun hn => by have := h.2 hn; omega
  · intro h1; have : ¬ Lib.indexByte [42, 40, 41, 92] c < 0 := fun hn => h.1 hn h1
    omega
end FiS
open Go.RowKit
open FiS (Fi)
attribute [local go_sem ↓] Go.wp_at_zero Go.wp_at_succ

set_option maxRecDepth 100000 in
set_option maxHeartbeats 4000000 in
theorem escape_c (v : List UInt8) (hv : v.length ≤ 20000) (w : World) : Calls Tryz.prog 43 #[.string ⟨v.toArray⟩] w fun e w' => e = .returned (.string ⟨(FiS.escV v).toArray⟩) ∧ Below w.heap.size w w' := by
  have hconv := fun w => Lib.run_convert_string_bytes (P := Tryz.prog) w 9 61 5 ⟨v.toArray⟩ Tryz.underlying9 Tryz.underlying61 Tryz.underlying5
  have hsz : (⟨v.toArray⟩ : ByteArray).size = v.length := by show v.toArray.size = _; simp
  have hdl : (⟨v.toArray⟩ : ByteArray).data.toList = v := by simp
  obtain ⟨wa, hwa⟩ : ∃ x, x = w.alloc (.cells #[.pointer none, .slice none 0 0] 63) := ⟨_, rfl⟩
  have hb0 := BytesIn.conv wa 5 ⟨v.toArray⟩
  have hbw := Lib.bytesWorld_below wa 5 ⟨v.toArray⟩
  have hcap : (⟨v.toArray⟩ : ByteArray).size ≤ grownCap wa (⟨v.toArray⟩ : ByteArray).size 0 5 := grownCap_ge _ _ _ _
  rw [hdl] at hb0
  rw [hsz] at hconv hcap
  have hwz : wa.heap.size = w.heap.size + 1 := by rw [hwa]; simp
  have hfresh : Bld2 (Lib.bytesWorld wa 5 ⟨v.toArray⟩).heap.size w.heap.size [] (Lib.bytesWorld wa 5 ⟨v.toArray⟩) := Bld2.fresh (by rw [← hwa, ← hwz]; exact hbw)
  have hbelow : Below w.heap.size w (Lib.bytesWorld wa 5 ⟨v.toArray⟩) := by
    have h1 : Below w.heap.size w wa := by rw [hwa]; exact grow1 w _
    exact h1.trans (hbw.mono (by omega))
  have HS := Lib.hid (fun k (hk : k < v.length) => FiS.escV_take hk)
  have HLE := Lib.hid (fun k => FiS.escV_take_le (v := v) (k := k))
  have HALL : Hid (v.take v.length = v) := Lib.hid (List.take_length)
  have HNIL : Hid (FiS.escV (v.take 0) = []) := Lib.hid rfl
  have hge : v.length < (Lib.bytesWorld wa 5 ⟨v.toArray⟩).heap.size + 20001 := by omega
  have hgs : wa.heap.size < (Lib.bytesWorld wa 5 ⟨v.toArray⟩).heap.size := hb0.1
  clear hdl hsz hbw hge
  subst hwa
  go_enter Tryz.func43, Tryz.ntmps43
  go_wp2_with fail
  clear hconv
  rw [hwz] at hb0 hgs
  generalize grownCap (w.alloc (.cells #[.pointer none, .slice none 0 0] 63)) v.length 0 5 = cap at *
  generalize Lib.bytesWorld (w.alloc (.cells #[.pointer none, .slice none 0 0] 63)) 5 ⟨v.toArray⟩ = w0 at *
  obtain ⟨C, hC⟩ : ∃ C, w0.heap.size = C := ⟨_, rfl⟩
  rw [hC] at hfresh hgs
  obtain ⟨n, hn⟩ : ∃ n, v.length = n := ⟨_, rfl⟩
  have HN := Lib.hid hn
  have HB0 := Lib.hid hb0
  rw [hn] at hcap hv HALL

  clear hC hb0
  simp only [hn]
  go_loopw [9] (fun i wr => ∃ k : Nat, k ≤ n ∧ i = .int .i64 k ∧ Bld2 C w.heap.size (FiS.escV (v.take k)) wr ∧ Kept2 C w.heap.size w0 wr) (fun i _ => n - (intOf i).toNat)
  case atStart => exact ⟨0, Nat.zero_le _, rfl, by rw [HNIL.out]; exact hfresh, Kept2.refl _ _ _⟩
  case round =>
    obtain ⟨k, hk, rfl, hbl, hkp⟩ := hrel
    clear hfresh
    have hCr := hbl.2.1
    by_cases hlt : k < n
    · have hlt2 : k < v.length := by rw [HN.out]; exact hlt
      have hin := hkp.bytes (g := w.heap.size + 1) hgs (by omega) HB0.out
      have hc := hin.cell hlt2
      have HSk := Lib.hid (HS.out k hlt2)
      have hle := HLE.out k
      have hle2 : (FiS.escV (v.take k)).length ≤ 60000 := by have := HN.out; omega
      generalize v[k] = c at *
      have HFIN : Hid (∀ (x : List UInt8) (w' : World), FiS.escF c = x → Bld2 C w.heap.size (FiS.escV (v.take k) ++ x) w' → Kept2 C w.heap.size w0 w' → ∃ k' : Nat, k' ≤ n ∧ Value.int .i64 ((k : Int) + 1) = .int .i64 k' ∧ Bld2 C w.heap.size (FiS.escV (v.take k')) w' ∧ Kept2 C w.heap.size w0 w') :=
        Lib.hid (fun x w' hx h1 h2 => ⟨k + 1, by omega, by go_num, by rw [HSk.out, hx]; exact h1, h2⟩)
      generalize FiS.escV (v.take k) = acc at *
      have HBL := Lib.hid hbl
      have HKP := Lib.hid hkp
      clear hin hle HSk hbl hkp HS HLE HALL
      have hl0 : (0 : Int) ≤ (k : Int) := by omega
      have hl1 : (k : Int) < (n : Int) := by omega
      have hib := fun w => Tryz.strings_IndexByte ⟨#[42, 40, 41, 92]⟩ (c.toNat : Int) w
      have hd1 : (⟨#[42, 40, 41, 92]⟩ : ByteArray).data.toList = [42, 40, 41, 92] := rfl
      have hd2 : ((c.toNat : Int).toNat.toUInt8) = c := by rw [Int.toNat_natCast]; exact UInt8.ofNat_toNat
      rw [hd1, hd2] at hib
      clear hd1 hd2
      have HIX := Lib.hid (FiS.four_index c)
      generalize Lib.indexByte [42, 40, 41, 92] c = ix at *
      replace hib := fun w => (hib w).mono (fun e w' (h : _ ∧ _) => (⟨h.1, h.2.symm⟩ : e = .returned (.int .i64 ix) ∧ w = w'))
      have HBD : Hid (FiS.bad c = (decide (c.toNat < 32) || decide (126 < c.toNat) || [42, 40, 41, 92].contains c)) := Lib.hid rfl
      have hx1 := hex_hi c
      have hx2 := hex_lo c
      have hand : bits .and .u8 (c.toNat : Int) 15 = (c.toNat : Int) % 16 := u8_and15 (c.toNat : Int) (by omega) (by have := c.toNat_lt; omega)
      have h4 : (FiS.bad c = true ∧ decide ((c.toNat : Int) < 32) = true) ∨ (FiS.bad c = true ∧ decide ((c.toNat : Int) < 32) = false ∧ decide ((126 : Int) < (c.toNat : Int)) = true) ∨ (FiS.bad c = true ∧ decide ((c.toNat : Int) < 32) = false ∧ decide ((126 : Int) < (c.toNat : Int)) = false ∧ decide (0 ≤ ix) = true) ∨ (FiS.bad c = false ∧ decide ((c.toNat : Int) < 32) = false ∧ decide ((126 : Int) < (c.toNat : Int)) = false ∧ decide (0 ≤ ix) = false) := by
        rw [HBD.out, HIX.out]
        have e1 : decide ((c.toNat : Int) < 32) = decide (c.toNat < 32) := decide_eq_decide.2 (by omega)
        have e2 : decide ((126 : Int) < (c.toNat : Int)) = decide (126 < c.toNat) := decide_eq_decide.2 (by omega)
        rw [e1, e2]
        cases decide (c.toNat < 32) <;> cases decide (126 < c.toNat) <;> cases [42, 40, 41, 92].contains c <;> simp
      clear HBD HIX
      rcases h4 with ⟨hbd, g1⟩ | ⟨hbd, g1, g2⟩ | ⟨hbd, g1, g2, g3⟩ | ⟨hbd, g1, g2, g3⟩
      · have HE := Lib.hid (FiS.escF_hex hbd)
        clear hbd hib
        go_wp2_with fail
        go_region_held3 (fun _ => True) (trivial)
          (first | (go_at_call 67; refine (write2_c C w.heap.size acc wr.heap.size 3 3 [92, RdS.hexd (c.toNat / 16), RdS.hexd (c.toNat % 16)] _ ((HBL.out.alloc _).drew) (by omega) rfl (by omega) (three_cells (by simp [go_sem, byteV]) (by simp [go_sem, byteV]) (by simp [go_sem, byteV]))).mono ?_; rintro e w1 ⟨rfl, hu, hb1⟩))
        all_goals go_wp2_with fail
        all_goals go_roundw
        all_goals first | exact HFIN.out _ _ HE.out hu (((HKP.out.alloc (by omega) hCr _).drew).trans hb1) | (simp [intOf]; omega)
      · have HE := Lib.hid (FiS.escF_hex hbd)
        clear hbd hib
        go_wp2_with fail
        go_region_held3 (fun _ => True) (trivial)
          (first | (go_at_call 67; refine (write2_c C w.heap.size acc wr.heap.size 3 3 [92, RdS.hexd (c.toNat / 16), RdS.hexd (c.toNat % 16)] _ ((HBL.out.alloc _).drew) (by omega) rfl (by omega) (three_cells (by simp [go_sem, byteV]) (by simp [go_sem, byteV]) (by simp [go_sem, byteV]))).mono ?_; rintro e w1 ⟨rfl, hu, hb1⟩))
        all_goals go_wp2_with fail
        all_goals go_roundw
        all_goals first | exact HFIN.out _ _ HE.out hu (((HKP.out.alloc (by omega) hCr _).drew).trans hb1) | (simp [intOf]; omega)
      · have HE := Lib.hid (FiS.escF_hex hbd)
        clear hbd
        go_wp2_with fail
        refine (hib _).mono ?_; rintro e w9 ⟨rfl, rfl⟩
        go_wp2_with fail
        go_region_held3 (fun _ => True) (trivial)
          (first | (go_at_call 67; refine (write2_c C w.heap.size acc wr.heap.size 3 3 [92, RdS.hexd (c.toNat / 16), RdS.hexd (c.toNat % 16)] _ ((HBL.out.alloc _).drew) (by omega) rfl (by omega) (three_cells (by simp [go_sem, byteV]) (by simp [go_sem, byteV]) (by simp [go_sem, byteV]))).mono ?_; rintro e w1 ⟨rfl, hu, hb1⟩))
        all_goals go_wp2_with fail
        all_goals go_roundw
        all_goals first | exact HFIN.out _ _ HE.out hu (((HKP.out.alloc (by omega) hCr _).drew).trans hb1) | (simp [intOf]; omega)
      · have HE := Lib.hid (FiS.escF_plain hbd)
        clear hbd hx1 hx2 hand
        go_wp2_with fail
        refine (hib _).mono ?_; rintro e w9 ⟨rfl, rfl⟩
        go_wp2_with fail
        refine (writeByte2_c C w.heap.size acc c _ HBL.out (by omega)).mono ?_
        rintro e w1 ⟨rfl, hu, hb1⟩
        go_wp2_with fail
        go_roundw
        case rel => exact HFIN.out _ _ HE.out hu (HKP.out.trans hb1)
        case measure => simp [intOf]; omega
    · have hkn : k = n := by omega
      subst hkn
      rw [HALL.out] at hbl
      have hst := Tryz.Builder_String_any w.heap.size w.heap.size (FiS.escV v) wr hbl.bld (by omega)
      have hz := hbelow.trans hkp.1
      clear hbl hkp HS HLE HALL HNIL
      go_wp2_with fail
      refine hst.mono ?_; rintro e w1 ⟨rfl, hb1⟩
      go_wp2_with fail
      go_ret
      exact ⟨rfl, hz.trans hb1⟩
end Go.Proofs.YtjmfknfponjgkaaGreatDoor
