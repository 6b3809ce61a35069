/- The walk of the program's change of values: added, and replaced. Conditions: those that each theorem states; the library's variables are laid. The walk of slices.Delete of one text, of a row that stays one that texts can be taken off. Conditions: those that each theorem states. The walk of the program's change of values: deleted, and raised. Conditions: those that each theorem states; the library's variables are laid. -/
import Derived.Test.YtmnhgbkdahdoiaaGreatDoorMEnV
import Derived.Test.YtmnhgbkdahdoiaaGreatDoorMFma
import Derived.Test.YtmnhgbkdahdoiaaGreatDoorMDnh
import Derived.Test.YtmnhgbkdahdoiaaGreatDoorMRna
import Derived.Test.YtmnhgbkdahdoiaaGreatDoorMInc
namespace Go.Proofs.YtmnhgbkdahdoiaaGreatDoor
open Go.RowKit
attribute [local go_sem ↓] Go.wp_at_zero Go.wp_at_succ

def ChRet (r : List (List UInt8) × Int) (w : World) (e : Ending) (w' : World) : Prop := ∃ y, e = .returned (.tuple #[y, .int .i64 r.2]) ∧ StrsIn w' y r.1 ∧ Below w.heap.size w w'
theorem ChRet.no {r : List (List UInt8) × Int} {n : Int} {w w' : World} (h : r = ([], n)) (hb : Below w.heap.size w w') : ChRet r w (.returned (.tuple #[.slice none 0 0, .int .i64 n])) w' := by
  subst h
  exact ⟨_, rfl, ⟨none, 0, rfl, Nat.le_refl _, .inl rfl⟩, hb⟩
theorem ChRet.yes {r : List (List UInt8) × Int} {q : List (List UInt8)} {y : Value} {w w' : World} (h : r = (q, 0)) (hs : StrsIn w' y q) (hb : Below w.heap.size w w') : ChRet r w (.returned (.tuple #[y, .int .i64 0])) w' := by
  subst h
  exact ⟨_, rfl, hs, hb⟩

set_option maxRecDepth 100000 in
set_option maxHeartbeats 2000000 in
theorem cha0_c (t : List UInt8) (syn : Int) (l vs : List (List UInt8)) (vo vl : Value) (w : World) (hE : Env w) (ht : t.length ≤ 1048576) (ho : StrsIn w vo l) (hv : StrsIn w vl vs) (hl : EnS.LenC 400000 l) (hlv : EnS.LenC 400000 vs) :
    Calls Tryz.prog 23 #[.int .i64 0, .string ⟨t.toArray⟩, .int .i64 syn, vo, vl] w (ChRet (EnS.changeS EnS.upS 0 t syn l vs) w) := by
  by_cases hv0 : vs = []
  · subst hv0
    obtain ⟨a1, c1, rfl⟩ := ho.form
    obtain ⟨a2, c2, rfl⟩ := hv.form
    have HR : EnS.changeS EnS.upS 0 t syn l [] = ([], 19) := by unfold EnS.changeS; simp
    generalize EnS.changeS EnS.upS 0 t syn l [] = R at *
    simp only [List.length_nil]
    clear ho hv hl hlv ht
    generalize l.length = n at *
    go_enter Tryz.func23, Tryz.ntmps23
    go_wp2_with fail
    go_ret2
    exact ChRet.no HR (Below.refl _ _)
  have HR : Hid (EnS.changeS EnS.upS 0 t syn l vs = EnS.addC t (l ++ vs.take 0) (vs.drop 0)) := Lib.hid (by rw [EnS.change_0 hv0]; simp)
  generalize EnS.changeS EnS.upS 0 t syn l vs = R at *
  have hP := hv.strsP (fun _ => True) (fun _ _ => trivial)
  obtain ⟨a2, c2, rfl, hc2, hat⟩ := SliceP.at hP
  obtain ⟨a1, c1, rfl⟩ := ho.form
  have hgB := grow1 w (.cells #[.slice a1 l.length c1, .slice a2 vs.length c2] 35)
  have hwB := Whole.made w 35 #[.slice a1 l.length c1, .slice a2 vs.length c2]
  have hcc := concat_c w.heap.size _ _ l vs _ hwB.lt (hwB.cell 0) (hwB.cell 1) (ho.call hgB (Nat.le_refl _)) (hv.call hgB (Nat.le_refl _)) hl.1 hlv.1
  unfold OwnRet at hcc
  have HAT := Lib.hid hat
  have HX := Lib.hid (fun k (h : k < vs.length) => hlv.2 vs[k] (List.getElem_mem h))
  have hlen : (l ++ vs).length = l.length + vs.length := List.length_append
  have HTK := Lib.hid (fun k (hk : k ≤ vs.length) => show (l ++ vs).take (l.length + k) = l ++ vs.take k from List.take_length_add_append k)
  have HTA := Lib.hid (fun (k : Nat) => show ∀ x ∈ l ++ vs.take k, x.length ≤ 1000000 from fun x hx => by
    rcases List.mem_append.1 hx with h | h
    · exact hl.2 x h
    · exact hlv.2 x (List.mem_of_mem_take h))
  have HTL := Lib.hid (fun (k : Nat) (hk : k ≤ vs.length) => show (l ++ vs.take k).length = l.length + k from by rw [List.length_append, List.length_take]; omega)
  have HNO := Lib.hid (fun k (hk : k < vs.length) h => EnS.addC_no (t := t) (l := l ++ vs.take k) hk h)
  have HYE := Lib.hid (fun k (hk : k < vs.length) h => (EnS.addC_at (t := t) (l := l ++ vs.take k) hk h).trans (show _ = EnS.addC t (l ++ vs.take (k + 1)) (vs.drop (k + 1)) from by rw [List.take_succ_eq_append_getElem hk, ← List.append_assoc]))
  have HND := Lib.hid (fun k (hk : vs.length ≤ k) => (EnS.addC_end (t := t) (l := l ++ vs.take k) hk).trans (show _ = (l ++ vs, 0) from by rw [List.take_of_length_le hk]))
  have HFC := fun u k x W hE (hx : x.length ≤ 1000000) h h1 => find_c t x u (l ++ vs.take k) W hE ht hx h h1 (HTA.out k)
  unfold IdxRetI at HFC
  have HFW := Lib.hid (fun k x => EnS.find_within t (l ++ vs.take k) x)
  have HEN := Lib.hid (fun W (hb : Below w.heap.size w W) => hE.below hb)
  have hn : l.length ≤ 400000 := hl.1
  have hm : vs.length ≤ 400000 := hlv.1
  have hm0 : vs.length ≠ 0 := fun h => hv0 (List.eq_nil_of_length_eq_zero h)
  have hmz : ((vs.length : Int) == 0) = false := by simpa using hm0
  clear hat hP ho hv hl hlv hv0 hwB HTA hE
  obtain ⟨n, hnn⟩ : ∃ n, l.length = n := ⟨_, rfl⟩
  obtain ⟨m, hmm⟩ : ∃ m, vs.length = m := ⟨_, rfl⟩
  have HMM := Lib.hid hmm
  rw [hnn] at hn hlen hgB hcc HTK HTL ⊢
  rw [hmm] at hm0 hmz hm hc2 hlen hgB hcc ⊢
  clear hnn hmm
  go_enter Tryz.func23, Tryz.ntmps23
  go_wp2_with fail
  refine hcc.mono ?_; rintro e w3 ⟨v3, rfl, ho3, hb3⟩
  obtain ⟨a3, c3, rfl⟩ := ho3.form
  have hc3 := ho3.strs
  obtain ⟨_, _, e9, hc9, _⟩ := hc3
  rw [hlen] at ho3 e9 hc9
  injection e9 with e91 e92 e93
  subst e93
  have hb3' := below_trans hgB hb3
  have hown3 := ho3.mono (B' := w.heap.size) (hgB.size)
  clear hcc ho3 hgB hb3 e91 e92
  rw [hlen]
  go_wp2_with fail
  go_loopw [35] (fun i wr => ∃ k : Nat, k ≤ m ∧ i = .int .i64 k ∧ Hid (R = EnS.addC t (l ++ vs.take k) (vs.drop k)) ∧ Own wr w.heap.size (.slice a3 (n + m) c3) (l ++ vs) ∧ Below w.heap.size w wr) (fun i _ => m - (intOf i).toNat)
  case atStart => exact ⟨0, Nat.zero_le _, rfl, HR, hown3, hb3'⟩
  case round =>
    obtain ⟨k, hk, rfl, HA, hown, hb⟩ := hrel
    clear HR hown3 hb3'
    by_cases hlt : k < m
    · have hlt2 : k < vs.length := by rw [HMM.out]; exact hlt
      obtain ⟨g, o, rfl, hg, _, hra⟩ := HAT.out k hlt2
      have c0 : wr.cell? ⟨g, o + k, none⟩ = some (strV (vs[k]'hlt2)) := by
        have : w.cell? ⟨g, o + k * 1, none⟩ = some (strV (vs[k]'hlt2)) := hra
        rw [Nat.mul_one] at this
        exact (hb.cell (p := ⟨g, o + k, none⟩) hg).trans this
      have hxl := HX.out k hlt2
      have HNk := Lib.hid (fun h => HA.out.trans (HNO.out k hlt2 h))
      have HYk := Lib.hid (fun h => HA.out.trans (HYE.out k hlt2 h))
      have hbd : Below wr.heap.size wr wr.drew := (Below.refl _ _).drew
      have hbw : Below w.heap.size w wr.drew := hb.drew
      have hin := StrsIn.take (hown.call hbd).strs (k := n + k) (by omega)
      rw [HTK.out k (by rw [HMM.out]; exact hk)] at hin
      have hcl := HFC _ k (vs[k]'hlt2) wr.drew (HEN.out _ hbw) hxl hin (by rw [HTL.out k (Nat.le_of_lt hlt2)]; omega)
      have HW := Lib.hid (HFW.out k (vs[k]'hlt2))
      generalize vs[k] = x at *
      unfold strV at c0
      generalize EnS.findI t (l ++ vs.take k) x = I at *
      generalize EnS.withinS t (l ++ vs.take k) x = WB at *
      have c0d : wr.drew.cell? ⟨g, o + k, none⟩ = some (.string ⟨x.toArray⟩) := c0
      have i0 : (0 : Int) ≤ (k : Int) := by omega
      have i3 : (k : Int) < (m : Int) := by omega
      obtain ⟨z, hz⟩ : ∃ z : Nat, n + k = z := ⟨_, rfl⟩
      rw [hz] at hcl
      have j0 : (0 : Int) ≤ (z : Int) := by omega
      have j1 : (z : Int) ≤ (c3 : Int) := by omega
      have j2 : (z : Int) ≤ ((n + m : Nat) : Int) := by omega
      have hzz : IntKind.i64.wrap ((n : Int) + (k : Int)) = (z : Int) := (Go.IntWalk.i64_in _ (by omega)).trans (by omega)
      clear hz
      clear hra hlt2 HNO HYE HND hin HFC HTK HTL HX HFW HAT
      go_wp2_with fail
      go_region_held3 (fun W => W.cell? ⟨g, o + k, none⟩ = some (.string ⟨x.toArray⟩)) (first | exact c0d | exact keepC c0d hb2 | go_keep)
        (first | (go_at_call 38; (with_reducible refine hcl.mono ?_); rintro e w2 ⟨rfl, hb2⟩))
      cases I with
      | some i =>
        have HQ := HNk.out (by rw [← HW.out]; rfl)
        have hi0 : decide ((0 : Int) ≤ (i : Int)) = true := decide_eq_true (by omega)
        unfold idxI
        clear HNk HYk HW HA
        go_wp2_with fail
        go_ret2
        exact ChRet.no HQ (hbw.trans (hb2.mono hbw.size))
      | none =>
        have HQ := Lib.hid (HYk.out (by rw [← HW.out]; rfl))
        unfold idxI
        clear HNk HYk HW HA
        have hown2 := (hown.call hbd).call hb2
        go_wp2_with fail
        go_roundw
        case rel => exact ⟨k + 1, by omega, by go_num, HQ, hown2, hbw.trans (hb2.mono hbw.size)⟩
        case measure => simp [intOf]; omega
    · have hkm : k = m := by omega
      subst hkm
      have HQ := HA.out.trans (HND.out k (by rw [HMM.out]; exact Nat.le_refl _))
      clear HA HNO HYE HND HFC HTK HTL HX HFW HAT
      go_wp2_with fail
      go_ret2
      exact ChRet.yes HQ hown.strs hb

set_option maxRecDepth 100000 in
set_option maxHeartbeats 1000000 in
theorem cha2_c (t : List UInt8) (syn : Int) (l vs : List (List UInt8)) (vo vl : Value) (w : World) (hE : Env w) (ht : t.length ≤ 1048576) (ho : StrsIn w vo l) (hv : StrsIn w vl vs) (hlv : EnS.LenC 400000 vs) :
    Calls Tryz.prog 23 #[.int .i64 2, .string ⟨t.toArray⟩, .int .i64 syn, vo, vl] w (ChRet (EnS.changeS EnS.upS 2 t syn l vs) w) := by
  have htw := entwice_c t vl vs w hE ht hv (by have := hlv.1; omega) hlv.2
  unfold NmBool at htw
  have HR1 : Hid (EnS.aloneS t vs = true → EnS.changeS EnS.upS 2 t syn l vs = (vs, 0)) := Lib.hid (fun h => by rw [EnS.change_2, if_pos h])
  have HR2 : Hid (EnS.aloneS t vs = false → EnS.changeS EnS.upS 2 t syn l vs = ([], 20)) := Lib.hid (fun h => by rw [EnS.change_2, h, if_neg (by simp)])
  generalize EnS.changeS EnS.upS 2 t syn l vs = R at *
  have HV := Lib.hid (fun W (hb : Below w.heap.size w W) => hv.call hb (Nat.le_refl _))
  obtain ⟨a1, c1, rfl⟩ := ho.form
  obtain ⟨a2, c2, rfl⟩ := hv.form
  generalize EnS.aloneS t vs = A at *
  clear ho hv hlv ht hE
  generalize l.length = n at *
  obtain ⟨m, hm⟩ : ∃ m, vs.length = m := ⟨_, rfl⟩
  rw [hm] at HV htw ⊢
  clear hm
  go_enter Tryz.func23, Tryz.ntmps23
  go_wp2_with fail
  refine htw.mono ?_; rintro e w1 ⟨rfl, hb1⟩
  have hv1 := HV.out _ hb1
  cases A with
  | true =>
    have HQ := HR1.out rfl
    clear HR1 HR2
    go_wp2_with fail
    go_ret2
    exact ChRet.yes HQ hv1 hb1
  | false =>
    have HQ := HR2.out rfl
    clear HR1 HR2
    go_wp2_with fail
    go_ret2
    exact ChRet.no HQ hb1
end Go.Proofs.YtmnhgbkdahdoiaaGreatDoor
namespace Go.Proofs.YtmnhgbkdahdoiaaGreatDoor
open Go.RowKit

/-- a row of texts of the call's own, less what stands behind it in its block -/
def DelRow (B : Nat) (w : World) (v : Value) (l : List (List UInt8)) : Prop :=
  ∃ g cap, v = .slice (some ⟨g, 0, none⟩) l.length cap ∧ B ≤ g ∧ g < w.heap.size ∧ l.length ≤ cap ∧ cap ≤ maxLen ∧ ∀ j, j < l.length → w.cell? ⟨g, 0 + j, none⟩ = some (.string ⟨(l.getD j []).toArray⟩) ∧ w.frozen? ⟨g, 0 + j, none⟩ = false
theorem Own.delRow {w : World} {B : Nat} {v : Value} {l : List (List UInt8)} (h : Own w B v l) (hl : l ≠ []) : DelRow B w v l := by
  have h' := h
  unfold Own at h'
  rcases h'.2 with ⟨_, hn⟩ | ⟨g, cap, cur, rfl, hg, hh, hn, hm, hsz, htk⟩
  · exact absurd (List.eq_nil_of_length_eq_zero hn) hl
  refine ⟨g, cap, rfl, hg, (Array.getElem?_eq_some_iff.1 hh).1, hn, hm, fun j hj => ⟨?_, by simp [World.frozen?, hh]⟩⟩
  have hadd : ∀ j, (⟨g, 0, none⟩ : Addr).add j = ⟨g, 0 + j, none⟩ := fun j => by unfold Addr.add; split <;> simp_all
  have := World.ownsRow.cells h' (g := g) rfl j (strV l[j]) (by rw [List.getElem?_map, List.getElem?_eq_getElem hj]; rfl)
  rw [hadd] at this
  rw [this]
  unfold strV
  simp [List.getD, hj]
theorem DelRow.call {B : Nat} {w w' : World} {v : Value} {l : List (List UInt8)} (h : DelRow B w v l) (hb : Below w.heap.size w w') : DelRow B w' v l := by
  obtain ⟨g, cap, e, hg, hs, hn, hm, hc⟩ := h
  refine ⟨g, cap, e, hg, Nat.lt_of_lt_of_le hs hb.size, hn, hm, fun j hj => ?_⟩
  have he := hb.block g hs
  exact ⟨(World.cell?_of_block (a := ⟨g, 0 + j, none⟩) he).trans (hc j hj).1, by have := (hc j hj).2; unfold World.frozen? at this ⊢; simp only [he]; exact this⟩
theorem DelRow.form {B : Nat} {w : World} {v : Value} {l : List (List UInt8)} (h : DelRow B w v l) : ∃ a c, v = .slice a l.length c := by
  obtain ⟨g, cap, e, _⟩ := h
  exact ⟨_, _, e⟩
theorem DelRow.strs {B : Nat} {w : World} {v : Value} {l : List (List UInt8)} (h : DelRow B w v l) : StrsIn w v l := by
  obtain ⟨g, cap, rfl, hg, hs, hn, hm, hc⟩ := h
  refine ⟨_, cap, rfl, hn, .inr ⟨g, 0, rfl, hs, fun j y hj => ?_⟩⟩
  obtain ⟨hjl, hy⟩ := List.getElem?_eq_some_iff.1 hj
  rw [(hc j hjl).1]
  unfold strV
  simp [List.getD, hjl, hy]
def DelrRet (B : Nat) (l : List (List UInt8)) (w : World) (e : Ending) (w' : World) : Prop := ∃ v, e = .returned v ∧ DelRow B w' v l ∧ Below B w w'
theorem delrow_c (v : Value) (l : List (List UInt8)) (B i : Nat) (w : World) (h : DelRow B w v l) (hi : i < l.length) :
    Calls Tryz.prog 45 #[v, .int .i64 (i : Int), .int .i64 ((i : Int) + 1)] w (DelrRet B (l.eraseIdx i) w) := by
  have hi1 : ((i : Int) + 1) = ((i + 1 : Nat) : Int) := by omega
  rw [hi1]
  obtain ⟨g, cap, rfl, hg, hs, hn, hm, hc⟩ := h
  have hcell : ∀ j, j < l.length → w.cell? ⟨g, 0 + j, none⟩ = some (.string ⟨(l.getD j []).toArray⟩) := fun j hj => (hc j hj).1
  have hfz : ∀ j, j < l.length → w.frozen? ⟨g, 0 + j, none⟩ = false := fun j hj => (hc j hj).2
  refine (Tryz.slices_Delete_string_cells g 0 l.length cap i (i + 1) (fun j => ⟨(l.getD j []).toArray⟩) w hn (Nat.le_trans hm (by unfold maxLen; decide)) (by omega) (by omega) hcell hfz).mono ?_
  rintro e w' ⟨rfl, q, rfl⟩
  rw [strs_fn]
  have hlen : (l.eraseIdx i).length = l.length - 1 := List.length_eraseIdx_of_lt hi
  have e1 : l.length - (i + 1 - i) = (l.eraseIdx i).length := by rw [hlen]; omega
  have e2 : l.take i ++ l.drop (i + 1) = l.eraseIdx i := (List.eraseIdx_eq_take_drop_succ l i).symm
  rw [e1, e2]
  have hbel := Go.below_setCells (B := B) (a := w) hg (((l.eraseIdx i) ++ List.replicate (i + 1 - i) []).map encStr) 0 _ ((Below.refl B w).trans (show Below B w (w.drewN q) from ⟨rfl, rfl, rfl, Nat.le_refl _, fun _ _ => rfl⟩))
  refine ⟨_, rfl, ⟨g, cap, rfl, hg, Nat.lt_of_lt_of_le hs hbel.size, by omega, hm, fun j hj => ⟨?_, ?_⟩⟩, hbel⟩
  · have hin := World.cell?_setCells_in g (((l.eraseIdx i) ++ List.replicate (i + 1 - i) []).map encStr) 0 (w.drewN q) (fun j hj => by
      have hj2 : j < l.length := by simp at hj; omega
      have := hcell j hj2
      show (w.cell? ⟨g, 0 + j, none⟩).isSome = true
      rw [this]; rfl) j (by simp; omega)
    rw [hin]
    simp only [List.getElem_map, List.getElem_append_left hj]
    simp [List.getD, hj, encStr]
  · rw [World.frozen?_setCells]
    show w.frozen? ⟨g, 0 + j, none⟩ = false
    exact hfz j (by omega)
end Go.Proofs.YtmnhgbkdahdoiaaGreatDoor
namespace Go.Proofs.YtmnhgbkdahdoiaaGreatDoor
open Go.RowKit
attribute [local go_sem ↓] Go.wp_at_zero Go.wp_at_succ

theorem LenC.erase {N : Nat} {q : List (List UInt8)} (h : EnS.LenC N q) (i : Nat) : EnS.LenC N (q.eraseIdx i) := by
  have hs := List.eraseIdx_sublist q i
  exact ⟨Nat.le_trans hs.length_le h.1, fun v hv => h.2 v (hs.subset hv)⟩
theorem find_lt {t v : List UInt8} {l : List (List UInt8)} {i : Nat} (h : EnS.findI t l v = some i) : i < l.length := by
  unfold EnS.findI at h
  split at h
  · exact (List.findIdx?_eq_some_iff_findIdx_eq.1 h).1
  · cases h
set_option maxRecDepth 100000 in
set_option maxHeartbeats 2000000 in
theorem cha1_c (t : List UInt8) (syn : Int) (l vs : List (List UInt8)) (vo vl : Value) (w : World) (hE : Env w) (ht : t.length ≤ 1048576) (ho : StrsIn w vo l) (hv : StrsIn w vl vs) (hl : EnS.LenC 400000 l) (hlv : EnS.LenC 400000 vs) :
    Calls Tryz.prog 23 #[.int .i64 1, .string ⟨t.toArray⟩, .int .i64 syn, vo, vl] w (ChRet (EnS.changeS EnS.upS 1 t syn l vs) w) := by
  by_cases hl0 : l = []
  · subst hl0
    obtain ⟨a1, c1, rfl⟩ := ho.form
    obtain ⟨a2, c2, rfl⟩ := hv.form
    have HR : EnS.changeS EnS.upS 1 t syn [] vs = ([], 16) := by unfold EnS.changeS; simp
    generalize EnS.changeS EnS.upS 1 t syn [] vs = R at *
    simp only [List.length_nil]
    clear ho hv hl hlv ht
    generalize vs.length = n at *
    go_enter Tryz.func23, Tryz.ntmps23
    go_wp2_with fail
    go_ret2
    exact ChRet.no HR (Below.refl _ _)
  have HR0 : Hid (vs = [] → EnS.changeS EnS.upS 1 t syn l vs = ([], 0)) := Lib.hid (fun h => by unfold EnS.changeS; simp [hl0, h])
  have HR : Hid (vs ≠ [] → EnS.changeS EnS.upS 1 t syn l vs = EnS.delC t l (vs.drop 0)) := Lib.hid (fun h => by rw [EnS.change_1 hl0 h]; rfl)
  generalize EnS.changeS EnS.upS 1 t syn l vs = R at *
  have hcl0 := clonestr_c vo l w ho (by have := hl.1; omega)
  unfold OwnRet at hcl0
  have hP := hv.strsP (fun _ => True) (fun _ _ => trivial)
  obtain ⟨a2, c2, rfl, hc2, hat⟩ := SliceP.at hP
  obtain ⟨a1, c1, rfl⟩ := ho.form
  have HAT := Lib.hid hat
  have HX := Lib.hid (fun k (h : k < vs.length) => hlv.2 vs[k] (List.getElem_mem h))
  have HNO := Lib.hid (fun k (hk : k < vs.length) (q : List (List UInt8)) h => EnS.delC_no (t := t) (l := q) hk h)
  have HYE := Lib.hid (fun k (hk : k < vs.length) (q : List (List UInt8)) i h => EnS.delC_at (t := t) (l := q) (i := i) hk h)
  have HND := Lib.hid (fun k (hk : vs.length ≤ k) (q : List (List UInt8)) => EnS.delC_end (t := t) (l := q) hk)
  have HVN : Hid (vs.length = 0 → vs = []) := Lib.hid (fun h => List.eq_nil_of_length_eq_zero h)
  have HFC := fun u (q : List (List UInt8)) x W hE (hx : x.length ≤ 1000000) h (hq : EnS.LenC 400000 q) => find_c t x u q W hE ht hx h (by have := hq.1; omega) hq.2
  unfold IdxRetI at HFC
  have HEN := Lib.hid (fun W (hb : Below w.heap.size w W) => hE.below hb)
  have HL := Lib.hid hl
  have hm : vs.length ≤ 400000 := hlv.1
  have hn0 : l.length ≠ 0 := fun h => hl0 (List.eq_nil_of_length_eq_zero h)
  have hnz : ((l.length : Int) == 0) = false := by simpa using hn0
  have hdel := fun v q i W h hi => delrow_c v q w.heap.size i W h hi
  unfold DelrRet at hdel
  have HLT := Lib.hid (fun x (q : List (List UInt8)) i h => find_lt (t := t) (v := x) (l := q) (i := i) h)
  clear hat hP ho hv hl hlv hE
  have HDR := Lib.hid (fun W lv (h : Own W w.heap.size lv l) => h.delRow hl0)
  clear hl0
  obtain ⟨n, hnn⟩ : ∃ n, l.length = n := ⟨_, rfl⟩
  obtain ⟨m, hmm⟩ : ∃ m, vs.length = m := ⟨_, rfl⟩
  have HMM := Lib.hid hmm
  rw [hnn] at hn0 hnz hcl0 ⊢
  rw [hmm] at hm hc2 ⊢
  clear hnn hmm hn0
  go_enter Tryz.func23, Tryz.ntmps23
  go_wp2_with fail
  refine hcl0.mono ?_; rintro e w1 ⟨v1, rfl, ho1, hb1⟩
  have hdr1 := HDR.out _ _ ho1
  clear hcl0 ho1
  go_wp2_with fail
  go_loopw [14, 62] (fun lv i wr => ∃ (k : Nat) (q : List (List UInt8)), k ≤ m ∧ i = .int .i64 k ∧ DelRow w.heap.size wr lv q ∧ Hid (vs ≠ [] → R = EnS.delC t q (vs.drop k)) ∧ Hid (EnS.LenC 400000 q) ∧ Below w.heap.size w wr) (fun _ i _ => m - (intOf i).toNat)
  case atStart => exact ⟨0, l, Nat.zero_le _, rfl, hdr1, HR, HL, hb1⟩
  case round =>
    obtain ⟨k, q, hk, rfl, hdr, HA, HQL, hb⟩ := hrel
    clear HR hdr1 hb1 HL
    obtain ⟨qa, qc, rfl⟩ := hdr.form
    obtain ⟨QL, hQL⟩ : ∃ n, q.length = n := ⟨_, rfl⟩
    by_cases hlt : k < m
    · have hlt2 : k < vs.length := by rw [HMM.out]; exact hlt
      have hvn : vs ≠ [] := fun h => by rw [h] at hlt2; simp at hlt2
      obtain ⟨g, o, rfl, hg, _, hra⟩ := HAT.out k hlt2
      have c0 : wr.cell? ⟨g, o + k, none⟩ = some (strV (vs[k]'hlt2)) := by
        have : w.cell? ⟨g, o + k * 1, none⟩ = some (strV (vs[k]'hlt2)) := hra
        rw [Nat.mul_one] at this
        exact (hb.cell (p := ⟨g, o + k, none⟩) hg).trans this
      have hxl := HX.out k hlt2
      have HNk := Lib.hid (fun h => (HA.out hvn).trans (HNO.out k hlt2 q h))
      have HYk := Lib.hid (fun i h => (HA.out hvn).trans (HYE.out k hlt2 q i h))
      have hcl := HFC _ q (vs[k]'hlt2) wr (HEN.out _ hb) hxl hdr.strs HQL.out
      have HLTk := Lib.hid (fun i h => HLT.out (vs[k]'hlt2) q i h)
      generalize vs[k] = x at *
      unfold strV at c0
      have hql := HQL.out.1
      generalize hFI : EnS.findI t q x = I at *
      have i0 : (0 : Int) ≤ (k : Int) := by omega
      have i3 : (k : Int) < (m : Int) := by omega
      rw [hQL] at hcl hdr hql ⊢
      clear hra hlt2 hvn HNO HYE HND HFC HX HAT HR0 HA
      go_wp2_with fail
      refine hcl.mono ?_; rintro e w2 ⟨rfl, hb2⟩
      have hz2 := hb.trans (hb2.mono hb.size)
      have hdr2 := hdr.call hb2
      clear hcl hdr
      cases I with
      | none =>
        have HQ := HNk.out rfl
        have hi0 : decide ((-1 : Int) < 0) = true := rfl
        unfold idxI
        clear HNk HYk hFI
        go_wp2_with fail
        go_ret2
        exact ChRet.no HQ hz2
      | some i =>
        have HQ := Lib.hid (fun (_ : vs ≠ []) => HYk.out i rfl)
        have hiq := HLTk.out i rfl
        have hi0 : decide ((i : Int) < 0) = false := decide_eq_false (by omega)
        have hwr : IntKind.i64.wrap ((i : Int) + 1) = (i : Int) + 1 := Go.IntWalk.i64_in _ (by omega)
        have hdc := hdel (.slice qa QL qc) q i w2 (by rw [← hQL] at hdr2 ⊢; exact hdr2) hiq
        have HQ2 := Lib.hid (LenC.erase HQL.out i)
        unfold idxI
        clear HNk HYk hFI hdr2 hdel HQL
        go_wp2_with fail
        refine hdc.mono ?_; rintro e w3 ⟨v3, rfl, hdr3, hb3⟩
        have hz3 := hz2.trans hb3
        clear hdc
        go_wp2_with fail
        go_roundw
        case rel => exact ⟨k + 1, q.eraseIdx i, by omega, by go_num, hdr3, HQ, HQ2, hz3⟩
        case measure => simp [intOf]; omega
    · have hkm : k = m := by omega
      subst hkm
      have HQ := Lib.hid (fun (h : vs ≠ []) => (HA.out h).trans (HND.out k (by rw [HMM.out]; exact Nat.le_refl _) q))
      have hsq := hdr.strs
      rw [hQL] at hsq ⊢
      cases hmz : ((k : Int) == 0) with
      | true =>
        have HQ2 := HR0.out (HVN.out (by rw [HMM.out]; simpa using hmz))
        clear HA HNO HYE HND HFC HX HAT HR0 HQ HVN hsq hdr HQL
        go_wp2_with fail
        go_ret2
        exact ChRet.no HQ2 hb
      | false =>
        have HQ2 := HQ.out (fun h => by have h2 := HMM.out; rw [h] at h2; simp at h2; subst h2; simp at hmz)
        clear HA HNO HYE HND HFC HX HAT HR0 HQ HVN hdr HQL
        go_wp2_with fail
        go_ret2
        exact ChRet.yes HQ2 hsq hb

/-- what comes of values raised -/
def finC (t : List UInt8) : Option (List (List UInt8)) → List (List UInt8) × Int
  | none => ([], 19)
  | some q => if EnS.aloneS t q = true then (q, 0) else ([], 19)
theorem fin_at {t x s : List UInt8} {syn : Int} {l q : List (List UInt8)} {k : Nat} (hk : k < l.length) (h : EnS.upS t syn l[k] x = some s) : finC t ((EnS.incC EnS.upS t syn x (l.drop k)).map (q ++ ·)) = finC t ((EnS.incC EnS.upS t syn x (l.drop (k + 1))).map ((q ++ [s]) ++ ·)) := by
  rw [EnS.incC_at hk h]
  cases EnS.incC EnS.upS t syn x (l.drop (k + 1)) with
  | none => rfl
  | some z => simp
theorem fin_no {t x : List UInt8} {syn : Int} {l q : List (List UInt8)} {k : Nat} (hk : k < l.length) (h : EnS.upS t syn l[k] x = none) : finC t ((EnS.incC EnS.upS t syn x (l.drop k)).map (q ++ ·)) = ([], 19) := by
  rw [EnS.incC_no hk h]; rfl
theorem fin_end {t x : List UInt8} {syn : Int} {l q : List (List UInt8)} {k : Nat} (hk : l.length ≤ k) : finC t ((EnS.incC EnS.upS t syn x (l.drop k)).map (q ++ ·)) = if EnS.aloneS t q = true then (q, 0) else ([], 19) := by
  rw [EnS.incC_end hk]; simp [finC]
theorem fin_start {t x : List UInt8} {syn : Int} {l : List (List UInt8)} (h : syn = 3 ∨ syn = 4) (hl : l ≠ []) : EnS.changeS EnS.upS 3 t syn l [x] = finC t ((EnS.incC EnS.upS t syn x (l.drop 0)).map ([] ++ ·)) := by
  rw [EnS.change_3 h hl, List.drop_zero]
  cases EnS.incC EnS.upS t syn x l with
  | none => rfl
  | some z => simp [finC]
theorem change_bad {t : List UInt8} {syn : Int} {l vs : List (List UInt8)} (h : (syn ≠ 3 ∧ syn ≠ 4) ∨ vs.length ≠ 1) : EnS.changeS EnS.upS 3 t syn l vs = ([], 19) := by
  unfold EnS.changeS
  rw [if_neg (by decide), if_neg (by decide), if_neg (by decide), if_pos h]
theorem change_none {t x : List UInt8} {syn : Int} (h : syn = 3 ∨ syn = 4) : EnS.changeS EnS.upS 3 t syn [] [x] = ([], 16) := by
  unfold EnS.changeS
  rw [if_neg (by decide), if_neg (by decide), if_neg (by decide), if_neg (by rcases h with h | h <;> simp [h]), if_pos rfl]

set_option maxRecDepth 100000 in
set_option maxHeartbeats 1000000 in
theorem cha3_bad (t : List UInt8) (syn : Int) (l vs : List (List UInt8)) (vo vl : Value) (w : World) (ho : StrsIn w vo l) (hv : StrsIn w vl vs) (h : (syn ≠ 3 ∧ syn ≠ 4) ∨ vs.length ≠ 1) :
    Calls Tryz.prog 23 #[.int .i64 3, .string ⟨t.toArray⟩, .int .i64 syn, vo, vl] w (ChRet (EnS.changeS EnS.upS 3 t syn l vs) w) := by
  have HR := change_bad (t := t) (l := l) h
  obtain ⟨a1, c1, rfl⟩ := ho.form
  obtain ⟨a2, c2, rfl⟩ := hv.form
  generalize EnS.changeS EnS.upS 3 t syn l vs = R at *
  clear ho hv
  generalize l.length = n at *
  generalize vs.length = m at *
  by_cases hs : syn ≠ 3 ∧ syn ≠ 4
  · have h3 : (syn != 3) = true := by simpa using hs.1
    have h4 : (syn != 4) = true := by simpa using hs.2
    clear h hs
    go_enter Tryz.func23, Tryz.ntmps23
    go_wp2_with fail
    go_ret2
    exact ChRet.no HR (Below.refl _ _)
  · have hm : m ≠ 1 := by rcases h with h | h; exact absurd h hs; exact h
    have hm1 : ((m : Int) != 1) = true := by simp; omega
    clear h
    by_cases h3 : syn = 3
    · subst h3
      clear hs hm
      go_enter Tryz.func23, Tryz.ntmps23
      go_wp2_with fail
      go_ret2
      exact ChRet.no HR (Below.refl _ _)
    · have h4 : syn = 4 := by omega
      subst h4
      clear hs hm h3
      go_enter Tryz.func23, Tryz.ntmps23
      go_wp2_with fail
      go_ret2
      exact ChRet.no HR (Below.refl _ _)

set_option maxRecDepth 100000 in
set_option maxHeartbeats 2000000 in
theorem cha33_c (t x : List UInt8) (l : List (List UInt8)) (vo vl : Value) (w : World) (hE : Env w) (ht : t.length ≤ 1048576) (hs : (RuS.typeOf t).2 = 3) (ho : StrsIn w vo l) (hv : StrsIn w vl [x]) (hl : EnS.LenC 400000 l) (hfl : EnS.fineS t l = true) (hx : (DnS.valueS t x).2 = 0) (lx : x.length ≤ 1000000) :
    Calls Tryz.prog 23 #[.int .i64 3, .string ⟨t.toArray⟩, .int .i64 3, vo, vl] w (ChRet (EnS.changeS EnS.upS 3 t 3 l [x]) w) := by
  obtain ⟨a2, c2, rfl, hc2, hat2⟩ := SliceP.at (hv.strsP (fun _ => True) (fun _ _ => trivial))
  obtain ⟨g2, o2, rfl, hg2, _, hx0⟩ := hat2 0 (by simp)
  have c2x : w.cell? ⟨g2, o2, none⟩ = some (.string ⟨x.toArray⟩) := by
    have : w.cell? ⟨g2, o2 + 0 * 1, none⟩ = some (strV x) := hx0
    simpa [strV] using this
  simp only [List.length_cons, List.length_nil, Nat.zero_add] at hc2 ⊢
  clear hat2 hx0 hv
  by_cases hl0 : l = []
  · subst hl0
    obtain ⟨a1, c1, rfl⟩ := ho.form
    have HR := change_none (t := t) (x := x) (syn := 3) (by decide)
    generalize EnS.changeS EnS.upS 3 t 3 [] [x] = R at *
    simp only [List.length_nil]
    clear ho hl ht hfl hx hs
    go_enter Tryz.func23, Tryz.ntmps23
    go_wp2_with fail
    go_ret2
    exact ChRet.no HR (Below.refl _ _)
  have HR : Hid (EnS.changeS EnS.upS 3 t 3 l [x] = finC t ((EnS.incC EnS.upS t 3 x (l.drop 0)).map ([] ++ ·))) := Lib.hid (fin_start (by decide) hl0)
  generalize EnS.changeS EnS.upS 3 t 3 l [x] = R at *
  obtain ⟨a1, c1, rfl, hc1, hat⟩ := SliceP.at (ho.strsP (fun _ => True) (fun _ _ => trivial))
  have HAT := Lib.hid hat
  have HX := Lib.hid (fun k (h : k < l.length) => hl.2 l[k] (List.getElem_mem h))
  have HFN := Lib.hid (fun k (h : k < l.length) => show (DnS.valueS t l[k]).2 = 0 from by
    unfold EnS.fineS at hfl
    exact of_decide_eq_true (List.all_eq_true.1 hfl _ (List.getElem_mem h)))
  have HNO := Lib.hid (fun k (hk : k < l.length) (q : List (List UInt8)) h => fin_no (t := t) (x := x) (syn := 3) (q := q) hk h)
  have HYE := Lib.hid (fun k (hk : k < l.length) (q : List (List UInt8)) z h => fin_at (t := t) (x := x) (s := z) (syn := 3) (q := q) hk h)
  have HND := Lib.hid (fun k (hk : l.length ≤ k) (q : List (List UInt8)) => fin_end (t := t) (x := x) (syn := 3) (q := q) hk)
  have HIC := fun v W hE (hv : (DnS.valueS t v).2 = 0) (lv : v.length ≤ 1000000) => inc_c t v x 3 (by decide) hs hv hx lv lx W hE
  unfold IncRet at HIC
  have HUL := Lib.hid (fun v z h => EnS.up_len (t := t) (v := v) (x := x) (s := z) (syn := 3) h)
  have HTW := fun u q W hE h (hq : EnS.LenC 400000 q) => entwice_c t u q W hE ht h (by have := hq.1; omega) hq.2
  unfold NmBool at HTW
  have HEN := Lib.hid (fun W (hb : Below w.heap.size w W) => hE.below hb)
  have hn : l.length ≤ 400000 := hl.1
  have hn0 : l.length ≠ 0 := fun h => hl0 (List.eq_nil_of_length_eq_zero h)
  have hnz : ((l.length : Int) == 0) = false := by simpa using hn0
  have hL0 : Hid (EnS.LenC 0 ([] : List (List UInt8))) := Lib.hid ⟨Nat.le_refl _, fun v hv => by cases hv⟩
  clear hat ho hl hE hl0 hfl hx lx hs ht
  obtain ⟨n, hnn⟩ : ∃ n, l.length = n := ⟨_, rfl⟩
  have HNN := Lib.hid hnn
  rw [hnn] at hn hn0 hnz hc1 ⊢
  clear hnn hn0
  go_enter Tryz.func23, Tryz.ntmps23
  go_wp2_with fail
  go_loopw [18, 106] (fun av i wr => ∃ (k : Nat) (q : List (List UInt8)), k ≤ n ∧ i = .int .i64 k ∧ Own wr w.heap.size av q ∧ Hid (R = finC t ((EnS.incC EnS.upS t 3 x (l.drop k)).map (q ++ ·))) ∧ Hid (EnS.LenC k q) ∧ Below w.heap.size w wr) (fun _ i _ => n - (intOf i).toNat)
  case atStart => exact ⟨0, [], Nat.zero_le _, rfl, Own.empty _ _, HR, hL0, Below.refl _ _⟩
  case round =>
    obtain ⟨k, q, hk, rfl, hown, HA, HQL, hb⟩ := hrel
    clear HR hL0
    obtain ⟨qa, qc, rfl⟩ := hown.form
    obtain ⟨QL, hQL⟩ : ∃ n, q.length = n := ⟨_, rfl⟩
    have hql := HQL.out.1
    rw [hQL] at hown hql ⊢
    by_cases hlt : k < n
    · have hlt2 : k < l.length := by rw [HNN.out]; exact hlt
      obtain ⟨g, o, rfl, hg, _, hra⟩ := HAT.out k hlt2
      have c0 : wr.cell? ⟨g, o + k, none⟩ = some (strV (l[k]'hlt2)) := by
        have : w.cell? ⟨g, o + k * 1, none⟩ = some (strV (l[k]'hlt2)) := hra
        rw [Nat.mul_one] at this
        exact (hb.cell (p := ⟨g, o + k, none⟩) hg).trans this
      have c2r := (hb.cell (p := ⟨g2, o2, none⟩) hg2).trans c2x
      have hxl := HX.out k hlt2
      have hfv := HFN.out k hlt2
      have HNk := Lib.hid (fun h => HA.out.trans (HNO.out k hlt2 q h))
      have HYk := Lib.hid (fun z h => HA.out.trans (HYE.out k hlt2 q z h))
      have HUk := Lib.hid (fun z h => HUL.out (l[k]'hlt2) z h)
      have hcl := HIC (l[k]'hlt2) wr (HEN.out _ hb) hfv hxl
      generalize l[k] = y at *
      unfold strV at c0
      generalize EnS.upS t 3 y x = U at *
      have i0 : (0 : Int) ≤ (k : Int) := by omega
      have i3 : (k : Int) < (n : Int) := by omega
      clear hra hlt2 HNO HYE HND HX HAT HA HFN HIC HTW HUL
      go_wp2_with fail
      refine hcl.mono ?_; rintro e w2 ⟨s2, b2, rfl, hb2, hs2, hb2'⟩
      have hz2 := hb.trans (hb2'.mono hb.size)
      have hown2 := hown.call hb2'
      clear hcl hown
      cases U with
      | none =>
        have HQ := HNk.out rfl
        have hbf : b2 = false := hb2
        subst hbf
        clear HNk HYk hs2 hb2 HUk
        go_wp2_with fail
        go_ret2
        exact ChRet.no HQ hz2
      | some z =>
        have HQ := Lib.hid (HYk.out z rfl)
        have hbf : b2 = true := hb2
        have hsz : s2 = z := hs2 z rfl
        subst hbf
        subst hsz
        have hul := HUk.out s2 rfl
        have HL2 : Hid (EnS.LenC (k + 1) (q ++ [s2])) := Lib.hid ⟨by rw [List.length_append]; show q.length + 1 ≤ _; omega, fun v hv => by
          rcases List.mem_append.1 hv with hv | hv
          · exact HQL.out.2 v hv
          · rw [List.mem_singleton] at hv; subst hv; omega⟩
        clear HNk HYk hs2 HUk hb2 HQL
        have hgS := grow1 w2 (.cells #[.string ⟨s2.toArray⟩] 9)
        have hwS := Whole.made w2 9 #[.string ⟨s2.toArray⟩]
        have s0 := hwS.cell 0
        simp only [List.getElem?_toArray, List.getElem?_cons_zero] at s0
        have hoS := hown2.call hgS
        have hbS := hz2.trans (hgS.mono hz2.size)
        have hszS := hbS.size
        clear hwS
        go_wp2_with (at_builtin; refine push_str rfl _ _ rfl w.heap.size _ q (by rfl) hoS w2.heap.size (by rfl) s2 s0 (by omega) hszS ?_)
        intro v6 w6 hlo6 hb6
        go_wp2_with fail
        go_roundw
        case rel => exact ⟨k + 1, q ++ [s2], by omega, by go_num, hlo6, HQ, HL2, hbS.trans hb6⟩
        case measure => simp [intOf]; omega
    · have hkm : k = n := by omega
      subst hkm
      have HQ := Lib.hid (HA.out.trans (HND.out k (by rw [HNN.out]; exact Nat.le_refl _) q))
      have hsq := hown.strs
      have htw := HTW (.slice qa QL qc) q wr (HEN.out _ hb) hsq ⟨by omega, HQL.out.2⟩
      generalize EnS.aloneS t q = A at *
      have HSQ := Lib.hid (fun W (hb : Below wr.heap.size wr W) => hsq.call hb (Nat.le_refl _))
      clear HA HNO HYE HND HX HAT HFN HIC HTW HUL hsq hown HQL
      go_wp2_with fail
      refine htw.mono ?_; rintro e w2 ⟨rfl, hb2⟩
      have hz2 := hb.trans (hb2.mono hb.size)
      have hs2 := HSQ.out _ hb2
      cases A with
      | true =>
        have HQ2 := HQ.out
        clear HQ htw
        go_wp2_with fail
        go_ret2
        exact ChRet.yes HQ2 hs2 hz2
      | false =>
        have HQ2 := HQ.out
        clear HQ htw
        go_wp2_with fail
        go_ret2
        exact ChRet.no HQ2 hz2

set_option maxRecDepth 100000 in
set_option maxHeartbeats 2000000 in
theorem cha34_c (t x : List UInt8) (l : List (List UInt8)) (vo vl : Value) (w : World) (hE : Env w) (ht : t.length ≤ 1048576) (hs : (RuS.typeOf t).2 = 4) (ho : StrsIn w vo l) (hv : StrsIn w vl [x]) (hl : EnS.LenC 400000 l) (hfl : EnS.fineS t l = true) (hx : (DnS.valueS t x).2 = 0) (lx : x.length ≤ 1000000) :
    Calls Tryz.prog 23 #[.int .i64 3, .string ⟨t.toArray⟩, .int .i64 4, vo, vl] w (ChRet (EnS.changeS EnS.upS 3 t 4 l [x]) w) := by
  obtain ⟨a2, c2, rfl, hc2, hat2⟩ := SliceP.at (hv.strsP (fun _ => True) (fun _ _ => trivial))
  obtain ⟨g2, o2, rfl, hg2, _, hx0⟩ := hat2 0 (by simp)
  have c2x : w.cell? ⟨g2, o2, none⟩ = some (.string ⟨x.toArray⟩) := by
    have : w.cell? ⟨g2, o2 + 0 * 1, none⟩ = some (strV x) := hx0
    simpa [strV] using this
  simp only [List.length_cons, List.length_nil, Nat.zero_add] at hc2 ⊢
  clear hat2 hx0 hv
  by_cases hl0 : l = []
  · subst hl0
    obtain ⟨a1, c1, rfl⟩ := ho.form
    have HR := change_none (t := t) (x := x) (syn := 4) (by decide)
    generalize EnS.changeS EnS.upS 3 t 4 [] [x] = R at *
    simp only [List.length_nil]
    clear ho hl ht hfl hx hs
    go_enter Tryz.func23, Tryz.ntmps23
    go_wp2_with fail
    go_ret2
    exact ChRet.no HR (Below.refl _ _)
  have HR : Hid (EnS.changeS EnS.upS 3 t 4 l [x] = finC t ((EnS.incC EnS.upS t 4 x (l.drop 0)).map ([] ++ ·))) := Lib.hid (fin_start (by decide) hl0)
  generalize EnS.changeS EnS.upS 3 t 4 l [x] = R at *
  obtain ⟨a1, c1, rfl, hc1, hat⟩ := SliceP.at (ho.strsP (fun _ => True) (fun _ _ => trivial))
  have HAT := Lib.hid hat
  have HX := Lib.hid (fun k (h : k < l.length) => hl.2 l[k] (List.getElem_mem h))
  have HFN := Lib.hid (fun k (h : k < l.length) => show (DnS.valueS t l[k]).2 = 0 from by
    unfold EnS.fineS at hfl
    exact of_decide_eq_true (List.all_eq_true.1 hfl _ (List.getElem_mem h)))
  have HNO := Lib.hid (fun k (hk : k < l.length) (q : List (List UInt8)) h => fin_no (t := t) (x := x) (syn := 4) (q := q) hk h)
  have HYE := Lib.hid (fun k (hk : k < l.length) (q : List (List UInt8)) z h => fin_at (t := t) (x := x) (s := z) (syn := 4) (q := q) hk h)
  have HND := Lib.hid (fun k (hk : l.length ≤ k) (q : List (List UInt8)) => fin_end (t := t) (x := x) (syn := 4) (q := q) hk)
  have HIC := fun v W hE (hv : (DnS.valueS t v).2 = 0) (lv : v.length ≤ 1000000) => inc_c t v x 4 (by decide) hs hv hx lv lx W hE
  unfold IncRet at HIC
  have HUL := Lib.hid (fun v z h => EnS.up_len (t := t) (v := v) (x := x) (s := z) (syn := 4) h)
  have HTW := fun u q W hE h (hq : EnS.LenC 400000 q) => entwice_c t u q W hE ht h (by have := hq.1; omega) hq.2
  unfold NmBool at HTW
  have HEN := Lib.hid (fun W (hb : Below w.heap.size w W) => hE.below hb)
  have hn : l.length ≤ 400000 := hl.1
  have hn0 : l.length ≠ 0 := fun h => hl0 (List.eq_nil_of_length_eq_zero h)
  have hnz : ((l.length : Int) == 0) = false := by simpa using hn0
  have hL0 : Hid (EnS.LenC 0 ([] : List (List UInt8))) := Lib.hid ⟨Nat.le_refl _, fun v hv => by cases hv⟩
  clear hat ho hl hE hl0 hfl hx lx hs ht
  obtain ⟨n, hnn⟩ : ∃ n, l.length = n := ⟨_, rfl⟩
  have HNN := Lib.hid hnn
  rw [hnn] at hn hn0 hnz hc1 ⊢
  clear hnn hn0
  go_enter Tryz.func23, Tryz.ntmps23
  go_wp2_with fail
  go_loopw [18, 106] (fun av i wr => ∃ (k : Nat) (q : List (List UInt8)), k ≤ n ∧ i = .int .i64 k ∧ Own wr w.heap.size av q ∧ Hid (R = finC t ((EnS.incC EnS.upS t 4 x (l.drop k)).map (q ++ ·))) ∧ Hid (EnS.LenC k q) ∧ Below w.heap.size w wr) (fun _ i _ => n - (intOf i).toNat)
  case atStart => exact ⟨0, [], Nat.zero_le _, rfl, Own.empty _ _, HR, hL0, Below.refl _ _⟩
  case round =>
    obtain ⟨k, q, hk, rfl, hown, HA, HQL, hb⟩ := hrel
    clear HR hL0
    obtain ⟨qa, qc, rfl⟩ := hown.form
    obtain ⟨QL, hQL⟩ : ∃ n, q.length = n := ⟨_, rfl⟩
    have hql := HQL.out.1
    rw [hQL] at hown hql ⊢
    by_cases hlt : k < n
    · have hlt2 : k < l.length := by rw [HNN.out]; exact hlt
      obtain ⟨g, o, rfl, hg, _, hra⟩ := HAT.out k hlt2
      have c0 : wr.cell? ⟨g, o + k, none⟩ = some (strV (l[k]'hlt2)) := by
        have : w.cell? ⟨g, o + k * 1, none⟩ = some (strV (l[k]'hlt2)) := hra
        rw [Nat.mul_one] at this
        exact (hb.cell (p := ⟨g, o + k, none⟩) hg).trans this
      have c2r := (hb.cell (p := ⟨g2, o2, none⟩) hg2).trans c2x
      have hxl := HX.out k hlt2
      have hfv := HFN.out k hlt2
      have HNk := Lib.hid (fun h => HA.out.trans (HNO.out k hlt2 q h))
      have HYk := Lib.hid (fun z h => HA.out.trans (HYE.out k hlt2 q z h))
      have HUk := Lib.hid (fun z h => HUL.out (l[k]'hlt2) z h)
      have hcl := HIC (l[k]'hlt2) wr (HEN.out _ hb) hfv hxl
      generalize l[k] = y at *
      unfold strV at c0
      generalize EnS.upS t 4 y x = U at *
      have i0 : (0 : Int) ≤ (k : Int) := by omega
      have i3 : (k : Int) < (n : Int) := by omega
      clear hra hlt2 HNO HYE HND HX HAT HA HFN HIC HTW HUL
      go_wp2_with fail
      refine hcl.mono ?_; rintro e w2 ⟨s2, b2, rfl, hb2, hs2, hb2'⟩
      have hz2 := hb.trans (hb2'.mono hb.size)
      have hown2 := hown.call hb2'
      clear hcl hown
      cases U with
      | none =>
        have HQ := HNk.out rfl
        have hbf : b2 = false := hb2
        subst hbf
        clear HNk HYk hs2 hb2 HUk
        go_wp2_with fail
        go_ret2
        exact ChRet.no HQ hz2
      | some z =>
        have HQ := Lib.hid (HYk.out z rfl)
        have hbf : b2 = true := hb2
        have hsz : s2 = z := hs2 z rfl
        subst hbf
        subst hsz
        have hul := HUk.out s2 rfl
        have HL2 : Hid (EnS.LenC (k + 1) (q ++ [s2])) := Lib.hid ⟨by rw [List.length_append]; show q.length + 1 ≤ _; omega, fun v hv => by
          rcases List.mem_append.1 hv with hv | hv
          · exact HQL.out.2 v hv
          · rw [List.mem_singleton] at hv; subst hv; omega⟩
        clear HNk HYk hs2 HUk hb2 HQL
        have hgS := grow1 w2 (.cells #[.string ⟨s2.toArray⟩] 9)
        have hwS := Whole.made w2 9 #[.string ⟨s2.toArray⟩]
        have s0 := hwS.cell 0
        simp only [List.getElem?_toArray, List.getElem?_cons_zero] at s0
        have hoS := hown2.call hgS
        have hbS := hz2.trans (hgS.mono hz2.size)
        have hszS := hbS.size
        clear hwS
        go_wp2_with (at_builtin; refine push_str rfl _ _ rfl w.heap.size _ q (by rfl) hoS w2.heap.size (by rfl) s2 s0 (by omega) hszS ?_)
        intro v6 w6 hlo6 hb6
        go_wp2_with fail
        go_roundw
        case rel => exact ⟨k + 1, q ++ [s2], by omega, by go_num, hlo6, HQ, HL2, hbS.trans hb6⟩
        case measure => simp [intOf]; omega
    · have hkm : k = n := by omega
      subst hkm
      have HQ := Lib.hid (HA.out.trans (HND.out k (by rw [HNN.out]; exact Nat.le_refl _) q))
      have hsq := hown.strs
      have htw := HTW (.slice qa QL qc) q wr (HEN.out _ hb) hsq ⟨by omega, HQL.out.2⟩
      generalize EnS.aloneS t q = A at *
      have HSQ := Lib.hid (fun W (hb : Below wr.heap.size wr W) => hsq.call hb (Nat.le_refl _))
      clear HA HNO HYE HND HX HAT HFN HIC HTW HUL hsq hown HQL
      go_wp2_with fail
      refine htw.mono ?_; rintro e w2 ⟨rfl, hb2⟩
      have hz2 := hb.trans (hb2.mono hb.size)
      have hs2 := HSQ.out _ hb2
      cases A with
      | true =>
        have HQ2 := HQ.out
        clear HQ htw
        go_wp2_with fail
        go_ret2
        exact ChRet.yes HQ2 hs2 hz2
      | false =>
        have HQ2 := HQ.out
        clear HQ htw
        go_wp2_with fail
        go_ret2
        exact ChRet.no HQ2 hz2

theorem change_c (op : Int) (t : List UInt8) (l vs : List (List UInt8)) (vo vl : Value) (w : World) (hop : 0 ≤ op ∧ op ≤ 3) (hE : Env w) (ht : t.length ≤ 1048576) (ho : StrsIn w vo l) (hv : StrsIn w vl vs) (hl : EnS.LenC 400000 l) (hlv : EnS.LenC 400000 vs) (hfl : EnS.fineS t l = true) (hfv : EnS.fineS t vs = true) :
    Calls Tryz.prog 23 #[.int .i64 op, .string ⟨t.toArray⟩, .int .i64 (RuS.typeOf t).2, vo, vl] w (ChRet (EnS.changeS EnS.upS op t (RuS.typeOf t).2 l vs) w) := by
  have h : op = 0 ∨ op = 1 ∨ op = 2 ∨ op = 3 := by omega
  rcases h with rfl | rfl | rfl | rfl
  · exact cha0_c t _ l vs vo vl w hE ht ho hv hl hlv
  · exact cha1_c t _ l vs vo vl w hE ht ho hv hl hlv
  · exact cha2_c t _ l vs vo vl w hE ht ho hv hlv
  · by_cases hb : ((RuS.typeOf t).2 ≠ 3 ∧ (RuS.typeOf t).2 ≠ 4) ∨ vs.length ≠ 1
    · exact cha3_bad t _ l vs vo vl w ho hv hb
    · obtain ⟨x, rfl⟩ : ∃ x, vs = [x] := by
        match vs, (show vs.length = 1 by omega) with
        | [x], _ => exact ⟨x, rfl⟩
      have hx : (DnS.valueS t x).2 = 0 := by unfold EnS.fineS at hfv; simpa using hfv
      have lx := hlv.2 x (List.mem_singleton.2 rfl)
      have h34 : (RuS.typeOf t).2 = 3 ∨ (RuS.typeOf t).2 = 4 := by omega
      rcases h34 with h3 | h4
      · rw [h3]; exact cha33_c t x l vo vl w hE ht h3 ho hv hl hfl hx lx
      · rw [h4]; exact cha34_c t x l vo vl w hE ht h4 ho hv hl hfl hx lx
end Go.Proofs.YtmnhgbkdahdoiaaGreatDoor
