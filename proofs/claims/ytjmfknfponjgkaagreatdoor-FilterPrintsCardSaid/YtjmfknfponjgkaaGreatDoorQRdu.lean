/- The walks of Normal and NormalPart of a part. Conditions: those that each theorem states; the library's variables are laid. -/
import Derived.Deep.DrawnRows
import Derived.Deep.RegionHeld3
import Derived.Lib.LazyBuf
import Derived.BigQuiet
import Derived.Test.YtjmfknfponjgkaaGreatDoorQRdo
import Derived.Test.YtjmfknfponjgkaaGreatDoorQRda
import Derived.Test.YtjmfknfponjgkaaGreatDoorQRue
import Derived.Test.YtjmfknfponjgkaaGreatDoorQRug
import Derived.Test.YtjmfknfponjgkaaGreatDoorQPhc
import Derived.Test.YtjmfknfponjgkaaGreatDoorQRuS
import Derived.Test.YtjmfknfponjgkaaGreatDoorQRdl
namespace Go.Proofs.YtjmfknfponjgkaaGreatDoor
open Go.RowKit
attribute [local go_sem ↓] Go.wp_at_zero Go.wp_at_succ

/-- slices.Clone at a list of pairs that is not empty -/
theorem own_empty (T : TypeId) (w : World) : OwnA T (w.alloc (.cells #[] T)) w.heap.size (.slice (some ⟨w.heap.size, 0, none⟩) 0 0) [] :=
  ⟨rfl, .inr ⟨w.heap.size, 0, #[], rfl, Nat.le_refl _, by show (w.heap.push _)[w.heap.size]? = _; rw [Array.getElem?_push_size], Nat.le_refl _, by unfold maxLen; omega, rfl, rfl⟩⟩
set_option maxRecDepth 100000 in
theorem clone_c (v : Value) (xs : List RdS.Pr) (w : World) (h : AvasIn w v xs) (h0 : xs ≠ []) (hl : xs.length ≤ 1000) : Calls Tryz.prog 160 #[v] w fun e w' => ∃ u, e = .returned u ∧ OwnA 190 w' w.heap.size u xs ∧ Below w.heap.size w w' := by
  obtain ⟨a, c, rfl, hc, hcase⟩ := h
  rcases hcase with rfl | ⟨g, o, rfl, hg, hcell⟩
  · exact absurd rfl h0
  have hcs : ∀ (j : Nat) (u : Value), (avaC xs)[j]? = some u → (w.alloc (.cells #[] 190)).cell? ((⟨g, o, none⟩ : Addr).add j) = some u := fun j u hj => by
    have hadd : (⟨g, o, none⟩ : Addr).add j = ⟨g, o + j, none⟩ := by unfold Addr.add; split <;> simp_all
    rw [hadd]
    have hjl := (List.getElem?_eq_some_iff.1 hj).1
    rw [avaC_len] at hjl
    have hj2 : j / 2 < xs.length := by omega
    obtain ⟨c0, c1⟩ := hcell (j / 2) _ (List.getElem?_eq_getElem hj2)
    obtain ⟨a0, a1⟩ := avaC_at xs (j / 2) xs[j / 2] (List.getElem?_eq_getElem hj2)
    have hb := grow1 w (.cells #[] 190)
    rcases Nat.mod_two_eq_zero_or_one j with h2 | h2
    · rw [show j / 2 * 2 = j from by omega] at c0 a0
      rw [a0] at hj; cases hj
      exact keepC c0 hb
    · rw [show o + j / 2 * 2 + 1 = o + j from by omega] at c1
      rw [show j / 2 * 2 + 1 = j from by omega] at a1
      rw [a1] at hj; cases hj
      exact keepC c1 hb
  have HCS := Lib.hid hcs
  obtain ⟨i0, hi, hz0, hz1, hz2⟩ := info_parts infoAva
  have HI := Lib.hid hi
  clear hi hcs hcell
  generalize hn : xs.length = n at *
  have HN := Lib.hid hn
  clear hn
  have hnn := fun w => Lib.run_eql_slice_nil (P := Tryz.prog) w 155 190 (some ⟨g, o, none⟩) n c 0 0 Tryz.underlying155
  go_enter Tryz.func160, Tryz.ntmps160
  go_wp2_with (at_builtin; refine push_avas 190 155 Tryz.underlying155 HI.out hz0 hz1 hz2 (by rfl) (by rfl) _ _ (by rfl) w.heap.size _ [] (by rfl) (own_empty _ w) ⟨g, o, none⟩ n _ (by rfl) xs HN.out HCS.out (by simp; omega) (by simp) ?_)
  intro v' w2 hown2 hb2 hgr
  go_wp2_with fail
  go_ret
  exact ⟨_, rfl, hown2, (grow1 w _).trans hb2⟩

def NormRetP (xs : List RdS.Pr) (w : World) (e : Ending) (w' : World) : Prop := ∃ v, e = .returned (.tuple #[v, .int .i64 (RdS.normP xs).2]) ∧ AvasIn w' v (RdS.normP xs).1 ∧ Below w.heap.size w w'
theorem NormRetP.bad {xs : List RdS.Pr} {w w' : World} (h : RdS.formedS xs = false) (hb : Below w.heap.size w w') : NormRetP xs w (.returned (.tuple #[.slice Option.none 0 0, .int .i64 1])) w' := by
  unfold NormRetP RdS.normP; rw [h]; exact ⟨_, rfl, AvasIn.empty w', hb⟩
/-- the first k pairs have their normal values -/
def halfN (xs : List RdS.Pr) (k : Nat) : List RdS.Pr := RdS.normL (xs.take k) ++ xs.drop k
theorem halfN_len (xs : List RdS.Pr) (k : Nat) : (halfN xs k).length = xs.length := by
  unfold halfN; rw [List.length_append, RdS.normL_length, List.length_take, List.length_drop]; omega
theorem halfN_at {xs : List RdS.Pr} {k : Nat} (h : k < xs.length) : (halfN xs k)[k]? = some xs[k] := by
  unfold halfN
  have hl : (RdS.normL (xs.take k)).length = k := by rw [RdS.normL_length, List.length_take]; omega
  rw [List.getElem?_append_right (by omega), hl, Nat.sub_self, List.getElem?_drop, Nat.add_zero, List.getElem?_eq_getElem h]
theorem halfN_succ {xs : List RdS.Pr} {k : Nat} (h : k < xs.length) : halfN xs (k + 1) = (halfN xs k).set k (xs[k].1, (RuS.normal xs[k].1 xs[k].2).1) := by
  have hl : (RdS.normL (xs.take k)).length = k := by rw [RdS.normL_length, List.length_take]; omega
  unfold halfN
  rw [List.set_append_right _ _ (by omega), hl, Nat.sub_self, List.drop_eq_getElem_cons h, List.set_cons_zero, List.take_succ_eq_append_getElem h]
  unfold RdS.normL
  rw [List.map_append]
  simp
theorem avaC_set (xs : List RdS.Pr) : ∀ (k : Nat) (p : RdS.Pr) (y : List UInt8), xs[k]? = some p → avaC (xs.set k (p.1, y)) = (avaC xs).set (k * 2 + 1) (strV y) := by
  induction xs with
  | nil => intro k p y h; simp at h
  | cons q xs ih =>
    intro k p y h
    cases k with
    | zero => have := Option.some.inj h; subst this; rfl
    | succ k =>
      have h' : xs[k]? = some p := by simpa using h
      show strV q.1 :: strV q.2 :: avaC (xs.set k (p.1, y)) = _
      rw [ih k p y h', show (k + 1) * 2 + 1 = k * 2 + 1 + 1 + 1 from by omega]
      rfl
theorem OwnA.stored {T : TypeId} {w : World} {B g n cap : Nat} {xs : List RdS.Pr} (h : OwnA T w B (.slice (some ⟨g, 0, none⟩) n cap) xs) (hn : n = xs.length) {k : Nat} {p : RdS.Pr} (hk : xs[k]? = some p) (y : List UInt8) :
    OwnA T (w.setCell ⟨g, k * 2 + 1, none⟩ (strV y)) B (.slice (some ⟨g, 0, none⟩) n cap) (xs.set k (p.1, y)) := by
  subst hn
  have h1 := (World.ownsRow.stored h (k * 2 + 1) (strV y)).1
  unfold OwnA
  rw [List.length_set, avaC_set xs k p y hk]
  exact h1
def NmLoop (xs : List RdS.Pr) (w1 : World) (u i : Value) (wr : World) : Prop := ∃ k : Nat, k ≤ xs.length ∧ i = .int .i64 k ∧ OwnA 190 wr w1.heap.size u (halfN xs k) ∧ Below w1.heap.size w1 wr

set_option maxRecDepth 100000 in
set_option maxHeartbeats 4000000 in
theorem rdnormal_c (v : Value) (xs : List RdS.Pr) (w : World) (h : AvasIn w v xs) (hf : PairsFit xs) (hE : Env w) : Calls Tryz.prog 130 #[v] w (NormRetP xs w) := by
  have hfm := formed_any v xs w h hf hE
  unfold FmRet at hfm
  cases hfd : RdS.formedS xs with
  | false =>
    rw [hfd] at hfm
    have HFD := Lib.hid hfd
    clear h hf hfd
    go_enter Tryz.func130, Tryz.ntmps130
    go_wp2_with fail
    refine hfm.mono ?_; rintro e w1 ⟨rfl, hb1⟩
    go_wp2_with fail
    go_ret2
    exact NormRetP.bad HFD.out hb1
  | true =>
    rw [hfd] at hfm
    have hfp := RdS.formed_parts hfd
    have hne : xs ≠ [] := by intro h0; rw [h0] at hfp; simp at hfp
    have HSM := Lib.hid (RdS.formed_small hfd)
    have HNP : Hid (RdS.normP xs = (RdS.normL xs, 0)) := Lib.hid (by unfold RdS.normP; rw [if_pos hfd])
    have hpos : 0 < xs.length := hfp.1
    have hcl := fun w h => clone_c v xs w h hne (by have := hfp.2.1; omega)
    clear hfd hf hfp
    go_enter Tryz.func130, Tryz.ntmps130
    go_wp2_with fail
    refine hfm.mono ?_; rintro e w1 ⟨rfl, hb1⟩
    have hE1 := hE.below hb1
    go_wp2_with fail
    refine (hcl _ (h.call hb1 (Nat.le_refl _))).mono ?_; rintro e w2 ⟨u, rfl, hown, hb2⟩
    have hE2 := hE1.below hb2
    obtain ⟨g2, cap, rfl, hg2, hl2⟩ := World.ownsRow.form hown hpos
    have h00 : halfN xs 0 = xs := by unfold halfN; simp [RdS.normL]
    have hown0 : OwnA 190 w2 w1.heap.size (.slice (some ⟨g2, 0, none⟩) xs.length cap) (halfN xs 0) := by rw [h00]; exact hown
    have HOWN0 := Lib.hid hown0
    generalize hn : xs.length = n at *
    have HN := Lib.hid hn
    have hn3 : n ≤ 3 := HSM.out.1
    clear hn hown hown0 h00 hfm hcl h
    go_wp2_with fail
    go_loopw [14] (fun i wr => NmLoop xs w1 (.slice (some ⟨g2, 0, none⟩) n cap) i wr) (fun i _ => n - (intOf i).toNat)
    case atStart => exact ⟨0, Nat.zero_le _, rfl, HOWN0.out, hb2⟩
    case round =>
      obtain ⟨k, hk, rfl, hown, hb⟩ := hrel
      rw [HN.out] at hk
      have hsz := hb.size
      by_cases hlt : k < n
      · have hlt2 : k < xs.length := by rw [HN.out]; exact hlt
        have hat := halfN_at hlt2
        have HSC := Lib.hid (halfN_succ hlt2)
        have hsm := HSM.out.2 _ (List.getElem_mem hlt2)
        obtain ⟨a0, a1⟩ := avaC_at (halfN xs k) k xs[k] hat
        have c0 := World.ownsRow.cells hown (g := g2) rfl _ _ a0
        have c1 := World.ownsRow.cells hown (g := g2) rfl _ _ a1
        have hadd : ∀ j, (⟨g2, 0, none⟩ : Addr).add j = ⟨g2, j, none⟩ := fun j => by unfold Addr.add; split <;> simp_all
        rw [hadd] at c0 c1
        have hlenH := halfN_len xs k
        rw [HN.out] at hlenH
        have HST := Lib.hid (fun (w' : World) (hb' : Below wr.heap.size wr w') (y : List UInt8) => OwnA.stored (OwnA.call hown hb') hlenH.symm hat y)
        have hfz := fun (w' : World) (hb' : Below wr.heap.size wr w') => World.ownsRow.frozenAt (n := (halfN xs k).length) (cap := cap) (by have h5 := OwnA.call hown hb'; rw [hlenH]; unfold OwnA at h5; rw [hlenH] at h5; exact h5) (k * 2 + 1)
        have HFZ := Lib.hid hfz
        have hgl : g2 < wr.heap.size := (World.ownsRow.lt hown g2 rfl).2
        generalize xs[k] = p at *
        obtain ⟨t, u⟩ := p
        simp only at c0 c1 hsm
        unfold strV at c0 c1
        have hnm := fun w hE => rulenormal_c ⟨t.toArray⟩ ⟨u.toArray⟩ (by show t.toArray.size ≤ _; rw [List.size_toArray]; omega) (by show u.toArray.size ≤ _; rw [List.size_toArray]; omega) w hE
        unfold NormRet at hnm
        have du : ∀ l : List UInt8, (⟨l.toArray⟩ : ByteArray).data.toList = l := fun _ => rfl
        rw [du, du] at hnm
        simp only at HSC
        generalize RuS.normal t u = nr at *
        obtain ⟨x, e0⟩ := nr
        simp only at hnm HSC
        have hba : Below wr.heap.size wr (wr.alloc (.cells #[.string ⟨t.toArray⟩, .string ⟨u.toArray⟩] 190)) := grow1 wr _
        have hEr : Env (wr.alloc (.cells #[.string ⟨t.toArray⟩, .string ⟨u.toArray⟩] 190)) := (hE1.below hb).alloc _
        clear hat a0 a1 hlt2 hown du hfz
        go_wp2_with fail
        refine (hnm _ hEr).mono ?_; rintro e w3 ⟨rfl, hb3⟩
        have hb4 : Below wr.heap.size wr w3 := below_trans hba hb3
        have d1 : w3.cell? ⟨g2, k * 2 + 1, none⟩ = some (.string ⟨u.toArray⟩) := keepC c1 hb4
        have f1 := HFZ.out w3 hb4
        go_wp2_with fail
        go_roundw
        case rel => exact ⟨k + 1, by rw [HN.out]; omega, by go_num, by rw [HSC.out]; exact HST.out w3 hb4 x, (hb.trans (hb4.mono hsz)).setCell (p := ⟨g2, k * 2 + 1, none⟩) hg2 _⟩
        case measure => simp [intOf]; omega
      · have hkn : k = n := by omega
        subst hkn
        have hall : halfN xs k = RdS.normL xs := by unfold halfN; rw [← HN.out, List.take_length, List.drop_length, List.append_nil]
        rw [hall] at hown
        clear hall
        go_wp2_with fail
        go_ret2
        exact ⟨_, by rw [HNP.out]; rfl, by rw [HNP.out]; exact hown.avas, hb1.trans (hb.mono hb1.size)⟩
end Go.Proofs.YtjmfknfponjgkaaGreatDoor
