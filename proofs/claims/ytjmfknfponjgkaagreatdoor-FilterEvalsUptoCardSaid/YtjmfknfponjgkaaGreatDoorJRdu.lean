/- The walk of the document's Print of a part. Conditions: as stated. -/
import Derived.Deep.DrawnRows
import Derived.Deep.RegionHeld3
import Derived.Lib.LazyBuf
import Derived.BigQuiet
import Derived.Test.YtjmfknfponjgkaaGreatDoorJRdo
import Derived.Test.YtjmfknfponjgkaaGreatDoorJRdl
set_option maxRecDepth 100000
set_option maxHeartbeats 4000000
namespace Go.Proofs.YtjmfknfponjgkaaGreatDoor
section
open Go.RowKit
attribute [local go_sem ↓] Go.wp_at_zero Go.wp_at_succ
def RPrLoop (xs : List RdS.Pr) (w1 : World) (s i : Value) (wr : World) : Prop := ∃ k : Nat, k <= xs.length /\ i = .int .i64 k /\ s = .string ⟨(RdS.textTo xs k).toArray⟩ /\ Below w1.heap.size w1 wr
theorem refprint_c (v : Value) (xs : List RdS.Pr) (w : World) (h : AvasIn w v xs) (hf : PairsFit xs) (hE : Env w) : Calls Tryz.prog 149 #[v] w (PrintRet xs w) := by
 have hfm := refformed_any v xs w h hf hE
 unfold FmRet at hfm
 cases hfd : RdS.formedS xs with
 | false =>
  rw [hfd] at hfm
  have HFD := hZ9 hfd
  clear h hf hfd
  go_enter Tryz.func149, Tryz.ntmps149
  go_wp2_with fail
  refine hfm.mono ?_; rintro e w1 ⟨rfl, hb1⟩
  go_wp2_with fail
  go_ret2
  exact PrintRet.bad HFD.out hb1
 | true =>
  rw [hfd] at hfm
  have HFD := hZ9 hfd
  have HSM := hZ9 (RdS.formed_small hfd)
  have HTS := hZ9 (RdS.text_small hfd)
  have HPR : Hid (RdS.printS xs = (RdS.textTo xs xs.length, 0)) := hZ9 (by unfold RdS.printS; rw [if_pos hfd])
  clear hfd hf
  obtain ⟨a, c, rfl, hc, hcase⟩ := h
  rcases hcase with rfl | ⟨g, o, rfl, hg, hcell⟩
  · have := HFD.out; cases this
  have HC := hZ9 hcell
  generalize hn : xs.length = n at *
  have HN := hZ9 hn
  have hn3 : n <= 3 := HSM.out.1
  clear hn hcell
  go_enter Tryz.func149, Tryz.ntmps149
  go_wp2_with fail
  refine hfm.mono ?_; rintro e w1 ⟨rfl, hb1⟩
  have hg1 : g < w1.heap.size := Nat.lt_of_lt_of_le hg hb1.size
  go_wp2_with fail
  go_loopw [4, 11] (fun s i wr => RPrLoop xs w1 s i wr) (fun _ i _ => n - (intOf i).toNat)
  case atStart => exact ⟨0, Nat.zero_le _, rfl, rfl, Below.refl _ _⟩
  case round =>
   obtain ⟨k, hk, rfl, rfl, hb⟩ := hrel
   rw [HN.out] at hk
   have hsz := hb.size
   by_cases hlt : k < n
   · have hlt2 : k < xs.length := by rw [HN.out]; exact hlt
     obtain ⟨c0, c1⟩ := HC.out k _ (List.getElem?_eq_getElem hlt2)
     have HTX := hZ9 (RdS.textTo_succ xs k hlt2)
     have hsm := HSM.out.2 _ (List.getElem_mem hlt2)
     have hts := HTS.out k hk
     generalize xs[k] = p at *
     obtain ⟨t, u⟩ := p
     simp only at c0 c1 hsm
     have HPT : Hid (RdS.pairT (t, u) = t ++ [61] ++ RdS.escS u) := hZ9 rfl
     have hesc := RdS.escS_len u
     have hrv := fun w => refvalue_c u (by omega) w
     replace c0 : wr.cell? ⟨g, o + k * 2, none⟩ = some (strV t) := (hb.cell (p := ⟨g, o + k * 2, none⟩) hg1).trans ((hb1.cell (p := ⟨g, o + k * 2, none⟩) hg).trans c0)
     replace c1 : wr.cell? ⟨g, o + k * 2 + 1, none⟩ = some (strV u) := (hb.cell (p := ⟨g, o + k * 2 + 1, none⟩) hg1).trans ((hb1.cell (p := ⟨g, o + k * 2 + 1, none⟩) hg).trans c1)
     unfold strV at c0 c1
     have hgw : g < wr.heap.size := Nat.lt_of_lt_of_le hg1 hsz
     clear hlt2
     by_cases hk0 : k = 0
     · have HT0 : Hid (RdS.textTo xs (k + 1) = RdS.textTo xs k ++ t ++ [61] ++ RdS.escS u) := hZ9 (by rw [HTX.out, if_pos hk0, HPT.out]; simp)
       have hkz : decide ((0 : Int) < (k : Int)) = false := decide_eq_false (by omega)
       have hkz2 : decide (0 < k) = false := decide_eq_false (by omega)
       clear hk0
       generalize RdS.textTo xs k = acc at *
       generalize RdS.escS u = eu at *
       have ha1 := cat_lit acc t (by omega) (by omega)
       have hy1l : (acc ++ t).length <= 4000 := by rw [List.length_append]; omega
       obtain ⟨y1, hy1⟩ : ∃ y1, y1 = acc ++ t := ⟨_, rfl⟩
       rw [<- hy1] at ha1 hy1l
       have ha2 := cat_lit y1 [61] (by omega) (by decide)
       have hy2l : (y1 ++ [61]).length <= 5000 := by rw [List.length_append, List.length_singleton]; omega
       obtain ⟨y2, hy2⟩ : ∃ y2, y2 = y1 ++ [61] := ⟨_, rfl⟩
       rw [<- hy2] at ha2 hy2l
       have ha3 := cat_lit y2 eu (by omega) (by omega)
       obtain ⟨y3, hy3⟩ : ∃ y3, y3 = y2 ++ eu := ⟨_, rfl⟩
       rw [<- hy3] at ha3
       have HY : Hid (y3 = acc ++ t ++ [61] ++ eu) := hZ9 (by rw [hy3, hy2, hy1])
       clear hy1 hy2 hy3 hy1l hy2l
       go_wp2_with fail
       go_region_held3 (fun W => W.cell? ⟨g, o + k * 2, none⟩ = some (.string ⟨t.toArray⟩) /\ W.cell? ⟨g, o + k * 2 + 1, none⟩ = some (.string ⟨u.toArray⟩)) (first | exact ⟨c0, c1⟩ | exact ⟨(hb2.cell (p := ⟨g, o + k * 2, none⟩) hgw).trans c0, (hb2.cell (p := ⟨g, o + k * 2 + 1, none⟩) hgw).trans c1⟩)
        (first | (go_at_call 181; (with_reducible refine (hrv _).mono ?_); rintro e w2 ⟨rfl, hb2⟩))
       all_goals go_wp2_with fail
       all_goals go_roundw
       all_goals first | exact ⟨k + 1, by rw [HN.out]; omega, by go_num, by rw [HT0.out, HY.out], hb.trans ((below_trans (Below.drew (Below.refl _ _)) hb2).mono hsz)⟩ | (simp [intOf]; omega)
     · have HT0 : Hid (RdS.textTo xs (k + 1) = RdS.textTo xs k ++ [43] ++ t ++ [61] ++ RdS.escS u) := hZ9 (by rw [HTX.out, if_neg hk0, HPT.out]; simp)
       have hkz : (0 : Int) < (k : Int) := by omega
       have hkz2 : 0 < k := by omega
       clear hk0
       generalize RdS.textTo xs k = acc at *
       generalize RdS.escS u = eu at *
       have ha0 := cat_lit acc [43] (by omega) (by decide)
       have hc0 : (⟨acc.toArray⟩ ++ ⟨#[43]⟩ : ByteArray) = ⟨(acc ++ [43]).toArray⟩ := mk_app acc [43]
       have hy0l : (acc ++ [43]).length <= 3500 := by rw [List.length_append, List.length_singleton]; omega
       obtain ⟨y0, hy0⟩ : ∃ y0, y0 = acc ++ [43] := ⟨_, rfl⟩
       rw [<- hy0] at ha0 hc0 hy0l
       have ha1 := cat_lit y0 t (by omega) (by omega)
       have hy1l : (y0 ++ t).length <= 4000 := by rw [List.length_append]; omega
       obtain ⟨y1, hy1⟩ : ∃ y1, y1 = y0 ++ t := ⟨_, rfl⟩
       rw [<- hy1] at ha1 hy1l
       have ha2 := cat_lit y1 [61] (by omega) (by decide)
       have hy2l : (y1 ++ [61]).length <= 5000 := by rw [List.length_append, List.length_singleton]; omega
       obtain ⟨y2, hy2⟩ : ∃ y2, y2 = y1 ++ [61] := ⟨_, rfl⟩
       rw [<- hy2] at ha2 hy2l
       have ha3 := cat_lit y2 eu (by omega) (by omega)
       obtain ⟨y3, hy3⟩ : ∃ y3, y3 = y2 ++ eu := ⟨_, rfl⟩
       rw [<- hy3] at ha3
       have HY : Hid (y3 = acc ++ [43] ++ t ++ [61] ++ eu) := hZ9 (by rw [hy3, hy2, hy1, hy0])
       clear hy0 hy1 hy2 hy3 hy0l hy1l hy2l
       go_wp2_with fail
       go_region_held3 (fun W => W.cell? ⟨g, o + k * 2, none⟩ = some (.string ⟨t.toArray⟩) /\ W.cell? ⟨g, o + k * 2 + 1, none⟩ = some (.string ⟨u.toArray⟩)) (first | exact ⟨c0, c1⟩ | exact ⟨(hb2.cell (p := ⟨g, o + k * 2, none⟩) hgw).trans c0, (hb2.cell (p := ⟨g, o + k * 2 + 1, none⟩) hgw).trans c1⟩)
        (first | (go_at_call 181; (with_reducible refine (hrv _).mono ?_); rintro e w2 ⟨rfl, hb2⟩))
       all_goals go_wp2_with fail
       all_goals go_roundw
       all_goals first | exact ⟨k + 1, by rw [HN.out]; omega, by go_num, by rw [HT0.out, HY.out], hb.trans ((below_trans (Below.drew (Below.refl _ _)) hb2).mono hsz)⟩ | (simp [intOf]; omega)
   · have hkn : k = n := by omega
     subst hkn
     generalize RdS.textTo xs k = tx at *
     go_wp2_with fail
     go_ret2
     exact ⟨by rw [HPR.out]; rfl, hb1.trans (hb.mono hb1.size)⟩
end
section
open Go.RowKit
attribute [local go_sem ↓] Go.wp_at_zero Go.wp_at_succ
theorem own_empty (T : TypeId) (w : World) : OwnA T (w.alloc (.cells #[] T)) w.heap.size (.slice (some ⟨w.heap.size, 0, none⟩) 0 0) [] :=
 ⟨rfl, .inr ⟨w.heap.size, 0, #[], rfl, Nat.le_refl _, by show (w.heap.push _)[w.heap.size]? = _; rw [Array.getElem?_push_size], Nat.le_refl _, by unfold maxLen; omega, rfl, rfl⟩⟩
theorem clone_c (v : Value) (xs : List RdS.Pr) (w : World) (h : AvasIn w v xs) (h0 : xs ≠ []) (hl : xs.length <= 1000) : Calls Tryz.prog 160 #[v] w fun e w' => ∃ u, e = .returned u /\ OwnA 190 w' w.heap.size u xs /\ Below w.heap.size w w' := by
 obtain ⟨a, c, rfl, hc, hcase⟩ := h
 rcases hcase with rfl | ⟨g, o, rfl, hg, hcell⟩
 · exact absurd rfl h0
 have hcs : ∀ (j : Nat) (u : Value), (avaC xs)[j]? = some u -> (w.alloc (.cells #[] 190)).cell? ((⟨g, o, none⟩ : Addr).add j) = some u := fun j u hj => by
  have hadd : (⟨g, o, none⟩ : Addr).add j = ⟨g, o + j, none⟩ := by unfold Addr.add; split <;> simp_all
  rw [hadd]
  have hjl := (List.getElem?_eq_some_iff.1 hj).1
  rw [avaC_len] at hjl
  have hj2 : j / 2 < xs.length := by omega
  obtain ⟨c0, c1⟩ := hcell (j / 2) _ (List.getElem?_eq_getElem hj2)
  obtain ⟨a0, a1⟩ := avaC_at xs (j / 2) xs[j / 2] (List.getElem?_eq_getElem hj2)
  have hb := grow1 w (.cells #[] 190)
  rcases Nat.mod_two_eq_zero_or_one j with h2 | h2
  · rw [show j / 2 * 2 = j from by omega] at c0 a0
    rw [a0] at hj; cases hj
    exact keepC c0 hb
  · rw [show o + j / 2 * 2 + 1 = o + j from by omega] at c1
    rw [show j / 2 * 2 + 1 = j from by omega] at a1
    rw [a1] at hj; cases hj
    exact keepC c1 hb
 have HCS := hZ9 hcs
 obtain ⟨i0, hi, hz0, hz1, hz2⟩ := info_parts infoAva
 have HI := hZ9 hi
 clear hi hcs hcell
 generalize hn : xs.length = n at *
 have HN := hZ9 hn
 clear hn
 have hnn := fun w => Lib.run_eql_slice_nil (P := Tryz.prog) w 155 190 (some ⟨g, o, none⟩) n c 0 0 Tryz.underlying155
 go_enter Tryz.func160, Tryz.ntmps160
 go_wp2_with (at_builtin; refine push_avas 190 155 Tryz.underlying155 HI.out hz0 hz1 hz2 (by rfl) (by rfl) _ _ (by rfl) w.heap.size _ [] (by rfl) (own_empty _ w) ⟨g, o, none⟩ n _ (by rfl) xs HN.out HCS.out (by simp; omega) (by simp) ?_)
 intro v' w2 hown2 hb2 hgr
 go_wp2_with fail
 go_ret
 exact ⟨_, rfl, hown2, (grow1 w _).trans hb2⟩
def NormRetP (xs : List RdS.Pr) (w : World) (e : Ending) (w' : World) : Prop := ∃ v, e = .returned (.tuple #[v, .int .i64 (RdS.normP xs).2]) /\ AvasIn w' v (RdS.normP xs).1 /\ Below w.heap.size w w'
theorem NormRetP.bad {xs : List RdS.Pr} {w w' : World} (h : RdS.formedS xs = false) (hb : Below w.heap.size w w') : NormRetP xs w (.returned (.tuple #[.slice Option.none 0 0, .int .i64 1])) w' := by
 unfold NormRetP RdS.normP; rw [h]; exact ⟨_, rfl, AvasIn.empty w', hb⟩
def halfN (xs : List RdS.Pr) (k : Nat) : List RdS.Pr := RdS.normL (xs.take k) ++ xs.drop k
theorem halfN_len (xs : List RdS.Pr) (k : Nat) : (halfN xs k).length = xs.length := by
 unfold halfN; rw [List.length_append, RdS.normL_length, List.length_take, List.length_drop]; omega
theorem halfN_at {xs : List RdS.Pr} {k : Nat} (h : k < xs.length) : (halfN xs k)[k]? = some xs[k] := by
 unfold halfN
 have hl : (RdS.normL (xs.take k)).length = k := by rw [RdS.normL_length, List.length_take]; omega
 rw [List.getElem?_append_right (by omega), hl, Nat.sub_self, List.getElem?_drop, Nat.add_zero, List.getElem?_eq_getElem h]
theorem halfN_succ {xs : List RdS.Pr} {k : Nat} (h : k < xs.length) : halfN xs (k + 1) = (halfN xs k).set k (xs[k].1, (RuS.normal xs[k].1 xs[k].2).1) := by
 have hl : (RdS.normL (xs.take k)).length = k := by rw [RdS.normL_length, List.length_take]; omega
 unfold halfN
 rw [List.set_append_right _ _ (by omega), hl, Nat.sub_self, List.drop_eq_getElem_cons h, List.set_cons_zero, List.take_succ_eq_append_getElem h]
 unfold RdS.normL
 rw [List.map_append]
 simp
theorem avaC_set (xs : List RdS.Pr) : ∀ (k : Nat) (p : RdS.Pr) (y : List UInt8), xs[k]? = some p -> avaC (xs.set k (p.1, y)) = (avaC xs).set (k * 2 + 1) (strV y) := by
 induction xs with
 | nil => intro k p y h; simp at h
 | cons q xs ih =>
  intro k p y h
  cases k with
  | zero => have := Option.some.inj h; subst this; rfl
  | succ k =>
   have h' : xs[k]? = some p := by simpa using h
   show strV q.1 :: strV q.2 :: avaC (xs.set k (p.1, y)) = _
   rw [ih k p y h', show (k + 1) * 2 + 1 = k * 2 + 1 + 1 + 1 from by omega]
   rfl
theorem OwnA.stored {T : TypeId} {w : World} {B g n cap : Nat} {xs : List RdS.Pr} (h : OwnA T w B (.slice (some ⟨g, 0, none⟩) n cap) xs) (hn : n = xs.length) {k : Nat} {p : RdS.Pr} (hk : xs[k]? = some p) (y : List UInt8) :
  OwnA T (w.setCell ⟨g, k * 2 + 1, none⟩ (strV y)) B (.slice (some ⟨g, 0, none⟩) n cap) (xs.set k (p.1, y)) := by
 subst hn
 have h1 := (World.ownsRow.stored h (k * 2 + 1) (strV y)).1
 unfold OwnA
 rw [List.length_set, avaC_set xs k p y hk]
 exact h1
def NmLoop (xs : List RdS.Pr) (w1 : World) (u i : Value) (wr : World) : Prop := ∃ k : Nat, k <= xs.length /\ i = .int .i64 k /\ OwnA 190 wr w1.heap.size u (halfN xs k) /\ Below w1.heap.size w1 wr
theorem rdnormal_c (v : Value) (xs : List RdS.Pr) (w : World) (h : AvasIn w v xs) (hf : PairsFit xs) (hE : Env w) : Calls Tryz.prog 130 #[v] w (NormRetP xs w) := by
 have hfm := formed_any v xs w h hf hE
 unfold FmRet at hfm
 cases hfd : RdS.formedS xs with
 | false =>
  rw [hfd] at hfm
  have HFD := hZ9 hfd
  clear h hf hfd
  go_enter Tryz.func130, Tryz.ntmps130
  go_wp2_with fail
  refine hfm.mono ?_; rintro e w1 ⟨rfl, hb1⟩
  go_wp2_with fail
  go_ret2
  exact NormRetP.bad HFD.out hb1
 | true =>
  rw [hfd] at hfm
  have hfp := RdS.formed_parts hfd
  have hne : xs ≠ [] := by intro h0; rw [h0] at hfp; simp at hfp
  have HSM := hZ9 (RdS.formed_small hfd)
  have HNP : Hid (RdS.normP xs = (RdS.normL xs, 0)) := hZ9 (by unfold RdS.normP; rw [if_pos hfd])
  have hpos : 0 < xs.length := hfp.1
  have hcl := fun w h => clone_c v xs w h hne (by have := hfp.2.1; omega)
  clear hfd hf hfp
  go_enter Tryz.func130, Tryz.ntmps130
  go_wp2_with fail
  refine hfm.mono ?_; rintro e w1 ⟨rfl, hb1⟩
  have hE1 := hE.below hb1
  go_wp2_with fail
  refine (hcl _ (h.call hb1 (Nat.le_refl _))).mono ?_; rintro e w2 ⟨u, rfl, hown, hb2⟩
  have hE2 := hE1.below hb2
  obtain ⟨g2, cap, rfl, hg2, hl2⟩ := World.ownsRow.form hown hpos
  have h00 : halfN xs 0 = xs := by unfold halfN; simp [RdS.normL]
  have hown0 : OwnA 190 w2 w1.heap.size (.slice (some ⟨g2, 0, none⟩) xs.length cap) (halfN xs 0) := by rw [h00]; exact hown
  have HOWN0 := hZ9 hown0
  generalize hn : xs.length = n at *
  have HN := hZ9 hn
  have hn3 : n <= 3 := HSM.out.1
  clear hn hown hown0 h00 hfm hcl h
  go_wp2_with fail
  go_loopw [14] (fun i wr => NmLoop xs w1 (.slice (some ⟨g2, 0, none⟩) n cap) i wr) (fun i _ => n - (intOf i).toNat)
  case atStart => exact ⟨0, Nat.zero_le _, rfl, HOWN0.out, hb2⟩
  case round =>
   obtain ⟨k, hk, rfl, hown, hb⟩ := hrel
   rw [HN.out] at hk
   have hsz := hb.size
   by_cases hlt : k < n
   · have hlt2 : k < xs.length := by rw [HN.out]; exact hlt
     have hat := halfN_at hlt2
     have HSC := hZ9 (halfN_succ hlt2)
     have hsm := HSM.out.2 _ (List.getElem_mem hlt2)
     obtain ⟨a0, a1⟩ := avaC_at (halfN xs k) k xs[k] hat
     have c0 := World.ownsRow.cells hown (g := g2) rfl _ _ a0
     have c1 := World.ownsRow.cells hown (g := g2) rfl _ _ a1
     have hadd : ∀ j, (⟨g2, 0, none⟩ : Addr).add j = ⟨g2, j, none⟩ := fun j => by unfold Addr.add; split <;> simp_all
     rw [hadd] at c0 c1
     have hlenH := halfN_len xs k
     rw [HN.out] at hlenH
     have HST := hZ9 (fun (w' : World) (hb' : Below wr.heap.size wr w') (y : List UInt8) => OwnA.stored (OwnA.call hown hb') hlenH.symm hat y)
     have hfz := fun (w' : World) (hb' : Below wr.heap.size wr w') => World.ownsRow.frozenAt (n := (halfN xs k).length) (cap := cap) (by have h5 := OwnA.call hown hb'; rw [hlenH]; unfold OwnA at h5; rw [hlenH] at h5; exact h5) (k * 2 + 1)
     have HFZ := hZ9 hfz
     have hgl : g2 < wr.heap.size := (World.ownsRow.lt hown g2 rfl).2
     generalize xs[k] = p at *
     obtain ⟨t, u⟩ := p
     simp only at c0 c1 hsm
     unfold strV at c0 c1
     have hnm := fun w hE => rulenormal_c ⟨t.toArray⟩ ⟨u.toArray⟩ (by show t.toArray.size <= _; rw [List.size_toArray]; omega) (by show u.toArray.size <= _; rw [List.size_toArray]; omega) w hE
     unfold NormRet at hnm
     have du : ∀ l : List UInt8, (⟨l.toArray⟩ : ByteArray).data.toList = l := fun _ => rfl
     rw [du, du] at hnm
     simp only at HSC
     generalize RuS.normal t u = nr at *
     obtain ⟨x, e0⟩ := nr
     simp only at hnm HSC
     have hba : Below wr.heap.size wr (wr.alloc (.cells #[.string ⟨t.toArray⟩, .string ⟨u.toArray⟩] 190)) := grow1 wr _
     have hEr : Env (wr.alloc (.cells #[.string ⟨t.toArray⟩, .string ⟨u.toArray⟩] 190)) := (hE1.below hb).alloc _
     clear hat a0 a1 hlt2 hown du hfz
     go_wp2_with fail
     refine (hnm _ hEr).mono ?_; rintro e w3 ⟨rfl, hb3⟩
     have hb4 : Below wr.heap.size wr w3 := below_trans hba hb3
     have d1 : w3.cell? ⟨g2, k * 2 + 1, none⟩ = some (.string ⟨u.toArray⟩) := keepC c1 hb4
     have f1 := HFZ.out w3 hb4
     go_wp2_with fail
     go_roundw
     case rel => exact ⟨k + 1, by rw [HN.out]; omega, by go_num, by rw [HSC.out]; exact HST.out w3 hb4 x, (hb.trans (hb4.mono hsz)).setCell (p := ⟨g2, k * 2 + 1, none⟩) hg2 _⟩
     case measure => simp [intOf]; omega
   · have hkn : k = n := by omega
     subst hkn
     have hall : halfN xs k = RdS.normL xs := by unfold halfN; rw [<- HN.out, List.take_length, List.drop_length, List.append_nil]
     rw [hall] at hown
     clear hall
     go_wp2_with fail
     go_ret2
     exact ⟨_, by rw [HNP.out]; rfl, by rw [HNP.out]; exact hown.avas, hb1.trans (hb.mono hb1.size)⟩
end
section
open Go.RowKit
attribute [local go_sem ↓] Go.wp_at_zero Go.wp_at_succ
def RNmLoop (xs : List RdS.Pr) (w1 : World) (out i : Value) (wr : World) : Prop := ∃ k : Nat, k <= xs.length /\ i = .int .i64 k /\ OwnA 209 wr w1.heap.size out (RdS.normL (xs.take k)) /\ Below w1.heap.size w1 wr
theorem refnormpart_c (v : Value) (xs : List RdS.Pr) (w : World) (h : AvasIn w v xs) (hf : PairsFit xs) (hE : Env w) : Calls Tryz.prog 148 #[v] w (NormRetP xs w) := by
 have hfm := refformed_any v xs w h hf hE
 unfold FmRet at hfm
 cases hfd : RdS.formedS xs with
 | false =>
  rw [hfd] at hfm
  have HFD := hZ9 hfd
  clear h hf hfd
  go_enter Tryz.func148, Tryz.ntmps148
  go_wp2_with fail
  refine hfm.mono ?_; rintro e w1 ⟨rfl, hb1⟩
  go_wp2_with fail
  go_ret2
  exact NormRetP.bad HFD.out hb1
 | true =>
  rw [hfd] at hfm
  have HFD := hZ9 hfd
  have HSM := hZ9 (RdS.formed_small hfd)
  have HNP : Hid (RdS.normP xs = (RdS.normL xs, 0)) := hZ9 (by unfold RdS.normP; rw [if_pos hfd])
  clear hfd hf
  obtain ⟨a, c, rfl, hc, hcase⟩ := h
  rcases hcase with rfl | ⟨g, o, rfl, hg, hcell⟩
  · have := HFD.out; cases this
  have HC := hZ9 hcell
  obtain ⟨i0, hi, hz0, hz1, hz2⟩ := info_parts infoAva2
  have HI := hZ9 hi
  generalize hn : xs.length = n at *
  have HN := hZ9 hn
  have hn3 : n <= 3 := HSM.out.1
  clear hn hcell hi
  go_enter Tryz.func148, Tryz.ntmps148
  go_wp2_with fail
  refine hfm.mono ?_; rintro e w1 ⟨rfl, hb1⟩
  have hE1 := hE.below hb1
  have hg1 : g < w1.heap.size := Nat.lt_of_lt_of_le hg hb1.size
  go_wp2_with fail
  go_loopw [4, 13] (fun out i wr => RNmLoop xs w1 out i wr) (fun _ i _ => n - (intOf i).toNat)
  case atStart => exact ⟨0, Nat.zero_le _, rfl, OwnA.empty _ _ _, Below.refl _ _⟩
  case round =>
   obtain ⟨k, hk, rfl, hown, hb⟩ := hrel
   rw [HN.out] at hk
   have hsz := hb.size
   by_cases hlt : k < n
   · have hlt2 : k < xs.length := by rw [HN.out]; exact hlt
     obtain ⟨c0, c1⟩ := HC.out k _ (List.getElem?_eq_getElem hlt2)
     have hsm := HSM.out.2 _ (List.getElem_mem hlt2)
     have HTK : Hid (RdS.normL (xs.take (k + 1)) = RdS.normL (xs.take k) ++ [(xs[k].1, (RuS.normal xs[k].1 xs[k].2).1)]) := hZ9 (by
      rw [List.take_succ_eq_append_getElem hlt2]; unfold RdS.normL; rw [List.map_append]; rfl)
     have hlN : (RdS.normL (xs.take k)).length <= 1000 := by rw [RdS.normL_length, List.length_take]; omega
     generalize xs[k] = p at *
     obtain ⟨t, u⟩ := p
     simp only at c0 c1 hsm HTK
     replace c0 : wr.cell? ⟨g, o + k * 2, none⟩ = some (strV t) := (hb.cell (p := ⟨g, o + k * 2, none⟩) hg1).trans ((hb1.cell (p := ⟨g, o + k * 2, none⟩) hg).trans c0)
     replace c1 : wr.cell? ⟨g, o + k * 2 + 1, none⟩ = some (strV u) := (hb.cell (p := ⟨g, o + k * 2 + 1, none⟩) hg1).trans ((hb1.cell (p := ⟨g, o + k * 2 + 1, none⟩) hg).trans c1)
     unfold strV at c0 c1
     have hnm := fun w hE => refnormal_c ⟨t.toArray⟩ ⟨u.toArray⟩ (by show t.toArray.size <= _; rw [List.size_toArray]; omega) (by show u.toArray.size <= _; rw [List.size_toArray]; omega) w hE
     unfold NormRet at hnm
     have du : ∀ l : List UInt8, (⟨l.toArray⟩ : ByteArray).data.toList = l := fun _ => rfl
     rw [du, du] at hnm
     generalize RuS.normal t u = nr at *
     obtain ⟨x, e0⟩ := nr
     simp only at hnm HTK
     have hnm1 := hnm wr.drew (hE1.below hb).drew
     have hgw : g < wr.heap.size := Nat.lt_of_lt_of_le hg1 hsz
     have HOWN := hZ9 hown
     generalize RdS.normL (xs.take k) = ac at *
     clear hlt2 du hnm hown
     go_wp2_with fail
     go_region_held3 (fun W => W.cell? ⟨g, o + k * 2, none⟩ = some (.string ⟨t.toArray⟩) /\ W.cell? ⟨g, o + k * 2 + 1, none⟩ = some (.string ⟨u.toArray⟩)) (first | exact ⟨c0, c1⟩ | exact ⟨(hb2.cell (p := ⟨g, o + k * 2, none⟩) hgw).trans c0, (hb2.cell (p := ⟨g, o + k * 2 + 1, none⟩) hgw).trans c1⟩)
      (first | (go_at_call 58; (with_reducible refine hnm1.mono ?_); rintro e w2 ⟨rfl, hb2⟩))
     have hb2' : Below wr.heap.size wr w2 := below_trans (Below.drew (Below.refl _ _)) hb2
     have d0 : w2.cell? ⟨g, o + k * 2, none⟩ = some (.string ⟨t.toArray⟩) := (hb2'.cell (p := ⟨g, o + k * 2, none⟩) hgw).trans c0
     have hown2 := OwnA.call HOWN.out hb2'
     have hb3 : Below w1.heap.size w1 w2 := hb.trans (hb2'.mono hsz)
     have hsz3 := hb3.size
     clear c0 c1 hnm1
     go_wp2_with (at_builtin; refine push_ava 209 175 Tryz.underlying175 HI.out hz0 hz1 hz2 (by rfl) (by rfl) _ _ (by rfl) w1.heap.size _ ac (by rfl) (hown2.alloc _) w2.heap.size (by rfl) (t, x) ?e1 ?e2 ?e3 ?e4 ?_)
     case e1 => simp [go_sem, strV]
     case e2 => simp [go_sem, strV]
     case e3 => omega
     case e4 => simp; omega
     intro v' w4 hown4 hb4
     go_wp2_with fail
     go_roundw
     case rel => exact ⟨k + 1, by rw [HN.out]; omega, by go_num, by rw [HTK.out]; exact hown4, (hb3.alloc hsz3 _).trans hb4⟩
     case measure => simp [intOf]; omega
   · have hkn : k = n := by omega
     subst hkn
     have hall : xs.take k = xs := List.take_of_length_le (by rw [HN.out]; omega)
     rw [hall] at hown
     clear hall
     go_wp2_with fail
     go_ret2
     exact ⟨_, by rw [HNP.out]; rfl, by rw [HNP.out]; exact hown.avas, hb1.trans (hb.mono hb1.size)⟩
end
end Go.Proofs.YtjmfknfponjgkaaGreatDoor
