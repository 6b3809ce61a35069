/- The walk of the program's Make. Conditions: those that the theorem states; the library's variables are laid. -/
import Derived.Test.YtmnhgbkdahdoiaaGreatDoorMMkf
namespace Go.Proofs.YtmnhgbkdahdoiaaGreatDoor
open Go.RowKit
attribute [local go_sem ↓] Go.wp_at_zero Go.wp_at_succ

set_option maxRecDepth 100000 in
set_option maxHeartbeats 8000000 in
theorem enmake_c (C : Nat) (name : List UInt8) (ys : List EnS.At) (u : Value) (w : World) (hC : C ≤ w.heap.size) (h : AttrsIn w u ys) (hf : FitA ys) (ht : ∀ a ∈ ys, a.typ.length ≤ 1048576) (hN : EnS.sumBy (fun a => a.vals.length) ys ≤ 1048576) (hn : name.length ≤ 1000000) (hE : Env w) :
    Calls Tryz.prog 18 #[.string ⟨name.toArray⟩, u] w (MakeRet C (EnS.makeS name ys) w) := by
  have hr0 := Whole.made w 24 #[.string ⟨#[]⟩, .slice none 0 0]
  have hbR := grow1 w (.cells #[.string ⟨#[]⟩, .slice none 0 0] 24)
  have hnm := dnnormal_c name hn _ (hE.below hbR)
  unfold NmTxt at hnm
  have HEN := Lib.hid (fun W (hb : Below w.heap.size w W) => hE.below hb)
  have H34 := Lib.hid (fun h => EnS.makeS_34 (name := name) (ys := ys) h)
  have HNO := Lib.hid (fun h e hm he => EnS.makeS_no (name := name) (ys := ys) h (e := e) hm he)
  have HYES := Lib.hid (fun h q hm => EnS.makeS_yes (name := name) (ys := ys) h (q := q) hm)
  have HNN := Lib.hid (fun h => DnS.norm_norm (s := name) h)
  have hnl := DnS.norm_len name
  obtain ⟨n, e0, hNN⟩ : ∃ n e, DnS.normN name = (n, e) := ⟨_, _, rfl⟩
  rw [hNN] at hnm hnl H34 HNO HYES HNN
  simp only at hnm hnl H34 HNO HYES HNN
  generalize EnS.makeS name ys = R at *
  obtain ⟨a, c, rfl, hc, hat⟩ := SliceP.at h
  have HAT := Lib.hid hat
  have HFT := Lib.hid (fun k (hk : k < ys.length) => hf.2 _ (List.getElem_mem hk))
  have HTL := Lib.hid (fun k (hk : k < ys.length) => ht _ (List.getElem_mem hk))
  have HSM := Lib.hid (fun k => Nat.le_trans (EnS.sumBy_le (f := fun a : EnS.At => a.vals.length) ys k) hN)
  have HST := Lib.hid (fun k (hk : k < ys.length) => EnS.sumBy_take (f := fun a : EnS.At => a.vals.length) hk)
  have H17 := Lib.hid (fun k (hk : k < ys.length) q h => EnS.mk_17 (q := q) hk h)
  have H19 := Lib.hid (fun k (hk : k < ys.length) q h h0 => EnS.mk_19 (q := q) hk h h0)
  have HBD := Lib.hid (fun k (hk : k < ys.length) q h h0 e ha he => EnS.mk_bad (q := q) hk h h0 (e := e) ha he)
  have HOK := Lib.hid (fun k (hk : k < ys.length) q h h0 l ha => EnS.mk_ok (q := q) hk h h0 (l := l) ha)
  have HTN := Lib.hid (fun k (hk : k < ys.length) => EnS.type_len (ys[k]'hk).typ)
  have HVS := Lib.hid (fun k (hk : k < ys.length) q h => EnS.valuesS_type n (ys[k]'hk).typ q h)
  have HTT := Lib.hid (fun k (hk : k < ys.length) => EnS.type_type (ys[k]'hk).typ)
  have hyl : ys.length ≤ 1048576 := hf.1
  clear hat h hf ht hN hn hE
  have t0 := hr0.thaw 0
  have t1 := hr0.thaw 1
  go_enter Tryz.func18, Tryz.ntmps18
  go_wp2_with fail
  refine hnm.mono ?_; rintro e w1 ⟨rfl, hb1⟩
  have hz1 := below_trans hbR hb1
  have hr1 := hr0.call hb1
  clear hr0 hnm t0 t1
  by_cases he : e0 = 0
  case neg =>
    have hez : (e0 != 0) = true := by simpa using he
    have HR := H34.out (.inl he)
    clear he H34 HNO HYES HNN
    have t0 := hr1.thaw 0
    have t1 := hr1.thaw 1
    have r0 := hr1.cell 0
    have r1 := hr1.cell 1
    simp only [List.getElem?_toArray, List.getElem?_cons_zero, List.getElem?_cons_succ] at r0 r1
    have hA := hr1.put 0 (.string ⟨#[]⟩)
    simp only [List.setIfInBounds_toArray, List.set_cons_zero] at hA
    have hB := hA.put 1 (.slice none 0 0)
    simp only [List.setIfInBounds_toArray, List.set_cons_succ, List.set_cons_zero] at hB
    have hbB : Below w.heap.size w ((w1.setCell ⟨w.heap.size, 0, none⟩ (.string ⟨#[]⟩)).setCell ⟨w.heap.size, 1, none⟩ (.slice none 0 0)) := (hz1.setCell (p := ⟨w.heap.size, 0, none⟩) (Nat.le_refl _) _).setCell (p := ⟨w.heap.size, 1, none⟩) (Nat.le_refl _) _
    have z0 := hB.cell 0
    have z1 := hB.cell 1
    simp only [List.getElem?_toArray, List.getElem?_cons_zero, List.getElem?_cons_succ] at z0 z1
    go_wp2_with fail
    (try simp only [Exit.inBlock, Exit.then])
    refine bodyPost_ret (v := .tuple #[.agg #[.string ⟨#[]⟩, .slice none 0 0], .int .i64 34]) ?_ rfl (MakeRet.no HR hbB)
    rw [results_cell_tmp rfl]
    go_simp
  subst he
  cases n with
  | nil =>
    have HR := H34.out (.inr rfl)
    clear H34 HNO HYES HNN
    have t0 := hr1.thaw 0
    have t1 := hr1.thaw 1
    have r0 := hr1.cell 0
    have r1 := hr1.cell 1
    simp only [List.getElem?_toArray, List.getElem?_cons_zero, List.getElem?_cons_succ] at r0 r1
    have hA := hr1.put 0 (.string ⟨#[]⟩)
    simp only [List.setIfInBounds_toArray, List.set_cons_zero] at hA
    have hB := hA.put 1 (.slice none 0 0)
    simp only [List.setIfInBounds_toArray, List.set_cons_succ, List.set_cons_zero] at hB
    have hbB : Below w.heap.size w ((w1.setCell ⟨w.heap.size, 0, none⟩ (.string ⟨#[]⟩)).setCell ⟨w.heap.size, 1, none⟩ (.slice none 0 0)) := (hz1.setCell (p := ⟨w.heap.size, 0, none⟩) (Nat.le_refl _) _).setCell (p := ⟨w.heap.size, 1, none⟩) (Nat.le_refl _) _
    have z0 := hB.cell 0
    have z1 := hB.cell 1
    simp only [List.getElem?_toArray, List.getElem?_cons_zero, List.getElem?_cons_succ] at z0 z1
    go_wp2_with fail
    (try simp only [Exit.inBlock, Exit.then])
    refine bodyPost_ret (v := .tuple #[.agg #[.string ⟨#[]⟩, .slice none 0 0], .int .i64 34]) ?_ rfl (MakeRet.no HR hbB)
    rw [results_cell_tmp rfl]
    go_simp
  | cons n0 nr =>
  have hnb : ¬ ((0 : Int) ≠ 0 ∨ n0 :: nr = []) := by simp
  have HNO1 := Lib.hid (fun e hm he => HNO.out hnb e hm he)
  have HYES1 := Lib.hid (fun q hm => HYES.out hnb q hm)
  have hnz : n0 :: nr ≠ [] := by simp
  have hnn := HNN.out rfl
  clear H34 HNO HYES HNN hnb
  generalize hgn : n0 :: nr = n at *
  have hpe : n.isEmpty = false := by subst hgn; rfl
  have hpe2 : (n == []) = false := by subst hgn; rfl
  have hpe3 : ¬ n = [] := hnz
  clear hgn
  have hgE := grow1 w1 (.cells #[.string ⟨n.toArray⟩, .slice none 0 0] 24)
  have hoE := Whole.made w1 24 #[.string ⟨n.toArray⟩, .slice none 0 0]
  have hzE := hz1.trans (hgE.mono hz1.size)
  have hrE := hr1.call hgE
  have hbe : w.heap.size < w1.heap.size := hr1.lt
  clear hr1
  go_wp2_with fail
  have HNN2 := Lib.hid hnn
  have HNZ := Lib.hid hnz
  clear hpe hpe2 hpe3 hnn hnz hgE
  obtain ⟨wE, hwE⟩ : ∃ x, w1.alloc (.cells #[.string ⟨n.toArray⟩, .slice none 0 0] 24) = x := ⟨_, rfl⟩
  rw [hwE] at hoE hzE hrE ⊢
  clear hwE hz1 hbR hb1
  obtain ⟨be, hbe2⟩ : ∃ x, w1.heap.size = x := ⟨_, rfl⟩
  rw [hbe2] at hoE hbe ⊢
  clear hbe2
  go_loopw [34] (fun i wr => ∃ (k : Nat) (y : Value) (q : List EnS.At), k ≤ ys.length ∧ i = .int .i64 k ∧ OwnK atK 37 [9] C wr w.heap.size y q ∧ Hid (EnS.makeL [] ys = EnS.makeL q (ys.drop k)) ∧ Hid (EnS.soundA [] q = true) ∧ Hid (EnS.FitQ (EnS.sumBy (fun a => a.vals.length) (ys.take k)) q) ∧ Whole wr be 24 #[.string ⟨n.toArray⟩, y] ∧ Whole wr w.heap.size 24 #[.string ⟨#[]⟩, .slice none 0 0] ∧ Below w.heap.size w wr) (fun i _ => ys.length - (intOf i).toNat)
  case atStart => exact ⟨0, _, [], Nat.zero_le _, rfl, OwnK.empty _ _ _ _ _ _, Lib.hid rfl, Lib.hid rfl, Lib.hid (fun a ha => by cases ha), hoE, hrE, hzE⟩
  case round =>
    obtain ⟨k, y, q, hk, rfl, hown, HMK, HSO, HFQ, ho, hr, hb⟩ := hrel
    clear hoE hrE hzE
    by_cases hlt : k < ys.length
    · obtain ⟨g, o, rfl, hg, _, hra⟩ := HAT.out k hlt
      obtain ⟨c0, a2, p2, c1, hp2, hvs⟩ := AttrAt.parts hra
      have hft := HFT.out k hlt
      have htl := HTL.out k hlt
      have htn := HTN.out k hlt
      have htt := HTT.out k hlt
      have H17k := Lib.hid (fun h => HMK.out.trans (H17.out k hlt q h))
      have H19k := Lib.hid (fun h h0 => HMK.out.trans (H19.out k hlt q h h0))
      have HBDk := Lib.hid (fun h h0 e ha he => HMK.out.trans (HBD.out k hlt q h h0 e ha he))
      have HOKk := Lib.hid (fun h h0 l ha => HOK.out k hlt q h h0 l ha)
      have HVSk := Lib.hid (fun h => HVS.out k hlt q h)
      have HSTk := HST.out k hlt
      have HSMk := HSM.out (k + 1)
      clear hra HAT HFT HTL HTN HTT H17 H19 HBD HOK HVS HST HYES1
      generalize ys[k] = x at *
      obtain ⟨ty, vals⟩ := x
      simp only at c0 c1 hp2 hvs hft htl htn htt HSTk
      have htc : ∀ W, Calls Tryz.prog 21 #[.string ⟨ty.toArray⟩] W (TypeRet ty W) := fun W => type_c ⟨ty.toArray⟩ (by show ty.toArray.size ≤ _; simp; omega) W
      unfold TypeRet at htc
      simp only at H17k H19k HBDk HOKk HVSk
      have hfa := FitQ.fit HFQ.out (by omega) HSO.out
      have HVL := EnS.FitQ.values HFQ.out (RuS.typeOf ty).1
      obtain ⟨T, sx, hTT⟩ : ∃ T sx, RuS.typeOf ty = (T, sx) := ⟨_, _, rfl⟩
      rw [hTT] at htc htn H17k H19k HBDk HOKk HVSk HVL htt
      simp only at htc htn H17k H19k HBDk HOKk HVSk HVL htt
      clear hTT
      have d0 := (hb.cell (p := ⟨g, o + k * 2, none⟩) hg).trans c0
      have d1 := (hb.cell (p := ⟨g, o + k * 2 + 1, none⟩) hg).trans c1
      have hl0 : (0 : Int) ≤ (k : Int) := by omega
      have hl1 : (k : Int) < (ys.length : Int) := by omega
      obtain ⟨ya, yc, rfl⟩ := hown.form
      obtain ⟨QL, hQL⟩ : ∃ n, q.length = n := ⟨_, rfl⟩
      rw [hQL] at hown ho
      obtain ⟨L, hL⟩ : ∃ n, vals.length = n := ⟨_, rfl⟩
      rw [hL] at c1 d1 hp2 hvs HSTk
      have hgX := grow1 wr (.cells #[.string ⟨ty.toArray⟩, .slice a2 L p2] 37)
      have hwX := Whole.made wr 37 #[.string ⟨ty.toArray⟩, .slice a2 L p2]
      have x0 := hwX.cell 0
      have x1 := hwX.cell 1
      simp only [List.getElem?_toArray, List.getElem?_cons_zero, List.getElem?_cons_succ] at x0 x1
      have hbX := hb.trans (hgX.mono hb.size)
      have hownX := hown.call hgX
      have hoX := ho.call hgX
      have hrX := hr.call hgX
      go_wp2_with fail
      refine (htc _).mono ?_; rintro e w2 ⟨rfl, hb2⟩
      have hown2 := hownX.call hb2
      have ho2 := hoX.call hb2
      have hr2 := hrX.call hb2
      have hz2 := hbX.trans (hb2.mono hbX.size)
      have d02 := (hz2.cell (p := ⟨g, o + k * 2, none⟩) hg).trans c0
      have d12 := (hz2.cell (p := ⟨g, o + k * 2 + 1, none⟩) hg).trans c1
      have x12 := keepC x1 hb2
      clear hown ho hr d0 d1 hownX hoX hrX x0 x1 hwX hgX hbX
      cases T with
      | nil =>
        have HR := HNO1.out 17 (H17k.out rfl) (by decide)
        clear H17k H19k HBDk HOKk HVSk
        have t0 := hr2.thaw 0
        have t1 := hr2.thaw 1
        have r0 := hr2.cell 0
        have r1 := hr2.cell 1
        simp only [List.getElem?_toArray, List.getElem?_cons_zero, List.getElem?_cons_succ] at r0 r1
        have hA := hr2.put 0 (.string ⟨#[]⟩)
        simp only [List.setIfInBounds_toArray, List.set_cons_zero] at hA
        have hB := hA.put 1 (.slice none 0 0)
        simp only [List.setIfInBounds_toArray, List.set_cons_succ, List.set_cons_zero] at hB
        have hbB : Below w.heap.size w ((w2.setCell ⟨w.heap.size, 0, none⟩ (.string ⟨#[]⟩)).setCell ⟨w.heap.size, 1, none⟩ (.slice none 0 0)) := (hz2.setCell (p := ⟨w.heap.size, 0, none⟩) (Nat.le_refl _) _).setCell (p := ⟨w.heap.size, 1, none⟩) (Nat.le_refl _) _
        have z0 := hB.cell 0
        have z1 := hB.cell 1
        simp only [List.getElem?_toArray, List.getElem?_cons_zero, List.getElem?_cons_succ] at z0 z1
        go_wp2_with fail
        (try simp only [Exit.inBlock, Exit.then])
        refine bodyPost_ret (v := .tuple #[.agg #[.string ⟨#[]⟩, .slice none 0 0], .int .i64 17]) ?_ rfl (MakeRet.no HR hbB)
        rw [results_cell_tmp rfl]
        go_simp
      | cons T0 Tr =>
      have hTn : T0 :: Tr ≠ [] := by simp
      have H19k' := Lib.hid (fun h0 => H19k.out hTn h0)
      have HBDk' := Lib.hid (fun h0 e ha he => HBDk.out hTn h0 e ha he)
      have HOKk' := Lib.hid (fun h0 l ha => HOKk.out hTn h0 l ha)
      have HVSk' := Lib.hid (HVSk.out hTn)
      clear H17k H19k HBDk HOKk HVSk
      generalize hgT : T0 :: Tr = T at *
      have hTe : T.isEmpty = false := by subst hgT; rfl
      have hTe2 : (T == []) = false := by subst hgT; rfl
      have hTe3 : ¬ T = [] := hTn
      clear hgT
      by_cases hv0 : vals = []
      · have HR := HNO1.out 19 (H19k'.out hv0) (by decide)
        have hL0 : L = 0 := by rw [← hL, hv0]; rfl
        subst hL0
        clear hv0 H19k' HBDk' HOKk' HVSk'
        have t0 := hr2.thaw 0
        have t1 := hr2.thaw 1
        have r0 := hr2.cell 0
        have r1 := hr2.cell 1
        simp only [List.getElem?_toArray, List.getElem?_cons_zero, List.getElem?_cons_succ] at r0 r1
        have hA := hr2.put 0 (.string ⟨#[]⟩)
        simp only [List.setIfInBounds_toArray, List.set_cons_zero] at hA
        have hB := hA.put 1 (.slice none 0 0)
        simp only [List.setIfInBounds_toArray, List.set_cons_succ, List.set_cons_zero] at hB
        have hbB : Below w.heap.size w ((w2.setCell ⟨w.heap.size, 0, none⟩ (.string ⟨#[]⟩)).setCell ⟨w.heap.size, 1, none⟩ (.slice none 0 0)) := (hz2.setCell (p := ⟨w.heap.size, 0, none⟩) (Nat.le_refl _) _).setCell (p := ⟨w.heap.size, 1, none⟩) (Nat.le_refl _) _
        have z0 := hB.cell 0
        have z1 := hB.cell 1
        simp only [List.getElem?_toArray, List.getElem?_cons_zero, List.getElem?_cons_succ] at z0 z1
        go_wp2_with fail
        (try simp only [Exit.inBlock, Exit.then])
        refine bodyPost_ret (v := .tuple #[.agg #[.string ⟨#[]⟩, .slice none 0 0], .int .i64 19]) ?_ rfl (MakeRet.no HR hbB)
        rw [results_cell_tmp rfl]
        go_simp
      have HBD2 := Lib.hid (fun e ha he => HBDk'.out hv0 e ha he)
      have HOK2 := Lib.hid (fun l ha => HOKk'.out hv0 l ha)
      have hLz : ((L : Int) == 0) = false := by have : L ≠ 0 := fun h => hv0 (List.eq_nil_of_length_eq_zero (by omega)); simpa using this
      clear hv0 H19k' HBDk' HOKk'
      have hvl := values_c n q (.slice ya QL yc) T w2 hown2.attrs hfa (by omega)
      unfold OwnRet at hvl
      rw [HVSk'.out] at hvl
      clear HVSk'
      generalize EnS.valuesL q T = V0 at *
      have e0 := ho2.cell 0
      have e1 := ho2.cell 1
      simp only [List.getElem?_toArray, List.getElem?_cons_zero, List.getElem?_cons_succ] at e0 e1
      go_wp2_with fail
      refine hvl.mono ?_; rintro e w3 ⟨v3, rfl, hl3, hb3⟩
      have hz3 := hz2.trans (hb3.mono hz2.size)
      have d03 := (hz3.cell (p := ⟨g, o + k * 2, none⟩) hg).trans c0
      have d13 := (hz3.cell (p := ⟨g, o + k * 2 + 1, none⟩) hg).trans c1
      have x13 := keepC x12 hb3
      have hC2 : C ≤ w2.heap.size := Nat.le_trans hC hz2.size
      have HA21 := Lib.hid (fun j (hj : j < vals.length) l h => EnS.add_21 (t := T) (l := l) hj h)
      have HA20 := Lib.hid (fun j (hj : j < vals.length) l h h2 => EnS.add_20 (t := T) (l := l) hj h h2)
      have HAOK := Lib.hid (fun j (hj : j < vals.length) l h h2 => EnS.add_ok (t := T) (l := l) hj h h2)
      have HAE := Lib.hid (fun l => EnS.add_end (t := T) (l := l) (vs := vals) (j := vals.length) (Nat.le_refl _))
      have HTK := Lib.hid (fun j (hj : j < vals.length) => List.take_succ_eq_append_getElem hj)
      have HAD : Hid (EnS.addS T V0 vals = EnS.addS T V0 (vals.drop 0)) := Lib.hid rfl
      generalize EnS.addS T V0 vals = AD at *
      have HVA := Lib.hid (fun j (hj : j < vals.length) => SliceP.nth hvs hj)
      have HVX := Lib.hid (fun j (hj : j < vals.length) => hft.2 _ (List.getElem_mem hj))
      clear hvs hvl hft
      go_wp2_with fail
      go_loopw [13, 60] (fun lv i wr => ∃ (j : Nat) (l : List (List UInt8)), j ≤ L ∧ i = .int .i64 j ∧ Own wr w2.heap.size lv l ∧ Hid (AD = EnS.addS T l (vals.drop j)) ∧ Hid (l = V0 ++ vals.take j) ∧ Below w2.heap.size w2 wr) (fun _ i _ => L - (intOf i).toNat)
      case atStart => exact ⟨0, V0, Nat.zero_le _, rfl, hl3, HAD, Lib.hid (by simp), hb3⟩
      case round =>
        obtain ⟨j, l, hj, rfl, hlo, HAD2, HLE, hbn⟩ := hrel
        clear hl3 hb3 hz3 d03 d13 HAD x13
        have hzn := hz2.trans (hbn.mono hz2.size)
        have hll : l.length ≤ 1048576 ∧ ∀ v ∈ l, v.length ≤ 1000000 := by
          rw [HLE.out]
          have h1 := HVL.1
          refine ⟨by rw [List.length_append, List.length_take]; omega, fun v hv => ?_⟩
          rcases List.mem_append.1 hv with hv | hv
          · exact HVL.2 v hv
          · obtain ⟨i, hi, rfl⟩ := List.mem_iff_getElem.1 (List.mem_of_mem_take hv)
            exact HVX.out i hi
        obtain ⟨la, lc, rfl⟩ := hlo.form
        obtain ⟨LL, hLL⟩ : ∃ n, l.length = n := ⟨_, rfl⟩
        rw [hLL] at hlo hll
        by_cases hjl : j < L
        · have hjv : j < vals.length := by omega
          obtain ⟨g2, o2, rfl, hg2, _, hx2⟩ := HVA.out j hjv
          have f0 : w.cell? ⟨g2, o2 + j, none⟩ = some (strV (vals[j]'hjv)) := by
            have : w.cell? ⟨g2, o2 + j * 1, none⟩ = some (strV (vals[j]'hjv)) := hx2
            rwa [Nat.mul_one] at this
          have f0 := (hzn.cell (p := ⟨g2, o2 + j, none⟩) hg2).trans f0
          have hxl := HVX.out j hjv
          have HX21 := Lib.hid (fun h => HAD2.out.trans (HA21.out j hjv l h))
          have HX20 := Lib.hid (fun h h2 => HAD2.out.trans (HA20.out j hjv l h h2))
          have HXOK := Lib.hid (fun h h2 => HAD2.out.trans (HAOK.out j hjv l h h2))
          have HXTK := HTK.out j hjv
          clear hx2 HA21 HA20 HAOK HAE HVA HVX HTK HOK2 HAD2
          generalize vals[j] = x at *
          unfold strV at f0
          have hvc := dnvalue_c T x (by omega) hxl wr (HEN.out _ hzn)
          unfold NmTxt at hvc
          have hwi := fun W (hb : Below wr.heap.size wr W) hE => find_c T x (.slice la LL lc) l W hE (by omega) hxl (hlo.strs.call hb (Nat.le_refl _)) (by omega) hll.2
          unfold IdxRetI at hwi
          have hfw := EnS.find_within T l x
          have HFX := Lib.hid (idx_has (EnS.findI T l x))
          generalize idxI (EnS.findI T l x) = zi at *
          generalize EnS.findI T l x = FI at *
          generalize EnS.withinS T l x = WB at *
          obtain ⟨m, e9, hVV⟩ : ∃ m e, DnS.valueS T x = (m, e) := ⟨_, _, rfl⟩
          rw [hVV] at hvc HX21 HX20 HXOK
          simp only at hvc HX21 HX20 HXOK
          clear hVV
          have hj0 : (0 : Int) ≤ (j : Int) := by omega
          have hj1 : (j : Int) < (L : Int) := by omega
          have d0n := (hzn.cell (p := ⟨g, o + k * 2, none⟩) hg).trans c0
          have d1n := (hzn.cell (p := ⟨g, o + k * 2 + 1, none⟩) hg).trans c1
          go_wp2_with fail
          refine hvc.mono ?_; rintro e w4 ⟨rfl, hb4⟩
          have hbn4 := hbn.trans (hb4.mono hbn.size)
          have hz4 := hz2.trans (hbn4.mono hz2.size)
          have hr4 := hr2.call hbn4
          by_cases he9 : e9 = 0
          case neg =>
            have hez : (e9 != 0) = true := by simpa using he9
            have HR := HNO1.out 21 (HBD2.out 21 (HX21.out he9) (by decide)) (by decide)
            clear he9 HX21 HX20 HXOK hwi hvc
            have t0 := hr4.thaw 0
            have t1 := hr4.thaw 1
            have r0 := hr4.cell 0
            have r1 := hr4.cell 1
            simp only [List.getElem?_toArray, List.getElem?_cons_zero, List.getElem?_cons_succ] at r0 r1
            have hA := hr4.put 0 (.string ⟨#[]⟩)
            simp only [List.setIfInBounds_toArray, List.set_cons_zero] at hA
            have hB := hA.put 1 (.slice none 0 0)
            simp only [List.setIfInBounds_toArray, List.set_cons_succ, List.set_cons_zero] at hB
            have hbB : Below w.heap.size w ((w4.setCell ⟨w.heap.size, 0, none⟩ (.string ⟨#[]⟩)).setCell ⟨w.heap.size, 1, none⟩ (.slice none 0 0)) := (hz4.setCell (p := ⟨w.heap.size, 0, none⟩) (Nat.le_refl _) _).setCell (p := ⟨w.heap.size, 1, none⟩) (Nat.le_refl _) _
            have z0 := hB.cell 0
            have z1 := hB.cell 1
            simp only [List.getElem?_toArray, List.getElem?_cons_zero, List.getElem?_cons_succ] at z0 z1
            go_wp2_with fail
            (try simp only [Exit.inBlock, Exit.then])
            refine bodyPost_ret (v := .tuple #[.agg #[.string ⟨#[]⟩, .slice none 0 0], .int .i64 21]) ?_ rfl (MakeRet.no HR hbB)
            rw [results_cell_tmp rfl]
            go_simp
          subst he9
          have hwi4 := hwi _ hb4 (HEN.out _ hz4)
          have HX20' := Lib.hid (HX20.out rfl)
          have HXOK' := Lib.hid (HXOK.out rfl)
          clear HX21 HX20 HXOK hvc hwi
          go_wp2_with fail
          refine hwi4.mono ?_; rintro e w5 ⟨rfl, hb5⟩
          have hbn5 := hbn4.trans (hb5.mono hbn4.size)
          have hz5 := hz2.trans (hbn5.mono hz2.size)
          have hr5 := hr2.call hbn5
          clear hr4 hwi4
          have hzw : decide ((0 : Int) ≤ zi) = WB := by rw [← hfw]; exact HFX.out
          clear hfw HFX
          cases WB with
          | true =>
            have HR := HNO1.out 20 (HBD2.out 20 (HX20'.out rfl) (by decide)) (by decide)
            clear HX20' HXOK'
            have t0 := hr5.thaw 0
            have t1 := hr5.thaw 1
            have r0 := hr5.cell 0
            have r1 := hr5.cell 1
            simp only [List.getElem?_toArray, List.getElem?_cons_zero, List.getElem?_cons_succ] at r0 r1
            have hA := hr5.put 0 (.string ⟨#[]⟩)
            simp only [List.setIfInBounds_toArray, List.set_cons_zero] at hA
            have hB := hA.put 1 (.slice none 0 0)
            simp only [List.setIfInBounds_toArray, List.set_cons_succ, List.set_cons_zero] at hB
            have hbB : Below w.heap.size w ((w5.setCell ⟨w.heap.size, 0, none⟩ (.string ⟨#[]⟩)).setCell ⟨w.heap.size, 1, none⟩ (.slice none 0 0)) := (hz5.setCell (p := ⟨w.heap.size, 0, none⟩) (Nat.le_refl _) _).setCell (p := ⟨w.heap.size, 1, none⟩) (Nat.le_refl _) _
            have z0 := hB.cell 0
            have z1 := hB.cell 1
            simp only [List.getElem?_toArray, List.getElem?_cons_zero, List.getElem?_cons_succ] at z0 z1
            go_wp2_with fail
            (try simp only [Exit.inBlock, Exit.then])
            refine bodyPost_ret (v := .tuple #[.agg #[.string ⟨#[]⟩, .slice none 0 0], .int .i64 20]) ?_ rfl (MakeRet.no HR hbB)
            rw [results_cell_tmp rfl]
            go_simp
          | false =>
            have HAN := Lib.hid (HXOK'.out rfl)
            have HLN := Lib.hid (show l ++ [x] = V0 ++ vals.take (j + 1) from by rw [HXTK, ← List.append_assoc, ← HLE.out])
            have hgS := grow1 w5 (.cells #[.string ⟨x.toArray⟩] 9)
            have hwS := Whole.made w5 9 #[.string ⟨x.toArray⟩]
            have s0 := hwS.cell 0
            simp only [List.getElem?_toArray, List.getElem?_cons_zero] at s0
            have hloS := ((hlo.call hb4).call hb5).call hgS
            have hbS := hbn5.trans (hgS.mono hbn5.size)
            have hszS := hbS.size
            clear HX20' HXOK' hwS
            go_wp2_with (at_builtin; refine push_str rfl _ _ rfl w2.heap.size _ l (by rfl) hloS w5.heap.size (by rfl) x s0 (by omega) hszS ?_)
            intro v6 w6 hlo6 hb6
            go_wp2_with fail
            go_roundw
            case rel => exact ⟨j + 1, l ++ [x], by omega, by go_num, hlo6, HAN, HLN, hbS.trans hb6⟩
            case measure => simp [intOf]; omega
        · have hjL : j = L := by omega
          subst hjL
          have hvj : vals.take j = vals := List.take_of_length_le (by omega)
          have hAD : AD = (l, 0) := by rw [HAD2.out, ← hL]; exact HAE.out l
          obtain ⟨HM2, HS2⟩ := HOK2.out l hAD
          have HM3 := Lib.hid (HMK.out.trans HM2)
          have HS3 := Lib.hid (HS2 HSO.out)
          have hlN : LL ≤ EnS.sumBy (fun a : EnS.At => a.vals.length) (ys.take (k + 1)) := by
            have h1 := HVL.1
            have h2 : l.length = V0.length + vals.length := by rw [HLE.out, List.length_append, hvj]
            omega
          have HF3 := Lib.hid (EnS.FitQ.set HFQ.out (M := EnS.sumBy (fun a : EnS.At => a.vals.length) (ys.take (k + 1))) (by omega) T (vs := l) (by omega) hll.2)
          have hownN := hown2.call hbn
          have hoN := ho2.call hbn
          have hrN := hr2.call hbn
          have hse := enset_c C n q (.slice ya QL yc) T l (.slice la LL lc) wr (Nat.le_trans hC hzn.size) hownN.attrsE (EnS.sound_sort HSO.out) (by have := hfa.1; omega) hlo.strs (by omega)
          unfold CopyRet at hse
          have e0n := hoN.cell 0
          have e1n := hoN.cell 1
          simp only [List.getElem?_toArray, List.getElem?_cons_zero, List.getElem?_cons_succ] at e0n e1n
          clear HA21 HA20 HAOK HAE HVA HVX HTK HOK2 HBD2 HM2 HS2 hAD hvj HMK HSO HFQ HLE HAD2 hlo
          go_wp2_with fail
          refine hse.mono ?_; rintro e w4 ⟨y4, rfl, hown4, hb4⟩
          have hz4 := hzn.trans (hb4.mono hzn.size)
          have ho4 := hoN.call hb4
          have hr4 := hrN.call hb4
          obtain ⟨y4a, y4c, rfl⟩ := hown4.form
          obtain ⟨Y4, hY4⟩ : ∃ n, (EnS.setL T l q).length = n := ⟨_, rfl⟩
          rw [hY4] at hown4 ⊢
          have t0 := ho4.thaw 0
          have t1 := ho4.thaw 1
          have r0 := ho4.cell 0
          have r1 := ho4.cell 1
          simp only [List.getElem?_toArray, List.getElem?_cons_zero, List.getElem?_cons_succ] at r0 r1
          have hown5 := hown4.mono (B' := w.heap.size) hzn.size
          have hA := ho4.put 0 (.string ⟨n.toArray⟩)
          have hoA := hown5.other ho4 (by omega) (by decide) (by decide) 0 (.string ⟨n.toArray⟩)
          have hrA := hr4.other (p := ⟨be, 0, none⟩) (by show w.heap.size ≠ be; omega) (.string ⟨n.toArray⟩)
          simp only [List.setIfInBounds_toArray, List.set_cons_zero] at hA
          have hB := hA.put 1 (.slice y4a Y4 y4c)
          have hoB := hoA.other hA (by omega) (by decide) (by decide) 1 (.slice y4a Y4 y4c)
          have hrB := hrA.other (p := ⟨be, 1, none⟩) (by show w.heap.size ≠ be; omega) (.slice y4a Y4 y4c)
          simp only [List.setIfInBounds_toArray, List.set_cons_succ, List.set_cons_zero] at hB
          have hbB : Below w.heap.size w ((w4.setCell ⟨be, 0, none⟩ (.string ⟨n.toArray⟩)).setCell ⟨be, 1, none⟩ (.slice y4a Y4 y4c)) := (hz4.setCell (p := ⟨be, 0, none⟩) (by show w.heap.size ≤ be; omega) _).setCell (p := ⟨be, 1, none⟩) (by show w.heap.size ≤ be; omega) _
          go_wp2_with fail
          go_roundw
          case rel => exact ⟨k + 1, _, EnS.setL T l q, by omega, by go_num, hoB, HM3, HS3, HF3, hB, hrB, hbB⟩
          case measure => simp [intOf]; omega
    · have hkl : k = ys.length := by omega
      subst hkl
      have HRD := Lib.hid (HYES1.out q (HMK.out.trans (EnS.mk_end (Nat.le_refl _))))
      have hfa := FitQ.fit HFQ.out (HSM.out _) HSO.out
      obtain ⟨ya, yc, rfl⟩ := hown.form
      obtain ⟨QL, hQL⟩ : ∃ n, q.length = n := ⟨_, rfl⟩
      rw [hQL] at hown ho
      have e0 := ho.cell 0
      have e1 := ho.cell 1
      simp only [List.getElem?_toArray, List.getElem?_cons_zero, List.getElem?_cons_succ] at e0 e1
      clear HAT HFT HTL HSM HST H17 H19 HBD HOK HTN HVS HTT HNO1 HYES1 HMK HSO HFQ
      have hdn := done_c C n q (.slice ya QL yc) 64 wr (Nat.le_trans hC hb.size) (HEN.out _ hb) hown.attrsE hfa (by omega)
      rw [← HRD.out] at hdn
      unfold MakeRet at hdn
      clear HRD
      go_wp2_with fail
      refine hdn.mono ?_; rintro e w2 ⟨u2, rfl, hown2, hb2⟩
      have hz2 := hb.trans (hb2.mono hb.size)
      have hr2 := hr.call hb2
      obtain ⟨⟨rn, ra⟩, rc⟩ := R
      simp only at hown2 ⊢
      obtain ⟨b2, c2, rfl⟩ := hown2.form
      obtain ⟨RL, hRL⟩ : ∃ n, ra.length = n := ⟨_, rfl⟩
      rw [hRL] at hown2 ⊢
      have hown3 := hown2.mono (B' := w.heap.size) hb.size
      have t0 := hr2.thaw 0
      have t1 := hr2.thaw 1
      have r0 := hr2.cell 0
      have r1 := hr2.cell 1
      simp only [List.getElem?_toArray, List.getElem?_cons_zero, List.getElem?_cons_succ] at r0 r1
      have hA := hr2.put 0 (.string ⟨rn.toArray⟩)
      have hoA := hown3.other hr2 (by omega) (by decide) (by decide) 0 (.string ⟨rn.toArray⟩)
      simp only [List.setIfInBounds_toArray, List.set_cons_zero] at hA
      have hB := hA.put 1 (.slice b2 RL c2)
      have hoB := hoA.other hA (by omega) (by decide) (by decide) 1 (.slice b2 RL c2)
      simp only [List.setIfInBounds_toArray, List.set_cons_succ, List.set_cons_zero] at hB
      have hbB : Below w.heap.size w ((w2.setCell ⟨w.heap.size, 0, none⟩ (.string ⟨rn.toArray⟩)).setCell ⟨w.heap.size, 1, none⟩ (.slice b2 RL c2)) := (hz2.setCell (p := ⟨w.heap.size, 0, none⟩) (Nat.le_refl _) _).setCell (p := ⟨w.heap.size, 1, none⟩) (Nat.le_refl _) _
      have y0 := hB.cell 0
      have y1 := hB.cell 1
      simp only [List.getElem?_toArray, List.getElem?_cons_zero, List.getElem?_cons_succ] at y0 y1
      clear hown ho hr e0 e1 hdn
      go_wp2_with fail
      (try simp only [Exit.inBlock, Exit.then])
      refine bodyPost_ret (v := .tuple #[.agg #[.string ⟨rn.toArray⟩, .slice b2 RL c2], .int .i64 rc]) ?_ rfl ⟨_, rfl, hoB, hbB⟩
      clear hA hoA hB hoB hbB hown2 hown3 hr2 hz2
      generalize (w2.setCell ⟨w.heap.size, 0, none⟩ (.string ⟨rn.toArray⟩)).setCell ⟨w.heap.size, 1, none⟩ (.slice b2 RL c2) = wf at *
      rw [results_cell_tmp rfl]
      go_simp
end Go.Proofs.YtmnhgbkdahdoiaaGreatDoor
