/- The walk of the program's Rename. Conditions: those that the theorem states; the library's variables are laid. The walk of the program's Modify. Conditions: those that the theorem states; the library's variables are laid. -/
import Derived.Test.YtmnhgbkdahdoiaaGreatDoorMRna
import Derived.Test.YtmnhgbkdahdoiaaGreatDoorMTai
import Derived.Test.YtmnhgbkdahdoiaaGreatDoorMEnV
import Derived.Test.YtmnhgbkdahdoiaaGreatDoorMCha
import Derived.Test.YtmnhgbkdahdoiaaGreatDoorMMkh
namespace Go.Proofs.YtmnhgbkdahdoiaaGreatDoor
open Go.RowKit
attribute [local go_sem ↓] Go.wp_at_zero Go.wp_at_succ

/-- pairs stay where an entry's block is written -/
theorem AvasIn.other {w : World} {v : Value} {ps : List RdS.Pr} (h : AvasIn w v ps) {A : Nat} {T : TypeId} {s : ByteArray} {a : Option Addr} {n c : Nat} (hw : Whole w A T #[.string s, .slice a n c]) (i : Nat) (y : Value) : AvasIn (w.setCell ⟨A, i, none⟩ y) v ps := by
  obtain ⟨b, d, rfl, hd, hcase⟩ := h
  refine ⟨b, d, rfl, hd, ?_⟩
  rcases hcase with rfl | ⟨g, o, rfl, hg, hcell⟩
  · exact .inl rfl
  · cases ps with
    | nil => exact .inl rfl
    | cons p r =>
      have hne : A ≠ g := fun e => by
        subst e
        obtain ⟨c0, c1⟩ := hcell 0 p rfl
        rw [hw.cell] at c0 c1
        match o, c0, c1 with
        | 0, c0, c1 => simp [strV] at c1
        | 1, c0, c1 => simp [strV] at c0
        | o + 2, c0, c1 => simp at c0
      have hcl : ∀ x : Addr, x.block = g → (w.setCell ⟨A, i, none⟩ y).cell? x = w.cell? x := fun x hx => World.cell?_of_block (a := x) (by rw [hx]; exact Below.heap_setCell w ⟨A, i, none⟩ y g (fun e => hne e.symm))
      refine .inr ⟨g, o, rfl, by simpa [World.setCell] using hg, fun j q hj => ?_⟩
      obtain ⟨c0, c1⟩ := hcell j q hj
      exact ⟨(hcl _ rfl).trans c0, (hcl _ rfl).trans c1⟩
theorem rowfit {N : Nat} {q : List EnS.At} (h : EnS.FitQ N q) (hN : N ≤ 1048576) (hs : EnS.soundA [] q = true) : FitA q := FitQ.fit h hN hs
end Go.Proofs.YtmnhgbkdahdoiaaGreatDoor
namespace Go.Proofs.YtmnhgbkdahdoiaaGreatDoor
open Go.RowKit
attribute [local go_sem ↓] Go.wp_at_zero Go.wp_at_succ

set_option maxRecDepth 100000 in
set_option maxHeartbeats 8000000 in
theorem enmodify_c (C : Nat) (n : List UInt8) (xs : List EnS.At) (u : Value) (cs : List EnS.Ch) (vc : Value) (w : World) (hC : C ≤ w.heap.size) (h : AttrsE [9] C w u xs) (hf : FitA xs) (ht : ∀ x ∈ xs, x.typ.length ≤ 1048576) (hn : n.length ≤ 1000000) (hvc : ChgsIn w vc cs) (hcl : cs.length ≤ 1048576) (hct : ∀ c ∈ cs, c.typ.length ≤ 1048576 ∧ ∀ v ∈ c.vals, v.length ≤ 1000000) (hN : EnS.sumBy (fun c => c.vals.length) cs ≤ 300000) (hE : Env w) :
    Calls Tryz.prog 11 #[.agg #[.string ⟨n.toArray⟩, u], vc] w (MakeRet C (EnS.modifyS EnS.upS ⟨n, xs⟩ cs) w) := by
  have hb0 := grow1 w (.cells #[.string ⟨n.toArray⟩, u] 24)
  have hw0 := Whole.made w 24 #[.string ⟨n.toArray⟩, u]
  have hg1 := grow1 (w.alloc (.cells #[.string ⟨n.toArray⟩, u] 24)) (.cells #[.string ⟨#[]⟩, .slice none 0 0] 24)
  have hb1 := below_trans hb0 hg1
  have hw1 := hw0.call hg1
  have hr1 := Whole.made (w.alloc (.cells #[.string ⟨n.toArray⟩, u] 24)) 24 #[.string ⟨#[]⟩, .slice none 0 0]
  have hmade : (w.alloc (.cells #[.string ⟨n.toArray⟩, u] 24)).heap.size = w.heap.size + 1 := by show (w.heap.push _).size = _; exact Array.size_push _
  rw [hmade] at hr1
  have HEN := Lib.hid (fun W (hb : Below w.heap.size w W) => hE.below hb)
  have hfm := enformed_c n xs u _ (HEN.out _ hb1) (AttrsE.ins (h.callT hb1)) hf hn ht
  unfold NmBool at hfm
  have H1 := Lib.hid (fun h => EnS.modifyS_1 (e := ⟨n, xs⟩) (cs := cs) h)
  have HNO := Lib.hid (fun h q c hm hc => EnS.modifyS_no (e := ⟨n, xs⟩) (cs := cs) h (q := q) (c := c) hm hc)
  have HYES := Lib.hid (fun h q hm => EnS.modifyS_yes (e := ⟨n, xs⟩) (cs := cs) h (q := q) hm)
  have HFO := Lib.hid (fun h => And.intro (EnS.formed_sound2 (e := ⟨n, xs⟩) h) (EnS.formed_parts (e := ⟨n, xs⟩) h))
  simp only at HNO HYES HFO
  have HM0 : Hid (EnS.modL EnS.upS xs cs = EnS.modL EnS.upS xs (cs.drop 0)) := Lib.hid rfl
  generalize EnS.modifyS EnS.upS ⟨n, xs⟩ cs = R at *
  generalize EnS.formedE ⟨n, xs⟩ = FM at *
  generalize EnS.modL EnS.upS xs cs = M at *
  obtain ⟨ua, uc, rfl, _⟩ := SliceP.form h
  have hrow0 : RowAt C w w (.slice ua xs.length uc) xs := .inl h
  have HFQ : Hid (FitA xs) := Lib.hid hf
  obtain ⟨ca, cc, rfl, hcc, hat⟩ := SliceP.at hvc
  have HAT := Lib.hid hat
  have HCT := Lib.hid (fun k (hk : k < cs.length) => hct _ (List.getElem_mem hk))
  have HSM := Lib.hid (fun k => Nat.le_trans (EnS.sumBy_le (f := fun c : EnS.Ch => c.vals.length) cs k) hN)
  have HST := Lib.hid (fun k (hk : k < cs.length) => EnS.sumBy_take (f := fun c : EnS.Ch => c.vals.length) hk)
  have HTN := Lib.hid (fun k (hk : k < cs.length) => EnS.type_len (cs[k]'hk).typ)
  have HTT := Lib.hid (fun k (hk : k < cs.length) => EnS.type_twice (cs[k]'hk).typ)
  have HVS := Lib.hid (fun k (hk : k < cs.length) q h => EnS.valuesS_type n (cs[k]'hk).typ q h)
  have H17 := Lib.hid (fun k (hk : k < cs.length) l h => EnS.step_17 (l := l) hk h)
  have H2 := Lib.hid (fun k (hk : k < cs.length) l h h2 => EnS.step_2 (l := l) hk h h2)
  have H21 := Lib.hid (fun k (hk : k < cs.length) l h h2 h3 => EnS.step_21 (l := l) hk h h2 h3)
  have HBD := Lib.hid (fun k (hk : k < cs.length) l h h2 h3 q e hc he => EnS.step_bad (l := l) hk h h2 h3 (q := q) (e := e) hc he)
  have HOK := Lib.hid (fun k (hk : k < cs.length) l h h2 h3 q hc N hs hF hv => EnS.step_ok (l := l) hk h h2 h3 (q := q) hc (N := N) hs hF hv)
  clear hf ht hn hct hN hE h hmade hb0 hg1 hw0 hvc hat
  have q0 := hw1.cell 0
  have q1 := hw1.cell 1
  simp only [List.getElem?_toArray, List.getElem?_cons_zero, List.getElem?_cons_succ] at q0 q1
  go_enter Tryz.func11, Tryz.ntmps11
  go_wp2_with fail
  refine hfm.mono ?_; rintro e w1 ⟨rfl, hb2⟩
  have hz1 := below_trans hb1 hb2
  have hw2 := hw1.call hb2
  have hr2 := hr1.call hb2
  clear hfm hw1 hr1 q0 q1
  cases FM with
  | false =>
    have HR := H1.out rfl
    clear H1 HNO HYES HFO HM0 HAT HCT HSM HST HTN HTT HVS H17 H2 H21 HBD HOK
    have t0 := hr2.thaw 0
    have t1 := hr2.thaw 1
    have r0 := hr2.cell 0
    have r1 := hr2.cell 1
    simp only [List.getElem?_toArray, List.getElem?_cons_zero, List.getElem?_cons_succ] at r0 r1
    have hA := hr2.put 0 (.string ⟨#[]⟩)
    simp only [List.setIfInBounds_toArray, List.set_cons_zero] at hA
    have hB := hA.put 1 (.slice none 0 0)
    simp only [List.setIfInBounds_toArray, List.set_cons_succ, List.set_cons_zero] at hB
    have hbB : Below w.heap.size w ((w1.setCell ⟨w.heap.size + 1, 0, none⟩ (.string ⟨#[]⟩)).setCell ⟨w.heap.size + 1, 1, none⟩ (.slice none 0 0)) := (hz1.setCell (p := ⟨w.heap.size + 1, 0, none⟩) (by show w.heap.size ≤ w.heap.size + 1; omega) _).setCell (p := ⟨w.heap.size + 1, 1, none⟩) (by show w.heap.size ≤ w.heap.size + 1; omega) _
    have z0 := hB.cell 0
    have z1 := hB.cell 1
    simp only [List.getElem?_toArray, List.getElem?_cons_zero, List.getElem?_cons_succ] at z0 z1
    go_wp2_with fail
    (try simp only [Exit.inBlock, Exit.then])
    refine bodyPost_ret (v := .tuple #[.agg #[.string ⟨#[]⟩, .slice none 0 0], .int .i64 1]) ?_ rfl (MakeRet.no HR hbB)
    rw [results_cell_tmp rfl]
    go_simp
  | true =>
  have HNO1 := Lib.hid (fun q c hm hc => HNO.out rfl q c hm hc)
  have HYES1 := Lib.hid (fun q hm => HYES.out rfl q hm)
  have hfo := HFO.out rfl
  have HNN2 := Lib.hid hfo.2.1
  have HNZ := Lib.hid hfo.2.2.1
  have HSX : Hid (EnS.soundA [] xs = true) := Lib.hid hfo.1.1
  have HFX : Hid (EnS.FitQ (20 + EnS.sumBy (fun c => c.vals.length) (cs.take 0)) xs) := Lib.hid (fun a ha => ⟨by have := hfo.1.2 a ha; omega, (HFQ.out.2 a ha).2⟩)
  have hnl : n.length ≤ 1000 := by
    have := DnS.norm_len n
    rw [HNN2.out] at this
    exact this
  have hrow2 := hrow0.call hz1
  clear H1 HNO HYES HFO hfo hrow0 HFQ
  go_wp2_with fail
  go_loopw [18] (fun i wr => ∃ (k : Nat) (y : Value) (q : List EnS.At), k ≤ cs.length ∧ i = .int .i64 k ∧ RowAt C w wr y q ∧ Hid (M = EnS.modL EnS.upS q (cs.drop k)) ∧ Hid (EnS.soundA [] q = true) ∧ Hid (EnS.FitQ (20 + EnS.sumBy (fun c => c.vals.length) (cs.take k)) q) ∧ Whole wr w.heap.size 24 #[.string ⟨n.toArray⟩, y] ∧ Whole wr (w.heap.size + 1) 24 #[.string ⟨#[]⟩, .slice none 0 0] ∧ Below w.heap.size w wr) (fun i _ => cs.length - (intOf i).toNat)
  case atStart => exact ⟨0, _, xs, Nat.zero_le _, rfl, hrow2, HM0, HSX, HFX, hw2, hr2, hz1⟩
  case round =>
    obtain ⟨k, y, q, hk, rfl, hrow, HMK, HSO, HFQ, hw, hr, hb⟩ := hrel
    clear hrow2 HM0 HSX HFX hw2 hr2 hz1 hb1 hb2
    obtain ⟨ya, yc, rfl⟩ := hrow.form
    obtain ⟨QL, hQL⟩ : ∃ n, q.length = n := ⟨_, rfl⟩
    have hfa := rowfit HFQ.out (by have := HSM.out k; omega) HSO.out
    have hqs : q.length ≤ 1048576 := hfa.1
    rw [hQL] at hrow hw
    by_cases hlt : k < cs.length
    · obtain ⟨g, o, rfl, hg, _, hra⟩ := HAT.out k hlt
      obtain ⟨c0, c1, a2, p2, c2, hp2, hvs⟩ := ChgAt.parts hra
      have hcv := HCT.out k hlt
      have htn := HTN.out k hlt
      have htt := HTT.out k hlt
      have hst := HST.out k hlt
      have hsm := HSM.out (k + 1)
      have H17k := Lib.hid (fun h => HMK.out.trans (H17.out k hlt q h))
      have H2k := Lib.hid (fun h h2 => HMK.out.trans (H2.out k hlt q h h2))
      have H21k := Lib.hid (fun h h2 h3 => HMK.out.trans (H21.out k hlt q h h2 h3))
      have HBDk := Lib.hid (fun h h2 h3 z e hc he => HMK.out.trans (HBD.out k hlt q h h2 h3 z e hc he))
      have HOKk := Lib.hid (fun h h2 h3 z hc hv => HOK.out k hlt q h h2 h3 z hc _ HSO.out HFQ.out hv)
      have HVSk := Lib.hid (fun h => HVS.out k hlt q h)
      clear hra HAT HCT HTN HTT HST HSM H17 H2 H21 HBD HOK HVS HYES1
      generalize cs[k] = x at *
      obtain ⟨op, ty, vals⟩ := x
      simp only at c0 c1 c2 hp2 hvs hcv htn htt hst H17k H2k H21k HBDk HOKk HVSk
      obtain ⟨hct1, hct2⟩ := hcv
      have htc : ∀ W, Calls Tryz.prog 21 #[.string ⟨ty.toArray⟩] W (TypeRet ty W) := fun W => type_c ⟨ty.toArray⟩ (by show ty.toArray.size ≤ _; simp; omega) W
      unfold TypeRet at htc
      have HVL := EnS.FitQ.values HFQ.out (RuS.typeOf ty).1
      have HVF := (EnS.sound_values (t := (RuS.typeOf ty).1) HSO.out).1
      obtain ⟨T, sx, hTT⟩ : ∃ T sx, RuS.typeOf ty = (T, sx) := ⟨_, _, rfl⟩
      rw [hTT] at htc htn htt H17k H2k H21k HBDk HOKk HVSk HVL HVF
      simp only at htc htn htt H17k H2k H21k HBDk HOKk HVSk HVL HVF
      clear hTT
      have d0 := (hb.cell (p := ⟨g, o + k * 3, none⟩) hg).trans c0
      have d1 := (hb.cell (p := ⟨g, o + k * 3 + 1, none⟩) hg).trans c1
      have d2 := (hb.cell (p := ⟨g, o + k * 3 + 2, none⟩) hg).trans c2
      have hl0 : (0 : Int) ≤ (k : Int) := by omega
      have hl1 : (k : Int) < (cs.length : Int) := by omega
      obtain ⟨L, hL⟩ : ∃ n, vals.length = n := ⟨_, rfl⟩
      rw [hL] at c2 d2 hp2 hvs hst
      have hgX := grow1 wr (.cells #[.int .i64 op, .string ⟨ty.toArray⟩, .slice a2 L p2] 39)
      have hwX := Whole.made wr 39 #[.int .i64 op, .string ⟨ty.toArray⟩, .slice a2 L p2]
      have x0 := hwX.cell 0
      have x1 := hwX.cell 1
      have x2 := hwX.cell 2
      simp only [List.getElem?_toArray, List.getElem?_cons_zero, List.getElem?_cons_succ] at x0 x1 x2
      have hbX := hb.trans (hgX.mono hb.size)
      obtain ⟨bx, hbx⟩ : ∃ b, wr.heap.size = b := ⟨_, rfl⟩
      rw [hbx] at x0 x1 x2
      go_wp2_with fail
      refine (htc _).mono ?_; rintro e w2 ⟨rfl, hb2⟩
      have hb22 := hgX.trans (hb2.mono hgX.size)
      have hz2 := hb.trans (hb22.mono hb.size)
      have hrow2 := hrow.call hb22
      have hw2 := hw.call hb22
      have hr2 := hr.call hb22
      have x02 := keepC x0 hb2
      have x12 := keepC x1 hb2
      have x22 := keepC x2 hb2
      clear hrow hw hr d0 d1 d2 x0 x1 x2 hwX hgX hbX htc
      cases T with
      | nil =>
        have HR := HNO1.out _ 17 (H17k.out rfl) (by decide)
        clear H17k H2k H21k HBDk HOKk HVSk HVL HVF htt
        have t0 := hr2.thaw 0
        have t1 := hr2.thaw 1
        have r0 := hr2.cell 0
        have r1 := hr2.cell 1
        simp only [List.getElem?_toArray, List.getElem?_cons_zero, List.getElem?_cons_succ] at r0 r1
        have hA := hr2.put 0 (.string ⟨#[]⟩)
        simp only [List.setIfInBounds_toArray, List.set_cons_zero] at hA
        have hB := hA.put 1 (.slice none 0 0)
        simp only [List.setIfInBounds_toArray, List.set_cons_succ, List.set_cons_zero] at hB
        have hbB : Below w.heap.size w ((w2.setCell ⟨w.heap.size + 1, 0, none⟩ (.string ⟨#[]⟩)).setCell ⟨w.heap.size + 1, 1, none⟩ (.slice none 0 0)) := (hz2.setCell (p := ⟨w.heap.size + 1, 0, none⟩) (by show w.heap.size ≤ w.heap.size + 1; omega) _).setCell (p := ⟨w.heap.size + 1, 1, none⟩) (by show w.heap.size ≤ w.heap.size + 1; omega) _
        have z0 := hB.cell 0
        have z1 := hB.cell 1
        simp only [List.getElem?_toArray, List.getElem?_cons_zero, List.getElem?_cons_succ] at z0 z1
        go_wp2_with fail
        (try simp only [Exit.inBlock, Exit.then])
        refine bodyPost_ret (v := .tuple #[.agg #[.string ⟨#[]⟩, .slice none 0 0], .int .i64 17]) ?_ rfl (MakeRet.no HR hbB)
        rw [results_cell_tmp rfl]
        go_simp
      | cons T0 Tr =>
      have hTn : T0 :: Tr ≠ [] := by simp
      have H2k' := Lib.hid (fun h2 => H2k.out hTn h2)
      have H21k' := Lib.hid (fun h2 h3 => H21k.out hTn h2 h3)
      have HBDk' := Lib.hid (fun h2 h3 z e hc he => HBDk.out hTn h2 h3 z e hc he)
      have HOKk' := Lib.hid (fun h2 h3 z hc hv => HOKk.out hTn h2 h3 z hc hv)
      have HVSk' := Lib.hid (HVSk.out hTn)
      clear H17k H2k H21k HBDk HOKk HVSk
      generalize hgT : T0 :: Tr = T at *
      have hTe : T.isEmpty = false := by subst hgT; rfl
      have hTe2 : (T == []) = false := by subst hgT; rfl
      have hTe3 : ¬ T = [] := hTn
      clear hgT
      by_cases hop : op < 0 ∨ 3 < op
      · have HR := HNO1.out _ 2 (H2k'.out hop) (by decide)
        clear H2k' H21k' HBDk' HOKk' HVSk' HVL HVF htt
        by_cases hop1 : op < 0
        · have ho1 : decide (op < 0) = true := decide_eq_true hop1
          clear hop
          have t0 := hr2.thaw 0
          have t1 := hr2.thaw 1
          have r0 := hr2.cell 0
          have r1 := hr2.cell 1
          simp only [List.getElem?_toArray, List.getElem?_cons_zero, List.getElem?_cons_succ] at r0 r1
          have hA := hr2.put 0 (.string ⟨#[]⟩)
          simp only [List.setIfInBounds_toArray, List.set_cons_zero] at hA
          have hB := hA.put 1 (.slice none 0 0)
          simp only [List.setIfInBounds_toArray, List.set_cons_succ, List.set_cons_zero] at hB
          have hbB : Below w.heap.size w ((w2.setCell ⟨w.heap.size + 1, 0, none⟩ (.string ⟨#[]⟩)).setCell ⟨w.heap.size + 1, 1, none⟩ (.slice none 0 0)) := (hz2.setCell (p := ⟨w.heap.size + 1, 0, none⟩) (by show w.heap.size ≤ w.heap.size + 1; omega) _).setCell (p := ⟨w.heap.size + 1, 1, none⟩) (by show w.heap.size ≤ w.heap.size + 1; omega) _
          have z0 := hB.cell 0
          have z1 := hB.cell 1
          simp only [List.getElem?_toArray, List.getElem?_cons_zero, List.getElem?_cons_succ] at z0 z1
          go_wp2_with fail
          (try simp only [Exit.inBlock, Exit.then])
          refine bodyPost_ret (v := .tuple #[.agg #[.string ⟨#[]⟩, .slice none 0 0], .int .i64 2]) ?_ rfl (MakeRet.no HR hbB)
          rw [results_cell_tmp rfl]
          go_simp
        · have ho1 : decide (op < 0) = false := decide_eq_false hop1
          have hop2 : 3 < op := by omega
          have ho2 : decide (3 < op) = true := decide_eq_true hop2
          clear hop
          have t0 := hr2.thaw 0
          have t1 := hr2.thaw 1
          have r0 := hr2.cell 0
          have r1 := hr2.cell 1
          simp only [List.getElem?_toArray, List.getElem?_cons_zero, List.getElem?_cons_succ] at r0 r1
          have hA := hr2.put 0 (.string ⟨#[]⟩)
          simp only [List.setIfInBounds_toArray, List.set_cons_zero] at hA
          have hB := hA.put 1 (.slice none 0 0)
          simp only [List.setIfInBounds_toArray, List.set_cons_succ, List.set_cons_zero] at hB
          have hbB : Below w.heap.size w ((w2.setCell ⟨w.heap.size + 1, 0, none⟩ (.string ⟨#[]⟩)).setCell ⟨w.heap.size + 1, 1, none⟩ (.slice none 0 0)) := (hz2.setCell (p := ⟨w.heap.size + 1, 0, none⟩) (by show w.heap.size ≤ w.heap.size + 1; omega) _).setCell (p := ⟨w.heap.size + 1, 1, none⟩) (by show w.heap.size ≤ w.heap.size + 1; omega) _
          have z0 := hB.cell 0
          have z1 := hB.cell 1
          simp only [List.getElem?_toArray, List.getElem?_cons_zero, List.getElem?_cons_succ] at z0 z1
          go_wp2_with fail
          (try simp only [Exit.inBlock, Exit.then])
          refine bodyPost_ret (v := .tuple #[.agg #[.string ⟨#[]⟩, .slice none 0 0], .int .i64 2]) ?_ rfl (MakeRet.no HR hbB)
          rw [results_cell_tmp rfl]
          go_simp
      have hopr : 0 ≤ op ∧ op ≤ 3 := by omega
      have H21k2 := Lib.hid (fun h3 => H21k'.out hop h3)
      have HBDk2 := Lib.hid (fun h3 z e hc he => HBDk'.out hop h3 z e hc he)
      have HOKk2 := Lib.hid (fun h3 z hc hv => HOKk'.out hop h3 z hc hv)
      have ho1 : decide (op < 0) = false := decide_eq_false (by omega)
      have ho2 : decide (3 < op) = false := decide_eq_false (by omega)
      clear H2k' H21k' HBDk' HOKk' hop
      have HVI := Lib.hid (fun W (hb : Below w.heap.size w W) => (StrsP.strs hvs).call hb (Nat.le_refl _))
      have hwg := enwrong_c T (.slice a2 L p2) vals w2 (HEN.out _ hz2) (by omega) (HVI.out _ hz2) (by omega) hct2
      unfold NmBool at hwg
      obtain ⟨FV, hFV⟩ : ∃ b, EnS.fineS T vals = b := ⟨_, rfl⟩
      rw [hFV] at hwg
      go_wp2_with fail
      refine hwg.mono ?_; rintro e w3 ⟨rfl, hb3⟩
      have hz3 := hz2.trans (hb3.mono hz2.size)
      have hrow3 := hrow2.call hb3
      have hw3 := hw2.call hb3
      have hr3 := hr2.call hb3
      have x03 := keepC x02 hb3
      have x13 := keepC x12 hb3
      have x23 := keepC x22 hb3
      clear hwg hrow2 hw2 hr2 x02 x12 x22
      cases FV with
      | false =>
        have HR := HNO1.out _ 21 (H21k2.out hFV) (by decide)
        clear H21k2 HBDk2 HOKk2 HVSk' HVL HVF htt
        have t0 := hr3.thaw 0
        have t1 := hr3.thaw 1
        have r0 := hr3.cell 0
        have r1 := hr3.cell 1
        simp only [List.getElem?_toArray, List.getElem?_cons_zero, List.getElem?_cons_succ] at r0 r1
        have hA := hr3.put 0 (.string ⟨#[]⟩)
        simp only [List.setIfInBounds_toArray, List.set_cons_zero] at hA
        have hB := hA.put 1 (.slice none 0 0)
        simp only [List.setIfInBounds_toArray, List.set_cons_succ, List.set_cons_zero] at hB
        have hbB : Below w.heap.size w ((w3.setCell ⟨w.heap.size + 1, 0, none⟩ (.string ⟨#[]⟩)).setCell ⟨w.heap.size + 1, 1, none⟩ (.slice none 0 0)) := (hz3.setCell (p := ⟨w.heap.size + 1, 0, none⟩) (by show w.heap.size ≤ w.heap.size + 1; omega) _).setCell (p := ⟨w.heap.size + 1, 1, none⟩) (by show w.heap.size ≤ w.heap.size + 1; omega) _
        have z0 := hB.cell 0
        have z1 := hB.cell 1
        simp only [List.getElem?_toArray, List.getElem?_cons_zero, List.getElem?_cons_succ] at z0 z1
        go_wp2_with fail
        (try simp only [Exit.inBlock, Exit.then])
        refine bodyPost_ret (v := .tuple #[.agg #[.string ⟨#[]⟩, .slice none 0 0], .int .i64 21]) ?_ rfl (MakeRet.no HR hbB)
        rw [results_cell_tmp rfl]
        go_simp
      | true =>
      have hct3 : ∀ v ∈ vals, v.length ≤ 1000000 := hct2
      have hvl := fun W (ha : AttrsIn W (.slice ya QL yc) q) => values_c n q (.slice ya QL yc) T W ha hfa (by omega)
      unfold OwnRet at hvl
      rw [HVSk'.out] at hvl
      clear HVSk' H21k2
      have hchg := fun vo W hE ho hv => change_c op T (EnS.valuesL q T) vals vo (.slice a2 L p2) W hopr hE (by omega) ho hv ⟨by have := HVL.1; omega, HVL.2⟩ ⟨by omega, hct3⟩ HVF hFV
      rw [htt] at hchg
      unfold ChRet at hchg
      have HBD3 := Lib.hid (fun z e hc he => HBDk2.out hFV z e hc he)
      have HOK3 := Lib.hid (fun z hc => HOKk2.out hFV z hc hct3)
      clear HBDk2 HOKk2 HVF htt
      generalize EnS.valuesL q T = V at *
      obtain ⟨Z, ec, hZ⟩ : ∃ Z ec, EnS.changeS EnS.upS op T sx V vals = (Z, ec) := ⟨_, _, rfl⟩
      rw [hZ] at hchg
      simp only at hchg
      have HBD4 := Lib.hid (fun he => HBD3.out Z ec hZ he)
      have HOK4 := Lib.hid (fun (he : ec = 0) => HOK3.out Z (by rw [hZ, he]))
      clear HBD3 HOK3 hZ hFV
      have hbd : Below w3.heap.size w3 w3.drew := (Below.refl _ _).drew
      have hzd := hz3.drew
      have hrowd := hrow3.call hbd
      have hwd := hw3.call hbd
      have hrd := hr3.call hbd
      have e0d := hwd.cell 0
      have e1d := hwd.cell 1
      simp only [List.getElem?_toArray, List.getElem?_cons_zero, List.getElem?_cons_succ] at e0d e1d
      have x0d := keepC x03 hbd
      have x2d := keepC x23 hbd
      have hv1 := hvl w3.drew (AttrsE.ins (hrowd.attrs hzd))
      have HVd := Lib.hid (fun W (hb : Below w3.drew.heap.size w3.drew W) => HVI.out W (hzd.trans (hb.mono hzd.size)))
      have HEd := Lib.hid (fun W (hb : Below w3.drew.heap.size w3.drew W) => HEN.out W (hzd.trans (hb.mono hzd.size)))
      clear hrow3 hw3 hr3 x03 x13 x23 hvl hvs hct2 hct3
      go_wp2_with fail
      go_region_held3 (fun W => W.cell? ⟨bx, 0, none⟩ = some (.int .i64 op) ∧ W.cell? ⟨bx, 2, none⟩ = some (.slice a2 L p2) ∧ W.cell? ⟨w.heap.size, 0, none⟩ = some (.string ⟨n.toArray⟩) ∧ W.cell? ⟨w.heap.size, 1, none⟩ = some (.slice ya QL yc)) (first | exact ⟨x0d, x2d, e0d, e1d⟩ | exact ⟨keepC x0d hb4, keepC x2d hb4, keepC e0d hb4, keepC e1d hb4⟩ | exact ⟨keepC x0d hb45, keepC x2d hb45, keepC e0d hb45, keepC e1d hb45⟩ | go_keep)
        (first
        | (go_at_call 24; (with_reducible refine hv1.mono ?_); rintro e w4 ⟨v4, rfl, hl4, hb4⟩)
        | (go_at_call 23; have hc5 := hchg v4 w4 (HEd.out _ hb4) hl4.strs (HVd.out _ hb4); (with_reducible refine hc5.mono ?_); rintro e w5 ⟨v5, rfl, hs5, hb5⟩; have hb45 := below_trans hb4 hb5))
      have hz5 := hzd.trans (hb45.mono hzd.size)
      have hrow5 := hrowd.call hb45
      have hw5 := hwd.call hb45
      have hr5 := hrd.call hb45
      clear hrowd hwd hrd e0d e1d x0d x2d hv1 hchg hb2 hb22
      by_cases hec : ec = 0
      case neg =>
        have hez : (ec != 0) = true := by simpa using hec
        have HR := HNO1.out _ ec (HBD4.out hec) hec
        clear HBD4 HOK4 hec
        have t0 := hr5.thaw 0
        have t1 := hr5.thaw 1
        have r0 := hr5.cell 0
        have r1 := hr5.cell 1
        simp only [List.getElem?_toArray, List.getElem?_cons_zero, List.getElem?_cons_succ] at r0 r1
        have hA := hr5.put 0 (.string ⟨#[]⟩)
        simp only [List.setIfInBounds_toArray, List.set_cons_zero] at hA
        have hB := hA.put 1 (.slice none 0 0)
        simp only [List.setIfInBounds_toArray, List.set_cons_succ, List.set_cons_zero] at hB
        have hbB : Below w.heap.size w ((w5.setCell ⟨w.heap.size + 1, 0, none⟩ (.string ⟨#[]⟩)).setCell ⟨w.heap.size + 1, 1, none⟩ (.slice none 0 0)) := (hz5.setCell (p := ⟨w.heap.size + 1, 0, none⟩) (by show w.heap.size ≤ w.heap.size + 1; omega) _).setCell (p := ⟨w.heap.size + 1, 1, none⟩) (by show w.heap.size ≤ w.heap.size + 1; omega) _
        have z0 := hB.cell 0
        have z1 := hB.cell 1
        simp only [List.getElem?_toArray, List.getElem?_cons_zero, List.getElem?_cons_succ] at z0 z1
        go_wp2_with fail
        (try simp only [Exit.inBlock, Exit.then])
        refine bodyPost_ret (v := .tuple #[.agg #[.string ⟨#[]⟩, .slice none 0 0], .int .i64 ec]) ?_ rfl (MakeRet.no HR hbB)
        rw [results_cell_tmp rfl]
        go_simp
      have HO5 := HOK4.out hec
      subst hec
      have HM6 := Lib.hid (HMK.out.trans HO5.1)
      have HS6 := Lib.hid HO5.2.1
      have HF6 : Hid (EnS.FitQ (20 + EnS.sumBy (fun c : EnS.Ch => c.vals.length) (cs.take (k + 1))) (EnS.setL T Z q)) := Lib.hid (by
        have h5 := HO5.2.2.1
        rw [hL, Nat.add_assoc, ← hst] at h5
        exact h5)
      have hZL : Z.length ≤ 1048576 := by have := HO5.2.2.2.1; omega
      have hset := enset_c C n q (.slice ya QL yc) T Z v5 w5 (Nat.le_trans hC hz5.size) (hrow5.attrs hz5) (EnS.sound_sort HSO.out) hqs hs5 hZL
      unfold CopyRet at hset
      have e05 := hw5.cell 0
      have e15 := hw5.cell 1
      simp only [List.getElem?_toArray, List.getElem?_cons_zero, List.getElem?_cons_succ] at e05 e15
      clear HO5 HBD4 HOK4 HMK HSO HFQ
      go_wp2_with fail
      refine hset.mono ?_; rintro e w8 ⟨u8, rfl, hown8, hb8⟩
      obtain ⟨a8, c8, rfl⟩ := hown8.form
      have hz8 := hz5.trans (hb8.mono hz5.size)
      obtain ⟨L8, hL8⟩ : ∃ n, (EnS.setL T Z q).length = n := ⟨_, rfl⟩
      rw [hL8] at hown8 ⊢
      have hw8 := hw5.call hb8
      have hr8 := hr5.call hb8
      have hrow8 : RowAt C w w8 (.slice a8 L8 c8) (EnS.setL T Z q) := RowAt.own hown8 hz5.size
      have t0 := hw8.thaw 0
      have t1 := hw8.thaw 1
      have f0 := hw8.cell 0
      have f1 := hw8.cell 1
      simp only [List.getElem?_toArray, List.getElem?_cons_zero, List.getElem?_cons_succ] at f0 f1
      have hA := hw8.put 0 (.string ⟨n.toArray⟩)
      have hrowA := hrow8.other hw8 hC 0 (.string ⟨n.toArray⟩)
      have hrA := hr8.other (p := ⟨w.heap.size, 0, none⟩) (by show w.heap.size + 1 ≠ w.heap.size; omega) (.string ⟨n.toArray⟩)
      simp only [List.setIfInBounds_toArray, List.set_cons_zero] at hA
      have hB := hA.put 1 (.slice a8 L8 c8)
      have hrowB := hrowA.other hA hC 1 (.slice a8 L8 c8)
      have hrB := hrA.other (p := ⟨w.heap.size, 1, none⟩) (by show w.heap.size + 1 ≠ w.heap.size; omega) (.slice a8 L8 c8)
      simp only [List.setIfInBounds_toArray, List.set_cons_succ, List.set_cons_zero] at hB
      have hbB : Below w.heap.size w ((w8.setCell ⟨w.heap.size, 0, none⟩ (.string ⟨n.toArray⟩)).setCell ⟨w.heap.size, 1, none⟩ (.slice a8 L8 c8)) := (hz8.setCell (p := ⟨w.heap.size, 0, none⟩) (Nat.le_refl _) _).setCell (p := ⟨w.heap.size, 1, none⟩) (Nat.le_refl _) _
      go_wp2_with fail
      go_roundw
      case rel => exact ⟨k + 1, _, EnS.setL T Z q, by omega, by go_num, hrowB, HM6, HS6, HF6, hB, hrB, hbB⟩
      case measure => simp [intOf]; omega
    · have hkl : k = cs.length := by omega
      subst hkl
      have HRD := Lib.hid (HYES1.out q (HMK.out.trans (EnS.mod_end (Nat.le_refl _))))
      clear HAT HCT HTN HTT HST HSM H17 H2 H21 HBD HOK HVS HNO1 HYES1 HMK HSO HFQ
      have e0 := hw.cell 0
      have e1 := hw.cell 1
      simp only [List.getElem?_toArray, List.getElem?_cons_zero, List.getElem?_cons_succ] at e0 e1
      have hdn := done_c C n q (.slice ya QL yc) 67 wr (Nat.le_trans hC hb.size) (HEN.out _ hb) (hrow.attrs hb) hfa (by omega)
      rw [← HRD.out] at hdn
      unfold MakeRet at hdn
      clear HRD
      go_wp2_with fail
      refine hdn.mono ?_; rintro e w2 ⟨u2, rfl, hown2, hb2⟩
      have hz2 := hb.trans (hb2.mono hb.size)
      have hr2 := hr.call hb2
      obtain ⟨⟨rn, ra⟩, rc⟩ := R
      simp only at hown2 ⊢
      obtain ⟨b2, c2, rfl⟩ := hown2.form
      obtain ⟨RL, hRL⟩ : ∃ n, ra.length = n := ⟨_, rfl⟩
      rw [hRL] at hown2 ⊢
      have hown3 := hown2.mono (B' := w.heap.size) hb.size
      have t0 := hr2.thaw 0
      have t1 := hr2.thaw 1
      have r0 := hr2.cell 0
      have r1 := hr2.cell 1
      simp only [List.getElem?_toArray, List.getElem?_cons_zero, List.getElem?_cons_succ] at r0 r1
      have hA := hr2.put 0 (.string ⟨rn.toArray⟩)
      have hoA := hown3.other hr2 (by omega) (by decide) (by decide) 0 (.string ⟨rn.toArray⟩)
      simp only [List.setIfInBounds_toArray, List.set_cons_zero] at hA
      have hB := hA.put 1 (.slice b2 RL c2)
      have hoB := hoA.other hA (by omega) (by decide) (by decide) 1 (.slice b2 RL c2)
      simp only [List.setIfInBounds_toArray, List.set_cons_succ, List.set_cons_zero] at hB
      have hbB : Below w.heap.size w ((w2.setCell ⟨w.heap.size + 1, 0, none⟩ (.string ⟨rn.toArray⟩)).setCell ⟨w.heap.size + 1, 1, none⟩ (.slice b2 RL c2)) := (hz2.setCell (p := ⟨w.heap.size + 1, 0, none⟩) (by show w.heap.size ≤ w.heap.size + 1; omega) _).setCell (p := ⟨w.heap.size + 1, 1, none⟩) (by show w.heap.size ≤ w.heap.size + 1; omega) _
      have y0 := hB.cell 0
      have y1 := hB.cell 1
      simp only [List.getElem?_toArray, List.getElem?_cons_zero, List.getElem?_cons_succ] at y0 y1
      clear hw hr e0 e1 hdn
      go_wp2_with fail
      (try simp only [Exit.inBlock, Exit.then])
      refine bodyPost_ret (v := .tuple #[.agg #[.string ⟨rn.toArray⟩, .slice b2 RL c2], .int .i64 rc]) ?_ rfl ⟨_, rfl, hoB, hbB⟩
      clear hA hoA hB hoB hbB hown2 hown3 hr2 hz2 hrow
      generalize (w2.setCell ⟨w.heap.size + 1, 0, none⟩ (.string ⟨rn.toArray⟩)).setCell ⟨w.heap.size + 1, 1, none⟩ (.slice b2 RL c2) = wf at *
      rw [results_cell_tmp rfl]
      go_simp
end Go.Proofs.YtmnhgbkdahdoiaaGreatDoor
