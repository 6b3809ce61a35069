/- Part of the proof of EntryModifies, shaken. Conditions: those that each theorem states. -/
import Derived.Test.YtmnhgbkdahdoiaaGreatDoorKMoe
import Derived.Test.YtmnhgbkdahdoiaaGreatDoorMMoc
namespace Go.Proofs.YtmnhgbkdahdoiaaGreatDoor
open Go.RowKit
attribute [local go_sem ↓] Go.wp_at_zero Go.wp_at_succ
set_option maxRecDepth 100000 in
set_option maxHeartbeats 4000000 in
theorem entrymodifies_c (name : List UInt8) (u : Value) (xs : List EnS.At) (cs : List EnS.Ch) (vc : Value) (w : World) (h : AttrsIn w u xs) (hT : ∀ a ∈ xs, a.typ.length ≤ 1048576) (hN : EnS.cE ⟨name, xs⟩ ≤ 1048576) (hvc : ChgsIn w vc cs) (hcT : ∀ c ∈ cs, c.typ.length ≤ 1048576) (hcN : EnS.sumBy EnS.cC cs ≤ 1048576) (hE : Env w) :
    Calls Tryz.prog 3 #[.agg #[.string ⟨name.toArray⟩, u], vc] w (True_ w) := by
  have HIN := Lib.hid (fun W (hb : Below w.heap.size w W) => AttrsE.callT (AttrsP.exp (AttrsP.base h [9])) hb)
  have HAI := Lib.hid (fun W (hb : Below w.heap.size w W) => AttrsP.call h hb)
  have HCI := Lib.hid (fun W (hb : Below w.heap.size w W) => ChgsP.call hvc hb)
  have HEN := Lib.hid (fun W (hb : Below w.heap.size w W) => hE.below hb)
  have hfew := fun W (hb : Below w.heap.size w W) => few09_c (.slice (some ⟨W.heap.size, 0, none⟩) 1 1) [⟨name, xs⟩] _ (ens_one (name := name) (AttrsP.call h hb)) (by show EnS.cE ⟨name, xs⟩ + 0 ≤ _; simpa using hN)
  unfold FewRet9 at hfew
  have hfc := fun W hb => fewch_c vc cs W (ChgsP.call hvc hb) hcN
  unfold FewRetC at hfc
  have HCF := Lib.hid (fun h => cost_fit (xs := [⟨name, xs⟩]) h)
  have HCG := Lib.hid (fun h => EnS.chg_fit (cs := cs) h)
  obtain ⟨a, c, rfl, hc⟩ := SliceP.form h
  obtain ⟨ca, cc, rfl, hcc⟩ := SliceP.form hvc
  have hg0 := grow1 w (.cells #[.string ⟨name.toArray⟩, .slice a xs.length c] 24)
  have hw0 := Whole.made w 24 #[.string ⟨name.toArray⟩, .slice a xs.length c]
  clear h hN hvc hcN
  go_enter Tryz.func3, Tryz.ntmps3
  go_wp2_with fail
  refine (awake09_c _ (HEN.out _ hg0)).mono ?_; rintro e w1 ⟨rfl, hb1⟩
  have hz1 := below_trans hg0 hb1
  have hw1 := hw0.call hb1
  have hf1 := hfew _ hz1
  have hgA := grow1 w1 (.cells #[.string ⟨name.toArray⟩, .slice a xs.length c] 24)
  have hzA := below_trans hz1 hgA
  have q0 := hw1.cell 0
  have q1 := hw1.cell 1
  simp only [List.getElem?_toArray, List.getElem?_cons_zero, List.getElem?_cons_succ] at q0 q1
  clear hE hfew hw0
  go_wp2_with fail
  refine hf1.mono ?_; rintro e w2 ⟨b, rfl, hok, hb2⟩
  have hz2 := below_trans hzA hb2
  have hw2 := (hw1.call hgA).call hb2
  clear hf1 hzA hb1 hb2 hgA hw1 hz1 hg0 q0 q1
  cases b with
  | false =>
    clear hok hw2
    go_wp2_with fail
    refine (awake09_c _ (HEN.out _ hz2)).mono ?_; rintro e w9 ⟨rfl, hb9⟩
    go_wp2_with fail
    go_ret
    exact ⟨rfl, below_trans hz2 hb9⟩
  | true =>
  have HOK1 := Lib.hid (hok rfl)
  have hf2 := hfc _ hz2
  clear hfc hok
  go_wp2_with fail
  refine hf2.mono ?_; rintro e w3 ⟨b, rfl, hok2, hb3⟩
  have hz3 := below_trans hz2 hb3
  have hw3 := hw2.call hb3
  clear hf2 hz2 hw2
  cases b with
  | false =>
    clear hok2 hw3 HOK1
    go_wp2_with fail
    refine (awake09_c _ (HEN.out _ hz3)).mono ?_; rintro e w9 ⟨rfl, hb9⟩
    go_wp2_with fail
    go_ret
    exact ⟨rfl, below_trans hz3 hb9⟩
  | true =>
  have hfe := (HCF.out HOK1.out).2 _ (List.mem_singleton.2 rfl)
  simp only at hfe
  have hcg := HCG.out (hok2 rfl)
  have hcp := fun W hb => enrefcopy_c w.heap.size name xs (.slice a xs.length c) W (Below.size hb) (HAI.out W hb) hfe.2
  unfold CopyRet at hcp
  have hmk := fun W hb => enmodify_c w.heap.size name xs (.slice a xs.length c) cs (.slice ca cs.length cc) W (Below.size hb) (HIN.out W hb) hfe.2 hT hfe.1 (HCI.out W hb) (by omega) (fun c hc => ⟨hcT c hc, hcg.2.1 c hc⟩) (by omega) (HEN.out W hb)
  have hrm := fun W hb => refmodify_c w.heap.size name xs (.slice a xs.length c) cs (.slice ca cs.length cc) W (Below.size hb) (HIN.out W hb) hfe.2 hT hfe.1 (HCI.out W hb) (by omega) (fun c hc => ⟨hcT c hc, hcg.2.1 c hc⟩) (by omega) (HEN.out W hb)
  unfold MakeRet at hmk hrm
  have hft := modify_fit (e := ⟨name, xs⟩) (cs := cs) hfe.2 hcg.2.1 (by omega)
  have HFO := Lib.hid (fun f h => EnS.modify_formed_up (e := ⟨name, xs⟩) (cs := cs) (f := f) h)
  have HS2 := Lib.hid (fun u1 u2 W h1 h2 => same09_c name xs u1 u2 W h1 h2 hfe.2.1 (fun x hx => (hfe.2.2 x hx).1))
  unfold True_ at HS2
  have q0 := hw3.cell 0
  have q1 := hw3.cell 1
  simp only [List.getElem?_toArray, List.getElem?_cons_zero, List.getElem?_cons_succ] at q0 q1
  clear HOK1 hok2 HCF HCG hfe hcg hT hcT HIN HCI
  generalize EnS.modifyS EnS.upS ⟨name, xs⟩ cs = R at *
  obtain ⟨⟨rn, ra⟩, rc⟩ := R
  simp only at hmk hrm hft
  obtain ⟨hfa, hrn⟩ := hft
  obtain ⟨RL, hRL⟩ : ∃ n, ra.length = n := ⟨_, rfl⟩
  obtain ⟨YL, hYL⟩ : ∃ n, xs.length = n := ⟨_, rfl⟩
  rw [hYL] at hcp hmk hrm q1 hw3 HAI
  generalize cs.length = CL at *
  go_wp2_with fail
  refine (hcp _ hz3).mono ?_; rintro e w4 ⟨u4, rfl, ho4, hb4⟩
  have hz4 := below_trans hz3 hb4
  have hw4 := hw3.call hb4
  obtain ⟨a4, c4, rfl⟩ := ho4.form
  rw [hYL] at ho4 ⊢
  have hgK := grow1 w4 (.cells #[.string ⟨name.toArray⟩, .slice a4 YL c4] 24)
  have hwK := Whole.made w4 24 #[.string ⟨name.toArray⟩, .slice a4 YL c4]
  have hzK := below_trans hz4 hgK
  have hk1 := ho4.attrs.call hgK
  have hw5 := hw4.call hgK
  have q0 := hw5.cell 0
  have q1 := hw5.cell 1
  simp only [List.getElem?_toArray, List.getElem?_cons_zero, List.getElem?_cons_succ] at q0 q1
  clear hcp ho4 hw3 hw4 hz3 hz4 hb4
  go_wp2_with fail
  refine (hmk _ hzK).mono ?_; rintro e w6 ⟨u6, rfl, ho6, hb6⟩
  have hz6 := below_trans hzK hb6
  have hw6 := hw5.call hb6
  have hk2 := hk1.call hb6
  have hwK2 := hwK.call hb6
  obtain ⟨a6, c6, rfl⟩ := ho6.form
  rw [hRL] at ho6 ⊢
  have hgB := grow1 w6 (.cells #[.string ⟨rn.toArray⟩, .slice a6 RL c6] 24)
  have hwB := Whole.made w6 24 #[.string ⟨rn.toArray⟩, .slice a6 RL c6]
  have hzB := below_trans hz6 hgB
  have hi6 := ho6.attrs.call hgB
  have hw7 := hw6.call hgB
  have hk3 := hk2.call hgB
  have hwK3 := hwK2.call hgB
  have x0 := hw7.cell 0
  have x1 := hw7.cell 1
  simp only [List.getElem?_toArray, List.getElem?_cons_zero, List.getElem?_cons_succ] at x0 x1
  clear hmk ho6 hw5 hw6 q0 q1 hk1 hk2 hwK hwK2 hzK hz6 hb6
  go_wp2_with fail
  refine (hrm _ hzB).mono ?_; rintro e w8 ⟨u8, rfl, ho8, hb8⟩
  have hz8 := below_trans hzB hb8
  have hi8 := hi6.call hb8
  have hwB8 := hwB.call hb8
  have hw8 := hw7.call hb8
  have hk4 := hk3.call hb8
  have hwK4 := hwK3.call hb8
  obtain ⟨a8, c8, rfl⟩ := ho8.form
  rw [hRL] at ho8 ⊢
  have hgC := grow1 w8 (.cells #[.string ⟨rn.toArray⟩, .slice a8 RL c8] 24)
  have hwC := Whole.made w8 24 #[.string ⟨rn.toArray⟩, .slice a8 RL c8]
  have hzC := below_trans hz8 hgC
  have hi9 := hi8.call hgC
  have hj9 := ho8.attrs.call hgC
  have hwB9 := hwB8.call hgC
  have hw9 := hw8.call hgC
  have hk5 := hk4.call hgC
  have hwK5 := hwK4.call hgC
  have q0 := hwB9.cell 0
  have q1 := hwB9.cell 1
  have r0 := hwC.cell 0
  have r1 := hwC.cell 1
  simp only [List.getElem?_toArray, List.getElem?_cons_zero, List.getElem?_cons_succ] at q0 q1 r0 r1
  have hsa := same09_c rn ra (.slice a6 RL c6) (.slice a8 RL c8) _ hi9 hj9 hfa.1 (fun x hx => (hfa.2 x hx).1)
  unfold True_ at hsa
  clear hrm ho8 hwB hi6 hi8 hwB8 hj9 hwC hw7 hw8 hk3 hk4 hwK3 hwK4 x0 x1 hzB hz8 hb8
  go_wp2_with fail
  refine hsa.mono ?_; rintro e w10 ⟨rfl, hb10⟩
  have hz10 := below_trans hzC hb10
  have hi10 := hi9.call hb10
  have s0 := keepC q0 hb10
  have s1 := keepC q1 hb10
  have hw10 := hw9.call hb10
  have hk6 := hk5.call hb10
  have hwK6 := hwK5.call hb10
  have y0 := hw10.cell 0
  have y1 := hw10.cell 1
  have z0 := hwK6.cell 0
  have z1 := hwK6.cell 1
  simp only [List.getElem?_toArray, List.getElem?_cons_zero, List.getElem?_cons_succ] at y0 y1 z0 z1
  have hsb := HS2.out (.slice a YL c) (.slice a4 YL c4) w10 (HAI.out _ hz10) hk6
  clear hsa hi9 hw9 hk5 hwK5 hw10 hk6 hwK6 HS2 HAI q0 q1 r0 r1
  go_wp2_with fail
  refine hsb.mono ?_; rintro e w11 ⟨rfl, hb11⟩
  have hz11 := below_trans hz10 hb11
  have hi11 := hi10.call hb11
  have q0 := keepC s0 hb11
  have q1 := keepC s1 hb11
  clear hsb hi10 s0 s1 y0 y1 z0 z1
  by_cases hrc : rc = 0
  · subst hrc
    have hfo := HFO.out _ rfl
    have hfm := enformed_c rn ra (.slice a6 RL c6) _ (HEN.out _ hz11) hi11 hfa (by omega) (fun x hx => by
      have h1 := (EnS.formedA_each (EnS.formed_parts hfo).2.2 x hx).1
      have h2 := EnS.type_len x.typ
      rw [h1] at h2
      omega)
    rw [hfo] at hfm
    unfold NmBool at hfm
    clear HFO hfo hi11 hfa
    go_wp2_with fail
    refine hfm.mono ?_; rintro e w12 ⟨rfl, hb12⟩
    go_wp2_with fail
    go_ret
    exact ⟨rfl, below_trans hz11 hb12⟩
  · have hez : (rc != 0) = true := by simpa using hrc
    clear HFO hrc hi11
    go_wp2_with fail
    go_ret
    exact ⟨rfl, hz11⟩
theorem lawentrymodifies_c (u vc : Value) (e : EnS.En) (cs : List EnS.Ch) (w : World) (h : AttrsIn w u e.attrs) (hO : EnOf 1048576 e) (hN : EnS.cE e ≤ 1048576) (hvc : ChgsIn w vc cs) (hcO : ∀ c ∈ cs, ChOf 1048576 c) (hcN : EnS.sumBy EnS.cC cs ≤ 1048576) (hE : Env w) :
    Calls Tryz.prog 3 #[enV e.name u, vc] w (True_ w) := by
  obtain ⟨name, xs⟩ := e
  exact entrymodifies_c name u xs cs vc w h (fun a ha => (hO.2.2 a ha).1) hN hvc (fun c hc => (hcO c hc).1) hcN hE
end Go.Proofs.YtmnhgbkdahdoiaaGreatDoor
