/- The walk of the law EntryUndoes. Conditions: the arguments' sizes are at most 1048576 in all; the library's variables are laid. -/
import Derived.Test.YtmnhgbkdahdoiaaGreatDoorMMoe
import Derived.Test.YtmnhgbkdahdoiaaGreatDoorMTai
namespace Go.Proofs.YtmnhgbkdahdoiaaGreatDoor
open Go.RowKit
attribute [local go_sem ↓] Go.wp_at_zero Go.wp_at_succ

theorem vals_20 {name nm : List UInt8} {xs : List EnS.At} (hf : EnS.formedE ⟨name, xs⟩ = true) (hx : FitA xs) : (EnS.valuesS ⟨name, xs⟩ nm).length ≤ 20 ∧ ∀ v ∈ EnS.valuesS ⟨name, xs⟩ nm, v.length ≤ 1000000 := by
  unfold EnS.valuesS
  split
  · exact ⟨by simp, fun v hv => by cases hv⟩
  · have h1 := EnS.formed_sound2 hf
    have hq : EnS.FitQ 20 xs := fun a ha => ⟨h1.2 a ha, (hx.2 a ha).2⟩
    exact hq.values _
set_option maxRecDepth 100000 in
set_option maxHeartbeats 8000000 in
theorem entryundoes_c (name : List UInt8) (u : Value) (xs : List EnS.At) (nm v : List UInt8) (w : World) (h : AttrsIn w u xs) (hT : ∀ a ∈ xs, a.typ.length ≤ 1048576) (hN : EnS.cE ⟨name, xs⟩ ≤ 1048576) (hs1 : nm.length ≤ 1048576) (hs2 : v.length ≤ 1048576) (hE : Env w) :
    Calls Tryz.prog 4 #[.agg #[.string ⟨name.toArray⟩, u], .string ⟨nm.toArray⟩, .string ⟨v.toArray⟩] w (True_ w) := by
  have HIN := Lib.hid (fun W (hb : Below w.heap.size w W) => AttrsE.callT (AttrsP.exp (AttrsP.base h [9])) hb)
  have HAI := Lib.hid (fun W (hb : Below w.heap.size w W) => AttrsP.call h hb)
  have HEN := Lib.hid (fun W (hb : Below w.heap.size w W) => hE.below hb)
  have hfew := fun W (hb : Below w.heap.size w W) => few09_c (.slice (some ⟨W.heap.size, 0, none⟩) 1 1) [⟨name, xs⟩] _ (ens_one (name := name) (AttrsP.call h hb)) (by show EnS.cE ⟨name, xs⟩ + 0 ≤ _; simpa using hN)
  unfold FewRet9 at hfew
  have HCF := Lib.hid (fun h => cost_fit (xs := [⟨name, xs⟩]) h)
  obtain ⟨a, c, rfl, hc⟩ := SliceP.form h
  have hg0 := grow1 w (.cells #[.string ⟨name.toArray⟩, .slice a xs.length c] 24)
  have hw0 := Whole.made w 24 #[.string ⟨name.toArray⟩, .slice a xs.length c]
  clear h hN
  go_enter Tryz.func4, Tryz.ntmps4
  go_wp2_with fail
  refine (awake09_c _ (HEN.out _ hg0)).mono ?_; rintro e w1 ⟨rfl, hb1⟩
  have hz1 := below_trans hg0 hb1
  have hw1 := hw0.call hb1
  have hf1 := hfew _ hz1
  have hgA := grow1 w1 (.cells #[.string ⟨name.toArray⟩, .slice a xs.length c] 24)
  have hzA := below_trans hz1 hgA
  have q0 := hw1.cell 0
  have q1 := hw1.cell 1
  simp only [List.getElem?_toArray, List.getElem?_cons_zero, List.getElem?_cons_succ] at q0 q1
  clear hE hfew hw0
  go_wp2_with fail
  refine hf1.mono ?_; rintro e w2 ⟨b, rfl, hok, hb2⟩
  have hz2 := below_trans hzA hb2
  have hw2 := (hw1.call hgA).call hb2
  clear hf1 hzA hb1 hb2 hgA hw1 hz1 hg0 q0 q1
  cases b with
  | false =>
    clear hok hw2
    go_wp2_with fail
    refine (awake09_c _ (HEN.out _ hz2)).mono ?_; rintro e w9 ⟨rfl, hb9⟩
    go_wp2_with fail
    go_ret
    exact ⟨rfl, below_trans hz2 hb9⟩
  | true =>
  have HOK1 := Lib.hid (hok rfl)
  clear hok
  by_cases h3 : 3000 < nm.length + v.length
  · have h3i : decide ((3000 : Int) < (nm.length : Int) + (v.length : Int)) = true := decide_eq_true (by omega)
    clear HOK1 hw2
    go_wp2_with fail
    refine (awake09_c _ (HEN.out _ hz2)).mono ?_; rintro e w9 ⟨rfl, hb9⟩
    go_wp2_with fail
    go_ret
    exact ⟨rfl, below_trans hz2 hb9⟩
  have h3i : decide ((3000 : Int) < (nm.length : Int) + (v.length : Int)) = false := decide_eq_false (by omega)
  have hfe := (HCF.out HOK1.out).2 _ (List.mem_singleton.2 rfl)
  simp only at hfe
  have hfm := enrefformed_c name xs (.slice a xs.length c) w2 (HEN.out _ hz2) (HAI.out _ hz2) hfe.2 hfe.1 hT
  unfold NmBool at hfm
  have q0 := hw2.cell 0
  have q1 := hw2.cell 1
  simp only [List.getElem?_toArray, List.getElem?_cons_zero, List.getElem?_cons_succ] at q0 q1
  obtain ⟨fb, hfb⟩ : ∃ b, EnS.formedE ⟨name, xs⟩ = b := ⟨_, rfl⟩
  rw [hfb] at hfm
  clear HOK1 HCF
  go_wp2_with fail
  refine hfm.mono ?_; rintro e w3 ⟨rfl, hb3⟩
  have hz3 := below_trans hz2 hb3
  have hw3 := hw2.call hb3
  clear hfm hw2 hz2 q0 q1
  cases fb with
  | false =>
    clear hw3 hfb hfe
    go_wp2_with fail
    refine (awake09_c _ (HEN.out _ hz3)).mono ?_; rintro e w9 ⟨rfl, hb9⟩
    go_wp2_with fail
    go_ret
    exact ⟨rfl, below_trans hz3 hb9⟩
  | true =>
  have hmk := fun W hb vc hvc => enmodify_c w.heap.size name xs (.slice a xs.length c) [⟨0, nm, [v]⟩] vc W (Below.size hb) (HIN.out W hb) hfe.2 hT hfe.1 hvc (by simp) (fun c hc => by rw [List.mem_singleton] at hc; subst hc; exact ⟨hs1, fun z hz => by rw [List.mem_singleton] at hz; subst hz; omega⟩) (by show 1 + 0 ≤ _; omega) (HEN.out W hb)
  unfold MakeRet at hmk
  have hft := modify_fit (e := ⟨name, xs⟩) (cs := [⟨0, nm, [v]⟩]) hfe.2 (fun c hc => by rw [List.mem_singleton] at hc; subst hc; exact fun z hz => by rw [List.mem_singleton] at hz; subst hz; omega) (by show 1 + 0 ≤ _; omega)
  have HNO := Lib.hid (fun f c h k => EnS.modify_none (up := EnS.upS) (e := ⟨name, xs⟩) (cs := [⟨0, nm, [v]⟩]) (f := f) (c := c) h k)
  have HFO := Lib.hid (fun f h => EnS.modify_formed_up (e := ⟨name, xs⟩) (cs := [⟨0, nm, [v]⟩]) (f := f) h)
  have HUN := Lib.hid (fun f h => EnS.modify_undo_up (e := ⟨name, xs⟩) (f := f) (name := nm) (v := v) hfb h)
  have hv20 := vals_20 (nm := nm) hfb hfe.2
  have hvl := fun W hb => refvalues_c name xs (.slice a xs.length c) nm W (HAI.out W hb) hfe.2 hs1
  unfold OwnRet at hvl
  have HSE := Lib.hid (fun u1 W hb h1 => same09_c name xs u1 (.slice a xs.length c) W h1 (HAI.out W hb) hfe.2.1 (fun x hx => (hfe.2.2 x hx).1))
  unfold True_ at HSE
  have q0 := hw3.cell 0
  have q1 := hw3.cell 1
  simp only [List.getElem?_toArray, List.getElem?_cons_zero, List.getElem?_cons_succ] at q0 q1
  clear hfe hT HIN HAI hfb
  generalize EnS.modifyS EnS.upS ⟨name, xs⟩ [⟨0, nm, [v]⟩] = R at *
  obtain ⟨⟨rn, ra⟩, rc⟩ := R
  simp only at hmk hft
  obtain ⟨hfa, hrn⟩ := hft
  obtain ⟨RL, hRL⟩ : ∃ n, ra.length = n := ⟨_, rfl⟩
  generalize EnS.valuesS ⟨name, xs⟩ nm = V at *
  obtain ⟨YL, hYL⟩ : ∃ n, xs.length = n := ⟨_, rfl⟩
  rw [hYL] at hmk hvl HSE q1 hw3
  -- the value, the change, the row of it
  have s1 := alloc_size w3 (.cells #[.string ⟨v.toArray⟩] 9)
  have hg1 := grow1 w3 (.cells #[.string ⟨v.toArray⟩] 9)
  have ho1 := strs_one (Whole.made w3 9 #[.string ⟨v.toArray⟩])
  obtain ⟨W1, hW1⟩ : ∃ x, x = w3.alloc (.cells #[.string ⟨v.toArray⟩] 9) := ⟨_, rfl⟩
  rw [← hW1] at s1 hg1 ho1
  have s2 := alloc_size W1 (.cells #[.int .i64 0, .string ⟨nm.toArray⟩, .slice (some ⟨w3.heap.size, 0, none⟩) 1 1] 39)
  have hg2 := grow1 W1 (.cells #[.int .i64 0, .string ⟨nm.toArray⟩, .slice (some ⟨w3.heap.size, 0, none⟩) 1 1] 39)
  have hc2 := Whole.made W1 39 #[.int .i64 0, .string ⟨nm.toArray⟩, .slice (some ⟨w3.heap.size, 0, none⟩) 1 1]
  obtain ⟨W2, hW2⟩ : ∃ x, x = W1.alloc (.cells #[.int .i64 0, .string ⟨nm.toArray⟩, .slice (some ⟨w3.heap.size, 0, none⟩) 1 1] 39) := ⟨_, rfl⟩
  rw [← hW2] at s2 hg2 hc2
  rw [s1] at s2 hc2
  have s3 := alloc_size W2 (.cells #[.int .i64 0, .string ⟨nm.toArray⟩, .slice (some ⟨w3.heap.size, 0, none⟩) 1 1] 39)
  have hg3 := grow1 W2 (.cells #[.int .i64 0, .string ⟨nm.toArray⟩, .slice (some ⟨w3.heap.size, 0, none⟩) 1 1] 39)
  have hc3 := Whole.made W2 39 #[.int .i64 0, .string ⟨nm.toArray⟩, .slice (some ⟨w3.heap.size, 0, none⟩) 1 1]
  obtain ⟨W3, hW3⟩ : ∃ x, x = W2.alloc (.cells #[.int .i64 0, .string ⟨nm.toArray⟩, .slice (some ⟨w3.heap.size, 0, none⟩) 1 1] 39) := ⟨_, rfl⟩
  rw [← hW3] at s3 hg3 hc3
  rw [s2] at s3 hc3
  have ho3 := (ho1.call hg2 (Nat.le_refl _)).call hg3 (Nat.le_refl _)
  have hb23 := hg2.trans (hg3.mono hg2.size)
  have hb13 := hg1.trans (hb23.mono hg1.size)
  have hzW := hz3.trans (hb13.mono hz3.size)
  have hcs := chg_one hc3 ho3
  have hwE := hw3.call hb13
  have hcA := hc2.call hg3
  have d0 := hc2.cell 0
  have d1 := hc2.cell 1
  have d2 := hc2.cell 2
  have p0 := hwE.cell 0
  have p1 := hwE.cell 1
  have p0' := (hw3.call (hg1.trans (hg2.mono hg1.size))).cell 0
  have p1' := (hw3.call (hg1.trans (hg2.mono hg1.size))).cell 1
  simp only [List.getElem?_toArray, List.getElem?_cons_zero, List.getElem?_cons_succ] at d0 d1 d2 p0 p1 p0' p1'
  have hm1 := hmk W3 hzW _ hcs
  have hzz3 : W3.heap.size = w3.heap.size + 3 := by rw [s3]
  clear hmk hcs hc3 hw3 hg1 hg2 hg3 hb23 hb13 ho1 s1 s2 s3 hz3
  subst hW3
  subst hW2
  subst hW1
  go_wp2_with fail
  refine hm1.mono ?_; rintro e w5 ⟨u5, rfl, ho5, hb5⟩
  have hz5 := hzW.trans (hb5.mono hzW.size)
  have hwE5 := hwE.call hb5
  have hcA5 := hcA.call hb5
  have ho35 := ho3.call hb5 (Nat.le_refl _)
  obtain ⟨a5, c5, rfl⟩ := ho5.form
  rw [hRL] at ho5 ⊢
  have hgF := grow1 w5 (.cells #[.string ⟨rn.toArray⟩, .slice a5 RL c5] 24)
  have hwF := Whole.made w5 24 #[.string ⟨rn.toArray⟩, .slice a5 RL c5]
  have hzF := hz5.trans (hgF.mono hz5.size)
  have hiF := (ho5.call hgF).attrsE
  have hwEF := hwE5.call hgF
  have hcAF := hcA5.call hgF
  have hoVF := ho35.call hgF (Nat.le_refl _)
  have sF := alloc_size w5 (.cells #[.string ⟨rn.toArray⟩, .slice a5 RL c5] 24)
  have x0 := hwF.cell 0
  have x1 := hwF.cell 1
  simp only [List.getElem?_toArray, List.getElem?_cons_zero, List.getElem?_cons_succ] at x0 x1
  have hlt5 : w3.heap.size + 1 < w5.heap.size := hcA5.lt
  clear hm1 ho5 hwE hcA ho3 hz5 hzW hwE5 hcA5 ho35 p0 p1 p0' p1' d0 d1 d2 hzz3
  by_cases hrc : rc = 0
  case neg =>
    have hez : (rc != 0) = true := by simpa using hrc
    have hnil := HNO.out ⟨rn, ra⟩ rc rfl hrc
    have hR0 : RL = 0 := by
      have h1 : ra = [] := hnil
      rw [← hRL, h1]; rfl
    subst hR0
    clear HNO HFO HUN hvl HSE hrc hnil
    go_wp2_with fail
    go_ret
    exact ⟨rfl, hzF⟩
  subst hrc
  have hfo := HFO.out _ rfl
  obtain ⟨hhas, hun1, hun2⟩ := HUN.out _ rfl
  have htyp : ∀ x ∈ ra, x.typ.length ≤ 1048576 := fun x hx => by
    have h1 := (EnS.formedA_each (EnS.formed_parts hfo).2.2 x hx).1
    have h2 := EnS.type_len x.typ
    rw [h1] at h2
    omega
  have HM2 := Lib.hid (fun W (hb : Below w.heap.size w W) vc (h1 : AttrsE [9] w.heap.size W (.slice a5 RL c5) ra) hvc => enmodify_c w.heap.size rn ra (.slice a5 RL c5) [⟨1, nm, [v]⟩] vc W (Below.size hb) h1 hfa htyp (by omega) hvc (by simp) (fun c hc => by rw [List.mem_singleton] at hc; subst hc; exact ⟨hs1, fun z hz => by rw [List.mem_singleton] at hz; subst hz; omega⟩) (by show 1 + 0 ≤ _; omega) (HEN.out W hb))
  have HM3 := Lib.hid (fun W (hb : Below w.heap.size w W) vc (h1 : AttrsE [9] w.heap.size W (.slice a5 RL c5) ra) hvc => enmodify_c w.heap.size rn ra (.slice a5 RL c5) [⟨2, nm, V⟩] vc W (Below.size hb) h1 hfa htyp (by omega) hvc (by simp) (fun c hc => by rw [List.mem_singleton] at hc; subst hc; exact ⟨hs1, hv20.2⟩) (by show V.length + 0 ≤ _; omega) (HEN.out W hb))
  unfold MakeRet at HM2 HM3
  rw [hun1] at HM2
  rw [hun2] at HM3
  simp only at HM2 HM3
  have HHA := Lib.hid (fun u W hE h => has_c rn ra u nm v W hE h hfa hs1 (by omega))
  rw [hhas] at HHA
  unfold NmBool at HHA
  obtain ⟨VL, hVL⟩ : ∃ n, V.length = n := ⟨_, rfl⟩
  clear HNO HFO HUN hfo hhas hun1 hun2 htyp
  -- the change once more, as one that deletes
  have p0 := hcAF.cell 0
  have p1 := hcAF.cell 1
  have p2 := hcAF.cell 2
  simp only [List.getElem?_toArray, List.getElem?_cons_zero, List.getElem?_cons_succ] at p0 p1 p2
  obtain ⟨F, hF⟩ : ∃ x, x = w5.alloc (.cells #[.string ⟨rn.toArray⟩, .slice a5 RL c5] 24) := ⟨_, rfl⟩
  rw [← hF] at sF hgF hwF hzF hiF hwEF hcAF hoVF x0 x1 p0 p1 p2
  have t1 := alloc_size F (.cells #[.int .i64 1, .string ⟨nm.toArray⟩, .slice (some ⟨w3.heap.size, 0, none⟩) 1 1] 39)
  have k1 := grow1 F (.cells #[.int .i64 1, .string ⟨nm.toArray⟩, .slice (some ⟨w3.heap.size, 0, none⟩) 1 1] 39)
  obtain ⟨G1, hG1⟩ : ∃ x, x = F.alloc (.cells #[.int .i64 1, .string ⟨nm.toArray⟩, .slice (some ⟨w3.heap.size, 0, none⟩) 1 1] 39) := ⟨_, rfl⟩
  rw [← hG1] at t1 k1
  rw [sF] at t1
  have t2 := alloc_size G1 (.cells #[.int .i64 1, .string ⟨nm.toArray⟩, .slice (some ⟨w3.heap.size, 0, none⟩) 1 1] 39)
  have k2 := grow1 G1 (.cells #[.int .i64 1, .string ⟨nm.toArray⟩, .slice (some ⟨w3.heap.size, 0, none⟩) 1 1] 39)
  have hc2 := Whole.made G1 39 #[.int .i64 1, .string ⟨nm.toArray⟩, .slice (some ⟨w3.heap.size, 0, none⟩) 1 1]
  obtain ⟨G2, hG2⟩ : ∃ x, x = G1.alloc (.cells #[.int .i64 1, .string ⟨nm.toArray⟩, .slice (some ⟨w3.heap.size, 0, none⟩) 1 1] 39) := ⟨_, rfl⟩
  rw [← hG2] at t2 k2 hc2
  rw [t1] at t2 hc2
  have k12 := k1.trans (k2.mono k1.size)
  have hzG2 := hzF.trans (k12.mono hzF.size)
  have hm2 := HM2.out G2 hzG2 _ (hiF.callT k12) (chg_one hc2 (hoVF.call k12 (Nat.le_refl _)))
  have hwF2 := hwF.call k12
  have hwE2 := hwEF.call k12
  have hiF2 := hiF.callT k12
  have y0 := (hwF.call k1).cell 0
  have y1 := (hwF.call k1).cell 1
  simp only [List.getElem?_toArray, List.getElem?_cons_zero, List.getElem?_cons_succ] at y0 y1
  clear HM2 hc2 t2 hoVF hcAF hiF hwF hwEF hzF
  subst hG2
  subst hG1
  subst hF
  go_wp2_with fail
  refine hm2.mono ?_; rintro e w6 ⟨u6, rfl, ho6, hb6⟩
  have hz6 := hzG2.trans (hb6.mono hzG2.size)
  have hwF6 := hwF2.call hb6
  have hwE6 := hwE2.call hb6
  have hiF6 := hiF2.callT hb6
  obtain ⟨a6, c6, rfl⟩ := ho6.form
  rw [hYL] at ho6 ⊢
  have hgG := grow1 w6 (.cells #[.string ⟨name.toArray⟩, .slice a6 YL c6] 24)
  have hwG := Whole.made w6 24 #[.string ⟨name.toArray⟩, .slice a6 YL c6]
  have hz7 := hz6.trans (hgG.mono hz6.size)
  have hiG := ho6.attrs.call hgG
  have hwF7 := hwF6.call hgG
  have hwE7 := hwE6.call hgG
  have hiF := hiF6.callT hgG
  clear hm2 ho6 hwF2 hwE2 hwF6 hwE6 hiF2 hiF6 hb6 hzG2 k1 k2 k12 t1 y0 y1 x0 x1 p0 p1 p2 sF
  go_wp2_with fail
  obtain ⟨w7, hw7⟩ : ∃ x, w6.alloc (.cells #[.string ⟨name.toArray⟩, .slice a6 YL c6] 24) = x := ⟨_, rfl⟩
  rw [hw7] at hwG hz7 hiG hwF7 hwE7 hiF ⊢
  obtain ⟨bG, hbG⟩ : ∃ x, w6.heap.size = x := ⟨_, rfl⟩
  rw [hbG] at hwG ⊢
  clear hw7 hbG hgG hz6
  have hbD : Below w7.heap.size w7 w7.drew := (Below.refl _ _).drew
  have e0 := hwE7.cell 0
  have e1 := hwE7.cell 1
  have e2 := hwF7.cell 0
  have e3 := hwF7.cell 1
  simp only [List.getElem?_toArray, List.getElem?_cons_zero, List.getElem?_cons_succ] at e0 e1 e2 e3
  obtain ⟨bF, hbF5⟩ : ∃ x, w5.heap.size = x := ⟨_, rfl⟩
  rw [hbF5] at e2 e3 hwF7 ⊢
  clear hbF5
  refine head_begin 14 (fun W => W.cell? ⟨w.heap.size, 0, none⟩ = some (.string ⟨name.toArray⟩) ∧ W.cell? ⟨w.heap.size, 1, none⟩ = some (.slice a YL c) ∧ W.cell? ⟨bF, 0, none⟩ = some (.string ⟨rn.toArray⟩) ∧ W.cell? ⟨bF, 1, none⟩ = some (.slice a5 RL c5)) (by kernel_rfl) (by kernel_rfl) ⟨e0, e1, e2, e3⟩ (fun hHeld => ?_)
  generalize w7.drew = wd at *
  refine head_take 0 ?_ (by simp only [List.length_cons, List.length_nil]; decide) (by kernel_rfl) (fun _ _ _ h => h) (by rfl) ?_ hHeld ?_
  rotate_left
  · intro W hSw; (try simp only [List.getElem_cons_zero]); (try go_split_ands); go_simp; (try with_reducible rfl)
  (try simp only [List.getElem_cons_zero, Act.put, List.setIfInBounds_toArray, List.set_cons_zero, List.set_cons_succ])
  refine head_take 1 ?_ (by simp only [List.length_cons, List.length_nil]; decide) (by kernel_rfl) (fun _ _ _ h => h) (by rfl) ?_ hHeld ?_
  rotate_left
  · intro W hSw; (try simp only [List.getElem_cons_succ, List.getElem_cons_zero]); (try go_split_ands); go_simp; (try with_reducible rfl)
  (try simp only [List.getElem_cons_succ, List.getElem_cons_zero, Act.put, List.setIfInBounds_toArray, List.set_cons_zero, List.set_cons_succ])
  refine head_take 2 ?_ (by simp only [List.length_cons, List.length_nil]; decide) (by kernel_rfl) (fun _ _ _ h => h) (by rfl) ?_ hHeld ?_
  rotate_left
  · intro W hSw; (try simp only [List.getElem_cons_succ, List.getElem_cons_zero]); (try go_split_ands); go_simp; (try with_reducible rfl)
  (try simp only [List.getElem_cons_succ, List.getElem_cons_zero, Act.put, List.setIfInBounds_toArray, List.set_cons_zero, List.set_cons_succ])
  refine head_take 3 ?_ (by simp only [List.length_cons, List.length_nil]; decide) (by kernel_rfl) (fun _ _ _ h => h) (by rfl) ?_ hHeld ?_
  rotate_left
  · intro W hSw; (try simp only [List.getElem_cons_succ, List.getElem_cons_zero]); (try go_split_ands); go_simp; (try with_reducible rfl)
  (try simp only [List.getElem_cons_succ, List.getElem_cons_zero, Act.put, List.setIfInBounds_toArray, List.set_cons_zero, List.set_cons_succ])
  refine head_two 4 12 (by simp only [List.length_cons, List.length_nil]; decide) (by simp only [List.length_cons, List.length_nil]; decide) (by kernel_rfl) (fun K hK => ?_) (fun K hK => ?_)
  · (try simp only [List.getElem_cons_succ, List.getElem_cons_zero])
    refine if_step (by rfl) ?_
    go_simp
    refine (hvl wd (hz7.trans (hbD.mono hz7.size))).mono ?_
    rintro e w8 ⟨v8, rfl, ho8, hb8⟩
    obtain ⟨a8, c8, rfl⟩ := ho8.form
    rw [hVL] at ho8 ⊢
    replace hbD := hbD.trans (hb8.mono hbD.size)
    clear hb8
    (try dsimp only)
    refine hK.out _ _ ?_ (fun hHeld => ?_)
    · exact ⟨keepC e0 hbD, keepC e1 hbD, keepC e2 hbD, keepC e3 hbD⟩
    clear hK K
    (try simp only [Act.put, List.setIfInBounds_toArray, List.set_cons_zero, List.set_cons_succ])
    refine head_take 5 ?_ (by simp only [List.length_cons, List.length_nil]; decide) (by kernel_rfl) (fun _ _ _ h => h) (by rfl) ?_ hHeld ?_
    rotate_left
    · intro W hSw; (try simp only [List.getElem_cons_succ, List.getElem_cons_zero]); (try go_split_ands); go_simp; (try with_reducible rfl)
    (try simp only [List.getElem_cons_succ, List.getElem_cons_zero, Act.put, List.setIfInBounds_toArray, List.set_cons_zero, List.set_cons_succ])
    refine head_take 6 ?_ (by simp only [List.length_cons, List.length_nil]; decide) (by kernel_rfl) (fun _ _ _ h => h) (by rfl) ?_ hHeld ?_
    rotate_left
    · intro W hSw; (try simp only [List.getElem_cons_succ, List.getElem_cons_zero]); (try go_split_ands); go_simp; (try with_reducible rfl)
    (try simp only [List.getElem_cons_succ, List.getElem_cons_zero, Act.put, List.setIfInBounds_toArray, List.set_cons_zero, List.set_cons_succ])
    refine head_two 7 12 (by simp only [List.length_cons, List.length_nil]; decide) (by simp only [List.length_cons, List.length_nil]; decide) (by kernel_rfl) (fun K hK => ?_) (fun K hK => ?_)
    · (try simp only [List.getElem_cons_succ, List.getElem_cons_zero])
      refine if_step (by rfl) ?_
      go_simp
      have hga := grow1 w8 (.cells #[.int .i64 2, .string ⟨nm.toArray⟩, .slice a8 VL c8] 39)
      have hC9 := Whole.made w8 39 #[.int .i64 2, .string ⟨nm.toArray⟩, .slice a8 VL c8]
      have ho8 := ho8.call hga
      replace hbD := hbD.trans (hga.mono hbD.size)
      clear hga
      generalize w8.alloc (.cells #[.int .i64 2, .string ⟨nm.toArray⟩, .slice a8 VL c8] 39) = w9 at *
      generalize w8.heap.size = b9 at *
      refine hK.out _ _ ?_ (fun hHeld => ?_)
      · exact ⟨keepC e0 hbD, keepC e1 hbD, keepC e2 hbD, keepC e3 hbD⟩
      clear hK K
      (try simp only [List.getElem_cons_succ, List.getElem_cons_zero, Act.put, List.setIfInBounds_toArray, List.set_cons_zero, List.set_cons_succ])
      refine head_two 8 12 (by simp only [List.length_cons, List.length_nil]; decide) (by simp only [List.length_cons, List.length_nil]; decide) (by kernel_rfl) (fun K hK => ?_) (fun K hK => ?_)
      · (try simp only [List.getElem_cons_succ, List.getElem_cons_zero])
        refine if_step (by rfl) ?_
        go_simp
        refine (HM3.out w9 (hz7.trans (hbD.mono hz7.size)) _ (hiF.callT hbD) (chg_one hC9 ho8.strs)).mono ?_
        rintro e w10 ⟨u10, rfl, ho10, hb10⟩
        obtain ⟨a10, c10, hv10⟩ := ho10.form
        rw [hYL] at hv10
        subst hv10
        replace hbD := hbD.trans (hb10.mono hbD.size)
        clear hb10
        (try dsimp only)
        refine hK.out _ _ ?_ (fun hHeld => ?_)
        · exact ⟨keepC e0 hbD, keepC e1 hbD, keepC e2 hbD, keepC e3 hbD⟩
        clear hK K
        (try simp only [Act.put, List.setIfInBounds_toArray, List.set_cons_zero, List.set_cons_succ])
        refine head_take 9 ?_ (by simp only [List.length_cons, List.length_nil]; decide) (by kernel_rfl) (fun _ _ _ h => h) (by rfl) ?_ hHeld ?_
        rotate_left
        · intro W hSw; (try simp only [List.getElem_cons_succ, List.getElem_cons_zero]); (try go_split_ands); go_simp; (try with_reducible rfl)
        (try simp only [List.getElem_cons_succ, List.getElem_cons_zero, Act.put, List.setIfInBounds_toArray, List.set_cons_zero, List.set_cons_succ])
        refine head_take 10 ?_ (by simp only [List.length_cons, List.length_nil]; decide) (by kernel_rfl) (fun _ _ _ h => h) (by rfl) ?_ hHeld ?_
        rotate_left
        · intro W hSw; (try simp only [List.getElem_cons_succ, List.getElem_cons_zero]); (try go_split_ands); go_simp; (try with_reducible rfl)
        (try simp only [List.getElem_cons_succ, List.getElem_cons_zero, Act.put, List.setIfInBounds_toArray, List.set_cons_zero, List.set_cons_succ])
        refine head_take 11 ?_ (by simp only [List.length_cons, List.length_nil]; decide) (by kernel_rfl) (fun _ _ _ h => h) (by rfl) ?_ hHeld ?_
        rotate_left
        · intro W hSw; (try simp only [List.getElem_cons_succ, List.getElem_cons_zero]); (try go_split_ands); go_simp; (try with_reducible rfl)
        (try simp only [List.getElem_cons_succ, List.getElem_cons_zero, Act.put, List.setIfInBounds_toArray, List.set_cons_zero, List.set_cons_succ])
        refine head_step 12 (by simp only [List.length_cons, List.length_nil]; decide) (by kernel_rfl) (fun K hK => ?_)
        (try simp only [List.getElem_cons_succ, List.getElem_cons_zero])
        refine if_step (by rfl) ?_
        go_simp
        have hX := Whole.made w10 24 #[.string ⟨#[]⟩, .slice none 0 0]
        have hga := grow1 w10 (.cells #[.string ⟨#[]⟩, .slice none 0 0] 24)
        have hgx : w7.heap.size ≤ w10.heap.size := hbD.size
        have ho10 := ho10.call hga
        replace hbD := hbD.trans (hga.mono hbD.size)
        clear hga
        generalize w10.alloc (.cells #[.string ⟨#[]⟩, .slice none 0 0] 24) = wx at *
        generalize w10.heap.size = bX at *
        refine hK.out _ _ ?_ (fun hHeld => ?_)
        · exact ⟨keepC e0 hbD, keepC e1 hbD, keepC e2 hbD, keepC e3 hbD⟩
        clear hK K
        (try simp only [List.getElem_cons_succ, List.getElem_cons_zero, Act.put, List.setIfInBounds_toArray, List.set_cons_zero, List.set_cons_succ])
        refine head_step 13 (by simp only [List.length_cons, List.length_nil]; decide) (by kernel_rfl) (fun K hK => ?_)
        (try simp only [List.getElem_cons_succ, List.getElem_cons_zero])
        refine if_step (by rfl) ?_
        have x0 := hX.cell 0
        have x1 := hX.cell 1
        have s0 := hX.thaw 0
        have s1 := hX.thaw 1
        simp only [List.getElem?_toArray, List.getElem?_cons_zero, List.getElem?_cons_succ] at x0 x1
        have hP := hX.put 0 (.string ⟨name.toArray⟩)
        have hgC : w.heap.size ≤ bX := Nat.le_trans hz7.size hgx
        have hoA := ho10.other hX hgC (by decide) (by decide) 0 (.string ⟨name.toArray⟩)
        simp only [List.setIfInBounds_toArray, List.set_cons_zero] at hP
        have hQ := hP.put 1 (.slice a10 YL c10)
        have hoB := hoA.other hP hgC (by decide) (by decide) 1 (.slice a10 YL c10)
        simp only [List.setIfInBounds_toArray, List.set_cons_succ, List.set_cons_zero] at hQ
        have hbF := (hbD.setCell (p := ⟨bX, 0, none⟩) hgx (.string ⟨name.toArray⟩)).setCell (p := ⟨bX, 1, none⟩) hgx (.slice a10 YL c10)
        go_simp
        refine hK.out _ _ ?_ (fun hHeld => ?_)
        · exact ⟨keepC e0 hbF, keepC e1 hbF, keepC e2 hbF, keepC e3 hbF⟩
        clear hK K
        (try simp only [List.getElem_cons_succ, List.getElem_cons_zero, Act.put, List.setIfInBounds_toArray, List.set_cons_zero, List.set_cons_succ])
        refine head_end (by kernel_rfl) ?_
        simp only [List.drop_succ_cons, List.drop_zero]
        generalize (wx.setCell ⟨bX, 0, none⟩ (.string ⟨name.toArray⟩)).setCell ⟨bX, 1, none⟩ (.slice a10 YL c10) = wf at *
        have hz8 := hz7.trans (hbF.mono hz7.size)
        have hiG11 := hiG.call hbF
        have hwG11 := hwG.call hbF
        have hiK := hoB.attrs
        have hwE11 := hwE7.call hbF
        have hwF11 := hwF7.call hbF
        have f0 := hwF11.cell 0
        have f1 := hwF11.cell 1
        simp only [List.getElem?_toArray, List.getElem?_cons_zero, List.getElem?_cons_succ] at f0 f1
        have hha := HHA.out (.slice a5 RL c5) wf (HEN.out _ hz8) (AttrsE.ins (hiF.callT hbF))
        clear hX hP hoA hoB ho10 HM3 hHeld hiG hwG hwE7 hwF7 hvl HHA hC9 ho8
        go_wp2_with fail
        refine hha.mono ?_; rintro e w12 ⟨rfl, hb12⟩
        have hz12 := below_trans hz8 hb12
        have hiG12 := hiG11.call hb12
        have hwG12 := hwG11.call hb12
        have hwE12 := hwE11.call hb12
        have hiK12 := hiK.call hb12
        have hQ12 := hQ.call hb12
        have g0 := hwG12.cell 0
        have g1 := hwG12.cell 1
        have k0 := hwE12.cell 0
        have k1 := hwE12.cell 1
        simp only [List.getElem?_toArray, List.getElem?_cons_zero, List.getElem?_cons_succ] at g0 g1 k0 k1
        have hsa := HSE.out (.slice a6 YL c6) w12 hz12 hiG12
        clear hha hiG11 hwG11 hwE11 hwF11 hiK hQ f0 f1
        go_wp2_with fail
        refine hsa.mono ?_; rintro e w13 ⟨rfl, hb13⟩
        have hz13 := below_trans hz12 hb13
        have hQ13 := hQ12.call hb13
        have hwE13 := hwE12.call hb13
        have m0 := hQ13.cell 0
        have m1 := hQ13.cell 1
        have n0 := hwE13.cell 0
        have n1 := hwE13.cell 1
        simp only [List.getElem?_toArray, List.getElem?_cons_zero, List.getElem?_cons_succ] at m0 m1 n0 n1
        have hsb := HSE.out (.slice a10 YL c10) w13 hz13 (hiK12.call hb13)
        clear hsa hiG12 hwG12 hwE12 hiK12 hQ12 g0 g1 k0 k1 HSE
        go_wp2_with fail
        refine hsb.mono ?_; rintro e w14 ⟨rfl, hb14⟩
        go_wp2_with fail
        go_ret
        exact ⟨rfl, below_trans hz13 hb14⟩
      · (try simp only [List.getElem_cons_succ, List.getElem_cons_zero])
        refine if_step (by rfl) ?_
        go_simp
        have hX := Whole.made w9 24 #[.string ⟨#[]⟩, .slice none 0 0]
        have hga := grow1 w9 (.cells #[.string ⟨#[]⟩, .slice none 0 0] 24)
        have hgx : w7.heap.size ≤ w9.heap.size := hbD.size
        have ho8 := ho8.call hga
        have hC9 := hC9.call hga
        replace hbD := hbD.trans (hga.mono hbD.size)
        clear hga
        generalize w9.alloc (.cells #[.string ⟨#[]⟩, .slice none 0 0] 24) = wx at *
        generalize w9.heap.size = bX at *
        refine hK.out _ _ ?_ (fun hHeld => ?_)
        · exact ⟨keepC e0 hbD, keepC e1 hbD, keepC e2 hbD, keepC e3 hbD⟩
        clear hK K
        (try simp only [List.getElem_cons_succ, List.getElem_cons_zero, Act.put, List.setIfInBounds_toArray, List.set_cons_zero, List.set_cons_succ])
        refine head_step 8 (by simp only [List.length_cons, List.length_nil]; decide) (by kernel_rfl) (fun K hK => ?_)
        (try simp only [List.getElem_cons_succ, List.getElem_cons_zero])
        refine if_step (by rfl) ?_
        go_simp
        refine (HM3.out wx (hz7.trans (hbD.mono hz7.size)) _ (hiF.callT hbD) (chg_one hC9 ho8.strs)).mono ?_
        rintro e w10 ⟨u10, rfl, ho10, hb10⟩
        obtain ⟨a10, c10, hv10⟩ := ho10.form
        rw [hYL] at hv10
        subst hv10
        have hX := hX.call hb10
        replace hbD := hbD.trans (hb10.mono hbD.size)
        clear hb10
        (try dsimp only)
        refine hK.out _ _ ?_ (fun hHeld => ?_)
        · exact ⟨keepC e0 hbD, keepC e1 hbD, keepC e2 hbD, keepC e3 hbD⟩
        clear hK K
        (try simp only [Act.put, List.setIfInBounds_toArray, List.set_cons_zero, List.set_cons_succ])
        refine head_take 9 ?_ (by simp only [List.length_cons, List.length_nil]; decide) (by kernel_rfl) (fun _ _ _ h => h) (by rfl) ?_ hHeld ?_
        rotate_left
        · intro W hSw; (try simp only [List.getElem_cons_succ, List.getElem_cons_zero]); (try go_split_ands); go_simp; (try with_reducible rfl)
        (try simp only [List.getElem_cons_succ, List.getElem_cons_zero, Act.put, List.setIfInBounds_toArray, List.set_cons_zero, List.set_cons_succ])
        refine head_take 10 ?_ (by simp only [List.length_cons, List.length_nil]; decide) (by kernel_rfl) (fun _ _ _ h => h) (by rfl) ?_ hHeld ?_
        rotate_left
        · intro W hSw; (try simp only [List.getElem_cons_succ, List.getElem_cons_zero]); (try go_split_ands); go_simp; (try with_reducible rfl)
        (try simp only [List.getElem_cons_succ, List.getElem_cons_zero, Act.put, List.setIfInBounds_toArray, List.set_cons_zero, List.set_cons_succ])
        refine head_take 11 ?_ (by simp only [List.length_cons, List.length_nil]; decide) (by kernel_rfl) (fun _ _ _ h => h) (by rfl) ?_ hHeld ?_
        rotate_left
        · intro W hSw; (try simp only [List.getElem_cons_succ, List.getElem_cons_zero]); (try go_split_ands); go_simp; (try with_reducible rfl)
        (try simp only [List.getElem_cons_succ, List.getElem_cons_zero, Act.put, List.setIfInBounds_toArray, List.set_cons_zero, List.set_cons_succ])
        refine head_step 13 (by simp only [List.length_cons, List.length_nil]; decide) (by kernel_rfl) (fun K hK => ?_)
        (try simp only [List.getElem_cons_succ, List.getElem_cons_zero])
        refine if_step (by rfl) ?_
        have x0 := hX.cell 0
        have x1 := hX.cell 1
        have s0 := hX.thaw 0
        have s1 := hX.thaw 1
        simp only [List.getElem?_toArray, List.getElem?_cons_zero, List.getElem?_cons_succ] at x0 x1
        have hP := hX.put 0 (.string ⟨name.toArray⟩)
        have hgC : w.heap.size ≤ bX := Nat.le_trans hz7.size hgx
        have hoA := ho10.other hX hgC (by decide) (by decide) 0 (.string ⟨name.toArray⟩)
        simp only [List.setIfInBounds_toArray, List.set_cons_zero] at hP
        have hQ := hP.put 1 (.slice a10 YL c10)
        have hoB := hoA.other hP hgC (by decide) (by decide) 1 (.slice a10 YL c10)
        simp only [List.setIfInBounds_toArray, List.set_cons_succ, List.set_cons_zero] at hQ
        have hbF := (hbD.setCell (p := ⟨bX, 0, none⟩) hgx (.string ⟨name.toArray⟩)).setCell (p := ⟨bX, 1, none⟩) hgx (.slice a10 YL c10)
        go_simp
        refine hK.out _ _ ?_ (fun hHeld => ?_)
        · exact ⟨keepC e0 hbF, keepC e1 hbF, keepC e2 hbF, keepC e3 hbF⟩
        clear hK K
        (try simp only [List.getElem_cons_succ, List.getElem_cons_zero, Act.put, List.setIfInBounds_toArray, List.set_cons_zero, List.set_cons_succ])
        refine head_end (by kernel_rfl) ?_
        simp only [List.drop_succ_cons, List.drop_zero]
        generalize (w10.setCell ⟨bX, 0, none⟩ (.string ⟨name.toArray⟩)).setCell ⟨bX, 1, none⟩ (.slice a10 YL c10) = wf at *
        have hz8 := hz7.trans (hbF.mono hz7.size)
        have hiG11 := hiG.call hbF
        have hwG11 := hwG.call hbF
        have hiK := hoB.attrs
        have hwE11 := hwE7.call hbF
        have hwF11 := hwF7.call hbF
        have f0 := hwF11.cell 0
        have f1 := hwF11.cell 1
        simp only [List.getElem?_toArray, List.getElem?_cons_zero, List.getElem?_cons_succ] at f0 f1
        have hha := HHA.out (.slice a5 RL c5) wf (HEN.out _ hz8) (AttrsE.ins (hiF.callT hbF))
        clear hX hP hoA hoB ho10 HM3 hHeld hiG hwG hwE7 hwF7 hvl HHA hC9 ho8
        go_wp2_with fail
        refine hha.mono ?_; rintro e w12 ⟨rfl, hb12⟩
        have hz12 := below_trans hz8 hb12
        have hiG12 := hiG11.call hb12
        have hwG12 := hwG11.call hb12
        have hwE12 := hwE11.call hb12
        have hiK12 := hiK.call hb12
        have hQ12 := hQ.call hb12
        have g0 := hwG12.cell 0
        have g1 := hwG12.cell 1
        have k0 := hwE12.cell 0
        have k1 := hwE12.cell 1
        simp only [List.getElem?_toArray, List.getElem?_cons_zero, List.getElem?_cons_succ] at g0 g1 k0 k1
        have hsa := HSE.out (.slice a6 YL c6) w12 hz12 hiG12
        clear hha hiG11 hwG11 hwE11 hwF11 hiK hQ f0 f1
        go_wp2_with fail
        refine hsa.mono ?_; rintro e w13 ⟨rfl, hb13⟩
        have hz13 := below_trans hz12 hb13
        have hQ13 := hQ12.call hb13
        have hwE13 := hwE12.call hb13
        have m0 := hQ13.cell 0
        have m1 := hQ13.cell 1
        have n0 := hwE13.cell 0
        have n1 := hwE13.cell 1
        simp only [List.getElem?_toArray, List.getElem?_cons_zero, List.getElem?_cons_succ] at m0 m1 n0 n1
        have hsb := HSE.out (.slice a10 YL c10) w13 hz13 (hiK12.call hb13)
        clear hsa hiG12 hwG12 hwE12 hiK12 hQ12 g0 g1 k0 k1 HSE
        go_wp2_with fail
        refine hsb.mono ?_; rintro e w14 ⟨rfl, hb14⟩
        go_wp2_with fail
        go_ret
        exact ⟨rfl, below_trans hz13 hb14⟩
    · (try simp only [List.getElem_cons_succ, List.getElem_cons_zero])
      refine if_step (by rfl) ?_
      go_simp
      have hX := Whole.made w8 24 #[.string ⟨#[]⟩, .slice none 0 0]
      have hga := grow1 w8 (.cells #[.string ⟨#[]⟩, .slice none 0 0] 24)
      have hgx : w7.heap.size ≤ w8.heap.size := hbD.size
      have ho8 := ho8.call hga
      replace hbD := hbD.trans (hga.mono hbD.size)
      clear hga
      generalize w8.alloc (.cells #[.string ⟨#[]⟩, .slice none 0 0] 24) = wx at *
      generalize w8.heap.size = bX at *
      refine hK.out _ _ ?_ (fun hHeld => ?_)
      · exact ⟨keepC e0 hbD, keepC e1 hbD, keepC e2 hbD, keepC e3 hbD⟩
      clear hK K
      (try simp only [List.getElem_cons_succ, List.getElem_cons_zero, Act.put, List.setIfInBounds_toArray, List.set_cons_zero, List.set_cons_succ])
      refine head_step 7 (by simp only [List.length_cons, List.length_nil]; decide) (by kernel_rfl) (fun K hK => ?_)
      (try simp only [List.getElem_cons_succ, List.getElem_cons_zero])
      refine if_step (by rfl) ?_
      go_simp
      have hga := grow1 wx (.cells #[.int .i64 2, .string ⟨nm.toArray⟩, .slice a8 VL c8] 39)
      have hC9 := Whole.made wx 39 #[.int .i64 2, .string ⟨nm.toArray⟩, .slice a8 VL c8]
      have ho8 := ho8.call hga
      have hX := hX.call hga
      replace hbD := hbD.trans (hga.mono hbD.size)
      clear hga
      generalize wx.alloc (.cells #[.int .i64 2, .string ⟨nm.toArray⟩, .slice a8 VL c8] 39) = w9 at *
      generalize wx.heap.size = b9 at *
      refine hK.out _ _ ?_ (fun hHeld => ?_)
      · exact ⟨keepC e0 hbD, keepC e1 hbD, keepC e2 hbD, keepC e3 hbD⟩
      clear hK K
      (try simp only [List.getElem_cons_succ, List.getElem_cons_zero, Act.put, List.setIfInBounds_toArray, List.set_cons_zero, List.set_cons_succ])
      refine head_step 8 (by simp only [List.length_cons, List.length_nil]; decide) (by kernel_rfl) (fun K hK => ?_)
      (try simp only [List.getElem_cons_succ, List.getElem_cons_zero])
      refine if_step (by rfl) ?_
      go_simp
      refine (HM3.out w9 (hz7.trans (hbD.mono hz7.size)) _ (hiF.callT hbD) (chg_one hC9 ho8.strs)).mono ?_
      rintro e w10 ⟨u10, rfl, ho10, hb10⟩
      obtain ⟨a10, c10, hv10⟩ := ho10.form
      rw [hYL] at hv10
      subst hv10
      have hX := hX.call hb10
      replace hbD := hbD.trans (hb10.mono hbD.size)
      clear hb10
      (try dsimp only)
      refine hK.out _ _ ?_ (fun hHeld => ?_)
      · exact ⟨keepC e0 hbD, keepC e1 hbD, keepC e2 hbD, keepC e3 hbD⟩
      clear hK K
      (try simp only [Act.put, List.setIfInBounds_toArray, List.set_cons_zero, List.set_cons_succ])
      refine head_take 9 ?_ (by simp only [List.length_cons, List.length_nil]; decide) (by kernel_rfl) (fun _ _ _ h => h) (by rfl) ?_ hHeld ?_
      rotate_left
      · intro W hSw; (try simp only [List.getElem_cons_succ, List.getElem_cons_zero]); (try go_split_ands); go_simp; (try with_reducible rfl)
      (try simp only [List.getElem_cons_succ, List.getElem_cons_zero, Act.put, List.setIfInBounds_toArray, List.set_cons_zero, List.set_cons_succ])
      refine head_take 10 ?_ (by simp only [List.length_cons, List.length_nil]; decide) (by kernel_rfl) (fun _ _ _ h => h) (by rfl) ?_ hHeld ?_
      rotate_left
      · intro W hSw; (try simp only [List.getElem_cons_succ, List.getElem_cons_zero]); (try go_split_ands); go_simp; (try with_reducible rfl)
      (try simp only [List.getElem_cons_succ, List.getElem_cons_zero, Act.put, List.setIfInBounds_toArray, List.set_cons_zero, List.set_cons_succ])
      refine head_take 11 ?_ (by simp only [List.length_cons, List.length_nil]; decide) (by kernel_rfl) (fun _ _ _ h => h) (by rfl) ?_ hHeld ?_
      rotate_left
      · intro W hSw; (try simp only [List.getElem_cons_succ, List.getElem_cons_zero]); (try go_split_ands); go_simp; (try with_reducible rfl)
      (try simp only [List.getElem_cons_succ, List.getElem_cons_zero, Act.put, List.setIfInBounds_toArray, List.set_cons_zero, List.set_cons_succ])
      refine head_step 13 (by simp only [List.length_cons, List.length_nil]; decide) (by kernel_rfl) (fun K hK => ?_)
      (try simp only [List.getElem_cons_succ, List.getElem_cons_zero])
      refine if_step (by rfl) ?_
      have x0 := hX.cell 0
      have x1 := hX.cell 1
      have s0 := hX.thaw 0
      have s1 := hX.thaw 1
      simp only [List.getElem?_toArray, List.getElem?_cons_zero, List.getElem?_cons_succ] at x0 x1
      have hP := hX.put 0 (.string ⟨name.toArray⟩)
      have hgC : w.heap.size ≤ bX := Nat.le_trans hz7.size hgx
      have hoA := ho10.other hX hgC (by decide) (by decide) 0 (.string ⟨name.toArray⟩)
      simp only [List.setIfInBounds_toArray, List.set_cons_zero] at hP
      have hQ := hP.put 1 (.slice a10 YL c10)
      have hoB := hoA.other hP hgC (by decide) (by decide) 1 (.slice a10 YL c10)
      simp only [List.setIfInBounds_toArray, List.set_cons_succ, List.set_cons_zero] at hQ
      have hbF := (hbD.setCell (p := ⟨bX, 0, none⟩) hgx (.string ⟨name.toArray⟩)).setCell (p := ⟨bX, 1, none⟩) hgx (.slice a10 YL c10)
      go_simp
      refine hK.out _ _ ?_ (fun hHeld => ?_)
      · exact ⟨keepC e0 hbF, keepC e1 hbF, keepC e2 hbF, keepC e3 hbF⟩
      clear hK K
      (try simp only [List.getElem_cons_succ, List.getElem_cons_zero, Act.put, List.setIfInBounds_toArray, List.set_cons_zero, List.set_cons_succ])
      refine head_end (by kernel_rfl) ?_
      simp only [List.drop_succ_cons, List.drop_zero]
      generalize (w10.setCell ⟨bX, 0, none⟩ (.string ⟨name.toArray⟩)).setCell ⟨bX, 1, none⟩ (.slice a10 YL c10) = wf at *
      have hz8 := hz7.trans (hbF.mono hz7.size)
      have hiG11 := hiG.call hbF
      have hwG11 := hwG.call hbF
      have hiK := hoB.attrs
      have hwE11 := hwE7.call hbF
      have hwF11 := hwF7.call hbF
      have f0 := hwF11.cell 0
      have f1 := hwF11.cell 1
      simp only [List.getElem?_toArray, List.getElem?_cons_zero, List.getElem?_cons_succ] at f0 f1
      have hha := HHA.out (.slice a5 RL c5) wf (HEN.out _ hz8) (AttrsE.ins (hiF.callT hbF))
      clear hX hP hoA hoB ho10 HM3 hHeld hiG hwG hwE7 hwF7 hvl HHA hC9 ho8
      go_wp2_with fail
      refine hha.mono ?_; rintro e w12 ⟨rfl, hb12⟩
      have hz12 := below_trans hz8 hb12
      have hiG12 := hiG11.call hb12
      have hwG12 := hwG11.call hb12
      have hwE12 := hwE11.call hb12
      have hiK12 := hiK.call hb12
      have hQ12 := hQ.call hb12
      have g0 := hwG12.cell 0
      have g1 := hwG12.cell 1
      have k0 := hwE12.cell 0
      have k1 := hwE12.cell 1
      simp only [List.getElem?_toArray, List.getElem?_cons_zero, List.getElem?_cons_succ] at g0 g1 k0 k1
      have hsa := HSE.out (.slice a6 YL c6) w12 hz12 hiG12
      clear hha hiG11 hwG11 hwE11 hwF11 hiK hQ f0 f1
      go_wp2_with fail
      refine hsa.mono ?_; rintro e w13 ⟨rfl, hb13⟩
      have hz13 := below_trans hz12 hb13
      have hQ13 := hQ12.call hb13
      have hwE13 := hwE12.call hb13
      have m0 := hQ13.cell 0
      have m1 := hQ13.cell 1
      have n0 := hwE13.cell 0
      have n1 := hwE13.cell 1
      simp only [List.getElem?_toArray, List.getElem?_cons_zero, List.getElem?_cons_succ] at m0 m1 n0 n1
      have hsb := HSE.out (.slice a10 YL c10) w13 hz13 (hiK12.call hb13)
      clear hsa hiG12 hwG12 hwE12 hiK12 hQ12 g0 g1 k0 k1 HSE
      go_wp2_with fail
      refine hsb.mono ?_; rintro e w14 ⟨rfl, hb14⟩
      go_wp2_with fail
      go_ret
      exact ⟨rfl, below_trans hz13 hb14⟩
  · (try simp only [List.getElem_cons_succ, List.getElem_cons_zero])
    refine if_step (by rfl) ?_
    go_simp
    have hX := Whole.made wd 24 #[.string ⟨#[]⟩, .slice none 0 0]
    have hga := grow1 wd (.cells #[.string ⟨#[]⟩, .slice none 0 0] 24)
    have hgx : w7.heap.size ≤ wd.heap.size := hbD.size
    replace hbD := hbD.trans (hga.mono hbD.size)
    clear hga
    generalize wd.alloc (.cells #[.string ⟨#[]⟩, .slice none 0 0] 24) = wx at *
    generalize wd.heap.size = bX at *
    refine hK.out _ _ ?_ (fun hHeld => ?_)
    · exact ⟨keepC e0 hbD, keepC e1 hbD, keepC e2 hbD, keepC e3 hbD⟩
    clear hK K
    (try simp only [List.getElem_cons_succ, List.getElem_cons_zero, Act.put, List.setIfInBounds_toArray, List.set_cons_zero, List.set_cons_succ])
    refine head_step 4 (by simp only [List.length_cons, List.length_nil]; decide) (by kernel_rfl) (fun K hK => ?_)
    (try simp only [List.getElem_cons_succ, List.getElem_cons_zero])
    refine if_step (by rfl) ?_
    go_simp
    refine (hvl wx (hz7.trans (hbD.mono hz7.size))).mono ?_
    rintro e w8 ⟨v8, rfl, ho8, hb8⟩
    obtain ⟨a8, c8, rfl⟩ := ho8.form
    rw [hVL] at ho8 ⊢
    have hX := hX.call hb8
    replace hbD := hbD.trans (hb8.mono hbD.size)
    clear hb8
    (try dsimp only)
    refine hK.out _ _ ?_ (fun hHeld => ?_)
    · exact ⟨keepC e0 hbD, keepC e1 hbD, keepC e2 hbD, keepC e3 hbD⟩
    clear hK K
    (try simp only [Act.put, List.setIfInBounds_toArray, List.set_cons_zero, List.set_cons_succ])
    refine head_take 5 ?_ (by simp only [List.length_cons, List.length_nil]; decide) (by kernel_rfl) (fun _ _ _ h => h) (by rfl) ?_ hHeld ?_
    rotate_left
    · intro W hSw; (try simp only [List.getElem_cons_succ, List.getElem_cons_zero]); (try go_split_ands); go_simp; (try with_reducible rfl)
    (try simp only [List.getElem_cons_succ, List.getElem_cons_zero, Act.put, List.setIfInBounds_toArray, List.set_cons_zero, List.set_cons_succ])
    refine head_take 6 ?_ (by simp only [List.length_cons, List.length_nil]; decide) (by kernel_rfl) (fun _ _ _ h => h) (by rfl) ?_ hHeld ?_
    rotate_left
    · intro W hSw; (try simp only [List.getElem_cons_succ, List.getElem_cons_zero]); (try go_split_ands); go_simp; (try with_reducible rfl)
    (try simp only [List.getElem_cons_succ, List.getElem_cons_zero, Act.put, List.setIfInBounds_toArray, List.set_cons_zero, List.set_cons_succ])
    refine head_step 7 (by simp only [List.length_cons, List.length_nil]; decide) (by kernel_rfl) (fun K hK => ?_)
    (try simp only [List.getElem_cons_succ, List.getElem_cons_zero])
    refine if_step (by rfl) ?_
    go_simp
    have hga := grow1 w8 (.cells #[.int .i64 2, .string ⟨nm.toArray⟩, .slice a8 VL c8] 39)
    have hC9 := Whole.made w8 39 #[.int .i64 2, .string ⟨nm.toArray⟩, .slice a8 VL c8]
    have ho8 := ho8.call hga
    have hX := hX.call hga
    replace hbD := hbD.trans (hga.mono hbD.size)
    clear hga
    generalize w8.alloc (.cells #[.int .i64 2, .string ⟨nm.toArray⟩, .slice a8 VL c8] 39) = w9 at *
    generalize w8.heap.size = b9 at *
    refine hK.out _ _ ?_ (fun hHeld => ?_)
    · exact ⟨keepC e0 hbD, keepC e1 hbD, keepC e2 hbD, keepC e3 hbD⟩
    clear hK K
    (try simp only [List.getElem_cons_succ, List.getElem_cons_zero, Act.put, List.setIfInBounds_toArray, List.set_cons_zero, List.set_cons_succ])
    refine head_step 8 (by simp only [List.length_cons, List.length_nil]; decide) (by kernel_rfl) (fun K hK => ?_)
    (try simp only [List.getElem_cons_succ, List.getElem_cons_zero])
    refine if_step (by rfl) ?_
    go_simp
    refine (HM3.out w9 (hz7.trans (hbD.mono hz7.size)) _ (hiF.callT hbD) (chg_one hC9 ho8.strs)).mono ?_
    rintro e w10 ⟨u10, rfl, ho10, hb10⟩
    obtain ⟨a10, c10, hv10⟩ := ho10.form
    rw [hYL] at hv10
    subst hv10
    have hX := hX.call hb10
    replace hbD := hbD.trans (hb10.mono hbD.size)
    clear hb10
    (try dsimp only)
    refine hK.out _ _ ?_ (fun hHeld => ?_)
    · exact ⟨keepC e0 hbD, keepC e1 hbD, keepC e2 hbD, keepC e3 hbD⟩
    clear hK K
    (try simp only [Act.put, List.setIfInBounds_toArray, List.set_cons_zero, List.set_cons_succ])
    refine head_take 9 ?_ (by simp only [List.length_cons, List.length_nil]; decide) (by kernel_rfl) (fun _ _ _ h => h) (by rfl) ?_ hHeld ?_
    rotate_left
    · intro W hSw; (try simp only [List.getElem_cons_succ, List.getElem_cons_zero]); (try go_split_ands); go_simp; (try with_reducible rfl)
    (try simp only [List.getElem_cons_succ, List.getElem_cons_zero, Act.put, List.setIfInBounds_toArray, List.set_cons_zero, List.set_cons_succ])
    refine head_take 10 ?_ (by simp only [List.length_cons, List.length_nil]; decide) (by kernel_rfl) (fun _ _ _ h => h) (by rfl) ?_ hHeld ?_
    rotate_left
    · intro W hSw; (try simp only [List.getElem_cons_succ, List.getElem_cons_zero]); (try go_split_ands); go_simp; (try with_reducible rfl)
    (try simp only [List.getElem_cons_succ, List.getElem_cons_zero, Act.put, List.setIfInBounds_toArray, List.set_cons_zero, List.set_cons_succ])
    refine head_take 11 ?_ (by simp only [List.length_cons, List.length_nil]; decide) (by kernel_rfl) (fun _ _ _ h => h) (by rfl) ?_ hHeld ?_
    rotate_left
    · intro W hSw; (try simp only [List.getElem_cons_succ, List.getElem_cons_zero]); (try go_split_ands); go_simp; (try with_reducible rfl)
    (try simp only [List.getElem_cons_succ, List.getElem_cons_zero, Act.put, List.setIfInBounds_toArray, List.set_cons_zero, List.set_cons_succ])
    refine head_step 13 (by simp only [List.length_cons, List.length_nil]; decide) (by kernel_rfl) (fun K hK => ?_)
    (try simp only [List.getElem_cons_succ, List.getElem_cons_zero])
    refine if_step (by rfl) ?_
    have x0 := hX.cell 0
    have x1 := hX.cell 1
    have s0 := hX.thaw 0
    have s1 := hX.thaw 1
    simp only [List.getElem?_toArray, List.getElem?_cons_zero, List.getElem?_cons_succ] at x0 x1
    have hP := hX.put 0 (.string ⟨name.toArray⟩)
    have hgC : w.heap.size ≤ bX := Nat.le_trans hz7.size hgx
    have hoA := ho10.other hX hgC (by decide) (by decide) 0 (.string ⟨name.toArray⟩)
    simp only [List.setIfInBounds_toArray, List.set_cons_zero] at hP
    have hQ := hP.put 1 (.slice a10 YL c10)
    have hoB := hoA.other hP hgC (by decide) (by decide) 1 (.slice a10 YL c10)
    simp only [List.setIfInBounds_toArray, List.set_cons_succ, List.set_cons_zero] at hQ
    have hbF := (hbD.setCell (p := ⟨bX, 0, none⟩) hgx (.string ⟨name.toArray⟩)).setCell (p := ⟨bX, 1, none⟩) hgx (.slice a10 YL c10)
    go_simp
    refine hK.out _ _ ?_ (fun hHeld => ?_)
    · exact ⟨keepC e0 hbF, keepC e1 hbF, keepC e2 hbF, keepC e3 hbF⟩
    clear hK K
    (try simp only [List.getElem_cons_succ, List.getElem_cons_zero, Act.put, List.setIfInBounds_toArray, List.set_cons_zero, List.set_cons_succ])
    refine head_end (by kernel_rfl) ?_
    simp only [List.drop_succ_cons, List.drop_zero]
    generalize (w10.setCell ⟨bX, 0, none⟩ (.string ⟨name.toArray⟩)).setCell ⟨bX, 1, none⟩ (.slice a10 YL c10) = wf at *
    have hz8 := hz7.trans (hbF.mono hz7.size)
    have hiG11 := hiG.call hbF
    have hwG11 := hwG.call hbF
    have hiK := hoB.attrs
    have hwE11 := hwE7.call hbF
    have hwF11 := hwF7.call hbF
    have f0 := hwF11.cell 0
    have f1 := hwF11.cell 1
    simp only [List.getElem?_toArray, List.getElem?_cons_zero, List.getElem?_cons_succ] at f0 f1
    have hha := HHA.out (.slice a5 RL c5) wf (HEN.out _ hz8) (AttrsE.ins (hiF.callT hbF))
    clear hX hP hoA hoB ho10 HM3 hHeld hiG hwG hwE7 hwF7 hvl HHA hC9 ho8
    go_wp2_with fail
    refine hha.mono ?_; rintro e w12 ⟨rfl, hb12⟩
    have hz12 := below_trans hz8 hb12
    have hiG12 := hiG11.call hb12
    have hwG12 := hwG11.call hb12
    have hwE12 := hwE11.call hb12
    have hiK12 := hiK.call hb12
    have hQ12 := hQ.call hb12
    have g0 := hwG12.cell 0
    have g1 := hwG12.cell 1
    have k0 := hwE12.cell 0
    have k1 := hwE12.cell 1
    simp only [List.getElem?_toArray, List.getElem?_cons_zero, List.getElem?_cons_succ] at g0 g1 k0 k1
    have hsa := HSE.out (.slice a6 YL c6) w12 hz12 hiG12
    clear hha hiG11 hwG11 hwE11 hwF11 hiK hQ f0 f1
    go_wp2_with fail
    refine hsa.mono ?_; rintro e w13 ⟨rfl, hb13⟩
    have hz13 := below_trans hz12 hb13
    have hQ13 := hQ12.call hb13
    have hwE13 := hwE12.call hb13
    have m0 := hQ13.cell 0
    have m1 := hQ13.cell 1
    have n0 := hwE13.cell 0
    have n1 := hwE13.cell 1
    simp only [List.getElem?_toArray, List.getElem?_cons_zero, List.getElem?_cons_succ] at m0 m1 n0 n1
    have hsb := HSE.out (.slice a10 YL c10) w13 hz13 (hiK12.call hb13)
    clear hsa hiG12 hwG12 hwE12 hiK12 hQ12 g0 g1 k0 k1 HSE
    go_wp2_with fail
    refine hsb.mono ?_; rintro e w14 ⟨rfl, hb14⟩
    go_wp2_with fail
    go_ret
    exact ⟨rfl, below_trans hz13 hb14⟩
theorem lawentryundoes_c (u : Value) (e : EnS.En) (s1 s2 : ByteArray) (w : World) (h : AttrsIn w u e.attrs) (hO : EnOf 1048576 e) (hN : EnS.cE e ≤ 1048576) (h1 : s1.data.toList.length ≤ 1048576) (h2 : s2.data.toList.length ≤ 1048576) (hE : Env w) :
    Calls Tryz.prog 4 #[enV e.name u, .string s1, .string s2] w (True_ w) := by
  obtain ⟨l1, rfl⟩ := bytes_of s1
  obtain ⟨l2, rfl⟩ := bytes_of s2
  obtain ⟨name, xs⟩ := e
  exact entryundoes_c name u xs l1 l2 w h (fun a ha => (hO.2.2 a ha).1) hN (by simpa using h1) (by simpa using h2) hE
end Go.Proofs.YtmnhgbkdahdoiaaGreatDoor
