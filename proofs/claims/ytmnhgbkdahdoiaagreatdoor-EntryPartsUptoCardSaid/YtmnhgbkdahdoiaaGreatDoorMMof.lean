/- The walk of the law EntryParts. Conditions: the arguments' sizes are at most 1048576 in all; the library's variables are laid. -/
import Derived.Test.YtmnhgbkdahdoiaaGreatDoorMMoe
import Derived.Test.YtmnhgbkdahdoiaaGreatDoorMGro
import Derived.Test.YtmnhgbkdahdoiaaGreatDoorMTai
namespace Go.Proofs.YtmnhgbkdahdoiaaGreatDoor
open Go.RowKit
attribute [local go_sem ↓] Go.wp_at_zero Go.wp_at_succ

def chG : RLay EnS.Ch := ⟨3, by decide, fun ok w cs x => ∃ u, cs = [.int .i64 x.op, strV x.typ, u] ∧ StrsP ok w u x.vals,
  fun h hs hb hk => by obtain ⟨u, e, h⟩ := h; exact ⟨u, e, StrsP.keep h hs hb hk⟩,
  fun h => by obtain ⟨u, rfl, _⟩ := h; rfl,
  fun h => by
    obtain ⟨u, rfl, h⟩ := h
    obtain ⟨a, c, rfl, _⟩ := SliceP.form h
    intro z hz
    simp only [List.mem_cons, List.not_mem_nil, or_false] at hz
    rcases hz with rfl | rfl | rfl <;> rfl⟩
theorem three_at {w : World} {g o : Nat} {a b c : Value} (h0 : w.cell? ⟨g, o, none⟩ = some a) (h1 : w.cell? ⟨g, o + 1, none⟩ = some b) (h2 : w.cell? ⟨g, o + 2, none⟩ = some c) : ∀ (j : Nat) (u : Value), [a, b, c][j]? = some u → w.cell? ⟨g, o + j, none⟩ = some u := fun j u hj => by
  match j, hj with
  | 0, hj => simp at hj; subst hj; exact h0
  | 1, hj => simp at hj; subst hj; exact h1
  | 2, hj => simp at hj; subst hj; exact h2
  | j + 3, hj => simp at hj
theorem ChgsIn.rows {w : World} {v : Value} {xs : List EnS.Ch} (h : ChgsIn w v xs) : RowG chG (fun _ => True) (fun g => g < w.heap.size) w v xs :=
  SliceP.imp h (Nat.le_refl _) (fun _ _ h => h) fun g o x _ _ hx => by
    obtain ⟨h0, h1, u, h2, h3⟩ := hx
    exact ⟨_, three_at h0 h1 h2, u, rfl, h3.keep (Nat.le_refl _) (fun _ _ _ => rfl) (fun g hg _ => hg)⟩
theorem RowG.weak {α : Type} {L : RLay α} {rok ok ok' : Nat → Prop} {w : World} {v : Value} {xs : List α} (h : RowG L rok ok w v xs) (hk : ∀ g, g < w.heap.size → ok g → ok' g) : RowG L rok ok' w v xs :=
  RowG.keep h (Nat.le_refl _) (fun _ _ _ => rfl) (fun _ _ h => h) (fun _ _ _ => rfl) hk
theorem RowG.call {α : Type} {L : RLay α} {rok ok : Nat → Prop} {w w' : World} {v : Value} {xs : List α} (h : RowG L rok ok w v xs) (hb : Below w.heap.size w w') : RowG L rok ok w' v xs :=
  RowG.keep h hb.size (fun g hg _ => hb.block g hg) (fun _ _ h => h) (fun g hg _ => hb.block g hg) (fun _ _ h => h)
theorem OwnG.chgs {T : TypeId} {P : Nat → Prop} {w : World} {B : Nat} {v : Value} {xs : List EnS.Ch} (h : OwnG chG T P w B v xs) : ChgsIn w v xs :=
  SliceP.imp (h.read (fun _ => True) (fun _ _ => trivial)) (Nat.le_refl _) (fun _ _ h => h) fun g o x _ _ hx => by
    obtain ⟨cs, hc, u, rfl, hs⟩ := hx
    exact ⟨hc 0 _ rfl, hc 1 _ rfl, u, hc 2 _ rfl, hs.any⟩
theorem infoCh : (Tryz.prog.info? 39).map (fun i => (i.zero, i.size, i.bytes)) = some (some (.agg #[.int .i64 0, .string ⟨#[]⟩, .slice none 0 0]), 3, 48) := by kernel_rfl
theorem build0c (w : World) : (Instr.buildSlice 25 0 #[]).run Tryz.prog w = .ok (.slice (some ⟨w.heap.size, 0, none⟩) 0 0) (w.alloc (.cells #[] 39)) := by
  obtain ⟨i0, hi, hz0, hz1, hz2⟩ := info_parts infoCh
  simp [Instr.buildSlice, run_underlying Tryz.underlying25, sizeOf, typeInfo, hi, newRow, Instr.fill]
  have e : ∀ f : Nat → Value, Array.map f (Array.range 0) = #[] := fun f => Array.eq_empty_of_size_eq_zero (by simp)
  rw [e]
theorem OwnG.made0 {α : Type} (L : RLay α) (T : TypeId) (P : Nat → Prop) (w : World) : OwnG L T P (w.alloc (.cells #[] T)) w.heap.size (.slice (some ⟨w.heap.size, 0, none⟩) 0 0) [] :=
  ⟨[], by
    refine ⟨by simp, .inr ⟨w.heap.size, 0, #[], rfl, Nat.le_refl _, heap_alloc_new w _, Nat.le_refl _, Nat.zero_le _, by simp, by simp⟩⟩, rfl, fun i cs x h => by simp at h⟩
def FitC (N : Nat) (cs : List EnS.Ch) : Prop := cs.length ≤ N ∧ (∀ c ∈ cs, c.typ.length ≤ 1048576 ∧ ∀ v ∈ c.vals, v.length ≤ 1000000) ∧ EnS.sumBy (fun c : EnS.Ch => c.vals.length) cs ≤ N
theorem FitC.append {N : Nat} {a b : List EnS.Ch} (h : FitC N a) (k : FitC N b) : FitC (N + N) (a ++ b) := by
  refine ⟨by rw [List.length_append]; have := h.1; have := k.1; omega, fun c hc => ?_, by rw [EnS.sumBy_append]; have := h.2.2; have := k.2.2; omega⟩
  rcases List.mem_append.1 hc with hc | hc
  · exact h.2.1 c hc
  · exact k.2.1 c hc
set_option maxRecDepth 100000 in
set_option maxHeartbeats 8000000 in
theorem entryparts_c (name : List UInt8) (u : Value) (xs : List EnS.At) (aas bbs : List EnS.Ch) (va vb : Value) (w : World) (h : AttrsIn w u xs) (hT : ∀ a ∈ xs, a.typ.length ≤ 1048576) (hN : EnS.cE ⟨name, xs⟩ ≤ 1048576) (hva : ChgsIn w va aas) (haT : ∀ c ∈ aas, c.typ.length ≤ 1048576) (haN : EnS.sumBy EnS.cC aas ≤ 1048576) (hvb : ChgsIn w vb bbs) (hbT : ∀ c ∈ bbs, c.typ.length ≤ 1048576) (hbN : EnS.sumBy EnS.cC bbs ≤ 1048576) (hE : Env w) :
    Calls Tryz.prog 5 #[.agg #[.string ⟨name.toArray⟩, u], va, vb] w (True_ w) := by
  have hbs := build0c
  have HIN := Lib.hid (fun W (hb : Below w.heap.size w W) => AttrsE.callT (AttrsP.exp (AttrsP.base h [9])) hb)
  have HCA := Lib.hid (fun W (hb : Below w.heap.size w W) => ChgsP.call hva hb)
  have HCB := Lib.hid (fun W (hb : Below w.heap.size w W) => ChgsP.call hvb hb)
  have HRA := Lib.hid (fun W (hb : Below w.heap.size w W) => RowG.call hva.rows hb)
  have HRB := Lib.hid (fun W (hb : Below w.heap.size w W) => RowG.call hvb.rows hb)
  have HEN := Lib.hid (fun W (hb : Below w.heap.size w W) => hE.below hb)
  have hfew := fun W (hb : Below w.heap.size w W) => few09_c (.slice (some ⟨W.heap.size, 0, none⟩) 1 1) [⟨name, xs⟩] _ (ens_one (name := name) (AttrsP.call h hb)) (by show EnS.cE ⟨name, xs⟩ + 0 ≤ _; simpa using hN)
  unfold FewRet9 at hfew
  have hfa := fun W hb => fewch_c va aas W (ChgsP.call hva hb) haN
  have hfb := fun W hb => fewch_c vb bbs W (ChgsP.call hvb hb) hbN
  unfold FewRetC at hfa hfb
  have HCF := Lib.hid (fun h => cost_fit (xs := [⟨name, xs⟩]) h)
  have HFA : Hid (EnS.sumBy EnS.cC aas ≤ 3000 → FitC 3000 aas) := Lib.hid (fun h => by have := EnS.chg_fit h; exact ⟨this.1, fun c hc => ⟨haT c hc, this.2.1 c hc⟩, this.2.2⟩)
  have HFB : Hid (EnS.sumBy EnS.cC bbs ≤ 3000 → FitC 3000 bbs) := Lib.hid (fun h => by have := EnS.chg_fit h; exact ⟨this.1, fun c hc => ⟨hbT c hc, this.2.1 c hc⟩, this.2.2⟩)
  obtain ⟨a, c, rfl, hc⟩ := SliceP.form h
  obtain ⟨aa, ac, rfl, hac⟩ := SliceP.form hva
  obtain ⟨ba, bc, rfl, hbc⟩ := SliceP.form hvb
  have hg0 := grow1 w (.cells #[.string ⟨name.toArray⟩, .slice a xs.length c] 24)
  have hw0 := Whole.made w 24 #[.string ⟨name.toArray⟩, .slice a xs.length c]
  clear h hN hva haN hvb hbN haT hbT
  go_enter Tryz.func5, Tryz.ntmps5
  go_wp2_with fail
  refine (awake09_c _ (HEN.out _ hg0)).mono ?_; rintro e w1 ⟨rfl, hb1⟩
  have hz1 := below_trans hg0 hb1
  have hw1 := hw0.call hb1
  have hf1 := hfew _ hz1
  have hgA := grow1 w1 (.cells #[.string ⟨name.toArray⟩, .slice a xs.length c] 24)
  have hzA := below_trans hz1 hgA
  have q0 := hw1.cell 0
  have q1 := hw1.cell 1
  simp only [List.getElem?_toArray, List.getElem?_cons_zero, List.getElem?_cons_succ] at q0 q1
  clear hE hfew hw0
  go_wp2_with fail
  refine hf1.mono ?_; rintro e w2 ⟨b, rfl, hok, hb2⟩
  have hz2 := below_trans hzA hb2
  have hw2 := (hw1.call hgA).call hb2
  clear hf1 hzA hb1 hb2 hgA hw1 hz1 hg0 q0 q1
  cases b with
  | false =>
    clear hok hw2
    go_wp2_with fail
    refine (awake09_c _ (HEN.out _ hz2)).mono ?_; rintro e w9 ⟨rfl, hb9⟩
    go_wp2_with fail
    go_ret
    exact ⟨rfl, below_trans hz2 hb9⟩
  | true =>
  have HOK1 := Lib.hid (hok rfl)
  have hf2 := hfa _ hz2
  clear hfa hok
  go_wp2_with fail
  refine hf2.mono ?_; rintro e w3 ⟨b, rfl, hok2, hb3⟩
  have hz3 := below_trans hz2 hb3
  have hw3 := hw2.call hb3
  clear hf2 hz2 hw2
  cases b with
  | false =>
    clear hok2 hw3 HOK1
    go_wp2_with fail
    refine (awake09_c _ (HEN.out _ hz3)).mono ?_; rintro e w9 ⟨rfl, hb9⟩
    go_wp2_with fail
    go_ret
    exact ⟨rfl, below_trans hz3 hb9⟩
  | true =>
  have HOK2 := Lib.hid (hok2 rfl)
  have hf3 := hfb _ hz3
  clear hfb hok2
  go_wp2_with fail
  refine hf3.mono ?_; rintro e w4 ⟨b, rfl, hok3, hb4⟩
  have hz4 := below_trans hz3 hb4
  have hw4 := hw3.call hb4
  clear hf3 hz3 hw3
  cases b with
  | false =>
    clear hok3 hw4 HOK1 HOK2
    go_wp2_with fail
    refine (awake09_c _ (HEN.out _ hz4)).mono ?_; rintro e w9 ⟨rfl, hb9⟩
    go_wp2_with fail
    go_ret
    exact ⟨rfl, below_trans hz4 hb9⟩
  | true =>
  have hfe := (HCF.out HOK1.out).2 _ (List.mem_singleton.2 rfl)
  simp only at hfe
  have hca := HFA.out HOK2.out
  have hcb := HFB.out (hok3 rfl)
  have hcab := hca.append hcb
  have hal := hca.1
  have hbl := hcb.1
  have hmk := fun W hb => enmodify_c w.heap.size name xs (.slice a xs.length c) aas (.slice aa aas.length ac) W (Below.size hb) (HIN.out W hb) hfe.2 hT hfe.1 (HCA.out W hb) (by omega) hca.2.1 (by have := hca.2.2; omega) (HEN.out W hb)
  unfold MakeRet at hmk
  have hft := modify_fit (e := ⟨name, xs⟩) (cs := aas) hfe.2 (fun c hc => (hca.2.1 c hc).2) (by have := hca.2.2; omega)
  have HFO := Lib.hid (fun f h => EnS.modify_formed_up (e := ⟨name, xs⟩) (cs := aas) (f := f) h)
  have HPA := Lib.hid (fun f g h k => EnS.modify_parts_up (e := ⟨name, xs⟩) (f := f) (g := g) (a := aas) (b := bbs) h k)
  have HM3 := Lib.hid (fun W hb vc hvc => enmodify_c w.heap.size name xs (.slice a xs.length c) (aas ++ bbs) vc W (Below.size hb) (HIN.out W hb) hfe.2 hT hfe.1 hvc (by rw [List.length_append]; omega) hcab.2.1 (by have := hcab.2.2; omega) (HEN.out W hb))
  unfold MakeRet at HM3
  have hft3 := modify_fit (e := ⟨name, xs⟩) (cs := aas ++ bbs) hfe.2 (fun c hc => (hcab.2.1 c hc).2) (by have := hcab.2.2; omega)
  have q0 := hw4.cell 0
  have q1 := hw4.cell 1
  simp only [List.getElem?_toArray, List.getElem?_cons_zero, List.getElem?_cons_succ] at q0 q1
  clear HOK1 HOK2 hok3 HCF HFA HFB hfe hT HIN hca hcab HCA
  generalize EnS.modifyS EnS.upS ⟨name, xs⟩ aas = R at *
  generalize EnS.modifyS EnS.upS ⟨name, xs⟩ (aas ++ bbs) = R3 at *
  obtain ⟨⟨rn, ra⟩, rc⟩ := R
  obtain ⟨⟨tn, ta⟩, tc⟩ := R3
  simp only at hmk hft HM3 hft3
  obtain ⟨hfa, hrn⟩ := hft
  obtain ⟨RL, hRL⟩ : ∃ n, ra.length = n := ⟨_, rfl⟩
  obtain ⟨TL, hTL⟩ : ∃ n, ta.length = n := ⟨_, rfl⟩
  generalize xs.length = YL at *
  obtain ⟨AL, hAL⟩ : ∃ n, aas.length = n := ⟨_, rfl⟩
  obtain ⟨BL, hBL⟩ : ∃ n, bbs.length = n := ⟨_, rfl⟩
  have hABL : (aas ++ bbs).length = AL + BL := by rw [List.length_append, hAL, hBL]
  have HAB : Hid ((aas ++ bbs).length = AL + BL) := Lib.hid hABL
  rw [hAL] at hmk hal HRA
  rw [hBL] at hbl HCB HRB
  go_wp2_with fail
  refine (hmk _ hz4).mono ?_; rintro e w5 ⟨u5, rfl, ho5, hb5⟩
  have hz5 := below_trans hz4 hb5
  have hw5 := hw4.call hb5
  obtain ⟨a5, c5, rfl⟩ := ho5.form
  rw [hRL] at ho5 ⊢
  have hgF := grow1 w5 (.cells #[.string ⟨rn.toArray⟩, .slice a5 RL c5] 24)
  have hwF := Whole.made w5 24 #[.string ⟨rn.toArray⟩, .slice a5 RL c5]
  have hzF := below_trans hz5 hgF
  have hiF := (ho5.call hgF).attrsE
  have hwE := hw5.call hgF
  have x0 := hwF.cell 0
  have x1 := hwF.cell 1
  simp only [List.getElem?_toArray, List.getElem?_cons_zero, List.getElem?_cons_succ] at x0 x1
  clear hmk ho5 hw4 hw5 q0 q1 hz4 hz5 hb5
  by_cases hrc : rc = 0
  case neg =>
    have hez : (rc != 0) = true := by simpa using hrc
    clear HFO HPA HM3 hrc
    go_wp2_with fail
    go_ret
    exact ⟨rfl, hzF⟩
  subst hrc
  have hfo := HFO.out _ rfl
  have htyp : ∀ x ∈ ra, x.typ.length ≤ 1048576 := fun x hx => by
    have h1 := (EnS.formedA_each (EnS.formed_parts hfo).2.2 x hx).1
    have h2 := EnS.type_len x.typ
    rw [h1] at h2
    omega
  have hm2 := enmodify_c w.heap.size rn ra (.slice a5 RL c5) bbs (.slice ba BL bc) _ hzF.size hiF hfa htyp (by omega) (HCB.out _ hzF) (by omega) hcb.2.1 (by have := hcb.2.2; omega) (HEN.out _ hzF)
  unfold MakeRet at hm2
  have hft2 := modify_fit (e := ⟨rn, ra⟩) (cs := bbs) hfa (fun c hc => (hcb.2.1 c hc).2) (by have := hcb.2.2; omega)
  have HP2 := Lib.hid (fun g k => HPA.out ⟨rn, ra⟩ g rfl k)
  clear HFO HPA hfo htyp hcb hiF HCB
  generalize EnS.modifyS EnS.upS ⟨rn, ra⟩ bbs = R2 at *
  obtain ⟨⟨sn, sa⟩, sc⟩ := R2
  simp only at hm2 hft2
  obtain ⟨SL, hSL⟩ : ∃ n, sa.length = n := ⟨_, rfl⟩
  go_wp2_with fail
  refine hm2.mono ?_; rintro e w6 ⟨u6, rfl, ho6, hb6⟩
  have hz6 := below_trans hzF hb6
  have hwE6 := hwE.call hb6
  obtain ⟨a6, c6, rfl⟩ := ho6.form
  rw [hSL] at ho6 ⊢
  have hgG := grow1 w6 (.cells #[.string ⟨sn.toArray⟩, .slice a6 SL c6] 24)
  have hwG := Whole.made w6 24 #[.string ⟨sn.toArray⟩, .slice a6 SL c6]
  have hzG := below_trans hz6 hgG
  have hiG := ho6.attrs.call hgG
  have hwE7 := hwE6.call hgG
  clear hm2 ho6 hwE hwE6 hb6 hzF hgF hwF x0 x1
  go_wp2_with fail
  obtain ⟨w7, hw7⟩ : ∃ x, w6.alloc (.cells #[.string ⟨sn.toArray⟩, .slice a6 SL c6] 24) = x := ⟨_, rfl⟩
  rw [hw7] at hwG hzG hiG hwE7 ⊢
  obtain ⟨bG, hbG⟩ : ∃ x, w6.heap.size = x := ⟨_, rfl⟩
  rw [hbG] at hwG ⊢
  clear hw7 hbG hgG hz6
  have hbD : Below w7.heap.size w7 w7.drew := (Below.refl _ _).drew
  have e0 := hwE7.cell 0
  have e1 := hwE7.cell 1
  simp only [List.getElem?_toArray, List.getElem?_cons_zero, List.getElem?_cons_succ] at e0 e1
  obtain ⟨i0, hi, hzz0, hzz1, hzz2⟩ := info_parts infoCh
  have HI := Lib.hid hi
  have HRA2 := Lib.hid (fun W (hb : Below w7.heap.size w7 W) (v : Value) (hv : OwnG chG 39 (fun g => g < w.heap.size) W w7.heap.size v []) => (HRA.out W (hzG.trans (hb.mono hzG.size))).weak (ok' := fun g => g < w.heap.size ∧ v.ownBlock ≠ some g) (fun g _ hg => ⟨hg, fun e => by
    have h1 := (hv.block e).1
    have h2 := hzG.size
    omega⟩))
  have HRB2 := Lib.hid (fun W (hb : Below w7.heap.size w7 W) (v : Value) (hv : OwnG chG 39 (fun g => g < w.heap.size) W w7.heap.size v aas) => (HRB.out W (hzG.trans (hb.mono hzG.size))).weak (ok' := fun g => g < w.heap.size ∧ v.ownBlock ≠ some g) (fun g _ hg => ⟨hg, fun e => by
    have h1 := (hv.block e).1
    have h2 := hzG.size
    omega⟩))
  have HM4 := Lib.hid (fun W (hb : Below w7.heap.size w7 W) vc hvc => HM3.out W (hzG.trans (hb.mono hzG.size)) vc hvc)
  clear hi HRA HRB HM3
  refine head_begin 12 (fun W => W.cell? ⟨w.heap.size, 0, none⟩ = some (.string ⟨name.toArray⟩) ∧ W.cell? ⟨w.heap.size, 1, none⟩ = some (.slice a YL c)) (by kernel_rfl) (by kernel_rfl) ⟨e0, e1⟩ (fun hHeld => ?_)
  generalize w7.drew = wd at *
  refine head_take 0 ?_ (by simp only [List.length_cons, List.length_nil]; decide) (by kernel_rfl) (fun _ _ _ h => h) (by rfl) ?_ hHeld ?_
  rotate_left
  · intro W hSw; (try simp only [List.getElem_cons_zero]); (try go_split_ands); go_simp; (try with_reducible rfl)
  (try simp only [List.getElem_cons_zero, Act.put, List.setIfInBounds_toArray, List.set_cons_zero, List.set_cons_succ])
  refine head_take 2 ?_ (by simp only [List.length_cons, List.length_nil]; decide) (by kernel_rfl) (fun _ _ _ h => h) (by rfl) ?_ hHeld ?_
  rotate_left
  · intro W hSw; (try simp only [List.getElem_cons_succ, List.getElem_cons_zero]); (try go_split_ands); go_simp; (try with_reducible rfl)
  (try simp only [List.getElem_cons_succ, List.getElem_cons_zero, Act.put, List.setIfInBounds_toArray, List.set_cons_zero, List.set_cons_succ])
  refine head_take 4 ?_ (by simp only [List.length_cons, List.length_nil]; decide) (by kernel_rfl) (fun _ _ _ h => h) (by rfl) ?_ hHeld ?_
  rotate_left
  · intro W hSw; (try simp only [List.getElem_cons_succ, List.getElem_cons_zero]); (try go_split_ands); go_simp; (try with_reducible rfl)
  (try simp only [List.getElem_cons_succ, List.getElem_cons_zero, Act.put, List.setIfInBounds_toArray, List.set_cons_zero, List.set_cons_succ])
  refine head_two 1 10 (by simp only [List.length_cons, List.length_nil]; decide) (by simp only [List.length_cons, List.length_nil]; decide) (by kernel_rfl) (fun K hK => ?_) (fun K hK => ?_)
  · (try simp only [List.getElem_cons_succ, List.getElem_cons_zero])
    refine if_step (by rfl) ?_
    go_simp
    have hga := grow1 wd (.cells #[] 39)
    have hO := (OwnG.made0 chG 39 (fun g => g < w.heap.size) wd).mono hbD.size
    replace hbD := hbD.trans (hga.mono hbD.size)
    clear hga
    generalize wd.alloc (.cells #[] 39) = w1a at *
    generalize wd.heap.size = b1a at *
    refine hK.out _ _ ?_ (fun hHeld => ?_)
    · exact ⟨keepC e0 hbD, keepC e1 hbD⟩
    clear hK K
    (try simp only [List.getElem_cons_succ, List.getElem_cons_zero, Act.put, List.setIfInBounds_toArray, List.set_cons_zero, List.set_cons_succ])
    refine head_two 3 10 (by simp only [List.length_cons, List.length_nil]; decide) (by simp only [List.length_cons, List.length_nil]; decide) (by kernel_rfl) (fun K hK => ?_) (fun K hK => ?_)
    · (try simp only [List.getElem_cons_succ, List.getElem_cons_zero])
      refine if_step (by rfl) ?_
      refine wp_g chG 39 25 Tryz.underlying25 HI.out hzz0 hzz1 (by rw [hzz2]; decide) (by rfl) _ _ (by rfl) (fun g => g < w.heap.size) w7.heap.size _ [] (by rfl) hO _ aas (by rfl) (HRA2.out _ hbD _ hO) (by rw [hAL]; simp; omega) hbD.size ?_
      intro v3 w8 hO3 hb3 hg3 hat3
      clear hO hg3 hat3
      have hO : OwnG chG 39 (fun g => g < w.heap.size) w8 w7.heap.size v3 (aas) := hO3
      clear hO3
      obtain ⟨a3, c3, hv3⟩ := hO.form
      rw [hAL] at hv3
      subst hv3
      replace hbD := hbD.trans hb3
      clear hb3
      refine hK.out _ _ ?_ (fun hHeld => ?_)
      · exact ⟨keepC e0 hbD, keepC e1 hbD⟩
      clear hK K
      (try simp only [Act.put, List.setIfInBounds_toArray, List.set_cons_zero, List.set_cons_succ])
      refine head_two 5 10 (by simp only [List.length_cons, List.length_nil]; decide) (by simp only [List.length_cons, List.length_nil]; decide) (by kernel_rfl) (fun K hK => ?_) (fun K hK => ?_)
      · (try simp only [List.getElem_cons_succ, List.getElem_cons_zero])
        refine if_step (by rfl) ?_
        refine wp_g chG 39 25 Tryz.underlying25 HI.out hzz0 hzz1 (by rw [hzz2]; decide) (by rfl) _ _ (by rfl) (fun g => g < w.heap.size) w7.heap.size _ aas (by rfl) hO _ bbs (by rfl) (HRB2.out _ hbD _ hO) (by rw [hAL, hBL]; omega) hbD.size ?_
        intro v5 w9 hO5 hb5 hg5 hat5
        clear hO hg5 hat5
        have hO : OwnG chG 39 (fun g => g < w.heap.size) w9 w7.heap.size v5 (aas ++ bbs) := hO5
        clear hO5
        obtain ⟨a5, c5, hv5⟩ := hO.form
        rw [HAB.out] at hv5
        subst hv5
        replace hbD := hbD.trans hb5
        clear hb5
        refine hK.out _ _ ?_ (fun hHeld => ?_)
        · exact ⟨keepC e0 hbD, keepC e1 hbD⟩
        clear hK K
        (try simp only [Act.put, List.setIfInBounds_toArray, List.set_cons_zero, List.set_cons_succ])
        refine head_two 6 10 (by simp only [List.length_cons, List.length_nil]; decide) (by simp only [List.length_cons, List.length_nil]; decide) (by kernel_rfl) (fun K hK => ?_) (fun K hK => ?_)
        · (try simp only [List.getElem_cons_succ, List.getElem_cons_zero])
          refine if_step (by rfl) ?_
          go_simp
          refine (HM4.out w9 hbD _ hO.chgs).mono ?_
          rintro e w10 ⟨u10, rfl, ho10, hb10⟩
          obtain ⟨a10, c10, hv10⟩ := ho10.form
          rw [hTL] at hv10
          subst hv10
          replace hbD := hbD.trans (hb10.mono hbD.size)
          clear hb10
          (try dsimp only)
          refine hK.out _ _ ?_ (fun hHeld => ?_)
          · exact ⟨keepC e0 hbD, keepC e1 hbD⟩
          clear hK K
          (try simp only [Act.put, List.setIfInBounds_toArray, List.set_cons_zero, List.set_cons_succ])
          refine head_take 7 ?_ (by simp only [List.length_cons, List.length_nil]; decide) (by kernel_rfl) (fun _ _ _ h => h) (by rfl) ?_ hHeld ?_
          rotate_left
          · intro W hSw; (try simp only [List.getElem_cons_succ, List.getElem_cons_zero]); (try go_split_ands); go_simp; (try with_reducible rfl)
          (try simp only [List.getElem_cons_succ, List.getElem_cons_zero, Act.put, List.setIfInBounds_toArray, List.set_cons_zero, List.set_cons_succ])
          refine head_take 8 ?_ (by simp only [List.length_cons, List.length_nil]; decide) (by kernel_rfl) (fun _ _ _ h => h) (by rfl) ?_ hHeld ?_
          rotate_left
          · intro W hSw; (try simp only [List.getElem_cons_succ, List.getElem_cons_zero]); (try go_split_ands); go_simp; (try with_reducible rfl)
          (try simp only [List.getElem_cons_succ, List.getElem_cons_zero, Act.put, List.setIfInBounds_toArray, List.set_cons_zero, List.set_cons_succ])
          refine head_take 9 ?_ (by simp only [List.length_cons, List.length_nil]; decide) (by kernel_rfl) (fun _ _ _ h => h) (by rfl) ?_ hHeld ?_
          rotate_left
          · intro W hSw; (try simp only [List.getElem_cons_succ, List.getElem_cons_zero]); (try go_split_ands); go_simp; (try with_reducible rfl)
          (try simp only [List.getElem_cons_succ, List.getElem_cons_zero, Act.put, List.setIfInBounds_toArray, List.set_cons_zero, List.set_cons_succ])
          refine head_step 10 (by simp only [List.length_cons, List.length_nil]; decide) (by kernel_rfl) (fun K hK => ?_)
          (try simp only [List.getElem_cons_succ, List.getElem_cons_zero])
          refine if_step (by rfl) ?_
          go_simp
          have hX := Whole.made w10 24 #[.string ⟨#[]⟩, .slice none 0 0]
          have hga := grow1 w10 (.cells #[.string ⟨#[]⟩, .slice none 0 0] 24)
          have hgx : w7.heap.size ≤ w10.heap.size := hbD.size
          have ho10 := ho10.call hga
          replace hbD := hbD.trans (hga.mono hbD.size)
          clear hga
          generalize w10.alloc (.cells #[.string ⟨#[]⟩, .slice none 0 0] 24) = wx at *
          generalize w10.heap.size = bX at *
          refine hK.out _ _ ?_ (fun hHeld => ?_)
          · exact ⟨keepC e0 hbD, keepC e1 hbD⟩
          clear hK K
          (try simp only [List.getElem_cons_succ, List.getElem_cons_zero, Act.put, List.setIfInBounds_toArray, List.set_cons_zero, List.set_cons_succ])
          refine head_step 11 (by simp only [List.length_cons, List.length_nil]; decide) (by kernel_rfl) (fun K hK => ?_)
          (try simp only [List.getElem_cons_succ, List.getElem_cons_zero])
          refine if_step (by rfl) ?_
          have x0 := hX.cell 0
          have x1 := hX.cell 1
          have s0 := hX.thaw 0
          have s1 := hX.thaw 1
          simp only [List.getElem?_toArray, List.getElem?_cons_zero, List.getElem?_cons_succ] at x0 x1
          have hP := hX.put 0 (.string ⟨tn.toArray⟩)
          have hgC : w.heap.size ≤ bX := Nat.le_trans hzG.size hgx
          have hoA := ho10.other hX hgC (by decide) (by decide) 0 (.string ⟨tn.toArray⟩)
          simp only [List.setIfInBounds_toArray, List.set_cons_zero] at hP
          have hQ := hP.put 1 (.slice a10 TL c10)
          have hoB := hoA.other hP hgC (by decide) (by decide) 1 (.slice a10 TL c10)
          simp only [List.setIfInBounds_toArray, List.set_cons_succ, List.set_cons_zero] at hQ
          have hbF := (hbD.setCell (p := ⟨bX, 0, none⟩) hgx (.string ⟨tn.toArray⟩)).setCell (p := ⟨bX, 1, none⟩) hgx (.slice a10 TL c10)
          go_simp
          refine hK.out _ _ ?_ (fun hHeld => ?_)
          · exact ⟨keepC e0 hbF, keepC e1 hbF⟩
          clear hK K
          (try simp only [List.getElem_cons_succ, List.getElem_cons_zero, Act.put, List.setIfInBounds_toArray, List.set_cons_zero, List.set_cons_succ])
          refine head_end (by kernel_rfl) ?_
          simp only [List.drop_succ_cons, List.drop_zero]
          generalize (wx.setCell ⟨bX, 0, none⟩ (.string ⟨tn.toArray⟩)).setCell ⟨bX, 1, none⟩ (.slice a10 TL c10) = wf at *
          have hzK := hzG.trans (hbF.mono hzG.size)
          have hiG11 := hiG.call hbF
          have hwG11 := hwG.call hbF
          have hiK := hoB.attrs
          have q0 := hwG11.cell 0
          have q1 := hwG11.cell 1
          have r0 := hQ.cell 0
          have r1 := hQ.cell 1
          simp only [List.getElem?_toArray, List.getElem?_cons_zero, List.getElem?_cons_succ] at q0 q1 r0 r1
          clear hX hP hoA hoB ho10 HRA2 HRB2 HM4 hHeld hiG hwG hwE7
          by_cases hsc : sc = 0
          case neg =>
            have hez : (sc != 0) = true := by simpa using hsc
            clear HP2 hsc hiG11 hiK
            go_wp2_with fail
            go_ret
            exact ⟨rfl, hzK⟩
          subst hsc
          have hp := HP2.out ⟨sn, sa⟩ rfl
          simp only [Prod.mk.injEq, EnS.En.mk.injEq] at hp
          obtain ⟨⟨rfl, rfl⟩, rfl⟩ := hp
          have hTS : TL = SL := by omega
          subst hTS
          have hsa := same09_c tn ta (.slice a6 TL c6) (.slice a10 TL c10) _ hiG11 hiK hft2.1.1 (fun x hx => (hft2.1.2 x hx).1)
          unfold True_ at hsa
          clear HP2 hiG11 hiK
          go_wp2_with fail
          refine hsa.mono ?_; rintro e w12 ⟨rfl, hb12⟩
          go_wp2_with fail
          go_ret
          exact ⟨rfl, below_trans hzK hb12⟩
        · (try simp only [List.getElem_cons_succ, List.getElem_cons_zero])
          refine if_step (by rfl) ?_
          go_simp
          have hX := Whole.made w9 24 #[.string ⟨#[]⟩, .slice none 0 0]
          have hga := grow1 w9 (.cells #[.string ⟨#[]⟩, .slice none 0 0] 24)
          have hgx : w7.heap.size ≤ w9.heap.size := hbD.size
          have hxr : (Value.slice a5 (AL + BL) c5).ownBlock ≠ some w9.heap.size := fun e => by
            have h1 := (hO.block e).2
            omega
          have hO := hO.call hga
          replace hbD := hbD.trans (hga.mono hbD.size)
          clear hga
          generalize w9.alloc (.cells #[.string ⟨#[]⟩, .slice none 0 0] 24) = wx at *
          generalize w9.heap.size = bX at *
          refine hK.out _ _ ?_ (fun hHeld => ?_)
          · exact ⟨keepC e0 hbD, keepC e1 hbD⟩
          clear hK K
          (try simp only [List.getElem_cons_succ, List.getElem_cons_zero, Act.put, List.setIfInBounds_toArray, List.set_cons_zero, List.set_cons_succ])
          refine head_step 6 (by simp only [List.length_cons, List.length_nil]; decide) (by kernel_rfl) (fun K hK => ?_)
          (try simp only [List.getElem_cons_succ, List.getElem_cons_zero])
          refine if_step (by rfl) ?_
          go_simp
          refine (HM4.out wx hbD _ hO.chgs).mono ?_
          rintro e w10 ⟨u10, rfl, ho10, hb10⟩
          obtain ⟨a10, c10, hv10⟩ := ho10.form
          rw [hTL] at hv10
          subst hv10
          have hX := hX.call hb10
          replace hbD := hbD.trans (hb10.mono hbD.size)
          clear hb10
          (try dsimp only)
          refine hK.out _ _ ?_ (fun hHeld => ?_)
          · exact ⟨keepC e0 hbD, keepC e1 hbD⟩
          clear hK K
          (try simp only [Act.put, List.setIfInBounds_toArray, List.set_cons_zero, List.set_cons_succ])
          refine head_take 7 ?_ (by simp only [List.length_cons, List.length_nil]; decide) (by kernel_rfl) (fun _ _ _ h => h) (by rfl) ?_ hHeld ?_
          rotate_left
          · intro W hSw; (try simp only [List.getElem_cons_succ, List.getElem_cons_zero]); (try go_split_ands); go_simp; (try with_reducible rfl)
          (try simp only [List.getElem_cons_succ, List.getElem_cons_zero, Act.put, List.setIfInBounds_toArray, List.set_cons_zero, List.set_cons_succ])
          refine head_take 8 ?_ (by simp only [List.length_cons, List.length_nil]; decide) (by kernel_rfl) (fun _ _ _ h => h) (by rfl) ?_ hHeld ?_
          rotate_left
          · intro W hSw; (try simp only [List.getElem_cons_succ, List.getElem_cons_zero]); (try go_split_ands); go_simp; (try with_reducible rfl)
          (try simp only [List.getElem_cons_succ, List.getElem_cons_zero, Act.put, List.setIfInBounds_toArray, List.set_cons_zero, List.set_cons_succ])
          refine head_take 9 ?_ (by simp only [List.length_cons, List.length_nil]; decide) (by kernel_rfl) (fun _ _ _ h => h) (by rfl) ?_ hHeld ?_
          rotate_left
          · intro W hSw; (try simp only [List.getElem_cons_succ, List.getElem_cons_zero]); (try go_split_ands); go_simp; (try with_reducible rfl)
          (try simp only [List.getElem_cons_succ, List.getElem_cons_zero, Act.put, List.setIfInBounds_toArray, List.set_cons_zero, List.set_cons_succ])
          refine head_step 11 (by simp only [List.length_cons, List.length_nil]; decide) (by kernel_rfl) (fun K hK => ?_)
          (try simp only [List.getElem_cons_succ, List.getElem_cons_zero])
          refine if_step (by rfl) ?_
          have x0 := hX.cell 0
          have x1 := hX.cell 1
          have s0 := hX.thaw 0
          have s1 := hX.thaw 1
          simp only [List.getElem?_toArray, List.getElem?_cons_zero, List.getElem?_cons_succ] at x0 x1
          have hP := hX.put 0 (.string ⟨tn.toArray⟩)
          have hgC : w.heap.size ≤ bX := Nat.le_trans hzG.size hgx
          have hoA := ho10.other hX hgC (by decide) (by decide) 0 (.string ⟨tn.toArray⟩)
          simp only [List.setIfInBounds_toArray, List.set_cons_zero] at hP
          have hQ := hP.put 1 (.slice a10 TL c10)
          have hoB := hoA.other hP hgC (by decide) (by decide) 1 (.slice a10 TL c10)
          simp only [List.setIfInBounds_toArray, List.set_cons_succ, List.set_cons_zero] at hQ
          have hbF := (hbD.setCell (p := ⟨bX, 0, none⟩) hgx (.string ⟨tn.toArray⟩)).setCell (p := ⟨bX, 1, none⟩) hgx (.slice a10 TL c10)
          go_simp
          refine hK.out _ _ ?_ (fun hHeld => ?_)
          · exact ⟨keepC e0 hbF, keepC e1 hbF⟩
          clear hK K
          (try simp only [List.getElem_cons_succ, List.getElem_cons_zero, Act.put, List.setIfInBounds_toArray, List.set_cons_zero, List.set_cons_succ])
          refine head_end (by kernel_rfl) ?_
          simp only [List.drop_succ_cons, List.drop_zero]
          generalize (w10.setCell ⟨bX, 0, none⟩ (.string ⟨tn.toArray⟩)).setCell ⟨bX, 1, none⟩ (.slice a10 TL c10) = wf at *
          have hzK := hzG.trans (hbF.mono hzG.size)
          have hiG11 := hiG.call hbF
          have hwG11 := hwG.call hbF
          have hiK := hoB.attrs
          have q0 := hwG11.cell 0
          have q1 := hwG11.cell 1
          have r0 := hQ.cell 0
          have r1 := hQ.cell 1
          simp only [List.getElem?_toArray, List.getElem?_cons_zero, List.getElem?_cons_succ] at q0 q1 r0 r1
          clear hX hP hoA hoB ho10 HRA2 HRB2 HM4 hHeld hiG hwG hwE7
          by_cases hsc : sc = 0
          case neg =>
            have hez : (sc != 0) = true := by simpa using hsc
            clear HP2 hsc hiG11 hiK
            go_wp2_with fail
            go_ret
            exact ⟨rfl, hzK⟩
          subst hsc
          have hp := HP2.out ⟨sn, sa⟩ rfl
          simp only [Prod.mk.injEq, EnS.En.mk.injEq] at hp
          obtain ⟨⟨rfl, rfl⟩, rfl⟩ := hp
          have hTS : TL = SL := by omega
          subst hTS
          have hsa := same09_c tn ta (.slice a6 TL c6) (.slice a10 TL c10) _ hiG11 hiK hft2.1.1 (fun x hx => (hft2.1.2 x hx).1)
          unfold True_ at hsa
          clear HP2 hiG11 hiK
          go_wp2_with fail
          refine hsa.mono ?_; rintro e w12 ⟨rfl, hb12⟩
          go_wp2_with fail
          go_ret
          exact ⟨rfl, below_trans hzK hb12⟩
      · (try simp only [List.getElem_cons_succ, List.getElem_cons_zero])
        refine if_step (by rfl) ?_
        go_simp
        have hX := Whole.made w8 24 #[.string ⟨#[]⟩, .slice none 0 0]
        have hga := grow1 w8 (.cells #[.string ⟨#[]⟩, .slice none 0 0] 24)
        have hgx : w7.heap.size ≤ w8.heap.size := hbD.size
        have hxr : (Value.slice a3 AL c3).ownBlock ≠ some w8.heap.size := fun e => by
          have h1 := (hO.block e).2
          omega
        have hO := hO.call hga
        replace hbD := hbD.trans (hga.mono hbD.size)
        clear hga
        generalize w8.alloc (.cells #[.string ⟨#[]⟩, .slice none 0 0] 24) = wx at *
        generalize w8.heap.size = bX at *
        refine hK.out _ _ ?_ (fun hHeld => ?_)
        · exact ⟨keepC e0 hbD, keepC e1 hbD⟩
        clear hK K
        (try simp only [List.getElem_cons_succ, List.getElem_cons_zero, Act.put, List.setIfInBounds_toArray, List.set_cons_zero, List.set_cons_succ])
        refine head_step 5 (by simp only [List.length_cons, List.length_nil]; decide) (by kernel_rfl) (fun K hK => ?_)
        (try simp only [List.getElem_cons_succ, List.getElem_cons_zero])
        refine if_step (by rfl) ?_
        have hxs : wx.heap.size ≠ bX := fun e => by
          have h2 := hX.lt
          omega
        refine wp_g chG 39 25 Tryz.underlying25 HI.out hzz0 hzz1 (by rw [hzz2]; decide) (by rfl) _ _ (by rfl) (fun g => g < w.heap.size) w7.heap.size _ aas (by rfl) hO _ bbs (by rfl) (HRB2.out _ hbD _ hO) (by rw [hAL, hBL]; omega) hbD.size ?_
        intro v5 w9 hO5 hb5 hg5 hat5
        have hX : Whole w9 bX 24 #[.string ⟨#[]⟩, .slice none 0 0] := by
          have h1 := hg5.block bX hX.lt (fun e => hxr e.symm)
          unfold Whole at hX ⊢
          rw [h1]
          exact hX
        have hxr : v5.ownBlock ≠ some bX := fun e => by
          rcases hat5 with h | h
          · exact hxr (h ▸ e)
          · rw [h] at e
            have h1 : wx.heap.size = bX := Option.some.inj e
            exact hxs h1
        clear hO hg5 hat5
        have hO : OwnG chG 39 (fun g => g < w.heap.size) w9 w7.heap.size v5 (aas ++ bbs) := hO5
        clear hO5
        obtain ⟨a5, c5, hv5⟩ := hO.form
        rw [HAB.out] at hv5
        subst hv5
        replace hbD := hbD.trans hb5
        clear hb5
        clear hxs
        refine hK.out _ _ ?_ (fun hHeld => ?_)
        · exact ⟨keepC e0 hbD, keepC e1 hbD⟩
        clear hK K
        (try simp only [Act.put, List.setIfInBounds_toArray, List.set_cons_zero, List.set_cons_succ])
        refine head_step 6 (by simp only [List.length_cons, List.length_nil]; decide) (by kernel_rfl) (fun K hK => ?_)
        (try simp only [List.getElem_cons_succ, List.getElem_cons_zero])
        refine if_step (by rfl) ?_
        go_simp
        refine (HM4.out w9 hbD _ hO.chgs).mono ?_
        rintro e w10 ⟨u10, rfl, ho10, hb10⟩
        obtain ⟨a10, c10, hv10⟩ := ho10.form
        rw [hTL] at hv10
        subst hv10
        have hX := hX.call hb10
        replace hbD := hbD.trans (hb10.mono hbD.size)
        clear hb10
        (try dsimp only)
        refine hK.out _ _ ?_ (fun hHeld => ?_)
        · exact ⟨keepC e0 hbD, keepC e1 hbD⟩
        clear hK K
        (try simp only [Act.put, List.setIfInBounds_toArray, List.set_cons_zero, List.set_cons_succ])
        refine head_take 7 ?_ (by simp only [List.length_cons, List.length_nil]; decide) (by kernel_rfl) (fun _ _ _ h => h) (by rfl) ?_ hHeld ?_
        rotate_left
        · intro W hSw; (try simp only [List.getElem_cons_succ, List.getElem_cons_zero]); (try go_split_ands); go_simp; (try with_reducible rfl)
        (try simp only [List.getElem_cons_succ, List.getElem_cons_zero, Act.put, List.setIfInBounds_toArray, List.set_cons_zero, List.set_cons_succ])
        refine head_take 8 ?_ (by simp only [List.length_cons, List.length_nil]; decide) (by kernel_rfl) (fun _ _ _ h => h) (by rfl) ?_ hHeld ?_
        rotate_left
        · intro W hSw; (try simp only [List.getElem_cons_succ, List.getElem_cons_zero]); (try go_split_ands); go_simp; (try with_reducible rfl)
        (try simp only [List.getElem_cons_succ, List.getElem_cons_zero, Act.put, List.setIfInBounds_toArray, List.set_cons_zero, List.set_cons_succ])
        refine head_take 9 ?_ (by simp only [List.length_cons, List.length_nil]; decide) (by kernel_rfl) (fun _ _ _ h => h) (by rfl) ?_ hHeld ?_
        rotate_left
        · intro W hSw; (try simp only [List.getElem_cons_succ, List.getElem_cons_zero]); (try go_split_ands); go_simp; (try with_reducible rfl)
        (try simp only [List.getElem_cons_succ, List.getElem_cons_zero, Act.put, List.setIfInBounds_toArray, List.set_cons_zero, List.set_cons_succ])
        refine head_step 11 (by simp only [List.length_cons, List.length_nil]; decide) (by kernel_rfl) (fun K hK => ?_)
        (try simp only [List.getElem_cons_succ, List.getElem_cons_zero])
        refine if_step (by rfl) ?_
        have x0 := hX.cell 0
        have x1 := hX.cell 1
        have s0 := hX.thaw 0
        have s1 := hX.thaw 1
        simp only [List.getElem?_toArray, List.getElem?_cons_zero, List.getElem?_cons_succ] at x0 x1
        have hP := hX.put 0 (.string ⟨tn.toArray⟩)
        have hgC : w.heap.size ≤ bX := Nat.le_trans hzG.size hgx
        have hoA := ho10.other hX hgC (by decide) (by decide) 0 (.string ⟨tn.toArray⟩)
        simp only [List.setIfInBounds_toArray, List.set_cons_zero] at hP
        have hQ := hP.put 1 (.slice a10 TL c10)
        have hoB := hoA.other hP hgC (by decide) (by decide) 1 (.slice a10 TL c10)
        simp only [List.setIfInBounds_toArray, List.set_cons_succ, List.set_cons_zero] at hQ
        have hbF := (hbD.setCell (p := ⟨bX, 0, none⟩) hgx (.string ⟨tn.toArray⟩)).setCell (p := ⟨bX, 1, none⟩) hgx (.slice a10 TL c10)
        go_simp
        refine hK.out _ _ ?_ (fun hHeld => ?_)
        · exact ⟨keepC e0 hbF, keepC e1 hbF⟩
        clear hK K
        (try simp only [List.getElem_cons_succ, List.getElem_cons_zero, Act.put, List.setIfInBounds_toArray, List.set_cons_zero, List.set_cons_succ])
        refine head_end (by kernel_rfl) ?_
        simp only [List.drop_succ_cons, List.drop_zero]
        generalize (w10.setCell ⟨bX, 0, none⟩ (.string ⟨tn.toArray⟩)).setCell ⟨bX, 1, none⟩ (.slice a10 TL c10) = wf at *
        have hzK := hzG.trans (hbF.mono hzG.size)
        have hiG11 := hiG.call hbF
        have hwG11 := hwG.call hbF
        have hiK := hoB.attrs
        have q0 := hwG11.cell 0
        have q1 := hwG11.cell 1
        have r0 := hQ.cell 0
        have r1 := hQ.cell 1
        simp only [List.getElem?_toArray, List.getElem?_cons_zero, List.getElem?_cons_succ] at q0 q1 r0 r1
        clear hX hP hoA hoB ho10 HRA2 HRB2 HM4 hHeld hiG hwG hwE7
        by_cases hsc : sc = 0
        case neg =>
          have hez : (sc != 0) = true := by simpa using hsc
          clear HP2 hsc hiG11 hiK
          go_wp2_with fail
          go_ret
          exact ⟨rfl, hzK⟩
        subst hsc
        have hp := HP2.out ⟨sn, sa⟩ rfl
        simp only [Prod.mk.injEq, EnS.En.mk.injEq] at hp
        obtain ⟨⟨rfl, rfl⟩, rfl⟩ := hp
        have hTS : TL = SL := by omega
        subst hTS
        have hsa := same09_c tn ta (.slice a6 TL c6) (.slice a10 TL c10) _ hiG11 hiK hft2.1.1 (fun x hx => (hft2.1.2 x hx).1)
        unfold True_ at hsa
        clear HP2 hiG11 hiK
        go_wp2_with fail
        refine hsa.mono ?_; rintro e w12 ⟨rfl, hb12⟩
        go_wp2_with fail
        go_ret
        exact ⟨rfl, below_trans hzK hb12⟩
    · (try simp only [List.getElem_cons_succ, List.getElem_cons_zero])
      refine if_step (by rfl) ?_
      go_simp
      have hX := Whole.made w1a 24 #[.string ⟨#[]⟩, .slice none 0 0]
      have hga := grow1 w1a (.cells #[.string ⟨#[]⟩, .slice none 0 0] 24)
      have hgx : w7.heap.size ≤ w1a.heap.size := hbD.size
      have hxr : (Value.slice (some ⟨b1a, 0, none⟩) 0 0).ownBlock ≠ some w1a.heap.size := fun e => by
        have h1 := (hO.block e).2
        omega
      have hO := hO.call hga
      replace hbD := hbD.trans (hga.mono hbD.size)
      clear hga
      generalize w1a.alloc (.cells #[.string ⟨#[]⟩, .slice none 0 0] 24) = wx at *
      generalize w1a.heap.size = bX at *
      refine hK.out _ _ ?_ (fun hHeld => ?_)
      · exact ⟨keepC e0 hbD, keepC e1 hbD⟩
      clear hK K
      (try simp only [List.getElem_cons_succ, List.getElem_cons_zero, Act.put, List.setIfInBounds_toArray, List.set_cons_zero, List.set_cons_succ])
      refine head_step 3 (by simp only [List.length_cons, List.length_nil]; decide) (by kernel_rfl) (fun K hK => ?_)
      (try simp only [List.getElem_cons_succ, List.getElem_cons_zero])
      refine if_step (by rfl) ?_
      have hxs : wx.heap.size ≠ bX := fun e => by
        have h2 := hX.lt
        omega
      refine wp_g chG 39 25 Tryz.underlying25 HI.out hzz0 hzz1 (by rw [hzz2]; decide) (by rfl) _ _ (by rfl) (fun g => g < w.heap.size) w7.heap.size _ [] (by rfl) hO _ aas (by rfl) (HRA2.out _ hbD _ hO) (by rw [hAL]; simp; omega) hbD.size ?_
      intro v3 w8 hO3 hb3 hg3 hat3
      have hX : Whole w8 bX 24 #[.string ⟨#[]⟩, .slice none 0 0] := by
        have h1 := hg3.block bX hX.lt (fun e => hxr e.symm)
        unfold Whole at hX ⊢
        rw [h1]
        exact hX
      have hxr : v3.ownBlock ≠ some bX := fun e => by
        rcases hat3 with h | h
        · exact hxr (h ▸ e)
        · rw [h] at e
          have h1 : wx.heap.size = bX := Option.some.inj e
          exact hxs h1
      clear hO hg3 hat3
      have hO : OwnG chG 39 (fun g => g < w.heap.size) w8 w7.heap.size v3 (aas) := hO3
      clear hO3
      obtain ⟨a3, c3, hv3⟩ := hO.form
      rw [hAL] at hv3
      subst hv3
      replace hbD := hbD.trans hb3
      clear hb3
      clear hxs
      refine hK.out _ _ ?_ (fun hHeld => ?_)
      · exact ⟨keepC e0 hbD, keepC e1 hbD⟩
      clear hK K
      (try simp only [Act.put, List.setIfInBounds_toArray, List.set_cons_zero, List.set_cons_succ])
      refine head_step 5 (by simp only [List.length_cons, List.length_nil]; decide) (by kernel_rfl) (fun K hK => ?_)
      (try simp only [List.getElem_cons_succ, List.getElem_cons_zero])
      refine if_step (by rfl) ?_
      have hxs : w8.heap.size ≠ bX := fun e => by
        have h2 := hX.lt
        omega
      refine wp_g chG 39 25 Tryz.underlying25 HI.out hzz0 hzz1 (by rw [hzz2]; decide) (by rfl) _ _ (by rfl) (fun g => g < w.heap.size) w7.heap.size _ aas (by rfl) hO _ bbs (by rfl) (HRB2.out _ hbD _ hO) (by rw [hAL, hBL]; omega) hbD.size ?_
      intro v5 w9 hO5 hb5 hg5 hat5
      have hX : Whole w9 bX 24 #[.string ⟨#[]⟩, .slice none 0 0] := by
        have h1 := hg5.block bX hX.lt (fun e => hxr e.symm)
        unfold Whole at hX ⊢
        rw [h1]
        exact hX
      have hxr : v5.ownBlock ≠ some bX := fun e => by
        rcases hat5 with h | h
        · exact hxr (h ▸ e)
        · rw [h] at e
          have h1 : w8.heap.size = bX := Option.some.inj e
          exact hxs h1
      clear hO hg5 hat5
      have hO : OwnG chG 39 (fun g => g < w.heap.size) w9 w7.heap.size v5 (aas ++ bbs) := hO5
      clear hO5
      obtain ⟨a5, c5, hv5⟩ := hO.form
      rw [HAB.out] at hv5
      subst hv5
      replace hbD := hbD.trans hb5
      clear hb5
      clear hxs
      refine hK.out _ _ ?_ (fun hHeld => ?_)
      · exact ⟨keepC e0 hbD, keepC e1 hbD⟩
      clear hK K
      (try simp only [Act.put, List.setIfInBounds_toArray, List.set_cons_zero, List.set_cons_succ])
      refine head_step 6 (by simp only [List.length_cons, List.length_nil]; decide) (by kernel_rfl) (fun K hK => ?_)
      (try simp only [List.getElem_cons_succ, List.getElem_cons_zero])
      refine if_step (by rfl) ?_
      go_simp
      refine (HM4.out w9 hbD _ hO.chgs).mono ?_
      rintro e w10 ⟨u10, rfl, ho10, hb10⟩
      obtain ⟨a10, c10, hv10⟩ := ho10.form
      rw [hTL] at hv10
      subst hv10
      have hX := hX.call hb10
      replace hbD := hbD.trans (hb10.mono hbD.size)
      clear hb10
      (try dsimp only)
      refine hK.out _ _ ?_ (fun hHeld => ?_)
      · exact ⟨keepC e0 hbD, keepC e1 hbD⟩
      clear hK K
      (try simp only [Act.put, List.setIfInBounds_toArray, List.set_cons_zero, List.set_cons_succ])
      refine head_take 7 ?_ (by simp only [List.length_cons, List.length_nil]; decide) (by kernel_rfl) (fun _ _ _ h => h) (by rfl) ?_ hHeld ?_
      rotate_left
      · intro W hSw; (try simp only [List.getElem_cons_succ, List.getElem_cons_zero]); (try go_split_ands); go_simp; (try with_reducible rfl)
      (try simp only [List.getElem_cons_succ, List.getElem_cons_zero, Act.put, List.setIfInBounds_toArray, List.set_cons_zero, List.set_cons_succ])
      refine head_take 8 ?_ (by simp only [List.length_cons, List.length_nil]; decide) (by kernel_rfl) (fun _ _ _ h => h) (by rfl) ?_ hHeld ?_
      rotate_left
      · intro W hSw; (try simp only [List.getElem_cons_succ, List.getElem_cons_zero]); (try go_split_ands); go_simp; (try with_reducible rfl)
      (try simp only [List.getElem_cons_succ, List.getElem_cons_zero, Act.put, List.setIfInBounds_toArray, List.set_cons_zero, List.set_cons_succ])
      refine head_take 9 ?_ (by simp only [List.length_cons, List.length_nil]; decide) (by kernel_rfl) (fun _ _ _ h => h) (by rfl) ?_ hHeld ?_
      rotate_left
      · intro W hSw; (try simp only [List.getElem_cons_succ, List.getElem_cons_zero]); (try go_split_ands); go_simp; (try with_reducible rfl)
      (try simp only [List.getElem_cons_succ, List.getElem_cons_zero, Act.put, List.setIfInBounds_toArray, List.set_cons_zero, List.set_cons_succ])
      refine head_step 11 (by simp only [List.length_cons, List.length_nil]; decide) (by kernel_rfl) (fun K hK => ?_)
      (try simp only [List.getElem_cons_succ, List.getElem_cons_zero])
      refine if_step (by rfl) ?_
      have x0 := hX.cell 0
      have x1 := hX.cell 1
      have s0 := hX.thaw 0
      have s1 := hX.thaw 1
      simp only [List.getElem?_toArray, List.getElem?_cons_zero, List.getElem?_cons_succ] at x0 x1
      have hP := hX.put 0 (.string ⟨tn.toArray⟩)
      have hgC : w.heap.size ≤ bX := Nat.le_trans hzG.size hgx
      have hoA := ho10.other hX hgC (by decide) (by decide) 0 (.string ⟨tn.toArray⟩)
      simp only [List.setIfInBounds_toArray, List.set_cons_zero] at hP
      have hQ := hP.put 1 (.slice a10 TL c10)
      have hoB := hoA.other hP hgC (by decide) (by decide) 1 (.slice a10 TL c10)
      simp only [List.setIfInBounds_toArray, List.set_cons_succ, List.set_cons_zero] at hQ
      have hbF := (hbD.setCell (p := ⟨bX, 0, none⟩) hgx (.string ⟨tn.toArray⟩)).setCell (p := ⟨bX, 1, none⟩) hgx (.slice a10 TL c10)
      go_simp
      refine hK.out _ _ ?_ (fun hHeld => ?_)
      · exact ⟨keepC e0 hbF, keepC e1 hbF⟩
      clear hK K
      (try simp only [List.getElem_cons_succ, List.getElem_cons_zero, Act.put, List.setIfInBounds_toArray, List.set_cons_zero, List.set_cons_succ])
      refine head_end (by kernel_rfl) ?_
      simp only [List.drop_succ_cons, List.drop_zero]
      generalize (w10.setCell ⟨bX, 0, none⟩ (.string ⟨tn.toArray⟩)).setCell ⟨bX, 1, none⟩ (.slice a10 TL c10) = wf at *
      have hzK := hzG.trans (hbF.mono hzG.size)
      have hiG11 := hiG.call hbF
      have hwG11 := hwG.call hbF
      have hiK := hoB.attrs
      have q0 := hwG11.cell 0
      have q1 := hwG11.cell 1
      have r0 := hQ.cell 0
      have r1 := hQ.cell 1
      simp only [List.getElem?_toArray, List.getElem?_cons_zero, List.getElem?_cons_succ] at q0 q1 r0 r1
      clear hX hP hoA hoB ho10 HRA2 HRB2 HM4 hHeld hiG hwG hwE7
      by_cases hsc : sc = 0
      case neg =>
        have hez : (sc != 0) = true := by simpa using hsc
        clear HP2 hsc hiG11 hiK
        go_wp2_with fail
        go_ret
        exact ⟨rfl, hzK⟩
      subst hsc
      have hp := HP2.out ⟨sn, sa⟩ rfl
      simp only [Prod.mk.injEq, EnS.En.mk.injEq] at hp
      obtain ⟨⟨rfl, rfl⟩, rfl⟩ := hp
      have hTS : TL = SL := by omega
      subst hTS
      have hsa := same09_c tn ta (.slice a6 TL c6) (.slice a10 TL c10) _ hiG11 hiK hft2.1.1 (fun x hx => (hft2.1.2 x hx).1)
      unfold True_ at hsa
      clear HP2 hiG11 hiK
      go_wp2_with fail
      refine hsa.mono ?_; rintro e w12 ⟨rfl, hb12⟩
      go_wp2_with fail
      go_ret
      exact ⟨rfl, below_trans hzK hb12⟩
  · (try simp only [List.getElem_cons_succ, List.getElem_cons_zero])
    refine if_step (by rfl) ?_
    go_simp
    have hX := Whole.made wd 24 #[.string ⟨#[]⟩, .slice none 0 0]
    have hga := grow1 wd (.cells #[.string ⟨#[]⟩, .slice none 0 0] 24)
    have hgx : w7.heap.size ≤ wd.heap.size := hbD.size
    replace hbD := hbD.trans (hga.mono hbD.size)
    clear hga
    generalize wd.alloc (.cells #[.string ⟨#[]⟩, .slice none 0 0] 24) = wx at *
    generalize wd.heap.size = bX at *
    refine hK.out _ _ ?_ (fun hHeld => ?_)
    · exact ⟨keepC e0 hbD, keepC e1 hbD⟩
    clear hK K
    (try simp only [List.getElem_cons_succ, List.getElem_cons_zero, Act.put, List.setIfInBounds_toArray, List.set_cons_zero, List.set_cons_succ])
    refine head_step 1 (by simp only [List.length_cons, List.length_nil]; decide) (by kernel_rfl) (fun K hK => ?_)
    (try simp only [List.getElem_cons_succ, List.getElem_cons_zero])
    refine if_step (by rfl) ?_
    go_simp
    have hga := grow1 wx (.cells #[] 39)
    have hO := (OwnG.made0 chG 39 (fun g => g < w.heap.size) wx).mono hbD.size
    have hxr : (Value.slice (some ⟨wx.heap.size, 0, none⟩) 0 0).ownBlock ≠ some bX := fun e => by
      have h1 : wx.heap.size = bX := Option.some.inj e
      have h2 := hX.lt
      omega
    have hX := hX.call hga
    replace hbD := hbD.trans (hga.mono hbD.size)
    clear hga
    generalize wx.alloc (.cells #[] 39) = w1a at *
    generalize wx.heap.size = b1a at *
    refine hK.out _ _ ?_ (fun hHeld => ?_)
    · exact ⟨keepC e0 hbD, keepC e1 hbD⟩
    clear hK K
    (try simp only [List.getElem_cons_succ, List.getElem_cons_zero, Act.put, List.setIfInBounds_toArray, List.set_cons_zero, List.set_cons_succ])
    refine head_step 3 (by simp only [List.length_cons, List.length_nil]; decide) (by kernel_rfl) (fun K hK => ?_)
    (try simp only [List.getElem_cons_succ, List.getElem_cons_zero])
    refine if_step (by rfl) ?_
    have hxs : w1a.heap.size ≠ bX := fun e => by
      have h2 := hX.lt
      omega
    refine wp_g chG 39 25 Tryz.underlying25 HI.out hzz0 hzz1 (by rw [hzz2]; decide) (by rfl) _ _ (by rfl) (fun g => g < w.heap.size) w7.heap.size _ [] (by rfl) hO _ aas (by rfl) (HRA2.out _ hbD _ hO) (by rw [hAL]; simp; omega) hbD.size ?_
    intro v3 w8 hO3 hb3 hg3 hat3
    have hX : Whole w8 bX 24 #[.string ⟨#[]⟩, .slice none 0 0] := by
      have h1 := hg3.block bX hX.lt (fun e => hxr e.symm)
      unfold Whole at hX ⊢
      rw [h1]
      exact hX
    have hxr : v3.ownBlock ≠ some bX := fun e => by
      rcases hat3 with h | h
      · exact hxr (h ▸ e)
      · rw [h] at e
        have h1 : w1a.heap.size = bX := Option.some.inj e
        exact hxs h1
    clear hO hg3 hat3
    have hO : OwnG chG 39 (fun g => g < w.heap.size) w8 w7.heap.size v3 (aas) := hO3
    clear hO3
    obtain ⟨a3, c3, hv3⟩ := hO.form
    rw [hAL] at hv3
    subst hv3
    replace hbD := hbD.trans hb3
    clear hb3
    clear hxs
    refine hK.out _ _ ?_ (fun hHeld => ?_)
    · exact ⟨keepC e0 hbD, keepC e1 hbD⟩
    clear hK K
    (try simp only [Act.put, List.setIfInBounds_toArray, List.set_cons_zero, List.set_cons_succ])
    refine head_step 5 (by simp only [List.length_cons, List.length_nil]; decide) (by kernel_rfl) (fun K hK => ?_)
    (try simp only [List.getElem_cons_succ, List.getElem_cons_zero])
    refine if_step (by rfl) ?_
    have hxs : w8.heap.size ≠ bX := fun e => by
      have h2 := hX.lt
      omega
    refine wp_g chG 39 25 Tryz.underlying25 HI.out hzz0 hzz1 (by rw [hzz2]; decide) (by rfl) _ _ (by rfl) (fun g => g < w.heap.size) w7.heap.size _ aas (by rfl) hO _ bbs (by rfl) (HRB2.out _ hbD _ hO) (by rw [hAL, hBL]; omega) hbD.size ?_
    intro v5 w9 hO5 hb5 hg5 hat5
    have hX : Whole w9 bX 24 #[.string ⟨#[]⟩, .slice none 0 0] := by
      have h1 := hg5.block bX hX.lt (fun e => hxr e.symm)
      unfold Whole at hX ⊢
      rw [h1]
      exact hX
    have hxr : v5.ownBlock ≠ some bX := fun e => by
      rcases hat5 with h | h
      · exact hxr (h ▸ e)
      · rw [h] at e
        have h1 : w8.heap.size = bX := Option.some.inj e
        exact hxs h1
    clear hO hg5 hat5
    have hO : OwnG chG 39 (fun g => g < w.heap.size) w9 w7.heap.size v5 (aas ++ bbs) := hO5
    clear hO5
    obtain ⟨a5, c5, hv5⟩ := hO.form
    rw [HAB.out] at hv5
    subst hv5
    replace hbD := hbD.trans hb5
    clear hb5
    clear hxs
    refine hK.out _ _ ?_ (fun hHeld => ?_)
    · exact ⟨keepC e0 hbD, keepC e1 hbD⟩
    clear hK K
    (try simp only [Act.put, List.setIfInBounds_toArray, List.set_cons_zero, List.set_cons_succ])
    refine head_step 6 (by simp only [List.length_cons, List.length_nil]; decide) (by kernel_rfl) (fun K hK => ?_)
    (try simp only [List.getElem_cons_succ, List.getElem_cons_zero])
    refine if_step (by rfl) ?_
    go_simp
    refine (HM4.out w9 hbD _ hO.chgs).mono ?_
    rintro e w10 ⟨u10, rfl, ho10, hb10⟩
    obtain ⟨a10, c10, hv10⟩ := ho10.form
    rw [hTL] at hv10
    subst hv10
    have hX := hX.call hb10
    replace hbD := hbD.trans (hb10.mono hbD.size)
    clear hb10
    (try dsimp only)
    refine hK.out _ _ ?_ (fun hHeld => ?_)
    · exact ⟨keepC e0 hbD, keepC e1 hbD⟩
    clear hK K
    (try simp only [Act.put, List.setIfInBounds_toArray, List.set_cons_zero, List.set_cons_succ])
    refine head_take 7 ?_ (by simp only [List.length_cons, List.length_nil]; decide) (by kernel_rfl) (fun _ _ _ h => h) (by rfl) ?_ hHeld ?_
    rotate_left
    · intro W hSw; (try simp only [List.getElem_cons_succ, List.getElem_cons_zero]); (try go_split_ands); go_simp; (try with_reducible rfl)
    (try simp only [List.getElem_cons_succ, List.getElem_cons_zero, Act.put, List.setIfInBounds_toArray, List.set_cons_zero, List.set_cons_succ])
    refine head_take 8 ?_ (by simp only [List.length_cons, List.length_nil]; decide) (by kernel_rfl) (fun _ _ _ h => h) (by rfl) ?_ hHeld ?_
    rotate_left
    · intro W hSw; (try simp only [List.getElem_cons_succ, List.getElem_cons_zero]); (try go_split_ands); go_simp; (try with_reducible rfl)
    (try simp only [List.getElem_cons_succ, List.getElem_cons_zero, Act.put, List.setIfInBounds_toArray, List.set_cons_zero, List.set_cons_succ])
    refine head_take 9 ?_ (by simp only [List.length_cons, List.length_nil]; decide) (by kernel_rfl) (fun _ _ _ h => h) (by rfl) ?_ hHeld ?_
    rotate_left
    · intro W hSw; (try simp only [List.getElem_cons_succ, List.getElem_cons_zero]); (try go_split_ands); go_simp; (try with_reducible rfl)
    (try simp only [List.getElem_cons_succ, List.getElem_cons_zero, Act.put, List.setIfInBounds_toArray, List.set_cons_zero, List.set_cons_succ])
    refine head_step 11 (by simp only [List.length_cons, List.length_nil]; decide) (by kernel_rfl) (fun K hK => ?_)
    (try simp only [List.getElem_cons_succ, List.getElem_cons_zero])
    refine if_step (by rfl) ?_
    have x0 := hX.cell 0
    have x1 := hX.cell 1
    have s0 := hX.thaw 0
    have s1 := hX.thaw 1
    simp only [List.getElem?_toArray, List.getElem?_cons_zero, List.getElem?_cons_succ] at x0 x1
    have hP := hX.put 0 (.string ⟨tn.toArray⟩)
    have hgC : w.heap.size ≤ bX := Nat.le_trans hzG.size hgx
    have hoA := ho10.other hX hgC (by decide) (by decide) 0 (.string ⟨tn.toArray⟩)
    simp only [List.setIfInBounds_toArray, List.set_cons_zero] at hP
    have hQ := hP.put 1 (.slice a10 TL c10)
    have hoB := hoA.other hP hgC (by decide) (by decide) 1 (.slice a10 TL c10)
    simp only [List.setIfInBounds_toArray, List.set_cons_succ, List.set_cons_zero] at hQ
    have hbF := (hbD.setCell (p := ⟨bX, 0, none⟩) hgx (.string ⟨tn.toArray⟩)).setCell (p := ⟨bX, 1, none⟩) hgx (.slice a10 TL c10)
    go_simp
    refine hK.out _ _ ?_ (fun hHeld => ?_)
    · exact ⟨keepC e0 hbF, keepC e1 hbF⟩
    clear hK K
    (try simp only [List.getElem_cons_succ, List.getElem_cons_zero, Act.put, List.setIfInBounds_toArray, List.set_cons_zero, List.set_cons_succ])
    refine head_end (by kernel_rfl) ?_
    simp only [List.drop_succ_cons, List.drop_zero]
    generalize (w10.setCell ⟨bX, 0, none⟩ (.string ⟨tn.toArray⟩)).setCell ⟨bX, 1, none⟩ (.slice a10 TL c10) = wf at *
    have hzK := hzG.trans (hbF.mono hzG.size)
    have hiG11 := hiG.call hbF
    have hwG11 := hwG.call hbF
    have hiK := hoB.attrs
    have q0 := hwG11.cell 0
    have q1 := hwG11.cell 1
    have r0 := hQ.cell 0
    have r1 := hQ.cell 1
    simp only [List.getElem?_toArray, List.getElem?_cons_zero, List.getElem?_cons_succ] at q0 q1 r0 r1
    clear hX hP hoA hoB ho10 HRA2 HRB2 HM4 hHeld hiG hwG hwE7
    by_cases hsc : sc = 0
    case neg =>
      have hez : (sc != 0) = true := by simpa using hsc
      clear HP2 hsc hiG11 hiK
      go_wp2_with fail
      go_ret
      exact ⟨rfl, hzK⟩
    subst hsc
    have hp := HP2.out ⟨sn, sa⟩ rfl
    simp only [Prod.mk.injEq, EnS.En.mk.injEq] at hp
    obtain ⟨⟨rfl, rfl⟩, rfl⟩ := hp
    have hTS : TL = SL := by omega
    subst hTS
    have hsa := same09_c tn ta (.slice a6 TL c6) (.slice a10 TL c10) _ hiG11 hiK hft2.1.1 (fun x hx => (hft2.1.2 x hx).1)
    unfold True_ at hsa
    clear HP2 hiG11 hiK
    go_wp2_with fail
    refine hsa.mono ?_; rintro e w12 ⟨rfl, hb12⟩
    go_wp2_with fail
    go_ret
    exact ⟨rfl, below_trans hzK hb12⟩
theorem lawentryparts_c (u va vb : Value) (e : EnS.En) (aas bbs : List EnS.Ch) (w : World) (h : AttrsIn w u e.attrs) (hO : EnOf 1048576 e) (hN : EnS.cE e ≤ 1048576) (hva : ChgsIn w va aas) (haO : ∀ c ∈ aas, ChOf 1048576 c) (haN : EnS.sumBy EnS.cC aas ≤ 1048576) (hvb : ChgsIn w vb bbs) (hbO : ∀ c ∈ bbs, ChOf 1048576 c) (hbN : EnS.sumBy EnS.cC bbs ≤ 1048576) (hE : Env w) :
    Calls Tryz.prog 5 #[enV e.name u, va, vb] w (True_ w) := by
  obtain ⟨name, xs⟩ := e
  exact entryparts_c name u xs aas bbs va vb w h (fun a ha => (hO.2.2 a ha).1) hN hva (fun c hc => (haO c hc).1) haN hvb (fun c hc => (hbO c hc).1) hbN hE
end Go.Proofs.YtmnhgbkdahdoiaaGreatDoor
