/- The walk of the law EntryRenames. Conditions: the arguments' sizes are at most 1048576; the library's variables are laid. -/
import Derived.Test.YtdcljilfnkmloaaGreatDoorRRne
import Derived.Test.YtdcljilfnkmloaaGreatDoorRMki
namespace Go.Proofs.YtdcljilfnkmloaaGreatDoor
namespace EnS
open Go.Lib DnS

theorem lay_fit {n : List UInt8} {l : List At} {p : RdS.Pr} {N : Nat} (hp : goodP p) (hl : p.2.length ≤ 1000000) (h : FitQ N l) : FitQ (N + 1) (layP n l p) := by
  unfold layP
  split
  · exact fun a ha => ⟨by have := (h a ha).1; omega, (h a ha).2⟩
  · rw [values_good hp]
    have hv := h.values p.1
    refine h.set (by omega) p.1 (by rw [List.length_append]; show (valuesL l p.1).length + 1 ≤ _; have := hv.1; omega) (fun z hz => ?_)
    rcases List.mem_append.1 hz with hz | hz
    · exact hv.2 z hz
    · rw [List.mem_singleton] at hz; subst hz; exact hl
theorem layL_fit {n : List UInt8} : ∀ {ps : List RdS.Pr} {l : List At} {N : Nat}, (∀ p ∈ ps, goodP p ∧ p.2.length ≤ 1000000) → FitQ N l → FitQ (N + ps.length) (layL n l ps)
  | [], _, _, _, h => h
  | p :: r, l, N, hp, h => by
    have h1 := hp p (List.mem_cons_self ..)
    have := layL_fit (n := n) (ps := r) (fun q hq => hp q (List.mem_cons_of_mem _ hq)) (lay_fit (n := n) h1.1 h1.2 h)
    rw [List.length_cons, show N + (r.length + 1) = N + 1 + r.length from by omega]
    exact this
theorem less_fit {n : List UInt8} {del : Bool} {fresh : List RdS.Pr} {l : List At} {p : RdS.Pr} {N : Nat} (hp : goodP p) (h : FitQ N l) : FitQ N (lessP n del fresh l p) := by
  unfold lessP
  split
  · rw [values_good hp]
    have hv := h.values p.1
    have hs := without_sub p.1 (valuesL l p.1) p.2
    exact h.set (Nat.le_refl _) p.1 (Nat.le_trans hs.length_le hv.1) (fun z hz => hv.2 z (hs.subset hz))
  · exact h
theorem lessL_fit {n : List UInt8} {del : Bool} {fresh : List RdS.Pr} : ∀ {ps : List RdS.Pr} {l : List At} {N : Nat}, (∀ p ∈ ps, goodP p) → FitQ N l → FitQ N (lessL n del fresh l ps)
  | [], _, _, _, h => h
  | p :: r, _, _, hp, h => lessL_fit (ps := r) (fun q hq => hp q (List.mem_cons_of_mem _ hq)) (less_fit (hp p (List.mem_cons_self ..)) h)
end EnS
open Go.RowKit
attribute [local go_sem ↓] Go.wp_at_zero Go.wp_at_succ
theorem rename_fit {e : EnS.En} {tn : List UInt8} {del : Bool} (hf : FitA e.attrs) : FitA (EnS.renameS e tn del).1.attrs ∧ (EnS.renameS e tn del).1.name.length ≤ 1000 := by
  unfold EnS.renameS
  split
  · rename_i hfo
    split
    · exact ⟨⟨by simp, fun a ha => by cases ha⟩, by simp⟩
    · unfold EnS.doneS
      split
      · have h1 := EnS.formed_sound2 hfo
        have hs := pairs_small tn
        have hq : EnS.FitQ 20 e.attrs := fun a ha => ⟨h1.2 a ha, (hf.2 a ha).2⟩
        have hl := EnS.layL_fit (n := (DnS.normN tn).1) (ps := EnS.pairsS tn) (fun p hp => ⟨EnS.pairs_good p hp, by have := (hs.2 p hp).2; omega⟩) hq
        refine ⟨FitQ.fit (EnS.lessL_fit EnS.pairs_good hl) (by have := hs.1; omega) (EnS.lessL_sound EnS.pairs_good (EnS.layL_sound EnS.pairs_good h1.1)), DnS.norm_len tn⟩
      · exact ⟨⟨by simp, fun a ha => by cases ha⟩, by simp⟩
  · exact ⟨⟨by simp, fun a ha => by cases ha⟩, by simp⟩
set_option maxRecDepth 100000 in
set_option maxHeartbeats 4000000 in
theorem entryrenames_c (name : List UInt8) (u : Value) (xs : List EnS.At) (tn : List UInt8) (del : Bool) (w : World) (h : AttrsIn w u xs) (hT : ∀ a ∈ xs, a.typ.length ≤ 1048576) (hN : EnS.cE ⟨name, xs⟩ ≤ 1048576) (hs : tn.length ≤ 1048576) (hE : Env w) :
    Calls Tryz.prog 4 #[.agg #[.string ⟨name.toArray⟩, u], .string ⟨tn.toArray⟩, .bool del] w (True_ w) := by
  have HIN := Lib.hid (fun W (hb : Below w.heap.size w W) => AttrsE.callT (AttrsP.exp (AttrsP.base h [9])) hb)
  have HEN := Lib.hid (fun W (hb : Below w.heap.size w W) => hE.below hb)
  have hfew := fun W (hb : Below w.heap.size w W) => few09_c (.slice (some ⟨W.heap.size, 0, none⟩) 1 1) [⟨name, xs⟩] _ (ens_one (name := name) (AttrsP.call h hb)) (by show EnS.cE ⟨name, xs⟩ + 0 ≤ _; simpa using hN)
  unfold FewRet9 at hfew
  have HCF := Lib.hid (fun h => cost_fit (xs := [⟨name, xs⟩]) h)
  obtain ⟨a, c, rfl, hc⟩ := SliceP.form h
  have hg0 := grow1 w (.cells #[.string ⟨name.toArray⟩, .slice a xs.length c] 26)
  have hw0 := Whole.made w 26 #[.string ⟨name.toArray⟩, .slice a xs.length c]
  clear h hN
  go_enter Tryz.func4, Tryz.ntmps4
  go_wp2_with fail
  refine (awake09_c _ (HEN.out _ hg0)).mono ?_; rintro e w1 ⟨rfl, hb1⟩
  have hz1 := below_trans hg0 hb1
  have hw1 := hw0.call hb1
  have hf1 := hfew _ hz1
  have hgA := grow1 w1 (.cells #[.string ⟨name.toArray⟩, .slice a xs.length c] 26)
  have hzA := below_trans hz1 hgA
  have q0 := hw1.cell 0
  have q1 := hw1.cell 1
  simp only [List.getElem?_toArray, List.getElem?_cons_zero, List.getElem?_cons_succ] at q0 q1
  clear hE hfew hw0
  go_wp2_with fail
  refine hf1.mono ?_; rintro e w2 ⟨b, rfl, hok, hb2⟩
  have hz2 := below_trans hzA hb2
  have hw2 := (hw1.call hgA).call hb2
  clear hf1 hzA hb1 hb2 hgA hw1 hz1 hg0 q0 q1
  cases b with
  | false =>
    clear hok hw2
    go_wp2_with fail
    refine (awake09_c _ (HEN.out _ hz2)).mono ?_; rintro e w9 ⟨rfl, hb9⟩
    go_wp2_with fail
    go_ret
    exact ⟨rfl, below_trans hz2 hb9⟩
  | true =>
  by_cases h3 : 3000 < tn.length
  · have h3i : decide ((3000 : Int) < (tn.length : Int)) = true := decide_eq_true (by omega)
    clear hok hw2
    go_wp2_with fail
    refine (awake09_c _ (HEN.out _ hz2)).mono ?_; rintro e w9 ⟨rfl, hb9⟩
    go_wp2_with fail
    go_ret
    exact ⟨rfl, below_trans hz2 hb9⟩
  have h3i : decide ((3000 : Int) < (tn.length : Int)) = false := decide_eq_false (by omega)
  have hfe := (HCF.out (hok rfl)).2 _ (List.mem_singleton.2 rfl)
  simp only at hfe
  have hmk := fun W hb => enrename_c w.heap.size name xs (.slice a xs.length c) tn del W (Below.size hb) (HIN.out W hb) hfe.2 hT hfe.1 (by omega) (HEN.out W hb)
  have hrm := fun W hb => refrename_c w.heap.size name xs (.slice a xs.length c) tn del W (Below.size hb) (HIN.out W hb) hfe.2 hT hfe.1 (by omega) (HEN.out W hb)
  unfold MakeRet at hmk hrm
  have hft := rename_fit (e := ⟨name, xs⟩) (tn := tn) (del := del) hfe.2
  have HFO := Lib.hid (fun f h => EnS.rename_formed (e := ⟨name, xs⟩) (tn := tn) (del := del) (f := f) h)
  have q0 := hw2.cell 0
  have q1 := hw2.cell 1
  simp only [List.getElem?_toArray, List.getElem?_cons_zero, List.getElem?_cons_succ] at q0 q1
  clear hok HCF hfe hT HIN
  generalize EnS.renameS ⟨name, xs⟩ tn del = R at *
  obtain ⟨⟨rn, ra⟩, rc⟩ := R
  simp only at hmk hrm hft
  obtain ⟨hfa, hrn⟩ := hft
  obtain ⟨RL, hRL⟩ : ∃ n, ra.length = n := ⟨_, rfl⟩
  generalize xs.length = YL at *
  go_wp2_with fail
  refine (hmk _ hz2).mono ?_; rintro e w3 ⟨u3, rfl, ho3, hb3⟩
  have hz3 := below_trans hz2 hb3
  have hw3 := hw2.call hb3
  obtain ⟨a3, c3, rfl⟩ := ho3.form
  rw [hRL] at ho3 ⊢
  have hgB := grow1 w3 (.cells #[.string ⟨rn.toArray⟩, .slice a3 RL c3] 26)
  have hwB := Whole.made w3 26 #[.string ⟨rn.toArray⟩, .slice a3 RL c3]
  have hzB := below_trans hz3 hgB
  have hi3 := ho3.attrs.call hgB
  have hw3B := hw3.call hgB
  have x0 := hw3B.cell 0
  have x1 := hw3B.cell 1
  simp only [List.getElem?_toArray, List.getElem?_cons_zero, List.getElem?_cons_succ] at x0 x1
  clear hmk ho3 hw2 hw3 q0 q1
  go_wp2_with fail
  refine (hrm _ hzB).mono ?_; rintro e w4 ⟨u4, rfl, ho4, hb4⟩
  have hz4 := below_trans hzB hb4
  have hi4 := hi3.call hb4
  have hwB4 := hwB.call hb4
  obtain ⟨a4, c4, rfl⟩ := ho4.form
  rw [hRL] at ho4 ⊢
  have hgC := grow1 w4 (.cells #[.string ⟨rn.toArray⟩, .slice a4 RL c4] 26)
  have hwC := Whole.made w4 26 #[.string ⟨rn.toArray⟩, .slice a4 RL c4]
  have hzC := below_trans hz4 hgC
  have hi5 := hi4.call hgC
  have hj5 := ho4.attrs.call hgC
  have hwB5 := hwB4.call hgC
  have q0 := hwB5.cell 0
  have q1 := hwB5.cell 1
  have r0 := hwC.cell 0
  have r1 := hwC.cell 1
  simp only [List.getElem?_toArray, List.getElem?_cons_zero, List.getElem?_cons_succ] at q0 q1 r0 r1
  have hsa := same09_c rn ra (.slice a3 RL c3) (.slice a4 RL c4) _ hi5 hj5 hfa.1 (fun x hx => (hfa.2 x hx).1)
  unfold True_ at hsa
  clear hrm ho4 hwB hi3 hi4 hwB4 hj5 hwC hwB5 x0 x1 hw3B
  go_wp2_with fail
  refine hsa.mono ?_; rintro e w5 ⟨rfl, hb5⟩
  have hz5 := below_trans hzC hb5
  have hi6 := hi5.call hb5
  have s0 := keepC q0 hb5
  have s1 := keepC q1 hb5
  clear hsa hi5 q0 q1 r0 r1
  by_cases hrc : rc = 0
  · subst hrc
    have hfo := HFO.out _ rfl
    have hfm := enformed_c rn ra (.slice a3 RL c3) _ (HEN.out _ hz5) hi6 hfa (by omega) (fun x hx => by
      have h1 := (EnS.formedA_each (EnS.formed_parts hfo).2.2 x hx).1
      have h2 := EnS.type_len x.typ
      rw [h1] at h2
      omega)
    rw [hfo] at hfm
    unfold NmBool at hfm
    clear HFO hfo hi6 hfa
    go_wp2_with fail
    refine hfm.mono ?_; rintro e w6 ⟨rfl, hb6⟩
    go_wp2_with fail
    go_ret
    exact ⟨rfl, below_trans hz5 hb6⟩
  · have hez : (rc != 0) = true := by simpa using hrc
    clear HFO hrc hi6
    go_wp2_with fail
    go_ret
    exact ⟨rfl, hz5⟩
theorem lawentryrenames_c (u : Value) (e : EnS.En) (s : ByteArray) (del : Bool) (w : World) (h : AttrsIn w u e.attrs) (hO : EnOf 1048576 e) (hN : EnS.cE e ≤ 1048576) (hs : s.data.toList.length ≤ 1048576) (hE : Env w) :
    Calls Tryz.prog 4 #[enV e.name u, .string s, .bool del] w (True_ w) := by
  obtain ⟨l, rfl⟩ := bytes_of s
  obtain ⟨name, xs⟩ := e
  exact entryrenames_c name u xs l del w h (fun a ha => (hO.2.2 a ha).1) hN (by simpa using hs) hE
end Go.Proofs.YtdcljilfnkmloaaGreatDoor
