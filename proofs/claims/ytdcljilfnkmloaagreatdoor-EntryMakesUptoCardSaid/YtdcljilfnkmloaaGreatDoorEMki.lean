/- The walk of the law EntryMakes, with 'awake' and 'few'. Conditions: the arguments' sizes are at most 1048576 in all; the library's variables are laid. -/
import Derived.Test.YtdcljilfnkmloaaGreatDoorEMkg
import Derived.Test.YtdcljilfnkmloaaGreatDoorEMkh
import Derived.Test.YtdcljilfnkmloaaGreatDoorERel
import Derived.Test.YtdcljilfnkmloaaGreatDoorERwe
namespace Go.Proofs.YtdcljilfnkmloaaGreatDoor
namespace EnS
open Go.Lib DnS

theorem add_app {t : List UInt8} : ∀ {vs l q : List (List UInt8)}, addS t l vs = (q, 0) → q = l ++ vs
  | [], l, q, h => by
    have := congrArg Prod.fst h
    simp only [addS] at this
    rw [← this, List.append_nil]
  | v :: r, l, q, h => by
    unfold addS at h
    split at h
    · cases h
    · split at h
      · cases h
      · rw [add_app h, List.append_assoc]; rfl
theorem makeA_set {q : List At} {a : At} (h : (makeA q a).2 = 0) : ∃ l, addS (RuS.typeOf a.typ).1 (valuesL q (RuS.typeOf a.typ).1) a.vals = (l, 0) ∧ (makeA q a).1 = setL (RuS.typeOf a.typ).1 l q := by
  unfold makeA at h ⊢
  split at h
  · cases h
  · rename_i h1
    split at h
    · cases h
    · rename_i h2
      split at h
      · rename_i h3; exact absurd h h3
      · rename_i h3
        rw [if_neg h1, if_neg h2, if_neg h3]
        have h4 : (addS (RuS.typeOf a.typ).1 (valuesL q (RuS.typeOf a.typ).1) a.vals).2 = 0 := by simpa using h3
        exact ⟨_, by rw [← h4], rfl⟩
theorem makeL_fit : ∀ {ys q p : List At} {N : Nat}, makeL q ys = (p, 0) → FitQ N q → (∀ a ∈ ys, ∀ v ∈ a.vals, v.length ≤ 1000000) → FitQ (N + sumBy (fun a => a.vals.length) ys) p
  | [], q, p, N, h, hq, _ => by
    have := congrArg Prod.fst h
    simp only [makeL] at this
    subst this
    exact hq
  | a :: r, q, p, N, h, hq, hv => by
    unfold makeL at h
    split at h
    · rename_i h3; exact absurd (congrArg Prod.snd h) h3
    · rename_i h3
      obtain ⟨l, hl, hs⟩ := makeA_set (q := q) (a := a) (by simpa using h3)
      rw [hs] at h
      have hl2 := add_app hl
      have hV := hq.values (RuS.typeOf a.typ).1
      have hf : FitQ (N + a.vals.length) (setL (RuS.typeOf a.typ).1 l q) := hq.set (Nat.le_add_right _ _) _ (by rw [hl2, List.length_append]; omega) (fun v hm => by
        rw [hl2] at hm
        rcases List.mem_append.1 hm with hm | hm
        · exact hV.2 v hm
        · exact hv a (List.mem_cons_self ..) v hm)
      have := makeL_fit h hf (fun b hb => hv b (List.mem_cons_of_mem _ hb))
      rw [Nat.add_assoc] at this
      exact this
theorem sum_vals : ∀ ys : List At, sumBy (fun a => a.vals.length) ys ≤ sumBy cA ys
  | [] => Nat.le_refl _
  | a :: r => by
    have := sum_vals r
    show a.vals.length + sumBy (fun a => a.vals.length) r ≤ cA a + sumBy cA r
    have h2 : a.vals.length ≤ cA a := by unfold cA; omega
    omega
end EnS
open Go.RowKit
attribute [local go_sem ↓] Go.wp_at_zero Go.wp_at_succ
theorem makeS_fit {name : List UInt8} {ys : List EnS.At} (hv : ∀ a ∈ ys, ∀ v ∈ a.vals, v.length ≤ 1000000) (hN : EnS.sumBy (fun a => a.vals.length) ys ≤ 1048576) : FitA (EnS.makeS name ys).1.attrs ∧ (EnS.makeS name ys).1.name.length ≤ 1000 := by
  unfold EnS.makeS
  split
  · exact ⟨⟨by simp, fun a ha => by cases ha⟩, by simp⟩
  · split
    · exact ⟨⟨by simp, fun a ha => by cases ha⟩, by simp⟩
    · rename_i h3
      have h3 : (EnS.makeL [] ys).2 = 0 := by simpa using h3
      have hm : EnS.makeL [] ys = ((EnS.makeL [] ys).1, 0) := by rw [← h3]
      unfold EnS.doneS
      split
      · refine ⟨FitQ.fit (EnS.makeL_fit (N := 0) hm (fun a ha => by cases ha) hv) (by omega) (EnS.makeL_sound hm rfl), DnS.norm_len name⟩
      · exact ⟨⟨by simp, fun a ha => by cases ha⟩, by simp⟩
def awakeMA : List EnS.At := [⟨[99, 110], [[65]]⟩, ⟨[111, 98, 106, 101, 99, 116, 99, 108, 97, 115, 115], [[112, 101, 114, 115, 111, 110]]⟩]
def awakeM : EnS.En := ⟨[99, 110, 61, 97, 44, 100, 99, 61, 120], [⟨[99, 110], [[65]]⟩, ⟨EnS.tClass, [[112, 101, 114, 115, 111, 110]]⟩]⟩
theorem awake09_is : EnS.makeS [67, 78, 61, 97, 44, 100, 99, 61, 120] awakeMA = (awakeM, 0) := by kernel_rfl
theorem awake09_fit : FitA awakeMA ∧ (∀ x ∈ awakeMA, x.typ.length ≤ 1048576) ∧ EnS.sumBy (fun a => a.vals.length) awakeMA ≤ 1048576 ∧ FitA awakeM.attrs ∧ ∀ x ∈ awakeM.attrs, x.typ.length ≤ 1048576 := by
  unfold awakeMA awakeM FitA
  refine ⟨⟨by decide, fun y hy => ?_⟩, fun y hy => ?_, by decide, ⟨by decide, fun y hy => ?_⟩, fun y hy => ?_⟩
  all_goals
    simp only [List.mem_cons, List.not_mem_nil, or_false] at hy
    rcases hy with rfl | rfl
  · exact ⟨by decide, fun v hv => by simp only [List.mem_cons, List.not_mem_nil, or_false] at hv; subst hv; decide⟩
  · exact ⟨by decide, fun v hv => by simp only [List.mem_cons, List.not_mem_nil, or_false] at hv; subst hv; decide⟩
  · decide
  · decide
  · exact ⟨by decide, fun v hv => by simp only [List.mem_cons, List.not_mem_nil, or_false] at hv; subst hv; decide⟩
  · exact ⟨by decide, fun v hv => by simp only [List.mem_cons, List.not_mem_nil, or_false] at hv; subst hv; decide⟩
  · decide
  · decide
set_option maxRecDepth 100000 in
set_option maxHeartbeats 1000000 in
theorem awake09_c (w : World) (hE : Env w) : Calls Tryz.prog 6 #[] w (True_ w) := by
  obtain ⟨W, hW, hsz, hb, hA⟩ := two_attrs w [99, 110] [65] [111, 98, 106, 101, 99, 116, 99, 108, 97, 115, 115] [112, 101, 114, 115, 111, 110]
  have hmk := enmake_c w.heap.size [67, 78, 61, 97, 44, 100, 99, 61, 120] awakeMA (.slice (some ⟨w.heap.size + 2, 0, none⟩) 2 2) W hb.size hA.any awake09_fit.1 awake09_fit.2.1 awake09_fit.2.2.1 (by decide) (hE.below hb)
  unfold MakeRet at hmk
  rw [awake09_is] at hmk
  have hfo := EnS.make_formed awake09_is
  have hfm := fun u W hE h => enformed_c awakeM.name awakeM.attrs u W hE h awake09_fit.2.2.2.1 (by decide) awake09_fit.2.2.2.2
  have hee : (⟨awakeM.name, awakeM.attrs⟩ : EnS.En) = awakeM := rfl
  rw [hee, hfo] at hfm
  unfold NmBool at hfm
  have HEN := Lib.hid (fun W (hb : Below w.heap.size w W) => hE.below hb)
  clear hA hfo hE hee
  subst hW
  simp only [strV] at hmk hb hsz ⊢
  go_enter Tryz.func6, Tryz.ntmps6
  go_wp2_with fail
  refine hmk.mono ?_
  rintro e w1 ⟨u1, rfl, hown, hb1⟩
  have hz1 := below_trans hb hb1
  obtain ⟨ya, yc, rfl⟩ := hown.form
  have hl2 : awakeM.attrs.length = 2 := rfl
  have hn2 : awakeM.name = [99, 110, 61, 97, 44, 100, 99, 61, 120] := rfl
  rw [hl2] at hown
  rw [hl2, hn2]
  have hgA := grow1 w1 (.cells #[.string ⟨#[99, 110, 61, 97, 44, 100, 99, 61, 120]⟩, .slice ya 2 yc] 26)
  have hwA := Whole.made w1 26 #[.string ⟨#[99, 110, 61, 97, 44, 100, 99, 61, 120]⟩, .slice ya 2 yc]
  have hzA := below_trans hz1 hgA
  have q0 := hwA.cell 0
  have q1 := hwA.cell 1
  simp only [List.getElem?_toArray, List.getElem?_cons_zero, List.getElem?_cons_succ] at q0 q1
  have hfm1 := hfm _ _ (HEN.out _ hzA) (hown.attrs.call hgA)
  rw [hn2] at hfm1
  clear hmk hfm hwA hown
  go_wp2_with fail
  refine hfm1.mono ?_
  rintro e w2 ⟨rfl, hb2⟩
  go_wp2_with fail
  go_ret
  exact ⟨rfl, below_trans hzA hb2⟩
def FewRet9 (xs : List EnS.En) (w : World) (e : Ending) (w' : World) : Prop := ∃ b, e = .returned (.bool b) ∧ (b = true → EnS.sumBy EnS.cE xs ≤ 3000) ∧ Below w.heap.size w w'
set_option maxRecDepth 100000 in
theorem few09_c (v : Value) (xs : List EnS.En) (w : World) (h : EnsIn w v xs) (hN : EnS.sumBy EnS.cE xs ≤ 1048576) : Calls Tryz.prog 7 #[v] w (FewRet9 xs w) := by
  have hsm := small_c v xs w h hN
  unfold SmallRet at hsm
  obtain ⟨a, c, rfl, _⟩ := SliceP.form h
  clear h hN
  go_enter Tryz.func7, Tryz.ntmps7
  go_wp2_with fail
  refine hsm.mono ?_; rintro e w1 ⟨b, rfl, rfl, hb⟩
  go_wp2_with fail
  go_ret
  exact ⟨b, rfl, hb, Below.refl _ _⟩
theorem ens_one {w : World} {name : List UInt8} {u : Value} {ys : List EnS.At} (h : AttrsIn w u ys) : EnsIn (w.alloc (.cells #[.string ⟨name.toArray⟩, u] 26)) (.slice (some ⟨w.heap.size, 0, none⟩) 1 1) [⟨name, ys⟩] := by
  have hw := Whole.made w 26 #[.string ⟨name.toArray⟩, u]
  refine ⟨some ⟨w.heap.size, 0, none⟩, 1, rfl, by simp, .inr ⟨w.heap.size, 0, rfl, hw.lt, trivial, fun j y hj => ?_⟩⟩
  cases j with
  | zero =>
    simp only [List.getElem?_cons_zero, Option.some.injEq] at hj
    subst hj
    exact ⟨hw.cell 0, u, hw.cell 1, h.call (grow1 w _)⟩
  | succ j => simp at hj
set_option maxRecDepth 100000 in
set_option maxHeartbeats 4000000 in
theorem entrymakes_c (name : List UInt8) (u : Value) (ys : List EnS.At) (w : World) (h : AttrsIn w u ys) (hT : ∀ a ∈ ys, a.typ.length ≤ 1048576) (hN : 1 + name.length / 100 + EnS.sumBy EnS.cA ys ≤ 1048576) (hE : Env w) :
    Calls Tryz.prog 3 #[.string ⟨name.toArray⟩, u] w (True_ w) := by
  have HIN := Lib.hid (fun W (hb : Below w.heap.size w W) => AttrsP.call h hb)
  have HEN := Lib.hid (fun W (hb : Below w.heap.size w W) => hE.below hb)
  have hfew := fun W (hb : Below w.heap.size w W) => few09_c (.slice (some ⟨W.heap.size, 0, none⟩) 1 1) [⟨name, ys⟩] _ (ens_one (name := name) (AttrsP.call h hb)) (by show EnS.cE ⟨name, ys⟩ + 0 ≤ _; unfold EnS.cE; simpa using hN)
  unfold FewRet9 at hfew
  have HCF := Lib.hid (fun h => cost_fit (xs := [⟨name, ys⟩]) h)
  have HSV : Hid (EnS.sumBy (fun a => a.vals.length) ys ≤ 1048576) := Lib.hid (by have := EnS.sum_vals ys; omega)
  obtain ⟨a, c, rfl, hc⟩ := SliceP.form h
  clear h hN
  go_enter Tryz.func3, Tryz.ntmps3
  go_wp2_with fail
  refine (awake09_c _ hE).mono ?_; rintro e w1 ⟨rfl, hb1⟩
  have hf1 := hfew _ hb1
  have hgA := grow1 w1 (.cells #[.string ⟨name.toArray⟩, .slice a ys.length c] 26)
  have hzA := below_trans hb1 hgA
  clear hE hfew
  go_wp2_with fail
  refine hf1.mono ?_; rintro e w2 ⟨b, rfl, hok, hb2⟩
  have hz2 := below_trans hzA hb2
  clear hf1 hzA hb1 hb2 hgA
  cases b with
  | false =>
    clear hok
    go_wp2_with fail
    refine (awake09_c _ (HEN.out _ hz2)).mono ?_; rintro e w9 ⟨rfl, hb9⟩
    go_wp2_with fail
    go_ret
    exact ⟨rfl, below_trans hz2 hb9⟩
  | true =>
  have hfe := (HCF.out (hok rfl)).2 _ (List.mem_singleton.2 rfl)
  simp only at hfe
  have hmk := fun W hb => enmake_c w.heap.size name ys (.slice a ys.length c) W (Below.size hb) (HIN.out W hb) hfe.2 hT HSV.out hfe.1 (HEN.out W hb)
  have hrm := fun W hb => refmake_c w.heap.size name ys (.slice a ys.length c) W (Below.size hb) (HIN.out W hb) hfe.2 hT HSV.out hfe.1 (HEN.out W hb)
  unfold MakeRet at hmk hrm
  have hft := makeS_fit (name := name) (ys := ys) (fun a ha => (hfe.2.2 a ha).2) HSV.out
  have HFO := Lib.hid (fun e h => EnS.make_formed (name := name) (ys := ys) (e := e) h)
  clear hok HCF HSV hfe hT HIN
  generalize EnS.makeS name ys = R at *
  obtain ⟨⟨rn, ra⟩, rc⟩ := R
  simp only at hmk hrm hft
  obtain ⟨hfa, hrn⟩ := hft
  obtain ⟨RL, hRL⟩ : ∃ n, ra.length = n := ⟨_, rfl⟩
  generalize ys.length = YL at *
  go_wp2_with fail
  refine (hmk _ hz2).mono ?_; rintro e w3 ⟨u3, rfl, ho3, hb3⟩
  have hz3 := below_trans hz2 hb3
  obtain ⟨a3, c3, rfl⟩ := ho3.form
  rw [hRL] at ho3 ⊢
  have hgB := grow1 w3 (.cells #[.string ⟨rn.toArray⟩, .slice a3 RL c3] 26)
  have hwB := Whole.made w3 26 #[.string ⟨rn.toArray⟩, .slice a3 RL c3]
  have hzB := below_trans hz3 hgB
  have hi3 := ho3.attrs.call hgB
  clear hmk ho3
  go_wp2_with fail
  refine (hrm _ hzB).mono ?_; rintro e w4 ⟨u4, rfl, ho4, hb4⟩
  have hz4 := below_trans hzB hb4
  have hi4 := hi3.call hb4
  have hwB4 := hwB.call hb4
  obtain ⟨a4, c4, rfl⟩ := ho4.form
  rw [hRL] at ho4 ⊢
  have hgC := grow1 w4 (.cells #[.string ⟨rn.toArray⟩, .slice a4 RL c4] 26)
  have hwC := Whole.made w4 26 #[.string ⟨rn.toArray⟩, .slice a4 RL c4]
  have hzC := below_trans hz4 hgC
  have hi5 := hi4.call hgC
  have hj5 := ho4.attrs.call hgC
  have hwB5 := hwB4.call hgC
  have q0 := hwB5.cell 0
  have q1 := hwB5.cell 1
  have r0 := hwC.cell 0
  have r1 := hwC.cell 1
  simp only [List.getElem?_toArray, List.getElem?_cons_zero, List.getElem?_cons_succ] at q0 q1 r0 r1
  have hsa := same09_c rn ra (.slice a3 RL c3) (.slice a4 RL c4) _ hi5 hj5 hfa.1 (fun x hx => (hfa.2 x hx).1)
  unfold True_ at hsa
  clear hrm ho4 hwB hi3 hi4 hwB4 hj5 hwC hwB5
  go_wp2_with fail
  refine hsa.mono ?_; rintro e w5 ⟨rfl, hb5⟩
  have hz5 := below_trans hzC hb5
  have hi6 := hi5.call hb5
  have s0 := keepC q0 hb5
  have s1 := keepC q1 hb5
  clear hsa hi5 q0 q1 r0 r1
  by_cases hrc : rc = 0
  · subst hrc
    have hfo := HFO.out _ rfl
    have hfm := enformed_c rn ra (.slice a3 RL c3) _ (HEN.out _ hz5) hi6 hfa (by omega) (fun x hx => by
      have h1 := (EnS.formedA_each (EnS.formed_parts hfo).2.2 x hx).1
      have h2 := EnS.type_len x.typ
      rw [h1] at h2
      omega)
    rw [hfo] at hfm
    unfold NmBool at hfm
    clear HFO hfo hi6 hfa
    go_wp2_with fail
    refine hfm.mono ?_; rintro e w6 ⟨rfl, hb6⟩
    go_wp2_with fail
    go_ret
    exact ⟨rfl, below_trans hz5 hb6⟩
  · have hez : (rc != 0) = true := by simpa using hrc
    clear HFO hrc hi6
    go_wp2_with fail
    go_ret
    exact ⟨rfl, hz5⟩
theorem bytes_of (s : ByteArray) : ∃ l : List UInt8, s = ⟨l.toArray⟩ := ⟨s.data.toList, by cases s; simp⟩
theorem lawentrymakes_c (u : Value) (ys : List EnS.At) (s : ByteArray) (w : World) (h : AttrsIn w u ys) (hO : ∀ x ∈ ys, AttrOf 1048576 x) (hN : 1 + s.data.toList.length / 100 + EnS.sumBy EnS.cA ys ≤ 1048576) (hE : Env w) :
    Calls Tryz.prog 3 #[.string s, u] w (True_ w) := by
  obtain ⟨l, rfl⟩ := bytes_of s
  exact entrymakes_c l u ys w h (fun a ha => (hO a ha).1) (by simpa using hN) hE
end Go.Proofs.YtdcljilfnkmloaaGreatDoor
