/- The walk of the law EntryMakes, with 'awake' and 'few'. Conditions: the arguments' sizes are at most 1048576 in all; the library's variables are laid. -/
import Derived.Test.YtdcljilfnkmloaaGreatDoorRMkf
import Derived.Test.YtdcljilfnkmloaaGreatDoorRMkh
import Derived.Test.YtdcljilfnkmloaaGreatDoorRRel
import Derived.Test.YtdcljilfnkmloaaGreatDoorRRwe
namespace Go.Proofs.YtdcljilfnkmloaaGreatDoor
open Go.RowKit
attribute [local go_sem ↓] Go.wp_at_zero Go.wp_at_succ
def awakeMA : List EnS.At := [⟨[99, 110], [[65]]⟩, ⟨[111, 98, 106, 101, 99, 116, 99, 108, 97, 115, 115], [[112, 101, 114, 115, 111, 110]]⟩]
def awakeM : EnS.En := ⟨[99, 110, 61, 97, 44, 100, 99, 61, 120], [⟨[99, 110], [[65]]⟩, ⟨EnS.tClass, [[112, 101, 114, 115, 111, 110]]⟩]⟩
theorem awake09_is : EnS.makeS [67, 78, 61, 97, 44, 100, 99, 61, 120] awakeMA = (awakeM, 0) := by kernel_rfl
theorem awake09_fit : FitA awakeMA ∧ (∀ x ∈ awakeMA, x.typ.length ≤ 1048576) ∧ EnS.sumBy (fun a => a.vals.length) awakeMA ≤ 1048576 ∧ FitA awakeM.attrs ∧ ∀ x ∈ awakeM.attrs, x.typ.length ≤ 1048576 := by
  unfold awakeMA awakeM FitA
  refine ⟨⟨by decide, fun y hy => ?_⟩, fun y hy => ?_, by decide, ⟨by decide, fun y hy => ?_⟩, fun y hy => ?_⟩
  all_goals
    simp only [List.mem_cons, List.not_mem_nil, or_false] at hy
    rcases hy with rfl | rfl
  · exact ⟨by decide, fun v hv => by simp only [List.mem_cons, List.not_mem_nil, or_false] at hv; subst hv; decide⟩
  · exact ⟨by decide, fun v hv => by simp only [List.mem_cons, List.not_mem_nil, or_false] at hv; subst hv; decide⟩
  · decide
  · decide
  · exact ⟨by decide, fun v hv => by simp only [List.mem_cons, List.not_mem_nil, or_false] at hv; subst hv; decide⟩
  · exact ⟨by decide, fun v hv => by simp only [List.mem_cons, List.not_mem_nil, or_false] at hv; subst hv; decide⟩
  · decide
  · decide
set_option maxRecDepth 100000 in
set_option maxHeartbeats 1000000 in
theorem awake09_c (w : World) (hE : Env w) : Calls Tryz.prog 6 #[] w (True_ w) := by
  obtain ⟨W, hW, hsz, hb, hA⟩ := two_attrs w [99, 110] [65] [111, 98, 106, 101, 99, 116, 99, 108, 97, 115, 115] [112, 101, 114, 115, 111, 110]
  have hmk := enmake_c w.heap.size [67, 78, 61, 97, 44, 100, 99, 61, 120] awakeMA (.slice (some ⟨w.heap.size + 2, 0, none⟩) 2 2) W hb.size hA.any awake09_fit.1 awake09_fit.2.1 awake09_fit.2.2.1 (by decide) (hE.below hb)
  unfold MakeRet at hmk
  rw [awake09_is] at hmk
  have hfo := EnS.make_formed awake09_is
  have hfm := fun u W hE h => enformed_c awakeM.name awakeM.attrs u W hE h awake09_fit.2.2.2.1 (by decide) awake09_fit.2.2.2.2
  have hee : (⟨awakeM.name, awakeM.attrs⟩ : EnS.En) = awakeM := rfl
  rw [hee, hfo] at hfm
  unfold NmBool at hfm
  have HEN := Lib.hid (fun W (hb : Below w.heap.size w W) => hE.below hb)
  clear hA hfo hE hee
  subst hW
  simp only [strV] at hmk hb hsz ⊢
  go_enter Tryz.func6, Tryz.ntmps6
  go_wp2_with fail
  refine hmk.mono ?_
  rintro e w1 ⟨u1, rfl, hown, hb1⟩
  have hz1 := below_trans hb hb1
  obtain ⟨ya, yc, rfl⟩ := hown.form
  have hl2 : awakeM.attrs.length = 2 := rfl
  have hn2 : awakeM.name = [99, 110, 61, 97, 44, 100, 99, 61, 120] := rfl
  rw [hl2] at hown
  rw [hl2, hn2]
  have hgA := grow1 w1 (.cells #[.string ⟨#[99, 110, 61, 97, 44, 100, 99, 61, 120]⟩, .slice ya 2 yc] 26)
  have hwA := Whole.made w1 26 #[.string ⟨#[99, 110, 61, 97, 44, 100, 99, 61, 120]⟩, .slice ya 2 yc]
  have hzA := below_trans hz1 hgA
  have q0 := hwA.cell 0
  have q1 := hwA.cell 1
  simp only [List.getElem?_toArray, List.getElem?_cons_zero, List.getElem?_cons_succ] at q0 q1
  have hfm1 := hfm _ _ (HEN.out _ hzA) (hown.attrs.call hgA)
  rw [hn2] at hfm1
  clear hmk hfm hwA hown
  go_wp2_with fail
  refine hfm1.mono ?_
  rintro e w2 ⟨rfl, hb2⟩
  go_wp2_with fail
  go_ret
  exact ⟨rfl, below_trans hzA hb2⟩
def FewRet9 (xs : List EnS.En) (w : World) (e : Ending) (w' : World) : Prop := ∃ b, e = .returned (.bool b) ∧ (b = true → EnS.sumBy EnS.cE xs ≤ 3000) ∧ Below w.heap.size w w'
set_option maxRecDepth 100000 in
theorem few09_c (v : Value) (xs : List EnS.En) (w : World) (h : EnsIn w v xs) (hN : EnS.sumBy EnS.cE xs ≤ 1048576) : Calls Tryz.prog 7 #[v] w (FewRet9 xs w) := by
  have hsm := small_c v xs w h hN
  unfold SmallRet at hsm
  obtain ⟨a, c, rfl, _⟩ := SliceP.form h
  clear h hN
  go_enter Tryz.func7, Tryz.ntmps7
  go_wp2_with fail
  refine hsm.mono ?_; rintro e w1 ⟨b, rfl, rfl, hb⟩
  go_wp2_with fail
  go_ret
  exact ⟨b, rfl, hb, Below.refl _ _⟩
theorem ens_one {w : World} {name : List UInt8} {u : Value} {ys : List EnS.At} (h : AttrsIn w u ys) : EnsIn (w.alloc (.cells #[.string ⟨name.toArray⟩, u] 26)) (.slice (some ⟨w.heap.size, 0, none⟩) 1 1) [⟨name, ys⟩] := by
  have hw := Whole.made w 26 #[.string ⟨name.toArray⟩, u]
  refine ⟨some ⟨w.heap.size, 0, none⟩, 1, rfl, by simp, .inr ⟨w.heap.size, 0, rfl, hw.lt, trivial, fun j y hj => ?_⟩⟩
  cases j with
  | zero =>
    simp only [List.getElem?_cons_zero, Option.some.injEq] at hj
    subst hj
    exact ⟨hw.cell 0, u, hw.cell 1, h.call (grow1 w _)⟩
  | succ j => simp at hj
theorem bytes_of (s : ByteArray) : ∃ l : List UInt8, s = ⟨l.toArray⟩ := ⟨s.data.toList, by cases s; simp⟩
end Go.Proofs.YtdcljilfnkmloaaGreatDoor
