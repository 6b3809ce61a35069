/- Small walks for the laws on views: 'awake', 'few'; an entry laid anew. Conditions: those that each theorem states; the library's variables are laid. -/
import Derived.BigQuiet
import Derived.Deep.DrawnRows
import Derived.Deep.RegionHeld3
import Derived.Test.YtdcljilfnkmloaaGreatDoorSVic
import Derived.Test.YtdcljilfnkmloaaGreatDoorSRel
import Derived.Test.YtdcljilfnkmloaaGreatDoorSAva
import Derived.Test.YtdcljilfnkmloaaGreatDoorSPhi
import Derived.Test.YtdcljilfnkmloaaGreatDoorSPou
namespace Go.Proofs.YtdcljilfnkmloaaGreatDoor
open Go.RowKit

def awakeV : EnS.En := ⟨[100, 99, 61, 120], [⟨[100, 99], [[120]]⟩, ⟨EnS.tClass, [[111]]⟩]⟩
theorem awake12_is : EnS.oneV [awakeR] [] awakeV = some awakeV := by
  have h1 : EnS.formedE awakeV = true := by decide +kernel
  have h2 : (DnS.normN []).2 = 0 := by decide +kernel
  have h3 := EnS.whole_one (subject := []) h1
  rw [if_pos h2] at h3
  exact h3
theorem awake12_fit : FitA awakeV.attrs ∧ ∀ x ∈ awakeV.attrs, x.typ.length ≤ 1048576 := by
  unfold awakeV FitA
  refine ⟨⟨by decide, fun y hy => ?_⟩, fun y hy => ?_⟩
  · simp only [List.mem_cons, List.not_mem_nil, or_false] at hy
    rcases hy with rfl | rfl
    · refine ⟨by decide, fun v hv => ?_⟩
      simp only [List.mem_cons, List.not_mem_nil, or_false] at hv
      subst hv; decide
    · refine ⟨by decide, fun v hv => ?_⟩
      simp only [List.mem_cons, List.not_mem_nil, or_false] at hv
      subst hv; decide
  · simp only [List.mem_cons, List.not_mem_nil, or_false] at hy
    rcases hy with rfl | rfl <;> decide
set_option maxRecDepth 100000 in
set_option maxHeartbeats 1000000 in
theorem awake12_c (w : World) (hE : Env w) : Calls Tryz.prog 14 #[] w (True_ w) := by
  obtain ⟨W, hW, hsz, hb, hA⟩ := two_attrs w [100, 99] [120] EnS.tClass [111]
  have hb2 := grow1 W (.cells #[strV [100, 99, 61, 120], .slice (some ⟨w.heap.size + 2, 0, none⟩) 2 2] 26)
  have hw2 := Whole.made W 26 #[strV [100, 99, 61, 120], .slice (some ⟨w.heap.size + 2, 0, none⟩) 2 2]
  have hA2 := hA.any.call hb2
  have hz2 := below_trans hb hb2
  have hb3 := grow1 (W.alloc (.cells #[strV [100, 99, 61, 120], .slice (some ⟨w.heap.size + 2, 0, none⟩) 2 2] 26)) (.cells (oneC awakeR).toArray 85)
  have hA3 := hA2.call hb3
  have hz3 := below_trans hz2 hb3
  have hru := RulesIn.lit 85 (W.alloc (.cells #[strV [100, 99, 61, 120], .slice (some ⟨w.heap.size + 2, 0, none⟩) 2 2] 26)) awakeR
  have hsz2 : (W.alloc (.cells #[strV [100, 99, 61, 120], .slice (some ⟨w.heap.size + 2, 0, none⟩) 2 2] 26)).heap.size = w.heap.size + 4 := by rw [alloc_size, hsz]
  rw [hsz2] at hru
  have hon := vone_c _ awakeV.name awakeV.attrs (.slice (some ⟨w.heap.size + 2, 0, none⟩) 2 2) _ [awakeR] [] _ (Nat.le_refl _) (hA3.base [9]).exp awake12_fit.1 awake12_fit.2 (by decide) hru (by simp [SmallR, awakeR]) (by simp) (by simp) (hE.below hz3)
  unfold OneRet at hon
  have e0 : EnS.oneV [awakeR] [] ⟨awakeV.name, awakeV.attrs⟩ = some awakeV := awake12_is
  rw [e0] at hon
  have c0 := hw2.cell 0
  have c1 := hw2.cell 1
  rw [hsz] at c0 c1
  simp only [List.getElem?_toArray, List.getElem?_cons_zero, List.getElem?_cons_succ] at c0 c1
  clear hru hA hA2 hA3 hw2 e0 hb hb2 hb3
  subst hW
  unfold strV EnS.tClass at hon hz3 c0 c1
  simp only [oneC, awakeR, strV] at hon hz3 c0 c1
  go_enter Tryz.func14, Tryz.ntmps14
  go_wp2_with fail
  refine hon.mono ?_
  rintro e w1 (⟨x, hx, u2, rfl, hown, hb1⟩ | ⟨hx, _, _⟩)
  · have hx := Option.some.inj hx
    subst hx
    obtain ⟨ya, yc, rfl⟩ := hown.form
    have hl2 : awakeV.attrs.length = 2 := rfl
    have hn2 : awakeV.name = [100, 99, 61, 120] := rfl
    rw [hl2, hn2]
    go_wp2_with fail
    go_ret
    exact ⟨rfl, below_alloc (below_trans hz3 hb1) _⟩
  · cases hx
def FewRet12 (xs : List EnS.En) (rl : List PoS.Rl) (s : List UInt8) (w : World) (e : Ending) (w' : World) : Prop :=
  ∃ b, e = .returned (.bool b) ∧ (b = true → FitE xs ∧ (rl.length ≤ 1000000 ∧ ∀ r ∈ rl, SmallR r) ∧ s.length ≤ 3000) ∧ Below w.heap.size w w'
set_option maxRecDepth 100000 in
set_option maxHeartbeats 1000000 in
theorem few12_c (u v : Value) (xs : List EnS.En) (rl : List PoS.Rl) (s : List UInt8) (w : World) (h : EnsIn w u xs) (hN : EnS.sumBy EnS.cE xs ≤ 1048576) (hr : RulesIn w v rl) (hl : rl.length ≤ 9223372036854775807) (hw : ∀ r ∈ rl, WideR r) (hs : s.length ≤ 1048576) :
    Calls Tryz.prog 15 #[u, v, .string ⟨s.toArray⟩] w (FewRet12 xs rl s w) := by
  have hsm := small_c u xs w h hN
  have hfr := few11_c v rl w hr hl hw
  unfold SmallRet at hsm
  unfold FewRet11 at hfr
  have HF := Lib.hid (fun h => cost_fit (xs := xs) h)
  have HR := Lib.hid (fun h => small_of (xs := rl) h)
  obtain ⟨a, c, rfl, _⟩ := SliceP.form h
  obtain ⟨vr, vc, rfl⟩ := hr.form
  have h3 : ∀ w' : World, True := fun _ => trivial
  go_enter Tryz.func15, Tryz.ntmps15
  go_wp2_with fail
  refine hsm.mono ?_; rintro e w1 ⟨b, rfl, rfl, hb⟩
  cases b with
  | false =>
    go_wp2_with fail
    go_ret
    exact ⟨false, rfl, (fun h => by cases h), Below.refl _ _⟩
  | true =>
    go_wp2_with fail
    refine hfr.mono ?_; rintro e w2 ⟨b2, rfl, hb2, hbw⟩
    cases b2 with
    | false =>
      go_wp2_with fail
      go_ret
      exact ⟨false, rfl, (fun h => by cases h), hbw⟩
    | true =>
      by_cases h3 : s.length ≤ 3000
      · have hd : decide ((s.length : Int) ≤ 3000) = true := decide_eq_true (by omega)
        go_wp2_with fail
        go_ret
        exact ⟨true, rfl, (fun _ => ⟨HF.out (hb (by trivial)), HR.out (hb2 (by trivial)), h3⟩), hbw⟩
      · have hd : decide ((s.length : Int) ≤ 3000) = false := decide_eq_false (by omega)
        go_wp2_with fail
        go_ret
        exact ⟨false, rfl, (fun h => by cases h), hbw⟩
end Go.Proofs.YtdcljilfnkmloaaGreatDoor
