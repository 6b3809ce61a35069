/- Part of the proof of EntryModifies, shaken. Conditions: those that each theorem states. -/
import Derived.Test.YtmnhgbkdahdoiaaGreatDoorMMob
import Derived.Test.YtmnhgbkdahdoiaaGreatDoorKRel
namespace Go.Proofs.YtmnhgbkdahdoiaaGreatDoor
namespace EnS
open Go.Lib DnS
def cEnt (c : Ch) : En := ⟨[], [c.attr]⟩
theorem sum_ent : ∀ cs : List Ch, sumBy cE (cs.map cEnt) = sumBy cC cs
  | [] => rfl
  | c :: r => by
    show cE (cEnt c) + sumBy cE (r.map cEnt) = cC c + sumBy cC r
    have h : cE (cEnt c) = cC c := by
      show 1 + 0 / 100 + (cA c.attr + 0) = 1 + cA c.attr
      omega
    rw [sum_ent r, h]
theorem chg_len : ∀ cs : List Ch, cs.length ≤ sumBy cC cs := fun cs => sumBy_len (fun c => by unfold cC; omega) cs
theorem chg_vals : ∀ cs : List Ch, sumBy (fun c : Ch => c.vals.length) cs ≤ sumBy cC cs
  | [] => Nat.le_refl _
  | c :: r => by
    have := chg_vals r
    show c.vals.length + sumBy (fun c : Ch => c.vals.length) r ≤ cC c + sumBy cC r
    have h2 : c.vals.length ≤ cC c := by unfold cC cA Ch.attr; simp only; omega
    omega
theorem chg_fit {cs : List Ch} (h : sumBy cC cs ≤ 3000) : cs.length ≤ 3000 ∧ (∀ c ∈ cs, ∀ v ∈ c.vals, v.length ≤ 1000000) ∧ sumBy (fun c : Ch => c.vals.length) cs ≤ 3000 := by
  refine ⟨Nat.le_trans (chg_len cs) h, fun c hc v hv => ?_, Nat.le_trans (chg_vals cs) h⟩
  have h1 := sumBy_mem (f := cC) hc
  have h2 := sumBy_mem (f := cV) hv
  have h3 : cC c = 1 + (1 + c.vals.length + sumBy cV c.vals) := rfl
  have h4 : cV v = v.length / 100 := rfl
  omega
end EnS
open Go.RowKit
attribute [local go_sem ↓] Go.wp_at_zero Go.wp_at_succ
theorem modify_fit {e : EnS.En} {cs : List EnS.Ch} (hf : FitA e.attrs) (hc : ∀ c ∈ cs, ∀ v ∈ c.vals, v.length ≤ 1000000) (hN : EnS.sumBy (fun c : EnS.Ch => c.vals.length) cs ≤ 300000) : FitA (EnS.modifyS EnS.upS e cs).1.attrs ∧ (EnS.modifyS EnS.upS e cs).1.name.length ≤ 1000 := by
  unfold EnS.modifyS
  split
  · rename_i hfo
    split
    · exact ⟨⟨by simp, fun a ha => by cases ha⟩, by simp⟩
    · rename_i h3
      have h3 : (EnS.modL EnS.upS e.attrs cs).2 = 0 := by simpa using h3
      unfold EnS.doneS
      split
      · have h1 := EnS.formed_sound2 hfo
        have hq : EnS.FitQ 20 e.attrs := fun a ha => ⟨h1.2 a ha, (hf.2 a ha).2⟩
        have hn := (EnS.formed_parts hfo).1
        have hl := DnS.norm_len e.name
        rw [hn] at hl
        exact ⟨FitQ.fit (EnS.modL_fit hq hc) (by omega) (EnS.modL_sound (fun _ _ _ _ _ h => EnS.up_value h) (by rw [← h3]) h1.1), hl⟩
      · exact ⟨⟨by simp, fun a ha => by cases ha⟩, by simp⟩
  · exact ⟨⟨by simp, fun a ha => by cases ha⟩, by simp⟩
theorem attr_one {Ts : List TypeId} {C : Nat} {w : World} {typ : List UInt8} {u : Value} {vals : List (List UInt8)} (h : StrsP (okT Ts C w) w u vals) (hT : 37 ∈ Ts) : AttrsP (okT Ts C (w.alloc (.cells #[strV typ, u] 37))) (w.alloc (.cells #[strV typ, u] 37)) (.slice (some ⟨w.heap.size, 0, none⟩) 1 1) [⟨typ, vals⟩] := by
  have hw := Whole.made w 37 #[strV typ, u]
  refine ⟨some ⟨w.heap.size, 0, none⟩, 1, rfl, by simp, .inr ⟨w.heap.size, 0, rfl, hw.lt, .inr ⟨_, _, _, hw, hT⟩, fun j y hj => ?_⟩⟩
  cases j with
  | zero =>
    simp only [List.getElem?_cons_zero, Option.some.injEq] at hj
    subst hj
    exact ⟨hw.cell 0, u, hw.cell 1, StrsP.callT h (grow1 w _)⟩
  | succ j => simp at hj
theorem infoEn9 : (Tryz.prog.info? 24).map (fun i => (i.zero, i.size, i.bytes)) = some (some (.agg #[.string ⟨#[]⟩, .slice none 0 0]), 2, 40) := by kernel_rfl
def FewRetC (cs : List EnS.Ch) (w : World) (e : Ending) (w' : World) : Prop := ∃ b, e = .returned (.bool b) ∧ (b = true → EnS.sumBy EnS.cC cs ≤ 3000) ∧ Below w.heap.size w w'
set_option maxRecDepth 100000 in
set_option maxHeartbeats 2000000 in
theorem fewch_c (v : Value) (cs : List EnS.Ch) (w : World) (h : ChgsIn w v cs) (hN : EnS.sumBy EnS.cC cs ≤ 1048576) : Calls Tryz.prog 9 #[v] w (FewRetC cs w) := by
  have hsm := fun u W h => small_c u (cs.map EnS.cEnt) W h (by rw [EnS.sum_ent]; exact hN)
  unfold SmallRet at hsm
  simp only [EnS.sum_ent] at hsm
  have hcl := Nat.le_trans (EnS.chg_len cs) hN
  have HIN := Lib.hid h
  obtain ⟨a, c, rfl, hc, hat⟩ := SliceP.at h
  have HAT := Lib.hid hat
  have HTL := Lib.hid (fun k (hk : k < cs.length) => show (cs.take (k + 1)).map EnS.cEnt = (cs.take k).map EnS.cEnt ++ [EnS.cEnt cs[k]] from by rw [List.take_succ_eq_append_getElem hk, List.map_append]; rfl)
  obtain ⟨i0, hi, hz0, hz1, hz2⟩ := info_parts infoEn9
  have HI := Lib.hid hi
  clear hat h hN hi
  go_enter Tryz.func9, Tryz.ntmps9
  go_wp2_with fail
  go_loopw [3, 7] (fun out i wr => ∃ k : Nat, k ≤ cs.length ∧ i = .int .i64 k ∧ OwnK enK 24 [37] w.heap.size wr w.heap.size out ((cs.take k).map EnS.cEnt) ∧ Below w.heap.size w wr) (fun _ i _ => cs.length - (intOf i).toNat)
  case atStart => exact ⟨0, Nat.zero_le _, rfl, OwnK.empty _ _ _ _ _ _, Below.refl _ _⟩
  case round =>
    obtain ⟨k, hk, rfl, hown, hb⟩ := hrel
    by_cases hlt : k < cs.length
    · obtain ⟨g, o, rfl, hg, _, hra⟩ := HAT.out k hlt
      obtain ⟨_, c1, a2, p2, c2, hp2, hvs⟩ := ChgAt.parts hra
      have htl := HTL.out k hlt
      clear hra HAT HTL
      have htk : ((cs.take k).map EnS.cEnt).length ≤ 1048576 := by rw [List.length_map, List.length_take]; omega
      generalize (cs.take k).map EnS.cEnt = q at *
      unfold EnS.cEnt EnS.Ch.attr at htl
      generalize cs[k] = x at *
      obtain ⟨op, ty, vals⟩ := x
      simp only at c1 c2 hp2 hvs htl
      have d1 := (hb.cell (p := ⟨g, o + k * 3 + 1, none⟩) hg).trans c1
      have d2 := (hb.cell (p := ⟨g, o + k * 3 + 2, none⟩) hg).trans c2
      have d3 : wr.cell? ⟨g, o + k * 3 + 1 + 1, none⟩ = _ := d2
      have hel0 : StrsP (okT [37] w.heap.size wr) wr (.slice a2 vals.length p2) vals := StrsP.keep hvs hb.size (fun g hg _ => hb.block g hg) (fun g hg _ => .inl hg)
      generalize vals.length = L at *
      have hl0 : (0 : Int) ≤ (k : Int) := by omega
      have hl1 : (k : Int) < (cs.length : Int) := by omega
      have hel1 := attr_one (typ := ty) hel0 (List.mem_singleton.2 rfl)
      have hgA := grow1 wr (.cells #[.string ⟨ty.toArray⟩, .slice a2 L p2] 37)
      unfold strV at hel1
      have hsA := alloc_size wr (.cells #[.string ⟨ty.toArray⟩, .slice a2 L p2] 37)
      have hgB := grow1 (wr.alloc (.cells #[.string ⟨ty.toArray⟩, .slice a2 L p2] 37)) (.cells #[.string ⟨#[]⟩, .slice (some ⟨wr.heap.size, 0, none⟩) 1 1] 24)
      have hwB := Whole.made (wr.alloc (.cells #[.string ⟨ty.toArray⟩, .slice a2 L p2] 37)) 24 #[.string ⟨#[]⟩, .slice (some ⟨wr.heap.size, 0, none⟩) 1 1]
      have hel2 := AttrsP.callT hel1 hgB
      have hownB := (hown.call hgA).call hgB
      have hzA := hb.trans (hgA.mono hb.size)
      have hzB := hzA.trans (hgB.mono hzA.size)
      have b0 := hwB.cell 0
      have b1 := hwB.cell 1
      simp only [List.getElem?_toArray, List.getElem?_cons_zero, List.getElem?_cons_succ] at b0 b1
      rw [hsA] at b0 b1
      have hsz := hzB.size
      clear hvs hel0 hel1 hown hwB c1 c2 hgA hgB hsA HIN
      go_wp2_with (at_builtin; refine push_k enK 24 46 [37] (by decide) Tryz.underlying46 HI.out hz0 hz1 hz2 (by rfl) (by rfl) _ _ (by rfl) w.heap.size (Nat.le_refl _) _ q (by rfl) hownB (wr.heap.size + 1) (by rfl) ⟨[], [⟨ty, vals⟩]⟩ _ b0 b1 hel2 (by omega) hsz ?_)
      intro v3 w3 hown3 hb3 hgw3
      rw [← htl] at hown3
      go_wp2_with fail
      go_roundw
      case rel => exact ⟨k + 1, by omega, by go_num, hown3, hzB.trans hb3⟩
      case measure => simp [intOf]; omega
    · have hkl : k = cs.length := by omega
      subst hkl
      simp only [List.take_length] at hown
      have hs := hsm _ _ hown.ens
      obtain ⟨ya, yc, rfl⟩ := hown.form
      rw [List.length_map] at hs ⊢
      clear hsm hown HIN HAT HTL
      go_wp2_with fail
      refine hs.mono ?_; rintro e w1 ⟨b, rfl, rfl, hbb⟩
      go_wp2_with fail
      go_ret
      exact ⟨b, rfl, hbb, hb⟩
end Go.Proofs.YtmnhgbkdahdoiaaGreatDoor
