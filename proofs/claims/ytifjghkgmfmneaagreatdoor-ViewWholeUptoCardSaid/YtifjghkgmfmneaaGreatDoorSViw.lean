/- The walk of the law ViewWhole. Conditions: the entries that come in are of bulk at most 1048576; the library's variables are laid. -/
import Derived.Test.YtifjghkgmfmneaaGreatDoorSVir
namespace Go.Proofs.YtifjghkgmfmneaaGreatDoor
open Go.RowKit

set_option maxRecDepth 100000 in
set_option maxHeartbeats 4000000 in
theorem viewwhole_c (u : Value) (xs : List EnS.En) (s : List UInt8) (w : World) (h : EnsIn w u xs) (hN : EnS.sumBy EnS.cE xs ≤ 1048576) (hT : TypsE xs) (hs : s.length ≤ 1048576) (hE : Env w) :
    Calls Tryz.prog 10 #[u, .string ⟨s.toArray⟩] w (True_ w) := by
  have HIN := Lib.hid (fun W (hb : Below w.heap.size w W) => EnsP.call h hb)
  have HEN := Lib.hid (fun W (hb : Below w.heap.size w W) => hE.below hb)
  have hfew := fun W (hb : Below w.heap.size w W) => few12_c u (.slice none 0 0) xs [] s W (EnsP.call h hb) hN (RulesIn.empty W) (by simp) (fun r hr => by cases hr) hs
  unfold FewRet12 at hfew
  obtain ⟨a, c, rfl, hc, hat⟩ := SliceP.at h
  have HAT := Lib.hid hat
  obtain ⟨i0, hi, hz0, hz1, hz2⟩ := info_parts infoEntry
  have HI := Lib.hid hi
  clear hat h hN hs hi
  go_enter Tryz.func10, Tryz.ntmps10
  go_wp2_with fail
  refine (awake12_c _ hE).mono ?_; rintro e w1 ⟨rfl, hb1⟩
  go_wp2_with fail
  refine (hfew _ hb1).mono ?_; rintro e w2 ⟨b, rfl, hok, hb2⟩
  have hz2 := below_trans hb1 hb2
  clear hfew hb1 hb2 hE
  cases b with
  | false =>
    clear hok
    go_wp2_with fail
    refine (awake12_c _ (HEN.out _ hz2)).mono ?_; rintro e w9 ⟨rfl, hb9⟩
    go_wp2_with fail
    go_ret
    exact ⟨rfl, below_trans hz2 hb9⟩
  | true =>
  obtain ⟨hf, _, h3⟩ := hok (by trivial)
  clear hok
  have hnm := fun W hE => rnnormal_c s (by omega) W hE
  have hof := fun U V W h hr hE => vof_c U V xs [awakeR] s W h hf hT hr (by simp [SmallR, awakeR]) (by simp) (by omega) hE
  have hon := fun U W h hE => vof_c U (.slice none 0 0) xs [] s W h hf hT (RulesIn.empty W) (fun r hr => by cases hr) (by simp) (by omega) hE
  have hwv : EnS.ofV [awakeR] s xs = if (DnS.normN s).2 = 0 then xs.filter EnS.formedE else [] := EnS.whole_view s xs
  rw [EnS.none_view] at hon
  rw [hwv] at hof
  have HFM := Lib.hid (fun k (hk : k < xs.length) U W h hE => enrefformed_c (xs[k]'hk).name (xs[k]'hk).attrs U W hE h (hf.2 _ (List.getElem_mem hk)).2 (hf.2 _ (List.getElem_mem hk)).1 (hT _ (List.getElem_mem hk)))
  have hf2 := hf.filter EnS.formedE
  have hxl : xs.length ≤ 1048576 := hf.1
  unfold NmBool at HFM
  unfold NmTxt at hnm
  unfold OfRet at hof hon
  clear hf hT h3 hwv
  generalize DnS.normN s = NS at *
  obtain ⟨n1, e1⟩ := NS
  simp only at hnm hof
  have HQ : Hid ((if e1 = 0 then xs.filter EnS.formedE else []) = xs.filter (fun e => EnS.formedE e && decide (e1 = 0))) := Lib.hid (by
    by_cases h0 : e1 = 0
    · rw [if_pos h0]; simp [h0]
    · rw [if_neg h0]; simp [h0])
  rw [HQ.out] at hof
  have hf3 : FitE (xs.filter (fun e => EnS.formedE e && decide (e1 = 0))) := by
    rw [← HQ.out]
    by_cases h0 : e1 = 0
    · rw [if_pos h0]; exact hf2
    · rw [if_neg h0]; exact ⟨by simp, fun x hx => by cases hx⟩
  have hsa := fun U V W h1 h2 => sameall_c U V (xs.filter (fun e => EnS.formedE e && decide (e1 = 0))) W h1 h2 hf3.1 (fun e he => ⟨(hf3.2 e he).2.1, fun x hx => ((hf3.2 e he).2.2 x hx).1⟩)
  unfold True_ at hsa
  have HY := Lib.hid (fun k (hk : k < xs.length) => filt_yes (p := fun e : EnS.En => EnS.formedE e && decide (e1 = 0)) (l := xs) hk)
  have HNo := Lib.hid (fun k (hk : k < xs.length) => filt_no (p := fun e : EnS.En => EnS.formedE e && decide (e1 = 0)) (l := xs) hk)
  have HTL := Lib.hid (fun k => show ((xs.take k).filter (fun e : EnS.En => EnS.formedE e && decide (e1 = 0))).length ≤ 1048576 from Nat.le_trans (List.length_filter_le _ _) (Nat.le_trans (by rw [List.length_take]; omega) hxl))
  clear HQ hf2 hf3
  generalize hgn : (fun e : EnS.En => EnS.formedE e && decide (e1 = 0)) = P at *
  have HP : Hid (∀ e : EnS.En, (EnS.formedE e && decide (e1 = 0)) = P e) := Lib.hid (fun e => by rw [← hgn])
  clear hgn
  go_wp2_with fail
  refine (hnm _ (HEN.out _ hz2)).mono ?_; rintro e w3 ⟨rfl, hb3⟩
  have hz3 := below_trans hz2 hb3
  clear hz2 hb3 hnm
  have HEQ : Hid ((e1 == 0) = decide (e1 = 0)) := Lib.hid (by by_cases h : e1 = 0 <;> simp [h])
  go_wp2_with fail
  go_loopw [7, 26] (fun out i wr => ∃ k : Nat, k ≤ xs.length ∧ i = .int .i64 k ∧ OwnK enK 37 [9, 47] w.heap.size wr w.heap.size out ((xs.take k).filter P) ∧ Below w.heap.size w wr) (fun _ i _ => xs.length - (intOf i).toNat)
  case atStart => exact ⟨0, Nat.zero_le _, rfl, OwnK.empty _ _ _ _ _ _, hz3⟩
  case round =>
    obtain ⟨k, hk, rfl, hown, hb⟩ := hrel
    clear hz3
    by_cases hlt : k < xs.length
    · obtain ⟨g, o, rfl, hg, _, hra⟩ := HAT.out k hlt
      obtain ⟨c0, a2, p2, c1, hp2, hax⟩ := ens_base [9, 47] hra hg
      have c0 := (hb.cell (p := ⟨g, o + k * 2, none⟩) hg).trans c0
      have c1 := (hb.cell (p := ⟨g, o + k * 2 + 1, none⟩) hg).trans c1
      have hax := AttrsP.callT hax hb
      have hun := HFM.out k hlt _ wr hax.any (HEN.out _ hb)
      have hyk := HY.out k hlt
      have hnk := HNo.out k hlt
      have htl := HTL.out k
      have hpk := HP.out (xs[k]'hlt)
      rw [hpk] at hyk hnk
      clear hra HAT HFM HY HNo hof hon hsa
      generalize xs[k] = x at *
      obtain ⟨name, ats⟩ := x
      simp only at c0 c1 hp2 hax hun hyk hnk
      have hl0 : (0 : Int) ≤ (k : Int) := by omega
      have hl1 : (k : Int) < (xs.length : Int) := by omega
      generalize hgL : ats.length = L at *
      generalize P ⟨name, ats⟩ = D at *
      generalize EnS.formedE ⟨name, ats⟩ = F at *
      go_wp2_with fail
      refine hun.mono ?_; rintro e w3 ⟨rfl, hb3⟩
      have hz3 := hb.trans (hb3.mono hb.size)
      have hown3 := hown.call hb3
      have d0 := keepC c0 hb3
      have d1 := keepC c1 hb3
      have hax3 := AttrsP.callT hax hb3
      clear hown hun c0 c1 hax
      by_cases h0 : e1 = 0
      · have hd0 : decide (e1 = 0) = true := decide_eq_true h0
        have hd1 : (e1 == 0) = true := by rw [HEQ.out, hd0]
        clear h0
        rw [hd0, Bool.and_true] at hpk
        clear hd0
        subst hpk
        cases F with
        | false =>
          have hk1 := hnk (by trivial)
          go_wp2_with fail
          go_roundw
          case rel => exact ⟨k + 1, by omega, by go_num, by rw [hk1]; exact hown3, hz3⟩
          case measure => simp [intOf]; omega
        | true =>
          have hk1 := hyk (by trivial)
          have hgB := grow1 w3 (.cells #[.string ⟨name.toArray⟩, .slice a2 L p2] 37)
          have hwB := Whole.made w3 37 #[.string ⟨name.toArray⟩, .slice a2 L p2]
          have hzB := hz3.trans (hgB.mono hz3.size)
          have hownB := hown3.call hgB
          have haxB := AttrsP.callT hax3 hgB
          have b0 := hwB.cell 0
          have b1 := hwB.cell 1
          have hsz := hzB.size
          simp only [List.getElem?_toArray, List.getElem?_cons_zero, List.getElem?_cons_succ] at b0 b1
          go_wp2_with (at_builtin; refine push_k enK 37 43 [9, 47] (by decide) Tryz.underlying43 HI.out hz0 hz1 hz2 (by rfl) (by rfl) _ _ (by rfl) w.heap.size (Nat.le_refl _) _ ((xs.take k).filter P) (by rfl) hownB w3.heap.size (by rfl) ⟨name, ats⟩ _ b0 b1 haxB (by omega) hsz ?_)
          intro v4 w4 hown4 hb4 hgw4
          rw [← hk1] at hown4
          go_wp2_with fail
          go_roundw
          case rel => exact ⟨k + 1, by omega, by go_num, hown4, hzB.trans hb4⟩
          case measure => simp [intOf]; omega
      · have hd0 : decide (e1 = 0) = false := decide_eq_false h0
        have hd1 : (e1 == 0) = false := by rw [HEQ.out, hd0]
        clear h0
        rw [hd0, Bool.and_false] at hpk
        have hk1 := hnk (by rw [← hpk])
        clear hpk hd0 hnk hyk
        cases F with
        | false =>
          go_wp2_with fail
          go_roundw
          case rel => exact ⟨k + 1, by omega, by go_num, by rw [hk1]; exact hown3, hz3⟩
          case measure => simp [intOf]; omega
        | true =>
          go_wp2_with fail
          go_roundw
          case rel => exact ⟨k + 1, by omega, by go_num, by rw [hk1]; exact hown3, hz3⟩
          case measure => simp [intOf]; omega
    · have hkl : k = xs.length := by omega
      subst hkl
      simp only [List.take_length] at hown
      clear HAT HFM HY HNo HTL HP
      have hru := RulesIn.lit 29 wr awakeR
      have hgR := grow1 wr (.cells (oneC awakeR).toArray 29)
      have hzR := hb.trans (hgR.mono hb.size)
      have hof2 := hof _ _ _ (HIN.out _ hzR) hru (HEN.out _ hzR)
      have hownR := hown.call hgR
      simp only [oneC, awakeR, strV] at hof2 hgR hzR hownR
      clear hru hof hown
      go_wp2_with fail
      refine hof2.mono ?_; rintro e w5 ⟨u5, rfl, ho5, hb5⟩
      have hz5 := hzR.trans (hb5.mono hzR.size)
      have hs5 := hsa _ _ _ ho5.ens (hownR.call hb5).ens
      clear hof2 hsa ho5 hownR
      go_wp2_with fail
      refine hs5.mono ?_; rintro e w6 ⟨rfl, hb6⟩
      have hz6 := hz5.trans (hb6.mono hz5.size)
      go_wp2_with fail
      refine (hon _ _ (HIN.out _ hz6) (HEN.out _ hz6)).mono ?_; rintro e w7 ⟨u7, rfl, ho7, hb7⟩
      have hz7 := hz6.trans (hb7.mono hz6.size)
      obtain ⟨y7, z7, rfl⟩ := ho7.form
      simp only [List.length_nil]
      clear ho7 hon
      go_wp2_with fail
      go_ret
      exact ⟨rfl, hz7⟩
theorem lawviewwhole_c (u : Value) (xs : List EnS.En) (s : ByteArray) (w : World) (h : EnsIn w u xs) (hO : ∀ x ∈ xs, EnOf 1048576 x) (hN : EnS.sumBy EnS.cE xs ≤ 1048576) (hs : s.data.toList.length ≤ 1048576) (hE : Env w) :
    Calls Tryz.prog 10 #[u, .string s] w (True_ w) := by
  obtain ⟨l, rfl⟩ := bytes_lst s
  exact viewwhole_c u xs l w h hN (typs_of hO) (by simpa using hs) hE
end Go.Proofs.YtifjghkgmfmneaaGreatDoor
