/- The walk of the law ViewRestricts. Conditions: the entries that come in are of bulk at most 1048576; the library's variables are laid. -/
import Derived.Test.YtifjghkgmfmneaaGreatDoorSVig
namespace Go.Proofs.YtifjghkgmfmneaaGreatDoor
open Go.RowKit

theorem FitE.filter {xs : List EnS.En} (h : FitE xs) (p : EnS.En → Bool) : FitE (xs.filter p) := ⟨Nat.le_trans (List.length_filter_le _ _) h.1, fun x hx => h.2 x (List.mem_filter.1 hx).1⟩
theorem TypsE.filter {xs : List EnS.En} (h : TypsE xs) (p : EnS.En → Bool) : TypsE (xs.filter p) := fun x hx => h x (List.mem_filter.1 hx).1
theorem restrict_small {rl : List PoS.Rl} {context : List UInt8} (h : rl.length ≤ 1000000 ∧ ∀ r ∈ rl, SmallR r) : (PoS.restrictS rl context).length ≤ 1000000 ∧ ∀ r ∈ PoS.restrictS rl context, SmallR r := by
  unfold PoS.restrictS
  split
  · exact ⟨Nat.le_trans (List.length_filter_le _ _) h.1, fun r hr => h.2 r (List.mem_filter.1 hr).1⟩
  · exact ⟨by simp, fun r hr => by cases hr⟩
theorem ens_base {w : World} {g o : Nat} {x : EnS.En} (Ts : List TypeId) (h : EnAt (fun _ => True) w g o x) (_hg : g < w.heap.size) : w.cell? ⟨g, o, none⟩ = some (.string ⟨x.name.toArray⟩) ∧ ∃ a c, w.cell? ⟨g, o + 1, none⟩ = some (.slice a x.attrs.length c) ∧ x.attrs.length ≤ c ∧ AttrsP (okT Ts w.heap.size w) w (.slice a x.attrs.length c) x.attrs := by
  obtain ⟨h1, a, c, h2, h3, h4⟩ := EnAt.parts h
  exact ⟨h1, a, c, h2, h3, AttrsP.base h4 Ts⟩
set_option maxRecDepth 100000 in
set_option maxHeartbeats 4000000 in
theorem viewrestricts_c (u v : Value) (xs : List EnS.En) (rl : List PoS.Rl) (s ctx : List UInt8) (w : World) (h : EnsIn w u xs) (hN : EnS.sumBy EnS.cE xs ≤ 1048576) (hT : TypsE xs) (hr : RulesIn w v rl) (hl : rl.length ≤ 9223372036854775807) (hw : ∀ r ∈ rl, WideR r) (hs : s.length ≤ 1048576) (hctx : ctx.length ≤ 1048576) (hE : Env w) :
    Calls Tryz.prog 11 #[u, v, .string ⟨s.toArray⟩, .string ⟨ctx.toArray⟩] w (True_ w) := by
  have HRL := Lib.hid (fun W (hb : Below w.heap.size w W) => hr.call hb (Nat.le_refl _))
  have HEN := Lib.hid (fun W (hb : Below w.heap.size w W) => hE.below hb)
  have hfew := fun W (hb : Below w.heap.size w W) => few12_c u v xs rl s W (EnsP.call h hb) hN (hr.call hb (Nat.le_refl _)) hl hw hs
  unfold FewRet12 at hfew
  obtain ⟨a, c, rfl, hc, hat⟩ := SliceP.at h
  have HAT := Lib.hid hat
  obtain ⟨vr, vc, rfl⟩ := hr.form
  obtain ⟨i0, hi, hz0, hz1, hz2⟩ := info_parts infoEntry
  have HI := Lib.hid hi
  clear hat h hN hr hl hw hs hi
  go_enter Tryz.func11, Tryz.ntmps11
  go_wp2_with fail
  refine (awake12_c _ hE).mono ?_; rintro e w1 ⟨rfl, hb1⟩
  go_wp2_with fail
  refine (hfew _ hb1).mono ?_; rintro e w2 ⟨b, rfl, hok, hb2⟩
  have hz2 := below_trans hb1 hb2
  clear hfew hb1 hb2 hE
  cases b with
  | false =>
    clear hok
    go_wp2_with fail
    refine (awake12_c _ (HEN.out _ hz2)).mono ?_; rintro e w9 ⟨rfl, hb9⟩
    go_wp2_with fail
    go_ret
    exact ⟨rfl, below_trans hz2 hb9⟩
  | true =>
  obtain ⟨hf, hsm, h3⟩ := hok (by trivial)
  clear hok
  by_cases hc3 : 3000 < ctx.length
  · have hd : decide ((3000 : Int) < (ctx.length : Int)) = true := decide_eq_true (by omega)
    clear hc3
    go_wp2_with fail
    refine (awake12_c _ (HEN.out _ hz2)).mono ?_; rintro e w9 ⟨rfl, hb9⟩
    go_wp2_with fail
    go_ret
    exact ⟨rfl, below_trans hz2 hb9⟩
  have hd : decide ((3000 : Int) < (ctx.length : Int)) = false := decide_eq_false (by omega)
  have hth := fun W h => theirs11_c (.slice vr rl.length vc) rl W h hsm.1
  have hre := fun V W h hE => polrestrict_c V rl ctx W h hsm.2 hsm.1 (by omega) hE
  have hf2 := hf.filter (fun e => DnS.underS e.name ctx)
  have hT2 := hT.filter (fun e => DnS.underS e.name ctx)
  have hof := fun U V W h hr hE => vof_c U V (xs.filter (fun e => DnS.underS e.name ctx)) rl s W h hf2 hT2 hr hsm.2 hsm.1 (by omega) hE
  have hor := fun U V W h hr hE => vof_c U V (xs.filter (fun e => DnS.underS e.name ctx)) (PoS.restrictS rl ctx) s W h hf2 hT2 hr (restrict_small hsm).2 (restrict_small hsm).1 (by omega) hE
  have heq : EnS.ofV (PoS.restrictS rl ctx) s (xs.filter (fun e => DnS.underS e.name ctx)) = EnS.ofV rl s (xs.filter (fun e => DnS.underS e.name ctx)) := EnS.restrict_view (fun e he => (List.mem_filter.1 he).2)
  rw [heq] at hor
  have hsa := fun U V W h1 h2 => sameall_c U V (EnS.ofV rl s (xs.filter (fun e => DnS.underS e.name ctx))) W h1 h2 (ofV_fit hf2).1 (fun e he => ⟨((ofV_fit hf2).2 e he).2.1, fun x hx => (((ofV_fit hf2).2 e he).2.2 x hx).1⟩)
  have HUN := Lib.hid (fun k (hk : k < xs.length) W hE => rnunder_c (xs[k]'hk).name ctx (hf.2 _ (List.getElem_mem hk)).1 (by omega) W hE)
  have HY := Lib.hid (fun k (hk : k < xs.length) => filt_yes (p := fun e : EnS.En => DnS.underS e.name ctx) (l := xs) hk)
  have HNo := Lib.hid (fun k (hk : k < xs.length) => filt_no (p := fun e : EnS.En => DnS.underS e.name ctx) (l := xs) hk)
  have hxl : xs.length ≤ 1048576 := hf.1
  have HTL := Lib.hid (fun k => show ((xs.take k).filter (fun e : EnS.En => DnS.underS e.name ctx)).length ≤ 1048576 from Nat.le_trans (List.length_filter_le _ _) (Nat.le_trans (by rw [List.length_take]; omega) hxl))
  unfold NmBool at HUN
  unfold RulesRet at hth hre
  unfold OfRet at hof hor
  unfold True_ at hsa
  clear heq hf hT hsm h3 hf2 hT2 hc3 hctx
  generalize hgn : (fun e : EnS.En => DnS.underS e.name ctx) = P at *
  have HP : Hid (∀ e : EnS.En, DnS.underS e.name ctx = P e) := Lib.hid (fun e => by rw [← hgn])
  clear hgn
  go_wp2_with fail
  go_loopw [9, 29] (fun out i wr => ∃ k : Nat, k ≤ xs.length ∧ i = .int .i64 k ∧ OwnK enK 37 [9, 47] w.heap.size wr w.heap.size out ((xs.take k).filter P) ∧ Below w.heap.size w wr) (fun _ i _ => xs.length - (intOf i).toNat)
  case atStart => exact ⟨0, Nat.zero_le _, rfl, OwnK.empty _ _ _ _ _ _, hz2⟩
  case round =>
    obtain ⟨k, hk, rfl, hown, hb⟩ := hrel
    clear hz2
    by_cases hlt : k < xs.length
    · obtain ⟨g, o, rfl, hg, _, hra⟩ := HAT.out k hlt
      obtain ⟨c0, a2, p2, c1, hp2, hax⟩ := ens_base [9, 47] hra hg
      have c0 := (hb.cell (p := ⟨g, o + k * 2, none⟩) hg).trans c0
      have c1 := (hb.cell (p := ⟨g, o + k * 2 + 1, none⟩) hg).trans c1
      have hax := AttrsP.callT hax hb
      have hun := HUN.out k hlt wr (HEN.out _ hb)
      have hyk := HY.out k hlt
      have hnk := HNo.out k hlt
      have htl := HTL.out k
      have hpk := HP.out (xs[k]'hlt)
      rw [hpk] at hun hyk hnk
      clear hra HAT HUN HY HNo hth hre hof hor hsa
      generalize xs[k] = x at *
      obtain ⟨name, ats⟩ := x
      simp only at c0 c1 hp2 hax hun hyk hnk
      have hl0 : (0 : Int) ≤ (k : Int) := by omega
      have hl1 : (k : Int) < (xs.length : Int) := by omega
      generalize hgL : ats.length = L at *
      generalize P ⟨name, ats⟩ = D at *
      go_wp2_with fail
      refine hun.mono ?_; rintro e w3 ⟨rfl, hb3⟩
      have hz3 := hb.trans (hb3.mono hb.size)
      have hown3 := hown.call hb3
      have d0 := keepC c0 hb3
      have d1 := keepC c1 hb3
      have hax3 := AttrsP.callT hax hb3
      clear hown hun c0 c1 hax
      cases D with
      | false =>
        have hk1 := hnk (by trivial)
        go_wp2_with fail
        go_roundw
        case rel => exact ⟨k + 1, by omega, by go_num, by rw [hk1]; exact hown3, hz3⟩
        case measure => simp [intOf]; omega
      | true =>
        have hk1 := hyk (by trivial)
        have hgB := grow1 w3 (.cells #[.string ⟨name.toArray⟩, .slice a2 L p2] 37)
        have hwB := Whole.made w3 37 #[.string ⟨name.toArray⟩, .slice a2 L p2]
        have hzB := hz3.trans (hgB.mono hz3.size)
        have hownB := hown3.call hgB
        have haxB := AttrsP.callT hax3 hgB
        have b0 := hwB.cell 0
        have b1 := hwB.cell 1
        have hsz := hzB.size
        simp only [List.getElem?_toArray, List.getElem?_cons_zero, List.getElem?_cons_succ] at b0 b1
        go_wp2_with (at_builtin; refine push_k enK 37 43 [9, 47] (by decide) Tryz.underlying43 HI.out hz0 hz1 hz2 (by rfl) (by rfl) _ _ (by rfl) w.heap.size (Nat.le_refl _) _ ((xs.take k).filter P) (by rfl) hownB w3.heap.size (by rfl) ⟨name, ats⟩ _ b0 b1 haxB (by omega) hsz ?_)
        intro v4 w4 hown4 hb4 hgw4
        rw [← hk1] at hown4
        go_wp2_with fail
        go_roundw
        case rel => exact ⟨k + 1, by omega, by go_num, hown4, hzB.trans hb4⟩
        case measure => simp [intOf]; omega
    · have hkl : k = xs.length := by omega
      subst hkl
      simp only [List.take_length] at hown
      clear HAT HUN HY HNo HTL HP
      go_wp2_with fail
      refine (hth _ (HRL.out _ hb)).mono ?_; rintro e w3 ⟨u3, rfl, hu3, hb3⟩
      have hz3 := hb.trans (hb3.mono hb.size)
      go_wp2_with fail
      refine (hre _ _ hu3.rules (HEN.out _ hz3)).mono ?_; rintro e w4 ⟨u4, rfl, hu4, hb4⟩
      have hz4 := hz3.trans (hb4.mono hz3.size)
      have hown4 := (hown.call hb3).call hb4
      clear hu3 hre hown
      go_wp2_with fail
      refine (hor _ _ _ hown4.ens hu4.rules (HEN.out _ hz4)).mono ?_; rintro e w5 ⟨u5, rfl, ho5, hb5⟩
      have hz5 := hz4.trans (hb5.mono hz4.size)
      have hown5 := hown4.call hb5
      clear hor hu4 hown4
      go_wp2_with fail
      refine (hth _ (HRL.out _ hz5)).mono ?_; rintro e w6 ⟨u6, rfl, hu6, hb6⟩
      have hz6 := hz5.trans (hb6.mono hz5.size)
      have hown6 := hown5.call hb6
      have ho6 := ho5.call hb6
      clear hown5 ho5 hth
      go_wp2_with fail
      refine (hof _ _ _ hown6.ens hu6.rules (HEN.out _ hz6)).mono ?_; rintro e w7 ⟨u7, rfl, ho7, hb7⟩
      have hz7 := hz6.trans (hb7.mono hz6.size)
      have hs7 := hsa _ _ _ (ho6.call hb7).ens ho7.ens
      clear ho6 ho7 hof hsa hown6 hu6
      go_wp2_with fail
      refine hs7.mono ?_; rintro e w8 ⟨rfl, hb8⟩
      go_wp2_with fail
      go_ret
      exact ⟨rfl, hz7.trans (hb8.mono hz7.size)⟩
theorem lawviewrestricts_c (u v : Value) (xs : List EnS.En) (rl : List PoS.Rl) (s t : ByteArray) (w : World) (h : EnsIn w u xs) (hO : ∀ x ∈ xs, EnOf 1048576 x) (hN : EnS.sumBy EnS.cE xs ≤ 1048576) (hr : RulesIn w v rl) (hl : rl.length ≤ 9223372036854775807) (hw : ∀ r ∈ rl, WideR r) (hs : s.data.toList.length ≤ 1048576) (ht : t.data.toList.length ≤ 1048576) (hE : Env w) :
    Calls Tryz.prog 11 #[u, v, .string s, .string t] w (True_ w) := by
  obtain ⟨l, rfl⟩ := bytes_lst s
  obtain ⟨m, rfl⟩ := bytes_lst t
  exact viewrestricts_c u v xs rl l m w h hN (typs_of hO) hr hl hw (by simpa using hs) (by simpa using ht) hE
end Go.Proofs.YtifjghkgmfmneaaGreatDoor
