/- The walk of the law ViewLess. Conditions: the entries that come in are of bulk at most 1048576; the library's variables are laid. -/
import Derived.BigQuiet
import Derived.Test.YtifjghkgmfmneaaGreatDoorSVir
namespace Go.Proofs.YtifjghkgmfmneaaGreatDoor
open Go.RowKit
attribute [local go_sem ↓] Go.wp_at_zero Go.wp_at_succ

theorem view_short {rl : List PoS.Rl} {subject : List UInt8} {xs : List EnS.En} {x : EnS.En} (h : x ∈ EnS.ofV rl subject xs) : x.name.length ≤ 1000 ∧ ∀ a ∈ x.attrs, a.typ.length ≤ 100000 := by
  have h1 := (EnS.view_read h).1
  obtain ⟨e, _, hf, _, rfl⟩ := EnS.ofV_mem.1 h
  refine ⟨?_, fun a ha => formed_short hf a (part_sub rl subject e a ha)⟩
  have := DnS.norm_len (EnS.partV rl subject e).name
  rw [h1] at this
  exact this
set_option maxRecDepth 100000 in
set_option maxHeartbeats 4000000 in
theorem viewless_c (u v : Value) (xs : List EnS.En) (rl : List PoS.Rl) (s : List UInt8) (w : World) (h : EnsIn w u xs) (hN : EnS.sumBy EnS.cE xs ≤ 1048576) (hT : TypsE xs) (hr : RulesIn w v rl) (hl : rl.length ≤ 9223372036854775807) (hw : ∀ r ∈ rl, WideR r) (hs : s.length ≤ 1048576) (hE : Env w) :
    Calls Tryz.prog 8 #[u, v, .string ⟨s.toArray⟩] w (True_ w) := by
  have HIN := Lib.hid (fun W (hb : Below w.heap.size w W) => EnsP.call h hb)
  have HRL := Lib.hid (fun W (hb : Below w.heap.size w W) => hr.call hb (Nat.le_refl _))
  have HEN := Lib.hid (fun W (hb : Below w.heap.size w W) => hE.below hb)
  have hfew := fun W (hb : Below w.heap.size w W) => few12_c u v xs rl s W (EnsP.call h hb) hN (hr.call hb (Nat.le_refl _)) hl hw hs
  unfold FewRet12 at hfew
  obtain ⟨a, c, rfl, hc⟩ := SliceP.form h
  obtain ⟨vr, vc, rfl⟩ := hr.form
  clear h hN hr hl hw hs
  go_enter Tryz.func8, Tryz.ntmps8
  go_wp2_with fail
  refine (awake12_c _ hE).mono ?_; rintro e w1 ⟨rfl, hb1⟩
  go_wp2_with fail
  refine (hfew _ hb1).mono ?_; rintro e w2 ⟨b, rfl, hok, hb2⟩
  have hz2 := below_trans hb1 hb2
  clear hfew hb1 hb2 hE
  cases b with
  | false =>
    clear hok
    go_wp2_with fail
    refine (awake12_c _ (HEN.out _ hz2)).mono ?_; rintro e w9 ⟨rfl, hb9⟩
    go_wp2_with fail
    go_ret
    exact ⟨rfl, below_trans hz2 hb9⟩
  | true =>
  obtain ⟨hf, hsm, h3⟩ := hok (by trivial)
  clear hok
  have hth := fun W h => theirs11_c (.slice vr rl.length vc) rl W h hsm.1
  have hof := fun U V W h hr hE => vof_c U V xs rl s W h hf hT hr hsm.2 hsm.1 (by omega) hE
  have hat := fun n W hE h (hn : n.length ≤ 1000000) => at_c (.slice a xs.length c) xs n W hE h hf.1 hn
  have hde := fun U n t W h (hn : n.length ≤ 1000) (ht : t.length ≤ 100000) hE => polDecide_c U rl s n t 1 W h hsm.2 hsm.1 (by omega) (by omega) ht hE
  have hvl := EnS.ofV_len rl s xs
  have HVR := Lib.hid (fun k (hk : k < (EnS.ofV rl s xs).length) => EnS.view_read (List.getElem_mem hk))
  have HVS := Lib.hid (fun k (hk : k < (EnS.ofV rl s xs).length) => view_short (List.getElem_mem hk))
  have hxl : xs.length ≤ 1048576 := hf.1
  have hvf := ofV_fit (rl := rl) (subject := s) hf
  have HVF := Lib.hid (fun k (hk : k < (EnS.ofV rl s xs).length) => (hvf.2 _ (List.getElem_mem hk)).2.1)
  unfold RulesRet at hth
  unfold OfRet at hof
  unfold IdxRetI at hat
  unfold NmBool at hde
  clear hf hT hsm h3 hvf
  generalize EnS.ofV rl s xs = V at *
  go_wp2_with fail
  refine (hth _ (HRL.out _ hz2)).mono ?_; rintro e w3 ⟨u3, rfl, hu3, hb3⟩
  have hz3 := below_trans hz2 hb3
  go_wp2_with fail
  refine (hof _ _ _ (HIN.out _ hz3) hu3.rules (HEN.out _ hz3)).mono ?_; rintro e w4 ⟨u4, rfl, ho4, hb4⟩
  have hz4 := below_trans hz3 hb4
  obtain ⟨av, cv, rfl, hcv, hatv⟩ := SliceP.at ho4.ens
  have HAT := Lib.hid hatv
  clear hof hu3 ho4 hb3 hb4 hz2 hz3 hatv
  go_wp2_with fail
  go_loopw [29] (fun i wr => ∃ k : Nat, k ≤ V.length ∧ i = .int .i64 k ∧ Below w4.heap.size w4 wr) (fun i _ => V.length - (intOf i).toNat)
  case atStart => exact ⟨0, Nat.zero_le _, rfl, Below.refl _ _⟩
  case round =>
    obtain ⟨k, hk, rfl, hb⟩ := hrel
    have hzr := below_trans hz4 hb
    by_cases hlt : k < V.length
    · obtain ⟨g, o, rfl, hg, _, hra⟩ := HAT.out k hlt
      obtain ⟨c0, a2, p2, c1, hp2, hax⟩ := EnAt.parts hra
      obtain ⟨hnn, hin, hdn, hda⟩ := HVR.out k hlt
      obtain ⟨hnl, htl⟩ := HVS.out k hlt
      have hvf := HVF.out k hlt
      clear hra HAT HVR HVS HVF
      generalize V[k] = x at *
      obtain ⟨name, ats⟩ := x
      simp only at c0 c1 hp2 hax hnn hin hdn hda hnl htl hvf
      have hl0 : (0 : Int) ≤ (k : Int) := by omega
      have hl1 : (k : Int) < (V.length : Int) := by omega
      have hsome := at_in (xs := xs) hnn
      rw [hin] at hsome
      have hat1 := hat name wr (HEN.out _ hzr) (HIN.out _ hzr) (by omega)
      obtain ⟨i1, hi1⟩ := Option.isSome_iff_exists.1 hsome
      rw [hi1] at hat1
      have hix : idxI (some i1) = (i1 : Int) := rfl
      rw [hix] at hat1
      have hi0 : decide ((i1 : Int) < 0) = false := decide_eq_false (by omega)
      have e0 := keepC c0 hb
      have e1 := keepC c1 hb
      obtain ⟨ax, cx, hax0, hcx, haxt⟩ := SliceP.at hax
      cases hax0
      have HAX := Lib.hid haxt
      have HDA := Lib.hid (fun j (hj : j < ats.length) => hda _ (List.getElem_mem hj))
      have HTL := Lib.hid (fun j (hj : j < ats.length) => htl _ (List.getElem_mem hj))
      have hdn1 := fun U W h hE => hde U name [] W h hnl (by simp) hE
      rw [hdn] at hdn1
      have hgw : g < w4.heap.size := hg
      clear haxt hda htl hax hat hnn hin hsome hi1 hix
      go_wp2_with fail
      refine hat1.mono ?_; rintro e w5 ⟨rfl, hb5⟩
      have hbr5 := hb.trans (hb5.mono hb.size)
      have hzr5 := below_trans hz4 hbr5
      have f0 := keepC c0 hbr5
      have f1 := keepC c1 hbr5
      have hbD : Below w5.heap.size w5 w5.drew := below_drewN w5 1
      go_wp2_with fail
      go_region_held3 (fun W => W.cell? ⟨g, o + k * 2, none⟩ = some (.string ⟨name.toArray⟩) ∧ Below w4.heap.size w4 W)
        (first | exact ⟨f0, hbr5.trans (hbD.mono hbr5.size)⟩ | (go_split_ands; exact ⟨keepC (by assumption) hbN, Below.trans (by assumption) (hbN.mono (Below.size (by assumption)))⟩) | go_keep)
        (first
          | (go_at_call 25; go_split_ands; with_reducible refine (hth _ (HRL.out _ (below_trans hz4 (by assumption)))).mono ?_; rintro e wN ⟨uN, rfl, huN, hbN⟩; obtain ⟨pu, cu, rfl⟩ := huN.form; have hur := OwnR.rules huN)
          | (go_at_call 24; go_split_ands; with_reducible refine (hdn1 _ _ ?_ ?_).mono ?_; assumption; exact HEN.out _ (below_trans hz4 (by assumption)); rintro e wN ⟨rfl, hbN⟩))
      go_split_ands
      have hbn : Below w4.heap.size w4 wN := by assumption
      have n1 := keepC c1 hbn
      clear hat1 e0 e1 f0 f1 hdn1 hbr5 hzr5 hb
      generalize hLL : ats.length = L at c1 n1 hp2 hvf ⊢
      go_wp2_with fail
      go_loopw [59] (fun j wr => ∃ m : Nat, m ≤ L ∧ j = .int .i64 m ∧ Below w4.heap.size w4 wr) (fun j _ => L - (intOf j).toNat)
      case atStart => exact ⟨0, Nat.zero_le _, rfl, hbn⟩
      case round =>
        obtain ⟨m, hm, rfl, hb⟩ := hrel
        clear hbn n1
        have n0 := keepC c0 hb
        have n1 := keepC c1 hb
        by_cases hlm : m < L
        · have hlx : m < ats.length := by omega
          obtain ⟨g2, o2, rfl, hg2, _, hra2⟩ := HAX.out m hlx
          obtain ⟨d0, a3, p3, d1, hp3, _⟩ := AttrAt.parts hra2
          obtain ⟨hd1, hv1⟩ := HDA.out m hlx
          have ht1 := HTL.out m hlx
          clear hra2 HAX HDA HTL
          generalize ats[m] = y at *
          obtain ⟨ty, vals⟩ := y
          simp only at d0 d1 hp3 hd1 hv1 ht1
          have hvn : (((vals.length : Nat) : Int) == 0) = false := by
            have : vals.length ≠ 0 := fun h => hv1 (List.eq_nil_of_length_eq_zero h)
            simp; exact hv1
          have hdn2 := fun U W h hE => hde U name ty W h hnl ht1 hE
          rw [hd1] at hdn2
          have k0 := keepC d0 hb
          have k1 := keepC d1 hb
          have hj0 : (0 : Int) ≤ (m : Int) := by omega
          have hj1 : (m : Int) < (L : Int) := by omega
          clear hv1
          generalize vals.length = L2 at *
          have hgA := grow1 wr (.cells #[.string ⟨ty.toArray⟩, .slice a3 L2 p3] 47)
          have hwA := Whole.made wr 47 #[.string ⟨ty.toArray⟩, .slice a3 L2 p3]
          have hbA := hb.trans (hgA.mono hb.size)
          have j0 := hwA.cell 0
          have j1 := hwA.cell 1
          simp only [List.getElem?_toArray, List.getElem?_cons_zero, List.getElem?_cons_succ] at j0 j1
          have i0 := keepC c0 hbA
          have hbD2 : Below (wr.alloc (.cells #[.string ⟨ty.toArray⟩, .slice a3 L2 p3] 47)).heap.size (wr.alloc (.cells #[.string ⟨ty.toArray⟩, .slice a3 L2 p3] 47)) (wr.alloc (.cells #[.string ⟨ty.toArray⟩, .slice a3 L2 p3] 47)).drew := below_drewN _ 1
          clear hde
          go_wp2_with fail
          go_region_held3 (fun W => W.cell? ⟨g, o + k * 2, none⟩ = some (.string ⟨name.toArray⟩) ∧ W.cell? ⟨wr.heap.size, 0, none⟩ = some (.string ⟨ty.toArray⟩) ∧ W.cell? ⟨wr.heap.size, 1, none⟩ = some (.slice a3 L2 p3) ∧ Below w4.heap.size w4 W)
            (first | exact ⟨i0, j0, j1, hbA.trans (hbD2.mono hbA.size)⟩ | (go_split_ands; exact ⟨keepC (by assumption) hbN, keepC (by assumption) hbN, keepC (by assumption) hbN, Below.trans (by assumption) (hbN.mono (Below.size (by assumption)))⟩) | go_keep)
            (first
              | (go_at_call 25; go_split_ands; with_reducible refine (hth _ (HRL.out _ (below_trans hz4 (by assumption)))).mono ?_; rintro e wN ⟨uN, rfl, huN, hbN⟩; obtain ⟨pu, cu, rfl⟩ := huN.form; have hur := OwnR.rules huN)
              | (go_at_call 24; go_split_ands; with_reducible refine (hdn2 _ _ ?_ ?_).mono ?_; assumption; exact HEN.out _ (below_trans hz4 (by assumption)); rintro e wN ⟨rfl, hbN⟩))
          go_split_ands
          have hbm : Below w4.heap.size w4 wN := by assumption
          go_wp2_with fail
          go_roundw
          case rel => exact ⟨m + 1, by omega, by go_num, hbm⟩
          case measure => simp [intOf]; omega
        · have hml : m = L := by omega
          subst hml
          go_wp2_with fail
          go_roundw
          case rel => exact ⟨k + 1, by omega, by go_num, hb⟩
          case measure => simp [intOf]; omega
    · have hkl : k = V.length := by omega
      subst hkl
      have hle : decide ((V.length : Int) ≤ (xs.length : Int)) = true := decide_eq_true (by omega)
      clear HAT HVR HVS HVF
      go_wp2_with fail
      go_ret
      exact ⟨rfl, hzr⟩
theorem lawviewless_c (u v : Value) (xs : List EnS.En) (rl : List PoS.Rl) (s : ByteArray) (w : World) (h : EnsIn w u xs) (hO : ∀ x ∈ xs, EnOf 1048576 x) (hN : EnS.sumBy EnS.cE xs ≤ 1048576) (hr : RulesIn w v rl) (hl : rl.length ≤ 9223372036854775807) (hw : ∀ r ∈ rl, WideR r) (hs : s.data.toList.length ≤ 1048576) (hE : Env w) :
    Calls Tryz.prog 8 #[u, v, .string s] w (True_ w) := by
  obtain ⟨l, rfl⟩ := bytes_lst s
  exact viewless_c u v xs rl l w h hN (typs_of hO) hr hl hw (by simpa using hs) hE
end Go.Proofs.YtifjghkgmfmneaaGreatDoor
