/- The walk of the law ViewAbove. Conditions: the entries that come in are of bulk at most 1048576; the library's variables are laid. -/
import Derived.BigQuiet
import Derived.Test.YtdcljilfnkmloaaGreatDoorSVir
import Derived.Test.YtdcljilfnkmloaaGreatDoorSSor
namespace Go.Proofs.YtdcljilfnkmloaaGreatDoor
open Go.RowKit
attribute [local go_sem ↓] Go.wp_at_zero Go.wp_at_succ

set_option maxRecDepth 100000 in
set_option maxHeartbeats 4000000 in
theorem viewabove_c (u v : Value) (xs : List EnS.En) (rl : List PoS.Rl) (s : List UInt8) (w : World) (h : EnsIn w u xs) (hN : EnS.sumBy EnS.cE xs ≤ 1048576) (hT : TypsE xs) (hr : RulesIn w v rl) (hl : rl.length ≤ 9223372036854775807) (hw : ∀ r ∈ rl, WideR r) (hs : s.length ≤ 1048576) (hE : Env w) :
    Calls Tryz.prog 5 #[u, v, .string ⟨s.toArray⟩] w (True_ w) := by
  have HIN := Lib.hid (fun W (hb : Below w.heap.size w W) => EnsP.call h hb)
  have HRL := Lib.hid (fun W (hb : Below w.heap.size w W) => hr.call hb (Nat.le_refl _))
  have HEN := Lib.hid (fun W (hb : Below w.heap.size w W) => hE.below hb)
  have hfew := fun W (hb : Below w.heap.size w W) => few12_c u v xs rl s W (EnsP.call h hb) hN (hr.call hb (Nat.le_refl _)) hl hw hs
  unfold FewRet12 at hfew
  obtain ⟨a, c, rfl, hc⟩ := SliceP.form h
  obtain ⟨vr, vc, rfl⟩ := hr.form
  clear h hN hr hl hw hs
  go_enter Tryz.func5, Tryz.ntmps5
  go_wp2_with fail
  refine (awake12_c _ hE).mono ?_; rintro e w1 ⟨rfl, hb1⟩
  go_wp2_with fail
  refine (hfew _ hb1).mono ?_; rintro e w2 ⟨b, rfl, hok, hb2⟩
  have hz2 := below_trans hb1 hb2
  clear hfew hb1 hb2 hE
  cases b with
  | false =>
    clear hok
    go_wp2_with fail
    refine (awake12_c _ (HEN.out _ hz2)).mono ?_; rintro e w9 ⟨rfl, hb9⟩
    go_wp2_with fail
    go_ret
    exact ⟨rfl, below_trans hz2 hb9⟩
  | true =>
  obtain ⟨hf, hsm, h3⟩ := hok (by trivial)
  clear hok
  have hth := fun W h => theirs11_c (.slice vr rl.length vc) rl W h hsm.1
  have htr := fun W h hE => reftree_c (.slice a xs.length c) xs W h hf hT hE
  unfold RulesRet at hth
  unfold TreeRet at htr
  go_wp2_with fail
  refine (htr _ (HIN.out _ hz2) (HEN.out _ hz2)).mono ?_
  rintro e w3 (⟨ec, he0, rfl, hb3⟩ | ⟨b3, v3, ys, rfl, hcell, hblt, hens, hfy, hty, hfm, hpr, hb3⟩)
  · have hz3 := below_trans hz2 hb3
    clear htr hth hf hT hsm h3 HIN HRL HEN hz2 hb3
    go_wp2_with fail
    go_ret
    exact ⟨rfl, hz3⟩
  have hz3 := below_trans hz2 hb3
  have HIN3 := Lib.hid (fun W (hb : Below w3.heap.size w3 W) => EnsP.call hens hb)
  have hof := fun U W (hb : Below w3.heap.size w3 W) hr hE => vof_c v3 U ys rl s W (EnsP.call hens hb) hfy hty hr hsm.2 hsm.1 (by omega) hE
  have hvl := EnS.ofV_len rl s ys
  have hvf := ofV_fit (rl := rl) (subject := s) hfy
  have hab : ∀ x ∈ EnS.ofV rl s ys, (DnS.parentS x.name).1 ≠ [] → EnS.inS (EnS.ofV rl s ys) (DnS.parentS x.name).1 = true ∧ DnS.normN (DnS.parentS x.name).1 = ((DnS.parentS x.name).1, 0) := fun x hx h0 => EnS.view_above hx hpr hfm h0
  have HAB := Lib.hid (fun k (hk : k < (EnS.ofV rl s ys).length) => hab _ (List.getElem_mem hk))
  have HVF := Lib.hid (fun k (hk : k < (EnS.ofV rl s ys).length) => (hvf.2 _ (List.getElem_mem hk)).1)
  have hyl : (EnS.ofV rl s ys).length ≤ 1048576 := Nat.le_trans hvl hfy.1
  unfold OfRet at hof
  obtain ⟨a3, c3, rfl, hc3⟩ := SliceP.form hens
  clear htr hf hT hsm h3 hvf hvl hab hfm hpr hty hfy HIN HIN3 hens
  generalize EnS.ofV rl s ys = V at *
  generalize ys.length = Y at *
  have hbD : Below w3.heap.size w3 w3.drew := below_drewN w3 1
  have hcD := keepC hcell hbD
  go_wp2_with fail
  go_region_held3 (fun W => W.cell? ⟨b3, 0, none⟩ = some (.slice a3 Y c3) ∧ Below w3.heap.size w3 W)
    (first | exact ⟨hcD, hbD⟩ | (go_split_ands; exact ⟨keepC (by assumption) hbN, Below.trans (by assumption) (hbN.mono (Below.size (by assumption)))⟩) | go_keep)
    (first
      | (go_at_call 18; go_split_ands; with_reducible refine (hth _ (HRL.out _ (below_trans hz3 (by assumption)))).mono ?_; rintro e wN ⟨uN, rfl, huN, hbN⟩; obtain ⟨pu, cu, rfl⟩ := huN.form; have hur := OwnR.rules huN)
      | (go_at_call 17; go_split_ands; with_reducible refine (hof _ _ ?_ ?_ ?_).mono ?_; assumption; assumption; exact HEN.out _ (below_trans hz3 (by assumption)); rintro e wN ⟨vN, rfl, hoN, hbN⟩; obtain ⟨av, cv, rfl⟩ := hoN.form))
  go_split_ands
  have hz4 : Below w.heap.size w wN := below_trans hz3 (by assumption)
  obtain ⟨a4, c4, e4, hc4, hat4⟩ := SliceP.at hoN.ens
  cases e4
  have HAT := Lib.hid hat4
  have HIN4 := Lib.hid hoN.ens
  have HEN4 := Lib.hid (fun W (hb : Below wN.heap.size wN W) => HEN.out _ (below_trans hz4 hb))
  have hatc := fun n W (hb : Below wN.heap.size wN W) (hn : n.length ≤ 1000000) => at_c (.slice av V.length cv) V n W (HEN4.out _ hb) (EnsP.call HIN4.out hb) hyl hn
  unfold IdxRetI at hatc
  clear hat4 hoN hth hof
  go_wp2_with fail
  go_loopw [40] (fun i wr => ∃ k : Nat, k ≤ V.length ∧ i = .int .i64 k ∧ Below wN.heap.size wN wr) (fun i _ => V.length - (intOf i).toNat)
  case atStart => exact ⟨0, Nat.zero_le _, rfl, Below.refl _ _⟩
  case round =>
    obtain ⟨k, hk, rfl, hb⟩ := hrel
    by_cases hlt : k < V.length
    · obtain ⟨g, o, rfl, hg, _, hra⟩ := HAT.out k hlt
      obtain ⟨c0, a5, p5, c1, hp5, _⟩ := EnAt.parts (EnAt.call hra hg trivial hb)
      have hpar := rnparent_c (V[k]'hlt).name (HVF.out k hlt) wr (HEN4.out _ hb)
      have hps := parent_short (V[k]'hlt).name
      have HA1 := Lib.hid (HAB.out k hlt)
      unfold NmPar at hpar
      clear hra HAT HAB HVF
      generalize V[k] = x at *
      obtain ⟨name, ats⟩ := x
      simp only at c0 hpar hps HA1
      generalize DnS.parentS name = PN at *
      obtain ⟨p, pb⟩ := PN
      simp only at hpar hps HA1
      have hl0 : (0 : Int) ≤ (k : Int) := by omega
      have hl1 : (k : Int) < (V.length : Int) := by omega
      go_wp2_with fail
      refine hpar.mono ?_; rintro e w5 ⟨rfl, hb5⟩
      have hz5 := hb.trans (hb5.mono hb.size)
      clear hpar
      cases p with
      | nil =>
        clear HA1 hatc
        go_wp2_with fail
        go_roundw
        case rel => exact ⟨k + 1, by omega, by go_num, hz5⟩
        case measure => simp [intOf]; omega
      | cons p0 pr =>
        obtain ⟨hin, hnn⟩ := HA1.out (by simp)
        have hsome := at_in (xs := V) hnn
        rw [hin] at hsome
        have hat1 := hatc (p0 :: pr) w5 hz5 (by omega)
        obtain ⟨i1, hi1⟩ := Option.isSome_iff_exists.1 hsome
        rw [hi1] at hat1
        have hix : idxI (some i1) = (i1 : Int) := rfl
        rw [hix] at hat1
        have hi0 : decide ((i1 : Int) < 0) = false := decide_eq_false (by omega)
        clear HA1 hatc hin hnn hsome hi1 hix
        generalize hpp : p0 :: pr = pp at *
        have hpe : pp.isEmpty = false := by subst hpp; rfl
        have hpe2 : (pp == []) = false := by subst hpp; rfl
        have hpe3 : ¬ pp = [] := by subst hpp; simp
        clear hpp
        go_wp2_with fail
        refine hat1.mono ?_; rintro e w6 ⟨rfl, hb6⟩
        have hz6 := hz5.trans (hb6.mono hz5.size)
        go_wp2_with fail
        go_roundw
        case rel => exact ⟨k + 1, by omega, by go_num, hz6⟩
        case measure => simp [intOf]; omega
    · have hkl : k = V.length := by omega
      subst hkl
      have hzr := below_trans hz4 hb
      clear HAT HAB HVF hatc
      go_wp2_with fail
      go_ret
      exact ⟨rfl, hzr⟩
theorem lawviewabove_c (u v : Value) (xs : List EnS.En) (rl : List PoS.Rl) (s : ByteArray) (w : World) (h : EnsIn w u xs) (hO : ∀ x ∈ xs, EnOf 1048576 x) (hN : EnS.sumBy EnS.cE xs ≤ 1048576) (hr : RulesIn w v rl) (hl : rl.length ≤ 9223372036854775807) (hw : ∀ r ∈ rl, WideR r) (hs : s.data.toList.length ≤ 1048576) (hE : Env w) :
    Calls Tryz.prog 5 #[u, v, .string s] w (True_ w) := by
  obtain ⟨l, rfl⟩ := bytes_lst s
  exact viewabove_c u v xs rl l w h hN (typs_of hO) hr hl hw (by simpa using hs) hE
end Go.Proofs.YtdcljilfnkmloaaGreatDoor
