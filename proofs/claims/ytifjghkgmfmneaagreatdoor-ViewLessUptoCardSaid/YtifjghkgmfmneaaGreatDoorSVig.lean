/- The walk of the law ViewSees. Conditions: the entries that come in are of bulk at most 1048576; the library's variables are laid. The law ViewSees, as its row asks it. Conditions: those that it states; the library's variables are laid. -/
import Derived.Test.YtifjghkgmfmneaaGreatDoorSVif
import Derived.Test.YtifjghkgmfmneaaGreatDoorSTai
import Derived.Test.YtifjghkgmfmneaaGreatDoorSRwe
namespace Go.Proofs.YtifjghkgmfmneaaGreatDoor
open Go.RowKit
attribute [local go_sem ↓] Go.wp_at_zero Go.wp_at_succ

theorem part_sub (rl : List PoS.Rl) (subject : List UInt8) (e : EnS.En) : ∀ x ∈ (EnS.partV rl subject e).attrs, x ∈ e.attrs := fun _ hx => (List.mem_filter.1 hx).1
theorem ofV_fit {rl : List PoS.Rl} {subject : List UInt8} {xs : List EnS.En} (h : FitE xs) : FitE (EnS.ofV rl subject xs) := by
  refine ⟨Nat.le_trans (EnS.ofV_len rl subject xs) h.1, fun x hx => ?_⟩
  obtain ⟨e, he, _, _, rfl⟩ := EnS.ofV_mem.1 hx
  obtain ⟨h1, h2⟩ := h.2 e he
  exact ⟨h1, FitA.filter h2 _⟩
def nmO (o : Option EnS.En) : List UInt8 := match o with | none => [] | some x => x.name
def atO (o : Option EnS.En) : List EnS.At := match o with | none => [] | some x => x.attrs
/-- an entry and whether it is one -/
def OneAll (C : Nat) (o : Option EnS.En) (w : World) (e : Ending) (w' : World) : Prop := ∃ a c, e = .returned (.tuple #[.agg #[.string ⟨(nmO o).toArray⟩, .slice a (atO o).length c], .bool o.isSome]) ∧ OwnK atK 47 [9] C w' w.heap.size (.slice a (atO o).length c) (atO o) ∧ Below w.heap.size w w'
theorem OneRet.all {C : Nat} {o : Option EnS.En} {w w' : World} {e : Ending} (h : OneRet C o w e w') : OneAll C o w e w' := by
  rcases h with ⟨x, rfl, u, rfl, hown, hb⟩ | ⟨rfl, rfl, hb⟩
  · obtain ⟨a, c, rfl⟩ := hown.form
    exact ⟨a, c, rfl, hown, hb⟩
  · exact ⟨none, 0, rfl, OwnK.empty _ _ _ _ _ _, hb⟩
theorem one_fit {rl : List PoS.Rl} {subject : List UInt8} {e : EnS.En} (h : FitA e.attrs) : (atO (EnS.oneV rl subject e)).length ≤ 1048576 ∧ ∀ x ∈ atO (EnS.oneV rl subject e), x.vals.length ≤ 1048576 := by
  unfold EnS.oneV
  split
  · have := FitA.filter h (fun a => PoS.decideS rl subject 1 e.name a.typ)
    exact ⟨this.1, fun x hx => (this.2 x hx).1⟩
  · exact ⟨by simp [atO], fun x hx => by cases hx⟩
theorem ne_bool (b : Bool) : (b != b) = false := by cases b <;> rfl
set_option maxRecDepth 100000 in
set_option maxHeartbeats 4000000 in
theorem viewsees_c (u v : Value) (xs : List EnS.En) (rl : List PoS.Rl) (s : List UInt8) (w : World) (h : EnsIn w u xs) (hN : EnS.sumBy EnS.cE xs ≤ 1048576) (hT : TypsE xs) (hr : RulesIn w v rl) (hl : rl.length ≤ 9223372036854775807) (hw : ∀ r ∈ rl, WideR r) (hs : s.length ≤ 1048576) (hE : Env w) :
    Calls Tryz.prog 7 #[u, v, .string ⟨s.toArray⟩] w (True_ w) := by
  have HIN := Lib.hid (fun W (hb : Below w.heap.size w W) => EnsP.call h hb)
  have HRL := Lib.hid (fun W (hb : Below w.heap.size w W) => hr.call hb (Nat.le_refl _))
  have HEN := Lib.hid (fun W (hb : Below w.heap.size w W) => hE.below hb)
  have hfew := fun W (hb : Below w.heap.size w W) => few12_c u v xs rl s W (EnsP.call h hb) hN (hr.call hb (Nat.le_refl _)) hl hw hs
  unfold FewRet12 at hfew
  obtain ⟨a, c, rfl, hc, hat⟩ := SliceP.at h
  have HAT := Lib.hid hat
  have HBS := Lib.hid (fun k (hk : k < xs.length) => hat k hk)
  obtain ⟨vr, vc, rfl⟩ := hr.form
  clear hat h hN hr hl hw hs
  go_enter Tryz.func7, Tryz.ntmps7
  go_wp2_with fail
  refine (awake12_c _ hE).mono ?_; rintro e w1 ⟨rfl, hb1⟩
  go_wp2_with fail
  refine (hfew _ hb1).mono ?_; rintro e w2 ⟨b, rfl, hok, hb2⟩
  have hz2 := below_trans hb1 hb2
  clear hfew hb1 hb2 hE
  cases b with
  | false =>
    clear hok
    go_wp2_with fail
    refine (awake12_c _ (HEN.out _ hz2)).mono ?_; rintro e w9 ⟨rfl, hb9⟩
    go_wp2_with fail
    go_ret
    exact ⟨rfl, below_trans hz2 hb9⟩
  | true =>
  obtain ⟨hf, ⟨hll, hsm⟩, h3⟩ := hok (by trivial)
  clear hok
  have hth := fun W h => theirs11_c (.slice vr rl.length vc) rl W h hll
  have hof := fun U V W h hr hE => vof_c U V xs rl s W h hf hT hr hsm hll (by omega) hE
  have hrof := fun U V W h hr hE => refof_c U V xs rl s W h hf hT hr hsm hll (by omega) hE
  have hsa := fun U V W h1 h2 => sameall_c U V (EnS.ofV rl s xs) W h1 h2 (ofV_fit hf).1 (fun e he => ⟨((ofV_fit hf).2 e he).2.1, fun x hx => (((ofV_fit hf).2 e he).2.2 x hx).1⟩)
  have HON := Lib.hid (fun k (hk : k < xs.length) C U V W (hC : C ≤ W.heap.size) (h : AttrsE [9] C W U (xs[k]'hk).attrs) hr hE => (vone_c C (xs[k]'hk).name (xs[k]'hk).attrs U V rl s W hC h (hf.2 _ (List.getElem_mem hk)).2 (hT _ (List.getElem_mem hk)) (hf.2 _ (List.getElem_mem hk)).1 hr hsm hll (by omega) hE).mono fun _ _ h => h.all)
  have HRO := Lib.hid (fun k (hk : k < xs.length) C U V W (hC : C ≤ W.heap.size) (h : AttrsE [9] C W U (xs[k]'hk).attrs) hr hE => (refone_c C (xs[k]'hk).name (xs[k]'hk).attrs U V rl s W hC h (hf.2 _ (List.getElem_mem hk)).2 (hT _ (List.getElem_mem hk)) (hf.2 _ (List.getElem_mem hk)).1 hr hsm hll (by omega) hE).mono fun _ _ h => h.all)
  have HSM := Lib.hid (fun k (hk : k < xs.length) U V W h1 h2 => same09_c (nmO (EnS.oneV rl s (xs[k]'hk))) (atO (EnS.oneV rl s (xs[k]'hk))) U V W h1 h2 (one_fit (hf.2 _ (List.getElem_mem hk)).2).1 (one_fit (hf.2 _ (List.getElem_mem hk)).2).2)
  unfold OneAll at HON HRO
  unfold RulesRet at hth
  unfold OfRet at hof hrof
  unfold True_ at hsa HSM
  have hxl : xs.length ≤ 1048576 := hf.1
  clear hf hT hsm hll h3
  go_wp2_with fail
  refine (hth _ (HRL.out _ hz2)).mono ?_; rintro e w3 ⟨u3, rfl, hu3, hb3⟩
  have hz3 := below_trans hz2 hb3
  go_wp2_with fail
  refine (hof _ _ _ (HIN.out _ hz3) hu3.rules (HEN.out _ hz3)).mono ?_; rintro e w4 ⟨u4, rfl, ho4, hb4⟩
  have hz4 := below_trans hz3 hb4
  go_wp2_with fail
  refine (hrof _ _ _ (HIN.out _ hz4) (HRL.out _ hz4) (HEN.out _ hz4)).mono ?_; rintro e w5 ⟨u5, rfl, ho5, hb5⟩
  have hz5 := below_trans hz4 hb5
  have hs5 := hsa _ _ _ (ho4.call hb5).ens ho5.ens
  clear hof hrof hsa hu3 ho4 ho5 hb3 hb4 hb5
  go_wp2_with fail
  refine hs5.mono ?_; rintro e w6 ⟨rfl, hb6⟩
  have hz6 := below_trans hz5 hb6
  clear hs5 hz2 hz3 hz4 hz5 hb6
  go_wp2_with fail
  go_loopw [35] (fun i wr => ∃ k : Nat, k ≤ xs.length ∧ i = .int .i64 k ∧ Below w.heap.size w wr) (fun i _ => xs.length - (intOf i).toNat)
  case atStart => exact ⟨0, Nat.zero_le _, rfl, hz6⟩
  case round =>
    obtain ⟨k, hk, rfl, hb⟩ := hrel
    clear hz6
    by_cases hlt : k < xs.length
    · obtain ⟨g, o, rfl, hg, _, hra⟩ := HAT.out k hlt
      have hra2 := EnAt.call hra hg trivial hb
      obtain ⟨c0, a2, p2, c1, hp2, hax⟩ := EnAt.parts hra2
      have hon := HON.out k hlt
      have hro := HRO.out k hlt
      have hsm := HSM.out k hlt
      clear hra hra2 HON HRO HSM HAT HBS HIN
      generalize EnS.oneV rl s xs[k] = O at *
      generalize xs[k] = x at *
      obtain ⟨name, ats⟩ := x
      simp only at c0 c1 hp2 hax hon hro
      have hl0 : (0 : Int) ≤ (k : Int) := by omega
      have hl1 : (k : Int) < (xs.length : Int) := by omega
      generalize ats.length = L at *
      have hne := ne_bool O.isSome
      generalize O.isSome = OB at *
      generalize nmO O = nm at *
      generalize atO O = as2 at *
      have hbD : Below wr.heap.size wr wr.drew := below_drewN wr 1
      have hae := (hax.base [9]).exp
      have hgr : g < wr.heap.size := Nat.lt_of_lt_of_le hg hb.size
      go_wp2_with fail
      refine head_begin 13 (fun W => W.cell? ⟨g, o + k * 2, none⟩ = some (.string ⟨name.toArray⟩) ∧ W.cell? ⟨g, o + k * 2 + 1, none⟩ = some (.slice a2 L p2)) (by kernel_rfl) (by kernel_rfl) ⟨c0, c1⟩ (fun hHeld => ?_)
      refine head_take 0 ?_ (by simp only [List.length_cons, List.length_nil]; decide) (by kernel_rfl) (fun _ _ _ h => h) (by rfl) ?_ hHeld ?_
      rotate_left
      · intro W hSw; (try simp only [List.getElem_cons_zero]); (try go_split_ands); go_simp; (try with_reducible rfl)
      (try simp only [List.getElem_cons_zero, Act.put, List.setIfInBounds_toArray, List.set_cons_zero, List.set_cons_succ])
      refine head_take 1 ?_ (by simp only [List.length_cons, List.length_nil]; decide) (by kernel_rfl) (fun _ _ _ h => h) (by rfl) ?_ hHeld ?_
      rotate_left
      · intro W hSw; (try simp only [List.getElem_cons_succ, List.getElem_cons_zero]); (try go_split_ands); go_simp; (try with_reducible rfl)
      (try simp only [List.getElem_cons_succ, List.getElem_cons_zero, Act.put, List.setIfInBounds_toArray, List.set_cons_zero, List.set_cons_succ])
      refine head_take 2 ?_ (by simp only [List.length_cons, List.length_nil]; decide) (by kernel_rfl) (fun _ _ _ h => h) (by rfl) ?_ hHeld ?_
      rotate_left
      · intro W hSw; (try simp only [List.getElem_cons_succ, List.getElem_cons_zero]); (try go_split_ands); go_simp; (try with_reducible rfl)
      (try simp only [List.getElem_cons_succ, List.getElem_cons_zero, Act.put, List.setIfInBounds_toArray, List.set_cons_zero, List.set_cons_succ])
      refine head_take 3 ?_ (by simp only [List.length_cons, List.length_nil]; decide) (by kernel_rfl) (fun _ _ _ h => h) (by rfl) ?_ hHeld ?_
      rotate_left
      · intro W hSw; (try simp only [List.getElem_cons_succ, List.getElem_cons_zero]); (try go_split_ands); go_simp; (try with_reducible rfl)
      (try simp only [List.getElem_cons_succ, List.getElem_cons_zero, Act.put, List.setIfInBounds_toArray, List.set_cons_zero, List.set_cons_succ])
      refine head_take 4 ?_ (by simp only [List.length_cons, List.length_nil]; decide) (by kernel_rfl) (fun _ _ _ h => h) (by rfl) ?_ hHeld ?_
      rotate_left
      · intro W hSw; (try simp only [List.getElem_cons_succ, List.getElem_cons_zero]); (try go_split_ands); go_simp; (try with_reducible rfl)
      (try simp only [List.getElem_cons_succ, List.getElem_cons_zero, Act.put, List.setIfInBounds_toArray, List.set_cons_zero, List.set_cons_succ])
      refine head_take 6 ?_ (by simp only [List.length_cons, List.length_nil]; decide) (by kernel_rfl) (fun _ _ _ h => h) (by rfl) ?_ hHeld ?_
      rotate_left
      · intro W hSw; (try simp only [List.getElem_cons_succ, List.getElem_cons_zero]); (try go_split_ands); go_simp; (try with_reducible rfl)
      (try simp only [List.getElem_cons_succ, List.getElem_cons_zero, Act.put, List.setIfInBounds_toArray, List.set_cons_zero, List.set_cons_succ])
      refine head_two 5 11 (by simp only [List.length_cons, List.length_nil]; decide) (by simp only [List.length_cons, List.length_nil]; decide) (by kernel_rfl) (fun K hK => ?_) (fun K hK => ?_)
      · (try simp only [List.getElem_cons_succ, List.getElem_cons_zero])
        refine if_step (by rfl) ?_
        go_simp
        refine (hth _ (HRL.out _ (hb.trans (hbD.mono hb.size)))).mono ?_
        rintro e w7 ⟨u7, rfl, hu7, hb7⟩
        replace hbD := hbD.trans (hb7.mono hbD.size)
        have hu7 := hu7.rules
        have hsz7 := hbD.size
        (try dsimp only)
        refine hK.out _ _ ?_ (fun hHeld => ?_)
        · exact ⟨keepC c0 hbD, keepC c1 hbD⟩
        clear hK K
        (try simp only [Act.put, List.setIfInBounds_toArray, List.set_cons_zero, List.set_cons_succ])
        refine head_two 7 11 (by simp only [List.length_cons, List.length_nil]; decide) (by simp only [List.length_cons, List.length_nil]; decide) (by kernel_rfl) (fun K hK => ?_) (fun K hK => ?_)
        · (try simp only [List.getElem_cons_succ, List.getElem_cons_zero])
          refine if_step (by rfl) ?_
          go_simp
          refine (hon wr.heap.size _ _ _ hbD.size (hae.callT hbD) hu7 (HEN.out _ (hb.trans (hbD.mono hb.size)))).mono ?_
          rintro e w8 ⟨a8, c8, rfl, hA8, hb8⟩
          replace hA8 := hA8.mono hbD.size
          replace hbD := hbD.trans (hb8.mono hbD.size)
          (try dsimp only)
          refine hK.out _ _ ?_ (fun hHeld => ?_)
          · exact ⟨keepC c0 hbD, keepC c1 hbD⟩
          clear hK K
          (try simp only [Act.put, List.setIfInBounds_toArray, List.set_cons_zero, List.set_cons_succ])
          refine head_take 8 ?_ (by simp only [List.length_cons, List.length_nil]; decide) (by kernel_rfl) (fun _ _ _ h => h) (by rfl) ?_ hHeld ?_
          rotate_left
          · intro W hSw; (try simp only [List.getElem_cons_succ, List.getElem_cons_zero]); (try go_split_ands); go_simp; (try with_reducible rfl)
          (try simp only [List.getElem_cons_succ, List.getElem_cons_zero, Act.put, List.setIfInBounds_toArray, List.set_cons_zero, List.set_cons_succ])
          refine head_take 9 ?_ (by simp only [List.length_cons, List.length_nil]; decide) (by kernel_rfl) (fun _ _ _ h => h) (by rfl) ?_ hHeld ?_
          rotate_left
          · intro W hSw; (try simp only [List.getElem_cons_succ, List.getElem_cons_zero]); (try go_split_ands); go_simp; (try with_reducible rfl)
          (try simp only [List.getElem_cons_succ, List.getElem_cons_zero, Act.put, List.setIfInBounds_toArray, List.set_cons_zero, List.set_cons_succ])
          refine head_take 10 ?_ (by simp only [List.length_cons, List.length_nil]; decide) (by kernel_rfl) (fun _ _ _ h => h) (by rfl) ?_ hHeld ?_
          rotate_left
          · intro W hSw; (try simp only [List.getElem_cons_succ, List.getElem_cons_zero]); (try go_split_ands); go_simp; (try with_reducible rfl)
          (try simp only [List.getElem_cons_succ, List.getElem_cons_zero, Act.put, List.setIfInBounds_toArray, List.set_cons_zero, List.set_cons_succ])
          refine head_step 11 (by simp only [List.length_cons, List.length_nil]; decide) (by kernel_rfl) (fun K hK => ?_)
          (try simp only [List.getElem_cons_succ, List.getElem_cons_zero])
          refine if_step (by rfl) ?_
          go_simp
          have hX := Whole.made w8 37 #[.string ⟨#[]⟩, .slice none 0 0]
          have hb11 := grow1 w8 (.cells #[.string ⟨#[]⟩, .slice none 0 0] 37)
          have hgx : wr.heap.size ≤ w8.heap.size := hbD.size
          have hA8o := hA8
          have hA8 := hA8.call hb11
          have hbE := hbD
          replace hbD := hbD.trans (hb11.mono hbD.size)
          refine hK.out _ _ ?_ (fun hHeld => ?_)
          · exact ⟨keepC c0 hbD, keepC c1 hbD⟩
          clear hK K
          (try simp only [List.getElem_cons_succ, List.getElem_cons_zero, Act.put, List.setIfInBounds_toArray, List.set_cons_zero, List.set_cons_succ])
          refine head_step 12 (by simp only [List.length_cons, List.length_nil]; decide) (by kernel_rfl) (fun K hK => ?_)
          (try simp only [List.getElem_cons_succ, List.getElem_cons_zero])
          refine if_step (by rfl) ?_
          have hQ := Whole.made w8 37 #[.string ⟨nm.toArray⟩, .slice a8 as2.length c8]
          have hbG := grow1 w8 (.cells #[.string ⟨nm.toArray⟩, .slice a8 as2.length c8] 37)
          have hoB := hA8o.call hbG
          have hbF := hbE.trans (hbG.mono hbE.size)
          go_simp
          refine hK.out _ _ ?_ (fun hHeld => ?_)
          · exact ⟨keepC c0 hbF, keepC c1 hbF⟩
          clear hK K
          (try simp only [List.getElem_cons_succ, List.getElem_cons_zero, Act.put, List.setIfInBounds_toArray, List.set_cons_zero, List.set_cons_succ])
          refine head_end (by kernel_rfl) ?_
          simp only [List.drop_succ_cons, List.drop_zero]
          generalize hW9 : w8.alloc (.cells #[.string ⟨nm.toArray⟩, .slice a8 as2.length c8] 37) = w9 at *
          generalize hGX : w8.heap.size = gx at hQ ⊢
          have hz9 := hb.trans (hbF.mono hb.size)
          have y0 := hQ.cell 0
          have y1 := hQ.cell 1
          simp only [List.getElem?_toArray, List.getElem?_cons_zero, List.getElem?_cons_succ] at y0 y1
          have e0 := keepC c0 hbF
          have e1 := keepC c1 hbF
          have hro2 := hro wr.heap.size _ _ _ hbF.size (hae.callT hbF) (HRL.out _ hz9) (HEN.out _ hz9)
          have hbp9 := hbF.size
          clear hon hth hHeld
          go_wp2_with fail
          refine hro2.mono ?_; rintro e w10 ⟨a10, c10, rfl, hA10, hb10⟩
          have hz10 := hz9.trans (hb10.mono hz9.size)
          have hQ10 := hQ.call hb10
          have hoB10 := hoB.call hb10
          have hgA := grow1 w10 (.cells #[.string ⟨nm.toArray⟩, .slice a10 as2.length c10] 37)
          have hX10 := Whole.made w10 37 #[.string ⟨nm.toArray⟩, .slice a10 as2.length c10]
          have hz11 := hz10.trans (hgA.mono hz10.size)
          have k0 := (hQ10.call hgA).cell 0
          have k1 := (hQ10.call hgA).cell 1
          have m0 := hX10.cell 0
          have m1 := hX10.cell 1
          simp only [List.getElem?_toArray, List.getElem?_cons_zero, List.getElem?_cons_succ] at k0 k1 m0 m1
          have hs2 := hsm _ _ _ (hoB10.call hgA).attrs (hA10.call hgA).attrs
          clear hQ hoB hA10 hQ10 hoB10 hX10 hro hro2 hsm hax hae
          go_wp2_with fail
          refine hs2.mono ?_; rintro e w12 ⟨rfl, hb12⟩
          go_wp2_with fail
          go_roundw
          case rel => exact ⟨k + 1, by omega, by go_num, hz11.trans (hb12.mono hz11.size)⟩
          case measure => simp [intOf]; omega
        · (try simp only [List.getElem_cons_succ, List.getElem_cons_zero])
          refine if_step (by rfl) ?_
          go_simp
          have hX := Whole.made w7 37 #[.string ⟨#[]⟩, .slice none 0 0]
          have hb11 := grow1 w7 (.cells #[.string ⟨#[]⟩, .slice none 0 0] 37)
          replace hbD := hbD.trans (hb11.mono hbD.size)
          have hu7 := hu7.call hb11 (Nat.le_refl _)
          have hgx : wr.heap.size ≤ w7.heap.size := hsz7
          refine hK.out _ _ ?_ (fun hHeld => ?_)
          · exact ⟨keepC c0 hbD, keepC c1 hbD⟩
          clear hK K
          (try simp only [List.getElem_cons_succ, List.getElem_cons_zero, Act.put, List.setIfInBounds_toArray, List.set_cons_zero, List.set_cons_succ])
          refine head_step 7 (by simp only [List.length_cons, List.length_nil]; decide) (by kernel_rfl) (fun K hK => ?_)
          (try simp only [List.getElem_cons_succ, List.getElem_cons_zero])
          refine if_step (by rfl) ?_
          go_simp
          refine (hon wr.heap.size _ _ _ hbD.size (hae.callT hbD) hu7 (HEN.out _ (hb.trans (hbD.mono hb.size)))).mono ?_
          rintro e w8 ⟨a8, c8, rfl, hA8, hb8⟩
          have hX := hX.call hb8
          replace hA8 := hA8.mono hbD.size
          replace hbD := hbD.trans (hb8.mono hbD.size)
          (try dsimp only)
          refine hK.out _ _ ?_ (fun hHeld => ?_)
          · exact ⟨keepC c0 hbD, keepC c1 hbD⟩
          clear hK K
          (try simp only [Act.put, List.setIfInBounds_toArray, List.set_cons_zero, List.set_cons_succ])
          refine head_take 8 ?_ (by simp only [List.length_cons, List.length_nil]; decide) (by kernel_rfl) (fun _ _ _ h => h) (by rfl) ?_ hHeld ?_
          rotate_left
          · intro W hSw; (try simp only [List.getElem_cons_succ, List.getElem_cons_zero]); (try go_split_ands); go_simp; (try with_reducible rfl)
          (try simp only [List.getElem_cons_succ, List.getElem_cons_zero, Act.put, List.setIfInBounds_toArray, List.set_cons_zero, List.set_cons_succ])
          refine head_take 9 ?_ (by simp only [List.length_cons, List.length_nil]; decide) (by kernel_rfl) (fun _ _ _ h => h) (by rfl) ?_ hHeld ?_
          rotate_left
          · intro W hSw; (try simp only [List.getElem_cons_succ, List.getElem_cons_zero]); (try go_split_ands); go_simp; (try with_reducible rfl)
          (try simp only [List.getElem_cons_succ, List.getElem_cons_zero, Act.put, List.setIfInBounds_toArray, List.set_cons_zero, List.set_cons_succ])
          refine head_take 10 ?_ (by simp only [List.length_cons, List.length_nil]; decide) (by kernel_rfl) (fun _ _ _ h => h) (by rfl) ?_ hHeld ?_
          rotate_left
          · intro W hSw; (try simp only [List.getElem_cons_succ, List.getElem_cons_zero]); (try go_split_ands); go_simp; (try with_reducible rfl)
          (try simp only [List.getElem_cons_succ, List.getElem_cons_zero, Act.put, List.setIfInBounds_toArray, List.set_cons_zero, List.set_cons_succ])
          refine head_step 12 (by simp only [List.length_cons, List.length_nil]; decide) (by kernel_rfl) (fun K hK => ?_)
          (try simp only [List.getElem_cons_succ, List.getElem_cons_zero])
          refine if_step (by rfl) ?_
          have x0 := hX.cell 0
          have x1 := hX.cell 1
          have s0 := hX.thaw 0
          have s1 := hX.thaw 1
          simp only [List.getElem?_toArray, List.getElem?_cons_zero, List.getElem?_cons_succ] at x0 x1
          have hP := hX.put 0 (.string ⟨nm.toArray⟩)
          have hoA := hA8.other hX hgx (by decide) (by decide) 0 (.string ⟨nm.toArray⟩)
          simp only [List.setIfInBounds_toArray, List.set_cons_zero] at hP
          have hQ := hP.put 1 (.slice a8 as2.length c8)
          have hoB := hoA.other hP hgx (by decide) (by decide) 1 (.slice a8 as2.length c8)
          simp only [List.setIfInBounds_toArray, List.set_cons_succ, List.set_cons_zero] at hQ
          have hbF := (hbD.setCell (p := ⟨w7.heap.size, 0, none⟩) hgx (.string ⟨nm.toArray⟩)).setCell (p := ⟨w7.heap.size, 1, none⟩) hgx (.slice a8 as2.length c8)
          go_simp
          refine hK.out _ _ ?_ (fun hHeld => ?_)
          · exact ⟨keepC c0 hbF, keepC c1 hbF⟩
          clear hK K
          (try simp only [List.getElem_cons_succ, List.getElem_cons_zero, Act.put, List.setIfInBounds_toArray, List.set_cons_zero, List.set_cons_succ])
          refine head_end (by kernel_rfl) ?_
          simp only [List.drop_succ_cons, List.drop_zero]
          generalize hW9 : (w8.setCell ⟨w7.heap.size, 0, none⟩ (.string ⟨nm.toArray⟩)).setCell ⟨w7.heap.size, 1, none⟩ (.slice a8 as2.length c8) = w9 at *
          generalize hGX : w7.heap.size = gx at hQ ⊢
          have hz9 := hb.trans (hbF.mono hb.size)
          have y0 := hQ.cell 0
          have y1 := hQ.cell 1
          simp only [List.getElem?_toArray, List.getElem?_cons_zero, List.getElem?_cons_succ] at y0 y1
          have e0 := keepC c0 hbF
          have e1 := keepC c1 hbF
          have hro2 := hro wr.heap.size _ _ _ hbF.size (hae.callT hbF) (HRL.out _ hz9) (HEN.out _ hz9)
          have hbp9 := hbF.size
          clear hon hth hHeld
          go_wp2_with fail
          refine hro2.mono ?_; rintro e w10 ⟨a10, c10, rfl, hA10, hb10⟩
          have hz10 := hz9.trans (hb10.mono hz9.size)
          have hQ10 := hQ.call hb10
          have hoB10 := hoB.call hb10
          have hgA := grow1 w10 (.cells #[.string ⟨nm.toArray⟩, .slice a10 as2.length c10] 37)
          have hX10 := Whole.made w10 37 #[.string ⟨nm.toArray⟩, .slice a10 as2.length c10]
          have hz11 := hz10.trans (hgA.mono hz10.size)
          have k0 := (hQ10.call hgA).cell 0
          have k1 := (hQ10.call hgA).cell 1
          have m0 := hX10.cell 0
          have m1 := hX10.cell 1
          simp only [List.getElem?_toArray, List.getElem?_cons_zero, List.getElem?_cons_succ] at k0 k1 m0 m1
          have hs2 := hsm _ _ _ (hoB10.call hgA).attrs (hA10.call hgA).attrs
          clear hQ hoB hA10 hQ10 hoB10 hX10 hro hro2 hsm hax hae
          go_wp2_with fail
          refine hs2.mono ?_; rintro e w12 ⟨rfl, hb12⟩
          go_wp2_with fail
          go_roundw
          case rel => exact ⟨k + 1, by omega, by go_num, hz11.trans (hb12.mono hz11.size)⟩
          case measure => simp [intOf]; omega
      · (try simp only [List.getElem_cons_succ, List.getElem_cons_zero])
        refine if_step (by rfl) ?_
        go_simp
        have hX := (Whole.made wr 37 #[.string ⟨#[]⟩, .slice none 0 0]).drew
        replace hbD : Below wr.heap.size wr (wr.alloc (.cells #[.string ⟨#[]⟩, .slice none 0 0] 37)).drew := (grow1 wr _).drew
        have hgx : wr.heap.size ≤ wr.heap.size := Nat.le_refl _
        have hlx : wr.heap.size < (wr.alloc (.cells #[.string ⟨#[]⟩, .slice none 0 0] 37)).drew.heap.size := hX.lt
        refine hK.out _ _ ?_ (fun hHeld => ?_)
        · exact ⟨keepC c0 hbD, keepC c1 hbD⟩
        clear hK K
        (try simp only [List.getElem_cons_succ, List.getElem_cons_zero, Act.put, List.setIfInBounds_toArray, List.set_cons_zero, List.set_cons_succ])
        refine head_step 5 (by simp only [List.length_cons, List.length_nil]; decide) (by kernel_rfl) (fun K hK => ?_)
        (try simp only [List.getElem_cons_succ, List.getElem_cons_zero])
        refine if_step (by rfl) ?_
        go_simp
        refine (hth _ (HRL.out _ (hb.trans (hbD.mono hb.size)))).mono ?_
        rintro e w7 ⟨u7, rfl, hu7, hb7⟩
        have hX := hX.call hb7
        replace hbD := hbD.trans (hb7.mono hbD.size)
        have hu7 := hu7.rules
        (try dsimp only)
        refine hK.out _ _ ?_ (fun hHeld => ?_)
        · exact ⟨keepC c0 hbD, keepC c1 hbD⟩
        clear hK K
        (try simp only [Act.put, List.setIfInBounds_toArray, List.set_cons_zero, List.set_cons_succ])
        refine head_step 7 (by simp only [List.length_cons, List.length_nil]; decide) (by kernel_rfl) (fun K hK => ?_)
        (try simp only [List.getElem_cons_succ, List.getElem_cons_zero])
        refine if_step (by rfl) ?_
        go_simp
        refine (hon wr.heap.size _ _ _ hbD.size (hae.callT hbD) hu7 (HEN.out _ (hb.trans (hbD.mono hb.size)))).mono ?_
        rintro e w8 ⟨a8, c8, rfl, hA8, hb8⟩
        have hX := hX.call hb8
        replace hA8 := hA8.mono hbD.size
        replace hbD := hbD.trans (hb8.mono hbD.size)
        (try dsimp only)
        refine hK.out _ _ ?_ (fun hHeld => ?_)
        · exact ⟨keepC c0 hbD, keepC c1 hbD⟩
        clear hK K
        (try simp only [Act.put, List.setIfInBounds_toArray, List.set_cons_zero, List.set_cons_succ])
        refine head_take 8 ?_ (by simp only [List.length_cons, List.length_nil]; decide) (by kernel_rfl) (fun _ _ _ h => h) (by rfl) ?_ hHeld ?_
        rotate_left
        · intro W hSw; (try simp only [List.getElem_cons_succ, List.getElem_cons_zero]); (try go_split_ands); go_simp; (try with_reducible rfl)
        (try simp only [List.getElem_cons_succ, List.getElem_cons_zero, Act.put, List.setIfInBounds_toArray, List.set_cons_zero, List.set_cons_succ])
        refine head_take 9 ?_ (by simp only [List.length_cons, List.length_nil]; decide) (by kernel_rfl) (fun _ _ _ h => h) (by rfl) ?_ hHeld ?_
        rotate_left
        · intro W hSw; (try simp only [List.getElem_cons_succ, List.getElem_cons_zero]); (try go_split_ands); go_simp; (try with_reducible rfl)
        (try simp only [List.getElem_cons_succ, List.getElem_cons_zero, Act.put, List.setIfInBounds_toArray, List.set_cons_zero, List.set_cons_succ])
        refine head_take 10 ?_ (by simp only [List.length_cons, List.length_nil]; decide) (by kernel_rfl) (fun _ _ _ h => h) (by rfl) ?_ hHeld ?_
        rotate_left
        · intro W hSw; (try simp only [List.getElem_cons_succ, List.getElem_cons_zero]); (try go_split_ands); go_simp; (try with_reducible rfl)
        (try simp only [List.getElem_cons_succ, List.getElem_cons_zero, Act.put, List.setIfInBounds_toArray, List.set_cons_zero, List.set_cons_succ])
        refine head_step 12 (by simp only [List.length_cons, List.length_nil]; decide) (by kernel_rfl) (fun K hK => ?_)
        (try simp only [List.getElem_cons_succ, List.getElem_cons_zero])
        refine if_step (by rfl) ?_
        have x0 := hX.cell 0
        have x1 := hX.cell 1
        have s0 := hX.thaw 0
        have s1 := hX.thaw 1
        simp only [List.getElem?_toArray, List.getElem?_cons_zero, List.getElem?_cons_succ] at x0 x1
        have hP := hX.put 0 (.string ⟨nm.toArray⟩)
        have hoA := hA8.other hX hgx (by decide) (by decide) 0 (.string ⟨nm.toArray⟩)
        simp only [List.setIfInBounds_toArray, List.set_cons_zero] at hP
        have hQ := hP.put 1 (.slice a8 as2.length c8)
        have hoB := hoA.other hP hgx (by decide) (by decide) 1 (.slice a8 as2.length c8)
        simp only [List.setIfInBounds_toArray, List.set_cons_succ, List.set_cons_zero] at hQ
        have hbF := (hbD.setCell (p := ⟨wr.heap.size, 0, none⟩) hgx (.string ⟨nm.toArray⟩)).setCell (p := ⟨wr.heap.size, 1, none⟩) hgx (.slice a8 as2.length c8)
        go_simp
        refine hK.out _ _ ?_ (fun hHeld => ?_)
        · exact ⟨keepC c0 hbF, keepC c1 hbF⟩
        clear hK K
        (try simp only [List.getElem_cons_succ, List.getElem_cons_zero, Act.put, List.setIfInBounds_toArray, List.set_cons_zero, List.set_cons_succ])
        refine head_end (by kernel_rfl) ?_
        simp only [List.drop_succ_cons, List.drop_zero]
        generalize hW9 : (w8.setCell ⟨wr.heap.size, 0, none⟩ (.string ⟨nm.toArray⟩)).setCell ⟨wr.heap.size, 1, none⟩ (.slice a8 as2.length c8) = w9 at *
        generalize hGX : wr.heap.size = gx at hQ ⊢
        have hz9 := hb.trans (hbF.mono hb.size)
        have y0 := hQ.cell 0
        have y1 := hQ.cell 1
        simp only [List.getElem?_toArray, List.getElem?_cons_zero, List.getElem?_cons_succ] at y0 y1
        have e0 := keepC c0 hbF
        have e1 := keepC c1 hbF
        have hro2 := hro wr.heap.size _ _ _ hbF.size (hae.callT hbF) (HRL.out _ hz9) (HEN.out _ hz9)
        have hbp9 := hbF.size
        clear hon hth hHeld
        go_wp2_with fail
        refine hro2.mono ?_; rintro e w10 ⟨a10, c10, rfl, hA10, hb10⟩
        have hz10 := hz9.trans (hb10.mono hz9.size)
        have hQ10 := hQ.call hb10
        have hoB10 := hoB.call hb10
        have hgA := grow1 w10 (.cells #[.string ⟨nm.toArray⟩, .slice a10 as2.length c10] 37)
        have hX10 := Whole.made w10 37 #[.string ⟨nm.toArray⟩, .slice a10 as2.length c10]
        have hz11 := hz10.trans (hgA.mono hz10.size)
        have k0 := (hQ10.call hgA).cell 0
        have k1 := (hQ10.call hgA).cell 1
        have m0 := hX10.cell 0
        have m1 := hX10.cell 1
        simp only [List.getElem?_toArray, List.getElem?_cons_zero, List.getElem?_cons_succ] at k0 k1 m0 m1
        have hs2 := hsm _ _ _ (hoB10.call hgA).attrs (hA10.call hgA).attrs
        clear hQ hoB hA10 hQ10 hoB10 hX10 hro hro2 hsm hax hae
        go_wp2_with fail
        refine hs2.mono ?_; rintro e w12 ⟨rfl, hb12⟩
        go_wp2_with fail
        go_roundw
        case rel => exact ⟨k + 1, by omega, by go_num, hz11.trans (hb12.mono hz11.size)⟩
        case measure => simp [intOf]; omega
    · have hkl : k = xs.length := by omega
      subst hkl
      go_wp2_with fail
      go_ret
      exact ⟨rfl, hb⟩
end Go.Proofs.YtifjghkgmfmneaaGreatDoor
namespace Go.Proofs.YtifjghkgmfmneaaGreatDoor
open Go.RowKit

theorem typs_of {xs : List EnS.En} (h : ∀ x ∈ xs, EnOf 1048576 x) : TypsE xs := fun x hx a ha => ((h x hx).2.2 a ha).1
theorem lawviewsees_c (u v : Value) (xs : List EnS.En) (rl : List PoS.Rl) (s : ByteArray) (w : World) (h : EnsIn w u xs) (hO : ∀ x ∈ xs, EnOf 1048576 x) (hN : EnS.sumBy EnS.cE xs ≤ 1048576) (hr : RulesIn w v rl) (hl : rl.length ≤ 9223372036854775807) (hw : ∀ r ∈ rl, WideR r) (hs : s.data.toList.length ≤ 1048576) (hE : Env w) :
    Calls Tryz.prog 7 #[u, v, .string s] w (True_ w) := by
  obtain ⟨l, rfl⟩ := bytes_lst s
  exact viewsees_c u v xs rl l w h hN (typs_of hO) hr hl hw (by simpa using hs) hE
end Go.Proofs.YtifjghkgmfmneaaGreatDoor
