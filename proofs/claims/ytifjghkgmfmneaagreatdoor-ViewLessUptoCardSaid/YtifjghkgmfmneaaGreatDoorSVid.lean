/- The walk of what a subject sees of an entry that needn't be formed: the document's Loose. Conditions: those that it states; the library's variables are laid. -/
import Derived.Test.YtifjghkgmfmneaaGreatDoorSVib
namespace Go.Proofs.YtifjghkgmfmneaaGreatDoor
open Go.RowKit
attribute [local go_sem ↓] Go.wp_at_zero Go.wp_at_succ

set_option maxRecDepth 100000 in
set_option maxHeartbeats 4000000 in
theorem refloose_c (C : Nat) (name : List UInt8) (r0 : List (List UInt8)) (hr0 : PartsOk r0) (hnm : DnS.joinS r0 = name) (xs : List EnS.At) (u v : Value) (rl : List PoS.Rl) (subject : List UInt8) (w : World) (hC : C ≤ w.heap.size) (h : AttrsE [9] C w u xs) (hf : FitA xs)
    (ht : ∀ x ∈ xs, x.typ.length ≤ 100000) (hr : RulesIn w v rl) (hs : ∀ r ∈ rl, SmallR r) (hl : rl.length ≤ 1000000) (q1 : subject.length ≤ 100000) (hE : Env w) :
    Calls Tryz.prog 112 #[.agg #[.string ⟨name.toArray⟩, u], v, .string ⟨subject.toArray⟩] w (PartVRet C (EnS.seenT rl subject r0) name (xs.filter (fun a => PoS.decideS rl subject 1 name a.typ)) w) := by
  have hb0 := grow1 w (.cells #[.string ⟨name.toArray⟩, u] 37)
  have hw0 := Whole.made w 37 #[.string ⟨name.toArray⟩, u]
  have hg1 := grow1 (w.alloc (.cells #[.string ⟨name.toArray⟩, u] 37)) (.cells #[.string ⟨#[]⟩, .slice none 0 0] 37)
  have hb1 := below_trans hb0 hg1
  have hw1 := hw0.call hg1
  have hr1 := Whole.made (w.alloc (.cells #[.string ⟨name.toArray⟩, u] 37)) 37 #[.string ⟨#[]⟩, .slice none 0 0]
  have hnl : name.length ≤ 1000 := by rw [← hnm]; exact hr0.2.1
  have hse := fun w h hE => refseen_c v rl subject r0 hr0 w hE h hs hl q1
  rw [hnm] at hse
  unfold NmBool at hse
  have HD := Lib.hid (fun k (hk : k < xs.length) w h hE => refDecide_c v rl subject name (xs[k]'hk).typ 1 w h hs hl q1 (by omega) (ht _ (List.getElem_mem hk)) hE)
  have HY := Lib.hid (fun k (hk : k < xs.length) => filt_yes (p := fun a : EnS.At => PoS.decideS rl subject 1 name a.typ) (l := xs) hk)
  have HNo := Lib.hid (fun k (hk : k < xs.length) => filt_no (p := fun a : EnS.At => PoS.decideS rl subject 1 name a.typ) (l := xs) hk)
  have HTL := Lib.hid (fun k => show ((xs.take k).filter (fun a : EnS.At => PoS.decideS rl subject 1 name a.typ)).length ≤ 1048576 from Nat.le_trans (List.length_filter_le _ _) (Nat.le_trans (by rw [List.length_take]; omega) hf.1))
  have HFI := Lib.hid (hf.filter (fun a => PoS.decideS rl subject 1 name a.typ))
  unfold NmBool at HD
  obtain ⟨a, c, rfl, hc, hat⟩ := SliceP.at h
  have hm1 : (w.alloc (.cells #[.string ⟨name.toArray⟩, .slice a xs.length c] 37)).heap.size = w.heap.size + 1 := by show (w.heap.push _).size = _; exact Array.size_push _
  rw [hm1] at hr1
  have HAT := Lib.hid hat
  obtain ⟨i0, hi, hz0, hz1, hz2⟩ := info_parts infoAttr
  have HI := Lib.hid hi
  have hx1 := hr.call hb1 (Nat.le_refl _)
  have hE1 := hE.below hb1
  have hse1 := hse _ hx1 hE1
  have hxl : xs.length ≤ 1048576 := hf.1
  clear hat h hf ht hs hl q1 hi hse hr0 hb0 hw0 hg1 hx1 hE1 hnm
  generalize hgn : (fun a : EnS.At => PoS.decideS rl subject 1 name a.typ) = P at *
  have HP : Hid (∀ a : EnS.At, PoS.decideS rl subject 1 name a.typ = P a) := Lib.hid (fun a => by rw [← hgn])
  clear hgn
  generalize EnS.seenT rl subject r0 = SN at *
  obtain ⟨vr, vc, rfl⟩ := hr.form
  have q0 := hw1.cell 0
  simp only [List.getElem?_toArray, List.getElem?_cons_zero] at q0
  have s0 := hr1.thaw 0
  have s1 := hr1.thaw 1
  go_enter Tryz.func112, Tryz.ntmps112
  go_wp2_with fail
  refine hse1.mono ?_; rintro e w1 ⟨rfl, hb2⟩
  have hw2 := hw1.call hb2
  have hr2 := hr1.call hb2
  have hbx := below_trans hb1 hb2
  clear hse1 hw1 hr1 hb1 q0
  have q0 := hw2.cell 0
  have q1 := hw2.cell 1
  have t0 := hr2.cell 0
  have t1 := hr2.cell 1
  have s0 := hr2.thaw 0
  have s1 := hr2.thaw 1
  simp only [List.getElem?_toArray, List.getElem?_cons_zero, List.getElem?_cons_succ] at q0 q1 t0 t1
  cases SN with
  | false =>
    have hA := hr2.put 0 (.string ⟨#[]⟩)
    simp only [List.setIfInBounds_toArray, List.set_cons_zero] at hA
    have hB := hA.put 1 (.slice none 0 0)
    simp only [List.setIfInBounds_toArray, List.set_cons_succ, List.set_cons_zero] at hB
    have hbB : Below w.heap.size w ((w1.setCell ⟨w.heap.size + 1, 0, none⟩ (.string ⟨#[]⟩)).setCell ⟨w.heap.size + 1, 1, none⟩ (.slice none 0 0)) := (hbx.setCell (p := ⟨w.heap.size + 1, 0, none⟩) (by show w.heap.size ≤ w.heap.size + 1; omega) _).setCell (p := ⟨w.heap.size + 1, 1, none⟩) (by show w.heap.size ≤ w.heap.size + 1; omega) _
    have y0 := hB.cell 0
    have y1 := hB.cell 1
    simp only [List.getElem?_toArray, List.getElem?_cons_zero, List.getElem?_cons_succ] at y0 y1
    go_wp2_with fail
    (try simp only [Exit.inBlock, Exit.then])
    refine bodyPost_ret (v := .tuple #[.agg #[.string ⟨#[]⟩, .slice none 0 0], .bool false]) ?_ rfl (.inr ⟨rfl, rfl, hbB⟩)
    rw [results_cell_tmp rfl]
    go_simp
  | true =>
  have hgo := grow1 w1 (.cells #[.string ⟨name.toArray⟩, .slice none 0 0] 37)
  have ho3 := Whole.made w1 37 #[.string ⟨name.toArray⟩, .slice none 0 0]
  have hw3 := hw2.call hgo
  have hr3 := hr2.call hgo
  have hb3 := below_trans hbx hgo
  have hne : w.heap.size + 1 < w1.heap.size := hr2.lt
  clear hw2 hr2 hbx hgo s0 s1 t0 t1 q1
  have q1 := hw3.cell 1
  simp only [List.getElem?_toArray, List.getElem?_cons_zero, List.getElem?_cons_succ] at q1
  go_wp2_with fail
  have HRL := Lib.hid (fun W (hb : Below w.heap.size w W) => hr.call hb (Nat.le_refl _))
  have HEN := Lib.hid (fun W (hb : Below w.heap.size w W) => hE.below hb)
  clear hr hE
  generalize w1.heap.size = bo at *
  go_loopw [23] (fun i wr => ∃ (k : Nat) (y : Value), k ≤ xs.length ∧ i = .int .i64 k ∧ OwnK atK 47 [9] C wr w.heap.size y ((xs.take k).filter P) ∧ Whole wr bo 37 #[.string ⟨name.toArray⟩, y] ∧ Whole wr w.heap.size 37 #[.string ⟨name.toArray⟩, .slice a xs.length c] ∧ Whole wr (w.heap.size + 1) 37 #[.string ⟨#[]⟩, .slice none 0 0] ∧ Below w.heap.size w wr) (fun i _ => xs.length - (intOf i).toNat)
  case atStart => exact ⟨0, _, Nat.zero_le _, rfl, OwnK.empty _ _ _ _ _ _, ho3, hw3, hr3, hb3⟩
  case round =>
    obtain ⟨k, y, hk, rfl, hown, ho, hw, hr, hb⟩ := hrel
    clear ho3 hw3 hr3 hb3
    obtain ⟨ya, yc, rfl⟩ := hown.form
    have hbo := ho.lt
    by_cases hlt : k < xs.length
    · obtain ⟨g, o, rfl, hg, _, hra⟩ := HAT.out k hlt
      obtain ⟨c0, a2, p2, c1, hp2, hu⟩ := AttrAt.partsT (AttrAt.callE hra hg hb)
      have hdk := HD.out k hlt
      have hyk := Lib.hid (HY.out k hlt)
      have hnk := Lib.hid (HNo.out k hlt)
      have hpk := HP.out (xs[k]'hlt)
      have htl := HTL.out k
      clear hra HAT
      generalize xs[k] = x at *
      obtain ⟨ty, vals⟩ := x
      simp only at c0 c1 hp2 hu hdk hpk
      rw [hpk] at hdk
      have hl0 : (0 : Int) ≤ (k : Int) := by omega
      have hl1 : (k : Int) < (xs.length : Int) := by omega
      generalize hL : vals.length = L at *
      have n1 := hw.cell 1
      simp only [List.getElem?_toArray, List.getElem?_cons_succ, List.getElem?_cons_zero] at n1
      have n9 := hw.cell 0
      simp only [List.getElem?_toArray, List.getElem?_cons_zero] at n9
      have hgr : g < wr.heap.size := Nat.lt_of_lt_of_le hg hb.size
      have hbD : Below wr.heap.size wr wr.drew := below_drewN wr 1
      have hdk1 := hdk wr.drew (HRL.out _ (hb.trans (hbD.mono hb.size))) (HEN.out _ (hb.trans (hbD.mono hb.size)))
      generalize hDD : P ⟨ty, vals⟩ = D at *
      go_wp2_with fail
      go_region_held3 (fun W => W.cell? ⟨w.heap.size, 0, none⟩ = some (.string ⟨name.toArray⟩) ∧ W.cell? ⟨w.heap.size, 1, none⟩ = some (.slice (some ⟨g, o, none⟩) xs.length c) ∧ W.cell? ⟨g, o + k * 2, none⟩ = some (.string ⟨ty.toArray⟩))
        (first | exact ⟨n9, n1, c0⟩ | exact ⟨keepC (w := wr.drew) n9 hb2, keepC (w := wr.drew) n1 hb2, keepC (w := wr.drew) c0 hb2⟩ | go_keep)
        (first | (go_at_call 171; (with_reducible refine hdk1.mono ?_); rintro e w2 ⟨rfl, hb2⟩))
      have hb2' : Below wr.heap.size wr w2 := hbD.trans hb2
      have hbB := hb.trans (hb2'.mono hb.size)
      have hown2 := hown.call hb2'
      have ho2 := ho.call hb2'
      have hw2 := hw.call hb2'
      have hr2 := hr.call hb2'
      have hu2 := StrsP.callT hu hb2'
      have g0 := keepC c0 hb2'
      have g1 := keepC c1 hb2'
      clear hown ho hw hr hdk hdk1 c0 c1 n1 n9
      cases D with
      | false =>
        have hk1 := hnk.out hpk
        go_wp2_with fail
        go_roundw
        case rel => exact ⟨k + 1, _, by omega, by go_num, by rw [hk1]; exact hown2, ho2, hw2, hr2, hbB⟩
        case measure => simp [intOf]; omega
      | true =>
        have hk1 := hyk.out hpk
        have e1 := ho2.cell 1
        have m1 := hw2.cell 1
        simp only [List.getElem?_toArray, List.getElem?_cons_zero, List.getElem?_cons_succ] at e1 m1
        go_wp2_with fail
        refine head_begin 9 (fun W => W.cell? ⟨bo, 1, none⟩ = some (.slice ya ((xs.take k).filter P).length yc) ∧ W.cell? ⟨w.heap.size, 1, none⟩ = some (.slice (some ⟨g, o, none⟩) xs.length c) ∧ W.cell? ⟨g, o + k * 2, none⟩ = some (.string ⟨ty.toArray⟩) ∧ W.cell? ⟨g, o + k * 2 + 1, none⟩ = some (.slice a2 L p2)) (by kernel_rfl) (by kernel_rfl) ⟨e1, m1, g0, g1⟩ (fun hHeld => ?_)
        refine head_take 0 ?_ (by simp only [List.length_cons, List.length_nil]; decide) (by kernel_rfl) (fun _ _ _ h => h) (by rfl) ?_ hHeld ?_
        rotate_left
        · intro W hSw; (try simp only [List.getElem_cons_zero]); (try go_split_ands); go_simp; (try with_reducible rfl)
        (try simp only [List.getElem_cons_zero, Act.put, List.setIfInBounds_toArray, List.set_cons_zero, List.set_cons_succ])
        refine head_take 1 ?_ (by simp only [List.length_cons, List.length_nil]; decide) (by kernel_rfl) (fun _ _ _ h => h) (by rfl) ?_ hHeld ?_
        rotate_left
        · intro W hSw; (try simp only [List.getElem_cons_succ, List.getElem_cons_zero]); (try go_split_ands); go_simp; (try with_reducible rfl)
        (try simp only [List.getElem_cons_succ, List.getElem_cons_zero, Act.put, List.setIfInBounds_toArray, List.set_cons_zero, List.set_cons_succ])
        refine head_take 2 ?_ (by simp only [List.length_cons, List.length_nil]; decide) (by kernel_rfl) (fun _ _ _ h => h) (by rfl) ?_ hHeld ?_
        rotate_left
        · intro W hSw; (try simp only [List.getElem_cons_succ, List.getElem_cons_zero]); (try go_split_ands); go_simp; (try with_reducible rfl)
        (try simp only [List.getElem_cons_succ, List.getElem_cons_zero, Act.put, List.setIfInBounds_toArray, List.set_cons_zero, List.set_cons_succ])
        refine head_take 3 ?_ (by simp only [List.length_cons, List.length_nil]; decide) (by kernel_rfl) (fun _ _ _ h => h) (by rfl) ?_ hHeld ?_
        rotate_left
        · intro W hSw; (try simp only [List.getElem_cons_succ, List.getElem_cons_zero]); (try go_split_ands); go_simp; (try with_reducible rfl)
        (try simp only [List.getElem_cons_succ, List.getElem_cons_zero, Act.put, List.setIfInBounds_toArray, List.set_cons_zero, List.set_cons_succ])
        refine head_take 4 ?_ (by simp only [List.length_cons, List.length_nil]; decide) (by kernel_rfl) (fun _ _ _ h => h) (by rfl) ?_ hHeld ?_
        rotate_left
        · intro W hSw; (try simp only [List.getElem_cons_succ, List.getElem_cons_zero]); (try go_split_ands); go_simp; (try with_reducible rfl)
        (try simp only [List.getElem_cons_succ, List.getElem_cons_zero, Act.put, List.setIfInBounds_toArray, List.set_cons_zero, List.set_cons_succ])
        refine head_take 5 ?_ (by simp only [List.length_cons, List.length_nil]; decide) (by kernel_rfl) (fun _ _ _ h => h) (by rfl) ?_ hHeld ?_
        rotate_left
        · intro W hSw; (try simp only [List.getElem_cons_succ, List.getElem_cons_zero]); (try go_split_ands); go_simp; (try with_reducible rfl)
        (try simp only [List.getElem_cons_succ, List.getElem_cons_zero, Act.put, List.setIfInBounds_toArray, List.set_cons_zero, List.set_cons_succ])
        refine head_take 6 ?_ (by simp only [List.length_cons, List.length_nil]; decide) (by kernel_rfl) (fun _ _ _ h => h) (by rfl) ?_ hHeld ?_
        rotate_left
        · intro W hSw; (try simp only [List.getElem_cons_succ, List.getElem_cons_zero]); (try go_split_ands); go_simp; (try with_reducible rfl)
        (try simp only [List.getElem_cons_succ, List.getElem_cons_zero, Act.put, List.setIfInBounds_toArray, List.set_cons_zero, List.set_cons_succ])
        refine head_step 7 (by simp only [List.length_cons, List.length_nil]; decide) (by kernel_rfl) (fun K hK => ?_)
        (try simp only [List.getElem_cons_succ, List.getElem_cons_zero])
        refine if_step (by rfl) ?_
        go_simp
        have hgB := grow1 w2.drew (.cells #[.string ⟨ty.toArray⟩, .slice a2 L p2] 47)
        have hwB := (Whole.made w2 47 #[.string ⟨ty.toArray⟩, .slice a2 L p2]).drew
        have hbB1 : Below w2.heap.size w2 (w2.alloc (.cells #[.string ⟨ty.toArray⟩, .slice a2 L p2] 47)).drew := (grow1 w2 _).drew
        have hbC := hbB.trans (hbB1.mono hbB.size)
        have hownB := hown2.call hbB1
        have hoB := ho2.call hbB1
        have hwwB := hw2.call hbB1
        have hrB := hr2.call hbB1
        have huB := StrsP.callT hu2 hbB1
        have b0 := hwB.cell 0
        have b1 := hwB.cell 1
        have hszB := hbC.size
        simp only [List.getElem?_toArray, List.getElem?_cons_zero, List.getElem?_cons_succ] at b0 b1
        refine hK.out _ _ ?_ (fun hHeld => ?_)
        · exact ⟨keepC e1 hbB1, keepC m1 hbB1, keepC g0 hbB1, keepC g1 hbB1⟩
        clear hK K
        (try simp only [List.getElem_cons_succ, List.getElem_cons_zero, Act.put, List.setIfInBounds_toArray, List.set_cons_zero, List.set_cons_succ])
        refine head_step 8 (by simp only [List.length_cons, List.length_nil]; decide) (by kernel_rfl) (fun K hK => ?_)
        (try simp only [List.getElem_cons_succ, List.getElem_cons_zero])
        refine if_step (by rfl) ?_
        refine wp_k atK 47 34 [9] (by decide) Tryz.underlying34 HI.out hz0 hz1 hz2 (by rfl) _ _ (by rfl) w.heap.size hC _ ((xs.take k).filter P) (by rfl) hownB w2.heap.size (by rfl) ⟨ty, vals⟩ _ b0 b1 huB (by omega) hszB ?_
        intro v3 w3 hown3 hb3 hgw3
        have ho3 := hoB.grown hownB (by decide) hgw3
        have hw3 := hwwB.grown hownB (by decide) hgw3
        have hr3 := hrB.grown hownB (by decide) hgw3
        have x1 := ho3.cell 1
        have x2 := hw3.cell 1
        simp only [List.getElem?_toArray, List.getElem?_cons_zero, List.getElem?_cons_succ] at x1 x2
        refine hK.out _ _ ?_ (fun hHeld => ?_)
        · exact ⟨x1, x2, (hb3.cell (p := ⟨g, o + k * 2, none⟩) hg).trans (keepC g0 hbB1), (hb3.cell (p := ⟨g, o + k * 2 + 1, none⟩) hg).trans (keepC g1 hbB1)⟩
        clear hK K
        (try simp only [Act.put, List.setIfInBounds_toArray, List.set_cons_zero, List.set_cons_succ])
        refine head_end (by kernel_rfl) ?_
        simp only [List.drop_succ_cons, List.drop_zero]
        rw [← hk1] at hown3
        obtain ⟨yb, yd, rfl⟩ := hown3.form
        generalize ((xs.take (k + 1)).filter P).length = N1 at *
        have tq := ho3.thaw 1
        have tz := ho3.cell 1
        simp only [List.getElem?_toArray, List.getElem?_cons_zero, List.getElem?_cons_succ] at tz
        have hoF := ho3.put 1 (.slice yb N1 yd)
        have hownF := hown3.other ho3 (by omega) (by decide) (by decide) 1 (.slice yb N1 yd)
        have hwF := hw3.other (p := ⟨bo, 1, none⟩) (by show w.heap.size ≠ bo; omega) (.slice yb N1 yd)
        have hrF := hr3.other (p := ⟨bo, 1, none⟩) (by show w.heap.size + 1 ≠ bo; omega) (.slice yb N1 yd)
        have hbF := (hbC.trans hb3).setCell (p := ⟨bo, 1, none⟩) (by show w.heap.size ≤ bo; omega) (.slice yb N1 yd)
        simp only [List.setIfInBounds_toArray, List.set_cons_succ, List.set_cons_zero] at hoF
        clear hHeld
        go_wp2_with fail
        go_roundw
        case rel => exact ⟨k + 1, _, by omega, by go_num, hownF, hoF, hwF, hrF, hbF⟩
        case measure => simp [intOf]; omega
    · have hkl : k = xs.length := by omega
      subst hkl
      simp only [List.take_length] at hown
      simp only [List.take_length] at ho
      have hcp := enrefcopy_c C name (xs.filter P) _ wr (Nat.le_trans hC hb.size) hown.attrs HFI.out
      have o0 := ho.cell 0
      have o1 := ho.cell 1
      simp only [List.getElem?_toArray, List.getElem?_cons_zero, List.getElem?_cons_succ] at o0 o1
      go_wp2_with fail
      refine hcp.mono ?_; rintro e w2 ⟨u2, rfl, hown2, hb2⟩
      have hr2 := hr.call hb2
      have hbB := hb.trans (hb2.mono hb.size)
      obtain ⟨yb, yd, rfl⟩ := hown2.form
      have hown2 := hown2.mono hb.size
      generalize (xs.filter P).length = N1 at *
      have s0 := hr2.thaw 0
      have s1 := hr2.thaw 1
      have t0 := hr2.cell 0
      have t1 := hr2.cell 1
      simp only [List.getElem?_toArray, List.getElem?_cons_zero, List.getElem?_cons_succ] at t0 t1
      have hA := hr2.put 0 (.string ⟨name.toArray⟩)
      have hoA := hown2.other hr2 (by omega) (by decide) (by decide) 0 (.string ⟨name.toArray⟩)
      simp only [List.setIfInBounds_toArray, List.set_cons_zero] at hA
      have hB := hA.put 1 (.slice yb N1 yd)
      have hoB := hoA.other hA (by omega) (by decide) (by decide) 1 (.slice yb N1 yd)
      simp only [List.setIfInBounds_toArray, List.set_cons_succ, List.set_cons_zero] at hB
      have hbF : Below w.heap.size w ((w2.setCell ⟨w.heap.size + 1, 0, none⟩ (.string ⟨name.toArray⟩)).setCell ⟨w.heap.size + 1, 1, none⟩ (.slice yb N1 yd)) := (hbB.setCell (p := ⟨w.heap.size + 1, 0, none⟩) (by show w.heap.size ≤ w.heap.size + 1; omega) _).setCell (p := ⟨w.heap.size + 1, 1, none⟩) (by show w.heap.size ≤ w.heap.size + 1; omega) _
      have y0 := hB.cell 0
      have y1 := hB.cell 1
      simp only [List.getElem?_toArray, List.getElem?_cons_zero, List.getElem?_cons_succ] at y0 y1
      go_wp2_with fail
      (try simp only [Exit.inBlock, Exit.then])
      refine bodyPost_ret (v := .tuple #[.agg #[.string ⟨name.toArray⟩, .slice yb N1 yd], .bool true]) ?_ rfl (Or.inl ⟨rfl, _, rfl, hoB, hbF⟩)
      clear hA hoA hB hoB hbF hown hw hr hb
      generalize (w2.setCell ⟨w.heap.size + 1, 0, none⟩ (.string ⟨name.toArray⟩)).setCell ⟨w.heap.size + 1, 1, none⟩ (.slice yb N1 yd) = wf at *
      rw [results_cell_tmp rfl]
      go_simp
end Go.Proofs.YtifjghkgmfmneaaGreatDoor
