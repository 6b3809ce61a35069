/- The walk of the document's set. Conditions: an entry has at most 1048576 attributes, which are in order. Plain steps of making an entry; the walk of the document's many. Conditions: those that each theorem states. -/
import Derived.Test.YtmnhgbkdahdoiaaGreatDoorMMkc
import Derived.Test.YtmnhgbkdahdoiaaGreatDoorMCqa
namespace Go.Proofs.YtmnhgbkdahdoiaaGreatDoor
open Go.RowKit
attribute [local go_sem ↓] Go.wp_at_zero Go.wp_at_succ

theorem AttrAt.partsE {w : World} {C g o : Nat} {x : EnS.At} {Ts : List TypeId} (h : AttrAt (okT Ts C w) w g o x) : w.cell? ⟨g, o, none⟩ = some (.string ⟨x.typ.toArray⟩) ∧ ∃ a c, w.cell? ⟨g, o + 1, none⟩ = some (.slice a x.vals.length c) ∧ x.vals.length ≤ c ∧ StrsP (okT Ts C w) w (.slice a x.vals.length c) x.vals := by
  obtain ⟨h1, u, h2, h3⟩ := h
  obtain ⟨a, c, rfl, hc⟩ := SliceP.form h3
  exact ⟨h1, a, c, h2, hc, h3⟩
set_option maxRecDepth 100000 in
set_option maxHeartbeats 8000000 in
theorem refset_c (C : Nat) (name : List UInt8) (xs : List EnS.At) (u : Value) (t : List UInt8) (vs : List (List UInt8)) (v : Value) (w : World) (hC : C ≤ w.heap.size) (h : AttrsE [9] C w u xs) (hs : EnS.SortA xs) (hl : xs.length ≤ 1048576) (hv : StrsP (okT [9] C w) w v vs) (hvl : vs.length ≤ 1048576) :
    Calls Tryz.prog 30 #[.agg #[.string ⟨name.toArray⟩, u], .string ⟨t.toArray⟩, v] w (CopyRet C name (EnS.setL t vs xs) w) := by
  rw [← EnS.refS_set hs]
  have hb0 := grow1 w (.cells #[.string ⟨name.toArray⟩, u] 24)
  have hw0 := Whole.made w 24 #[.string ⟨name.toArray⟩, u]
  have hg1 := grow1 (w.alloc (.cells #[.string ⟨name.toArray⟩, u] 24)) (.cells #[.string ⟨#[]⟩, .slice none 0 0] 24)
  have hr1 := Whole.made (w.alloc (.cells #[.string ⟨name.toArray⟩, u] 24)) 24 #[.string ⟨#[]⟩, .slice none 0 0]
  have hm1 : (w.alloc (.cells #[.string ⟨name.toArray⟩, u] 24)).heap.size = w.heap.size + 1 := by show (w.heap.push _).size = _; exact Array.size_push _
  have hg2 := grow1 ((w.alloc (.cells #[.string ⟨name.toArray⟩, u] 24)).alloc (.cells #[.string ⟨#[]⟩, .slice none 0 0] 24)) (.cells #[.string ⟨name.toArray⟩, .slice none 0 0] 24)
  have ho1 := Whole.made ((w.alloc (.cells #[.string ⟨name.toArray⟩, u] 24)).alloc (.cells #[.string ⟨#[]⟩, .slice none 0 0] 24)) 24 #[.string ⟨name.toArray⟩, .slice none 0 0]
  have hm2 : ((w.alloc (.cells #[.string ⟨name.toArray⟩, u] 24)).alloc (.cells #[.string ⟨#[]⟩, .slice none 0 0] 24)).heap.size = w.heap.size + 2 := by show (Array.push _ _).size = _; rw [Array.size_push, hm1]
  rw [hm2] at ho1
  rw [hm1] at hr1
  have hw2 := (hw0.call hg1).call hg2
  have hr2 := hr1.call hg2
  have hb2 := below_trans (below_trans hb0 hg1) hg2
  obtain ⟨a, c, rfl, hc, hat⟩ := SliceP.at h
  obtain ⟨av, cv, rfl, hcv⟩ := SliceP.form hv
  have HAT := Lib.hid hat
  have HVN := Lib.hid (fun W (hb : Below w.heap.size w W) => StrsP.callT hv hb)
  have HRS := Lib.hid (fun k (hk : k < xs.length) lb => EnS.refS_at (t := t) (vs := vs) hk lb)
  have HRE := Lib.hid (fun lb => EnS.refS_end (t := t) (vs := vs) (xs := xs) (k := xs.length) (Nat.le_refl _) lb)
  obtain ⟨i0, hi, hz0, hz1, hz2⟩ := info_parts infoAttr
  have HI := Lib.hid hi
  have hd0 : decide (vs = []) = ((vs.length : Int) == 0) := by cases vs <;> simp; omega
  rw [hd0]
  have q0 := hw2.cell 0
  have q1 := hw2.cell 1
  simp only [List.getElem?_toArray, List.getElem?_cons_zero, List.getElem?_cons_succ] at q0 q1
  have q9 : (w.alloc (.cells #[.string ⟨name.toArray⟩, .slice a xs.length c] 24)).cell? ⟨w.heap.size, 0, none⟩ = some (.string ⟨name.toArray⟩) := hw0.cell 0
  clear hat h hv hs hi hb0 hw0 hg1 hr1 hm1 hg2 hm2 hd0
  obtain ⟨ZS, hZS⟩ : ∃ z, EnS.refS t vs ((vs.length : Int) == 0) xs = z := ⟨_, rfl⟩
  rw [hZS]
  have HZ0 := Lib.hid (show ZS = [] ++ EnS.refS t vs ((vs.length : Int) == 0) (xs.drop 0) from by rw [← hZS]; rfl)
  clear hZS
  obtain ⟨VL, hVL⟩ : ∃ n, vs.length = n := ⟨_, rfl⟩
  rw [hVL] at HVN HZ0 hcv hvl ⊢
  clear hVL
  go_enter Tryz.func30, Tryz.ntmps30
  go_wp2_with fail
  go_loopw [8, 19] (fun lv i wr => ∃ (k : Nat) (lb : Bool) (y : Value) (q : List EnS.At), k ≤ xs.length ∧ i = .int .i64 k ∧ lv = .bool lb ∧ OwnK atK 37 [9] C wr w.heap.size y q ∧ Hid (ZS = q ++ EnS.refS t vs lb (xs.drop k)) ∧ Whole wr (w.heap.size + 2) 24 #[.string ⟨name.toArray⟩, y] ∧ Whole wr w.heap.size 24 #[.string ⟨name.toArray⟩, .slice a xs.length c] ∧ Whole wr (w.heap.size + 1) 24 #[.string ⟨#[]⟩, .slice none 0 0] ∧ q.length ≤ 2 * k + 1 ∧ Below w.heap.size w wr) (fun _ i _ => xs.length - (intOf i).toNat)
  case atStart => exact ⟨0, _, _, [], Nat.zero_le _, rfl, rfl, OwnK.empty _ _ _ _ _ _, HZ0, ho1, hw2, hr2, by simp, hb2⟩
  case round =>
    obtain ⟨k, lb, y, q, hk, rfl, rfl, hown, HZq, ho, hw, hr, hql, hb⟩ := hrel
    clear ho1 hw2 hr2 hb2 q0 q1 HZ0
    obtain ⟨ya, yc, rfl⟩ := hown.form
    obtain ⟨NY, hNY⟩ : ∃ n, q.length = n := ⟨_, rfl⟩
    rw [hNY] at hown ho
    by_cases hlt : k < xs.length
    · obtain ⟨g, o, rfl, hg, _, hra⟩ := HAT.out k hlt
      obtain ⟨c0, a2, p2, c1, hp2, hu0⟩ := AttrAt.partsE hra
      have HR1 := HRS.out k hlt lb
      clear hra HAT HRS HRE
      generalize xs[k] = x at *
      obtain ⟨ty, vals⟩ := x
      simp only at c0 c1 hp2 hu0 HR1
      have HZ1 := Lib.hid (HZq.out.trans (congrArg (q ++ ·) HR1))
      clear HZq HR1
      generalize hgL : vals.length = L at *
      have hl0 : (0 : Int) ≤ (k : Int) := by omega
      have hl1 : (k : Int) < (xs.length : Int) := by omega
      have g9 := (hb.cell (p := ⟨g, o + k * 2, none⟩) hg).trans c0
      have m9 := hw.cell 1
      simp only [List.getElem?_toArray, List.getElem?_cons_zero, List.getElem?_cons_succ] at m9
      cases lb with
      | true =>
        have HZ := Lib.hid (show ZS = q ++ ((if ty = t then [] else [⟨ty, vals⟩]) ++ EnS.refS t vs true (xs.drop (k + 1))) from by rw [HZ1.out]; simp)
        clear HZ1
        have g0 := (hb.cell (p := ⟨g, o + k * 2, none⟩) hg).trans c0
        have g1 := (hb.cell (p := ⟨g, o + k * 2 + 1, none⟩) hg).trans c1
        have hu := StrsP.callT hu0 hb
        have e1 := ho.cell 1
        have m1 := hw.cell 1
        simp only [List.getElem?_toArray, List.getElem?_cons_zero, List.getElem?_cons_succ] at e1 m1
        cases heq : (ty == t) with
        | true =>
          have hty : ty = t := by simpa using heq
          have HZN := Lib.hid (show ZS = q ++ EnS.refS t vs true (xs.drop (k + 1)) from by rw [HZ.out, if_pos hty]; simp)
          clear hty
          go_wp2_with fail
          go_roundw
          case rel => exact ⟨k + 1, true, _, _, by omega, by go_num, rfl, hown, HZN, ho, hw, hr, by omega, hb⟩
          case measure => simp [intOf]; omega
        | false =>
          have hty : ¬ ty = t := by simpa using heq
          have HZN := Lib.hid (show ZS = (q ++ [⟨ty, vals⟩]) ++ EnS.refS t vs true (xs.drop (k + 1)) from by rw [HZ.out, if_neg hty]; simp)
          clear hty
          go_wp2_with fail
          refine head_begin 9 (fun W => W.cell? ⟨w.heap.size + 2, 1, none⟩ = some (.slice ya NY yc) ∧ W.cell? ⟨w.heap.size, 1, none⟩ = some (.slice (some ⟨g, o, none⟩) xs.length c) ∧ W.cell? ⟨g, o + k * 2, none⟩ = some (.string ⟨ty.toArray⟩) ∧ W.cell? ⟨g, o + k * 2 + 1, none⟩ = some (.slice a2 L p2)) (by kernel_rfl) (by kernel_rfl) ⟨e1, m1, g0, g1⟩ (fun hHeld => ?_)
          refine head_take 0 ?_ (by simp only [List.length_cons, List.length_nil]; decide) (by kernel_rfl) (fun _ _ _ h => h) (by rfl) ?_ hHeld ?_
          rotate_left
          · intro W hSw; (try simp only [List.getElem_cons_zero]); (try go_split_ands); go_simp; (try with_reducible rfl)
          (try simp only [List.getElem_cons_zero, Act.put, List.setIfInBounds_toArray, List.set_cons_zero, List.set_cons_succ])
          refine head_take 1 ?_ (by simp only [List.length_cons, List.length_nil]; decide) (by kernel_rfl) (fun _ _ _ h => h) (by rfl) ?_ hHeld ?_
          rotate_left
          · intro W hSw; (try simp only [List.getElem_cons_succ, List.getElem_cons_zero]); (try go_split_ands); go_simp; (try with_reducible rfl)
          (try simp only [List.getElem_cons_succ, List.getElem_cons_zero, Act.put, List.setIfInBounds_toArray, List.set_cons_zero, List.set_cons_succ])
          refine head_take 2 ?_ (by simp only [List.length_cons, List.length_nil]; decide) (by kernel_rfl) (fun _ _ _ h => h) (by rfl) ?_ hHeld ?_
          rotate_left
          · intro W hSw; (try simp only [List.getElem_cons_succ, List.getElem_cons_zero]); (try go_split_ands); go_simp; (try with_reducible rfl)
          (try simp only [List.getElem_cons_succ, List.getElem_cons_zero, Act.put, List.setIfInBounds_toArray, List.set_cons_zero, List.set_cons_succ])
          refine head_take 3 ?_ (by simp only [List.length_cons, List.length_nil]; decide) (by kernel_rfl) (fun _ _ _ h => h) (by rfl) ?_ hHeld ?_
          rotate_left
          · intro W hSw; (try simp only [List.getElem_cons_succ, List.getElem_cons_zero]); (try go_split_ands); go_simp; (try with_reducible rfl)
          (try simp only [List.getElem_cons_succ, List.getElem_cons_zero, Act.put, List.setIfInBounds_toArray, List.set_cons_zero, List.set_cons_succ])
          refine head_take 4 ?_ (by simp only [List.length_cons, List.length_nil]; decide) (by kernel_rfl) (fun _ _ _ h => h) (by rfl) ?_ hHeld ?_
          rotate_left
          · intro W hSw; (try simp only [List.getElem_cons_succ, List.getElem_cons_zero]); (try go_split_ands); go_simp; (try with_reducible rfl)
          (try simp only [List.getElem_cons_succ, List.getElem_cons_zero, Act.put, List.setIfInBounds_toArray, List.set_cons_zero, List.set_cons_succ])
          refine head_take 5 ?_ (by simp only [List.length_cons, List.length_nil]; decide) (by kernel_rfl) (fun _ _ _ h => h) (by rfl) ?_ hHeld ?_
          rotate_left
          · intro W hSw; (try simp only [List.getElem_cons_succ, List.getElem_cons_zero]); (try go_split_ands); go_simp; (try with_reducible rfl)
          (try simp only [List.getElem_cons_succ, List.getElem_cons_zero, Act.put, List.setIfInBounds_toArray, List.set_cons_zero, List.set_cons_succ])
          refine head_take 6 ?_ (by simp only [List.length_cons, List.length_nil]; decide) (by kernel_rfl) (fun _ _ _ h => h) (by rfl) ?_ hHeld ?_
          rotate_left
          · intro W hSw; (try simp only [List.getElem_cons_succ, List.getElem_cons_zero]); (try go_split_ands); go_simp; (try with_reducible rfl)
          (try simp only [List.getElem_cons_succ, List.getElem_cons_zero, Act.put, List.setIfInBounds_toArray, List.set_cons_zero, List.set_cons_succ])
          refine head_step 7 (by simp only [List.length_cons, List.length_nil]; decide) (by kernel_rfl) (fun K hK => ?_)
          (try simp only [List.getElem_cons_succ, List.getElem_cons_zero])
          refine if_step (by rfl) ?_
          go_simp
          have hgB := grow1 wr.drew (.cells #[.string ⟨ty.toArray⟩, .slice a2 L p2] 37)
          have hwB := (Whole.made wr 37 #[.string ⟨ty.toArray⟩, .slice a2 L p2]).drew
          have hbB1 : Below wr.heap.size wr (wr.alloc (.cells #[.string ⟨ty.toArray⟩, .slice a2 L p2] 37)).drew := (grow1 wr _).drew
          have hbC := hb.trans (hbB1.mono hb.size)
          have hownB := hown.call hbB1
          have hoB := ho.call hbB1
          have hwwB := hw.call hbB1
          have hrB := hr.call hbB1
          have huB := StrsP.callT hu hbB1
          have b0 := hwB.cell 0
          have b1 := hwB.cell 1
          have hszB := hbC.size
          simp only [List.getElem?_toArray, List.getElem?_cons_zero, List.getElem?_cons_succ] at b0 b1
          refine hK.out _ _ ?_ (fun hHeld => ?_)
          · exact ⟨keepC e1 hbB1, keepC m1 hbB1, keepC g0 hbB1, keepC g1 hbB1⟩
          clear hK K
          (try simp only [List.getElem_cons_succ, List.getElem_cons_zero, Act.put, List.setIfInBounds_toArray, List.set_cons_zero, List.set_cons_succ])
          refine head_step 8 (by simp only [List.length_cons, List.length_nil]; decide) (by kernel_rfl) (fun K hK => ?_)
          (try simp only [List.getElem_cons_succ, List.getElem_cons_zero])
          refine if_step (by rfl) ?_
          refine wp_k atK 37 22 [9] (by decide) Tryz.underlying22 HI.out hz0 hz1 hz2 (by rfl) _ _ (by rfl) w.heap.size hC _ q (by rfl) hownB wr.heap.size (by rfl) ⟨ty, vals⟩ _ b0 b1 huB (by omega) hszB ?_
          intro v3 w3 hown3 hb3 hgw3
          have ho3 := hoB.grown hownB (by decide) hgw3
          have hw3 := hwwB.grown hownB (by decide) hgw3
          have hr3 := hrB.grown hownB (by decide) hgw3
          have x1 := ho3.cell 1
          have x2 := hw3.cell 1
          simp only [List.getElem?_toArray, List.getElem?_cons_zero, List.getElem?_cons_succ] at x1 x2
          refine hK.out _ _ ?_ (fun hHeld => ?_)
          · exact ⟨x1, x2, (hb3.cell (p := ⟨g, o + k * 2, none⟩) hg).trans (keepC g0 hbB1), (hb3.cell (p := ⟨g, o + k * 2 + 1, none⟩) hg).trans (keepC g1 hbB1)⟩
          clear hK K
          (try simp only [Act.put, List.setIfInBounds_toArray, List.set_cons_zero, List.set_cons_succ])
          refine head_end (by kernel_rfl) ?_
          simp only [List.drop_succ_cons, List.drop_zero]
          obtain ⟨yb, yd, rfl⟩ := hown3.form
          obtain ⟨N1, hN1⟩ : ∃ n, (q ++ [(⟨ty, vals⟩ : EnS.At)]).length = n := ⟨_, rfl⟩
          rw [hN1] at hown3 ⊢
          have tq := ho3.thaw 1
          have tz := ho3.cell 1
          simp only [List.getElem?_toArray, List.getElem?_cons_zero, List.getElem?_cons_succ] at tz
          have hoF := ho3.put 1 (.slice yb N1 yd)
          have hownF := hown3.other ho3 (by omega) (by decide) (by decide) 1 (.slice yb N1 yd)
          have hwF := hw3.other (p := ⟨w.heap.size + 2, 1, none⟩) (by show w.heap.size ≠ w.heap.size + 2; omega) (.slice yb N1 yd)
          have hrF := hr3.other (p := ⟨w.heap.size + 2, 1, none⟩) (by show w.heap.size + 1 ≠ w.heap.size + 2; omega) (.slice yb N1 yd)
          have hbF := (hbC.trans hb3).setCell (p := ⟨w.heap.size + 2, 1, none⟩) (by show w.heap.size ≤ w.heap.size + 2; omega) (.slice yb N1 yd)
          simp only [List.setIfInBounds_toArray, List.set_cons_succ, List.set_cons_zero] at hoF
          clear hHeld
          go_wp2_with fail
          go_roundw
          case rel => exact ⟨k + 1, true, _, _, by omega, by go_num, rfl, hownF, HZN, hoF, hwF, hrF, by rw [List.length_append]; show q.length + 1 ≤ 2 * (k + 1) + 1; omega, hbF⟩
          case measure => simp [intOf]; omega
      | false =>
        cases hlx : Op.bytesLess ty t with
        | true =>
          have HZ := Lib.hid (show ZS = q ++ ((if ty = t then [] else [⟨ty, vals⟩]) ++ EnS.refS t vs false (xs.drop (k + 1))) from by rw [HZ1.out, hlx]; simp)
          clear HZ1
          have g0 := (hb.cell (p := ⟨g, o + k * 2, none⟩) hg).trans c0
          have g1 := (hb.cell (p := ⟨g, o + k * 2 + 1, none⟩) hg).trans c1
          have hu := StrsP.callT hu0 hb
          have e1 := ho.cell 1
          have m1 := hw.cell 1
          simp only [List.getElem?_toArray, List.getElem?_cons_zero, List.getElem?_cons_succ] at e1 m1
          cases heq : (ty == t) with
          | true =>
            have hty : ty = t := by simpa using heq
            have HZN := Lib.hid (show ZS = q ++ EnS.refS t vs false (xs.drop (k + 1)) from by rw [HZ.out, if_pos hty]; simp)
            clear hty
            go_wp2_with fail
            go_roundw
            case rel => exact ⟨k + 1, false, _, _, by omega, by go_num, rfl, hown, HZN, ho, hw, hr, by omega, hb⟩
            case measure => simp [intOf]; omega
          | false =>
            have hty : ¬ ty = t := by simpa using heq
            have HZN := Lib.hid (show ZS = (q ++ [⟨ty, vals⟩]) ++ EnS.refS t vs false (xs.drop (k + 1)) from by rw [HZ.out, if_neg hty]; simp)
            clear hty
            go_wp2_with fail
            refine head_begin 9 (fun W => W.cell? ⟨w.heap.size + 2, 1, none⟩ = some (.slice ya NY yc) ∧ W.cell? ⟨w.heap.size, 1, none⟩ = some (.slice (some ⟨g, o, none⟩) xs.length c) ∧ W.cell? ⟨g, o + k * 2, none⟩ = some (.string ⟨ty.toArray⟩) ∧ W.cell? ⟨g, o + k * 2 + 1, none⟩ = some (.slice a2 L p2)) (by kernel_rfl) (by kernel_rfl) ⟨e1, m1, g0, g1⟩ (fun hHeld => ?_)
            refine head_take 0 ?_ (by simp only [List.length_cons, List.length_nil]; decide) (by kernel_rfl) (fun _ _ _ h => h) (by rfl) ?_ hHeld ?_
            rotate_left
            · intro W hSw; (try simp only [List.getElem_cons_zero]); (try go_split_ands); go_simp; (try with_reducible rfl)
            (try simp only [List.getElem_cons_zero, Act.put, List.setIfInBounds_toArray, List.set_cons_zero, List.set_cons_succ])
            refine head_take 1 ?_ (by simp only [List.length_cons, List.length_nil]; decide) (by kernel_rfl) (fun _ _ _ h => h) (by rfl) ?_ hHeld ?_
            rotate_left
            · intro W hSw; (try simp only [List.getElem_cons_succ, List.getElem_cons_zero]); (try go_split_ands); go_simp; (try with_reducible rfl)
            (try simp only [List.getElem_cons_succ, List.getElem_cons_zero, Act.put, List.setIfInBounds_toArray, List.set_cons_zero, List.set_cons_succ])
            refine head_take 2 ?_ (by simp only [List.length_cons, List.length_nil]; decide) (by kernel_rfl) (fun _ _ _ h => h) (by rfl) ?_ hHeld ?_
            rotate_left
            · intro W hSw; (try simp only [List.getElem_cons_succ, List.getElem_cons_zero]); (try go_split_ands); go_simp; (try with_reducible rfl)
            (try simp only [List.getElem_cons_succ, List.getElem_cons_zero, Act.put, List.setIfInBounds_toArray, List.set_cons_zero, List.set_cons_succ])
            refine head_take 3 ?_ (by simp only [List.length_cons, List.length_nil]; decide) (by kernel_rfl) (fun _ _ _ h => h) (by rfl) ?_ hHeld ?_
            rotate_left
            · intro W hSw; (try simp only [List.getElem_cons_succ, List.getElem_cons_zero]); (try go_split_ands); go_simp; (try with_reducible rfl)
            (try simp only [List.getElem_cons_succ, List.getElem_cons_zero, Act.put, List.setIfInBounds_toArray, List.set_cons_zero, List.set_cons_succ])
            refine head_take 4 ?_ (by simp only [List.length_cons, List.length_nil]; decide) (by kernel_rfl) (fun _ _ _ h => h) (by rfl) ?_ hHeld ?_
            rotate_left
            · intro W hSw; (try simp only [List.getElem_cons_succ, List.getElem_cons_zero]); (try go_split_ands); go_simp; (try with_reducible rfl)
            (try simp only [List.getElem_cons_succ, List.getElem_cons_zero, Act.put, List.setIfInBounds_toArray, List.set_cons_zero, List.set_cons_succ])
            refine head_take 5 ?_ (by simp only [List.length_cons, List.length_nil]; decide) (by kernel_rfl) (fun _ _ _ h => h) (by rfl) ?_ hHeld ?_
            rotate_left
            · intro W hSw; (try simp only [List.getElem_cons_succ, List.getElem_cons_zero]); (try go_split_ands); go_simp; (try with_reducible rfl)
            (try simp only [List.getElem_cons_succ, List.getElem_cons_zero, Act.put, List.setIfInBounds_toArray, List.set_cons_zero, List.set_cons_succ])
            refine head_take 6 ?_ (by simp only [List.length_cons, List.length_nil]; decide) (by kernel_rfl) (fun _ _ _ h => h) (by rfl) ?_ hHeld ?_
            rotate_left
            · intro W hSw; (try simp only [List.getElem_cons_succ, List.getElem_cons_zero]); (try go_split_ands); go_simp; (try with_reducible rfl)
            (try simp only [List.getElem_cons_succ, List.getElem_cons_zero, Act.put, List.setIfInBounds_toArray, List.set_cons_zero, List.set_cons_succ])
            refine head_step 7 (by simp only [List.length_cons, List.length_nil]; decide) (by kernel_rfl) (fun K hK => ?_)
            (try simp only [List.getElem_cons_succ, List.getElem_cons_zero])
            refine if_step (by rfl) ?_
            go_simp
            have hgB := grow1 wr.drew (.cells #[.string ⟨ty.toArray⟩, .slice a2 L p2] 37)
            have hwB := (Whole.made wr 37 #[.string ⟨ty.toArray⟩, .slice a2 L p2]).drew
            have hbB1 : Below wr.heap.size wr (wr.alloc (.cells #[.string ⟨ty.toArray⟩, .slice a2 L p2] 37)).drew := (grow1 wr _).drew
            have hbC := hb.trans (hbB1.mono hb.size)
            have hownB := hown.call hbB1
            have hoB := ho.call hbB1
            have hwwB := hw.call hbB1
            have hrB := hr.call hbB1
            have huB := StrsP.callT hu hbB1
            have b0 := hwB.cell 0
            have b1 := hwB.cell 1
            have hszB := hbC.size
            simp only [List.getElem?_toArray, List.getElem?_cons_zero, List.getElem?_cons_succ] at b0 b1
            refine hK.out _ _ ?_ (fun hHeld => ?_)
            · exact ⟨keepC e1 hbB1, keepC m1 hbB1, keepC g0 hbB1, keepC g1 hbB1⟩
            clear hK K
            (try simp only [List.getElem_cons_succ, List.getElem_cons_zero, Act.put, List.setIfInBounds_toArray, List.set_cons_zero, List.set_cons_succ])
            refine head_step 8 (by simp only [List.length_cons, List.length_nil]; decide) (by kernel_rfl) (fun K hK => ?_)
            (try simp only [List.getElem_cons_succ, List.getElem_cons_zero])
            refine if_step (by rfl) ?_
            refine wp_k atK 37 22 [9] (by decide) Tryz.underlying22 HI.out hz0 hz1 hz2 (by rfl) _ _ (by rfl) w.heap.size hC _ q (by rfl) hownB wr.heap.size (by rfl) ⟨ty, vals⟩ _ b0 b1 huB (by omega) hszB ?_
            intro v3 w3 hown3 hb3 hgw3
            have ho3 := hoB.grown hownB (by decide) hgw3
            have hw3 := hwwB.grown hownB (by decide) hgw3
            have hr3 := hrB.grown hownB (by decide) hgw3
            have x1 := ho3.cell 1
            have x2 := hw3.cell 1
            simp only [List.getElem?_toArray, List.getElem?_cons_zero, List.getElem?_cons_succ] at x1 x2
            refine hK.out _ _ ?_ (fun hHeld => ?_)
            · exact ⟨x1, x2, (hb3.cell (p := ⟨g, o + k * 2, none⟩) hg).trans (keepC g0 hbB1), (hb3.cell (p := ⟨g, o + k * 2 + 1, none⟩) hg).trans (keepC g1 hbB1)⟩
            clear hK K
            (try simp only [Act.put, List.setIfInBounds_toArray, List.set_cons_zero, List.set_cons_succ])
            refine head_end (by kernel_rfl) ?_
            simp only [List.drop_succ_cons, List.drop_zero]
            obtain ⟨yb, yd, rfl⟩ := hown3.form
            obtain ⟨N1, hN1⟩ : ∃ n, (q ++ [(⟨ty, vals⟩ : EnS.At)]).length = n := ⟨_, rfl⟩
            rw [hN1] at hown3 ⊢
            have tq := ho3.thaw 1
            have tz := ho3.cell 1
            simp only [List.getElem?_toArray, List.getElem?_cons_zero, List.getElem?_cons_succ] at tz
            have hoF := ho3.put 1 (.slice yb N1 yd)
            have hownF := hown3.other ho3 (by omega) (by decide) (by decide) 1 (.slice yb N1 yd)
            have hwF := hw3.other (p := ⟨w.heap.size + 2, 1, none⟩) (by show w.heap.size ≠ w.heap.size + 2; omega) (.slice yb N1 yd)
            have hrF := hr3.other (p := ⟨w.heap.size + 2, 1, none⟩) (by show w.heap.size + 1 ≠ w.heap.size + 2; omega) (.slice yb N1 yd)
            have hbF := (hbC.trans hb3).setCell (p := ⟨w.heap.size + 2, 1, none⟩) (by show w.heap.size ≤ w.heap.size + 2; omega) (.slice yb N1 yd)
            simp only [List.setIfInBounds_toArray, List.set_cons_succ, List.set_cons_zero] at hoF
            clear hHeld
            go_wp2_with fail
            go_roundw
            case rel => exact ⟨k + 1, false, _, _, by omega, by go_num, rfl, hownF, HZN, hoF, hwF, hrF, by rw [List.length_append]; show q.length + 1 ≤ 2 * (k + 1) + 1; omega, hbF⟩
            case measure => simp [intOf]; omega
        | false =>
          have HZ := Lib.hid (show ZS = (q ++ [⟨t, vs⟩]) ++ ((if ty = t then [] else [⟨ty, vals⟩]) ++ EnS.refS t vs true (xs.drop (k + 1))) from by rw [HZ1.out, hlx]; simp)
          clear HZ1
          have e1 := ho.cell 1
          simp only [List.getElem?_toArray, List.getElem?_cons_zero, List.getElem?_cons_succ] at e1
          have hgB := grow1 wr (.cells #[.string ⟨t.toArray⟩, .slice av VL cv] 37)
          have hwB := Whole.made wr 37 #[.string ⟨t.toArray⟩, .slice av VL cv]
          have hbB := hb.trans (hgB.mono hb.size)
          have hownB := hown.call hgB
          have hoB := ho.call hgB
          have hwwB := hw.call hgB
          have hrB := hr.call hgB
          have hvB := HVN.out _ hbB
          have b0 := hwB.cell 0
          have b1 := hwB.cell 1
          have hszB := hbB.size
          simp only [List.getElem?_toArray, List.getElem?_cons_zero, List.getElem?_cons_succ] at b0 b1
          clear hwB
          go_wp2_with (at_builtin; refine push_k atK 37 22 [9] (by decide) Tryz.underlying22 HI.out hz0 hz1 hz2 (by rfl) (by rfl) _ _ (by rfl) w.heap.size hC _ q (by rfl) hownB wr.heap.size (by rfl) ⟨t, vs⟩ _ b0 b1 hvB (by omega) hszB ?_)
          intro v3 w3 hown3 hb3 hgw3
          have ho3 := hoB.grown hownB (by decide) hgw3
          have hw3 := hwwB.grown hownB (by decide) hgw3
          have hr3 := hrB.grown hownB (by decide) hgw3
          obtain ⟨yb, yd, rfl⟩ := hown3.form
          obtain ⟨N3, hN3⟩ : ∃ n, (q ++ [(⟨t, vs⟩ : EnS.At)]).length = n := ⟨_, rfl⟩
          rw [hN3] at hown3 ⊢
          have tq := ho3.thaw 1
          have tz := ho3.cell 1
          simp only [List.getElem?_toArray, List.getElem?_cons_zero, List.getElem?_cons_succ] at tz
          have hoF := ho3.put 1 (.slice yb N3 yd)
          have hownF := hown3.other ho3 (by omega) (by decide) (by decide) 1 (.slice yb N3 yd)
          have hwF := hw3.other (p := ⟨w.heap.size + 2, 1, none⟩) (by show w.heap.size ≠ w.heap.size + 2; omega) (.slice yb N3 yd)
          have hrF := hr3.other (p := ⟨w.heap.size + 2, 1, none⟩) (by show w.heap.size + 1 ≠ w.heap.size + 2; omega) (.slice yb N3 yd)
          have hbF := (hbB.trans hb3).setCell (p := ⟨w.heap.size + 2, 1, none⟩) (by show w.heap.size ≤ w.heap.size + 2; omega) (.slice yb N3 yd)
          simp only [List.setIfInBounds_toArray, List.set_cons_succ, List.set_cons_zero] at hoF
          clear hown ho hw hr hb hownB hoB hwwB hrB hvB b0 b1 hszB hown3 hb3 hgw3 ho3 hw3 hr3 hbB hgB e1
          go_upto_region 9 with fail
          obtain ⟨wv, hwv⟩ : ∃ x, w3.setCell ⟨w.heap.size + 2, 1, none⟩ (.slice yb N3 yd) = x := ⟨_, rfl⟩
          rw [hwv] at hownF hoF hwF hrF hbF ⊢
          clear hwv tq tz
          have hql1 : (q ++ [(⟨t, vs⟩ : EnS.At)]).length ≤ 2 * k + 2 := by rw [List.length_append]; show q.length + 1 ≤ _; omega
          have hown := hownF
          have ho := hoF
          have hw := hwF
          have hr := hrF
          have hb := hbF
          clear hownF hoF hwF hrF hbF g9 m9
          have g0 := (hb.cell (p := ⟨g, o + k * 2, none⟩) hg).trans c0
          have g1 := (hb.cell (p := ⟨g, o + k * 2 + 1, none⟩) hg).trans c1
          have hu := StrsP.callT hu0 hb
          have e1 := ho.cell 1
          have m1 := hw.cell 1
          simp only [List.getElem?_toArray, List.getElem?_cons_zero, List.getElem?_cons_succ] at e1 m1
          cases heq : (ty == t) with
          | true =>
            have hty : ty = t := by simpa using heq
            have HZN := Lib.hid (show ZS = (q ++ [(⟨t, vs⟩ : EnS.At)]) ++ EnS.refS t vs true (xs.drop (k + 1)) from by rw [HZ.out, if_pos hty]; simp)
            clear hty
            go_wp2_with fail
            go_roundw
            case rel => exact ⟨k + 1, true, _, _, by omega, by go_num, rfl, hown, HZN, ho, hw, hr, by omega, hb⟩
            case measure => simp [intOf]; omega
          | false =>
            have hty : ¬ ty = t := by simpa using heq
            have HZN := Lib.hid (show ZS = ((q ++ [(⟨t, vs⟩ : EnS.At)]) ++ [⟨ty, vals⟩]) ++ EnS.refS t vs true (xs.drop (k + 1)) from by rw [HZ.out, if_neg hty]; simp)
            clear hty
            go_wp2_with fail
            refine head_begin 9 (fun W => W.cell? ⟨w.heap.size + 2, 1, none⟩ = some (.slice yb N3 yd) ∧ W.cell? ⟨w.heap.size, 1, none⟩ = some (.slice (some ⟨g, o, none⟩) xs.length c) ∧ W.cell? ⟨g, o + k * 2, none⟩ = some (.string ⟨ty.toArray⟩) ∧ W.cell? ⟨g, o + k * 2 + 1, none⟩ = some (.slice a2 L p2)) (by kernel_rfl) (by kernel_rfl) ⟨e1, m1, g0, g1⟩ (fun hHeld => ?_)
            refine head_take 0 ?_ (by simp only [List.length_cons, List.length_nil]; decide) (by kernel_rfl) (fun _ _ _ h => h) (by rfl) ?_ hHeld ?_
            rotate_left
            · intro W hSw; (try simp only [List.getElem_cons_zero]); (try go_split_ands); go_simp; (try with_reducible rfl)
            (try simp only [List.getElem_cons_zero, Act.put, List.setIfInBounds_toArray, List.set_cons_zero, List.set_cons_succ])
            refine head_take 1 ?_ (by simp only [List.length_cons, List.length_nil]; decide) (by kernel_rfl) (fun _ _ _ h => h) (by rfl) ?_ hHeld ?_
            rotate_left
            · intro W hSw; (try simp only [List.getElem_cons_succ, List.getElem_cons_zero]); (try go_split_ands); go_simp; (try with_reducible rfl)
            (try simp only [List.getElem_cons_succ, List.getElem_cons_zero, Act.put, List.setIfInBounds_toArray, List.set_cons_zero, List.set_cons_succ])
            refine head_take 2 ?_ (by simp only [List.length_cons, List.length_nil]; decide) (by kernel_rfl) (fun _ _ _ h => h) (by rfl) ?_ hHeld ?_
            rotate_left
            · intro W hSw; (try simp only [List.getElem_cons_succ, List.getElem_cons_zero]); (try go_split_ands); go_simp; (try with_reducible rfl)
            (try simp only [List.getElem_cons_succ, List.getElem_cons_zero, Act.put, List.setIfInBounds_toArray, List.set_cons_zero, List.set_cons_succ])
            refine head_take 3 ?_ (by simp only [List.length_cons, List.length_nil]; decide) (by kernel_rfl) (fun _ _ _ h => h) (by rfl) ?_ hHeld ?_
            rotate_left
            · intro W hSw; (try simp only [List.getElem_cons_succ, List.getElem_cons_zero]); (try go_split_ands); go_simp; (try with_reducible rfl)
            (try simp only [List.getElem_cons_succ, List.getElem_cons_zero, Act.put, List.setIfInBounds_toArray, List.set_cons_zero, List.set_cons_succ])
            refine head_take 4 ?_ (by simp only [List.length_cons, List.length_nil]; decide) (by kernel_rfl) (fun _ _ _ h => h) (by rfl) ?_ hHeld ?_
            rotate_left
            · intro W hSw; (try simp only [List.getElem_cons_succ, List.getElem_cons_zero]); (try go_split_ands); go_simp; (try with_reducible rfl)
            (try simp only [List.getElem_cons_succ, List.getElem_cons_zero, Act.put, List.setIfInBounds_toArray, List.set_cons_zero, List.set_cons_succ])
            refine head_take 5 ?_ (by simp only [List.length_cons, List.length_nil]; decide) (by kernel_rfl) (fun _ _ _ h => h) (by rfl) ?_ hHeld ?_
            rotate_left
            · intro W hSw; (try simp only [List.getElem_cons_succ, List.getElem_cons_zero]); (try go_split_ands); go_simp; (try with_reducible rfl)
            (try simp only [List.getElem_cons_succ, List.getElem_cons_zero, Act.put, List.setIfInBounds_toArray, List.set_cons_zero, List.set_cons_succ])
            refine head_take 6 ?_ (by simp only [List.length_cons, List.length_nil]; decide) (by kernel_rfl) (fun _ _ _ h => h) (by rfl) ?_ hHeld ?_
            rotate_left
            · intro W hSw; (try simp only [List.getElem_cons_succ, List.getElem_cons_zero]); (try go_split_ands); go_simp; (try with_reducible rfl)
            (try simp only [List.getElem_cons_succ, List.getElem_cons_zero, Act.put, List.setIfInBounds_toArray, List.set_cons_zero, List.set_cons_succ])
            refine head_step 7 (by simp only [List.length_cons, List.length_nil]; decide) (by kernel_rfl) (fun K hK => ?_)
            (try simp only [List.getElem_cons_succ, List.getElem_cons_zero])
            refine if_step (by rfl) ?_
            go_simp
            have hgB := grow1 wv.drew (.cells #[.string ⟨ty.toArray⟩, .slice a2 L p2] 37)
            have hwB := (Whole.made wv 37 #[.string ⟨ty.toArray⟩, .slice a2 L p2]).drew
            have hbB1 : Below wv.heap.size wv (wv.alloc (.cells #[.string ⟨ty.toArray⟩, .slice a2 L p2] 37)).drew := (grow1 wv _).drew
            have hbC := hb.trans (hbB1.mono hb.size)
            have hownB := hown.call hbB1
            have hoB := ho.call hbB1
            have hwwB := hw.call hbB1
            have hrB := hr.call hbB1
            have huB := StrsP.callT hu hbB1
            have b0 := hwB.cell 0
            have b1 := hwB.cell 1
            have hszB := hbC.size
            simp only [List.getElem?_toArray, List.getElem?_cons_zero, List.getElem?_cons_succ] at b0 b1
            refine hK.out _ _ ?_ (fun hHeld => ?_)
            · exact ⟨keepC e1 hbB1, keepC m1 hbB1, keepC g0 hbB1, keepC g1 hbB1⟩
            clear hK K
            (try simp only [List.getElem_cons_succ, List.getElem_cons_zero, Act.put, List.setIfInBounds_toArray, List.set_cons_zero, List.set_cons_succ])
            refine head_step 8 (by simp only [List.length_cons, List.length_nil]; decide) (by kernel_rfl) (fun K hK => ?_)
            (try simp only [List.getElem_cons_succ, List.getElem_cons_zero])
            refine if_step (by rfl) ?_
            refine wp_k atK 37 22 [9] (by decide) Tryz.underlying22 HI.out hz0 hz1 hz2 (by rfl) _ _ (by rfl) w.heap.size hC _ (q ++ [(⟨t, vs⟩ : EnS.At)]) (by rfl) hownB wv.heap.size (by rfl) ⟨ty, vals⟩ _ b0 b1 huB (by omega) hszB ?_
            intro v3 w3 hown3 hb3 hgw3
            have ho3 := hoB.grown hownB (by decide) hgw3
            have hw3 := hwwB.grown hownB (by decide) hgw3
            have hr3 := hrB.grown hownB (by decide) hgw3
            have x1 := ho3.cell 1
            have x2 := hw3.cell 1
            simp only [List.getElem?_toArray, List.getElem?_cons_zero, List.getElem?_cons_succ] at x1 x2
            refine hK.out _ _ ?_ (fun hHeld => ?_)
            · exact ⟨x1, x2, (hb3.cell (p := ⟨g, o + k * 2, none⟩) hg).trans (keepC g0 hbB1), (hb3.cell (p := ⟨g, o + k * 2 + 1, none⟩) hg).trans (keepC g1 hbB1)⟩
            clear hK K
            (try simp only [Act.put, List.setIfInBounds_toArray, List.set_cons_zero, List.set_cons_succ])
            refine head_end (by kernel_rfl) ?_
            simp only [List.drop_succ_cons, List.drop_zero]
            obtain ⟨yb, yd, rfl⟩ := hown3.form
            obtain ⟨N1, hN1⟩ : ∃ n, ((q ++ [(⟨t, vs⟩ : EnS.At)]) ++ [(⟨ty, vals⟩ : EnS.At)]).length = n := ⟨_, rfl⟩
            rw [hN1] at hown3 ⊢
            have tq := ho3.thaw 1
            have tz := ho3.cell 1
            simp only [List.getElem?_toArray, List.getElem?_cons_zero, List.getElem?_cons_succ] at tz
            have hoF := ho3.put 1 (.slice yb N1 yd)
            have hownF := hown3.other ho3 (by omega) (by decide) (by decide) 1 (.slice yb N1 yd)
            have hwF := hw3.other (p := ⟨w.heap.size + 2, 1, none⟩) (by show w.heap.size ≠ w.heap.size + 2; omega) (.slice yb N1 yd)
            have hrF := hr3.other (p := ⟨w.heap.size + 2, 1, none⟩) (by show w.heap.size + 1 ≠ w.heap.size + 2; omega) (.slice yb N1 yd)
            have hbF := (hbC.trans hb3).setCell (p := ⟨w.heap.size + 2, 1, none⟩) (by show w.heap.size ≤ w.heap.size + 2; omega) (.slice yb N1 yd)
            simp only [List.setIfInBounds_toArray, List.set_cons_succ, List.set_cons_zero] at hoF
            clear hHeld
            go_wp2_with fail
            go_roundw
            case rel => exact ⟨k + 1, true, _, _, by omega, by go_num, rfl, hownF, HZN, hoF, hwF, hrF, by rw [List.length_append]; show (q ++ [(⟨t, vs⟩ : EnS.At)]).length + 1 ≤ 2 * (k + 1) + 1; omega, hbF⟩
            case measure => simp [intOf]; omega
    · have hkl : k = xs.length := by omega
      subst hkl
      have HZE := HRE.out lb
      cases lb with
      | true =>
        have HZ := Lib.hid (show ZS = q from by rw [HZq.out, HZE, if_pos rfl, List.append_nil])
        clear HZq HZE HRS HRE HAT
        have q0 := ho.cell 0
        have q2 := ho.cell 1
        have r0 := hr.cell 0
        have r1 := hr.cell 1
        have s0 := hr.thaw 0
        have s1 := hr.thaw 1
        simp only [List.getElem?_toArray, List.getElem?_cons_zero, List.getElem?_cons_succ] at q0 q2 r0 r1
        have hA := hr.put 0 (.string ⟨name.toArray⟩)
        have hoA := hown.other hr (by omega) (by decide) (by decide) 0 (.string ⟨name.toArray⟩)
        simp only [List.setIfInBounds_toArray, List.set_cons_zero] at hA
        have hB := hA.put 1 (.slice ya NY yc)
        have hoB := hoA.other hA (by omega) (by decide) (by decide) 1 (.slice ya NY yc)
        simp only [List.setIfInBounds_toArray, List.set_cons_succ, List.set_cons_zero] at hB
        have hbB : Below w.heap.size w ((wr.setCell ⟨w.heap.size + 1, 0, none⟩ (.string ⟨name.toArray⟩)).setCell ⟨w.heap.size + 1, 1, none⟩ (.slice ya NY yc)) := (hb.setCell (p := ⟨w.heap.size + 1, 0, none⟩) (by show w.heap.size ≤ w.heap.size + 1; omega) _).setCell (p := ⟨w.heap.size + 1, 1, none⟩) (by show w.heap.size ≤ w.heap.size + 1; omega) _
        have y0 := hB.cell 0
        have y1 := hB.cell 1
        simp only [List.getElem?_toArray, List.getElem?_cons_zero, List.getElem?_cons_succ] at y0 y1
        go_wp2_with fail
        (try simp only [Exit.inBlock, Exit.then])
        refine bodyPost_ret (v := .agg #[.string ⟨name.toArray⟩, .slice ya NY yc]) ?_ rfl ⟨_, rfl, by rw [HZ.out]; exact hoB, hbB⟩
        clear hA hoA hB hoB hbB hown hr hb
        generalize (wr.setCell ⟨w.heap.size + 1, 0, none⟩ (.string ⟨name.toArray⟩)).setCell ⟨w.heap.size + 1, 1, none⟩ (.slice ya NY yc) = wf at *
        rw [results_cell1 rfl]
        go_simp
      | false =>
        have HZ := Lib.hid (show ZS = q ++ [⟨t, vs⟩] from by rw [HZq.out, HZE, if_neg (by simp)])
        clear HZq HZE HRS HRE HAT
        have e1 := ho.cell 1
        simp only [List.getElem?_toArray, List.getElem?_cons_zero, List.getElem?_cons_succ] at e1
        have hgB := grow1 wr (.cells #[.string ⟨t.toArray⟩, .slice av VL cv] 37)
        have hwB := Whole.made wr 37 #[.string ⟨t.toArray⟩, .slice av VL cv]
        have hbB := hb.trans (hgB.mono hb.size)
        have hownB := hown.call hgB
        have hoB := ho.call hgB
        have hwwB := hw.call hgB
        have hrB := hr.call hgB
        have hvB := HVN.out _ hbB
        have b0 := hwB.cell 0
        have b1 := hwB.cell 1
        have hszB := hbB.size
        simp only [List.getElem?_toArray, List.getElem?_cons_zero, List.getElem?_cons_succ] at b0 b1
        clear hwB
        go_wp2_with (at_builtin; refine push_k atK 37 22 [9] (by decide) Tryz.underlying22 HI.out hz0 hz1 hz2 (by rfl) (by rfl) _ _ (by rfl) w.heap.size hC _ q (by rfl) hownB wr.heap.size (by rfl) ⟨t, vs⟩ _ b0 b1 hvB (by omega) hszB ?_)
        intro v3 w3 hown3 hb3 hgw3
        have ho3 := hoB.grown hownB (by decide) hgw3
        have hw3 := hwwB.grown hownB (by decide) hgw3
        have hr3 := hrB.grown hownB (by decide) hgw3
        obtain ⟨yb, yd, rfl⟩ := hown3.form
        obtain ⟨N3, hN3⟩ : ∃ n, (q ++ [(⟨t, vs⟩ : EnS.At)]).length = n := ⟨_, rfl⟩
        rw [hN3] at hown3 ⊢
        have tq := ho3.thaw 1
        have tz := ho3.cell 1
        simp only [List.getElem?_toArray, List.getElem?_cons_zero, List.getElem?_cons_succ] at tz
        have hoF := ho3.put 1 (.slice yb N3 yd)
        have hownF := hown3.other ho3 (by omega) (by decide) (by decide) 1 (.slice yb N3 yd)
        have hwF := hw3.other (p := ⟨w.heap.size + 2, 1, none⟩) (by show w.heap.size ≠ w.heap.size + 2; omega) (.slice yb N3 yd)
        have hrF := hr3.other (p := ⟨w.heap.size + 2, 1, none⟩) (by show w.heap.size + 1 ≠ w.heap.size + 2; omega) (.slice yb N3 yd)
        have hbF := (hbB.trans hb3).setCell (p := ⟨w.heap.size + 2, 1, none⟩) (by show w.heap.size ≤ w.heap.size + 2; omega) (.slice yb N3 yd)
        simp only [List.setIfInBounds_toArray, List.set_cons_succ, List.set_cons_zero] at hoF
        clear hown ho hw hr hb hownB hoB hwwB hrB hvB b0 b1 hszB hown3 hb3 hgw3 ho3 hw3 hr3 hbB hgB e1
        go_upto_region 14 with fail
        obtain ⟨wv, hwv⟩ : ∃ x, w3.setCell ⟨w.heap.size + 2, 1, none⟩ (.slice yb N3 yd) = x := ⟨_, rfl⟩
        rw [hwv] at hownF hoF hwF hrF hbF ⊢
        clear hwv tq tz
        have hown := hownF
        have ho := hoF
        have hr := hrF
        have hb := hbF
        clear hownF hoF hwF hrF hbF
        have q0 := ho.cell 0
        have q2 := ho.cell 1
        have r0 := hr.cell 0
        have r1 := hr.cell 1
        have s0 := hr.thaw 0
        have s1 := hr.thaw 1
        simp only [List.getElem?_toArray, List.getElem?_cons_zero, List.getElem?_cons_succ] at q0 q2 r0 r1
        have hA := hr.put 0 (.string ⟨name.toArray⟩)
        have hoA := hown.other hr (by omega) (by decide) (by decide) 0 (.string ⟨name.toArray⟩)
        simp only [List.setIfInBounds_toArray, List.set_cons_zero] at hA
        have hB := hA.put 1 (.slice yb N3 yd)
        have hoB := hoA.other hA (by omega) (by decide) (by decide) 1 (.slice yb N3 yd)
        simp only [List.setIfInBounds_toArray, List.set_cons_succ, List.set_cons_zero] at hB
        have hbB : Below w.heap.size w ((wv.setCell ⟨w.heap.size + 1, 0, none⟩ (.string ⟨name.toArray⟩)).setCell ⟨w.heap.size + 1, 1, none⟩ (.slice yb N3 yd)) := (hb.setCell (p := ⟨w.heap.size + 1, 0, none⟩) (by show w.heap.size ≤ w.heap.size + 1; omega) _).setCell (p := ⟨w.heap.size + 1, 1, none⟩) (by show w.heap.size ≤ w.heap.size + 1; omega) _
        have y0 := hB.cell 0
        have y1 := hB.cell 1
        simp only [List.getElem?_toArray, List.getElem?_cons_zero, List.getElem?_cons_succ] at y0 y1
        go_wp2_with fail
        (try simp only [Exit.inBlock, Exit.then])
        refine bodyPost_ret (v := .agg #[.string ⟨name.toArray⟩, .slice yb N3 yd]) ?_ rfl ⟨_, rfl, by rw [HZ.out]; exact hoB, hbB⟩
        clear hA hoA hB hoB hbB hown hr hb
        generalize (wv.setCell ⟨w.heap.size + 1, 0, none⟩ (.string ⟨name.toArray⟩)).setCell ⟨w.heap.size + 1, 1, none⟩ (.slice yb N3 yd) = wf at *
        rw [results_cell1 rfl]
        go_simp
end Go.Proofs.YtmnhgbkdahdoiaaGreatDoor
namespace Go.Proofs.YtmnhgbkdahdoiaaGreatDoor
namespace EnS
open Go.Lib DnS

theorem mk_17 {q ys : List At} {k : Nat} (hk : k < ys.length) (h : (RuS.typeOf ys[k].typ).1 = []) : makeL q (ys.drop k) = ([], 17) := by
  rw [List.drop_eq_getElem_cons hk, makeL]
  have : makeA q ys[k] = ([], 17) := by unfold makeA; rw [if_pos h]
  rw [this, if_pos (by decide)]
theorem mk_19 {q ys : List At} {k : Nat} (hk : k < ys.length) (h : (RuS.typeOf ys[k].typ).1 ≠ []) (h0 : ys[k].vals = []) : makeL q (ys.drop k) = ([], 19) := by
  rw [List.drop_eq_getElem_cons hk, makeL]
  have : makeA q ys[k] = ([], 19) := by unfold makeA; rw [if_neg h, if_pos h0]
  rw [this, if_pos (by decide)]
theorem mk_bad {q ys : List At} {k : Nat} (hk : k < ys.length) (h : (RuS.typeOf ys[k].typ).1 ≠ []) (h0 : ys[k].vals ≠ []) {e : Int} (ha : addS (RuS.typeOf ys[k].typ).1 (valuesL q (RuS.typeOf ys[k].typ).1) ys[k].vals = ([], e)) (he : e ≠ 0) : makeL q (ys.drop k) = ([], e) := by
  rw [List.drop_eq_getElem_cons hk, makeL]
  have : makeA q ys[k] = ([], e) := by unfold makeA; rw [if_neg h, if_neg h0, ha, if_pos he]
  rw [this, if_pos he]
theorem mk_ok {q ys : List At} {k : Nat} (hk : k < ys.length) (h : (RuS.typeOf ys[k].typ).1 ≠ []) (h0 : ys[k].vals ≠ []) {l : List (List UInt8)} (ha : addS (RuS.typeOf ys[k].typ).1 (valuesL q (RuS.typeOf ys[k].typ).1) ys[k].vals = (l, 0)) : makeL q (ys.drop k) = makeL (setL (RuS.typeOf ys[k].typ).1 l q) (ys.drop (k + 1)) ∧ (soundA [] q = true → soundA [] (setL (RuS.typeOf ys[k].typ).1 l q) = true) := by
  have : makeA q ys[k] = (setL (RuS.typeOf ys[k].typ).1 l q, 0) := by unfold makeA; rw [if_neg h, if_neg h0, ha, if_neg (by simp)]
  refine ⟨?_, makeA_sound this⟩
  rw [List.drop_eq_getElem_cons hk, makeL, this, if_neg (by simp)]
theorem mk_end {q ys : List At} {k : Nat} (hk : ys.length ≤ k) : makeL q (ys.drop k) = (q, 0) := by rw [List.drop_eq_nil_of_le hk]; rfl
theorem makeS_34 {name : List UInt8} {ys : List At} (h : (normN name).2 ≠ 0 ∨ (normN name).1 = []) : makeS name ys = (⟨[], []⟩, 34) := by unfold makeS; rw [if_pos h]
theorem makeS_no {name : List UInt8} {ys : List At} (h : ¬ ((normN name).2 ≠ 0 ∨ (normN name).1 = [])) {e : Int} (hm : makeL [] ys = ([], e)) (he : e ≠ 0) : makeS name ys = (⟨[], []⟩, e) := by unfold makeS; rw [if_neg h, hm, if_pos he]
theorem makeS_yes {name : List UInt8} {ys : List At} (h : ¬ ((normN name).2 ≠ 0 ∨ (normN name).1 = [])) {q : List At} (hm : makeL [] ys = (q, 0)) : makeS name ys = doneS ⟨(normN name).1, q⟩ 64 := by unfold makeS; rw [if_neg h, hm, if_neg (by simp)]
theorem add_21 {t : List UInt8} {l vs : List (List UInt8)} {j : Nat} (hj : j < vs.length) (h : (valueS t vs[j]).2 ≠ 0) : addS t l (vs.drop j) = ([], 21) := by
  rw [List.drop_eq_getElem_cons hj, addS, if_pos h]
theorem add_20 {t : List UInt8} {l vs : List (List UInt8)} {j : Nat} (hj : j < vs.length) (h : (valueS t vs[j]).2 = 0) (h2 : withinS t l vs[j] = true) : addS t l (vs.drop j) = ([], 20) := by
  rw [List.drop_eq_getElem_cons hj, addS, if_neg (by simp [h]), if_pos h2]
theorem add_ok {t : List UInt8} {l vs : List (List UInt8)} {j : Nat} (hj : j < vs.length) (h : (valueS t vs[j]).2 = 0) (h2 : withinS t l vs[j] = false) : addS t l (vs.drop j) = addS t (l ++ [vs[j]]) (vs.drop (j + 1)) := by
  rw [List.drop_eq_getElem_cons hj, addS, if_neg (by simp [h]), if_neg (by simp [h2])]
theorem add_end {t : List UInt8} {l vs : List (List UInt8)} {j : Nat} (hj : vs.length ≤ j) : addS t l (vs.drop j) = (l, 0) := by rw [List.drop_eq_nil_of_le hj]; rfl
/-- values of a size that can be looked at -/
def FitQ (N : Nat) (q : List At) : Prop := ∀ a ∈ q, a.vals.length ≤ N ∧ ∀ v ∈ a.vals, v.length ≤ 1000000
theorem FitQ.set {N M : Nat} {q : List At} (h : FitQ N q) (hNM : N ≤ M) (t : List UInt8) {vs : List (List UInt8)} (hv : vs.length ≤ M) (hl : ∀ v ∈ vs, v.length ≤ 1000000) : FitQ M (setL t vs q) := by
  rw [setL_low]
  intro a ha
  rcases List.mem_append.1 ha with ha | ha
  · rcases List.mem_append.1 ha with ha | ha
    · have := h a (List.mem_of_mem_take ha)
      exact ⟨by omega, this.2⟩
    · cases vs with
      | nil => cases ha
      | cons v vs =>
        rw [show newL t (v :: vs) = [⟨t, v :: vs⟩] from rfl, List.mem_singleton] at ha
        subst ha
        exact ⟨hv, hl⟩
  · have := h a (List.mem_of_mem_drop ha)
    exact ⟨by omega, this.2⟩
theorem FitQ.values {N : Nat} {q : List At} (h : FitQ N q) (t : List UInt8) : (valuesL q t).length ≤ N ∧ ∀ v ∈ valuesL q t, v.length ≤ 1000000 := by
  induction q with
  | nil => exact ⟨Nat.zero_le _, fun v hv => by cases hv⟩
  | cons a r ih =>
    unfold valuesL
    split
    · exact h a (List.mem_cons_self ..)
    · exact ih (fun b hb => h b (List.mem_cons_of_mem _ hb))
theorem valuesS_type (n x : List UInt8) (q : List At) (h : (RuS.typeOf x).1 ≠ []) : valuesS ⟨n, q⟩ (RuS.typeOf x).1 = valuesL q (RuS.typeOf x).1 := by
  unfold valuesS; rw [type_type, if_neg h]
theorem type_len (x : List UInt8) : (RuS.typeOf x).1.length ≤ 1000 := by
  have h : ∀ y ∈ [] :: types14, y.length ≤ 1000 := by decide +kernel
  rcases type_in x with h1 | h1
  · rw [h1]; simp
  · exact h _ (List.mem_cons_of_mem _ h1)
end EnS
open Go.RowKit
theorem FitQ.fit {N : Nat} {q : List EnS.At} (h : EnS.FitQ N q) (hN : N ≤ 1048576) (hs : EnS.soundA [] q = true) : FitA q := by
  have := EnS.sound_count (last := []) (List.mem_cons_self ..) hs
  exact ⟨by omega, fun a ha => ⟨by have := (h a ha).1; omega, (h a ha).2⟩⟩
theorem namedR_norm {name : List UInt8} {xs : List EnS.At} (hn : DnS.normN name = (name, 0)) (h0 : name ≠ []) : namedR ⟨name, xs⟩ = EnS.namedS ⟨name, xs⟩ := by
  have ht : DnS.textsS name = ((DnS.textsS name).1, 0) := by
    have := congrArg Prod.snd hn
    unfold DnS.normN at this
    rw [← show (DnS.textsS name).2 = 0 from this]
  obtain ⟨l, hl, hm, _⟩ := DnS.textsS_spec ht
  unfold namedR
  show (decide ((DnS.nameS name).2 = 0) && decide ((DnS.nameS name).1 ≠ []) && EnS.namedS ⟨name, xs⟩) = _
  rw [hl]
  have hne : l ≠ [] := fun h => by
    rw [h] at hm
    have := congrArg Prod.fst hn
    unfold DnS.normN at this
    rw [hm] at this
    exact h0 this.symm
  simp [hne]
theorem any_take {p : EnS.At → Bool} {l : List EnS.At} {k : Nat} (hk : k < l.length) (b : Bool) (h : p l[k] = b) : (l.drop k).any p = (b || (l.drop (k + 1)).any p) := by
  rw [List.drop_eq_getElem_cons hk, List.any_cons, h]
set_option maxRecDepth 100000 in
set_option maxHeartbeats 1000000 in
theorem refmany_c (name : List UInt8) (xs : List EnS.At) (u : Value) (w : World) (h : AttrsIn w u xs) (hl : xs.length ≤ 1048576) :
    Calls Tryz.prog 31 #[.agg #[.string ⟨name.toArray⟩, u]] w (NmBool (EnS.manyB xs) w) := by
  have hb0 := grow1 w (.cells #[.string ⟨name.toArray⟩, u] 24)
  have hw0 := Whole.made w 24 #[.string ⟨name.toArray⟩, u]
  obtain ⟨a, c, rfl, hc, hat⟩ := SliceP.at h
  have HAT := Lib.hid hat
  have HAN := Lib.hid (fun k (hk : k < xs.length) b h => any_take (p := manyA) hk b h)
  have HP : Hid (∀ a : EnS.At, manyA a = decide (20 < a.vals.length)) := Lib.hid (fun _ => rfl)
  have HR0 : Hid (EnS.manyB xs = (xs.drop 0).any manyA) := Lib.hid rfl
  generalize EnS.manyB xs = R at *
  generalize manyA = p at *
  have q0 := hw0.cell 0
  have q1 := hw0.cell 1
  simp only [List.getElem?_toArray, List.getElem?_cons_zero, List.getElem?_cons_succ] at q0 q1
  clear hat h hw0
  go_enter Tryz.func31, Tryz.ntmps31
  go_wp2_with fail
  go_loop [7] (fun i => ∃ k : Nat, k ≤ xs.length ∧ i = .int .i64 k ∧ Hid (R = (xs.drop k).any p)) (fun i => xs.length - (intOf i).toNat)
  case atStart => exact ⟨0, Nat.zero_le _, rfl, HR0⟩
  case round =>
    obtain ⟨k, hk, rfl, HA⟩ := hrel
    by_cases hlt : k < xs.length
    · obtain ⟨g, o, rfl, hg, _, hra⟩ := HAT.out k hlt
      obtain ⟨c0, a2, p2, c1, hp2, _⟩ := AttrAt.parts (AttrAt.call hra hg trivial hb0)
      have HN := Lib.hid (fun b h => HAN.out k hlt b h)
      have HPX := HP.out (xs[k]'hlt)
      clear hra HAT HAN HP HR0
      generalize xs[k] = x at *
      obtain ⟨ty, vals⟩ := x
      simp only at c0 c1 hp2 HPX
      generalize vals.length = L at *
      have hl0 : (0 : Int) ≤ (k : Int) := by omega
      have hl1 : (k : Int) < (xs.length : Int) := by omega
      by_cases h20 : 20 < L
      · have hi : decide ((20 : Int) < (L : Int)) = true := decide_eq_true (by omega)
        have HR : Hid (R = true) := Lib.hid (by rw [HA.out, HN.out true (by rw [HPX]; exact decide_eq_true h20)]; rfl)
        clear HN HPX h20
        go_wp2_with fail
        go_ret
        exact ⟨by rw [HR.out]; rfl, hb0⟩
      · have hi : decide ((20 : Int) < (L : Int)) = false := decide_eq_false (by omega)
        have HR : Hid (R = (xs.drop (k + 1)).any p) := Lib.hid (by rw [HA.out, HN.out false (by rw [HPX]; exact decide_eq_false h20)]; rfl)
        clear HN HPX h20
        go_wp2_with fail
        go_round
        case rel => exact ⟨k + 1, by omega, by go_num, HR⟩
        case measure => simp [intOf]; omega
    · have HR : Hid (R = false) := Lib.hid (by rw [HA.out, List.drop_eq_nil_of_le (by omega)]; rfl)
      go_wp2_with fail
      go_ret
      exact ⟨by rw [HR.out]; rfl, hb0⟩
theorem SliceP.nth {α : Type} {k : Nat} {El : World → Nat → Nat → α → Prop} {ok : Nat → Prop} {w : World} {a : Option Addr} {n c : Nat} {xs : List α} (h : SliceP k El ok w (.slice a n c) xs) {j : Nat} (hj : j < xs.length) : ∃ g o, a = some ⟨g, o, none⟩ ∧ g < w.heap.size ∧ ok g ∧ El w g (o + j * k) (xs[j]'hj) := by
  obtain ⟨a', c', e, _, hat⟩ := SliceP.at h
  cases e
  exact hat j hj
end Go.Proofs.YtmnhgbkdahdoiaaGreatDoor
