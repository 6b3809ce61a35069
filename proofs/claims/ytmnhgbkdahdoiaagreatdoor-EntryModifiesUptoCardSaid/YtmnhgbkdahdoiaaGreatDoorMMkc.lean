/- The walk of the program's set. Conditions: an entry has at most 1048576 attributes, which are in order. The walks of an entry that is judged: slices.IndexFunc and ContainsFunc over attributes, the program's judge and done; the document's many. Conditions: those that each theorem states; the library's variables are laid. -/
import Derived.Test.YtmnhgbkdahdoiaaGreatDoorMMka
import Derived.Test.YtmnhgbkdahdoiaaGreatDoorMOwk
import Derived.Test.YtmnhgbkdahdoiaaGreatDoorMFmc
namespace Go.Proofs.YtmnhgbkdahdoiaaGreatDoor
open Go.RowKit
attribute [local go_sem ↓] Go.wp_at_zero Go.wp_at_succ

theorem AttrsE.ins {w : World} {C : Nat} {u : Value} {xs : List EnS.At} {Ts : List TypeId} (h : AttrsE Ts C w u xs) : AttrsIn w u xs :=
  SliceP.imp h (Nat.le_refl _) (fun _ _ h => h) fun _ _ _ _ _ hx => by obtain ⟨h1, u, h2, h3⟩ := hx; exact ⟨h1, u, h2, h3.any⟩
set_option maxRecDepth 100000 in
set_option maxHeartbeats 4000000 in
theorem enset_c (C : Nat) (name : List UInt8) (xs : List EnS.At) (u : Value) (t : List UInt8) (vs : List (List UInt8)) (v : Value) (w : World) (hC : C ≤ w.heap.size) (h : AttrsE [9] C w u xs) (hs : EnS.SortA xs) (hl : xs.length ≤ 1048576) (hv : StrsIn w v vs) (hvl : vs.length ≤ 1048576) :
    Calls Tryz.prog 25 #[.agg #[.string ⟨name.toArray⟩, u], .string ⟨t.toArray⟩, v] w (CopyRet C name (EnS.setL t vs xs) w) := by
  have hb0 := grow1 w (.cells #[.string ⟨name.toArray⟩, u] 24)
  have hw0 := Whole.made w 24 #[.string ⟨name.toArray⟩, u]
  have hg1 := grow1 (w.alloc (.cells #[.string ⟨name.toArray⟩, u] 24)) (.cells #[.string ⟨#[]⟩, .slice none 0 0] 24)
  have hb1 := below_trans hb0 hg1
  have hbz1 := hb1.size
  have hw1 := hw0.call hg1
  have hr1 := Whole.made (w.alloc (.cells #[.string ⟨name.toArray⟩, u] 24)) 24 #[.string ⟨#[]⟩, .slice none 0 0]
  have hmade : (w.alloc (.cells #[.string ⟨name.toArray⟩, u] 24)).heap.size = w.heap.size + 1 := by show (w.heap.push _).size = _; exact Array.size_push _
  rw [hmade] at hr1
  obtain ⟨a, c, rfl, hc⟩ := SliceP.form h
  obtain ⟨av, cv, rfl⟩ := hv.form
  have HIN := Lib.hid (fun W (hb : Below w.heap.size w W) => h.callT hb)
  have HVN := Lib.hid (fun W (hb : Below w.heap.size w W) => hv.call hb (Nat.le_refl _))
  have hbs := fun W hin => bsearch_c t xs (.slice a xs.length c) W hin hs hl
  unfold SrchRet at hbs
  have HSET := Lib.hid (EnS.setL_low t vs xs)
  have hll := EnS.low_le t xs
  have hel := EnS.end_le t xs
  have HEND : Hid (EnS.endN t xs = if EnS.hitB t xs = true then EnS.lowN t xs + 1 else EnS.lowN t xs) := Lib.hid rfl
  obtain ⟨i0, hi, hz0, hz1, hz2⟩ := info_parts infoAttr
  have HI := Lib.hid hi
  clear h hv hs hi hmade hb0 hw0 hg1
  generalize EnS.setL t vs xs = ZS at *
  generalize EnS.endN t xs = E at *
  generalize EnS.lowN t xs = M at *
  generalize EnS.hitB t xs = H at *
  have q1 := hw1.cell 1
  simp only [List.getElem?_toArray, List.getElem?_cons_zero, List.getElem?_cons_succ] at q1
  go_enter Tryz.func25, Tryz.ntmps25
  go_wp2_with fail
  refine (hbs _ (AttrsE.ins (HIN.out _ hb1))).mono ?_; rintro e w1 ⟨rfl, hb2⟩
  have hz1' := below_trans hb1 hb2
  have hw2 := hw1.call hb2
  have hr2 := hr1.call hb2
  clear hw1 hr1 hbs q1
  go_upto_if 19 with fail
  go_cut [9] (fun x wc => x = .int .i64 (E : Nat) ∧ wc = w1)
  case first =>
    cases H with
    | true =>
      have hE1 : (E : Int) = (M : Int) + 1 := by have := HEND.out; rw [if_pos rfl] at this; omega
      go_wp2_with fail
      go_meet
      exact ⟨by rw [hE1], rfl⟩
    | false =>
      have hE1 : E = M := by have := HEND.out; rwa [if_neg (by simp)] at this
      subst hE1
      go_wp2_with fail
      go_meet
      exact ⟨rfl, rfl⟩
  case rest =>
    obtain ⟨rfl, rfl⟩ := hcut
    have q1 := hw2.cell 1
    simp only [List.getElem?_toArray, List.getElem?_cons_zero, List.getElem?_cons_succ] at q1
    have hMc : M ≤ c := by omega
    have hM0 : (0 : Int) ≤ (M : Int) := by omega
    have hM1 : (M : Int) ≤ (c : Int) := by omega
    have hcl := cloneat_c [9] C (.slice a M c) (xs.take M) wc (SliceP.take (HIN.out _ hz1') hll) (by rw [List.length_take]; omega)
    unfold KRet at hcl
    go_wp2_with fail
    refine hcl.mono ?_; rintro e w2 ⟨v2, rfl, hown2, hb3⟩
    obtain ⟨w5, rfl⟩ : ∃ x, x = wc := ⟨_, rfl⟩
    have hy2 := below_trans hz1' hb3
    have hMl : (xs.take M).length = M := by rw [List.length_take]; omega
    have hC5 : C ≤ w5.heap.size := Nat.le_trans hC hz1'.size
    obtain ⟨a2, c2, rfl⟩ := hown2.form
    rw [hMl]
    rw [hMl] at hown2
    have hcs := clonestr_c (.slice av vs.length cv) vs w2 (HVN.out w2 hy2) hvl
    unfold OwnRet at hcs
    obtain ⟨VL, hVL⟩ : ∃ n, vs.length = n := ⟨_, rfl⟩
    rw [hVL] at hcs hvl HVN ⊢
    clear hcl HEND
    go_upto_if 29 with fail
    go_cut [10] (fun x wd => OwnK atK 37 [9] C wd w5.heap.size x (xs.take M ++ EnS.newL t vs) ∧ Below w5.heap.size w5 wd)
    case first =>
      by_cases hv0 : vs = []
      · have hVL0 : VL = 0 := by rw [← hVL, hv0]; rfl
        have hn : xs.take M ++ EnS.newL t vs = xs.take M := by rw [hv0]; exact List.append_nil _
        subst hVL0
        clear hv0
        go_wp2_with fail
        go_meet
        exact ⟨by rw [hn]; exact hown2, hb3⟩
      · have hn : EnS.newL t vs = [⟨t, vs⟩] := by cases vs with
          | nil => exact absurd rfl hv0
          | cons _ _ => rfl
        have hVp : 0 < VL := by rw [← hVL]; exact List.length_pos_iff.2 hv0
        clear hv0
        have hVi : decide ((0 : Int) < (VL : Int)) = true := decide_eq_true (by omega)
        go_wp2_with fail
        refine hcs.mono ?_; rintro e w3 ⟨v3, rfl, hown3, hb4⟩
        have hty := hown3.typed (Ts := [9]) (B := C) (List.mem_singleton.2 rfl)
        obtain ⟨a3, c3, rfl⟩ := hown3.form
        rw [hVL] at hty ⊢
        have hgA := grow1 w3 (.cells #[.string ⟨t.toArray⟩, .slice a3 VL c3] 37)
        have hwA := Whole.made w3 37 #[.string ⟨t.toArray⟩, .slice a3 VL c3]
        have hbA := (hb3.trans (hb4.mono hb3.size)).trans (hgA.mono (hb3.trans (hb4.mono hb3.size)).size)
        have hownA := (hown2.call hb4).call hgA
        have helA := StrsP.callT hty hgA
        have b0 := hwA.cell 0
        have b1 := hwA.cell 1
        have hsz := hbA.size
        simp only [List.getElem?_toArray, List.getElem?_cons_zero, List.getElem?_cons_succ] at b0 b1
        clear hown3 hown2 hty hwA
        go_wp2_with (at_builtin; refine push_k atK 37 22 [9] (by decide) Tryz.underlying22 HI.out hz0 hz1 hz2 (by rfl) (by rfl) _ _ (by rfl) w5.heap.size hC5 _ (xs.take M) (by rfl) hownA w3.heap.size (by rfl) ⟨t, vs⟩ _ b0 b1 helA (by omega) hsz ?_)
        intro v4 w4 hown4 hb5 hg5
        go_wp2_with fail
        go_meet
        exact ⟨by rw [hn]; exact hown4, hbA.trans hb5⟩
    case rest =>
      obtain ⟨hown4, hbc⟩ := hcut
      have hzc := below_trans hz1' hbc
      have hw4 := hw2.call hbc
      have hr4 := hr2.call hbc
      obtain ⟨a4, c4, rfl⟩ := hown4.form
      have q1 := hw4.cell 1
      have z1 := hw4.thaw 1
      simp only [List.getElem?_toArray, List.getElem?_cons_zero, List.getElem?_cons_succ] at q1
      have hE0 : (0 : Int) ≤ (E : Int) := by omega
      have hE1 : (E : Int) ≤ (xs.length : Int) := by omega
      have hE2 : (xs.length : Int) ≤ (c : Int) := by omega
      have hls : (xs.take M ++ EnS.newL t vs).length + (xs.drop E).length ≤ 1000000000 := by
        have h1 : (EnS.newL t vs).length ≤ 1 := by cases vs <;> simp [EnS.newL]
        rw [List.length_append, hMl, List.length_drop]; omega
      obtain ⟨YS, hYS⟩ : ∃ y, xs.take M ++ EnS.newL t vs = y := ⟨_, rfl⟩
      rw [hYS] at hown4 hls ⊢
      have HZ : Hid (ZS = YS ++ xs.drop E) := Lib.hid (by rw [HSET.out, hYS])
      obtain ⟨N4, hN4⟩ : ∃ n, YS.length = n := ⟨_, rfl⟩
      rw [hN4] at hown4 ⊢
      have h5c := hbc.size
      have hlw := hw2.lt
      have hlr := hr2.lt
      have hinD := SliceP.drop (HIN.out _ hzc) hel
      have hinN : c = E → SliceP 2 (AttrAt (okT [9] C wc)) (fun _ => True) wc (.slice a 0 0) (xs.drop E) := fun e => by
        have h1 : xs.drop E = [] := List.drop_eq_nil_of_le (by omega)
        rw [h1]
        exact SliceP.nil a _
      have hown5 : ∀ k : Nat, YS.length + (xs.drop E).length ≤ 1000000000 := fun _ => hls
      clear hw2 hr2 hown2 hcs HSET hYS hown5
      go_upto_region 8 with fail
      go_cut [42] (fun x wd => OwnK atK 37 [9] C wd w5.heap.size x ZS ∧ Whole wd w.heap.size 24 #[.string ⟨name.toArray⟩, x] ∧ Whole wd (w.heap.size + 1) 24 #[.string ⟨#[]⟩, .slice none 0 0] ∧ Below w.heap.size w wd)
      case first =>
        have hfin : ∀ (v6 : Value) (w6 : World), OwnK atK 37 [9] C w6 w5.heap.size v6 (YS ++ xs.drop E) → Below w5.heap.size w5 w6 → Whole w6 w.heap.size 24 #[.string ⟨name.toArray⟩, .slice a xs.length c] → Whole w6 (w.heap.size + 1) 24 #[.string ⟨#[]⟩, .slice none 0 0] → (OwnK atK 37 [9] C (w6.setCell ⟨w.heap.size, 1, none⟩ v6) w5.heap.size v6 ZS ∧ Whole (w6.setCell ⟨w.heap.size, 1, none⟩ v6) w.heap.size 24 #[.string ⟨name.toArray⟩, v6] ∧ Whole (w6.setCell ⟨w.heap.size, 1, none⟩ v6) (w.heap.size + 1) 24 #[.string ⟨#[]⟩, .slice none 0 0] ∧ Below w.heap.size w (w6.setCell ⟨w.heap.size, 1, none⟩ v6)) := fun v6 w6 h1 h2 h3 h4 => by
          rw [HZ.out]
          refine ⟨h1.other h3 hC (by decide) (by decide) 1 v6, ?_, h4.other (p := ⟨w.heap.size, 1, none⟩) (by show w.heap.size + 1 ≠ w.heap.size; omega) v6, (below_trans hz1' h2).setCell (p := ⟨w.heap.size, 1, none⟩) (Nat.le_refl _) _⟩
          have := h3.put 1 v6
          simpa only [List.setIfInBounds_toArray, List.set_cons_succ, List.set_cons_zero] using this
        have HFIN := Lib.hid hfin
        clear hfin
        by_cases hcE : c = E
        · have hin := hinN hcE
          subst hcE
          clear hinN hinD
          go_wp2_with (at_builtin; (refine push_ks atK 37 22 [9] (by decide) Tryz.underlying22 HI.out hz0 hz1 hz2 (by rfl) (by rfl) _ _ (by rfl) w5.heap.size hC5 _ YS (by rfl) hown4 _ (xs.drop c) (by rfl) hin (by omega) h5c ?_))
          intro v6 w6 hown6 hb6 hg6
          obtain ⟨a6, c6, rfl⟩ := hown6.form
          obtain ⟨N6, hN6⟩ : ∃ n, (YS ++ xs.drop c).length = n := ⟨_, rfl⟩
          rw [hN6] at hown6 ⊢
          have hb7 := hbc.trans hb6
          have hw6 := hw4.below hb6 hlw
          have hr6 := hr4.below hb6 hlr
          have hf := HFIN.out _ w6 hown6 hb7 hw6 hr6
          have z6 := hw6.thaw 1
          have y6 := hw6.cell 1
          simp only [List.getElem?_toArray, List.getElem?_cons_zero, List.getElem?_cons_succ] at y6
          go_wp2_with fail
          go_meet
          exact hf
        · have hcE0 : ¬ c - E = 0 := by omega
          have hin := hinD
          clear hinN hinD
          go_wp2_with (at_builtin; (refine push_ks atK 37 22 [9] (by decide) Tryz.underlying22 HI.out hz0 hz1 hz2 (by rfl) (by rfl) _ _ (by rfl) w5.heap.size hC5 _ YS (by rfl) hown4 _ (xs.drop E) (by rfl) hin (by omega) h5c ?_))
          intro v6 w6 hown6 hb6 hg6
          obtain ⟨a6, c6, rfl⟩ := hown6.form
          obtain ⟨N6, hN6⟩ : ∃ n, (YS ++ xs.drop E).length = n := ⟨_, rfl⟩
          rw [hN6] at hown6 ⊢
          have hb7 := hbc.trans hb6
          have hw6 := hw4.below hb6 hlw
          have hr6 := hr4.below hb6 hlr
          have hf := HFIN.out _ w6 hown6 hb7 hw6 hr6
          have z6 := hw6.thaw 1
          have y6 := hw6.cell 1
          simp only [List.getElem?_toArray, List.getElem?_cons_zero, List.getElem?_cons_succ] at y6
          go_wp2_with fail
          go_meet
          exact hf
      case rest =>
        obtain ⟨hown7, hw7, hr7, hz7⟩ := hcut
        obtain ⟨a7, c7, rfl⟩ := hown7.form
        have hC0 := hown7.mono (B' := w.heap.size) hz1'.size
        obtain ⟨N7, hN7⟩ : ∃ n, ZS.length = n := ⟨_, rfl⟩
        rw [hN7] at hown7 hw7 hC0 ⊢
        have q0 := hw7.cell 0
        have q2 := hw7.cell 1
        have r0 := hr7.cell 0
        have r1 := hr7.cell 1
        have s0 := hr7.thaw 0
        have s1 := hr7.thaw 1
        simp only [List.getElem?_toArray, List.getElem?_cons_zero, List.getElem?_cons_succ] at q0 q2 r0 r1
        have hA := hr7.put 0 (.string ⟨name.toArray⟩)
        have hoA := hC0.other hr7 (by omega) (by decide) (by decide) 0 (.string ⟨name.toArray⟩)
        simp only [List.setIfInBounds_toArray, List.set_cons_zero] at hA
        have hB := hA.put 1 (.slice a7 N7 c7)
        have hoB := hoA.other hA (by omega) (by decide) (by decide) 1 (.slice a7 N7 c7)
        simp only [List.setIfInBounds_toArray, List.set_cons_succ, List.set_cons_zero] at hB
        have hbB : Below w.heap.size w ((wc.setCell ⟨w.heap.size + 1, 0, none⟩ (.string ⟨name.toArray⟩)).setCell ⟨w.heap.size + 1, 1, none⟩ (.slice a7 N7 c7)) := (hz7.setCell (p := ⟨w.heap.size + 1, 0, none⟩) (by show w.heap.size ≤ w.heap.size + 1; omega) _).setCell (p := ⟨w.heap.size + 1, 1, none⟩) (by show w.heap.size ≤ w.heap.size + 1; omega) _
        have y0 := hB.cell 0
        have y1 := hB.cell 1
        simp only [List.getElem?_toArray, List.getElem?_cons_zero, List.getElem?_cons_succ] at y0 y1
        clear q1 z1 hown4 hinD hinN hw4 hr4
        go_wp2_with fail
        (try simp only [Exit.inBlock, Exit.then])
        refine bodyPost_ret (v := .agg #[.string ⟨name.toArray⟩, .slice a7 N7 c7]) ?_ rfl ⟨_, rfl, hoB, hbB⟩
        clear hA hoA hB hoB hbB hC0 hown7 hw7 hr7 hz7
        generalize (wc.setCell ⟨w.heap.size + 1, 0, none⟩ (.string ⟨name.toArray⟩)).setCell ⟨w.heap.size + 1, 1, none⟩ (.slice a7 N7 c7) = wf at *
        rw [results_cell1 rfl]
        go_simp
end Go.Proofs.YtmnhgbkdahdoiaaGreatDoor
namespace Go.Proofs.YtmnhgbkdahdoiaaGreatDoor
open Go.RowKit

/-- has an attribute too many values? -/
def manyA (a : EnS.At) : Bool := decide (20 < a.vals.length)
set_option maxRecDepth 100000 in
theorem manyclo_c (ty : List UInt8) (a : Option Addr) (n c : Nat) (w : World) : Calls Tryz.prog 79 #[.agg #[.string ⟨ty.toArray⟩, .slice a n c]] w (NmBool (decide (20 < n)) w) := by
  have hbx := grow1 w (.cells #[.string ⟨ty.toArray⟩, .slice a n c] 37)
  have hwx := Whole.made w 37 #[.string ⟨ty.toArray⟩, .slice a n c]
  have q1 := hwx.cell 1
  simp only [List.getElem?_toArray, List.getElem?_cons_zero, List.getElem?_cons_succ] at q1
  have hd : decide ((20 : Int) < (n : Int)) = decide (20 < n) := decide_eq_decide.2 (by omega)
  generalize decide (20 < n) = D at *
  clear hwx
  go_enter Tryz.func79, Tryz.ntmps79
  go_wp2_with fail
  go_ret
  exact ⟨rfl, hbx⟩
set_option maxRecDepth 100000 in
theorem idxmany_c (v : Value) (xs : List EnS.At) (w : World) (h : AttrsIn w v xs) (hl : xs.length ≤ 1048576) :
    Calls Tryz.prog 109 #[v, .func (.func 79) #[] #[]] w (IdxRetI (xs.findIdx? manyA) w) := by
  obtain ⟨a, c, rfl, hc, hat⟩ := SliceP.at h
  have HAT := Lib.hid hat
  have HFND := Lib.hid (fun k (hk : k < xs.length) => idx_found (p := manyA) hk)
  have HNON := Lib.hid (idx_none (p := manyA) (xs := xs))
  have HTM := Lib.hid (fun k (hk : k < xs.length) => take_miss (p := manyA) hk)
  have HP : Hid (∀ a : EnS.At, manyA a = decide (20 < a.vals.length)) := Lib.hid (fun _ => rfl)
  generalize xs.findIdx? manyA = R at *
  generalize manyA = p at *
  clear hat h
  generalize hnn : xs.length = m at hc hl ⊢
  have HN := Lib.hid hnn
  clear hnn
  go_enter Tryz.func109, Tryz.ntmps109
  go_wp2_with fail
  go_loopw [8] (fun i wr => ∃ k : Nat, k ≤ m ∧ i = .int .i64 k ∧ Hid (∀ x ∈ xs.take k, p x = false) ∧ Below w.heap.size w wr) (fun i _ => m - (intOf i).toNat)
  case atStart => exact ⟨0, Nat.zero_le _, rfl, Lib.hid (fun x hx => by cases hx), Below.refl _ _⟩
  case round =>
    obtain ⟨k, hk, rfl, HA, hb⟩ := hrel
    by_cases hlt : k < m
    · have hlt2 : k < xs.length := by rw [HN.out]; exact hlt
      obtain ⟨g, o, rfl, hg, _, hra⟩ := HAT.out k hlt2
      obtain ⟨c0, a2, p2, c1, hp2, _⟩ := AttrAt.parts (AttrAt.call hra hg trivial hb)
      have HF := Lib.hid (HFND.out k hlt2 HA.out)
      have HT := Lib.hid (HTM.out k hlt2 HA.out)
      have HPX := HP.out (xs[k]'hlt2)
      generalize xs[k] = x at *
      obtain ⟨ty, vals⟩ := x
      simp only at c0 c1 hp2 HPX
      generalize vals.length = L at *
      have hcl := manyclo_c ty a2 L p2 wr
      unfold NmBool at hcl
      rw [← HPX] at hcl
      clear hra hlt2 HFND HNON HTM HP HPX
      cases hq : p ⟨ty, vals⟩ with
      | true =>
        have HR := Lib.hid (HF.out hq)
        rw [hq] at hcl
        clear hq HF HT
        go_wp2_with fail
        refine hcl.mono ?_; rintro e w1 ⟨rfl, hb1⟩
        go_wp2_with fail
        go_ret
        exact ⟨by rw [HR.out]; rfl, hb.trans (hb1.mono hb.size)⟩
      | false =>
        have HR := Lib.hid (HT.out hq)
        rw [hq] at hcl
        clear hq HF HT
        go_wp2_with fail
        refine hcl.mono ?_; rintro e w1 ⟨rfl, hb1⟩
        go_wp2_with fail
        go_roundw
        case rel => exact ⟨k + 1, by omega, by go_num, HR, hb.trans (hb1.mono hb.size)⟩
        case measure => simp [intOf]; omega
    · have HALL : Hid (R = none) := Lib.hid (HNON.out (by have := HA.out; rwa [List.take_of_length_le (by rw [HN.out]; omega)] at this))
      go_wp2_with fail
      go_ret
      exact ⟨by rw [HALL.out]; rfl, hb⟩
set_option maxRecDepth 100000 in
theorem hasmany_c (v : Value) (xs : List EnS.At) (w : World) (h : AttrsIn w v xs) (hl : xs.length ≤ 1048576) :
    Calls Tryz.prog 78 #[v, .func (.func 79) #[] #[]] w (NmBool (EnS.manyB xs) w) := by
  have hi := idxmany_c v xs w h hl
  unfold IdxRetI at hi
  have HR : Hid (EnS.manyB xs = (xs.findIdx? manyA).isSome) := Lib.hid (by rw [find_any2]; rfl)
  generalize EnS.manyB xs = R at *
  generalize xs.findIdx? manyA = I at *
  have HI := Lib.hid (idx_has I)
  generalize idxI I = z at *
  obtain ⟨a, c, rfl, _⟩ := SliceP.form h
  go_enter Tryz.func78, Tryz.ntmps78
  go_wp2_with fail
  refine hi.mono ?_; rintro e w1 ⟨rfl, hb1⟩
  go_wp2_with fail
  go_ret
  exact ⟨by rw [HR.out, ← HI.out]; rfl, hb1⟩
theorem judge_many {e : EnS.En} {n : Int} (h : EnS.manyB e.attrs = true) : EnS.judgeS e n = 19 := by unfold EnS.judgeS; rw [if_pos h]
theorem judge_class {e : EnS.En} {n : Int} (h : EnS.manyB e.attrs = false) (k : EnS.valuesS e EnS.tClass = []) : EnS.judgeS e n = 65 := by unfold EnS.judgeS; rw [h, if_neg (by simp), if_pos k]
theorem judge_named {e : EnS.En} {n : Int} (h : EnS.manyB e.attrs = false) (k : EnS.valuesS e EnS.tClass ≠ []) (m : EnS.namedS e = true) : EnS.judgeS e n = 0 := by unfold EnS.judgeS; rw [h, if_neg (by simp), if_neg k, if_pos m]
theorem judge_naming {e : EnS.En} {n : Int} (h : EnS.manyB e.attrs = false) (k : EnS.valuesS e EnS.tClass ≠ []) (m : EnS.namedS e = false) : EnS.judgeS e n = n := by unfold EnS.judgeS; rw [h, if_neg (by simp), if_neg k, m, if_neg (by simp)]
set_option maxRecDepth 100000 in
set_option maxHeartbeats 1000000 in
theorem judge_c (name : List UInt8) (xs : List EnS.At) (u : Value) (n : Int) (w : World) (hE : Env w) (hu : AttrsIn w u xs) (hf : FitA xs) (hn : name.length ≤ 1000000) :
    Calls Tryz.prog 51 #[.agg #[.string ⟨name.toArray⟩, u], .int .i64 n] w (NmNum (EnS.judgeS ⟨name, xs⟩ n) w) := by
  have hb0 := grow1 w (.cells #[.string ⟨name.toArray⟩, u] 24)
  have hw0 := Whole.made w 24 #[.string ⟨name.toArray⟩, u]
  have hmn := hasmany_c u xs _ (hu.call hb0) hf.1
  have hvl := fun W hb => values_c name xs u EnS.tClass W (hu.call (w' := W) hb) hf (by decide)
  have hnd := fun W (hb : Below w.heap.size w W) => ennamed_c name xs u W (hE.below hb) (hu.call hb) hf hn
  have HJ1 := Lib.hid (fun h => judge_many (e := ⟨name, xs⟩) (n := n) h)
  have HJ2 := Lib.hid (fun h k => judge_class (e := ⟨name, xs⟩) (n := n) h k)
  have HJ3 := Lib.hid (fun h k m => judge_named (e := ⟨name, xs⟩) (n := n) h k m)
  have HJ4 := Lib.hid (fun h k m => judge_naming (e := ⟨name, xs⟩) (n := n) h k m)
  unfold NmBool at hmn hnd
  unfold OwnRet at hvl
  unfold EnS.tClass at hvl
  simp only at HJ1 HJ2 HJ3 HJ4
  have hcl : EnS.valuesS ⟨name, xs⟩ [111, 98, 106, 101, 99, 116, 67, 108, 97, 115, 115] = EnS.valuesS ⟨name, xs⟩ EnS.tClass := rfl
  rw [hcl] at hvl
  clear hcl
  generalize EnS.judgeS ⟨name, xs⟩ n = J at *
  generalize EnS.valuesS ⟨name, xs⟩ EnS.tClass = V at *
  generalize EnS.namedS ⟨name, xs⟩ = D at *
  generalize EnS.manyB xs = B at *
  obtain ⟨a, c, rfl, _⟩ := SliceP.form hu
  generalize xs.length = L at *
  have q0 := hw0.cell 0
  have q1 := hw0.cell 1
  simp only [List.getElem?_toArray, List.getElem?_cons_zero, List.getElem?_cons_succ] at q0 q1
  go_enter Tryz.func51, Tryz.ntmps51
  go_wp2_with fail
  refine hmn.mono ?_; rintro e w1 ⟨rfl, hb1⟩
  have hz1 := below_trans hb0 hb1
  have r0 := keepC q0 hb1
  have r1 := keepC q1 hb1
  cases B with
  | true =>
    have hJ := HJ1.out rfl
    subst hJ
    go_wp2_with fail
    go_ret
    exact ⟨rfl, hz1⟩
  | false =>
    have HJ2' := Lib.hid (HJ2.out rfl)
    have HJ3' := Lib.hid (HJ3.out rfl)
    have HJ4' := Lib.hid (HJ4.out rfl)
    clear HJ1 HJ2 HJ3 HJ4
    go_wp2_with fail
    refine (hvl _ hz1).mono ?_; rintro e w2 ⟨v2, rfl, hown, hb2⟩
    have hz2 := below_trans hz1 hb2
    have s0 := keepC r0 hb2
    have s1 := keepC r1 hb2
    obtain ⟨a2, c2, rfl⟩ := hown.form
    clear hown hvl hmn
    cases V with
    | nil =>
      have hJ := HJ2'.out rfl
      subst hJ
      go_wp2_with fail
      go_ret
      exact ⟨rfl, hz2⟩
    | cons v0 vr =>
      have hlz : (((v0 :: vr).length : Int) == 0) = false := by simp; omega
      have HJ3'' := Lib.hid (HJ3'.out (by simp))
      have HJ4'' := Lib.hid (HJ4'.out (by simp))
      clear HJ2' HJ3' HJ4'
      generalize (v0 :: vr).length = VL at *
      go_wp2_with fail
      refine (hnd _ hz2).mono ?_; rintro e w3 ⟨rfl, hb3⟩
      have hz3 := below_trans hz2 hb3
      cases D with
      | true =>
        have hJ := HJ3''.out rfl
        subst hJ
        go_wp2_with fail
        go_ret
        exact ⟨rfl, hz3⟩
      | false =>
        have hJ := HJ4''.out rfl
        subst hJ
        go_wp2_with fail
        go_ret
        exact ⟨rfl, hz3⟩
/-- what comes back of making an entry: the entry, its attributes a row of the call's own, and a code -/
def MakeRet (C : Nat) (r : EnS.En × Int) (w : World) (e : Ending) (w' : World) : Prop := ∃ u, e = .returned (.tuple #[.agg #[.string ⟨r.1.name.toArray⟩, u], .int .i64 r.2]) ∧ OwnK atK 37 [9] C w' w.heap.size u r.1.attrs ∧ Below w.heap.size w w'
theorem done_yes {e : EnS.En} {n : Int} (h : EnS.judgeS e n = 0) : EnS.doneS e n = (e, 0) := by unfold EnS.doneS; rw [if_pos h]
theorem done_no {e : EnS.En} {n : Int} (h : EnS.judgeS e n ≠ 0) : EnS.doneS e n = (⟨[], []⟩, EnS.judgeS e n) := by unfold EnS.doneS; rw [if_neg h]
theorem MakeRet.no {C : Nat} {r : EnS.En × Int} {n : Int} {w w' : World} (h : r = (⟨[], []⟩, n)) (hb : Below w.heap.size w w') : MakeRet C r w (.returned (.tuple #[.agg #[.string ⟨#[]⟩, .slice none 0 0], .int .i64 n])) w' := by
  subst h; exact ⟨_, rfl, OwnK.empty _ _ _ _ _ _, hb⟩
set_option maxRecDepth 100000 in
set_option maxHeartbeats 1000000 in
theorem done_c (C : Nat) (name : List UInt8) (xs : List EnS.At) (u : Value) (n : Int) (w : World) (hC : C ≤ w.heap.size) (hE : Env w) (hu : AttrsE [9] C w u xs) (hf : FitA xs) (hn : name.length ≤ 1000000) :
    Calls Tryz.prog 26 #[.agg #[.string ⟨name.toArray⟩, u], .int .i64 n] w (MakeRet C (EnS.doneS ⟨name, xs⟩ n) w) := by
  have hb0 := grow1 w (.cells #[.string ⟨name.toArray⟩, u] 24)
  have hw0 := Whole.made w 24 #[.string ⟨name.toArray⟩, u]
  have hg1 := grow1 (w.alloc (.cells #[.string ⟨name.toArray⟩, u] 24)) (.cells #[.string ⟨#[]⟩, .slice none 0 0] 24)
  have hb1 := below_trans hb0 hg1
  have hbz1 := hb1.size
  have hw1 := hw0.call hg1
  have hr1 := Whole.made (w.alloc (.cells #[.string ⟨name.toArray⟩, u] 24)) 24 #[.string ⟨#[]⟩, .slice none 0 0]
  have hmade : (w.alloc (.cells #[.string ⟨name.toArray⟩, u] 24)).heap.size = w.heap.size + 1 := by show (w.heap.push _).size = _; exact Array.size_push _
  rw [hmade] at hr1
  have hjd := judge_c name xs u n _ (hE.below hb1) (AttrsE.ins (hu.callT hb1)) hf hn
  have hcp := fun W (hb : Below w.heap.size w W) => encopy_c C name xs u W (Nat.le_trans hC hb.size) (hu.callT hb) hf
  have HY := Lib.hid (fun h => done_yes (e := ⟨name, xs⟩) (n := n) h)
  have HNo := Lib.hid (fun h => done_no (e := ⟨name, xs⟩) (n := n) h)
  unfold NmNum at hjd
  unfold CopyRet at hcp
  obtain ⟨a, c, rfl, hc⟩ := SliceP.form hu
  clear hu hf hE hmade hb0 hg1 hw0
  generalize EnS.judgeS ⟨name, xs⟩ n = J at *
  generalize EnS.doneS ⟨name, xs⟩ n = R at *
  have q0 := hw1.cell 0
  have q1 := hw1.cell 1
  simp only [List.getElem?_toArray, List.getElem?_cons_zero, List.getElem?_cons_succ] at q0 q1
  go_enter Tryz.func26, Tryz.ntmps26
  go_wp2_with fail
  refine hjd.mono ?_; rintro e w1 ⟨rfl, hb2⟩
  have hz1 := below_trans hb1 hb2
  have hw2 := hw1.call hb2
  have hr2 := hr1.call hb2
  have s0 := hw2.cell 0
  have s1 := hw2.cell 1
  simp only [List.getElem?_toArray, List.getElem?_cons_zero, List.getElem?_cons_succ] at s0 s1
  clear hw1 hr1 hjd q0 q1
  by_cases h0 : J = 0
  · have HR := HY.out h0
    subst HR
    subst h0
    go_wp2_with fail
    refine (hcp _ hz1).mono ?_; rintro e w2 ⟨u2, rfl, hown, hb3⟩
    have hz2 := below_trans hz1 hb3
    have hr3 := hr2.call hb3
    obtain ⟨a2, c2, rfl⟩ := hown.form
    have t0 := hr3.thaw 0
    have t1 := hr3.thaw 1
    have r0 := hr3.cell 0
    have r1 := hr3.cell 1
    simp only [List.getElem?_toArray, List.getElem?_cons_zero, List.getElem?_cons_succ] at r0 r1
    have hA := hr3.put 0 (.string ⟨name.toArray⟩)
    have hoA := hown.other hr3 (by omega) (by decide) (by decide) 0 (.string ⟨name.toArray⟩)
    simp only [List.setIfInBounds_toArray, List.set_cons_zero] at hA
    have hB := hA.put 1 (.slice a2 xs.length c2)
    have hoB := hoA.other hA (by omega) (by decide) (by decide) 1 (.slice a2 xs.length c2)
    simp only [List.setIfInBounds_toArray, List.set_cons_succ, List.set_cons_zero] at hB
    have hbB : Below w.heap.size w ((w2.setCell ⟨w.heap.size + 1, 0, none⟩ (.string ⟨name.toArray⟩)).setCell ⟨w.heap.size + 1, 1, none⟩ (.slice a2 xs.length c2)) := (hz2.setCell (p := ⟨w.heap.size + 1, 0, none⟩) (by show w.heap.size ≤ w.heap.size + 1; omega) _).setCell (p := ⟨w.heap.size + 1, 1, none⟩) (by show w.heap.size ≤ w.heap.size + 1; omega) _
    have y0 := hB.cell 0
    have y1 := hB.cell 1
    simp only [List.getElem?_toArray, List.getElem?_cons_zero, List.getElem?_cons_succ] at y0 y1
    have hoC := hoB.mono (B' := w.heap.size) hz1.size
    go_wp2_with fail
    (try simp only [Exit.inBlock, Exit.then])
    refine bodyPost_ret (v := .tuple #[.agg #[.string ⟨name.toArray⟩, .slice a2 xs.length c2], .int .i64 0]) ?_ rfl ⟨_, rfl, hoC, hbB⟩
    clear hA hoA hB hoB hoC hbB hown hr3 hz2
    generalize (w2.setCell ⟨w.heap.size + 1, 0, none⟩ (.string ⟨name.toArray⟩)).setCell ⟨w.heap.size + 1, 1, none⟩ (.slice a2 xs.length c2) = wf at *
    rw [results_cell_tmp rfl]
    go_simp
  · have HR := HNo.out h0
    have hJz : (J == 0) = false := by simpa using h0
    clear h0
    have t0 := hr2.thaw 0
    have t1 := hr2.thaw 1
    have r0 := hr2.cell 0
    have r1 := hr2.cell 1
    simp only [List.getElem?_toArray, List.getElem?_cons_zero, List.getElem?_cons_succ] at r0 r1
    have hA := hr2.put 0 (.string ⟨#[]⟩)
    simp only [List.setIfInBounds_toArray, List.set_cons_zero] at hA
    have hB := hA.put 1 (.slice none 0 0)
    simp only [List.setIfInBounds_toArray, List.set_cons_succ, List.set_cons_zero] at hB
    have hbB : Below w.heap.size w ((w1.setCell ⟨w.heap.size + 1, 0, none⟩ (.string ⟨#[]⟩)).setCell ⟨w.heap.size + 1, 1, none⟩ (.slice none 0 0)) := (hz1.setCell (p := ⟨w.heap.size + 1, 0, none⟩) (by show w.heap.size ≤ w.heap.size + 1; omega) _).setCell (p := ⟨w.heap.size + 1, 1, none⟩) (by show w.heap.size ≤ w.heap.size + 1; omega) _
    have y0 := hB.cell 0
    have y1 := hB.cell 1
    simp only [List.getElem?_toArray, List.getElem?_cons_zero, List.getElem?_cons_succ] at y0 y1
    go_wp2_with fail
    (try simp only [Exit.inBlock, Exit.then])
    refine bodyPost_ret (v := .tuple #[.agg #[.string ⟨#[]⟩, .slice none 0 0], .int .i64 J]) ?_ rfl (MakeRet.no HR hbB)
    rw [results_cell_tmp rfl]
    go_simp
end Go.Proofs.YtmnhgbkdahdoiaaGreatDoor
