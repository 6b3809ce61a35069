/- The walks of what a subject sees of an entry: the program's Part and One. Conditions: those that each theorem states; the library's variables are laid. -/
import Derived.Test.YtdcljilfnkmloaaGreatDoorSVia
import Derived.Test.YtdcljilfnkmloaaGreatDoorSCqa
namespace Go.Proofs.YtdcljilfnkmloaaGreatDoor
open Go.RowKit

/-- an entry and whether it is one -/
def PartVRet (C : Nat) (b : Bool) (name : List UInt8) (xs : List EnS.At) (w : World) (e : Ending) (w' : World) : Prop :=
  (b = true ∧ ∃ u, e = .returned (.tuple #[.agg #[.string ⟨name.toArray⟩, u], .bool true]) ∧ OwnK atK 51 [9] C w' w.heap.size u xs ∧ Below w.heap.size w w')
  ∨ (b = false ∧ e = .returned (.tuple #[.agg #[.string ⟨#[]⟩, .slice none 0 0], .bool false]) ∧ Below w.heap.size w w')
theorem filt_yes {α : Type} {p : α → Bool} {l : List α} {k : Nat} (hk : k < l.length) (h : p l[k] = true) : (l.take (k + 1)).filter p = (l.take k).filter p ++ [l[k]] := by
  rw [List.take_succ_eq_append_getElem hk, List.filter_append, List.filter_cons, if_pos h, List.filter_nil]
theorem filt_no {α : Type} {p : α → Bool} {l : List α} {k : Nat} (hk : k < l.length) (h : p l[k] = false) : (l.take (k + 1)).filter p = (l.take k).filter p := by
  rw [List.take_succ_eq_append_getElem hk, List.filter_append, List.filter_cons, if_neg (by rw [h]; simp), List.filter_nil, List.append_nil]
theorem FitA.filter {xs : List EnS.At} (h : FitA xs) (p : EnS.At → Bool) : FitA (xs.filter p) := ⟨Nat.le_trans (List.length_filter_le _ _) h.1, fun x hx => h.2 x (List.mem_filter.1 hx).1⟩
theorem AttrAt.partsT {w : World} {C g o : Nat} {x : EnS.At} {Ts : List TypeId} (h : AttrAt (okT Ts C w) w g o x) : w.cell? ⟨g, o, none⟩ = some (.string ⟨x.typ.toArray⟩) ∧ ∃ a c, w.cell? ⟨g, o + 1, none⟩ = some (.slice a x.vals.length c) ∧ x.vals.length ≤ c ∧ StrsP (okT Ts C w) w (.slice a x.vals.length c) x.vals := by
  obtain ⟨h1, u, h2, h3⟩ := h
  obtain ⟨a, c, rfl, hc⟩ := SliceP.form h3
  exact ⟨h1, a, c, h2, hc, h3⟩
set_option maxRecDepth 100000 in
set_option maxHeartbeats 4000000 in
theorem vpart_c (C : Nat) (name : List UInt8) (r0 : List (List UInt8)) (hr0 : PartsOk r0) (hnm : DnS.joinS r0 = name) (xs : List EnS.At) (u v : Value) (rl : List PoS.Rl) (subject : List UInt8) (w : World) (hC : C ≤ w.heap.size) (h : AttrsE [9] C w u xs) (hf : FitA xs)
    (ht : ∀ x ∈ xs, x.typ.length ≤ 100000) (hr : RulesIn w v rl) (hs : ∀ r ∈ rl, SmallR r) (hl : rl.length ≤ 1000000) (q1 : subject.length ≤ 100000) (hE : Env w) :
    Calls Tryz.prog 83 #[.agg #[.string ⟨name.toArray⟩, u], v, .string ⟨subject.toArray⟩] w (PartVRet C (EnS.seenT rl subject r0) name (xs.filter (fun a => PoS.decideS rl subject 1 name a.typ)) w) := by
  have hb0 := grow1 w (.cells #[.string ⟨name.toArray⟩, u] 26)
  have hw0 := Whole.made w 26 #[.string ⟨name.toArray⟩, u]
  have hg1 := grow1 (w.alloc (.cells #[.string ⟨name.toArray⟩, u] 26)) (.cells #[.string ⟨#[]⟩, .slice none 0 0] 26)
  have hb1 := below_trans hb0 hg1
  have hw1 := hw0.call hg1
  have hr1 := Whole.made (w.alloc (.cells #[.string ⟨name.toArray⟩, u] 26)) 26 #[.string ⟨#[]⟩, .slice none 0 0]
  have hnl : name.length ≤ 1000 := by rw [← hnm]; exact hr0.2.1
  have hse := fun w h hE => seen_c v rl subject r0 hr0 w hE h hs hl q1
  rw [hnm] at hse
  unfold NmBool at hse
  have HD := Lib.hid (fun k (hk : k < xs.length) w h hE => polDecide_c v rl subject name (xs[k]'hk).typ 1 w h hs hl q1 (by omega) (ht _ (List.getElem_mem hk)) hE)
  have HY := Lib.hid (fun k (hk : k < xs.length) => filt_yes (p := fun a : EnS.At => PoS.decideS rl subject 1 name a.typ) (l := xs) hk)
  have HNo := Lib.hid (fun k (hk : k < xs.length) => filt_no (p := fun a : EnS.At => PoS.decideS rl subject 1 name a.typ) (l := xs) hk)
  have HTL := Lib.hid (fun k => show ((xs.take k).filter (fun a : EnS.At => PoS.decideS rl subject 1 name a.typ)).length ≤ 1048576 from Nat.le_trans (List.length_filter_le _ _) (Nat.le_trans (by rw [List.length_take]; omega) hf.1))
  have HFI := Lib.hid (hf.filter (fun a => PoS.decideS rl subject 1 name a.typ))
  unfold NmBool at HD
  obtain ⟨a, c, rfl, hc, hat⟩ := SliceP.at h
  have hm1 : (w.alloc (.cells #[.string ⟨name.toArray⟩, .slice a xs.length c] 26)).heap.size = w.heap.size + 1 := by show (w.heap.push _).size = _; exact Array.size_push _
  rw [hm1] at hr1
  have HAT := Lib.hid hat
  obtain ⟨i0, hi, hz0, hz1, hz2⟩ := info_parts infoAttr
  have HI := Lib.hid hi
  have hx1 := hr.call hb1 (Nat.le_refl _)
  have hE1 := hE.below hb1
  have hse1 := hse _ hx1 hE1
  have hxl : xs.length ≤ 1048576 := hf.1
  clear hat h hf ht hs hl q1 hi hse hr0 hb0 hw0 hg1 hx1 hE1 hnm
  generalize hgn : (fun a : EnS.At => PoS.decideS rl subject 1 name a.typ) = P at *
  have HP : Hid (∀ a : EnS.At, PoS.decideS rl subject 1 name a.typ = P a) := Lib.hid (fun a => by rw [← hgn])
  clear hgn
  generalize EnS.seenT rl subject r0 = SN at *
  obtain ⟨vr, vc, rfl⟩ := hr.form
  have q0 := hw1.cell 0
  simp only [List.getElem?_toArray, List.getElem?_cons_zero] at q0
  have s0 := hr1.thaw 0
  have s1 := hr1.thaw 1
  go_enter Tryz.func83, Tryz.ntmps83
  go_wp2_with fail
  refine hse1.mono ?_; rintro e w1 ⟨rfl, hb2⟩
  have hw2 := hw1.call hb2
  have hr2 := hr1.call hb2
  have hbx := below_trans hb1 hb2
  clear hse1 hw1 hr1 hb1 q0
  have q0 := hw2.cell 0
  have q1 := hw2.cell 1
  have t0 := hr2.cell 0
  have t1 := hr2.cell 1
  have s0 := hr2.thaw 0
  have s1 := hr2.thaw 1
  simp only [List.getElem?_toArray, List.getElem?_cons_zero, List.getElem?_cons_succ] at q0 q1 t0 t1
  cases SN with
  | false =>
    have hA := hr2.put 0 (.string ⟨#[]⟩)
    simp only [List.setIfInBounds_toArray, List.set_cons_zero] at hA
    have hB := hA.put 1 (.slice none 0 0)
    simp only [List.setIfInBounds_toArray, List.set_cons_succ, List.set_cons_zero] at hB
    have hbB : Below w.heap.size w ((w1.setCell ⟨w.heap.size + 1, 0, none⟩ (.string ⟨#[]⟩)).setCell ⟨w.heap.size + 1, 1, none⟩ (.slice none 0 0)) := (hbx.setCell (p := ⟨w.heap.size + 1, 0, none⟩) (by show w.heap.size ≤ w.heap.size + 1; omega) _).setCell (p := ⟨w.heap.size + 1, 1, none⟩) (by show w.heap.size ≤ w.heap.size + 1; omega) _
    have y0 := hB.cell 0
    have y1 := hB.cell 1
    simp only [List.getElem?_toArray, List.getElem?_cons_zero, List.getElem?_cons_succ] at y0 y1
    go_wp2_with fail
    (try simp only [Exit.inBlock, Exit.then])
    refine bodyPost_ret (v := .tuple #[.agg #[.string ⟨#[]⟩, .slice none 0 0], .bool false]) ?_ rfl (.inr ⟨rfl, rfl, hbB⟩)
    rw [results_cell_tmp rfl]
    go_simp
  | true =>
  have hgo := grow1 w1 (.cells #[.string ⟨name.toArray⟩, .slice none 0 0] 26)
  have ho3 := Whole.made w1 26 #[.string ⟨name.toArray⟩, .slice none 0 0]
  have hw3 := hw2.call hgo
  have hr3 := hr2.call hgo
  have hb3 := below_trans hbx hgo
  have hne : w.heap.size + 1 < w1.heap.size := hr2.lt
  clear hw2 hr2 hbx hgo s0 s1 t0 t1 q1
  have q1 := hw3.cell 1
  simp only [List.getElem?_toArray, List.getElem?_cons_zero, List.getElem?_cons_succ] at q1
  go_wp2_with fail
  have HRL := Lib.hid (fun W (hb : Below w.heap.size w W) => hr.call hb (Nat.le_refl _))
  have HEN := Lib.hid (fun W (hb : Below w.heap.size w W) => hE.below hb)
  clear hr hE
  generalize w1.heap.size = bo at *
  go_loopw [24] (fun i wr => ∃ (k : Nat) (y : Value), k ≤ xs.length ∧ i = .int .i64 k ∧ OwnK atK 51 [9] C wr w.heap.size y ((xs.take k).filter P) ∧ Whole wr bo 26 #[.string ⟨name.toArray⟩, y] ∧ Whole wr w.heap.size 26 #[.string ⟨name.toArray⟩, .slice a xs.length c] ∧ Whole wr (w.heap.size + 1) 26 #[.string ⟨#[]⟩, .slice none 0 0] ∧ Below w.heap.size w wr) (fun i _ => xs.length - (intOf i).toNat)
  case atStart => exact ⟨0, _, Nat.zero_le _, rfl, OwnK.empty _ _ _ _ _ _, ho3, hw3, hr3, hb3⟩
  case round =>
    obtain ⟨k, y, hk, rfl, hown, ho, hw, hr, hb⟩ := hrel
    clear ho3 hw3 hr3 hb3
    obtain ⟨ya, yc, rfl⟩ := hown.form
    have hbo := ho.lt
    by_cases hlt : k < xs.length
    · obtain ⟨g, o, rfl, hg, _, hra⟩ := HAT.out k hlt
      obtain ⟨c0, a2, p2, c1, hp2, hu⟩ := AttrAt.partsT (AttrAt.callE hra hg hb)
      have hdk := HD.out k hlt
      have hyk := Lib.hid (HY.out k hlt)
      have hnk := Lib.hid (HNo.out k hlt)
      have hpk := HP.out (xs[k]'hlt)
      have htl := HTL.out k
      clear hra HAT
      generalize xs[k] = x at *
      obtain ⟨ty, vals⟩ := x
      simp only at c0 c1 hp2 hu hdk hpk
      rw [hpk] at hdk
      have hgA := grow1 wr (.cells #[.string ⟨ty.toArray⟩, .slice a2 vals.length p2] 51)
      have hwA := Whole.made wr 51 #[.string ⟨ty.toArray⟩, .slice a2 vals.length p2]
      have hbA := hb.trans (hgA.mono hb.size)
      have hdk1 := hdk _ (HRL.out _ hbA) (HEN.out _ hbA)
      have d0 := hwA.cell 0
      have d1 := hwA.cell 1
      have n0 := (hw.call hgA).cell 0
      simp only [List.getElem?_toArray, List.getElem?_cons_zero, List.getElem?_cons_succ] at d0 d1 n0
      have hl0 : (0 : Int) ≤ (k : Int) := by omega
      have hl1 : (k : Int) < (xs.length : Int) := by omega
      generalize hDD : P ⟨ty, vals⟩ = D at *
      go_wp2_with fail
      refine hdk1.mono ?_; rintro e w2 ⟨rfl, hb2⟩
      have hbB := hbA.trans (hb2.mono hbA.size)
      have hown2 := (hown.call hgA).call hb2
      have ho2 := (ho.call hgA).call hb2
      have hw2 := (hw.call hgA).call hb2
      have hr2 := (hr.call hgA).call hb2
      have hwA2 := hwA.call hb2
      have hu2 := StrsP.callT (StrsP.callT hu hgA) hb2
      clear hown ho hw hr hwA hdk hdk1 c0 c1 d0 d1 n0
      cases D with
      | false =>
        have hk1 := hnk.out hpk
        go_wp2_with fail
        go_roundw
        case rel => exact ⟨k + 1, _, by omega, by go_num, by rw [hk1]; exact hown2, ho2, hw2, hr2, hbB⟩
        case measure => simp [intOf]; omega
      | true =>
        have hk1 := hyk.out hpk
        have f0 := hwA2.cell 0
        have f1 := hwA2.cell 1
        have e1 := ho2.cell 1
        simp only [List.getElem?_toArray, List.getElem?_cons_zero, List.getElem?_cons_succ] at f0 f1 e1
        have hgB := grow1 w2 (.cells #[.string ⟨ty.toArray⟩, .slice a2 vals.length p2] 51)
        have hwB := Whole.made w2 51 #[.string ⟨ty.toArray⟩, .slice a2 vals.length p2]
        have hbC := hbB.trans (hgB.mono hbB.size)
        have hownB := hown2.call hgB
        have huB := StrsP.callT hu2 hgB
        have b0 := hwB.cell 0
        have b1 := hwB.cell 1
        have hszB := hbC.size
        simp only [List.getElem?_toArray, List.getElem?_cons_zero, List.getElem?_cons_succ] at b0 b1
        go_wp2_with (at_builtin; refine push_k atK 51 22 [9] (by decide) Tryz.underlying22 HI.out hz0 hz1 hz2 (by rfl) (by rfl) _ _ (by rfl) w.heap.size hC _ ((xs.take k).filter P) (by rfl) hownB w2.heap.size (by rfl) ⟨ty, vals⟩ _ b0 b1 huB (by omega) hszB ?_)
        intro v3 w3 hown3 hb3 hgw3
        rw [← hk1] at hown3
        obtain ⟨yb, yd, rfl⟩ := hown3.form
        have ho3 := (ho2.call hgB).grown hownB (by decide) hgw3
        have hw3 := (hw2.call hgB).grown hownB (by decide) hgw3
        have hr3 := (hr2.call hgB).grown hownB (by decide) hgw3
        generalize ((xs.take (k + 1)).filter P).length = N1 at *
        have tq := ho3.thaw 1
        have tz := ho3.cell 1
        simp only [List.getElem?_toArray, List.getElem?_cons_zero, List.getElem?_cons_succ] at tz
        have hoF := ho3.put 1 (.slice yb N1 yd)
        have hownF := hown3.other ho3 (by omega) (by decide) (by decide) 1 (.slice yb N1 yd)
        have hwF := hw3.other (p := ⟨bo, 1, none⟩) (by show w.heap.size ≠ bo; omega) (.slice yb N1 yd)
        have hrF := hr3.other (p := ⟨bo, 1, none⟩) (by show w.heap.size + 1 ≠ bo; omega) (.slice yb N1 yd)
        have hbF := (hbC.trans hb3).setCell (p := ⟨bo, 1, none⟩) (by show w.heap.size ≤ bo; omega) (.slice yb N1 yd)
        simp only [List.setIfInBounds_toArray, List.set_cons_succ, List.set_cons_zero] at hoF
        go_wp2_with fail
        go_roundw
        case rel => exact ⟨k + 1, _, by omega, by go_num, hownF, hoF, hwF, hrF, hbF⟩
        case measure => simp [intOf]; omega
    · have hkl : k = xs.length := by omega
      subst hkl
      simp only [List.take_length] at hown
      simp only [List.take_length] at ho
      have hcp := encopy_c C name (xs.filter P) _ wr (Nat.le_trans hC hb.size) hown.attrsE HFI.out
      have o0 := ho.cell 0
      have o1 := ho.cell 1
      simp only [List.getElem?_toArray, List.getElem?_cons_zero, List.getElem?_cons_succ] at o0 o1
      go_wp2_with fail
      refine hcp.mono ?_; rintro e w2 ⟨u2, rfl, hown2, hb2⟩
      have hr2 := hr.call hb2
      have hbB := hb.trans (hb2.mono hb.size)
      obtain ⟨yb, yd, rfl⟩ := hown2.form
      have hown2 := hown2.mono hb.size
      generalize (xs.filter P).length = N1 at *
      have s0 := hr2.thaw 0
      have s1 := hr2.thaw 1
      have t0 := hr2.cell 0
      have t1 := hr2.cell 1
      simp only [List.getElem?_toArray, List.getElem?_cons_zero, List.getElem?_cons_succ] at t0 t1
      have hA := hr2.put 0 (.string ⟨name.toArray⟩)
      have hoA := hown2.other hr2 (by omega) (by decide) (by decide) 0 (.string ⟨name.toArray⟩)
      simp only [List.setIfInBounds_toArray, List.set_cons_zero] at hA
      have hB := hA.put 1 (.slice yb N1 yd)
      have hoB := hoA.other hA (by omega) (by decide) (by decide) 1 (.slice yb N1 yd)
      simp only [List.setIfInBounds_toArray, List.set_cons_succ, List.set_cons_zero] at hB
      have hbF : Below w.heap.size w ((w2.setCell ⟨w.heap.size + 1, 0, none⟩ (.string ⟨name.toArray⟩)).setCell ⟨w.heap.size + 1, 1, none⟩ (.slice yb N1 yd)) := (hbB.setCell (p := ⟨w.heap.size + 1, 0, none⟩) (by show w.heap.size ≤ w.heap.size + 1; omega) _).setCell (p := ⟨w.heap.size + 1, 1, none⟩) (by show w.heap.size ≤ w.heap.size + 1; omega) _
      have y0 := hB.cell 0
      have y1 := hB.cell 1
      simp only [List.getElem?_toArray, List.getElem?_cons_zero, List.getElem?_cons_succ] at y0 y1
      go_wp2_with fail
      (try simp only [Exit.inBlock, Exit.then])
      refine bodyPost_ret (v := .tuple #[.agg #[.string ⟨name.toArray⟩, .slice yb N1 yd], .bool true]) ?_ rfl (Or.inl ⟨rfl, _, rfl, hoB, hbF⟩)
      clear hA hoA hB hoB hbF hown hw hr hb
      generalize (w2.setCell ⟨w.heap.size + 1, 0, none⟩ (.string ⟨name.toArray⟩)).setCell ⟨w.heap.size + 1, 1, none⟩ (.slice yb N1 yd) = wf at *
      rw [results_cell_tmp rfl]
      go_simp
end Go.Proofs.YtdcljilfnkmloaaGreatDoor
