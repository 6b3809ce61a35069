/- The walks of what a subject sees of an entry: One, the program's and the document's. Conditions: those that each theorem states; the library's variables are laid. The walks of what a subject sees of entries: Of, the program's and the document's. Conditions: those that each theorem states; the library's variables are laid. -/
import Derived.Test.YtdcljilfnkmloaaGreatDoorSVib
import Derived.Test.YtdcljilfnkmloaaGreatDoorSRel
namespace Go.Proofs.YtdcljilfnkmloaaGreatDoor
open Go.RowKit

/-- an entry that is seen, or none -/
def OneRet (C : Nat) (o : Option EnS.En) (w : World) (e : Ending) (w' : World) : Prop :=
  (∃ x : EnS.En, o = some x ∧ ∃ u, e = .returned (.tuple #[.agg #[.string ⟨x.name.toArray⟩, u], .bool true]) ∧ OwnK atK 51 [9] C w' w.heap.size u x.attrs ∧ Below w.heap.size w w')
  ∨ (o = none ∧ e = .returned (.tuple #[.agg #[.string ⟨#[]⟩, .slice none 0 0], .bool false]) ∧ Below w.heap.size w w')
theorem AttrsE.in {w : World} {C : Nat} {u : Value} {xs : List EnS.At} {Ts : List TypeId} (h : AttrsE Ts C w u xs) : AttrsIn w u xs :=
  SliceP.imp h (Nat.le_refl _) (fun _ _ h => h) fun _ _ _ _ _ hx => by obtain ⟨h1, u, h2, h3⟩ := hx; exact ⟨h1, u, h2, h3.any⟩
theorem type_short (x : List UInt8) : (RuS.typeOf x).1.length ≤ 17 := by
  unfold RuS.typeOf
  rcases RuS.typeM_all (RuS.lower x) with h | h
  · rw [h]; simp
  · exact h.2.2.2
theorem formed_short {e : EnS.En} (h : EnS.formedE e = true) : ∀ x ∈ e.attrs, x.typ.length ≤ 100000 := fun x hx => by
  have h1 := (EnS.formedA_each (EnS.formed_parts h).2.2 x hx).1
  have h2 := type_short x.typ
  rw [h1] at h2
  omega
set_option maxRecDepth 100000 in
set_option maxHeartbeats 1000000 in
theorem vone_c (C : Nat) (name : List UInt8) (xs : List EnS.At) (u v : Value) (rl : List PoS.Rl) (subject : List UInt8) (w : World) (hC : C ≤ w.heap.size) (h : AttrsE [9] C w u xs) (hf : FitA xs)
    (ht : ∀ x ∈ xs, x.typ.length ≤ 1048576) (hn : name.length ≤ 1000000) (hr : RulesIn w v rl) (hs : ∀ r ∈ rl, SmallR r) (hl : rl.length ≤ 1000000) (q1 : subject.length ≤ 100000) (hE : Env w) :
    Calls Tryz.prog 52 #[.agg #[.string ⟨name.toArray⟩, u], v, .string ⟨subject.toArray⟩] w (OneRet C (EnS.oneV rl subject ⟨name, xs⟩) w) := by
  have hb0 := grow1 w (.cells #[.string ⟨name.toArray⟩, u] 26)
  have hw0 := Whole.made w 26 #[.string ⟨name.toArray⟩, u]
  have hg1 := grow1 (w.alloc (.cells #[.string ⟨name.toArray⟩, u] 26)) (.cells #[.string ⟨#[]⟩, .slice none 0 0] 26)
  have hb1 := below_trans hb0 hg1
  have hw1 := hw0.call hg1
  have hr1 := Whole.made (w.alloc (.cells #[.string ⟨name.toArray⟩, u] 26)) 26 #[.string ⟨#[]⟩, .slice none 0 0]
  have hm1 : (w.alloc (.cells #[.string ⟨name.toArray⟩, u] 26)).heap.size = w.heap.size + 1 := by show (w.heap.push _).size = _; exact Array.size_push _
  rw [hm1] at hr1
  have hh1 := h.callT hb1
  have hx1 := hr.call hb1 (Nat.le_refl _)
  have hE1 := hE.below hb1
  have hfo := enformed_c name xs u _ hE1 hh1.in hf hn ht
  have HONE : Hid (EnS.oneV rl subject ⟨name, xs⟩ = if EnS.formedE ⟨name, xs⟩ = true ∧ EnS.seenT rl subject (DnS.textsS name).1 = true then some ⟨name, xs.filter (fun a => PoS.decideS rl subject 1 name a.typ)⟩ else none) := Lib.hid rfl
  have HPA := Lib.hid (fun (hF : EnS.formedE ⟨name, xs⟩ = true) W (hC : C ≤ W.heap.size) h hr hE => vpart_c C name (DnS.textsS name).1 (partsOk_of (EnS.formed_parts hF).1).1 (partsOk_of (EnS.formed_parts hF).1).2 xs u v rl subject W hC h hf (formed_short hF) hr hs hl q1 hE)
  unfold NmBool at hfo
  unfold PartVRet at HPA
  obtain ⟨a, c, rfl, hc⟩ := SliceP.form h
  clear h hb0 hw0 hg1 hf ht hs hl q1 hn
  generalize EnS.oneV rl subject ⟨name, xs⟩ = O at *
  generalize EnS.seenT rl subject (DnS.textsS name).1 = SN at *
  generalize xs.filter (fun a => PoS.decideS rl subject 1 name a.typ) = ys at *
  generalize EnS.formedE ⟨name, xs⟩ = F at *
  obtain ⟨vr, vc, rfl⟩ := hr.form
  have q0 := hw1.cell 0
  have q1 := hw1.cell 1
  simp only [List.getElem?_toArray, List.getElem?_cons_zero, List.getElem?_cons_succ] at q0 q1
  go_enter Tryz.func52, Tryz.ntmps52
  go_wp2_with fail
  refine hfo.mono ?_; rintro e w1 ⟨rfl, hb2⟩
  have hw2 := hw1.call hb2
  have hr2 := hr1.call hb2
  have hbx := below_trans hb1 hb2
  have hh2 := hh1.callT hb2
  have hx2 := hx1.call hb2 (Nat.le_refl _)
  have hE2 := hE1.below hb2
  clear hfo hw1 hr1 hh1 hx1 hE1 q0 q1 hr hE
  have q0 := hw2.cell 0
  have q1 := hw2.cell 1
  have t0 := hr2.cell 0
  have t1 := hr2.cell 1
  have s0 := hr2.thaw 0
  have s1 := hr2.thaw 1
  simp only [List.getElem?_toArray, List.getElem?_cons_zero, List.getElem?_cons_succ] at q0 q1 t0 t1
  cases F with
  | false =>
    have HZ : Hid (O = none) := Lib.hid (by rw [HONE.out, if_neg (by simp)])
    have hA := hr2.put 0 (.string ⟨#[]⟩)
    simp only [List.setIfInBounds_toArray, List.set_cons_zero] at hA
    have hB := hA.put 1 (.slice none 0 0)
    simp only [List.setIfInBounds_toArray, List.set_cons_succ, List.set_cons_zero] at hB
    have hbB : Below w.heap.size w ((w1.setCell ⟨w.heap.size + 1, 0, none⟩ (.string ⟨#[]⟩)).setCell ⟨w.heap.size + 1, 1, none⟩ (.slice none 0 0)) := (hbx.setCell (p := ⟨w.heap.size + 1, 0, none⟩) (by show w.heap.size ≤ w.heap.size + 1; omega) _).setCell (p := ⟨w.heap.size + 1, 1, none⟩) (by show w.heap.size ≤ w.heap.size + 1; omega) _
    have y0 := hB.cell 0
    have y1 := hB.cell 1
    simp only [List.getElem?_toArray, List.getElem?_cons_zero, List.getElem?_cons_succ] at y0 y1
    go_wp2_with fail
    (try simp only [Exit.inBlock, Exit.then])
    refine bodyPost_ret (v := .tuple #[.agg #[.string ⟨#[]⟩, .slice none 0 0], .bool false]) ?_ rfl (Or.inr ⟨HZ.out, rfl, hbB⟩)
    rw [results_cell_tmp rfl]
    go_simp
  | true =>
    have hpa := HPA.out (by trivial) _ (Nat.le_trans hC hbx.size) hh2 hx2 hE2
    clear HPA
    go_wp2_with fail
    refine hpa.mono ?_
    rintro e w2 (⟨hb, u2, rfl, hown2, hb3⟩ | ⟨hb, rfl, hb3⟩)
    · have HZ : Hid (O = some ⟨name, ys⟩) := Lib.hid (by rw [HONE.out, if_pos ⟨by trivial, hb⟩])
      have hr3 := hr2.call hb3
      have hbB := hbx.trans (hb3.mono hbx.size)
      obtain ⟨yb, yd, rfl⟩ := hown2.form
      have hown3 := hown2.mono hbx.size
      have hCw := hC
      generalize hN1 : ys.length = N1 at *
      clear s0 s1 t0 t1 q0 q1 hr2 hpa
      have s0 := hr3.thaw 0
      have s1 := hr3.thaw 1
      have t0 := hr3.cell 0
      have t1 := hr3.cell 1
      simp only [List.getElem?_toArray, List.getElem?_cons_zero, List.getElem?_cons_succ] at t0 t1
      have hA := hr3.put 0 (.string ⟨name.toArray⟩)
      have hoA := hown3.other hr3 (by omega) (by decide) (by decide) 0 (.string ⟨name.toArray⟩)
      simp only [List.setIfInBounds_toArray, List.set_cons_zero] at hA
      have hB := hA.put 1 (.slice yb N1 yd)
      have hoB := hoA.other hA (by omega) (by decide) (by decide) 1 (.slice yb N1 yd)
      simp only [List.setIfInBounds_toArray, List.set_cons_succ, List.set_cons_zero] at hB
      have hbF : Below w.heap.size w ((w2.setCell ⟨w.heap.size + 1, 0, none⟩ (.string ⟨name.toArray⟩)).setCell ⟨w.heap.size + 1, 1, none⟩ (.slice yb N1 yd)) := (hbB.setCell (p := ⟨w.heap.size + 1, 0, none⟩) (by show w.heap.size ≤ w.heap.size + 1; omega) _).setCell (p := ⟨w.heap.size + 1, 1, none⟩) (by show w.heap.size ≤ w.heap.size + 1; omega) _
      have y0 := hB.cell 0
      have y1 := hB.cell 1
      simp only [List.getElem?_toArray, List.getElem?_cons_zero, List.getElem?_cons_succ] at y0 y1
      go_wp2_with fail
      (try simp only [Exit.inBlock, Exit.then])
      refine bodyPost_ret (v := .tuple #[.agg #[.string ⟨name.toArray⟩, .slice yb N1 yd], .bool true]) ?_ rfl (Or.inl ⟨_, HZ.out, _, rfl, hoB, hbF⟩)
      clear hA hoA hB hoB hbF hown2 hown3
      generalize (w2.setCell ⟨w.heap.size + 1, 0, none⟩ (.string ⟨name.toArray⟩)).setCell ⟨w.heap.size + 1, 1, none⟩ (.slice yb N1 yd) = wf at *
      rw [results_cell_tmp rfl]
      go_simp
    · have HZ : Hid (O = none) := Lib.hid (by rw [HONE.out, if_neg (by rw [hb]; simp)])
      have hr3 := hr2.call hb3
      have hbB := hbx.trans (hb3.mono hbx.size)
      clear s0 s1 t0 t1 q0 q1 hr2 hpa
      have s0 := hr3.thaw 0
      have s1 := hr3.thaw 1
      have t0 := hr3.cell 0
      have t1 := hr3.cell 1
      simp only [List.getElem?_toArray, List.getElem?_cons_zero, List.getElem?_cons_succ] at t0 t1
      have hA := hr3.put 0 (.string ⟨#[]⟩)
      simp only [List.setIfInBounds_toArray, List.set_cons_zero] at hA
      have hB := hA.put 1 (.slice none 0 0)
      simp only [List.setIfInBounds_toArray, List.set_cons_succ, List.set_cons_zero] at hB
      have hbF : Below w.heap.size w ((w2.setCell ⟨w.heap.size + 1, 0, none⟩ (.string ⟨#[]⟩)).setCell ⟨w.heap.size + 1, 1, none⟩ (.slice none 0 0)) := (hbB.setCell (p := ⟨w.heap.size + 1, 0, none⟩) (by show w.heap.size ≤ w.heap.size + 1; omega) _).setCell (p := ⟨w.heap.size + 1, 1, none⟩) (by show w.heap.size ≤ w.heap.size + 1; omega) _
      have y0 := hB.cell 0
      have y1 := hB.cell 1
      simp only [List.getElem?_toArray, List.getElem?_cons_zero, List.getElem?_cons_succ] at y0 y1
      go_wp2_with fail
      (try simp only [Exit.inBlock, Exit.then])
      refine bodyPost_ret (v := .tuple #[.agg #[.string ⟨#[]⟩, .slice none 0 0], .bool false]) ?_ rfl (Or.inr ⟨HZ.out, rfl, hbF⟩)
      rw [results_cell_tmp rfl]
      go_simp
end Go.Proofs.YtdcljilfnkmloaaGreatDoor
namespace Go.Proofs.YtdcljilfnkmloaaGreatDoor
open Go.RowKit

theorem infoEntry : (Tryz.prog.info? 26).map (fun i => (i.zero, i.size, i.bytes)) = some (some (.agg #[.string ⟨#[]⟩, .slice none 0 0]), 2, 40) := by kernel_rfl
/-- types of a size that can be looked at -/
def TypsE (xs : List EnS.En) : Prop := ∀ x ∈ xs, ∀ a ∈ x.attrs, a.typ.length ≤ 1048576
def OfRet (xs : List EnS.En) (w : World) (e : Ending) (w' : World) : Prop := ∃ v, e = .returned v ∧ OwnK enK 26 [9, 51] w.heap.size w' w.heap.size v xs ∧ Below w.heap.size w w'
theorem fmap_some {α β : Type} {f : α → Option β} {l : List α} {k : Nat} {y : β} (hk : k < l.length) (h : f l[k] = some y) : (l.take (k + 1)).filterMap f = (l.take k).filterMap f ++ [y] := by
  rw [List.take_succ_eq_append_getElem hk, List.filterMap_append]
  simp [h]
theorem fmap_none {α β : Type} {f : α → Option β} {l : List α} {k : Nat} (hk : k < l.length) (h : f l[k] = none) : (l.take (k + 1)).filterMap f = (l.take k).filterMap f := by
  rw [List.take_succ_eq_append_getElem hk, List.filterMap_append]
  simp [h]
set_option maxRecDepth 100000 in
set_option maxHeartbeats 2000000 in
theorem vof_c (u v : Value) (xs : List EnS.En) (rl : List PoS.Rl) (subject : List UInt8) (w : World) (h : EnsIn w u xs) (hf : FitE xs) (ht : TypsE xs) (hr : RulesIn w v rl) (hs : ∀ r ∈ rl, SmallR r) (hl : rl.length ≤ 1000000) (q1 : subject.length ≤ 100000) (hE : Env w) :
    Calls Tryz.prog 17 #[u, v, .string ⟨subject.toArray⟩] w (OfRet (EnS.ofV rl subject xs) w) := by
  have HON := Lib.hid (fun k (hk : k < xs.length) C u v W (hC : C ≤ W.heap.size) h hr hE => vone_c C (xs[k]'hk).name (xs[k]'hk).attrs u v rl subject W hC h (hf.2 _ (List.getElem_mem hk)).2 (ht _ (List.getElem_mem hk)) (hf.2 _ (List.getElem_mem hk)).1 hr hs hl q1 hE)
  unfold OneRet at HON
  unfold EnS.ofV
  have HFS := Lib.hid (fun k (hk : k < xs.length) (y : EnS.En) (h : EnS.oneV rl subject (xs[k]'hk) = some y) => fmap_some hk h)
  have HFN := Lib.hid (fun k (hk : k < xs.length) (h : EnS.oneV rl subject (xs[k]'hk) = none) => fmap_none hk h)
  have HTL := Lib.hid (fun k => show ((xs.take k).filterMap (EnS.oneV rl subject)).length ≤ 1048576 from Nat.le_trans (List.length_filterMap_le _ _) (Nat.le_trans (by rw [List.length_take]; omega) hf.1))
  generalize EnS.oneV rl subject = ON at *
  obtain ⟨a, c, rfl, hc, hat⟩ := SliceP.at h
  have HAT := Lib.hid hat
  have hxl : xs.length ≤ 1048576 := hf.1
  obtain ⟨i0, hi, hz0, hz1, hz2⟩ := info_parts infoEntry
  have HI := Lib.hid hi
  obtain ⟨vr, vc, rfl⟩ := hr.form
  have HRL := Lib.hid (fun W (hb : Below w.heap.size w W) => hr.call hb (Nat.le_refl _))
  have HEN := Lib.hid (fun W (hb : Below w.heap.size w W) => hE.below hb)
  clear hat h hf ht hs hl q1 hi hr hE
  go_enter Tryz.func17, Tryz.ntmps17
  go_wp2_with fail
  go_loopw [7, 14] (fun out i wr => ∃ k : Nat, k ≤ xs.length ∧ i = .int .i64 k ∧ OwnK enK 26 [9, 51] w.heap.size wr w.heap.size out ((xs.take k).filterMap ON) ∧ Below w.heap.size w wr) (fun _ i _ => xs.length - (intOf i).toNat)
  case atStart => exact ⟨0, Nat.zero_le _, rfl, OwnK.empty _ _ _ _ _ _, Below.refl _ _⟩
  case round =>
    obtain ⟨k, hk, rfl, hown, hb⟩ := hrel
    by_cases hlt : k < xs.length
    · obtain ⟨g, o, rfl, hg, _, hra⟩ := HAT.out k hlt
      have hra2 := EnAt.call hra hg trivial hb
      have hb0 := (EnAt.parts hra).2
      obtain ⟨_, ax, cx, hcx, _, hax⟩ := EnAt.parts hra
      obtain ⟨c0, a2, p2, c1, hp2, _⟩ := EnAt.parts hra2
      have hsame : (Value.slice ax (xs[k]'hlt).attrs.length cx) = .slice a2 (xs[k]'hlt).attrs.length p2 := by
        have := (hb.cell (p := ⟨g, o + k * 2 + 1, none⟩) hg).trans hcx
        rw [c1] at this
        exact (Option.some.inj this).symm
      rw [hsame] at hax
      have hau := AttrsP.exp (AttrsP.callT (hax.base [9]) hb)
      have hon := fun W hC h => HON.out k hlt w.heap.size (.slice a2 (xs[k]'hlt).attrs.length p2) (.slice vr rl.length vc) W hC h
      have hfs := HFS.out k hlt
      have hfn := HFN.out k hlt
      have htl := HTL.out k
      clear hra hra2 hb0 hcx hax hsame HAT HON HFS HFN
      generalize xs[k] = x at *
      obtain ⟨name, ats⟩ := x
      simp only at c0 c1 hp2 hau hon
      have hl0 : (0 : Int) ≤ (k : Int) := by omega
      have hl1 : (k : Int) < (xs.length : Int) := by omega
      have hgA := grow1 wr (.cells #[.string ⟨name.toArray⟩, .slice a2 ats.length p2] 26)
      have hwA := Whole.made wr 26 #[.string ⟨name.toArray⟩, .slice a2 ats.length p2]
      have hbA := hb.trans (hgA.mono hb.size)
      have hon1 := hon _ hbA.size (hau.callT hgA) (HRL.out _ hbA) (HEN.out _ hbA)
      have e0 := hwA.cell 0
      have e1 := hwA.cell 1
      simp only [List.getElem?_toArray, List.getElem?_cons_zero, List.getElem?_cons_succ] at e0 e1
      clear hon hwA
      generalize ats.length = L at *
      go_wp2_with fail
      refine hon1.mono ?_
      rintro e w2 (⟨x, hx, u2, rfl, hown2, hb2⟩ | ⟨hx, rfl, hb2⟩)
      · have hbB := hbA.trans (hb2.mono hbA.size)
        have hownB := (hown.call hgA).call hb2
        have hk1 := hfs x hx
        have hel := hown2.attrsB (Ts' := [9, 51]) (by simp) (by simp)
        obtain ⟨nm, as2⟩ := x
        simp only at hel hown2
        obtain ⟨yb, yd, rfl⟩ := hown2.form
        generalize as2.length = N1 at *
        have hgC := grow1 w2 (.cells #[.string ⟨nm.toArray⟩, .slice yb N1 yd] 26)
        have hwC := Whole.made w2 26 #[.string ⟨nm.toArray⟩, .slice yb N1 yd]
        have hbC := hbB.trans (hgC.mono hbB.size)
        have hownC := hownB.call hgC
        have hgD := grow1 (w2.alloc (.cells #[.string ⟨nm.toArray⟩, .slice yb N1 yd] 26)) (.cells #[.string ⟨nm.toArray⟩, .slice yb N1 yd] 26)
        have hwD := Whole.made (w2.alloc (.cells #[.string ⟨nm.toArray⟩, .slice yb N1 yd] 26)) 26 #[.string ⟨nm.toArray⟩, .slice yb N1 yd]
        have hmD : (w2.alloc (.cells #[.string ⟨nm.toArray⟩, .slice yb N1 yd] 26)).heap.size = w2.heap.size + 1 := by show (w2.heap.push _).size = _; exact Array.size_push _
        rw [hmD] at hwD
        have hbD := hbC.trans (hgD.mono hbC.size)
        have hownD := hownC.call hgD
        have helD := AttrsP.callT (AttrsP.callT hel hgC) hgD
        have d0 := hwC.cell 0
        have d1 := hwC.cell 1
        have b0 := hwD.cell 0
        have b1 := hwD.cell 1
        have hsz := hbD.size
        simp only [List.getElem?_toArray, List.getElem?_cons_zero, List.getElem?_cons_succ] at d0 d1 b0 b1
        clear hon1 hown2 hownB hownC hel
        go_wp2_with (at_builtin; refine push_k enK 26 34 [9, 51] (by decide) Tryz.underlying34 HI.out hz0 hz1 hz2 (by rfl) (by rfl) _ _ (by rfl) w.heap.size (Nat.le_refl _) _ ((xs.take k).filterMap ON) (by rfl) hownD (w2.heap.size + 1) (by rfl) ⟨nm, as2⟩ _ b0 b1 helD (by omega) hsz ?_)
        intro v3 w3 hown3 hb3 hgw3
        rw [← hk1] at hown3
        go_wp2_with fail
        go_roundw
        case rel => exact ⟨k + 1, by omega, by go_num, hown3, hbD.trans hb3⟩
        case measure => simp [intOf]; omega
      · have hbB := hbA.trans (hb2.mono hbA.size)
        have hownB := (hown.call hgA).call hb2
        have hk1 := hfn hx
        have hgC := grow1 w2 (.cells #[.string ⟨#[]⟩, .slice none 0 0] 26)
        have hbC := hbB.trans (hgC.mono hbB.size)
        have hownC := hownB.call hgC
        clear hon1 hownB
        go_wp2_with fail
        go_roundw
        case rel => exact ⟨k + 1, by omega, by go_num, by rw [hk1]; exact hownC, hbC⟩
        case measure => simp [intOf]; omega
    · have hkl : k = xs.length := by omega
      subst hkl
      simp only [List.take_length] at hown
      go_wp2_with fail
      go_ret
      exact ⟨_, rfl, hown, hb⟩
end Go.Proofs.YtdcljilfnkmloaaGreatDoor
