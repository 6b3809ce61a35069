/- The walk of the program's Rename. Conditions: those that the theorem states; the library's variables are laid. -/
import Derived.Test.YtdcljilfnkmloaaGreatDoorRRna
import Derived.Test.YtdcljilfnkmloaaGreatDoorRTai
namespace Go.Proofs.YtdcljilfnkmloaaGreatDoor
open Go.RowKit
attribute [local go_sem ↓] Go.wp_at_zero Go.wp_at_succ

/-- pairs stay where an entry's block is written -/
theorem AvasIn.other {w : World} {v : Value} {ps : List RdS.Pr} (h : AvasIn w v ps) {A : Nat} {T : TypeId} {s : ByteArray} {a : Option Addr} {n c : Nat} (hw : Whole w A T #[.string s, .slice a n c]) (i : Nat) (y : Value) : AvasIn (w.setCell ⟨A, i, none⟩ y) v ps := by
  obtain ⟨b, d, rfl, hd, hcase⟩ := h
  refine ⟨b, d, rfl, hd, ?_⟩
  rcases hcase with rfl | ⟨g, o, rfl, hg, hcell⟩
  · exact .inl rfl
  · cases ps with
    | nil => exact .inl rfl
    | cons p r =>
      have hne : A ≠ g := fun e => by
        subst e
        obtain ⟨c0, c1⟩ := hcell 0 p rfl
        rw [hw.cell] at c0 c1
        match o, c0, c1 with
        | 0, c0, c1 => simp [strV] at c1
        | 1, c0, c1 => simp [strV] at c0
        | o + 2, c0, c1 => simp at c0
      have hcl : ∀ x : Addr, x.block = g → (w.setCell ⟨A, i, none⟩ y).cell? x = w.cell? x := fun x hx => World.cell?_of_block (a := x) (by rw [hx]; exact Below.heap_setCell w ⟨A, i, none⟩ y g (fun e => hne e.symm))
      refine .inr ⟨g, o, rfl, by simpa [World.setCell] using hg, fun j q hj => ?_⟩
      obtain ⟨c0, c1⟩ := hcell j q hj
      exact ⟨(hcl _ rfl).trans c0, (hcl _ rfl).trans c1⟩
theorem rowfit {N : Nat} {q : List EnS.At} (h : EnS.FitQ N q) (hN : N ≤ 1048576) (hs : EnS.soundA [] q = true) : FitA q := FitQ.fit h hN hs
set_option maxRecDepth 100000 in
set_option maxHeartbeats 8000000 in
theorem enrename_c (C : Nat) (name : List UInt8) (xs : List EnS.At) (u : Value) (tn : List UInt8) (del : Bool) (w : World) (hC : C ≤ w.heap.size) (h : AttrsE [9] C w u xs) (hf : FitA xs) (ht : ∀ x ∈ xs, x.typ.length ≤ 1048576) (hn : name.length ≤ 1000000) (hto : tn.length ≤ 1000000) (hE : Env w) :
    Calls Tryz.prog 12 #[.agg #[.string ⟨name.toArray⟩, u], .string ⟨tn.toArray⟩, .bool del] w (MakeRet C (EnS.renameS ⟨name, xs⟩ tn del) w) := by
  have hmf : ∀ (fn : Fn) (first cap : Array Value) (w : World), (Instr.makeFunc fn first cap).run Tryz.prog w = .ok (.func fn first cap) w := fun _ _ _ _ => rfl
  have hb0 := grow1 w (.cells #[.string ⟨name.toArray⟩, u] 26)
  have hw0 := Whole.made w 26 #[.string ⟨name.toArray⟩, u]
  have hg1 := grow1 (w.alloc (.cells #[.string ⟨name.toArray⟩, u] 26)) (.cells #[.string ⟨#[]⟩, .slice none 0 0] 26)
  have hb1 := below_trans hb0 hg1
  have hw1 := hw0.call hg1
  have hr1 := Whole.made (w.alloc (.cells #[.string ⟨name.toArray⟩, u] 26)) 26 #[.string ⟨#[]⟩, .slice none 0 0]
  have hmade : (w.alloc (.cells #[.string ⟨name.toArray⟩, u] 26)).heap.size = w.heap.size + 1 := by show (w.heap.push _).size = _; exact Array.size_push _
  rw [hmade] at hr1
  have HEN := Lib.hid (fun W (hb : Below w.heap.size w W) => hE.below hb)
  have hfm := enformed_c name xs u _ (HEN.out _ hb1) (AttrsE.ins (h.callT hb1)) hf hn ht
  unfold NmBool at hfm
  have H1 := Lib.hid (fun h => EnS.renameS_1 (e := ⟨name, xs⟩) (tn := tn) (del := del) h)
  have H34 := Lib.hid (fun h h2 => EnS.renameS_34 (e := ⟨name, xs⟩) (tn := tn) (del := del) h h2)
  have HYS := Lib.hid (fun h h2 => EnS.renameS_yes (e := ⟨name, xs⟩) (tn := tn) (del := del) h h2)
  have HFO := Lib.hid (fun h => EnS.formed_sound2 (e := ⟨name, xs⟩) h)
  have hnl := DnS.norm_len tn
  simp only at HYS HFO
  obtain ⟨n, e0, hNN⟩ : ∃ n e, DnS.normN tn = (n, e) := ⟨_, _, rfl⟩
  have hnm := fun W (hb : Below w.heap.size w W) => dnnormal_c tn hto W (HEN.out _ hb)
  unfold NmTxt at hnm
  rw [hNN] at H34 HYS hnl hnm
  simp only at H34 HYS hnl hnm
  have hp1 := fun W (hb : Below w.heap.size w W) => enpairs_c name hn W (HEN.out _ hb)
  have hp2 := fun W (hb : Below w.heap.size w W) => enpairs_c tn hto W (HEN.out _ hb)
  unfold PairsRet at hp1 hp2
  have hs1 := pairs_small name
  have hs2 := pairs_small tn
  have hg1p := EnS.pairs_good (s := name)
  have hg2p := EnS.pairs_good (s := tn)
  generalize EnS.renameS ⟨name, xs⟩ tn del = R at *
  generalize EnS.formedE ⟨name, xs⟩ = F at *
  generalize EnS.pairsS name = OL at *
  generalize EnS.pairsS tn = FR at *
  obtain ⟨ua, uc, rfl, _⟩ := SliceP.form h
  have hrow0 : RowAt C w w (.slice ua xs.length uc) xs := .inl h
  have HFQ : Hid (FitA xs) := Lib.hid hf
  clear hf ht hn hto hE h hmade hb0 hg1 hw0 hNN
  have q0 := hw1.cell 0
  have q1 := hw1.cell 1
  simp only [List.getElem?_toArray, List.getElem?_cons_zero, List.getElem?_cons_succ] at q0 q1
  go_enter Tryz.func12, Tryz.ntmps12
  go_wp2_with fail
  refine hfm.mono ?_; rintro e w1 ⟨rfl, hb2⟩
  have hz1 := below_trans hb1 hb2
  have hw2 := hw1.call hb2
  have hr2 := hr1.call hb2
  clear hfm hw1 hr1 q0 q1
  cases F with
  | false =>
    have HR := H1.out rfl
    clear H1 H34 HYS HFO hp1 hp2 hnm
    have t0 := hr2.thaw 0
    have t1 := hr2.thaw 1
    have r0 := hr2.cell 0
    have r1 := hr2.cell 1
    simp only [List.getElem?_toArray, List.getElem?_cons_zero, List.getElem?_cons_succ] at r0 r1
    have hA := hr2.put 0 (.string ⟨#[]⟩)
    simp only [List.setIfInBounds_toArray, List.set_cons_zero] at hA
    have hB := hA.put 1 (.slice none 0 0)
    simp only [List.setIfInBounds_toArray, List.set_cons_succ, List.set_cons_zero] at hB
    have hbB : Below w.heap.size w ((w1.setCell ⟨w.heap.size + 1, 0, none⟩ (.string ⟨#[]⟩)).setCell ⟨w.heap.size + 1, 1, none⟩ (.slice none 0 0)) := (hz1.setCell (p := ⟨w.heap.size + 1, 0, none⟩) (by show w.heap.size ≤ w.heap.size + 1; omega) _).setCell (p := ⟨w.heap.size + 1, 1, none⟩) (by show w.heap.size ≤ w.heap.size + 1; omega) _
    have z0 := hB.cell 0
    have z1 := hB.cell 1
    simp only [List.getElem?_toArray, List.getElem?_cons_zero, List.getElem?_cons_succ] at z0 z1
    go_wp2_with fail
    (try simp only [Exit.inBlock, Exit.then])
    refine bodyPost_ret (v := .tuple #[.agg #[.string ⟨#[]⟩, .slice none 0 0], .int .i64 1]) ?_ rfl (MakeRet.no HR hbB)
    rw [results_cell_tmp rfl]
    go_simp
  | true =>
  have H34' := Lib.hid (fun h2 => H34.out rfl h2)
  have HYS' := Lib.hid (fun h2 => HYS.out rfl h2)
  have HFO' := Lib.hid (HFO.out rfl)
  clear H1 H34 HYS HFO
  go_wp2_with fail
  refine (hnm _ hz1).mono ?_; rintro e w2 ⟨rfl, hb3⟩
  have hz2 := below_trans hz1 hb3
  have hw3 := hw2.call hb3
  have hr3 := hr2.call hb3
  clear hw2 hr2 hnm
  by_cases he : e0 = 0
  case neg =>
    have hez : (e0 != 0) = true := by simpa using he
    have HR := H34'.out (.inl he)
    clear he H34' HYS' HFO' hp1 hp2
    have t0 := hr3.thaw 0
    have t1 := hr3.thaw 1
    have r0 := hr3.cell 0
    have r1 := hr3.cell 1
    simp only [List.getElem?_toArray, List.getElem?_cons_zero, List.getElem?_cons_succ] at r0 r1
    have hA := hr3.put 0 (.string ⟨#[]⟩)
    simp only [List.setIfInBounds_toArray, List.set_cons_zero] at hA
    have hB := hA.put 1 (.slice none 0 0)
    simp only [List.setIfInBounds_toArray, List.set_cons_succ, List.set_cons_zero] at hB
    have hbB : Below w.heap.size w ((w2.setCell ⟨w.heap.size + 1, 0, none⟩ (.string ⟨#[]⟩)).setCell ⟨w.heap.size + 1, 1, none⟩ (.slice none 0 0)) := (hz2.setCell (p := ⟨w.heap.size + 1, 0, none⟩) (by show w.heap.size ≤ w.heap.size + 1; omega) _).setCell (p := ⟨w.heap.size + 1, 1, none⟩) (by show w.heap.size ≤ w.heap.size + 1; omega) _
    have z0 := hB.cell 0
    have z1 := hB.cell 1
    simp only [List.getElem?_toArray, List.getElem?_cons_zero, List.getElem?_cons_succ] at z0 z1
    go_wp2_with fail
    (try simp only [Exit.inBlock, Exit.then])
    refine bodyPost_ret (v := .tuple #[.agg #[.string ⟨#[]⟩, .slice none 0 0], .int .i64 34]) ?_ rfl (MakeRet.no HR hbB)
    rw [results_cell_tmp rfl]
    go_simp
  subst he
  cases n with
  | nil =>
    have HR := H34'.out (.inr rfl)
    clear H34' HYS' HFO' hp1 hp2
    have t0 := hr3.thaw 0
    have t1 := hr3.thaw 1
    have r0 := hr3.cell 0
    have r1 := hr3.cell 1
    simp only [List.getElem?_toArray, List.getElem?_cons_zero, List.getElem?_cons_succ] at r0 r1
    have hA := hr3.put 0 (.string ⟨#[]⟩)
    simp only [List.setIfInBounds_toArray, List.set_cons_zero] at hA
    have hB := hA.put 1 (.slice none 0 0)
    simp only [List.setIfInBounds_toArray, List.set_cons_succ, List.set_cons_zero] at hB
    have hbB : Below w.heap.size w ((w2.setCell ⟨w.heap.size + 1, 0, none⟩ (.string ⟨#[]⟩)).setCell ⟨w.heap.size + 1, 1, none⟩ (.slice none 0 0)) := (hz2.setCell (p := ⟨w.heap.size + 1, 0, none⟩) (by show w.heap.size ≤ w.heap.size + 1; omega) _).setCell (p := ⟨w.heap.size + 1, 1, none⟩) (by show w.heap.size ≤ w.heap.size + 1; omega) _
    have z0 := hB.cell 0
    have z1 := hB.cell 1
    simp only [List.getElem?_toArray, List.getElem?_cons_zero, List.getElem?_cons_succ] at z0 z1
    go_wp2_with fail
    (try simp only [Exit.inBlock, Exit.then])
    refine bodyPost_ret (v := .tuple #[.agg #[.string ⟨#[]⟩, .slice none 0 0], .int .i64 34]) ?_ rfl (MakeRet.no HR hbB)
    rw [results_cell_tmp rfl]
    go_simp
  | cons n0 nr =>
  have HYS2 := Lib.hid (HYS'.out (by simp))
  clear H34' HYS'
  generalize hgn : n0 :: nr = n at *
  have hpe : n.isEmpty = false := by subst hgn; rfl
  have hpe2 : (n == []) = false := by subst hgn; rfl
  have hpe3 : ¬ n = [] := by subst hgn; simp
  clear hgn
  have q0 := hw3.cell 0
  have q1 := hw3.cell 1
  simp only [List.getElem?_toArray, List.getElem?_cons_zero, List.getElem?_cons_succ] at q0 q1
  go_wp2_with fail
  refine (hp1 _ hz2).mono ?_; rintro e w3 ⟨vo, rfl, hvo, hb4⟩
  have hz3 := below_trans hz2 hb4
  go_wp2_with fail
  refine (hp2 _ hz3).mono ?_; rintro e w4 ⟨vf, rfl, hvf, hb5⟩
  have hz4 := below_trans hz3 hb5
  have hvo4 := hvo.call hb5 (Nat.le_refl _)
  have hb35 := below_trans hb4 hb5
  have hw5 := hw3.call hb35
  have hr5 := hr3.call hb35
  have hrow5 : RowAt C w w4 (.slice ua xs.length uc) xs := by
    rcases hrow0 with h | h
    · exact .inl h
    · exact .inr (h.call hz4)
  clear hp1 hp2 q0 q1 hw3 hr3 hvo hrow0 hpe hpe2 hpe3
  have t0 := hw5.thaw 0
  have q0 := hw5.cell 0
  simp only [List.getElem?_toArray, List.getElem?_cons_zero] at q0
  have hA := hw5.put 0 (.string ⟨n.toArray⟩)
  have hrowA := hrow5.other hw5 hC 0 (.string ⟨n.toArray⟩)
  have hrA := hr5.other (p := ⟨w.heap.size, 0, none⟩) (by show w.heap.size + 1 ≠ w.heap.size; omega) (.string ⟨n.toArray⟩)
  have hfA := hvf.other hw5 0 (.string ⟨n.toArray⟩)
  have hoA := hvo4.other hw5 0 (.string ⟨n.toArray⟩)
  simp only [List.setIfInBounds_toArray, List.set_cons_zero] at hA
  have hbA : Below w.heap.size w (w4.setCell ⟨w.heap.size, 0, none⟩ (.string ⟨n.toArray⟩)) := hz4.setCell (p := ⟨w.heap.size, 0, none⟩) (Nat.le_refl _) _
  have HVF := Lib.hid hvf
  obtain ⟨fa, fc, rfl, hfc, _⟩ := AvasIn.atk hvf
  obtain ⟨oa, oc, rfl, hoc, _⟩ := AvasIn.atk hvo4
  clear hvf hvo4 hw5 hr5 hrow5 HVF
  obtain ⟨LAY, hLAY⟩ : ∃ l, EnS.layL n xs FR = l := ⟨_, rfl⟩
  obtain ⟨LES, hLES⟩ : ∃ l, EnS.lessL n del FR LAY OL = l := ⟨_, rfl⟩
  have HR2 : Hid (R = EnS.doneS ⟨n, LES⟩ 64) := Lib.hid (by rw [HYS2.out, hLAY, hLES])
  have HL0 : Hid (LAY = EnS.layL n xs (FR.drop 0)) := Lib.hid hLAY.symm
  have HE0 : Hid (LES = EnS.lessL n del FR LAY (OL.drop 0)) := Lib.hid hLES.symm
  have HSX : Hid (EnS.soundA [] xs = true) := Lib.hid HFO'.out.1
  have HFX : Hid (EnS.FitQ (20 + 0) xs) := Lib.hid (fun a ha => ⟨HFO'.out.2 a ha, (HFQ.out.2 a ha).2⟩)
  clear hLAY hLES HYS2 HFO' HFQ
  go_wp2_with fail
  go_loopw [44] (fun i wr => ∃ (k : Nat) (y : Value) (q : List EnS.At), k ≤ FR.length ∧ i = .int .i64 k ∧ RowAt C w wr y q ∧ Hid (LAY = EnS.layL n q (FR.drop k)) ∧ Hid (EnS.soundA [] q = true) ∧ Hid (EnS.FitQ (20 + k) q) ∧ Whole wr w.heap.size 26 #[.string ⟨n.toArray⟩, y] ∧ Whole wr (w.heap.size + 1) 26 #[.string ⟨#[]⟩, .slice none 0 0] ∧ AvasIn wr (.slice fa FR.length fc) FR ∧ AvasIn wr (.slice oa OL.length oc) OL ∧ Below w.heap.size w wr) (fun i _ => FR.length - (intOf i).toNat)
  case atStart => exact ⟨0, _, xs, Nat.zero_le _, rfl, hrowA, HL0, HSX, HFX, hA, hrA, hfA, hoA, hbA⟩
  case round =>
    obtain ⟨k, y, q, hk, rfl, hrow, HLY, HSO, HFQ, hw, hr, hfr, hol, hb⟩ := hrel
    clear hA hrA hfA hoA hbA hrowA HL0 HSX HFX t0 q0 hb1 hb2 hb3 hb4 hb5 hb35 hz1 hz2 hz3 hz4
    obtain ⟨ya, yc, rfl⟩ := hrow.form
    obtain ⟨QL, hQL⟩ : ∃ n, q.length = n := ⟨_, rfl⟩
    have hfa := rowfit HFQ.out (by have := hs2.1; omega) HSO.out
    rw [hQL] at hrow hw
    by_cases hlt : k < FR.length
    · obtain ⟨_, _, e1, _, hat⟩ := AvasIn.atk hfr
      cases e1
      obtain ⟨g, o, rfl, hg, c0, c1⟩ := hat k hlt
      have hsm := hs2.2 _ (List.getElem_mem hlt)
      have hgd := hg2p _ (List.getElem_mem hlt)
      have HLY1 := Lib.hid (HLY.out.trans (EnS.layL_at hlt))
      clear hat HLY
      generalize FR[k] = p at *
      obtain ⟨t, v⟩ := p
      unfold strV at c0 c1
      simp only at c0 c1 hsm
      have hl0 : (0 : Int) ≤ (k : Int) := by omega
      have hl1 : (k : Int) < (FR.length : Int) := by omega
      have HNO := Lib.hid (fun h => EnS.lay_no (n := n) (l := q) (p := (t, v)) h)
      have HYE := Lib.hid (fun h => EnS.lay_yes (n := n) (l := q) (p := (t, v)) h)
      have HSN := Lib.hid (EnS.lay_sound (n := n) (l := q) (p := (t, v)) hgd HSO.out)
      have HVV := EnS.values_good (n := n) (l := q) (p := (t, v)) hgd
      have HFV := EnS.FitQ.values HFQ.out t
      simp only at HNO HYE HVV
      have hgX := grow1 wr (.cells #[.string ⟨t.toArray⟩, .string ⟨v.toArray⟩] 68)
      have hwX := Whole.made wr 68 #[.string ⟨t.toArray⟩, .string ⟨v.toArray⟩]
      have hzX := hb.trans (hgX.mono hb.size)
      have x0 := hwX.cell 0
      have x1 := hwX.cell 1
      have hwA := hw.call hgX
      have y0 := hwA.cell 0
      have y1 := hwA.cell 1
      simp only [List.getElem?_toArray, List.getElem?_cons_zero, List.getElem?_cons_succ] at x0 x1 y0 y1
      have hha := has_c n q (.slice ya QL yc) t v _ (HEN.out _ hzX) (AttrsE.ins ((hrow.call hgX).attrs hzX)) hfa (by omega) (by omega)
      unfold NmBool at hha
      generalize EnS.hasS ⟨n, q⟩ t v = HB at *
      go_wp2_with fail
      refine hha.mono ?_; rintro e wv ⟨rfl, hbv⟩
      have hbx := hgX.trans (hbv.mono hgX.size)
      have hzv := hb.trans (hbx.mono hb.size)
      have hrowv := hrow.call hbx
      have hwv := hw.call hbx
      have hrv := hr.call hbx
      have hfrv := hfr.call hbx (Nat.le_refl _)
      have holv := hol.call hbx (Nat.le_refl _)
      have hwXv := hwX.call hbv
      clear hha hrow hw hr hfr hol hwX hwA x0 x1 y0 y1
      cases HB with
      | true =>
        have hq := HNO.out rfl
        have HL2 := Lib.hid (show LAY = EnS.layL n q (FR.drop (k + 1)) from by rw [HLY1.out, hq])
        have HF2 : Hid (EnS.FitQ (20 + (k + 1)) q) := Lib.hid (fun a ha => ⟨by have := (HFQ.out a ha).1; omega, (HFQ.out a ha).2⟩)
        clear HNO HYE HLY1 hq HSN
        go_wp2_with fail
        go_roundw
        case rel => exact ⟨k + 1, _, q, by omega, by go_num, hrowv, HL2, HSO, HF2, hwv, hrv, hfrv, holv, hzv⟩
        case measure => simp [intOf]; omega
      | false =>
        have hq := HYE.out rfl
        have hvl := fun W (hb : Below wv.heap.size wv W) => values_c n q (.slice ya QL yc) t W (AttrsE.ins ((hrowv.call hb).attrs (hzv.trans (hb.mono hzv.size)))) hfa (by omega)
        unfold OwnRet at hvl
        rw [HVV] at hvl hq
        generalize EnS.valuesL q t = V at *
        have HL2 := Lib.hid (show LAY = EnS.layL n (EnS.setL t (V ++ [v]) q) (FR.drop (k + 1)) from by rw [HLY1.out, hq])
        have HS2 : Hid (EnS.soundA [] (EnS.setL t (V ++ [v]) q) = true) := Lib.hid (by have := HSN.out; rwa [hq] at this)
        have HF2 : Hid (EnS.FitQ (20 + (k + 1)) (EnS.setL t (V ++ [v]) q)) := Lib.hid (EnS.FitQ.set HFQ.out (by omega) t (by rw [List.length_append]; have := HFV.1; show V.length + 1 ≤ _; omega) (fun z hz => by
          rcases List.mem_append.1 hz with hz | hz
          · exact HFV.2 z hz
          · rw [List.mem_singleton] at hz; subst hz; omega))
        have hset := fun W (hb : Below wv.heap.size wv W) lv (hs : StrsIn W lv (V ++ [v])) => enset_c C n q (.slice ya QL yc) t (V ++ [v]) lv W (Nat.le_trans hC (hzv.trans (hb.mono hzv.size)).size) ((hrowv.call hb).attrs (hzv.trans (hb.mono hzv.size))) (EnS.sound_sort HSO.out) (by have := hfa.1; omega) hs (by rw [List.length_append]; have := HFV.1; have := hs2.1; show V.length + 1 ≤ _; omega)
        unfold CopyRet at hset
        have hVb : V.length ≤ 100 := by have := HFV.1; have := hs2.1; omega
        obtain ⟨VL, hVL⟩ : ∃ n, V.length = n := ⟨_, rfl⟩
        clear HNO HYE HLY1 hq HSN HSO HFQ HFV
        obtain ⟨bk, hbk⟩ : ∃ x, wr.heap.size = x := ⟨_, rfl⟩
        rw [hbk] at hwXv ⊢
        have e0n := hwv.cell 0
        have e1n := hwv.cell 1
        have p0 := hwXv.cell 0
        have p1 := hwXv.cell 1
        simp only [List.getElem?_toArray, List.getElem?_cons_zero, List.getElem?_cons_succ] at e0n e1n p0 p1
        have hbD : Below wv.heap.size wv wv.drew := below_drewN wv 1
        go_wp2_with fail
        refine head_begin 12 (fun W => W.cell? ⟨w.heap.size, 0, none⟩ = some (.string ⟨n.toArray⟩) ∧ W.cell? ⟨w.heap.size, 1, none⟩ = some (.slice ya QL yc) ∧ W.cell? ⟨bk, 0, none⟩ = some (.string ⟨t.toArray⟩) ∧ W.cell? ⟨bk, 1, none⟩ = some (.string ⟨v.toArray⟩)) (by kernel_rfl) (by kernel_rfl) ⟨e0n, e1n, p0, p1⟩ (fun hHeld => ?_)
        refine head_take 0 ?_ (by simp only [List.length_cons, List.length_nil]; decide) (by kernel_rfl) (fun _ _ _ h => h) (by rfl) ?_ hHeld ?_
        rotate_left
        · intro W hSw; (try simp only [List.getElem_cons_zero]); (try go_split_ands); go_simp; (try with_reducible rfl)
        (try simp only [List.getElem_cons_zero, Act.put, List.setIfInBounds_toArray, List.set_cons_zero, List.set_cons_succ])
        refine head_take 1 ?_ (by simp only [List.length_cons, List.length_nil]; decide) (by kernel_rfl) (fun _ _ _ h => h) (by rfl) ?_ hHeld ?_
        rotate_left
        · intro W hSw; (try simp only [List.getElem_cons_succ, List.getElem_cons_zero]); (try go_split_ands); go_simp; (try with_reducible rfl)
        (try simp only [List.getElem_cons_succ, List.getElem_cons_zero, Act.put, List.setIfInBounds_toArray, List.set_cons_zero, List.set_cons_succ])
        refine head_take 2 ?_ (by simp only [List.length_cons, List.length_nil]; decide) (by kernel_rfl) (fun _ _ _ h => h) (by rfl) ?_ hHeld ?_
        rotate_left
        · intro W hSw; (try simp only [List.getElem_cons_succ, List.getElem_cons_zero]); (try go_split_ands); go_simp; (try with_reducible rfl)
        (try simp only [List.getElem_cons_succ, List.getElem_cons_zero, Act.put, List.setIfInBounds_toArray, List.set_cons_zero, List.set_cons_succ])
        refine head_take 3 ?_ (by simp only [List.length_cons, List.length_nil]; decide) (by kernel_rfl) (fun _ _ _ h => h) (by rfl) ?_ hHeld ?_
        rotate_left
        · intro W hSw; (try simp only [List.getElem_cons_succ, List.getElem_cons_zero]); (try go_split_ands); go_simp; (try with_reducible rfl)
        (try simp only [List.getElem_cons_succ, List.getElem_cons_zero, Act.put, List.setIfInBounds_toArray, List.set_cons_zero, List.set_cons_succ])
        refine head_take 4 ?_ (by simp only [List.length_cons, List.length_nil]; decide) (by kernel_rfl) (fun _ _ _ h => h) (by rfl) ?_ hHeld ?_
        rotate_left
        · intro W hSw; (try simp only [List.getElem_cons_succ, List.getElem_cons_zero]); (try go_split_ands); go_simp; (try with_reducible rfl)
        (try simp only [List.getElem_cons_succ, List.getElem_cons_zero, Act.put, List.setIfInBounds_toArray, List.set_cons_zero, List.set_cons_succ])
        refine head_take 5 ?_ (by simp only [List.length_cons, List.length_nil]; decide) (by kernel_rfl) (fun _ _ _ h => h) (by rfl) ?_ hHeld ?_
        rotate_left
        · intro W hSw; (try simp only [List.getElem_cons_succ, List.getElem_cons_zero]); (try go_split_ands); go_simp; (try with_reducible rfl)
        (try simp only [List.getElem_cons_succ, List.getElem_cons_zero, Act.put, List.setIfInBounds_toArray, List.set_cons_zero, List.set_cons_succ])
        refine head_take 7 ?_ (by simp only [List.length_cons, List.length_nil]; decide) (by kernel_rfl) (fun _ _ _ h => h) (by rfl) ?_ hHeld ?_
        rotate_left
        · intro W hSw; (try simp only [List.getElem_cons_succ, List.getElem_cons_zero]); (try go_split_ands); go_simp; (try with_reducible rfl)
        (try simp only [List.getElem_cons_succ, List.getElem_cons_zero, Act.put, List.setIfInBounds_toArray, List.set_cons_zero, List.set_cons_succ])
        refine head_take 8 ?_ (by simp only [List.length_cons, List.length_nil]; decide) (by kernel_rfl) (fun _ _ _ h => h) (by rfl) ?_ hHeld ?_
        rotate_left
        · intro W hSw; (try simp only [List.getElem_cons_succ, List.getElem_cons_zero]); (try go_split_ands); go_simp; (try with_reducible rfl)
        (try simp only [List.getElem_cons_succ, List.getElem_cons_zero, Act.put, List.setIfInBounds_toArray, List.set_cons_zero, List.set_cons_succ])
        refine head_two 6 9 (by simp only [List.length_cons, List.length_nil]; decide) (by simp only [List.length_cons, List.length_nil]; decide) (by kernel_rfl) (fun K hK => ?_) (fun K hK => ?_)
        · (try simp only [List.getElem_cons_succ, List.getElem_cons_zero])
          refine if_step (by rfl) ?_
          go_simp
          have hvc := hvl _ hbD
          with_reducible refine hvc.mono ?_
          rintro e w6 ⟨v6, rfl, ho6, hb6⟩
          obtain ⟨a6, c6, rfl⟩ := ho6.form
          rw [hVL] at ho6 ⊢
          have hbE := hbD.trans (hb6.mono hbD.size)
          have ho6 := ho6.mono (B' := wv.heap.size) hbD.size
          (try dsimp only)
          refine hK.out _ _ ?_ (fun hHeld => ?_)
          · exact ⟨keepC e0n hbE, keepC e1n hbE, keepC p0 hbE, keepC p1 hbE⟩
          clear hK K
          (try simp only [Act.put, List.setIfInBounds_toArray, List.set_cons_zero, List.set_cons_succ])
          refine head_step 9 (by simp only [List.length_cons, List.length_nil]; decide) (by kernel_rfl) (fun K hK => ?_)
          (try simp only [List.getElem_cons_succ, List.getElem_cons_zero])
          refine if_step (by rfl) ?_
          go_simp
          have hwS := Whole.made w6 9 #[.string ⟨v.toArray⟩]
          have hgS := grow1 w6 (.cells #[.string ⟨v.toArray⟩] 9)
          have ho6 := ho6.call hgS
          have hbF := hbE.trans (hgS.mono hbE.size)
          refine hK.out _ _ ?_ (fun hHeld => ?_)
          · exact ⟨keepC e0n hbF, keepC e1n hbF, keepC p0 hbF, keepC p1 hbF⟩
          clear hK K
          (try simp only [List.getElem_cons_succ, List.getElem_cons_zero, Act.put, List.setIfInBounds_toArray, List.set_cons_zero, List.set_cons_succ])
          refine head_step 10 (by simp only [List.length_cons, List.length_nil]; decide) (by kernel_rfl) (fun K hK => ?_)
          (try simp only [List.getElem_cons_succ, List.getElem_cons_zero])
          refine if_step (by rfl) ?_
          refine wp_strs _ _ (by rfl) wv.heap.size _ V (by rfl) ho6 _ [v] (by rfl) (strs_one hwS) (by simp; omega) hbF.size ?_
          intro v7 w7 ho7 hb7
          obtain ⟨a7, c7, rfl⟩ := ho7.form
          obtain ⟨L7, hL7⟩ : ∃ n, (V ++ [v]).length = n := ⟨_, rfl⟩
          rw [hL7] at ho7 ⊢
          have hbG := hbF.trans hb7
          refine hK.out _ _ ?_ (fun hHeld => ?_)
          · exact ⟨keepC e0n hbG, keepC e1n hbG, keepC p0 hbG, keepC p1 hbG⟩
          clear hK K
          (try simp only [Act.put, List.setIfInBounds_toArray, List.set_cons_zero, List.set_cons_succ])
          refine head_step 11 (by simp only [List.length_cons, List.length_nil]; decide) (by kernel_rfl) (fun K hK => ?_)
          (try simp only [List.getElem_cons_succ, List.getElem_cons_zero])
          refine if_step (by rfl) ?_
          go_simp
          have hsc := hset w7 hbG _ ho7.strs
          with_reducible refine hsc.mono ?_
          rintro e w8 ⟨u8, rfl, hown8, hb8⟩
          obtain ⟨a8, c8, rfl⟩ := hown8.form
          have hbH := hbG.trans (hb8.mono hbG.size)
          (try dsimp only)
          refine hK.out _ _ ?_ (fun hHeld => ?_)
          · exact ⟨keepC e0n hbH, keepC e1n hbH, keepC p0 hbH, keepC p1 hbH⟩
          clear hK K
          (try simp only [Act.put, List.setIfInBounds_toArray, List.set_cons_zero, List.set_cons_succ])
          refine head_end (by kernel_rfl) ?_
          simp only [List.drop_succ_cons, List.drop_zero]
          have hz8 := hzv.trans (hbH.mono hzv.size)
          obtain ⟨L8, hL8⟩ : ∃ n, (EnS.setL t (V ++ [v]) q).length = n := ⟨_, rfl⟩
          rw [hL8] at hown8 ⊢
          have hw8 := hwv.call hbH
          have hr8 := hrv.call hbH
          have hf8 := hfrv.call hbH (Nat.le_refl _)
          have ho8 := holv.call hbH (Nat.le_refl _)
          have hrow8 : RowAt C w w8 (.slice a8 L8 c8) (EnS.setL t (V ++ [v]) q) := RowAt.own hown8 (by have := hzv.size; have := hbG.size; omega)
          have t0 := hw8.thaw 0
          have t1 := hw8.thaw 1
          have f0 := hw8.cell 0
          have f1 := hw8.cell 1
          simp only [List.getElem?_toArray, List.getElem?_cons_zero, List.getElem?_cons_succ] at f0 f1
          have hA := hw8.put 0 (.string ⟨n.toArray⟩)
          have hrowA := hrow8.other hw8 hC 0 (.string ⟨n.toArray⟩)
          have hrA := hr8.other (p := ⟨w.heap.size, 0, none⟩) (by show w.heap.size + 1 ≠ w.heap.size; omega) (.string ⟨n.toArray⟩)
          have hfA := hf8.other hw8 0 (.string ⟨n.toArray⟩)
          have hoA := ho8.other hw8 0 (.string ⟨n.toArray⟩)
          simp only [List.setIfInBounds_toArray, List.set_cons_zero] at hA
          have hB := hA.put 1 (.slice a8 L8 c8)
          have hrowB := hrowA.other hA hC 1 (.slice a8 L8 c8)
          have hrB := hrA.other (p := ⟨w.heap.size, 1, none⟩) (by show w.heap.size + 1 ≠ w.heap.size; omega) (.slice a8 L8 c8)
          have hfB := hfA.other hA 1 (.slice a8 L8 c8)
          have hoB := hoA.other hA 1 (.slice a8 L8 c8)
          simp only [List.setIfInBounds_toArray, List.set_cons_succ, List.set_cons_zero] at hB
          have hbB : Below w.heap.size w ((w8.setCell ⟨w.heap.size, 0, none⟩ (.string ⟨n.toArray⟩)).setCell ⟨w.heap.size, 1, none⟩ (.slice a8 L8 c8)) := (hz8.setCell (p := ⟨w.heap.size, 0, none⟩) (Nat.le_refl _) _).setCell (p := ⟨w.heap.size, 1, none⟩) (Nat.le_refl _) _
          clear hHeld
          go_wp2_with fail
          go_roundw
          case rel => exact ⟨k + 1, _, EnS.setL t (V ++ [v]) q, by omega, by go_num, hrowB, HL2, HS2, HF2, hB, hrB, hfB, hoB, hbB⟩
          case measure => simp [intOf]; omega
        · (try simp only [List.getElem_cons_succ, List.getElem_cons_zero])
          refine if_step (by rfl) ?_
          go_simp
          have hwS := (Whole.made wv 9 #[.string ⟨v.toArray⟩]).drew
          have hbS : Below wv.heap.size wv (wv.alloc (.cells #[.string ⟨v.toArray⟩] 9)).drew := (grow1 wv _).drew
          refine hK.out _ _ ?_ (fun hHeld => ?_)
          · exact ⟨keepC e0n hbS, keepC e1n hbS, keepC p0 hbS, keepC p1 hbS⟩
          clear hK K
          (try simp only [List.getElem_cons_succ, List.getElem_cons_zero, Act.put, List.setIfInBounds_toArray, List.set_cons_zero, List.set_cons_succ])
          refine head_step 6 (by simp only [List.length_cons, List.length_nil]; decide) (by kernel_rfl) (fun K hK => ?_)
          (try simp only [List.getElem_cons_succ, List.getElem_cons_zero])
          refine if_step (by rfl) ?_
          go_simp
          have hvc := hvl _ hbS
          with_reducible refine hvc.mono ?_
          rintro e w6 ⟨v6, rfl, ho6, hb6⟩
          obtain ⟨a6, c6, rfl⟩ := ho6.form
          rw [hVL] at ho6 ⊢
          have hbE := hbS.trans (hb6.mono hbS.size)
          have hwS := hwS.call hb6
          have hbF := hbE
          have ho6 := ho6.mono (B' := wv.heap.size) hbS.size
          (try dsimp only)
          refine hK.out _ _ ?_ (fun hHeld => ?_)
          · exact ⟨keepC e0n hbE, keepC e1n hbE, keepC p0 hbE, keepC p1 hbE⟩
          clear hK K
          (try simp only [Act.put, List.setIfInBounds_toArray, List.set_cons_zero, List.set_cons_succ])
          refine head_step 10 (by simp only [List.length_cons, List.length_nil]; decide) (by kernel_rfl) (fun K hK => ?_)
          (try simp only [List.getElem_cons_succ, List.getElem_cons_zero])
          refine if_step (by rfl) ?_
          refine wp_strs _ _ (by rfl) wv.heap.size _ V (by rfl) ho6 _ [v] (by rfl) (strs_one hwS) (by simp; omega) hbF.size ?_
          intro v7 w7 ho7 hb7
          obtain ⟨a7, c7, rfl⟩ := ho7.form
          obtain ⟨L7, hL7⟩ : ∃ n, (V ++ [v]).length = n := ⟨_, rfl⟩
          rw [hL7] at ho7 ⊢
          have hbG := hbF.trans hb7
          refine hK.out _ _ ?_ (fun hHeld => ?_)
          · exact ⟨keepC e0n hbG, keepC e1n hbG, keepC p0 hbG, keepC p1 hbG⟩
          clear hK K
          (try simp only [Act.put, List.setIfInBounds_toArray, List.set_cons_zero, List.set_cons_succ])
          refine head_step 11 (by simp only [List.length_cons, List.length_nil]; decide) (by kernel_rfl) (fun K hK => ?_)
          (try simp only [List.getElem_cons_succ, List.getElem_cons_zero])
          refine if_step (by rfl) ?_
          go_simp
          have hsc := hset w7 hbG _ ho7.strs
          with_reducible refine hsc.mono ?_
          rintro e w8 ⟨u8, rfl, hown8, hb8⟩
          obtain ⟨a8, c8, rfl⟩ := hown8.form
          have hbH := hbG.trans (hb8.mono hbG.size)
          (try dsimp only)
          refine hK.out _ _ ?_ (fun hHeld => ?_)
          · exact ⟨keepC e0n hbH, keepC e1n hbH, keepC p0 hbH, keepC p1 hbH⟩
          clear hK K
          (try simp only [Act.put, List.setIfInBounds_toArray, List.set_cons_zero, List.set_cons_succ])
          refine head_end (by kernel_rfl) ?_
          simp only [List.drop_succ_cons, List.drop_zero]
          have hz8 := hzv.trans (hbH.mono hzv.size)
          obtain ⟨L8, hL8⟩ : ∃ n, (EnS.setL t (V ++ [v]) q).length = n := ⟨_, rfl⟩
          rw [hL8] at hown8 ⊢
          have hw8 := hwv.call hbH
          have hr8 := hrv.call hbH
          have hf8 := hfrv.call hbH (Nat.le_refl _)
          have ho8 := holv.call hbH (Nat.le_refl _)
          have hrow8 : RowAt C w w8 (.slice a8 L8 c8) (EnS.setL t (V ++ [v]) q) := RowAt.own hown8 (by have := hzv.size; have := hbG.size; omega)
          have t0 := hw8.thaw 0
          have t1 := hw8.thaw 1
          have f0 := hw8.cell 0
          have f1 := hw8.cell 1
          simp only [List.getElem?_toArray, List.getElem?_cons_zero, List.getElem?_cons_succ] at f0 f1
          have hA := hw8.put 0 (.string ⟨n.toArray⟩)
          have hrowA := hrow8.other hw8 hC 0 (.string ⟨n.toArray⟩)
          have hrA := hr8.other (p := ⟨w.heap.size, 0, none⟩) (by show w.heap.size + 1 ≠ w.heap.size; omega) (.string ⟨n.toArray⟩)
          have hfA := hf8.other hw8 0 (.string ⟨n.toArray⟩)
          have hoA := ho8.other hw8 0 (.string ⟨n.toArray⟩)
          simp only [List.setIfInBounds_toArray, List.set_cons_zero] at hA
          have hB := hA.put 1 (.slice a8 L8 c8)
          have hrowB := hrowA.other hA hC 1 (.slice a8 L8 c8)
          have hrB := hrA.other (p := ⟨w.heap.size, 1, none⟩) (by show w.heap.size + 1 ≠ w.heap.size; omega) (.slice a8 L8 c8)
          have hfB := hfA.other hA 1 (.slice a8 L8 c8)
          have hoB := hoA.other hA 1 (.slice a8 L8 c8)
          simp only [List.setIfInBounds_toArray, List.set_cons_succ, List.set_cons_zero] at hB
          have hbB : Below w.heap.size w ((w8.setCell ⟨w.heap.size, 0, none⟩ (.string ⟨n.toArray⟩)).setCell ⟨w.heap.size, 1, none⟩ (.slice a8 L8 c8)) := (hz8.setCell (p := ⟨w.heap.size, 0, none⟩) (Nat.le_refl _) _).setCell (p := ⟨w.heap.size, 1, none⟩) (Nat.le_refl _) _
          clear hHeld
          go_wp2_with fail
          go_roundw
          case rel => exact ⟨k + 1, _, EnS.setL t (V ++ [v]) q, by omega, by go_num, hrowB, HL2, HS2, HF2, hB, hrB, hfB, hoB, hbB⟩
          case measure => simp [intOf]; omega
    · have hkl : k = FR.length := by omega
      subst hkl
      have hLE := HLY.out.trans (EnS.layL_end (Nat.le_refl _))
      have HE1 : Hid (LES = EnS.lessL n del FR q (OL.drop 0)) := Lib.hid (by rw [HE0.out, hLE])
      have HF1 : Hid (EnS.FitQ 24 q) := Lib.hid (fun a ha => ⟨by have := (HFQ.out a ha).1; have := hs2.1; omega, (HFQ.out a ha).2⟩)
      have hb1 := hb
      clear HLY hLE HE0 HFQ hfa hlt hk
      go_wp2_with fail
      go_loopw [70] (fun i wr => ∃ (k : Nat) (y : Value) (q : List EnS.At), k ≤ OL.length ∧ i = .int .i64 k ∧ RowAt C w wr y q ∧ Hid (LES = EnS.lessL n del FR q (OL.drop k)) ∧ Hid (EnS.soundA [] q = true) ∧ Hid (EnS.FitQ (24) q) ∧ Whole wr w.heap.size 26 #[.string ⟨n.toArray⟩, y] ∧ Whole wr (w.heap.size + 1) 26 #[.string ⟨#[]⟩, .slice none 0 0] ∧ AvasIn wr (.slice fa FR.length fc) FR ∧ AvasIn wr (.slice oa OL.length oc) OL ∧ Below w.heap.size w wr) (fun i _ => OL.length - (intOf i).toNat)
      case atStart => exact ⟨0, _, q, Nat.zero_le _, rfl, hrow, HE1, HSO, HF1, hw, hr, hfr, hol, hb⟩
      case round =>
        clear hrow HE1 HSO HF1 hw hr hfr hol hb hb1 hQL
        obtain ⟨k, y, q, hk, rfl, hrow, HLY, HSO, HFQ, hw, hr, hfr, hol, hb⟩ := hrel
        obtain ⟨ya, yc, rfl⟩ := hrow.form
        obtain ⟨QL, hQL⟩ : ∃ n, q.length = n := ⟨_, rfl⟩
        have hfa := rowfit HFQ.out (by omega) HSO.out
        rw [hQL] at hrow hw
        by_cases hlt : k < OL.length
        · obtain ⟨_, _, e1, _, hat⟩ := AvasIn.atk hol
          cases e1
          obtain ⟨g, o, rfl, hg, c0, c1⟩ := hat k hlt
          have hsm := hs1.2 _ (List.getElem_mem hlt)
          have hgd := hg1p _ (List.getElem_mem hlt)
          have HLY1 := Lib.hid (HLY.out.trans (EnS.lessL_at hlt))
          clear hat HLY
          generalize OL[k] = p at *
          obtain ⟨t, v⟩ := p
          unfold strV at c0 c1
          simp only at c0 c1 hsm
          have hl0 : (0 : Int) ≤ (k : Int) := by omega
          have hl1 : (k : Int) < (OL.length : Int) := by omega
          have HNO := Lib.hid (fun h => EnS.less_no (n := n) (del := del) (fresh := FR) (l := q) (p := (t, v)) h)
          have HSM := Lib.hid (fun h i hn => EnS.less_some (n := n) (del := del) (fresh := FR) (l := q) (p := (t, v)) h (i := i) hn)
          have HFI := Lib.hid (fun h hn => EnS.less_find (n := n) (del := del) (fresh := FR) (l := q) (p := (t, v)) hgd HSO.out h hn)
          have HSN := Lib.hid (EnS.less_sound (n := n) (del := del) (fresh := FR) (l := q) (p := (t, v)) hgd HSO.out)
          have HVV := EnS.values_good (n := n) (l := q) (p := (t, v)) hgd
          have HFV := EnS.FitQ.values HFQ.out t
          simp only at HNO HSM HFI HVV
          rw [HVV] at HSM HFI
          have hgX := grow1 wr (.cells #[.string ⟨t.toArray⟩, .string ⟨v.toArray⟩] 68)
          have hwX := Whole.made wr 68 #[.string ⟨t.toArray⟩, .string ⟨v.toArray⟩]
          have hzX := hb.trans (hgX.mono hb.size)
          have hke := hasren_c (t, v) (by simp only; omega) (.slice fa FR.length fc) FR wr.heap.size _ (HEN.out _ hzX) hwX (hfr.call hgX (Nat.le_refl _)) (by omega) (fun p hp => by have := hs2.2 p hp; omega)
          unfold NmBool at hke
          generalize EnS.keptB FR (t, v) = KB at *
          go_wp2_with fail
          refine hke.mono ?_; rintro e wv ⟨rfl, hbv⟩
          have hbx := hgX.trans (hbv.mono hgX.size)
          have hzv := hb.trans (hbx.mono hb.size)
          have hrowv := hrow.call hbx
          have hwv := hw.call hbx
          have hrv := hr.call hbx
          have hfrv := hfr.call hbx (Nat.le_refl _)
          have holv := hol.call hbx (Nat.le_refl _)
          have hwXv := hwX.call hbv
          have hvl := values_c n q (.slice ya QL yc) t wv (AttrsE.ins (hrowv.attrs hzv)) hfa (by omega)
          unfold OwnRet at hvl
          rw [HVV] at hvl
          generalize EnS.valuesL q t = V at *
          obtain ⟨bk, hbk⟩ : ∃ x, wr.heap.size = x := ⟨_, rfl⟩
          rw [hbk] at hwXv ⊢
          have e0n := hwv.cell 0
          have e1n := hwv.cell 1
          have p0 := hwXv.cell 0
          have p1 := hwXv.cell 1
          simp only [List.getElem?_toArray, List.getElem?_cons_zero, List.getElem?_cons_succ] at e0n e1n p0 p1
          clear hke hrow hw hr hfr hol hwX hgX
          go_wp2_with fail
          refine hvl.mono ?_; rintro e w2 ⟨v2, rfl, hl2, hb2⟩
          have hz2 := hzv.trans (hb2.mono hzv.size)
          have x02 := keepC p0 hb2
          have x12 := keepC p1 hb2
          have hfi := find_c t v v2 V w2 (HEN.out _ hz2) (by omega) (by omega) hl2.strs (by have := HFV.1; omega) HFV.2
          unfold IdxRetI at hfi
          obtain ⟨a2, c2, rfl⟩ := hl2.form
          obtain ⟨VL, hVL⟩ : ∃ n, V.length = n := ⟨_, rfl⟩
          rw [hVL] at hl2 hfi ⊢
          generalize hFI : EnS.findI t V v = FI at *
          clear hvl
          go_wp2_with fail
          refine hfi.mono ?_; rintro e w3 ⟨rfl, hb3⟩
          have hb33 := hb2.trans (hb3.mono hb2.size)
          have hz3 := hzv.trans (hb33.mono hzv.size)
          have hl3 := hl2.call hb3
          clear hfi x02 x12 hl2
          cases hdk : (del && !KB) with
          | false =>
            have hq := HNO.out hdk
            have HL2 := Lib.hid (show LES = EnS.lessL n del FR q (OL.drop (k + 1)) from by rw [HLY1.out, hq])
            have hrow3 := hrowv.call hb33
            have hw3 := hwv.call hb33
            have hr3 := hrv.call hb33
            have hfr3 := hfrv.call hb33 (Nat.le_refl _)
            have hol3 := holv.call hb33 (Nat.le_refl _)
            clear HNO HSM HFI HLY1 hq HSN hrowv hwv hrv hfrv holv hl3
            cases del with
            | false =>
              clear hdk
              go_wp2_with fail
              go_roundw
              case rel => exact ⟨k + 1, _, q, by omega, by go_num, hrow3, HL2, HSO, HFQ, hw3, hr3, hfr3, hol3, hz3⟩
              case measure => simp [intOf]; omega
            | true =>
              cases KB with
              | false => cases hdk
              | true =>
                clear hdk
                go_wp2_with fail
                go_roundw
                case rel => exact ⟨k + 1, _, q, by omega, by go_num, hrow3, HL2, HSO, HFQ, hw3, hr3, hfr3, hol3, hz3⟩
                case measure => simp [intOf]; omega
          | true =>
            have hdt : del = true := by
              cases del with
              | false => cases hdk
              | true => rfl
            have hkf : KB = false := by
              subst hdt
              cases KB with
              | false => rfl
              | true => cases hdk
            subst hdt
            subst hkf
            cases FI with
            | none =>
              have hq := HFI.out hdk rfl
              have HL2 := Lib.hid (show LES = EnS.lessL n true FR q (OL.drop (k + 1)) from by rw [HLY1.out, hq])
              have hng : decide ((0 : Int) ≤ idxI none) = false := rfl
              have hrow3 := hrowv.call hb33
              have hw3 := hwv.call hb33
              have hr3 := hrv.call hb33
              have hfr3 := hfrv.call hb33 (Nat.le_refl _)
              have hol3 := holv.call hb33 (Nat.le_refl _)
              clear HNO HSM HFI HLY1 hq HSN hdk hFI hrowv hwv hrv hfrv holv hl3
              go_wp2_with fail
              go_roundw
              case rel => exact ⟨k + 1, _, q, by omega, by go_num, hrow3, HL2, HSO, HFQ, hw3, hr3, hfr3, hol3, hz3⟩
              case measure => simp [intOf]; omega
            | some i1 =>
              have hq := HSM.out hdk i1 rfl
              have hix : idxI (some i1) = (i1 : Int) := rfl
              rw [hix]
              have hng : decide ((0 : Int) ≤ (i1 : Int)) = true := decide_eq_true (by omega)
              have hi1 : i1 < V.length := by
                unfold EnS.findI at hFI
                split at hFI
                · exact (List.findIdx?_eq_some_iff_findIdx_eq.1 hFI).1
                · cases hFI
              have HL2 := Lib.hid (show LES = EnS.lessL n true FR (EnS.setL t (V.eraseIdx i1) q) (OL.drop (k + 1)) from by rw [HLY1.out, hq])
              have HS2 : Hid (EnS.soundA [] (EnS.setL t (V.eraseIdx i1) q) = true) := Lib.hid (by have := HSN.out; rwa [hq] at this)
              have hVE : (V.eraseIdx i1).length ≤ 24 := by rw [List.length_eraseIdx_of_lt hi1]; have := HFV.1; omega
              have HF2 : Hid (EnS.FitQ 24 (EnS.setL t (V.eraseIdx i1) q)) := Lib.hid (EnS.FitQ.set HFQ.out (by omega) t hVE (fun z hz => HFV.2 z ((List.eraseIdx_sublist V i1).subset hz)))
              have hset := fun W (hb : Below wv.heap.size wv W) lv (hs : StrsIn W lv (V.eraseIdx i1)) => enset_c C n q (.slice ya QL yc) t (V.eraseIdx i1) lv W (Nat.le_trans hC (hzv.trans (hb.mono hzv.size)).size) ((hrowv.call hb).attrs (hzv.trans (hb.mono hzv.size))) (EnS.sound_sort HSO.out) (by have := hfa.1; omega) hs (by omega)
              unfold CopyRet at hset
              have hdel := fun W (hb : Below w3.heap.size w3 W) => delete_c (.slice a2 VL c2) V wv.heap.size i1 W (hl3.call hb) hi1
              unfold DelRet at hdel
              have f0 := keepC e0n hb33
              have f1 := keepC e1n hb33
              have f2 := keepC p0 hb33
              have f3 := keepC p1 hb33
              have hwr : IntKind.i64.wrap ((i1 : Int) + 1) = (i1 : Int) + 1 := by have := HFV.1; unfold IntKind.wrap; simp [IntKind.signed, IntKind.bits]; omega
              have hbD3 : Below w3.heap.size w3 w3.drew := below_drewN w3 1
              have hbD := hb33.trans (hbD3.mono hb33.size)
              clear HNO HSM HFI HLY1 hq HSN hdk hFI HSO HFQ HFV
              go_wp2_with fail
              refine head_begin 9 (fun W => W.cell? ⟨w.heap.size, 0, none⟩ = some (.string ⟨n.toArray⟩) ∧ W.cell? ⟨w.heap.size, 1, none⟩ = some (.slice ya QL yc) ∧ W.cell? ⟨bk, 0, none⟩ = some (.string ⟨t.toArray⟩) ∧ W.cell? ⟨bk, 1, none⟩ = some (.string ⟨v.toArray⟩)) (by kernel_rfl) (by kernel_rfl) ⟨f0, f1, f2, f3⟩ (fun hHeld => ?_)
              refine head_take 0 ?_ (by simp only [List.length_cons, List.length_nil]; decide) (by kernel_rfl) (fun _ _ _ h => h) (by rfl) ?_ hHeld ?_
              rotate_left
              · intro W hSw; (try simp only [List.getElem_cons_zero]); (try go_split_ands); go_simp; (try with_reducible rfl)
              (try simp only [List.getElem_cons_zero, Act.put, List.setIfInBounds_toArray, List.set_cons_zero, List.set_cons_succ])
              refine head_take 1 ?_ (by simp only [List.length_cons, List.length_nil]; decide) (by kernel_rfl) (fun _ _ _ h => h) (by rfl) ?_ hHeld ?_
              rotate_left
              · intro W hSw; (try simp only [List.getElem_cons_succ, List.getElem_cons_zero]); (try go_split_ands); go_simp; (try with_reducible rfl)
              (try simp only [List.getElem_cons_succ, List.getElem_cons_zero, Act.put, List.setIfInBounds_toArray, List.set_cons_zero, List.set_cons_succ])
              refine head_take 2 ?_ (by simp only [List.length_cons, List.length_nil]; decide) (by kernel_rfl) (fun _ _ _ h => h) (by rfl) ?_ hHeld ?_
              rotate_left
              · intro W hSw; (try simp only [List.getElem_cons_succ, List.getElem_cons_zero]); (try go_split_ands); go_simp; (try with_reducible rfl)
              (try simp only [List.getElem_cons_succ, List.getElem_cons_zero, Act.put, List.setIfInBounds_toArray, List.set_cons_zero, List.set_cons_succ])
              refine head_take 3 ?_ (by simp only [List.length_cons, List.length_nil]; decide) (by kernel_rfl) (fun _ _ _ h => h) (by rfl) ?_ hHeld ?_
              rotate_left
              · intro W hSw; (try simp only [List.getElem_cons_succ, List.getElem_cons_zero]); (try go_split_ands); go_simp; (try with_reducible rfl)
              (try simp only [List.getElem_cons_succ, List.getElem_cons_zero, Act.put, List.setIfInBounds_toArray, List.set_cons_zero, List.set_cons_succ])
              refine head_take 4 ?_ (by simp only [List.length_cons, List.length_nil]; decide) (by kernel_rfl) (fun _ _ _ h => h) (by rfl) ?_ hHeld ?_
              rotate_left
              · intro W hSw; (try simp only [List.getElem_cons_succ, List.getElem_cons_zero]); (try go_split_ands); go_simp; (try with_reducible rfl)
              (try simp only [List.getElem_cons_succ, List.getElem_cons_zero, Act.put, List.setIfInBounds_toArray, List.set_cons_zero, List.set_cons_succ])
              refine head_take 5 ?_ (by simp only [List.length_cons, List.length_nil]; decide) (by kernel_rfl) (fun _ _ _ h => h) (by rfl) ?_ hHeld ?_
              rotate_left
              · intro W hSw; (try simp only [List.getElem_cons_succ, List.getElem_cons_zero]); (try go_split_ands); go_simp; (try with_reducible rfl)
              (try simp only [List.getElem_cons_succ, List.getElem_cons_zero, Act.put, List.setIfInBounds_toArray, List.set_cons_zero, List.set_cons_succ])
              refine head_take 6 ?_ (by simp only [List.length_cons, List.length_nil]; decide) (by kernel_rfl) (fun _ _ _ h => h) (by rfl) ?_ hHeld ?_
              rotate_left
              · intro W hSw; (try simp only [List.getElem_cons_succ, List.getElem_cons_zero]); (try go_split_ands); go_simp; (try with_reducible rfl)
              (try simp only [List.getElem_cons_succ, List.getElem_cons_zero, Act.put, List.setIfInBounds_toArray, List.set_cons_zero, List.set_cons_succ])
              refine head_step 7 (by simp only [List.length_cons, List.length_nil]; decide) (by kernel_rfl) (fun K hK => ?_)
              (try simp only [List.getElem_cons_succ, List.getElem_cons_zero])
              refine if_step (by rfl) ?_
              go_simp
              have hdc := hdel _ hbD3
              with_reducible refine hdc.mono ?_
              rintro e w7 ⟨a7, c7, rfl, hsd, hb7⟩
              obtain ⟨L7, hL7⟩ : ∃ n, (V.eraseIdx i1).length = n := ⟨_, rfl⟩
              rw [hL7] at hsd ⊢
              have hbG := hbD.trans hb7
              (try dsimp only)
              refine hK.out _ _ ?_ (fun hHeld => ?_)
              · exact ⟨keepC e0n hbG, keepC e1n hbG, keepC p0 hbG, keepC p1 hbG⟩
              clear hK K
              (try simp only [Act.put, List.setIfInBounds_toArray, List.set_cons_zero, List.set_cons_succ])
              refine head_step 8 (by simp only [List.length_cons, List.length_nil]; decide) (by kernel_rfl) (fun K hK => ?_)
              (try simp only [List.getElem_cons_succ, List.getElem_cons_zero])
              refine if_step (by rfl) ?_
              go_simp
              have hsc := hset w7 hbG _ hsd
              with_reducible refine hsc.mono ?_
              rintro e w8 ⟨u8, rfl, hown8, hb8⟩
              obtain ⟨a8, c8, rfl⟩ := hown8.form
              have hbH := hbG.trans (hb8.mono hbG.size)
              (try dsimp only)
              refine hK.out _ _ ?_ (fun hHeld => ?_)
              · exact ⟨keepC e0n hbH, keepC e1n hbH, keepC p0 hbH, keepC p1 hbH⟩
              clear hK K
              (try simp only [Act.put, List.setIfInBounds_toArray, List.set_cons_zero, List.set_cons_succ])
              refine head_end (by kernel_rfl) ?_
              simp only [List.drop_succ_cons, List.drop_zero]
              have hz8 := hzv.trans (hbH.mono hzv.size)
              obtain ⟨L8, hL8⟩ : ∃ n, (EnS.setL t (V.eraseIdx i1) q).length = n := ⟨_, rfl⟩
              rw [hL8] at hown8 ⊢
              have hw8 := hwv.call hbH
              have hr8 := hrv.call hbH
              have hf8 := hfrv.call hbH (Nat.le_refl _)
              have ho8 := holv.call hbH (Nat.le_refl _)
              have hrow8 : RowAt C w w8 (.slice a8 L8 c8) (EnS.setL t (V.eraseIdx i1) q) := RowAt.own hown8 (by have := hzv.size; have := hbG.size; omega)
              have t0 := hw8.thaw 0
              have t1 := hw8.thaw 1
              have f0 := hw8.cell 0
              have f1 := hw8.cell 1
              simp only [List.getElem?_toArray, List.getElem?_cons_zero, List.getElem?_cons_succ] at f0 f1
              have hA := hw8.put 0 (.string ⟨n.toArray⟩)
              have hrowA := hrow8.other hw8 hC 0 (.string ⟨n.toArray⟩)
              have hrA := hr8.other (p := ⟨w.heap.size, 0, none⟩) (by show w.heap.size + 1 ≠ w.heap.size; omega) (.string ⟨n.toArray⟩)
              have hfA := hf8.other hw8 0 (.string ⟨n.toArray⟩)
              have hoA := ho8.other hw8 0 (.string ⟨n.toArray⟩)
              simp only [List.setIfInBounds_toArray, List.set_cons_zero] at hA
              have hB := hA.put 1 (.slice a8 L8 c8)
              have hrowB := hrowA.other hA hC 1 (.slice a8 L8 c8)
              have hrB := hrA.other (p := ⟨w.heap.size, 1, none⟩) (by show w.heap.size + 1 ≠ w.heap.size; omega) (.slice a8 L8 c8)
              have hfB := hfA.other hA 1 (.slice a8 L8 c8)
              have hoB := hoA.other hA 1 (.slice a8 L8 c8)
              simp only [List.setIfInBounds_toArray, List.set_cons_succ, List.set_cons_zero] at hB
              have hbB : Below w.heap.size w ((w8.setCell ⟨w.heap.size, 0, none⟩ (.string ⟨n.toArray⟩)).setCell ⟨w.heap.size, 1, none⟩ (.slice a8 L8 c8)) := (hz8.setCell (p := ⟨w.heap.size, 0, none⟩) (Nat.le_refl _) _).setCell (p := ⟨w.heap.size, 1, none⟩) (Nat.le_refl _) _
              clear hHeld
              go_wp2_with fail
              go_roundw
              case rel => exact ⟨k + 1, _, EnS.setL t (V.eraseIdx i1) q, by omega, by go_num, hrowB, HL2, HS2, HF2, hB, hrB, hfB, hoB, hbB⟩
              case measure => simp [intOf]; omega
        · have hkl : k = OL.length := by omega
          subst hkl
          have hLE := HLY.out.trans (EnS.lessL_end (Nat.le_refl _))
          have HRD := Lib.hid (show R = EnS.doneS ⟨n, q⟩ 64 from by rw [HR2.out, hLE])
          clear HLY hLE HR2
          have e0 := hw.cell 0
          have e1 := hw.cell 1
          simp only [List.getElem?_toArray, List.getElem?_cons_zero, List.getElem?_cons_succ] at e0 e1
          have hdn := done_c C n q (.slice ya QL yc) 64 wr (Nat.le_trans hC hb.size) (HEN.out _ hb) (hrow.attrs hb) hfa (by omega)
          rw [← HRD.out] at hdn
          unfold MakeRet at hdn
          clear HRD
          go_wp2_with fail
          refine hdn.mono ?_; rintro e w2 ⟨u2, rfl, hown2, hb2⟩
          have hz2 := hb.trans (hb2.mono hb.size)
          have hr2 := hr.call hb2
          obtain ⟨⟨rn, ra⟩, rc⟩ := R
          simp only at hown2 ⊢
          obtain ⟨b2, c2, rfl⟩ := hown2.form
          obtain ⟨RL, hRL⟩ : ∃ n, ra.length = n := ⟨_, rfl⟩
          rw [hRL] at hown2 ⊢
          have hown3 := hown2.mono (B' := w.heap.size) hb.size
          have t0 := hr2.thaw 0
          have t1 := hr2.thaw 1
          have r0 := hr2.cell 0
          have r1 := hr2.cell 1
          simp only [List.getElem?_toArray, List.getElem?_cons_zero, List.getElem?_cons_succ] at r0 r1
          have hA := hr2.put 0 (.string ⟨rn.toArray⟩)
          have hoA := hown3.other hr2 (by omega) (by decide) (by decide) 0 (.string ⟨rn.toArray⟩)
          simp only [List.setIfInBounds_toArray, List.set_cons_zero] at hA
          have hB := hA.put 1 (.slice b2 RL c2)
          have hoB := hoA.other hA (by omega) (by decide) (by decide) 1 (.slice b2 RL c2)
          simp only [List.setIfInBounds_toArray, List.set_cons_succ, List.set_cons_zero] at hB
          have hbB : Below w.heap.size w ((w2.setCell ⟨w.heap.size + 1, 0, none⟩ (.string ⟨rn.toArray⟩)).setCell ⟨w.heap.size + 1, 1, none⟩ (.slice b2 RL c2)) := (hz2.setCell (p := ⟨w.heap.size + 1, 0, none⟩) (by show w.heap.size ≤ w.heap.size + 1; omega) _).setCell (p := ⟨w.heap.size + 1, 1, none⟩) (by show w.heap.size ≤ w.heap.size + 1; omega) _
          have y0 := hB.cell 0
          have y1 := hB.cell 1
          simp only [List.getElem?_toArray, List.getElem?_cons_zero, List.getElem?_cons_succ] at y0 y1
          clear hw hr hfr hol e0 e1 hdn
          go_wp2_with fail
          (try simp only [Exit.inBlock, Exit.then])
          refine bodyPost_ret (v := .tuple #[.agg #[.string ⟨rn.toArray⟩, .slice b2 RL c2], .int .i64 rc]) ?_ rfl ⟨_, rfl, hoB, hbB⟩
          clear hA hoA hB hoB hbB hown2 hown3 hr2 hz2 hrow
          generalize (w2.setCell ⟨w.heap.size + 1, 0, none⟩ (.string ⟨rn.toArray⟩)).setCell ⟨w.heap.size + 1, 1, none⟩ (.slice b2 RL c2) = wf at *
          rw [results_cell_tmp rfl]
          go_simp
end Go.Proofs.YtdcljilfnkmloaaGreatDoor
