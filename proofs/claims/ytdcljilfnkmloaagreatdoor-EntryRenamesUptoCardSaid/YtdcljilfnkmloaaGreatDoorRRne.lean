/- The walk of the document's Rename. Conditions: those that the theorem states; the library's variables are laid. -/
import Derived.Test.YtdcljilfnkmloaaGreatDoorRRnd
namespace Go.Proofs.YtdcljilfnkmloaaGreatDoor
open Go.RowKit
attribute [local go_sem ↓] Go.wp_at_zero Go.wp_at_succ

theorem name_head {s n : List UInt8} (h : DnS.normN s = (n, 0)) (h0 : n ≠ []) : ∃ r, DnS.nameS s = (EnS.pairsS s :: r, 0) ∧ EnS.pairsS s ≠ [] := by
  have ht : DnS.textsS s = ((DnS.textsS s).1, 0) := by
    have := congrArg Prod.snd h
    unfold DnS.normN at this
    rw [← show (DnS.textsS s).2 = 0 from this]
  obtain ⟨l, hl, hm, _⟩ := DnS.textsS_spec ht
  cases l with
  | nil =>
    have := congrArg Prod.fst h
    unfold DnS.normN at this
    rw [hm] at this
    exact absurd this.symm h0
  | cons p r =>
    have hf := (DnS.nameS_formed hl).2.1 p (List.mem_cons_self ..)
    unfold EnS.pairsS
    rw [hl]
    refine ⟨r, rfl, fun e => ?_⟩
    unfold RdS.formedS at hf
    rw [Bool.and_eq_true, Bool.and_eq_true] at hf
    have := of_decide_eq_true hf.1.1
    have e2 : p = [] := e
    rw [e2] at this
    simp at this
theorem formed_head {e : EnS.En} (h : EnS.formedE e = true) : ∃ r, DnS.nameS e.name = (EnS.pairsS e.name :: r, 0) ∧ EnS.pairsS e.name ≠ [] := name_head (EnS.formed_parts h).1 (EnS.formed_parts h).2.1
/-- a slice of pairs in a slice stays where an entry's block is written -/
theorem fst_other {w : World} {g o A C m c L yc : Nat} {a ya : Option Addr} {P : List RdS.Pr} {q : List EnS.At} {s : ByteArray} (hc : w.cell? ⟨g, o, none⟩ = some (.slice a m c)) (hP : AvasIn w (.slice a m c) P) (h0 : P ≠ []) (hw : Whole w A 26 #[.string s, .slice ya L yc]) (hq : AttrsE [9] C w (.slice ya L yc) q) (i : Nat) (y : Value) :
    (w.setCell ⟨A, i, none⟩ y).cell? ⟨g, o, none⟩ = some (.slice a m c) := by
  have hne : g ≠ A := fun e => by
    subst e
    have hc2 := hc
    rw [hw.cell] at hc2
    match o, hc2 with
    | 0, hc2 => simp at hc2
    | 1, hc2 =>
      simp only [List.getElem?_toArray, List.getElem?_cons_succ, List.getElem?_cons_zero, Option.some.injEq] at hc2
      rw [hc2] at hq
      obtain ⟨b, d, e1, _, hcase⟩ := hP
      cases e1
      obtain ⟨b2, d2, e2, _, hcase2⟩ := hq
      injection e2 with e4 hlen e6
      rcases hcase with hcase | ⟨g1, o1, rfl, _, hcell⟩
      · exact h0 hcase
      · rcases hcase2 with hcase2 | ⟨g2, o2, e3, _, _, hcell2⟩
        · rw [hcase2] at hlen
          exact h0 (List.eq_nil_of_length_eq_zero hlen)
        · rw [e3] at e4
          cases e4
          cases P with
          | nil => exact h0 rfl
          | cons p r =>
            cases q with
            | nil => simp at hlen
            | cons z zs =>
              have k1 := (hcell 0 p rfl).2
              obtain ⟨_, u, k2, k3⟩ := hcell2 0 z rfl
              rw [k2] at k1
              obtain ⟨a9, c9, e9, _⟩ := SliceP.form k3
              rw [e9] at k1
              simp [strV] at k1
    | o + 2, hc2 => simp at hc2
  exact (World.cell?_of_block (a := ⟨g, o, none⟩) (Below.heap_setCell w ⟨A, i, none⟩ y g hne)).trans hc
set_option maxRecDepth 100000 in
set_option maxHeartbeats 8000000 in
theorem refrename_c (C : Nat) (name : List UInt8) (xs : List EnS.At) (u : Value) (tn : List UInt8) (del : Bool) (w : World) (hC : C ≤ w.heap.size) (h : AttrsE [9] C w u xs) (hf : FitA xs) (ht : ∀ x ∈ xs, x.typ.length ≤ 1048576) (hn : name.length ≤ 1000000) (hto : tn.length ≤ 1000000) (hE : Env w) :
    Calls Tryz.prog 13 #[.agg #[.string ⟨name.toArray⟩, u], .string ⟨tn.toArray⟩, .bool del] w (MakeRet C (EnS.renameS ⟨name, xs⟩ tn del) w) := by
  have hb0 := grow1 w (.cells #[.string ⟨name.toArray⟩, u] 26)
  have hw0 := Whole.made w 26 #[.string ⟨name.toArray⟩, u]
  have hg1 := grow1 (w.alloc (.cells #[.string ⟨name.toArray⟩, u] 26)) (.cells #[.string ⟨#[]⟩, .slice none 0 0] 26)
  have hb1 := below_trans hb0 hg1
  have hw1 := hw0.call hg1
  have hr1 := Whole.made (w.alloc (.cells #[.string ⟨name.toArray⟩, u] 26)) 26 #[.string ⟨#[]⟩, .slice none 0 0]
  have hmade : (w.alloc (.cells #[.string ⟨name.toArray⟩, u] 26)).heap.size = w.heap.size + 1 := by show (w.heap.push _).size = _; exact Array.size_push _
  rw [hmade] at hr1
  have HEN := Lib.hid (fun W (hb : Below w.heap.size w W) => hE.below hb)
  have hfm := enrefformed_c name xs u _ (HEN.out _ hb1) (AttrsE.ins (h.callT hb1)) hf hn ht
  unfold NmBool at hfm
  have H1 := Lib.hid (fun h => EnS.renameS_1 (e := ⟨name, xs⟩) (tn := tn) (del := del) h)
  have H34 := Lib.hid (fun h h2 => EnS.renameS_34 (e := ⟨name, xs⟩) (tn := tn) (del := del) h h2)
  have HYS := Lib.hid (fun h h2 => EnS.renameS_yes (e := ⟨name, xs⟩) (tn := tn) (del := del) h h2)
  have HFO := Lib.hid (fun h => EnS.formed_sound2 (e := ⟨name, xs⟩) h)
  have hnl := DnS.norm_len tn
  simp only at HYS HFO
  obtain ⟨n, e0, hNN⟩ : ∃ n e, DnS.normN tn = (n, e) := ⟨_, _, rfl⟩
  have HNN := Lib.hid (fun h => DnS.norm_norm (s := tn) h)
  rw [hNN] at HNN
  simp only at HNN
  have hnm := fun W (hb : Below w.heap.size w W) => rnnormal_c tn hto W (HEN.out _ hb)
  unfold NmTxt at hnm
  rw [hNN] at H34 HYS hnl hnm
  simp only at H34 HYS hnl hnm
  have hp1 := fun W (hb : Below w.heap.size w W) => refname_c name hn W (HEN.out _ hb)
  have hp2 := fun W (hb : Below w.heap.size w W) => refname_c tn hto W (HEN.out _ hb)
  unfold NameRet at hp1 hp2
  have hs1 := pairs_small name
  have hs2 := pairs_small tn
  have hg1p := EnS.pairs_good (s := name)
  have hg2p := EnS.pairs_good (s := tn)
  have HH1 := Lib.hid (fun (h : e0 = 0) => name_head (s := tn) (n := n) (by rw [hNN, h]))
  have HH2 := Lib.hid (fun h => formed_head (e := ⟨name, xs⟩) h)
  simp only at HH2
  generalize EnS.renameS ⟨name, xs⟩ tn del = R at *
  generalize EnS.formedE ⟨name, xs⟩ = F at *
  generalize EnS.pairsS name = OL at *
  generalize DnS.nameS name = NO at *
  generalize EnS.pairsS tn = FR at *
  generalize DnS.nameS tn = NF at *
  obtain ⟨ua, uc, rfl, _⟩ := SliceP.form h
  have hrow0 : RowAt C w w (.slice ua xs.length uc) xs := .inl h
  have HFQ : Hid (FitA xs) := Lib.hid hf
  clear hf ht hn hto hE h hmade hb0 hg1 hw0 hNN
  have q0 := hw1.cell 0
  have q1 := hw1.cell 1
  simp only [List.getElem?_toArray, List.getElem?_cons_zero, List.getElem?_cons_succ] at q0 q1
  go_enter Tryz.func13, Tryz.ntmps13
  go_wp2_with fail
  refine hfm.mono ?_; rintro e w1 ⟨rfl, hb2⟩
  have hz1 := below_trans hb1 hb2
  have hw2 := hw1.call hb2
  have hr2 := hr1.call hb2
  clear hfm hw1 hr1 q0 q1
  cases F with
  | false =>
    have HR := H1.out rfl
    clear H1 H34 HYS HFO hp1 hp2 hnm
    have t0 := hr2.thaw 0
    have t1 := hr2.thaw 1
    have r0 := hr2.cell 0
    have r1 := hr2.cell 1
    simp only [List.getElem?_toArray, List.getElem?_cons_zero, List.getElem?_cons_succ] at r0 r1
    have hA := hr2.put 0 (.string ⟨#[]⟩)
    simp only [List.setIfInBounds_toArray, List.set_cons_zero] at hA
    have hB := hA.put 1 (.slice none 0 0)
    simp only [List.setIfInBounds_toArray, List.set_cons_succ, List.set_cons_zero] at hB
    have hbB : Below w.heap.size w ((w1.setCell ⟨w.heap.size + 1, 0, none⟩ (.string ⟨#[]⟩)).setCell ⟨w.heap.size + 1, 1, none⟩ (.slice none 0 0)) := (hz1.setCell (p := ⟨w.heap.size + 1, 0, none⟩) (by show w.heap.size ≤ w.heap.size + 1; omega) _).setCell (p := ⟨w.heap.size + 1, 1, none⟩) (by show w.heap.size ≤ w.heap.size + 1; omega) _
    have z0 := hB.cell 0
    have z1 := hB.cell 1
    simp only [List.getElem?_toArray, List.getElem?_cons_zero, List.getElem?_cons_succ] at z0 z1
    go_wp2_with fail
    (try simp only [Exit.inBlock, Exit.then])
    refine bodyPost_ret (v := .tuple #[.agg #[.string ⟨#[]⟩, .slice none 0 0], .int .i64 1]) ?_ rfl (MakeRet.no HR hbB)
    rw [results_cell_tmp rfl]
    go_simp
  | true =>
  have H34' := Lib.hid (fun h2 => H34.out rfl h2)
  have HYS' := Lib.hid (fun h2 => HYS.out rfl h2)
  have HFO' := Lib.hid (HFO.out rfl)
  have HH2' := Lib.hid (HH2.out rfl)
  clear H1 H34 HYS HFO
  go_wp2_with fail
  refine (hnm _ hz1).mono ?_; rintro e w2 ⟨rfl, hb3⟩
  have hz2 := below_trans hz1 hb3
  have hw3 := hw2.call hb3
  have hr3 := hr2.call hb3
  clear hw2 hr2 hnm
  by_cases he : e0 = 0
  case neg =>
    have hez : (e0 != 0) = true := by simpa using he
    have HR := H34'.out (.inl he)
    clear he H34' HYS' HFO' hp1 hp2
    have t0 := hr3.thaw 0
    have t1 := hr3.thaw 1
    have r0 := hr3.cell 0
    have r1 := hr3.cell 1
    simp only [List.getElem?_toArray, List.getElem?_cons_zero, List.getElem?_cons_succ] at r0 r1
    have hA := hr3.put 0 (.string ⟨#[]⟩)
    simp only [List.setIfInBounds_toArray, List.set_cons_zero] at hA
    have hB := hA.put 1 (.slice none 0 0)
    simp only [List.setIfInBounds_toArray, List.set_cons_succ, List.set_cons_zero] at hB
    have hbB : Below w.heap.size w ((w2.setCell ⟨w.heap.size + 1, 0, none⟩ (.string ⟨#[]⟩)).setCell ⟨w.heap.size + 1, 1, none⟩ (.slice none 0 0)) := (hz2.setCell (p := ⟨w.heap.size + 1, 0, none⟩) (by show w.heap.size ≤ w.heap.size + 1; omega) _).setCell (p := ⟨w.heap.size + 1, 1, none⟩) (by show w.heap.size ≤ w.heap.size + 1; omega) _
    have z0 := hB.cell 0
    have z1 := hB.cell 1
    simp only [List.getElem?_toArray, List.getElem?_cons_zero, List.getElem?_cons_succ] at z0 z1
    go_wp2_with fail
    (try simp only [Exit.inBlock, Exit.then])
    refine bodyPost_ret (v := .tuple #[.agg #[.string ⟨#[]⟩, .slice none 0 0], .int .i64 34]) ?_ rfl (MakeRet.no HR hbB)
    rw [results_cell_tmp rfl]
    go_simp
  subst he
  cases n with
  | nil =>
    have HR := H34'.out (.inr rfl)
    clear H34' HYS' HFO' hp1 hp2
    have t0 := hr3.thaw 0
    have t1 := hr3.thaw 1
    have r0 := hr3.cell 0
    have r1 := hr3.cell 1
    simp only [List.getElem?_toArray, List.getElem?_cons_zero, List.getElem?_cons_succ] at r0 r1
    have hA := hr3.put 0 (.string ⟨#[]⟩)
    simp only [List.setIfInBounds_toArray, List.set_cons_zero] at hA
    have hB := hA.put 1 (.slice none 0 0)
    simp only [List.setIfInBounds_toArray, List.set_cons_succ, List.set_cons_zero] at hB
    have hbB : Below w.heap.size w ((w2.setCell ⟨w.heap.size + 1, 0, none⟩ (.string ⟨#[]⟩)).setCell ⟨w.heap.size + 1, 1, none⟩ (.slice none 0 0)) := (hz2.setCell (p := ⟨w.heap.size + 1, 0, none⟩) (by show w.heap.size ≤ w.heap.size + 1; omega) _).setCell (p := ⟨w.heap.size + 1, 1, none⟩) (by show w.heap.size ≤ w.heap.size + 1; omega) _
    have z0 := hB.cell 0
    have z1 := hB.cell 1
    simp only [List.getElem?_toArray, List.getElem?_cons_zero, List.getElem?_cons_succ] at z0 z1
    go_wp2_with fail
    (try simp only [Exit.inBlock, Exit.then])
    refine bodyPost_ret (v := .tuple #[.agg #[.string ⟨#[]⟩, .slice none 0 0], .int .i64 34]) ?_ rfl (MakeRet.no HR hbB)
    rw [results_cell_tmp rfl]
    go_simp
  | cons n0 nr =>
  have HYS2 := Lib.hid (HYS'.out (by simp))
  clear H34' HYS'
  generalize hgn : n0 :: nr = n at *
  have hpe : n.isEmpty = false := by subst hgn; rfl
  have hpe2 : (n == []) = false := by subst hgn; rfl
  have hpe3 : ¬ n = [] := by subst hgn; simp
  clear hgn
  have HNN2 := Lib.hid (HNN.out rfl)
  have HNZ := Lib.hid hpe3
  have hFL : FR.length ≤ 3 := hs2.1
  have hON : OL.length ≤ 3 := hs1.1
  have HS1p := Lib.hid hs1
  have HS2p := Lib.hid hs2
  clear hs1 hs2
  obtain ⟨r1, hNF, hFR0⟩ := HH1.out rfl hpe3
  obtain ⟨r2, hNO, hOL0⟩ := HH2'.out
  rw [hNO] at hp1
  rw [hNF] at hp2
  have q0 := hw3.cell 0
  have q1 := hw3.cell 1
  simp only [List.getElem?_toArray, List.getElem?_cons_zero, List.getElem?_cons_succ] at q0 q1
  clear HH1 HH2 HH2' hNF hNO
  go_wp2_with fail
  refine (hp1 _ hz2).mono ?_; rintro e w3 ⟨vo, rfl, hvo, hb4⟩
  have hz3 := below_trans hz2 hb4
  obtain ⟨ao, co, rfl, _, hcase⟩ := hvo.at
  rcases hcase with hcase | ⟨gq, oq, rfl, _, hcell⟩
  · cases hcase
  obtain ⟨uq, hcq, hoq⟩ := hcell 0 OL rfl
  rw [Nat.add_zero] at hcq
  obtain ⟨qa, qc, rfl, _, _⟩ := AvasIn.atk hoq
  clear hvo hcell
  obtain ⟨LO, hLO⟩ : ∃ n, (OL :: r2).length = n := ⟨_, rfl⟩
  rw [hLO]
  have hLO0 : (0 : Int) < (LO : Int) := by rw [← hLO, List.length_cons]; omega
  have hLO1 : 0 < LO := by omega
  have hLO2 : ¬ LO = 0 := by omega
  go_wp2_with fail
  refine (hp2 _ hz3).mono ?_; rintro e w4 ⟨vf, rfl, hvf, hb5⟩
  have hz4 := below_trans hz3 hb5
  obtain ⟨af, cf, rfl, _, hcase⟩ := hvf.at
  rcases hcase with hcase | ⟨gp, op, rfl, _, hcell⟩
  · cases hcase
  obtain ⟨up, hcp, hop⟩ := hcell 0 FR rfl
  rw [Nat.add_zero] at hcp
  obtain ⟨pa, pc, rfl, _, _⟩ := AvasIn.atk hop
  clear hvf hcell
  obtain ⟨LF, hLF⟩ : ∃ n, (FR :: r1).length = n := ⟨_, rfl⟩
  rw [hLF]
  have hLF0 : (0 : Int) < (LF : Int) := by rw [← hLF, List.length_cons]; omega
  have hLF1 : 0 < LF := by omega
  have hLF2 : ¬ LF = 0 := by omega
  have hoq4 := hoq.call hb5 (Nat.le_refl _)
  have hcq4 := keepC hcq hb5
  have hb35 := below_trans hb4 hb5
  have hw5 := hw3.call hb35
  have hr5 := hr3.call hb35
  have hrow5 : RowAt C w w4 (.slice ua xs.length uc) xs := by
    rcases hrow0 with h | h
    · exact .inl h
    · exact .inr (h.call hz4)
  clear hp1 hp2 q0 q1 hw3 hr3 hoq hcq hrow0 hpe hpe2 hpe3
  have t0 := hw5.thaw 0
  have q0 := hw5.cell 0
  simp only [List.getElem?_toArray, List.getElem?_cons_zero] at q0
  have hA := hw5.put 0 (.string ⟨n.toArray⟩)
  have hrowA := hrow5.other hw5 hC 0 (.string ⟨n.toArray⟩)
  have hrA := hr5.other (p := ⟨w.heap.size, 0, none⟩) (by show w.heap.size + 1 ≠ w.heap.size; omega) (.string ⟨n.toArray⟩)
  have hfA := hop.other hw5 0 (.string ⟨n.toArray⟩)
  have hoA := hoq4.other hw5 0 (.string ⟨n.toArray⟩)
  have hcfA := fst_other hcp hop hFR0 hw5 (hrow5.attrs hz4) 0 (.string ⟨n.toArray⟩)
  have hcoA := fst_other hcq4 hoq4 hOL0 hw5 (hrow5.attrs hz4) 0 (.string ⟨n.toArray⟩)
  simp only [List.setIfInBounds_toArray, List.set_cons_zero] at hA
  have hbA : Below w.heap.size w (w4.setCell ⟨w.heap.size, 0, none⟩ (.string ⟨n.toArray⟩)) := hz4.setCell (p := ⟨w.heap.size, 0, none⟩) (Nat.le_refl _) _
  clear hop hoq4 hw5 hr5 hrow5 hcp hcq4
  obtain ⟨LAY, hLAY⟩ : ∃ l, EnS.layL n xs FR = l := ⟨_, rfl⟩
  obtain ⟨LES, hLES⟩ : ∃ l, EnS.lessL n del FR LAY OL = l := ⟨_, rfl⟩
  have HR2 : Hid (R = EnS.doneS ⟨n, LES⟩ 64) := Lib.hid (by rw [HYS2.out, hLAY, hLES])
  have HL0 : Hid (LAY = EnS.layL n xs (FR.drop 0)) := Lib.hid hLAY.symm
  have HE0 : Hid (LES = EnS.lessL n del FR LAY (OL.drop 0)) := Lib.hid hLES.symm
  have HSX : Hid (EnS.soundA [] xs = true) := Lib.hid HFO'.out.1
  have HFX : Hid (EnS.FitQ (20 + 0) xs) := Lib.hid (fun a ha => ⟨HFO'.out.2 a ha, (HFQ.out.2 a ha).2⟩)
  clear hLAY hLES HYS2 HFO' HFQ
  go_wp2_with fail
  go_loopw [52] (fun i wr => ∃ (k : Nat) (y : Value) (q : List EnS.At), k ≤ FR.length ∧ i = .int .i64 k ∧ RowAt C w wr y q ∧ Hid (LAY = EnS.layL n q (FR.drop k)) ∧ Hid (EnS.soundA [] q = true) ∧ Hid (EnS.FitQ (20 + k) q) ∧ Whole wr w.heap.size 26 #[.string ⟨n.toArray⟩, y] ∧ Whole wr (w.heap.size + 1) 26 #[.string ⟨#[]⟩, .slice none 0 0] ∧ wr.cell? ⟨gp, op, none⟩ = some (.slice pa FR.length pc) ∧ AvasIn wr (.slice pa FR.length pc) FR ∧ wr.cell? ⟨gq, oq, none⟩ = some (.slice qa OL.length qc) ∧ AvasIn wr (.slice qa OL.length qc) OL ∧ Below w.heap.size w wr) (fun i _ => FR.length - (intOf i).toNat)
  case atStart => exact ⟨0, _, xs, Nat.zero_le _, rfl, hrowA, HL0, HSX, HFX, hA, hrA, hcfA, hfA, hcoA, hoA, hbA⟩
  case round =>
    obtain ⟨k, y, q, hk, rfl, hrow, HLY, HSO, HFQ, hw, hr, hcf, hfr, hco, hol, hb⟩ := hrel
    clear hA hrA hfA hoA hcfA hcoA hbA hrowA HL0 HSX HFX t0 q0 hb1 hb2 hb3 hb4 hb5 hb35 hz1 hz2 hz3 hz4
    obtain ⟨ya, yc, rfl⟩ := hrow.form
    obtain ⟨QL, hQL⟩ : ∃ n, q.length = n := ⟨_, rfl⟩
    have hfa := rowfit HFQ.out (by have := HS2p.out.1; omega) HSO.out
    rw [hQL] at hrow hw
    by_cases hlt : k < FR.length
    · obtain ⟨_, _, e1, _, hat⟩ := AvasIn.atk hfr
      cases e1
      obtain ⟨g2, o2, rfl, hg, c0, c1⟩ := hat k hlt
      have hsm := HS2p.out.2 _ (List.getElem_mem hlt)
      have hgd := hg2p _ (List.getElem_mem hlt)
      have HLY1 := Lib.hid (HLY.out.trans (EnS.layL_at hlt))
      clear hat HLY
      generalize FR[k] = p at *
      obtain ⟨t, v⟩ := p
      unfold strV at c0 c1
      simp only at c0 c1 hsm
      have hl0 : (0 : Int) ≤ (k : Int) := by omega
      have hl1 : (k : Int) < (FR.length : Int) := by omega
      have HNO := Lib.hid (fun h => EnS.lay_no (n := n) (l := q) (p := (t, v)) h)
      have HYE := Lib.hid (fun h => EnS.lay_yes (n := n) (l := q) (p := (t, v)) h)
      have HSN := Lib.hid (EnS.lay_sound (n := n) (l := q) (p := (t, v)) hgd HSO.out)
      have HVV := EnS.values_good (n := n) (l := q) (p := (t, v)) hgd
      have HFV := Lib.hid (EnS.FitQ.values HFQ.out t)
      simp only at HNO HYE HVV
      have hha := fun W (hbx : Below wr.heap.size wr W) => refhas_c n q (.slice ya QL yc) t v W (HEN.out _ (hb.trans (hbx.mono hb.size))) (AttrsE.ins ((hrow.call hbx).attrs (hb.trans (hbx.mono hb.size)))) hfa (by omega) (by omega)
      unfold NmBool at hha
      generalize EnS.hasS ⟨n, q⟩ t v = HB at *
      have e0n := hw.cell 0
      have e1n := hw.cell 1
      simp only [List.getElem?_toArray, List.getElem?_cons_zero, List.getElem?_cons_succ] at e0n e1n
      have hbD0 : Below wr.heap.size wr wr.drew := below_drewN wr 1
      go_wp2_with fail
      go_region_held3 (fun W => W.cell? ⟨w.heap.size, 0, none⟩ = some (.string ⟨n.toArray⟩) ∧ W.cell? ⟨w.heap.size, 1, none⟩ = some (.slice ya QL yc) ∧ W.cell? ⟨gp, op, none⟩ = some (.slice (some ⟨g2, o2, none⟩) FR.length pc) ∧ W.cell? ⟨g2, o2 + k * 2, none⟩ = some (.string ⟨t.toArray⟩) ∧ W.cell? ⟨g2, o2 + k * 2 + 1, none⟩ = some (.string ⟨v.toArray⟩) ∧ Below wr.heap.size wr W)
        (first | exact ⟨keepC e0n hbD0, keepC e1n hbD0, keepC hcf hbD0, keepC c0 hbD0, keepC c1 hbD0, hbD0⟩ | (go_split_ands; exact ⟨keepC (by assumption) hbN, keepC (by assumption) hbN, keepC (by assumption) hbN, keepC (by assumption) hbN, keepC (by assumption) hbN, Below.trans (by assumption) (hbN.mono (Below.size (by assumption)))⟩) | go_keep)
        (first | (go_at_call 48; go_split_ands; with_reducible refine (hha _ (by assumption)).mono ?_; rintro e wN ⟨rfl, hbN⟩))
      go_split_ands
      have hbx : Below wr.heap.size wr wN := by assumption
      obtain ⟨wv, rfl⟩ : ∃ x, x = wN := ⟨_, rfl⟩
      have hzv := hb.trans (hbx.mono hb.size)
      have hrowv := hrow.call hbx
      have hwv := hw.call hbx
      have hrv := hr.call hbx
      have hcfv := keepC hcf hbx
      have hcov := keepC hco hbx
      have hfrv := hfr.call hbx (Nat.le_refl _)
      have holv := hol.call hbx (Nat.le_refl _)
      have p0 := keepC c0 hbx
      have p1 := keepC c1 hbx
      clear hha hrow hw hr hcf hco hfr hol c0 c1 e0n e1n
      cases HB with
      | true =>
        have hq := HNO.out rfl
        have HL2 := Lib.hid (show LAY = EnS.layL n q (FR.drop (k + 1)) from by rw [HLY1.out, hq])
        have HF2 : Hid (EnS.FitQ (20 + (k + 1)) q) := Lib.hid (fun a ha => ⟨by have := (HFQ.out a ha).1; omega, (HFQ.out a ha).2⟩)
        clear HNO HYE HLY1 hq HSN
        go_wp2_with fail
        go_roundw
        case rel => exact ⟨k + 1, _, q, by omega, by go_num, hrowv, HL2, HSO, HF2, hwv, hrv, hcfv, hfrv, hcov, holv, hzv⟩
        case measure => simp [intOf]; omega
      | false =>
        have hq := HYE.out rfl
        have hvl := fun W (hb : Below wv.heap.size wv W) => refvalues_c n q (.slice ya QL yc) t W (AttrsE.ins ((hrowv.call hb).attrs (hzv.trans (hb.mono hzv.size)))) hfa (by omega)
        unfold OwnRet at hvl
        rw [HVV] at hvl hq
        generalize EnS.valuesL q t = V at *
        have HL2 := Lib.hid (show LAY = EnS.layL n (EnS.setL t (V ++ [v]) q) (FR.drop (k + 1)) from by rw [HLY1.out, hq])
        have HS2 : Hid (EnS.soundA [] (EnS.setL t (V ++ [v]) q) = true) := Lib.hid (by have := HSN.out; rwa [hq] at this)
        have HF2 : Hid (EnS.FitQ (20 + (k + 1)) (EnS.setL t (V ++ [v]) q)) := Lib.hid (EnS.FitQ.set HFQ.out (by omega) t (by rw [List.length_append]; have := HFV.out.1; show V.length + 1 ≤ _; omega) (fun z hz => by
          rcases List.mem_append.1 hz with hz | hz
          · exact HFV.out.2 z hz
          · rw [List.mem_singleton] at hz; subst hz; omega))
        have hset := fun W (hb : Below wv.heap.size wv W) lv (hs : StrsP (okT [9] C W) W lv (V ++ [v])) => refset_c C n q (.slice ya QL yc) t (V ++ [v]) lv W (Nat.le_trans hC (hzv.trans (hb.mono hzv.size)).size) ((hrowv.call hb).attrs (hzv.trans (hb.mono hzv.size))) (EnS.sound_sort HSO.out) (by have := hfa.1; omega) hs (by rw [List.length_append]; have := HFV.out.1; have := HS2p.out.1; show V.length + 1 ≤ _; omega)
        unfold CopyRet at hset
        have hVb : V.length ≤ 100 := by have := HFV.out.1; have := HS2p.out.1; omega
        obtain ⟨VL, hVL⟩ : ∃ n, V.length = n := ⟨_, rfl⟩
        clear HNO HYE HLY1 hq HSN HSO HFQ HFV
        have e0n := hwv.cell 0
        have e1n := hwv.cell 1
        have cfn := hcfv
        simp only [List.getElem?_toArray, List.getElem?_cons_zero, List.getElem?_cons_succ] at e0n e1n
        have hbD : Below wv.heap.size wv wv.drew := below_drewN wv 1
        go_wp2_with fail
        refine head_begin 27 (fun W => W.cell? ⟨w.heap.size, 0, none⟩ = some (.string ⟨n.toArray⟩) ∧ W.cell? ⟨w.heap.size, 1, none⟩ = some (.slice ya QL yc) ∧ W.cell? ⟨gp, op, none⟩ = some (.slice (some ⟨g2, o2, none⟩) FR.length pc) ∧ W.cell? ⟨g2, o2 + k * 2, none⟩ = some (.string ⟨t.toArray⟩) ∧ W.cell? ⟨g2, o2 + k * 2 + 1, none⟩ = some (.string ⟨v.toArray⟩)) (by kernel_rfl) (by kernel_rfl) ⟨e0n, e1n, cfn, p0, p1⟩ (fun hHeld => ?_)
        refine head_take 0 ?_ (by simp only [List.length_cons, List.length_nil]; decide) (by kernel_rfl) (fun _ _ _ h => h) (by rfl) ?_ hHeld ?_
        rotate_left
        · intro W hSw; (try simp only [List.getElem_cons_zero]); (try go_split_ands); go_simp; (try with_reducible rfl)
        (try simp only [List.getElem_cons_zero, Act.put, List.setIfInBounds_toArray, List.set_cons_zero, List.set_cons_succ])
        refine head_take 1 ?_ (by simp only [List.length_cons, List.length_nil]; decide) (by kernel_rfl) (fun _ _ _ h => h) (by rfl) ?_ hHeld ?_
        rotate_left
        · intro W hSw; (try simp only [List.getElem_cons_succ, List.getElem_cons_zero]); (try go_split_ands); go_simp; (try with_reducible rfl)
        (try simp only [List.getElem_cons_succ, List.getElem_cons_zero, Act.put, List.setIfInBounds_toArray, List.set_cons_zero, List.set_cons_succ])
        refine head_take 2 ?_ (by simp only [List.length_cons, List.length_nil]; decide) (by kernel_rfl) (fun _ _ _ h => h) (by rfl) ?_ hHeld ?_
        rotate_left
        · intro W hSw; (try simp only [List.getElem_cons_succ, List.getElem_cons_zero]); (try go_split_ands); go_simp; (try with_reducible rfl)
        (try simp only [List.getElem_cons_succ, List.getElem_cons_zero, Act.put, List.setIfInBounds_toArray, List.set_cons_zero, List.set_cons_succ])
        refine head_take 3 ?_ (by simp only [List.length_cons, List.length_nil]; decide) (by kernel_rfl) (fun _ _ _ h => h) (by rfl) ?_ hHeld ?_
        rotate_left
        · intro W hSw; (try simp only [List.getElem_cons_succ, List.getElem_cons_zero]); (try go_split_ands); go_simp; (try with_reducible rfl)
        (try simp only [List.getElem_cons_succ, List.getElem_cons_zero, Act.put, List.setIfInBounds_toArray, List.set_cons_zero, List.set_cons_succ])
        refine head_take 4 ?_ (by simp only [List.length_cons, List.length_nil]; decide) (by kernel_rfl) (fun _ _ _ h => h) (by rfl) ?_ hHeld ?_
        rotate_left
        · intro W hSw; (try simp only [List.getElem_cons_succ, List.getElem_cons_zero]); (try go_split_ands); go_simp; (try with_reducible rfl)
        (try simp only [List.getElem_cons_succ, List.getElem_cons_zero, Act.put, List.setIfInBounds_toArray, List.set_cons_zero, List.set_cons_succ])
        refine head_take 5 ?_ (by simp only [List.length_cons, List.length_nil]; decide) (by kernel_rfl) (fun _ _ _ h => h) (by rfl) ?_ hHeld ?_
        rotate_left
        · intro W hSw; (try simp only [List.getElem_cons_succ, List.getElem_cons_zero]); (try go_split_ands); go_simp; (try with_reducible rfl)
        (try simp only [List.getElem_cons_succ, List.getElem_cons_zero, Act.put, List.setIfInBounds_toArray, List.set_cons_zero, List.set_cons_succ])
        refine head_take 6 ?_ (by simp only [List.length_cons, List.length_nil]; decide) (by kernel_rfl) (fun _ _ _ h => h) (by rfl) ?_ hHeld ?_
        rotate_left
        · intro W hSw; (try simp only [List.getElem_cons_succ, List.getElem_cons_zero]); (try go_split_ands); go_simp; (try with_reducible rfl)
        (try simp only [List.getElem_cons_succ, List.getElem_cons_zero, Act.put, List.setIfInBounds_toArray, List.set_cons_zero, List.set_cons_succ])
        refine head_take 7 ?_ (by simp only [List.length_cons, List.length_nil]; decide) (by kernel_rfl) (fun _ _ _ h => h) (by rfl) ?_ hHeld ?_
        rotate_left
        · intro W hSw; (try simp only [List.getElem_cons_succ, List.getElem_cons_zero]); (try go_split_ands); go_simp; (try with_reducible rfl)
        (try simp only [List.getElem_cons_succ, List.getElem_cons_zero, Act.put, List.setIfInBounds_toArray, List.set_cons_zero, List.set_cons_succ])
        refine head_take 8 ?_ (by simp only [List.length_cons, List.length_nil]; decide) (by kernel_rfl) (fun _ _ _ h => h) (by rfl) ?_ hHeld ?_
        rotate_left
        · intro W hSw; (try simp only [List.getElem_cons_succ, List.getElem_cons_zero]); (try go_split_ands); go_simp; (try with_reducible rfl)
        (try simp only [List.getElem_cons_succ, List.getElem_cons_zero, Act.put, List.setIfInBounds_toArray, List.set_cons_zero, List.set_cons_succ])
        refine head_take 9 ?_ (by simp only [List.length_cons, List.length_nil]; decide) (by kernel_rfl) (fun _ _ _ h => h) (by rfl) ?_ hHeld ?_
        rotate_left
        · intro W hSw; (try simp only [List.getElem_cons_succ, List.getElem_cons_zero]); (try go_split_ands); go_simp; (try with_reducible rfl)
        (try simp only [List.getElem_cons_succ, List.getElem_cons_zero, Act.put, List.setIfInBounds_toArray, List.set_cons_zero, List.set_cons_succ])
        refine head_take 10 ?_ (by simp only [List.length_cons, List.length_nil]; decide) (by kernel_rfl) (fun _ _ _ h => h) (by rfl) ?_ hHeld ?_
        rotate_left
        · intro W hSw; (try simp only [List.getElem_cons_succ, List.getElem_cons_zero]); (try go_split_ands); go_simp; (try with_reducible rfl)
        (try simp only [List.getElem_cons_succ, List.getElem_cons_zero, Act.put, List.setIfInBounds_toArray, List.set_cons_zero, List.set_cons_succ])
        refine head_take 11 ?_ (by simp only [List.length_cons, List.length_nil]; decide) (by kernel_rfl) (fun _ _ _ h => h) (by rfl) ?_ hHeld ?_
        rotate_left
        · intro W hSw; (try simp only [List.getElem_cons_succ, List.getElem_cons_zero]); (try go_split_ands); go_simp; (try with_reducible rfl)
        (try simp only [List.getElem_cons_succ, List.getElem_cons_zero, Act.put, List.setIfInBounds_toArray, List.set_cons_zero, List.set_cons_succ])
        refine head_take 12 ?_ (by simp only [List.length_cons, List.length_nil]; decide) (by kernel_rfl) (fun _ _ _ h => h) (by rfl) ?_ hHeld ?_
        rotate_left
        · intro W hSw; (try simp only [List.getElem_cons_succ, List.getElem_cons_zero]); (try go_split_ands); go_simp; (try with_reducible rfl)
        (try simp only [List.getElem_cons_succ, List.getElem_cons_zero, Act.put, List.setIfInBounds_toArray, List.set_cons_zero, List.set_cons_succ])
        refine head_take 13 ?_ (by simp only [List.length_cons, List.length_nil]; decide) (by kernel_rfl) (fun _ _ _ h => h) (by rfl) ?_ hHeld ?_
        rotate_left
        · intro W hSw; (try simp only [List.getElem_cons_succ, List.getElem_cons_zero]); (try go_split_ands); go_simp; (try with_reducible rfl)
        (try simp only [List.getElem_cons_succ, List.getElem_cons_zero, Act.put, List.setIfInBounds_toArray, List.set_cons_zero, List.set_cons_succ])
        refine head_take 14 ?_ (by simp only [List.length_cons, List.length_nil]; decide) (by kernel_rfl) (fun _ _ _ h => h) (by rfl) ?_ hHeld ?_
        rotate_left
        · intro W hSw; (try simp only [List.getElem_cons_succ, List.getElem_cons_zero]); (try go_split_ands); go_simp; (try with_reducible rfl)
        (try simp only [List.getElem_cons_succ, List.getElem_cons_zero, Act.put, List.setIfInBounds_toArray, List.set_cons_zero, List.set_cons_succ])
        refine head_take 15 ?_ (by simp only [List.length_cons, List.length_nil]; decide) (by kernel_rfl) (fun _ _ _ h => h) (by rfl) ?_ hHeld ?_
        rotate_left
        · intro W hSw; (try simp only [List.getElem_cons_succ, List.getElem_cons_zero]); (try go_split_ands); go_simp; (try with_reducible rfl)
        (try simp only [List.getElem_cons_succ, List.getElem_cons_zero, Act.put, List.setIfInBounds_toArray, List.set_cons_zero, List.set_cons_succ])
        refine head_take 17 ?_ (by simp only [List.length_cons, List.length_nil]; decide) (by kernel_rfl) (fun _ _ _ h => h) (by rfl) ?_ hHeld ?_
        rotate_left
        · intro W hSw; (try simp only [List.getElem_cons_succ, List.getElem_cons_zero]); (try go_split_ands); go_simp; (try with_reducible rfl)
        (try simp only [List.getElem_cons_succ, List.getElem_cons_zero, Act.put, List.setIfInBounds_toArray, List.set_cons_zero, List.set_cons_succ])
        refine head_take 18 ?_ (by simp only [List.length_cons, List.length_nil]; decide) (by kernel_rfl) (fun _ _ _ h => h) (by rfl) ?_ hHeld ?_
        rotate_left
        · intro W hSw; (try simp only [List.getElem_cons_succ, List.getElem_cons_zero]); (try go_split_ands); go_simp; (try with_reducible rfl)
        (try simp only [List.getElem_cons_succ, List.getElem_cons_zero, Act.put, List.setIfInBounds_toArray, List.set_cons_zero, List.set_cons_succ])
        refine head_take 19 ?_ (by simp only [List.length_cons, List.length_nil]; decide) (by kernel_rfl) (fun _ _ _ h => h) (by rfl) ?_ hHeld ?_
        rotate_left
        · intro W hSw; (try simp only [List.getElem_cons_succ, List.getElem_cons_zero]); (try go_split_ands); go_simp; (try with_reducible rfl)
        (try simp only [List.getElem_cons_succ, List.getElem_cons_zero, Act.put, List.setIfInBounds_toArray, List.set_cons_zero, List.set_cons_succ])
        refine head_take 20 ?_ (by simp only [List.length_cons, List.length_nil]; decide) (by kernel_rfl) (fun _ _ _ h => h) (by rfl) ?_ hHeld ?_
        rotate_left
        · intro W hSw; (try simp only [List.getElem_cons_succ, List.getElem_cons_zero]); (try go_split_ands); go_simp; (try with_reducible rfl)
        (try simp only [List.getElem_cons_succ, List.getElem_cons_zero, Act.put, List.setIfInBounds_toArray, List.set_cons_zero, List.set_cons_succ])
        refine head_take 21 ?_ (by simp only [List.length_cons, List.length_nil]; decide) (by kernel_rfl) (fun _ _ _ h => h) (by rfl) ?_ hHeld ?_
        rotate_left
        · intro W hSw; (try simp only [List.getElem_cons_succ, List.getElem_cons_zero]); (try go_split_ands); go_simp; (try with_reducible rfl)
        (try simp only [List.getElem_cons_succ, List.getElem_cons_zero, Act.put, List.setIfInBounds_toArray, List.set_cons_zero, List.set_cons_succ])
        refine head_take 22 ?_ (by simp only [List.length_cons, List.length_nil]; decide) (by kernel_rfl) (fun _ _ _ h => h) (by rfl) ?_ hHeld ?_
        rotate_left
        · intro W hSw; (try simp only [List.getElem_cons_succ, List.getElem_cons_zero]); (try go_split_ands); go_simp; (try with_reducible rfl)
        (try simp only [List.getElem_cons_succ, List.getElem_cons_zero, Act.put, List.setIfInBounds_toArray, List.set_cons_zero, List.set_cons_succ])
        refine head_take 23 ?_ (by simp only [List.length_cons, List.length_nil]; decide) (by kernel_rfl) (fun _ _ _ h => h) (by rfl) ?_ hHeld ?_
        rotate_left
        · intro W hSw; (try simp only [List.getElem_cons_succ, List.getElem_cons_zero]); (try go_split_ands); go_simp; (try with_reducible rfl)
        (try simp only [List.getElem_cons_succ, List.getElem_cons_zero, Act.put, List.setIfInBounds_toArray, List.set_cons_zero, List.set_cons_succ])
        refine head_two 16 24 (by simp only [List.length_cons, List.length_nil]; decide) (by simp only [List.length_cons, List.length_nil]; decide) (by kernel_rfl) (fun K hK => ?_) (fun K hK => ?_)
        · (try simp only [List.getElem_cons_succ, List.getElem_cons_zero])
          refine if_step (by rfl) ?_
          go_simp
          have hvc := hvl _ hbD
          with_reducible refine hvc.mono ?_
          rintro e w6 ⟨v6, rfl, ho6, hb6⟩
          obtain ⟨a6, c6, rfl⟩ := ho6.form
          rw [hVL] at ho6 ⊢
          have hbE := hbD.trans (hb6.mono hbD.size)
          have ho6 := ho6.mono (B' := wv.heap.size) hbD.size
          (try dsimp only)
          refine hK.out _ _ ?_ (fun hHeld => ?_)
          · exact ⟨keepC e0n hbE, keepC e1n hbE, keepC cfn hbE, keepC p0 hbE, keepC p1 hbE⟩
          clear hK K
          (try simp only [Act.put, List.setIfInBounds_toArray, List.set_cons_zero, List.set_cons_succ])
          refine head_step 24 (by simp only [List.length_cons, List.length_nil]; decide) (by kernel_rfl) (fun K hK => ?_)
          (try simp only [List.getElem_cons_succ, List.getElem_cons_zero])
          refine if_step (by rfl) ?_
          go_simp
          have hwS := Whole.made w6 9 #[.string ⟨v.toArray⟩]
          have hgS := grow1 w6 (.cells #[.string ⟨v.toArray⟩] 9)
          have ho6 := ho6.call hgS
          have hbF := hbE.trans (hgS.mono hbE.size)
          refine hK.out _ _ ?_ (fun hHeld => ?_)
          · exact ⟨keepC e0n hbF, keepC e1n hbF, keepC cfn hbF, keepC p0 hbF, keepC p1 hbF⟩
          clear hK K
          (try simp only [List.getElem_cons_succ, List.getElem_cons_zero, Act.put, List.setIfInBounds_toArray, List.set_cons_zero, List.set_cons_succ])
          refine head_step 25 (by simp only [List.length_cons, List.length_nil]; decide) (by kernel_rfl) (fun K hK => ?_)
          (try simp only [List.getElem_cons_succ, List.getElem_cons_zero])
          refine if_step (by rfl) ?_
          refine wp_strs _ _ (by rfl) wv.heap.size _ V (by rfl) ho6 _ [v] (by rfl) (strs_one hwS) (by simp; omega) hbF.size ?_
          intro v7 w7 ho7 hb7
          obtain ⟨a7, c7, rfl⟩ := ho7.form
          obtain ⟨L7, hL7⟩ : ∃ n, (V ++ [v]).length = n := ⟨_, rfl⟩
          rw [hL7] at ho7 ⊢
          have hbG := hbF.trans hb7
          refine hK.out _ _ ?_ (fun hHeld => ?_)
          · exact ⟨keepC e0n hbG, keepC e1n hbG, keepC cfn hbG, keepC p0 hbG, keepC p1 hbG⟩
          clear hK K
          (try simp only [Act.put, List.setIfInBounds_toArray, List.set_cons_zero, List.set_cons_succ])
          refine head_step 26 (by simp only [List.length_cons, List.length_nil]; decide) (by kernel_rfl) (fun K hK => ?_)
          (try simp only [List.getElem_cons_succ, List.getElem_cons_zero])
          refine if_step (by rfl) ?_
          go_simp
          have hsc := hset w7 hbG _ (ho7.typed (List.mem_singleton.2 rfl))
          with_reducible refine hsc.mono ?_
          rintro e w8 ⟨u8, rfl, hown8, hb8⟩
          obtain ⟨a8, c8, rfl⟩ := hown8.form
          have hbH := hbG.trans (hb8.mono hbG.size)
          (try dsimp only)
          refine hK.out _ _ ?_ (fun hHeld => ?_)
          · exact ⟨keepC e0n hbH, keepC e1n hbH, keepC cfn hbH, keepC p0 hbH, keepC p1 hbH⟩
          clear hK K
          (try simp only [Act.put, List.setIfInBounds_toArray, List.set_cons_zero, List.set_cons_succ])
          refine head_end (by kernel_rfl) ?_
          simp only [List.drop_succ_cons, List.drop_zero]
          have hz8 := hzv.trans (hbH.mono hzv.size)
          obtain ⟨L8, hL8⟩ : ∃ n, (EnS.setL t (V ++ [v]) q).length = n := ⟨_, rfl⟩
          rw [hL8] at hown8 ⊢
          have hw8 := hwv.call hbH
          have hr8 := hrv.call hbH
          have hf8 := hfrv.call hbH (Nat.le_refl _)
          have ho8 := holv.call hbH (Nat.le_refl _)
          have hcf8 := keepC hcfv hbH
          have hco8 := keepC hcov hbH
          have hold8 := hrowv.call hbH
          have hrow8 : RowAt C w w8 (.slice a8 L8 c8) (EnS.setL t (V ++ [v]) q) := RowAt.own hown8 (by have := hzv.size; have := hbG.size; omega)
          have t0 := hw8.thaw 0
          have t1 := hw8.thaw 1
          have f0 := hw8.cell 0
          have f1 := hw8.cell 1
          simp only [List.getElem?_toArray, List.getElem?_cons_zero, List.getElem?_cons_succ] at f0 f1
          have hA := hw8.put 0 (.string ⟨n.toArray⟩)
          have hrowA := hrow8.other hw8 hC 0 (.string ⟨n.toArray⟩)
          have holdA := hold8.other hw8 hC 0 (.string ⟨n.toArray⟩)
          have hrA := hr8.other (p := ⟨w.heap.size, 0, none⟩) (by show w.heap.size + 1 ≠ w.heap.size; omega) (.string ⟨n.toArray⟩)
          have hfA := hf8.other hw8 0 (.string ⟨n.toArray⟩)
          have hoA := ho8.other hw8 0 (.string ⟨n.toArray⟩)
          have hcfA := fst_other hcf8 hf8 hFR0 hw8 (hold8.attrs hz8) 0 (.string ⟨n.toArray⟩)
          have hcoA := fst_other hco8 ho8 hOL0 hw8 (hold8.attrs hz8) 0 (.string ⟨n.toArray⟩)
          have hzA := hz8.setCell (p := ⟨w.heap.size, 0, none⟩) (Nat.le_refl _) (.string ⟨n.toArray⟩)
          simp only [List.setIfInBounds_toArray, List.set_cons_zero] at hA
          have hB := hA.put 1 (.slice a8 L8 c8)
          have hrowB := hrowA.other hA hC 1 (.slice a8 L8 c8)
          have hrB := hrA.other (p := ⟨w.heap.size, 1, none⟩) (by show w.heap.size + 1 ≠ w.heap.size; omega) (.slice a8 L8 c8)
          have hfB := hfA.other hA 1 (.slice a8 L8 c8)
          have hoB := hoA.other hA 1 (.slice a8 L8 c8)
          have hcfB := fst_other hcfA hfA hFR0 hA (holdA.attrs hzA) 1 (.slice a8 L8 c8)
          have hcoB := fst_other hcoA hoA hOL0 hA (holdA.attrs hzA) 1 (.slice a8 L8 c8)
          simp only [List.setIfInBounds_toArray, List.set_cons_succ, List.set_cons_zero] at hB
          have hbB : Below w.heap.size w ((w8.setCell ⟨w.heap.size, 0, none⟩ (.string ⟨n.toArray⟩)).setCell ⟨w.heap.size, 1, none⟩ (.slice a8 L8 c8)) := hzA.setCell (p := ⟨w.heap.size, 1, none⟩) (Nat.le_refl _) _
          clear hHeld
          go_wp2_with fail
          go_roundw
          case rel => exact ⟨k + 1, _, EnS.setL t (V ++ [v]) q, by omega, by go_num, hrowB, HL2, HS2, HF2, hB, hrB, hcfB, hfB, hcoB, hoB, hbB⟩
          case measure => simp [intOf]; omega
        · (try simp only [List.getElem_cons_succ, List.getElem_cons_zero])
          refine if_step (by rfl) ?_
          go_simp
          have hwS := (Whole.made wv 9 #[.string ⟨v.toArray⟩]).drew
          have hbS : Below wv.heap.size wv (wv.alloc (.cells #[.string ⟨v.toArray⟩] 9)).drew := (grow1 wv _).drew
          refine hK.out _ _ ?_ (fun hHeld => ?_)
          · exact ⟨keepC e0n hbS, keepC e1n hbS, keepC cfn hbS, keepC p0 hbS, keepC p1 hbS⟩
          clear hK K
          (try simp only [List.getElem_cons_succ, List.getElem_cons_zero, Act.put, List.setIfInBounds_toArray, List.set_cons_zero, List.set_cons_succ])
          refine head_step 16 (by simp only [List.length_cons, List.length_nil]; decide) (by kernel_rfl) (fun K hK => ?_)
          (try simp only [List.getElem_cons_succ, List.getElem_cons_zero])
          refine if_step (by rfl) ?_
          go_simp
          have hvc := hvl _ hbS
          with_reducible refine hvc.mono ?_
          rintro e w6 ⟨v6, rfl, ho6, hb6⟩
          obtain ⟨a6, c6, rfl⟩ := ho6.form
          rw [hVL] at ho6 ⊢
          have hbE := hbS.trans (hb6.mono hbS.size)
          have hwS := hwS.call hb6
          have hbF := hbE
          have ho6 := ho6.mono (B' := wv.heap.size) hbS.size
          (try dsimp only)
          refine hK.out _ _ ?_ (fun hHeld => ?_)
          · exact ⟨keepC e0n hbE, keepC e1n hbE, keepC cfn hbE, keepC p0 hbE, keepC p1 hbE⟩
          clear hK K
          (try simp only [Act.put, List.setIfInBounds_toArray, List.set_cons_zero, List.set_cons_succ])
          refine head_step 25 (by simp only [List.length_cons, List.length_nil]; decide) (by kernel_rfl) (fun K hK => ?_)
          (try simp only [List.getElem_cons_succ, List.getElem_cons_zero])
          refine if_step (by rfl) ?_
          refine wp_strs _ _ (by rfl) wv.heap.size _ V (by rfl) ho6 _ [v] (by rfl) (strs_one hwS) (by simp; omega) hbF.size ?_
          intro v7 w7 ho7 hb7
          obtain ⟨a7, c7, rfl⟩ := ho7.form
          obtain ⟨L7, hL7⟩ : ∃ n, (V ++ [v]).length = n := ⟨_, rfl⟩
          rw [hL7] at ho7 ⊢
          have hbG := hbF.trans hb7
          refine hK.out _ _ ?_ (fun hHeld => ?_)
          · exact ⟨keepC e0n hbG, keepC e1n hbG, keepC cfn hbG, keepC p0 hbG, keepC p1 hbG⟩
          clear hK K
          (try simp only [Act.put, List.setIfInBounds_toArray, List.set_cons_zero, List.set_cons_succ])
          refine head_step 26 (by simp only [List.length_cons, List.length_nil]; decide) (by kernel_rfl) (fun K hK => ?_)
          (try simp only [List.getElem_cons_succ, List.getElem_cons_zero])
          refine if_step (by rfl) ?_
          go_simp
          have hsc := hset w7 hbG _ (ho7.typed (List.mem_singleton.2 rfl))
          with_reducible refine hsc.mono ?_
          rintro e w8 ⟨u8, rfl, hown8, hb8⟩
          obtain ⟨a8, c8, rfl⟩ := hown8.form
          have hbH := hbG.trans (hb8.mono hbG.size)
          (try dsimp only)
          refine hK.out _ _ ?_ (fun hHeld => ?_)
          · exact ⟨keepC e0n hbH, keepC e1n hbH, keepC cfn hbH, keepC p0 hbH, keepC p1 hbH⟩
          clear hK K
          (try simp only [Act.put, List.setIfInBounds_toArray, List.set_cons_zero, List.set_cons_succ])
          refine head_end (by kernel_rfl) ?_
          simp only [List.drop_succ_cons, List.drop_zero]
          have hz8 := hzv.trans (hbH.mono hzv.size)
          obtain ⟨L8, hL8⟩ : ∃ n, (EnS.setL t (V ++ [v]) q).length = n := ⟨_, rfl⟩
          rw [hL8] at hown8 ⊢
          have hw8 := hwv.call hbH
          have hr8 := hrv.call hbH
          have hf8 := hfrv.call hbH (Nat.le_refl _)
          have ho8 := holv.call hbH (Nat.le_refl _)
          have hcf8 := keepC hcfv hbH
          have hco8 := keepC hcov hbH
          have hold8 := hrowv.call hbH
          have hrow8 : RowAt C w w8 (.slice a8 L8 c8) (EnS.setL t (V ++ [v]) q) := RowAt.own hown8 (by have := hzv.size; have := hbG.size; omega)
          have t0 := hw8.thaw 0
          have t1 := hw8.thaw 1
          have f0 := hw8.cell 0
          have f1 := hw8.cell 1
          simp only [List.getElem?_toArray, List.getElem?_cons_zero, List.getElem?_cons_succ] at f0 f1
          have hA := hw8.put 0 (.string ⟨n.toArray⟩)
          have hrowA := hrow8.other hw8 hC 0 (.string ⟨n.toArray⟩)
          have holdA := hold8.other hw8 hC 0 (.string ⟨n.toArray⟩)
          have hrA := hr8.other (p := ⟨w.heap.size, 0, none⟩) (by show w.heap.size + 1 ≠ w.heap.size; omega) (.string ⟨n.toArray⟩)
          have hfA := hf8.other hw8 0 (.string ⟨n.toArray⟩)
          have hoA := ho8.other hw8 0 (.string ⟨n.toArray⟩)
          have hcfA := fst_other hcf8 hf8 hFR0 hw8 (hold8.attrs hz8) 0 (.string ⟨n.toArray⟩)
          have hcoA := fst_other hco8 ho8 hOL0 hw8 (hold8.attrs hz8) 0 (.string ⟨n.toArray⟩)
          have hzA := hz8.setCell (p := ⟨w.heap.size, 0, none⟩) (Nat.le_refl _) (.string ⟨n.toArray⟩)
          simp only [List.setIfInBounds_toArray, List.set_cons_zero] at hA
          have hB := hA.put 1 (.slice a8 L8 c8)
          have hrowB := hrowA.other hA hC 1 (.slice a8 L8 c8)
          have hrB := hrA.other (p := ⟨w.heap.size, 1, none⟩) (by show w.heap.size + 1 ≠ w.heap.size; omega) (.slice a8 L8 c8)
          have hfB := hfA.other hA 1 (.slice a8 L8 c8)
          have hoB := hoA.other hA 1 (.slice a8 L8 c8)
          have hcfB := fst_other hcfA hfA hFR0 hA (holdA.attrs hzA) 1 (.slice a8 L8 c8)
          have hcoB := fst_other hcoA hoA hOL0 hA (holdA.attrs hzA) 1 (.slice a8 L8 c8)
          simp only [List.setIfInBounds_toArray, List.set_cons_succ, List.set_cons_zero] at hB
          have hbB : Below w.heap.size w ((w8.setCell ⟨w.heap.size, 0, none⟩ (.string ⟨n.toArray⟩)).setCell ⟨w.heap.size, 1, none⟩ (.slice a8 L8 c8)) := hzA.setCell (p := ⟨w.heap.size, 1, none⟩) (Nat.le_refl _) _
          clear hHeld
          go_wp2_with fail
          go_roundw
          case rel => exact ⟨k + 1, _, EnS.setL t (V ++ [v]) q, by omega, by go_num, hrowB, HL2, HS2, HF2, hB, hrB, hcfB, hfB, hcoB, hoB, hbB⟩
          case measure => simp [intOf]; omega
    · have hkl : k = FR.length := by omega
      subst hkl
      have hLE := HLY.out.trans (EnS.layL_end (Nat.le_refl _))
      have HE1 : Hid (LES = EnS.lessL n del FR q (OL.drop 0)) := Lib.hid (by rw [HE0.out, hLE])
      have HF1 : Hid (EnS.FitQ 24 q) := Lib.hid (fun a ha => ⟨by have := (HFQ.out a ha).1; have := HS2p.out.1; omega, (HFQ.out a ha).2⟩)
      have hb1 := hb
      clear HLY hLE HE0 HFQ hfa hlt hk
      go_wp2_with fail
      go_loopw [104] (fun i wr => ∃ (k : Nat) (y : Value) (q : List EnS.At), k ≤ OL.length ∧ i = .int .i64 k ∧ RowAt C w wr y q ∧ Hid (LES = EnS.lessL n del FR q (OL.drop k)) ∧ Hid (EnS.soundA [] q = true) ∧ Hid (EnS.FitQ (24) q) ∧ Whole wr w.heap.size 26 #[.string ⟨n.toArray⟩, y] ∧ Whole wr (w.heap.size + 1) 26 #[.string ⟨#[]⟩, .slice none 0 0] ∧ wr.cell? ⟨gp, op, none⟩ = some (.slice pa FR.length pc) ∧ AvasIn wr (.slice pa FR.length pc) FR ∧ wr.cell? ⟨gq, oq, none⟩ = some (.slice qa OL.length qc) ∧ AvasIn wr (.slice qa OL.length qc) OL ∧ Below w.heap.size w wr) (fun i _ => OL.length - (intOf i).toNat)
      case atStart => exact ⟨0, _, q, Nat.zero_le _, rfl, hrow, HE1, HSO, HF1, hw, hr, hcf, hfr, hco, hol, hb⟩
      case round =>
        clear hrow HE1 HSO HF1 hw hr hcf hfr hco hol hb hb1 hQL
        obtain ⟨k, y, q, hk, rfl, hrowv, HLY, HSO, HFQ, hwv, hrv, hcfv, hfrv, hcov, holv, hzv⟩ := hrel
        obtain ⟨wv, rfl⟩ : ∃ x, x = wr := ⟨_, rfl⟩
        obtain ⟨ya, yc, rfl⟩ := hrowv.form
        obtain ⟨QL, hQL⟩ : ∃ n, q.length = n := ⟨_, rfl⟩
        have hfa := rowfit HFQ.out (by omega) HSO.out
        rw [hQL] at hrowv hwv
        by_cases hlt : k < OL.length
        · obtain ⟨_, _, e1, _, hat⟩ := AvasIn.atk holv
          cases e1
          obtain ⟨g2, o2, rfl, hg, c0, c1⟩ := hat k hlt
          have hsm := HS1p.out.2 _ (List.getElem_mem hlt)
          have hgd := hg1p _ (List.getElem_mem hlt)
          have HLY1 := Lib.hid (HLY.out.trans (EnS.lessL_at hlt))
          clear hat HLY
          generalize OL[k] = p at *
          obtain ⟨t, v⟩ := p
          unfold strV at c0 c1
          simp only at c0 c1 hsm
          have hl0 : (0 : Int) ≤ (k : Int) := by omega
          have hl1 : (k : Int) < (OL.length : Int) := by omega
          have HNO := Lib.hid (fun h => EnS.less_no (n := n) (del := del) (fresh := FR) (l := q) (p := (t, v)) h)
          have HYE := Lib.hid (fun h => EnS.less_yes (n := n) (del := del) (fresh := FR) (l := q) (p := (t, v)) h)
          have HSN := Lib.hid (EnS.less_sound (n := n) (del := del) (fresh := FR) (l := q) (p := (t, v)) hgd HSO.out)
          have HVV := EnS.values_good (n := n) (l := q) (p := (t, v)) hgd
          have HFV := Lib.hid (EnS.FitQ.values HFQ.out t)
          simp only at HNO HYE HVV
          rw [HVV] at HYE
          have hpr := fun W (hb : Below wv.heap.size wv W) => paired_c (t, v) (by simp only; omega) (.slice pa FR.length pc) FR W (HEN.out _ (hzv.trans (hb.mono hzv.size))) (hfrv.call hb (Nat.le_refl _)) (by have := HS2p.out.1; omega) (fun p hp => by have := HS2p.out.2 p hp; omega)
          unfold NmBool at hpr
          simp only at hpr
          generalize EnS.keptB FR (t, v) = KB at *
          have hvl := fun W (hb : Below wv.heap.size wv W) => refvalues_c n q (.slice ya QL yc) t W (AttrsE.ins ((hrowv.call hb).attrs (hzv.trans (hb.mono hzv.size)))) hfa (by omega)
          unfold OwnRet at hvl
          rw [HVV] at hvl
          generalize EnS.valuesL q t = V at *
          have hwo := fun W lv (hs : StrsIn W lv V) (hE : Env W) => without_c t v lv V W hE (by omega) (by omega) hs (by have := HFV.out.1; omega) HFV.out.2
          unfold WoRet at hwo
          have HWL : (EnS.withoutS t V v).length ≤ V.length := (EnS.without_sub t V v).length_le
          have HWM : ∀ z ∈ EnS.withoutS t V v, z.length ≤ 1000000 := fun z hz => HFV.out.2 z ((EnS.without_sub t V v).subset hz)
          generalize EnS.withoutS t V v = WO at *
          have e0n := hwv.cell 0
          have e1n := hwv.cell 1
          simp only [List.getElem?_toArray, List.getElem?_cons_zero, List.getElem?_cons_succ] at e0n e1n
          have hbD0 : Below wv.heap.size wv wv.drew := below_drewN wv 1
          cases del with
          | false =>
            have hq := HNO.out rfl
            have HL2 := Lib.hid (show LES = EnS.lessL n false FR q (OL.drop (k + 1)) from by rw [HLY1.out, hq])
            clear HNO HYE HLY1 hq HSN hpr hvl hwo
            go_wp2_with fail
            go_quiet (fail)
            have hbQ : Below wv.heap.size wv (wv.drewN nq) := below_drewN wv _
            have hz3 := hzv.trans (hbQ.mono hzv.size)
            go_wp2_with fail
            go_roundw
            case rel => exact ⟨k + 1, _, q, by omega, by go_num, hrowv.call hbQ, HL2, HSO, HFQ, hwv.call hbQ, hrv.call hbQ, keepC hcfv hbQ, hfrv.call hbQ (Nat.le_refl _), keepC hcov hbQ, holv.call hbQ (Nat.le_refl _), hz3⟩
            case measure => simp [intOf]; omega
          | true =>
            go_wp2_with fail
            go_region_held3 (fun W => W.cell? ⟨gp, op, none⟩ = some (.slice pa FR.length pc) ∧ W.cell? ⟨gq, oq, none⟩ = some (.slice (some ⟨g2, o2, none⟩) OL.length qc) ∧ W.cell? ⟨g2, o2 + k * 2 + 1, none⟩ = some (.string ⟨v.toArray⟩) ∧ Below wv.heap.size wv W)
              (first | exact ⟨keepC hcfv hbD0, keepC hcov hbD0, keepC c1 hbD0, hbD0⟩ | (go_split_ands; exact ⟨keepC (by assumption) hbN, keepC (by assumption) hbN, keepC (by assumption) hbN, Below.trans (by assumption) (hbN.mono (Below.size (by assumption)))⟩) | go_keep)
              (first | (go_at_call 49; go_split_ands; with_reducible refine (hpr _ (by assumption)).mono ?_; rintro e wN ⟨rfl, hbN⟩))
            go_split_ands
            have hbx : Below wv.heap.size wv wN := by assumption
            obtain ⟨w2, rfl⟩ : ∃ x, x = wN := ⟨_, rfl⟩
            have hz2 := hzv.trans (hbx.mono hzv.size)
            cases KB with
            | true =>
              have hq := HNO.out rfl
              have HL2 := Lib.hid (show LES = EnS.lessL n true FR q (OL.drop (k + 1)) from by rw [HLY1.out, hq])
              clear HNO HYE HLY1 hq HSN hpr hvl hwo
              go_wp2_with fail
              go_roundw
              case rel => exact ⟨k + 1, _, q, by omega, by go_num, hrowv.call hbx, HL2, HSO, HFQ, hwv.call hbx, hrv.call hbx, keepC hcfv hbx, hfrv.call hbx (Nat.le_refl _), keepC hcov hbx, holv.call hbx (Nat.le_refl _), hz2⟩
              case measure => simp [intOf]; omega
            | false =>
              have hq := HYE.out rfl
              have HL2 := Lib.hid (show LES = EnS.lessL n true FR (EnS.setL t WO q) (OL.drop (k + 1)) from by rw [HLY1.out, hq])
              have HS2 : Hid (EnS.soundA [] (EnS.setL t WO q) = true) := Lib.hid (by have := HSN.out; rwa [hq] at this)
              have HF2 : Hid (EnS.FitQ 24 (EnS.setL t WO q)) := Lib.hid (EnS.FitQ.set HFQ.out (by omega) t (by have := HFV.out.1; omega) HWM)
              have hset := fun W (hb : Below wv.heap.size wv W) lv (hs : StrsP (okT [9] C W) W lv WO) => refset_c C n q (.slice ya QL yc) t WO lv W (Nat.le_trans hC (hzv.trans (hb.mono hzv.size)).size) ((hrowv.call hb).attrs (hzv.trans (hb.mono hzv.size))) (EnS.sound_sort HSO.out) (by have := hfa.1; omega) hs (by have := HFV.out.1; omega)
              unfold CopyRet at hset
              have hbD1 : Below w2.heap.size w2 w2.drew := below_drewN w2 1
              have hbD := hbx.trans (hbD1.mono hbx.size)
              obtain ⟨VL, hVL⟩ : ∃ n, V.length = n := ⟨_, rfl⟩
              obtain ⟨WL, hWL⟩ : ∃ n, WO.length = n := ⟨_, rfl⟩
              clear HNO HYE HLY1 hq HSN hpr HSO HFQ HFV
              go_wp2_with fail
              go_region_held3 (fun W => W.cell? ⟨w.heap.size, 0, none⟩ = some (.string ⟨n.toArray⟩) ∧ W.cell? ⟨w.heap.size, 1, none⟩ = some (.slice ya QL yc) ∧ W.cell? ⟨gq, oq, none⟩ = some (.slice (some ⟨g2, o2, none⟩) OL.length qc) ∧ W.cell? ⟨g2, o2 + k * 2 + 1, none⟩ = some (.string ⟨v.toArray⟩) ∧ Below wv.heap.size wv W)
                (first | exact ⟨keepC e0n hbD, keepC e1n hbD, keepC hcov hbD, keepC c1 hbD, hbD⟩ | (go_split_ands; exact ⟨keepC (by assumption) hbN, keepC (by assumption) hbN, keepC (by assumption) hbN, keepC (by assumption) hbN, Below.trans (by assumption) (hbN.mono (Below.size (by assumption)))⟩) | go_keep)
                (first
                  | (go_at_call 31; go_split_ands; with_reducible refine (hvl _ (by assumption)).mono ?_; rintro e wN ⟨uN, rfl, hoN, hbN⟩; obtain ⟨aN, cN, rfl⟩ := hoN.form; rw [hVL] at hoN ⊢; have hsN := hoN.strs)
                  | (go_at_call 50; go_split_ands; with_reducible refine (hwo _ _ hsN ?_).mono ?_; exact HEN.out _ (hzv.trans (Below.mono (by assumption) hzv.size)); rintro e wN ⟨uM, bM, rfl, hoM, hbN⟩; obtain ⟨aM, cM, rfl⟩ := hoM.form; rw [hWL] at hoM ⊢))
              go_split_ands
              have hbG : Below wv.heap.size wv wN := by assumption
              have g0 := keepC e0n hbG
              have g1 := keepC e1n hbG
              have hse := hset _ hbG _ (hoM.typed (List.mem_singleton.2 rfl))
              clear hset hvl hwo
              go_wp2_with fail
              refine hse.mono ?_
              rintro e w8 ⟨u8, rfl, hown8, hb8⟩
              obtain ⟨a8, c8, rfl⟩ := hown8.form
              have hbH := hbG.trans (hb8.mono hbG.size)
              have hz8 := hzv.trans (hbH.mono hzv.size)
              obtain ⟨L8, hL8⟩ : ∃ n, (EnS.setL t WO q).length = n := ⟨_, rfl⟩
              rw [hL8] at hown8 ⊢
              have hw8 := hwv.call hbH
              have hr8 := hrv.call hbH
              have hf8 := hfrv.call hbH (Nat.le_refl _)
              have ho8 := holv.call hbH (Nat.le_refl _)
              have hcf8 := keepC hcfv hbH
              have hco8 := keepC hcov hbH
              have hold8 := hrowv.call hbH
              have hrow8 : RowAt C w w8 (.slice a8 L8 c8) (EnS.setL t WO q) := RowAt.own hown8 (by have := hzv.size; have := hbG.size; omega)
              have t0 := hw8.thaw 0
              have t1 := hw8.thaw 1
              have f0 := hw8.cell 0
              have f1 := hw8.cell 1
              simp only [List.getElem?_toArray, List.getElem?_cons_zero, List.getElem?_cons_succ] at f0 f1
              have hA := hw8.put 0 (.string ⟨n.toArray⟩)
              have hrowA := hrow8.other hw8 hC 0 (.string ⟨n.toArray⟩)
              have holdA := hold8.other hw8 hC 0 (.string ⟨n.toArray⟩)
              have hrA := hr8.other (p := ⟨w.heap.size, 0, none⟩) (by show w.heap.size + 1 ≠ w.heap.size; omega) (.string ⟨n.toArray⟩)
              have hfA := hf8.other hw8 0 (.string ⟨n.toArray⟩)
              have hoA := ho8.other hw8 0 (.string ⟨n.toArray⟩)
              have hcfA := fst_other hcf8 hf8 hFR0 hw8 (hold8.attrs hz8) 0 (.string ⟨n.toArray⟩)
              have hcoA := fst_other hco8 ho8 hOL0 hw8 (hold8.attrs hz8) 0 (.string ⟨n.toArray⟩)
              have hzA := hz8.setCell (p := ⟨w.heap.size, 0, none⟩) (Nat.le_refl _) (.string ⟨n.toArray⟩)
              simp only [List.setIfInBounds_toArray, List.set_cons_zero] at hA
              have hB := hA.put 1 (.slice a8 L8 c8)
              have hrowB := hrowA.other hA hC 1 (.slice a8 L8 c8)
              have hrB := hrA.other (p := ⟨w.heap.size, 1, none⟩) (by show w.heap.size + 1 ≠ w.heap.size; omega) (.slice a8 L8 c8)
              have hfB := hfA.other hA 1 (.slice a8 L8 c8)
              have hoB := hoA.other hA 1 (.slice a8 L8 c8)
              have hcfB := fst_other hcfA hfA hFR0 hA (holdA.attrs hzA) 1 (.slice a8 L8 c8)
              have hcoB := fst_other hcoA hoA hOL0 hA (holdA.attrs hzA) 1 (.slice a8 L8 c8)
              simp only [List.setIfInBounds_toArray, List.set_cons_succ, List.set_cons_zero] at hB
              have hbB : Below w.heap.size w ((w8.setCell ⟨w.heap.size, 0, none⟩ (.string ⟨n.toArray⟩)).setCell ⟨w.heap.size, 1, none⟩ (.slice a8 L8 c8)) := hzA.setCell (p := ⟨w.heap.size, 1, none⟩) (Nat.le_refl _) _
              go_wp2_with fail
              go_roundw
              case rel => exact ⟨k + 1, _, EnS.setL t WO q, by omega, by go_num, hrowB, HL2, HS2, HF2, hB, hrB, hcfB, hfB, hcoB, hoB, hbB⟩
              case measure => simp [intOf]; omega
        · have hkl : k = OL.length := by omega
          subst hkl
          obtain ⟨wr, rfl⟩ : ∃ x, x = wv := ⟨_, rfl⟩
          have hb := hzv
          have hrow := hrowv
          have hw := hwv
          have hr := hrv
          have hcf := hcfv
          have hfr := hfrv
          have hco := hcov
          have hol := holv
          clear hzv hrowv hwv hrv hcfv hfrv hcov holv
          have hLE := HLY.out.trans (EnS.lessL_end (Nat.le_refl _))
          have HRD := Lib.hid (show R = EnS.doneS ⟨n, q⟩ 64 from by rw [HR2.out, hLE])
          clear HLY hLE HR2
          have e0 := hw.cell 0
          have e1 := hw.cell 1
          simp only [List.getElem?_toArray, List.getElem?_cons_zero, List.getElem?_cons_succ] at e0 e1
          have hat := AttrsE.ins (hrow.attrs hb)
          have hnlen : n.length ≤ 1000000 := by omega
          have hmn := refmany_c n q (.slice ya QL yc) wr hat hfa.1
          have hvl := fun W hb => refvalues_c n q (.slice ya QL yc) EnS.tClass W (hat.call (w' := W) hb) hfa (by decide)
          have hnd := fun W hE (hb : Below wr.heap.size wr W) => refnamed_c n q (.slice ya QL yc) W hE (hat.call hb) hfa hnlen
          have hcp := fun W (hb2 : Below wr.heap.size wr W) => enrefcopy_c C n q (.slice ya QL yc) W (Nat.le_trans hC (hb.trans (hb2.mono hb.size)).size) (hat.call hb2) hfa
          unfold CopyRet at hcp
          rw [namedR_norm HNN2.out HNZ.out] at hnd
          unfold NmBool at hmn hnd
          unfold OwnRet at hvl
          unfold EnS.tClass at hvl
          have hcl : EnS.valuesS ⟨n, q⟩ [111, 98, 106, 101, 99, 116, 67, 108, 97, 115, 115] = EnS.valuesS ⟨n, q⟩ EnS.tClass := rfl
          rw [hcl] at hvl
          clear hcl
          have HJ1 := Lib.hid (fun h => judge_many (e := ⟨n, q⟩) (n := 64) h)
          have HJ2 := Lib.hid (fun h k => judge_class (e := ⟨n, q⟩) (n := 64) h k)
          have HJ3 := Lib.hid (fun h k m => judge_named (e := ⟨n, q⟩) (n := 64) h k m)
          have HJ4 := Lib.hid (fun h k m => judge_naming (e := ⟨n, q⟩) (n := 64) h k m)
          have HDY := Lib.hid (fun h => HRD.out.trans (done_yes (e := ⟨n, q⟩) (n := 64) h))
          have HDN := Lib.hid (fun h => HRD.out.trans (done_no (e := ⟨n, q⟩) (n := 64) h))
          simp only at HJ1 HJ2 HJ3 HJ4
          clear HRD hw hcf hfr hco hol
          generalize EnS.judgeS ⟨n, q⟩ 64 = J at *
          generalize EnS.valuesS ⟨n, q⟩ EnS.tClass = V at *
          generalize EnS.namedS ⟨n, q⟩ = D at *
          generalize EnS.manyB q = B at *
          go_wp2_with fail
          refine hmn.mono ?_; rintro e w2 ⟨rfl, hb2⟩
          have hz2 := hb.trans (hb2.mono hb.size)
          have hr2 := hr.call hb2
          have r0 := keepC e0 hb2
          have r1 := keepC e1 hb2
          cases B with
          | true =>
            have hJ := HJ1.out rfl
            subst hJ
            have HR := HDN.out (by decide)
            clear HJ1 HJ2 HJ3 HJ4 HDY HDN r0 r1
            have t0 := hr2.thaw 0
            have t1 := hr2.thaw 1
            have r0 := hr2.cell 0
            have r1 := hr2.cell 1
            simp only [List.getElem?_toArray, List.getElem?_cons_zero, List.getElem?_cons_succ] at r0 r1
            have hA := hr2.put 0 (.string ⟨#[]⟩)
            simp only [List.setIfInBounds_toArray, List.set_cons_zero] at hA
            have hB := hA.put 1 (.slice none 0 0)
            simp only [List.setIfInBounds_toArray, List.set_cons_succ, List.set_cons_zero] at hB
            have hbB : Below w.heap.size w ((w2.setCell ⟨w.heap.size + 1, 0, none⟩ (.string ⟨#[]⟩)).setCell ⟨w.heap.size + 1, 1, none⟩ (.slice none 0 0)) := (hz2.setCell (p := ⟨w.heap.size + 1, 0, none⟩) (by show w.heap.size ≤ w.heap.size + 1; omega) _).setCell (p := ⟨w.heap.size + 1, 1, none⟩) (by show w.heap.size ≤ w.heap.size + 1; omega) _
            have z0 := hB.cell 0
            have z1 := hB.cell 1
            simp only [List.getElem?_toArray, List.getElem?_cons_zero, List.getElem?_cons_succ] at z0 z1
            go_wp2_with fail
            (try simp only [Exit.inBlock, Exit.then])
            refine bodyPost_ret (v := .tuple #[.agg #[.string ⟨#[]⟩, .slice none 0 0], .int .i64 19]) ?_ rfl (MakeRet.no HR hbB)
            rw [results_cell_tmp rfl]
            go_simp
          | false =>
            have HJ2' := Lib.hid (HJ2.out rfl)
            have HJ3' := Lib.hid (HJ3.out rfl)
            have HJ4' := Lib.hid (HJ4.out rfl)
            clear HJ1 HJ2 HJ3 HJ4
            go_wp2_with fail
            refine (hvl _ hb2).mono ?_; rintro e w3 ⟨v3, rfl, hvo, hb3⟩
            have hb23 := hb2.trans (hb3.mono hb2.size)
            have hz3 := hb.trans (hb23.mono hb.size)
            have hr3 := hr.call hb23
            have s0 := keepC e0 hb23
            have s1 := keepC e1 hb23
            obtain ⟨a3, c3, rfl⟩ := hvo.form
            clear hvo hvl hmn r0 r1
            cases V with
            | nil =>
              have hJ := HJ2'.out rfl
              subst hJ
              have HR := HDN.out (by decide)
              clear HJ2' HJ3' HJ4' HDY HDN s0 s1
              have t0 := hr3.thaw 0
              have t1 := hr3.thaw 1
              have r0 := hr3.cell 0
              have r1 := hr3.cell 1
              simp only [List.getElem?_toArray, List.getElem?_cons_zero, List.getElem?_cons_succ] at r0 r1
              have hA := hr3.put 0 (.string ⟨#[]⟩)
              simp only [List.setIfInBounds_toArray, List.set_cons_zero] at hA
              have hB := hA.put 1 (.slice none 0 0)
              simp only [List.setIfInBounds_toArray, List.set_cons_succ, List.set_cons_zero] at hB
              have hbB : Below w.heap.size w ((w3.setCell ⟨w.heap.size + 1, 0, none⟩ (.string ⟨#[]⟩)).setCell ⟨w.heap.size + 1, 1, none⟩ (.slice none 0 0)) := (hz3.setCell (p := ⟨w.heap.size + 1, 0, none⟩) (by show w.heap.size ≤ w.heap.size + 1; omega) _).setCell (p := ⟨w.heap.size + 1, 1, none⟩) (by show w.heap.size ≤ w.heap.size + 1; omega) _
              have z0 := hB.cell 0
              have z1 := hB.cell 1
              simp only [List.getElem?_toArray, List.getElem?_cons_zero, List.getElem?_cons_succ] at z0 z1
              go_wp2_with fail
              (try simp only [Exit.inBlock, Exit.then])
              refine bodyPost_ret (v := .tuple #[.agg #[.string ⟨#[]⟩, .slice none 0 0], .int .i64 65]) ?_ rfl (MakeRet.no HR hbB)
              rw [results_cell_tmp rfl]
              go_simp
            | cons v0 vr =>
              have hlz : (((v0 :: vr).length : Int) == 0) = false := by simp; omega
              have HJ3'' := Lib.hid (HJ3'.out (by simp))
              have HJ4'' := Lib.hid (HJ4'.out (by simp))
              clear HJ2' HJ3' HJ4'
              generalize (v0 :: vr).length = VL at *
              go_wp2_with fail
              refine (hnd _ (HEN.out _ hz3) hb23).mono ?_; rintro e w4 ⟨rfl, hb4⟩
              have hb24 := hb23.trans (hb4.mono hb23.size)
              have hz4 := hb.trans (hb24.mono hb.size)
              have hr4 := hr.call hb24
              have f0 := keepC e0 hb24
              have f1 := keepC e1 hb24
              clear s0 s1 hr3 hr2
              cases D with
              | false =>
                have hJ := HJ4''.out rfl
                subst hJ
                have HR := HDN.out (by decide)
                clear HJ3'' HJ4'' HDY HDN f0 f1
                have t0 := hr4.thaw 0
                have t1 := hr4.thaw 1
                have r0 := hr4.cell 0
                have r1 := hr4.cell 1
                simp only [List.getElem?_toArray, List.getElem?_cons_zero, List.getElem?_cons_succ] at r0 r1
                have hA := hr4.put 0 (.string ⟨#[]⟩)
                simp only [List.setIfInBounds_toArray, List.set_cons_zero] at hA
                have hB := hA.put 1 (.slice none 0 0)
                simp only [List.setIfInBounds_toArray, List.set_cons_succ, List.set_cons_zero] at hB
                have hbB : Below w.heap.size w ((w4.setCell ⟨w.heap.size + 1, 0, none⟩ (.string ⟨#[]⟩)).setCell ⟨w.heap.size + 1, 1, none⟩ (.slice none 0 0)) := (hz4.setCell (p := ⟨w.heap.size + 1, 0, none⟩) (by show w.heap.size ≤ w.heap.size + 1; omega) _).setCell (p := ⟨w.heap.size + 1, 1, none⟩) (by show w.heap.size ≤ w.heap.size + 1; omega) _
                have z0 := hB.cell 0
                have z1 := hB.cell 1
                simp only [List.getElem?_toArray, List.getElem?_cons_zero, List.getElem?_cons_succ] at z0 z1
                go_wp2_with fail
                (try simp only [Exit.inBlock, Exit.then])
                refine bodyPost_ret (v := .tuple #[.agg #[.string ⟨#[]⟩, .slice none 0 0], .int .i64 64]) ?_ rfl (MakeRet.no HR hbB)
                rw [results_cell_tmp rfl]
                go_simp
              | true =>
                have hJ := HJ3''.out rfl
                subst hJ
                have HR := HDY.out rfl
                subst HR
                clear HJ3'' HJ4'' HDY HDN
                go_wp2_with fail
                refine (hcp _ hb24).mono ?_; rintro e w5 ⟨u5, rfl, hown5, hb5⟩
                have hz5 := hz4.trans (hb5.mono hz4.size)
                have hr5 := hr4.call hb5
                obtain ⟨a5, c5, rfl⟩ := hown5.form
                rw [hQL] at hown5 ⊢
                have hown6 := hown5.mono (B' := w.heap.size) hz4.size
                have t0 := hr5.thaw 0
                have t1 := hr5.thaw 1
                have r0 := hr5.cell 0
                have r1 := hr5.cell 1
                simp only [List.getElem?_toArray, List.getElem?_cons_zero, List.getElem?_cons_succ] at r0 r1
                have hA := hr5.put 0 (.string ⟨n.toArray⟩)
                have hoA := hown6.other hr5 (by omega) (by decide) (by decide) 0 (.string ⟨n.toArray⟩)
                simp only [List.setIfInBounds_toArray, List.set_cons_zero] at hA
                have hB := hA.put 1 (.slice a5 QL c5)
                have hoB := hoA.other hA (by omega) (by decide) (by decide) 1 (.slice a5 QL c5)
                simp only [List.setIfInBounds_toArray, List.set_cons_succ, List.set_cons_zero] at hB
                have hbB : Below w.heap.size w ((w5.setCell ⟨w.heap.size + 1, 0, none⟩ (.string ⟨n.toArray⟩)).setCell ⟨w.heap.size + 1, 1, none⟩ (.slice a5 QL c5)) := (hz5.setCell (p := ⟨w.heap.size + 1, 0, none⟩) (by show w.heap.size ≤ w.heap.size + 1; omega) _).setCell (p := ⟨w.heap.size + 1, 1, none⟩) (by show w.heap.size ≤ w.heap.size + 1; omega) _
                have y0 := hB.cell 0
                have y1 := hB.cell 1
                simp only [List.getElem?_toArray, List.getElem?_cons_zero, List.getElem?_cons_succ] at y0 y1
                go_wp2_with fail
                (try simp only [Exit.inBlock, Exit.then])
                refine bodyPost_ret (v := .tuple #[.agg #[.string ⟨n.toArray⟩, .slice a5 QL c5], .int .i64 0]) ?_ rfl ⟨_, rfl, hoB, hbB⟩
                clear hA hoA hB hoB hbB hown5 hown6 hr5 hz5 hr4 hz4 hrow hr
                generalize (w5.setCell ⟨w.heap.size + 1, 0, none⟩ (.string ⟨n.toArray⟩)).setCell ⟨w.heap.size + 1, 1, none⟩ (.slice a5 QL c5) = wf at *
                rw [results_cell_tmp rfl]
                go_simp
end Go.Proofs.YtdcljilfnkmloaaGreatDoor
