/- The walk of the document's leaf of a filter. Conditions: as stated. -/
import Derived.Test.YtjmfknfponjgkaaGreatDoorJFja
import Derived.Test.YtjmfknfponjgkaaGreatDoorJFiu
set_option maxRecDepth 100000
set_option maxHeartbeats 16000000
namespace Go.Proofs.YtjmfknfponjgkaaGreatDoor
open Go.RowKit
open FiS (Fi)
attribute [local go_sem ↓] Go.wp_at_zero Go.wp_at_succ
theorem anyL_all {L : List (List UInt8)} {P : List UInt8 -> Bool} (h : ∀ y, P y = true) : L.any P = decide (0 < L.length) := by
 cases L with
 | nil => rfl
 | cons y r => simp [h y]
theorem anyL_none {L : List (List UInt8)} {P : List UInt8 -> Bool} (h : ∀ t (ht : t < L.length), P (L[t]'ht) = false) : L.any P = false := by
 rw [List.any_eq_false]
 intro x hx
 obtain ⟨t, ht, rfl⟩ := List.mem_iff_getElem.1 hx
 rw [h t ht]; simp
theorem anyL_at {L : List (List UInt8)} {P : List UInt8 -> Bool} {t : Nat} (ht : t < L.length) (h : P (L[t]'ht) = true) : L.any P = true := List.any_eq_true.2 ⟨_, List.getElem_mem ht, h⟩
theorem refflone_c (n : Nat) (x : Fi) (v u : Value) (A : List EnS.At) (w : World) (h : FiIn n w v x) (hwd : FiS.wdF 20000 x) (hA : AttrsIn w u A) (hf : FitT A) (hsum : EnS.sumBy (fun a => a.vals.length) A <= 1048576) (hE : Env w) : Calls Tryz.prog 39 #[v, u] w (IntR (FiS.leafE A x.kind x.attr x.value x.first x.last x.any) w) := by
 have hsz : x.attr.length <= 20000 /\ x.value.length <= 20000 := by
  cases x
  rw [FiS.wdF] at hwd
  exact ⟨hwd.1.1, hwd.1.2.1⟩
 have HMT : Hid (∀ (t : List UInt8) (W : World), x.kind ≠ 4 -> FiIn n W v x -> t.length <= 1000000 -> Env W -> Calls Tryz.prog 61 #[v, .string ⟨t.toArray⟩] W (BoolR (FiS.valueE x.kind x.attr x.value x.first x.last x.any t) W)) := hZ9 (fun t W hk h ht hE => refmatches_c n x v t W hk h hwd ht hE)
 have HP1 : Hid (∀ s W, (RuS.typeOf x.attr).2 = 1 -> FiIn n W v x -> s.length <= 20000 -> Calls Tryz.prog 59 #[v, .string ⟨s.toArray⟩, .bool true] W (BoolR (FiS.piecesS (FiS.lowIf (RuS.typeOf x.attr).2 x.first) (FiS.lowIf (RuS.typeOf x.attr).2 x.last) (x.any.map (FiS.lowIf (RuS.typeOf x.attr).2)) s) W)) := hZ9 (fun s W hs h hl => refpieceslow_c n x v s _ hs W h hwd hl)
 have HP2 : Hid (∀ s W, (RuS.typeOf x.attr).2 ≠ 1 -> FiIn n W v x -> s.length <= 20000 -> Calls Tryz.prog 59 #[v, .string ⟨s.toArray⟩, .bool false] W (BoolR (FiS.piecesS (FiS.lowIf (RuS.typeOf x.attr).2 x.first) (FiS.lowIf (RuS.typeOf x.attr).2 x.last) (x.any.map (FiS.lowIf (RuS.typeOf x.attr).2)) s) W)) := hZ9 (fun s W hs h hl => refpiecesid_c n x v s _ hs W h hwd hl)
 obtain ⟨PF, hPF⟩ : ∃ f : List UInt8 -> Bool, (fun y => decide (x.kind = 7) || FiS.valueE x.kind x.attr x.value x.first x.last x.any y) = f := ⟨_, rfl⟩
 have HPF : Hid (∀ y, PF y = (decide (x.kind = 7) || FiS.valueE x.kind x.attr x.value x.first x.last x.any y)) := hZ9 (fun y => (congrFun hPF y).symm)
 have HLE : Hid (FiS.leafE A x.kind x.attr x.value x.first x.last x.any = if FiS.stuckE x.kind x.attr x.value = true then -1 else if (FiS.typedE (RuS.typeOf x.attr).1 A).any PF = true then 1 else 0) := hZ9 (by unfold FiS.leafE; rw [<- hPF])
 obtain ⟨R, hR⟩ : ∃ r, FiS.leafE A x.kind x.attr x.value x.first x.last x.any = r := ⟨_, rfl⟩
 rw [hR] at HLE ⊢
 clear hR hPF
 have HV4 : Hid (x.kind = 4 -> (RuS.typeOf x.attr).2 ≠ 5 -> ∀ y, FiS.valueE x.kind x.attr x.value x.first x.last x.any y = if (RuS.normal x.attr y).2 = 0 then FiS.piecesS (FiS.lowIf (RuS.typeOf x.attr).2 x.first) (FiS.lowIf (RuS.typeOf x.attr).2 x.last) (x.any.map (FiS.lowIf (RuS.typeOf x.attr).2)) (RuS.normal x.attr y).1 else false) := hZ9 (fun h4 h5 y => by
  have e : DnS.valueS x.attr y = RuS.normal x.attr y := by unfold DnS.valueS; rw [if_neg h5]
  unfold FiS.valueE; rw [e, if_pos h4])
 obtain ⟨VE, hVE⟩ : ∃ f : List UInt8 -> Bool, (fun y => FiS.valueE x.kind x.attr x.value x.first x.last x.any y) = f := ⟨_, rfl⟩
 have hVE2 : ∀ y, FiS.valueE x.kind x.attr x.value x.first x.last x.any y = VE y := fun y => congrFun hVE y
 simp only [hVE2] at HMT HPF HV4
 clear hVE hVE2
 obtain ⟨PC, hPC⟩ : ∃ f : List UInt8 -> Bool, (fun s => FiS.piecesS (FiS.lowIf (RuS.typeOf x.attr).2 x.first) (FiS.lowIf (RuS.typeOf x.attr).2 x.last) (x.any.map (FiS.lowIf (RuS.typeOf x.attr).2)) s) = f := ⟨_, rfl⟩
 have hPC2 : ∀ s, FiS.piecesS (FiS.lowIf (RuS.typeOf x.attr).2 x.first) (FiS.lowIf (RuS.typeOf x.attr).2 x.last) (x.any.map (FiS.lowIf (RuS.typeOf x.attr).2)) s = PC s := fun s => congrFun hPC s
 simp only [hPC2] at HP1 HP2 HV4
 clear hPC hPC2
 have HST : Hid (FiS.stuckE x.kind x.attr x.value = (decide ((RuS.typeOf x.attr).2 = 0) || (decide (x.kind = 4) && decide (2 < (RuS.typeOf x.attr).2)) || ((decide (x.kind = 5) || decide (x.kind = 6)) && (decide ((RuS.typeOf x.attr).2 = 2) || decide ((RuS.typeOf x.attr).2 = 5))) || (decide (x.kind ≠ 4) && decide (x.kind ≠ 7) && decide ((DnS.valueS x.attr x.value).2 ≠ 0)))) := hZ9 rfl
 have HH := hZ9 h
 obtain ⟨a5, c5, a6, c6, hv, _, _, _⟩ := FiV.parts h
 have hty : ∀ W, Calls Tryz.prog 55 #[.string ⟨x.attr.toArray⟩] W (TypeRet x.attr W) := fun W => reftype_c ⟨x.attr.toArray⟩ (by rw [bsize]; omega) W
 have hdv := fun W hE => rnvalue_c x.attr x.value (by omega) (by omega) W hE
 have hvs := fun W hA => reftyped_c A u x.attr W hA hf hsum (by omega)
 have hnm : ∀ (y : List UInt8) W, y.length <= 1000000 -> Env W -> Calls Tryz.prog 58 #[.string ⟨x.attr.toArray⟩, .string ⟨y.toArray⟩] W (NormRet x.attr y W) := fun y W hy hE => refnormal_c ⟨x.attr.toArray⟩ ⟨y.toArray⟩ (by rw [bsize]; omega) (by rw [bsize]; omega) W hE
 have HNL : Hid (∀ y, (RuS.normal x.attr y).1.length <= 20000) := hZ9 (fun y => Nat.le_trans (RuS.normal_len x.attr y) (by decide))
 have HYB : Hid (∀ y ∈ FiS.typedE (RuS.typeOf x.attr).1 A, y.length <= 1000000) := hZ9 (fun y hy => by
  obtain ⟨a, ha, _, h2⟩ := FiS.mem_typedE.1 hy
  exact (hf.1.2 a ha).2 y h2)
 unfold TypeRet at hty
 unfold NmTxt at hdv
 unfold NormRet at hnm
 obtain ⟨B, hB⟩ : ∃ b, FiS.stuckE x.kind x.attr x.value = b := ⟨_, rfl⟩
 rw [hB] at HST HLE
 have hAl := hf.1.1
 have hLB : (FiS.typedE (RuS.typeOf x.attr).1 A).length <= 1048576 := Nat.le_trans (FiS.typedE_len _ A) hsum
 clear hB h hsz hf hsum
 generalize DnS.valueS x.attr x.value = DV at *
 generalize RuS.typeOf x.attr = TT at *
 obtain ⟨Tn, sy⟩ := TT
 obtain ⟨D1, D2⟩ := DV
 simp only at hty hdv hvs HST HLE HV4 HP1 HP2 HYB hLB
 obtain ⟨L, hL⟩ : ∃ l, FiS.typedE Tn A = l := ⟨_, rfl⟩
 rw [hL] at hvs HLE HYB hLB
 clear hL
 generalize x.any.length = AL at *
 generalize x.parts.length = PL at *
 generalize x.kind = kd at *
 generalize x.attr = at0 at *
 generalize x.value = vl at *
 generalize x.first = fs at *
 generalize x.last = ls at *
 subst hv
 unfold IntR BoolR at *
 have hg0 := grow1 w (.cells #[.int .i64 kd, .string ⟨at0.toArray⟩, .string ⟨vl.toArray⟩, .string ⟨fs.toArray⟩, .string ⟨ls.toArray⟩, .slice a5 AL c5, .slice a6 PL c6] 25)
 have hw0 := Whole.made w 25 #[.int .i64 kd, .string ⟨at0.toArray⟩, .string ⟨vl.toArray⟩, .string ⟨fs.toArray⟩, .string ⟨ls.toArray⟩, .slice a5 AL c5, .slice a6 PL c6]
 obtain ⟨q0, q1, q2, q3, q4, q5, q6⟩ := hw0.seven
 have HAI := hZ9 hA
 obtain ⟨aa, ac, rfl, hac⟩ := SliceP.form hA
 clear hA
 have HYES := hZ9 (fun m (hm : m < L.length) (h : PF (L[m]'hm) = true) => anyL_at (P := PF) hm h)
 have HNO := hZ9 (fun h => @anyL_none L PF h)
 have HALL := hZ9 (fun h => @anyL_all L PF h)
 generalize A.length = NA at *
 go_enter Tryz.func39, Tryz.ntmps39
 go_wp2_with fail
 refine (hty _).mono ?_; rintro e w1 ⟨rfl, hb1⟩
 have hz1 := hg0.trans (hb1.mono hg0.size)
 have hw1 := hw0.call hb1
 clear q0 q1 q2 q3 q4 q5 q6 hb1 hty hw0 hg0
 obtain ⟨q0, q1, q2, q3, q4, q5, q6⟩ := hw1.seven
 by_cases h0 : sy = 0
 case pos =>
  have HRR : Hid (R = -1) := hZ9 (by rw [HLE.out, HST.out]; simp [h0])
  subst h0
  clear HLE HST HMT HP1 HP2 HPF HV4 HYES HNO HALL hvs hnm hdv HH HAI HNL HYB
  go_wp2_with fail
  go_ret
  exact ⟨by (rw [HRR.out]) <;> rfl, hz1⟩
 have e0 : (sy == 0) = false := by simpa using h0
 have hvs1 := hvs w1 (AttrsP.call HAI.out hz1)
 clear hvs HAI
 go_wp2_with fail
 refine hvs1.mono ?_; rintro e w2 ⟨l2, rfl, hown, hb2⟩
 have hz2 := hz1.trans (hb2.mono hz1.size)
 have hw2 := hw1.call hb2
 have hE2 := hE.below hz2
 obtain ⟨la, lc, rfl⟩ := hown.form
 obtain ⟨_, hlc, hcl⟩ := StrsIn.cells hown.strs
 have HCL := hZ9 hcl
 clear hvs1 q0 q1 q2 q3 q4 q5 q6 hw1 hb2 hz1 hown hcl
 obtain ⟨LN, hLN⟩ : ∃ k, L.length = k := ⟨_, rfl⟩
 have HLN := hZ9 hLN
 rw [hLN] at hlc hLB ⊢
 have HAL2 : Hid ((∀ y, PF y = true) -> L.any PF = decide (0 < LN)) := hZ9 (fun h => by rw [HALL.out h, hLN])
 clear hLN HALL
 obtain ⟨q0, q1, q2, q3, q4, q5, q6⟩ := hw2.seven
 by_cases h7 : kd = 7
 case pos =>
  subst h7
  have HB : Hid (B = false) := hZ9 (by rw [HST.out]; simp [h0])
  have HRR : Hid (R = if 0 < LN then 1 else 0) := hZ9 (by rw [HLE.out, HB.out, HAL2.out (fun y => by rw [HPF.out]; rfl)]; simp)
  clear HLE HST HMT HP1 HP2 HPF HV4 HYES HNO HAL2 hnm hdv HH HNL HYB HB HCL
  by_cases hl : 0 < LN
  · have hl1 : decide ((0 : Int) < (LN : Int)) = true := decide_eq_true (by omega)
    have hl2 : decide (0 < LN) = true := decide_eq_true hl
    have hl3 : (0 : Int) < (LN : Int) := by omega
    have hrt := reftruth_c true w2
    have HR1 : Hid (R = 1) := hZ9 (by rw [HRR.out, if_pos hl])
    clear HRR
    go_wp2_with fail
    refine hrt.mono ?_; rintro e w3 ⟨rfl, rfl⟩
    go_wp2_with fail
    go_ret
    exact ⟨by (rw [HR1.out]) <;> rfl, hz2⟩
  · have hl1 : decide ((0 : Int) < (LN : Int)) = false := decide_eq_false (by omega)
    have hl2 : decide (0 < LN) = false := decide_eq_false hl
    have hrt := reftruth_c false w2
    have HR1 : Hid (R = 0) := hZ9 (by rw [HRR.out, if_neg hl])
    have hl0 : LN = 0 := by omega
    subst hl0
    clear HRR
    go_wp2_with fail
    refine hrt.mono ?_; rintro e w3 ⟨rfl, rfl⟩
    go_wp2_with fail
    go_ret
    exact ⟨by (rw [HR1.out]) <;> rfl, hz2⟩
 have e7 : (kd == 7) = false := by simpa using h7
 clear HAL2
 by_cases h4 : kd = 4
 case pos =>
  subst h4
  by_cases h2 : 2 < sy
  case pos =>
   have HB : Hid (B = true) := hZ9 (by rw [HST.out]; simp [h2])
   have HRR : Hid (R = -1) := hZ9 (by rw [HLE.out, HB.out]; rfl)
   have e2 : decide (2 < sy) = true := decide_eq_true h2
   clear HLE HST HMT HP1 HP2 HPF HV4 HYES HNO hnm hdv HH HNL HYB HB HCL
   go_wp2_with fail
   go_ret
   exact ⟨by (rw [HRR.out]) <;> rfl, hz2⟩
  have e2 : decide (2 < sy) = false := decide_eq_false h2
  have HB : Hid (B = false) := hZ9 (by rw [HST.out]; simp [h2, h0])
  have HRR : Hid (R = if L.any PF = true then 1 else 0) := hZ9 (by rw [HLE.out, HB.out]; rfl)
  have HPF : Hid (∀ y, PF y = if (RuS.normal at0 y).2 = 0 then PC (RuS.normal at0 y).1 else false) := hZ9 (fun y => by rw [HPF.out, HV4.out rfl (by omega)]; rfl)
  clear HLE HST HB HMT hdv HV4
  have HPX : Hid (∀ s W, FiIn n W (.agg #[.int .i64 4, .string ⟨at0.toArray⟩, .string ⟨vl.toArray⟩, .string ⟨fs.toArray⟩, .string ⟨ls.toArray⟩, .slice a5 AL c5, .slice a6 PL c6]) x -> s.length <= 20000 -> Calls Tryz.prog 59 #[.agg #[.int .i64 4, .string ⟨at0.toArray⟩, .string ⟨vl.toArray⟩, .string ⟨fs.toArray⟩, .string ⟨ls.toArray⟩, .slice a5 AL c5, .slice a6 PL c6], .string ⟨s.toArray⟩, .bool (sy == 1)] W fun e w' => e = .returned (.bool (PC s)) /\ Below W.heap.size W w') := hZ9 (fun s W h hl => by
   by_cases hs1 : sy = 1
   · have e1 : (sy == 1) = true := by simpa using hs1
     rw [e1]
     exact HP1.out s W hs1 h hl
   · have e1 : (sy == 1) = false := by simpa using hs1
     rw [e1]
     exact HP2.out s W hs1 h hl)
  clear HP1 HP2
  go_wp2_with fail
  clear q0 q1 q2 q3 q4 q5 q6
  go_loopw [40] (fun i wr => ∃ m : Nat, m <= LN /\ i = .int .i64 m /\ Whole wr w.heap.size 25 #[.int .i64 4, .string ⟨at0.toArray⟩, .string ⟨vl.toArray⟩, .string ⟨fs.toArray⟩, .string ⟨ls.toArray⟩, .slice a5 AL c5, .slice a6 PL c6] /\ Below w2.heap.size w2 wr /\ Hid (∀ t (ht : t < L.length), t < m -> PF (L[t]'ht) = false)) (fun i _ => LN - (intOf i).toNat)
  case atStart => exact ⟨0, Nat.zero_le _, rfl, hw2, Below.refl _ _, hZ9 (fun t ht h => absurd h (Nat.not_lt_zero _))⟩
  case round =>
   obtain ⟨m, hm, rfl, hw, hb, HV⟩ := hrel
   by_cases hltm : m < LN
   case neg =>
    have HR0 : Hid (R = 0) := hZ9 (by rw [HRR.out, HNO.out (fun t ht => HV.out t ht (by rw [HLN.out] at ht; omega))]; simp)
    have hmn : m = LN := by omega
    subst hmn
    clear HCL HYB HYES HNO HRR HV HPX HNL HPF HH hnm
    go_wp2_with fail
    go_ret
    exact ⟨by (rw [HR0.out]) <;> rfl, hz2.trans (hb.mono hz2.size)⟩
   have hltm2 : m < L.length := by rw [HLN.out]; exact hltm
   obtain ⟨g, o, hae, hg, hcy⟩ := HCL.out m _ (List.getElem?_eq_getElem hltm2)
   subst hae
   have y0 := keepC hcy hb.drew
   have hym := HYB.out _ (List.getElem_mem hltm2)
   have HY1 : Hid (PF (L[m]'hltm2) = true -> R = 1) := hZ9 (fun h => by rw [HRR.out, HYES.out m hltm2 h]; rfl)
   have HVS : Hid (PF (L[m]'hltm2) = false -> ∀ t (ht : t < L.length), t < m + 1 -> PF (L[t]'ht) = false) := hZ9 (fun h t ht htm => by
    rcases Nat.lt_or_eq_of_le (Nat.le_of_lt_succ htm) with h2 | rfl
    · exact HV.out t ht h2
    · exact h)
   have HPY := hZ9 (HPF.out (L[m]'hltm2))
   clear hcy HV HYES HNO HYB HRR HCL
   generalize L[m] = y at *
   unfold strV at y0
   have hm0 : (0 : Int) <= (m : Int) := by omega
   have hm1 : (m : Int) < (LN : Int) := by omega
   have hbw := hz2.trans (hb.mono hz2.size)
   have hwD := hw.drew
   have hbD := hb.drew
   obtain ⟨q0, q1, q2, q3, q4, q5, q6⟩ := hwD.seven
   have hwr : Below w.heap.size w wr.drew := hbw.drew
   have hnm1 := hnm y wr.drew hym (hE.below hwr)
   have hnl := HNL.out y
   clear hnm HNL HPF
   generalize RuS.normal at0 y = NY at *
   obtain ⟨N1, N2⟩ := NY
   simp only at hnm1 hnl HPY
   go_wp2_with fail
   go_region_held3 (fun W => W.cell? ⟨w.heap.size, 0, none⟩ = some (.int .i64 4) /\ W.cell? ⟨w.heap.size, 1, none⟩ = some (.string ⟨at0.toArray⟩) /\ W.cell? ⟨w.heap.size, 2, none⟩ = some (.string ⟨vl.toArray⟩) /\ W.cell? ⟨w.heap.size, 3, none⟩ = some (.string ⟨fs.toArray⟩) /\ W.cell? ⟨w.heap.size, 4, none⟩ = some (.string ⟨ls.toArray⟩) /\ W.cell? ⟨w.heap.size, 5, none⟩ = some (.slice a5 AL c5) /\ W.cell? ⟨w.heap.size, 6, none⟩ = some (.slice a6 PL c6) /\ W.cell? ⟨g, o + m, none⟩ = some (.string ⟨y.toArray⟩)) (first | exact ⟨q0, q1, q2, q3, q4, q5, q6, y0⟩ | exact ⟨keepC q0 hb5, keepC q1 hb5, keepC q2 hb5, keepC q3 hb5, keepC q4 hb5, keepC q5 hb5, keepC q6 hb5, keepC y0 hb5⟩)
    (first | (go_at_call 58; (with_reducible refine hnm1.mono ?_); rintro e w5 ⟨rfl, hb5⟩))
   all_goals (
    have hz5 := hbD.trans (hb5.mono hbD.size)
    have hw5 := hwD.call hb5
    have hzw5 := hwr.trans (hb5.mono hwr.size)
    clear q0 q1 q2 q3 q4 q5 q6 y0 hnm1 hwD hbD hb5 hw hb hbw hwr)
   by_cases hn2 : N2 = 0
   case neg =>
    have en : (N2 == 0) = false := by simpa using hn2
    have HV2 := hZ9 (HVS.out (by rw [HPY.out, if_neg hn2]))
    clear HVS HY1 HPY HPX HH hn2
    go_wp2_with fail
    go_roundw
    case rel => exact ⟨m + 1, by omega, by go_num, hw5, hz5, HV2⟩
    case measure => simp [intOf]; omega
   subst hn2
   have HPY2 : Hid (PF y = PC N1) := hZ9 (by rw [HPY.out, if_pos rfl])
   have hpx := HPX.out N1 w5 (HH.out.call hzw5) hnl
   clear HPY HPX HH hnl
   obtain ⟨pb, hpb⟩ : ∃ b, PC N1 = b := ⟨_, rfl⟩
   rw [hpb] at hpx HPY2
   clear hpb
   obtain ⟨q0, q1, q2, q3, q4, q5, q6⟩ := hw5.seven
   cases pb with
   | true =>
    have HR1 := hZ9 (HY1.out HPY2.out)
    clear HY1 HVS HPY2
    go_wp2_with fail
    refine hpx.mono ?_; rintro e w6 ⟨rfl, hb6⟩
    have hz6 := hzw5.trans (hb6.mono hzw5.size)
    clear hpx q0 q1 q2 q3 q4 q5 q6
    go_wp2_with fail
    go_ret
    exact ⟨by (rw [HR1.out]) <;> rfl, hz6⟩
   | false =>
    have HV2 := hZ9 (HVS.out HPY2.out)
    clear HY1 HVS HPY2
    go_wp2_with fail
    refine hpx.mono ?_; rintro e w6 ⟨rfl, hb6⟩
    have hz6 := hz5.trans (hb6.mono hz5.size)
    have hw6 := hw5.call hb6
    clear hpx q0 q1 q2 q3 q4 q5 q6 hw5 hb6 hz5 hzw5
    go_wp2_with fail
    go_roundw
    case rel => exact ⟨m + 1, by omega, by go_num, hw6, hz6, HV2⟩
    case measure => simp [intOf]; omega
 have e4 : (kd == 4) = false := by simpa using h4
 have hdv2 := hdv w2 hE2
 clear hdv HV4 HP1 HP2 hnm HNL
 go_wp2_with fail
 refine hdv2.mono ?_; rintro e w3 ⟨rfl, hb3⟩
 have hz3 := hz2.trans (hb3.mono hz2.size)
 have hw3 := hw2.call hb3
 have HCL3 : Hid (∀ (k : Nat) (y : List UInt8), L[k]? = some y -> ∃ g o, la = some ⟨g, o, none⟩ /\ g < w3.heap.size /\ w3.cell? ⟨g, o + k, none⟩ = some (strV y)) := hZ9 (fun k y hy => by
  obtain ⟨g, o, h1, h2, h3⟩ := HCL.out k y hy
  exact ⟨g, o, h1, Nat.lt_of_lt_of_le h2 hb3.size, keepC h3 hb3⟩)
 clear HCL hdv2 q0 q1 q2 q3 q4 q5 q6 hw2 hb3 hz2
 obtain ⟨q0, q1, q2, q3, q4, q5, q6⟩ := hw3.seven
 by_cases hd : D2 = 0
 case neg =>
  have HB : Hid (B = true) := hZ9 (by rw [HST.out]; simp [h4, h7, hd])
  have HRR : Hid (R = -1) := hZ9 (by rw [HLE.out, HB.out]; rfl)
  have ed : (D2 != 0) = true := by simpa using hd
  clear HLE HST HMT HPF HYES HNO HH HYB HB HCL3
  go_wp2_with fail
  go_ret
  exact ⟨by (rw [HRR.out]) <;> rfl, hz3⟩
 have ed : (D2 != 0) = false := by simpa using hd
 obtain ⟨PQ, hPQ⟩ : ∃ b, (((kd == 5) || (kd == 6)) && ((sy == 2) || (sy == 5))) = b := ⟨_, rfl⟩
 have HBQ : Hid (B = PQ) := hZ9 (by
  rw [HST.out, <- hPQ]
  have e : (decide (kd = 4) && decide (2 < sy)) = false := by rw [decide_eq_false h4]; rfl
  rw [e, decide_eq_false h0, decide_eq_false (fun h : D2 ≠ 0 => h hd), Bool.and_false, Bool.or_false, Bool.false_or, Bool.false_or]
  rfl)
 have HPQ := hZ9 hPQ
 clear hPQ HST
 go_upto_region 19 with fail
 go_cut [90] (fun t wd => t = .bool PQ /\ w3 = wd)
 case first =>
  clear HLE HBQ HMT HPF HYES HNO HH HYB HCL3
  obtain ⟨b5, hb5⟩ : ∃ b, (kd == 5) = b := ⟨_, rfl⟩
  obtain ⟨b6, hb6⟩ : ∃ b, (kd == 6) = b := ⟨_, rfl⟩
  obtain ⟨c2, hc2⟩ : ∃ b, (sy == 2) = b := ⟨_, rfl⟩
  obtain ⟨c5, hc5⟩ : ∃ b, (sy == 5) = b := ⟨_, rfl⟩
  rw [hb5, hb6, hc2, hc5] at HPQ
  cases b5 <;> cases b6 <;> cases c2 <;> cases c5
  all_goals (
   go_wp2_with fail
   go_meet
   exact ⟨by (rw [<- HPQ.out]) <;> rfl, rfl⟩)
 case rest =>
 obtain ⟨rfl, rfl⟩ := hcut
 clear HPQ
 cases PQ with
 | true =>
  have HRR : Hid (R = -1) := hZ9 (by rw [HLE.out, HBQ.out]; rfl)
  clear HLE HBQ HMT HPF HYES HNO HH HYB HCL3
  go_wp2_with fail
  go_ret
  exact ⟨by (rw [HRR.out]) <;> rfl, hz3⟩
 | false =>
 have HRR : Hid (R = if L.any PF = true then 1 else 0) := hZ9 (by rw [HLE.out, HBQ.out]; rfl)
 have HPF : Hid (∀ y, PF y = VE y) := hZ9 (fun y => by rw [HPF.out, decide_eq_false h7, Bool.false_or])
 have HMX := hZ9 (fun t W h ht hE => HMT.out t W h4 h ht hE)
 clear HLE HBQ HMT
 go_wp2_with fail
 clear q0 q1 q2 q3 q4 q5 q6
 go_loopw [93] (fun i wr => ∃ m : Nat, m <= LN /\ i = .int .i64 m /\ Whole wr w.heap.size 25 #[.int .i64 kd, .string ⟨at0.toArray⟩, .string ⟨vl.toArray⟩, .string ⟨fs.toArray⟩, .string ⟨ls.toArray⟩, .slice a5 AL c5, .slice a6 PL c6] /\ Below w3.heap.size w3 wr /\ Hid (∀ t (ht : t < L.length), t < m -> PF (L[t]'ht) = false)) (fun i _ => LN - (intOf i).toNat)
 case atStart => exact ⟨0, Nat.zero_le _, rfl, hw3, Below.refl _ _, hZ9 (fun t ht h => absurd h (Nat.not_lt_zero _))⟩
 case round =>
  obtain ⟨m, hm, rfl, hw, hb, HV⟩ := hrel
  by_cases hltm : m < LN
  case neg =>
   have HR0 : Hid (R = 0) := hZ9 (by rw [HRR.out, HNO.out (fun t ht => HV.out t ht (by rw [HLN.out] at ht; omega))]; simp)
   have hmn : m = LN := by omega
   subst hmn
   clear HCL3 HYB HYES HNO HRR HV HMX HPF HH
   go_wp2_with fail
   go_ret
   exact ⟨by (rw [HR0.out]) <;> rfl, hz3.trans (hb.mono hz3.size)⟩
  have hltm2 : m < L.length := by rw [HLN.out]; exact hltm
  obtain ⟨g, o, hae, hg, hcy⟩ := HCL3.out m _ (List.getElem?_eq_getElem hltm2)
  subst hae
  have y0 := keepC hcy hb.drew
  have hym := HYB.out _ (List.getElem_mem hltm2)
  have HY1 : Hid (PF (L[m]'hltm2) = true -> R = 1) := hZ9 (fun h => by rw [HRR.out, HYES.out m hltm2 h]; rfl)
  have HVS : Hid (PF (L[m]'hltm2) = false -> ∀ t (ht : t < L.length), t < m + 1 -> PF (L[t]'ht) = false) := hZ9 (fun h t ht htm => by
   rcases Nat.lt_or_eq_of_le (Nat.le_of_lt_succ htm) with h2 | rfl
   · exact HV.out t ht h2
   · exact h)
  have HPY := hZ9 (HPF.out (L[m]'hltm2))
  clear hcy HV HYES HNO HYB HRR HCL3
  generalize L[m] = y at *
  unfold strV at y0
  have hm0 : (0 : Int) <= (m : Int) := by omega
  have hm1 : (m : Int) < (LN : Int) := by omega
  have hbw := hz3.trans (hb.mono hz3.size)
  have hwD := hw.drew
  have hbD := hb.drew
  obtain ⟨q0, q1, q2, q3, q4, q5, q6⟩ := hwD.seven
  have hwr : Below w.heap.size w wr.drew := hbw.drew
  have hmx := HMX.out y wr.drew (HH.out.call hwr) hym (hE.below hwr)
  have HPY2 : Hid (PF y = VE y) := HPY
  obtain ⟨vb, hvb⟩ : ∃ b, VE y = b := ⟨_, rfl⟩
  rw [hvb] at hmx HPY2
  clear hvb HMX HPF HPY HH
  go_wp2_with fail
  go_region_held3 (fun W => W.cell? ⟨w.heap.size, 0, none⟩ = some (.int .i64 kd) /\ W.cell? ⟨w.heap.size, 1, none⟩ = some (.string ⟨at0.toArray⟩) /\ W.cell? ⟨w.heap.size, 2, none⟩ = some (.string ⟨vl.toArray⟩) /\ W.cell? ⟨w.heap.size, 3, none⟩ = some (.string ⟨fs.toArray⟩) /\ W.cell? ⟨w.heap.size, 4, none⟩ = some (.string ⟨ls.toArray⟩) /\ W.cell? ⟨w.heap.size, 5, none⟩ = some (.slice a5 AL c5) /\ W.cell? ⟨w.heap.size, 6, none⟩ = some (.slice a6 PL c6) /\ W.cell? ⟨g, o + m, none⟩ = some (.string ⟨y.toArray⟩)) (first | exact ⟨q0, q1, q2, q3, q4, q5, q6, y0⟩ | exact ⟨keepC q0 hb5, keepC q1 hb5, keepC q2 hb5, keepC q3 hb5, keepC q4 hb5, keepC q5 hb5, keepC q6 hb5, keepC y0 hb5⟩)
   (first | (go_at_call 61; (with_reducible refine hmx.mono ?_); rintro e w5 ⟨rfl, hb5⟩))
  all_goals (
   have hz5 := hbD.trans (hb5.mono hbD.size)
   have hw5 := hwD.call hb5
   have hzw5 := hwr.trans (hb5.mono hwr.size)
   clear q0 q1 q2 q3 q4 q5 q6 y0 hmx hwD hbD hb5 hw hb hbw hwr)
  cases vb with
  | true =>
   have HR1 := hZ9 (HY1.out HPY2.out)
   clear HY1 HVS HPY2
   go_wp2_with fail
   go_ret
   exact ⟨by (rw [HR1.out]) <;> rfl, hzw5⟩
  | false =>
   have HV2 := hZ9 (HVS.out HPY2.out)
   clear HY1 HVS HPY2
   go_wp2_with fail
   go_roundw
   case rel => exact ⟨m + 1, by omega, by go_num, hw5, hz5, HV2⟩
   case measure => simp [intOf]; omega
end Go.Proofs.YtjmfknfponjgkaaGreatDoor
