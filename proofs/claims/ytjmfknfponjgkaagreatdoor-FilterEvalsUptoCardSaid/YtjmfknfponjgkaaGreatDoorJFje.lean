/- The walks of the document's eval and Eval of a filter. Conditions: as stated. -/
import Derived.Test.YtjmfknfponjgkaaGreatDoorJFiu
import Derived.Test.YtjmfknfponjgkaaGreatDoorJFjd
import Derived.Test.YtjmfknfponjgkaaGreatDoorJFif
set_option maxRecDepth 100000
set_option maxHeartbeats 8000000
namespace Go.Proofs.YtjmfknfponjgkaaGreatDoor
open Go.RowKit
open FiS (Fi)
attribute [local go_sem ↓] Go.wp_at_zero Go.wp_at_succ
def FitS (A : List EnS.At) : Prop := FitT A /\ EnS.sumBy (fun a => a.vals.length) A <= 1048576
def ReC (A : List EnS.At) (n : Nat) : Prop := ∀ (x : Fi) (v u : Value) (w : World), FiIn n w v x -> FiS.wdF 20000 x -> FiS.allS x = true -> AttrsIn w u A -> FitS A -> Env w -> Calls Tryz.prog 26 #[v, u] w (IntR (FiS.evalE A x) w)
theorem refev_c (A : List EnS.At) : ∀ n, ReC A n := deep_ind (fun n IH => by
 unfold ReC at *
 intro x v u w h hwd hall hA hf hE
 have hlf := fun W h hA hE => refflone_c n x v u A W h hwd hA hf.1 hf.2 hE
 have HH := hZ9 h
 obtain ⟨kd, at0, vl, fs, ls, an, ps⟩ := x
 obtain ⟨a5, c5, a6, c6, hv, hss, hc6, hps⟩ := FiV.parts h
 have hv : v = .agg #[.int .i64 kd, .string ⟨at0.toArray⟩, .string ⟨vl.toArray⟩, .string ⟨fs.toArray⟩, .string ⟨ls.toArray⟩, .slice a5 an.length c5, .slice a6 ps.length c6] := hv
 subst hv
 have hss : StrsIn w (.slice a5 an.length c5) an := hss
 have hc6 : ps.length <= c6 := hc6
 have hps : FisP n (fun _ => True) w (.slice a6 ps.length c6) ps := hps
 rw [FiS.wdF] at hwd
 obtain ⟨_, _, _, hpl, hwl⟩ := hwd
 have HWD := hZ9 (FiS.wdL_iff.1 hwl)
 clear hwl
 rw [FiS.allS, Bool.and_eq_true] at hall
 obtain ⟨hbare, hallL⟩ := hall
 have HAL2 := hZ9 (FiS.allL_iff hallL)
 have HEV : Hid (FiS.evalE A (.mk kd at0 vl fs ls an ps) = if kd = 0 \/ kd = 1 then FiS.evalG A kd (1 - kd) ps else if kd = 2 then FiS.notE (FiS.evalH A ps) else FiS.leafE A kd at0 vl fs ls an) := hZ9 (by rw [FiS.evalE])
 obtain ⟨R, hR⟩ : ∃ r, FiS.evalE A (.mk kd at0 vl fs ls an ps) = r := ⟨_, rfl⟩
 rw [hR] at HEV ⊢
 clear hR
 have HTK := hZ9 (fun acc j (hj : j < ps.length) => FiS.accE_take (A := A) (acc := acc) hj)
 have HSTOP := hZ9 (fun k acc j (hj : j < ps.length) h => FiS.evalG_stop A k acc ps j hj h)
 have HALLG := hZ9 (fun k acc h => @FiS.evalG_all A k acc ps h)
 have HTA : Hid (ps.take ps.length = ps) := hZ9 (List.take_length)
 obtain ⟨AL, hAL⟩ : ∃ m, an.length = m := ⟨_, rfl⟩
 obtain ⟨PL, hPL⟩ : ∃ m, ps.length = m := ⟨_, rfl⟩
 have HAL := hZ9 hAL
 have HPL := hZ9 hPL
 rw [hAL] at hss
 rw [hPL] at hc6 hps
 try rw [hAL]
 try rw [hPL]
 have hlf0 : ∀ W, FiIn n W (.agg #[.int .i64 kd, .string ⟨at0.toArray⟩, .string ⟨vl.toArray⟩, .string ⟨fs.toArray⟩, .string ⟨ls.toArray⟩, .slice a5 AL c5, .slice a6 PL c6]) (.mk kd at0 vl fs ls an ps) -> AttrsIn W u A -> Env W -> Calls Tryz.prog 39 #[.agg #[.int .i64 kd, .string ⟨at0.toArray⟩, .string ⟨vl.toArray⟩, .string ⟨fs.toArray⟩, .string ⟨ls.toArray⟩, .slice a5 AL c5, .slice a6 PL c6], u] W (IntR (FiS.leafE A kd at0 vl fs ls an) W) := fun W h hA hE => by
  have := hlf W (by rw [<- hAL, <- hPL] at h; exact h) hA hE
  rw [<- hAL, <- hPL]
  exact this
 rw [hPL] at HTA hpl
 have HH : Hid (FiIn n w (.agg #[.int .i64 kd, .string ⟨at0.toArray⟩, .string ⟨vl.toArray⟩, .string ⟨fs.toArray⟩, .string ⟨ls.toArray⟩, .slice a5 AL c5, .slice a6 PL c6]) (.mk kd at0 vl fs ls an ps)) := hZ9 (by rw [<- hAL, <- hPL]; exact h)
 have hg0 := grow1 w (.cells #[.int .i64 kd, .string ⟨at0.toArray⟩, .string ⟨vl.toArray⟩, .string ⟨fs.toArray⟩, .string ⟨ls.toArray⟩, .slice a5 AL c5, .slice a6 PL c6] 25)
 have hw0 := Whole.made w 25 #[.int .i64 kd, .string ⟨at0.toArray⟩, .string ⟨vl.toArray⟩, .string ⟨fs.toArray⟩, .string ⟨ls.toArray⟩, .slice a5 AL c5, .slice a6 PL c6]
 have HAT := hZ9 (fun j (hj : j < ps.length) => FisP.at hps j hj)
 obtain ⟨q0, q1, q2, q3, q4, q5, q6⟩ := hw0.seven
 have hA0 := AttrsP.call hA hg0
 have hE0 := hE.below hg0
 unfold IntR at *
 clear hlf h hss hps
 by_cases hk0 : kd = 0
 · subst hk0
   have HR : Hid (R = FiS.evalG A 0 1 ps) := hZ9 (by rw [HEV.out, if_pos (by decide)]; rfl)
   clear HEV hlf0 HH hbare hA0 hE0
   go_enter Tryz.func26, Tryz.ntmps26
   go_wp2_with fail
   clear q0 q1 q2 q3 q4 q5 q6
   go_loopw [6, 30] (fun r i wr => ∃ (j : Nat) (b : Bool), j <= PL /\ i = .int .i64 j /\ r = .bool b /\ Hid ((if b = true then (-1 : Int) else 1) = FiS.accE A 1 (ps.take j) /\ ∀ t (ht : t < ps.length), t < j -> FiS.evalE A (ps[t]'ht) ≠ 0) /\ Whole wr w.heap.size 25 #[.int .i64 0, .string ⟨at0.toArray⟩, .string ⟨vl.toArray⟩, .string ⟨fs.toArray⟩, .string ⟨ls.toArray⟩, .slice a5 AL c5, .slice a6 PL c6] /\ Below w.heap.size w wr) (fun _ i _ => PL - (intOf i).toNat)
   case atStart => exact ⟨0, false, Nat.zero_le _, rfl, rfl, hZ9 ⟨rfl, fun t ht h => absurd h (Nat.not_lt_zero _)⟩, hw0, hg0⟩
   case round =>
    obtain ⟨j, b, hj, rfl, rfl, HACC, hw, hb⟩ := hrel
    clear hw0 hg0
    by_cases hlt : j < PL
    · have hlt2 : j < ps.length := by rw [HPL.out]; exact hlt
      have hwp := HWD.out j hlt2
      have hap := HAL2.out j hlt2
      have h3 := FiS.evalE_three A (ps[j]'hlt2)
      have HS : Hid (FiS.evalE A (ps[j]'hlt2) = 0 -> R = 0) := hZ9 (fun h => by rw [HR.out]; exact HSTOP.out 0 _ j hlt2 h)
      have HN : Hid (FiS.evalE A (ps[j]'hlt2) ≠ 0 -> (if FiS.evalE A (ps[j]'hlt2) = -1 then -1 else (if b = true then (-1 : Int) else 1)) = FiS.accE A 1 (ps.take (j + 1)) /\ ∀ t (ht : t < ps.length), t < j + 1 -> FiS.evalE A (ps[t]'ht) ≠ 0) := hZ9 (fun h => ⟨by rw [HTK.out _ j hlt2, <- HACC.out.1], fun t ht htj => by
       rcases Nat.lt_or_eq_of_le (Nat.le_of_lt_succ htj) with h2 | rfl
       · exact HACC.out.2 t ht h2
       · exact h⟩)
      obtain ⟨d, rfl, g, o, rfl, hg, b5, d5, b6, d6, hin, y0, y1, y2, y3, y4, y5, y6⟩ := HAT.out j hlt2
      have hin := hin.call hb
      have y0 := (hb.cell (p := ⟨g, o + j * 7, none⟩) hg).trans y0
      have y1 := (hb.cell (p := ⟨g, o + j * 7 + 1, none⟩) hg).trans y1
      have y2 := (hb.cell (p := ⟨g, o + j * 7 + 2, none⟩) hg).trans y2
      have y3 := (hb.cell (p := ⟨g, o + j * 7 + 3, none⟩) hg).trans y3
      have y4 := (hb.cell (p := ⟨g, o + j * 7 + 4, none⟩) hg).trans y4
      have y5 := (hb.cell (p := ⟨g, o + j * 7 + 5, none⟩) hg).trans y5
      have y6 := (hb.cell (p := ⟨g, o + j * 7 + 6, none⟩) hg).trans y6
      have hrec := fun v W h hA hE => IH d rfl (ps[j]'hlt2) v u W h hwp hap hA hf hE
      clear IH HAT HTK HSTOP HALLG HWD HAL2 HACC HTA
      generalize ps[j] = p at *
      generalize p.any.length = PA at *
      generalize p.parts.length = PP at *
      obtain ⟨E, hEe⟩ : ∃ e, FiS.evalE A p = e := ⟨_, rfl⟩
      rw [hEe] at HS HN h3 hrec
      clear hEe
      have hl0 : (0 : Int) <= (j : Int) := by omega
      have hl1 : (j : Int) < (PL : Int) := by omega
      have hbX := hb
      have hwb := hw
      have hc := hrec _ _ hin (AttrsP.call hA hb) (hE.below hb)
      clear hrec hin hw hb
      obtain ⟨q0, q1, q2, q3, q4, q5, q6⟩ := hwb.seven
      go_wp2_with fail
      refine hc.mono ?_; rintro e w2 ⟨rfl, hb2⟩
      have hz2 := hbX.trans (hb2.mono hbX.size)
      have hw2 := hwb.call hb2
      clear hc y0 y1 y2 y3 y4 y5 y6 q0 q1 q2 q3 q4 q5 q6 hwb hb2 hbX
      obtain ⟨q0, q1, q2, q3, q4, q5, q6⟩ := hw2.seven
      rcases h3 with rfl | rfl | rfl
      · have hn := HN.out (by decide)
        have HA2 : Hid ((if true = true then (-1 : Int) else 1) = FiS.accE A 1 (ps.take (j + 1)) /\ ∀ t (ht : t < ps.length), t < j + 1 -> FiS.evalE A (ps[t]'ht) ≠ 0) := hZ9 ⟨by rw [<- hn.1]; rfl, hn.2⟩
        clear HS HN hn
        cases b
        all_goals (
         go_wp2_with fail
         clear q0 q1 q2 q3 q4 q5 q6
         go_roundw
         case rel => exact ⟨j + 1, _, by omega, by go_num, rfl, HA2, hw2, hz2⟩
         case measure => simp [intOf]; omega)
      · have HRR := hZ9 (HS.out rfl)
        clear HS HN
        go_wp2_with fail
        go_ret
        exact ⟨by (rw [HRR.out]) <;> rfl, hz2⟩
      · have hn := HN.out (by decide)
        have HA2 : Hid ((if b = true then (-1 : Int) else 1) = FiS.accE A 1 (ps.take (j + 1)) /\ ∀ t (ht : t < ps.length), t < j + 1 -> FiS.evalE A (ps[t]'ht) ≠ 0) := hZ9 ⟨by rw [<- hn.1]; rfl, hn.2⟩
        clear HS HN hn
        cases b
        all_goals (
         go_wp2_with fail
         clear q0 q1 q2 q3 q4 q5 q6
         go_roundw
         case rel => exact ⟨j + 1, _, by omega, by go_num, rfl, HA2, hw2, hz2⟩
         case measure => simp [intOf]; omega)
    · have hjl : j = PL := by omega
      have HRR : Hid (R = if b = true then -1 else 1) := hZ9 (by
       rw [HR.out, HALLG.out 0 1 (fun t ht => HACC.out.2 t ht (by rw [HPL.out] at ht; omega)), HACC.out.1, hjl, HTA.out])
      subst hjl
      clear IH HAT HTK HSTOP HALLG HWD HAL2 HACC HTA
      obtain ⟨q0, q1, q2, q3, q4, q5, q6⟩ := hw.seven
      cases b
      all_goals (
       go_wp2_with fail
       go_ret
       exact ⟨by (rw [HRR.out]) <;> rfl, hb⟩)
 by_cases hk1 : kd = 1
 · subst hk1
   have HR : Hid (R = FiS.evalG A 1 0 ps) := hZ9 (by rw [HEV.out, if_pos (by decide)]; rfl)
   clear HEV hlf0 HH hbare hA0 hE0
   go_enter Tryz.func26, Tryz.ntmps26
   go_wp2_with fail
   clear q0 q1 q2 q3 q4 q5 q6
   go_loopw [6, 30] (fun r i wr => ∃ (j : Nat) (b : Bool), j <= PL /\ i = .int .i64 j /\ r = .bool b /\ Hid ((if b = true then (-1 : Int) else 0) = FiS.accE A 0 (ps.take j) /\ ∀ t (ht : t < ps.length), t < j -> FiS.evalE A (ps[t]'ht) ≠ 1) /\ Whole wr w.heap.size 25 #[.int .i64 1, .string ⟨at0.toArray⟩, .string ⟨vl.toArray⟩, .string ⟨fs.toArray⟩, .string ⟨ls.toArray⟩, .slice a5 AL c5, .slice a6 PL c6] /\ Below w.heap.size w wr) (fun _ i _ => PL - (intOf i).toNat)
   case atStart => exact ⟨0, false, Nat.zero_le _, rfl, rfl, hZ9 ⟨rfl, fun t ht h => absurd h (Nat.not_lt_zero _)⟩, hw0, hg0⟩
   case round =>
    obtain ⟨j, b, hj, rfl, rfl, HACC, hw, hb⟩ := hrel
    clear hw0 hg0
    by_cases hlt : j < PL
    · have hlt2 : j < ps.length := by rw [HPL.out]; exact hlt
      have hwp := HWD.out j hlt2
      have hap := HAL2.out j hlt2
      have h3 := FiS.evalE_three A (ps[j]'hlt2)
      have HS : Hid (FiS.evalE A (ps[j]'hlt2) = 1 -> R = 1) := hZ9 (fun h => by rw [HR.out]; exact HSTOP.out 1 _ j hlt2 h)
      have HN : Hid (FiS.evalE A (ps[j]'hlt2) ≠ 1 -> (if FiS.evalE A (ps[j]'hlt2) = -1 then -1 else (if b = true then (-1 : Int) else 0)) = FiS.accE A 0 (ps.take (j + 1)) /\ ∀ t (ht : t < ps.length), t < j + 1 -> FiS.evalE A (ps[t]'ht) ≠ 1) := hZ9 (fun h => ⟨by rw [HTK.out _ j hlt2, <- HACC.out.1], fun t ht htj => by
       rcases Nat.lt_or_eq_of_le (Nat.le_of_lt_succ htj) with h2 | rfl
       · exact HACC.out.2 t ht h2
       · exact h⟩)
      obtain ⟨d, rfl, g, o, rfl, hg, b5, d5, b6, d6, hin, y0, y1, y2, y3, y4, y5, y6⟩ := HAT.out j hlt2
      have hin := hin.call hb
      have y0 := (hb.cell (p := ⟨g, o + j * 7, none⟩) hg).trans y0
      have y1 := (hb.cell (p := ⟨g, o + j * 7 + 1, none⟩) hg).trans y1
      have y2 := (hb.cell (p := ⟨g, o + j * 7 + 2, none⟩) hg).trans y2
      have y3 := (hb.cell (p := ⟨g, o + j * 7 + 3, none⟩) hg).trans y3
      have y4 := (hb.cell (p := ⟨g, o + j * 7 + 4, none⟩) hg).trans y4
      have y5 := (hb.cell (p := ⟨g, o + j * 7 + 5, none⟩) hg).trans y5
      have y6 := (hb.cell (p := ⟨g, o + j * 7 + 6, none⟩) hg).trans y6
      have hrec := fun v W h hA hE => IH d rfl (ps[j]'hlt2) v u W h hwp hap hA hf hE
      clear IH HAT HTK HSTOP HALLG HWD HAL2 HACC HTA
      generalize ps[j] = p at *
      generalize p.any.length = PA at *
      generalize p.parts.length = PP at *
      obtain ⟨E, hEe⟩ : ∃ e, FiS.evalE A p = e := ⟨_, rfl⟩
      rw [hEe] at HS HN h3 hrec
      clear hEe
      have hl0 : (0 : Int) <= (j : Int) := by omega
      have hl1 : (j : Int) < (PL : Int) := by omega
      have hbX := hb
      have hwb := hw
      have hc := hrec _ _ hin (AttrsP.call hA hb) (hE.below hb)
      clear hrec hin hw hb
      obtain ⟨q0, q1, q2, q3, q4, q5, q6⟩ := hwb.seven
      go_wp2_with fail
      refine hc.mono ?_; rintro e w2 ⟨rfl, hb2⟩
      have hz2 := hbX.trans (hb2.mono hbX.size)
      have hw2 := hwb.call hb2
      clear hc y0 y1 y2 y3 y4 y5 y6 q0 q1 q2 q3 q4 q5 q6 hwb hb2 hbX
      obtain ⟨q0, q1, q2, q3, q4, q5, q6⟩ := hw2.seven
      rcases h3 with rfl | rfl | rfl
      · have hn := HN.out (by decide)
        have HA2 : Hid ((if true = true then (-1 : Int) else 0) = FiS.accE A 0 (ps.take (j + 1)) /\ ∀ t (ht : t < ps.length), t < j + 1 -> FiS.evalE A (ps[t]'ht) ≠ 1) := hZ9 ⟨by rw [<- hn.1]; rfl, hn.2⟩
        clear HS HN hn
        cases b
        all_goals (
         go_wp2_with fail
         clear q0 q1 q2 q3 q4 q5 q6
         go_roundw
         case rel => exact ⟨j + 1, _, by omega, by go_num, rfl, HA2, hw2, hz2⟩
         case measure => simp [intOf]; omega)
      · have hn := HN.out (by decide)
        have HA2 : Hid ((if b = true then (-1 : Int) else 0) = FiS.accE A 0 (ps.take (j + 1)) /\ ∀ t (ht : t < ps.length), t < j + 1 -> FiS.evalE A (ps[t]'ht) ≠ 1) := hZ9 ⟨by rw [<- hn.1]; rfl, hn.2⟩
        clear HS HN hn
        cases b
        all_goals (
         go_wp2_with fail
         clear q0 q1 q2 q3 q4 q5 q6
         go_roundw
         case rel => exact ⟨j + 1, _, by omega, by go_num, rfl, HA2, hw2, hz2⟩
         case measure => simp [intOf]; omega)
      · have HRR := hZ9 (HS.out rfl)
        clear HS HN
        go_wp2_with fail
        go_ret
        exact ⟨by (rw [HRR.out]) <;> rfl, hz2⟩
    · have hjl : j = PL := by omega
      have HRR : Hid (R = if b = true then -1 else 0) := hZ9 (by
       rw [HR.out, HALLG.out 1 0 (fun t ht => HACC.out.2 t ht (by rw [HPL.out] at ht; omega)), HACC.out.1, hjl, HTA.out])
      subst hjl
      clear IH HAT HTK HSTOP HALLG HWD HAL2 HACC HTA
      obtain ⟨q0, q1, q2, q3, q4, q5, q6⟩ := hw.seven
      cases b
      all_goals (
       go_wp2_with fail
       go_ret
       exact ⟨by (rw [HRR.out]) <;> rfl, hb⟩)
 have k0 : (kd == 0) = false := by simpa using hk0
 have k1 : (kd == 1) = false := by simpa using hk1
 clear HTK HSTOP HALLG HTA
 by_cases hk2 : kd = 2
 · subst hk2
   have hone : ps.length = 1 := FiS.not_one hbare
   have hPL1 : PL = 1 := by rw [<- HPL.out]; exact hone
   subst hPL1
   have hlt2 : 0 < ps.length := by omega
   have HR : Hid (R = FiS.notE (FiS.evalE A (ps[0]'hlt2))) := hZ9 (by
    rw [HEV.out, if_neg (by decide), if_pos rfl]
    match ps, hlt2 with
    | p :: r, _ => rfl)
   have hwp := HWD.out 0 hlt2
   have hap := HAL2.out 0 hlt2
   have h3 := FiS.evalE_three A (ps[0]'hlt2)
   obtain ⟨d, rfl, g, o, rfl, hg, b5, d5, b6, d6, hin, y0, y1, y2, y3, y4, y5, y6⟩ := HAT.out 0 hlt2
   have hin := hin.call hg0
   simp only [Nat.zero_mul, Nat.add_zero] at y0 y1 y2 y3 y4 y5 y6
   have y0 := (hg0.cell (p := ⟨g, o, none⟩) hg).trans y0
   have y1 := (hg0.cell (p := ⟨g, o + 1, none⟩) hg).trans y1
   have y2 := (hg0.cell (p := ⟨g, o + 2, none⟩) hg).trans y2
   have y3 := (hg0.cell (p := ⟨g, o + 3, none⟩) hg).trans y3
   have y4 := (hg0.cell (p := ⟨g, o + 4, none⟩) hg).trans y4
   have y5 := (hg0.cell (p := ⟨g, o + 5, none⟩) hg).trans y5
   have y6 := (hg0.cell (p := ⟨g, o + 6, none⟩) hg).trans y6
   have hrec := fun v W h hA hE => IH d rfl (ps[0]'hlt2) v u W h hwp hap hA hf hE
   clear IH HAT HWD HAL2 HEV hlf0 HH hbare
   generalize ps[0] = p at *
   generalize p.any.length = PA at *
   generalize p.parts.length = PP at *
   obtain ⟨E, hEe⟩ : ∃ e, FiS.evalE A p = e := ⟨_, rfl⟩
   rw [hEe] at HR h3 hrec
   clear hEe
   have hc := hrec _ _ hin hA0 hE0
   clear hrec hin
   go_enter Tryz.func26, Tryz.ntmps26
   go_wp2_with fail
   refine hc.mono ?_; rintro e w2 ⟨rfl, hb2⟩
   have hz2 := hg0.trans (hb2.mono hg0.size)
   clear hc q0 q1 q2 q3 q4 q5 q6 y0 y1 y2 y3 y4 y5 y6 hb2
   rcases h3 with rfl | rfl | rfl
   · have HRR : Hid (R = -1) := HR
     clear HR
     go_wp2_with fail
     go_ret
     exact ⟨by (rw [HRR.out]) <;> rfl, hz2⟩
   · have HRR : Hid (R = 1) := HR
     clear HR
     go_wp2_with fail
     go_ret
     exact ⟨by (rw [HRR.out]) <;> rfl, hz2⟩
   · have HRR : Hid (R = 0) := HR
     clear HR
     go_wp2_with fail
     go_ret
     exact ⟨by (rw [HRR.out]) <;> rfl, hz2⟩
 have k2 : (kd == 2) = false := by simpa using hk2
 have HR : Hid (R = FiS.leafE A kd at0 vl fs ls an) := hZ9 (by rw [HEV.out, if_neg (by omega), if_neg hk2])
 have hc := hlf0 _ (HH.out.call hg0) hA0 hE0
 clear HEV hlf0 IH HAT HWD HAL2 hbare hk0 hk1 hk2 HH
 obtain ⟨LE, hLE⟩ : ∃ r, FiS.leafE A kd at0 vl fs ls an = r := ⟨_, rfl⟩
 rw [hLE] at hc HR
 clear hLE
 go_enter Tryz.func26, Tryz.ntmps26
 go_wp2_with fail
 refine hc.mono ?_; rintro e w2 ⟨rfl, hb2⟩
 have hz2 := hg0.trans (hb2.mono hg0.size)
 clear hc q0 q1 q2 q3 q4 q5 q6 hb2
 go_wp2_with fail
 go_ret
 exact ⟨by (rw [HR.out]) <;> rfl, hz2⟩)
theorem refEval_c (n : Nat) (x : Fi) (v u : Value) (A : List EnS.At) (w : World) (h : FiIn n w v x) (hwd : FiS.wdF 20000 x) (hA : AttrsIn w u A) (hf : FitS A) (hE : Env w) : Calls Tryz.prog 12 #[v, u] w (IntR (FiS.evalS A x) w) := by
 have hfm := fun W h => refflFormed_c n x v W h hwd
 have hev := fun W ha h hA hE => refev_c A n x v u W h hwd ha hA hf hE
 have HES : Hid (FiS.evalS A x = if FiS.formedS x = true then FiS.evalE A x else -1) := hZ9 rfl
 have HFA : Hid (FiS.formedS x = true -> FiS.allS x = true) := hZ9 (fun h => by unfold FiS.formedS at h; simp only [Bool.and_eq_true] at h; exact h.2.2)
 obtain ⟨R, hR⟩ : ∃ r, FiS.evalS A x = r := ⟨_, rfl⟩
 obtain ⟨E, hEe⟩ : ∃ r, FiS.evalE A x = r := ⟨_, rfl⟩
 rw [hR] at HES ⊢
 rw [hEe] at HES hev
 clear hR hEe
 unfold BoolR IntR at *
 have HH := hZ9 h
 obtain ⟨a5, c5, a6, c6, hv, _, _, _⟩ := FiV.parts h
 generalize x.any.length = AL at *
 generalize x.parts.length = PL at *
 generalize x.kind = kd at *
 generalize x.attr = at0 at *
 generalize x.value = vl at *
 generalize x.first = fs at *
 generalize x.last = ls at *
 subst hv
 have hg0 := grow1 w (.cells #[.int .i64 kd, .string ⟨at0.toArray⟩, .string ⟨vl.toArray⟩, .string ⟨fs.toArray⟩, .string ⟨ls.toArray⟩, .slice a5 AL c5, .slice a6 PL c6] 25)
 have hw0 := Whole.made w 25 #[.int .i64 kd, .string ⟨at0.toArray⟩, .string ⟨vl.toArray⟩, .string ⟨fs.toArray⟩, .string ⟨ls.toArray⟩, .slice a5 AL c5, .slice a6 PL c6]
 obtain ⟨q0, q1, q2, q3, q4, q5, q6⟩ := hw0.seven
 have hfm1 := hfm _ (h.call hg0)
 clear hfm h
 cases hfd : FiS.formedS x with
 | false =>
  rw [hfd] at hfm1
  have HRR : Hid (R = -1) := hZ9 (by rw [HES.out, hfd]; rfl)
  clear hfd HES HFA hev HH
  go_enter Tryz.func12, Tryz.ntmps12
  go_wp2_with fail
  refine hfm1.mono ?_; rintro e w2 ⟨rfl, hb2⟩
  have hz2 := hg0.trans (hb2.mono hg0.size)
  clear hfm1
  go_wp2_with fail
  go_ret
  exact ⟨by (rw [HRR.out]) <;> rfl, hz2⟩
 | true =>
  rw [hfd] at hfm1
  have HRR : Hid (R = E) := hZ9 (by rw [HES.out, hfd]; rfl)
  have hev2 := fun W h hA hE => hev W (HFA.out hfd) h hA hE
  clear hfd HES HFA hev
  go_enter Tryz.func12, Tryz.ntmps12
  go_wp2_with fail
  refine hfm1.mono ?_; rintro e w2 ⟨rfl, hb2⟩
  have hz2 := hg0.trans (hb2.mono hg0.size)
  have hw2 := hw0.call hb2
  clear hfm1 q0 q1 q2 q3 q4 q5 q6 hw0
  obtain ⟨q0, q1, q2, q3, q4, q5, q6⟩ := hw2.seven
  have hc := hev2 _ (HH.out.call hz2) (AttrsP.call hA hz2) (hE.below hz2)
  clear hev2 HH
  go_wp2_with fail
  refine hc.mono ?_; rintro e w3 ⟨rfl, hb3⟩
  have hz3 := hz2.trans (hb3.mono hz2.size)
  clear hc q0 q1 q2 q3 q4 q5 q6
  go_wp2_with fail
  go_ret
  exact ⟨by (rw [HRR.out]) <;> rfl, hz3⟩
end Go.Proofs.YtjmfknfponjgkaaGreatDoor
