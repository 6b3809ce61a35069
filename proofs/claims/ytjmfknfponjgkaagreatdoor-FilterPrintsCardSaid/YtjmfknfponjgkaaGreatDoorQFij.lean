/- The walk of a filter's text, the document's. Conditions: the text is at most 500000000 bytes. The walk of the program's write: a filter's text in a builder. Conditions: the text is at most 400000000 bytes; the filter lies below B. -/
import Derived.Test.YtjmfknfponjgkaaGreatDoorQFie
import Derived.Test.YtjmfknfponjgkaaGreatDoorQFii
namespace Go.Proofs.YtjmfknfponjgkaaGreatDoor
namespace FiS
theorem textL_take : ∀ {ps : List Fi} {j : Nat} (hj : j < ps.length), textL (ps.take (j + 1)) = textL (ps.take j) ++ textS (ps[j]'hj)
  | [], j, hj => by simp at hj
  | p :: r, 0, _ => by
    show textS p ++ textL (r.take 0) = textL [] ++ textS p
    simp [textL]
  | p :: r, j + 1, hj => by
    have ih := textL_take (ps := r) (j := j) (by simpa using hj)
    show textS p ++ textL (r.take (j + 1)) = textS p ++ textL (r.take j) ++ textS (r[j]'(by simpa using hj))
    rw [ih, List.append_assoc]
theorem textL_le : ∀ (ps : List Fi) (j : Nat), (textL (ps.take j)).length ≤ (textL ps).length
  | [], j => by simp
  | p :: r, 0 => by simp [textL]
  | p :: r, j + 1 => by
    have := textL_le r j
    show (textS p ++ textL (r.take j)).length ≤ (textS p ++ textL r).length
    rw [List.length_append, List.length_append]; omega
theorem textL_part {ps : List Fi} {j : Nat} (hj : j < ps.length) : (textL (ps.take j)).length + (textS (ps[j]'hj)).length ≤ (textL ps).length := by
  have := textL_le ps (j + 1)
  rw [textL_take hj, List.length_append] at this
  exact this
theorem starS_take : ∀ {s : List (List UInt8)} {j : Nat} (hj : j < s.length), starS (s.take (j + 1)) = starS (s.take j) ++ 42 :: escV (s[j]'hj)
  | [], j, hj => by simp at hj
  | p :: r, 0, _ => by
    show 42 :: (escV p ++ starS (r.take 0)) = starS [] ++ 42 :: escV p
    simp [starS]
  | p :: r, j + 1, hj => by
    have ih := starS_take (s := r) (j := j) (by simpa using hj)
    show 42 :: (escV p ++ starS (r.take (j + 1))) = 42 :: (escV p ++ starS (r.take j)) ++ 42 :: escV (r[j]'(by simpa using hj))
    rw [ih, List.cons_append, List.append_assoc]
theorem starS_le : ∀ (s : List (List UInt8)) (j : Nat), (starS (s.take j)).length ≤ (starS s).length
  | [], j => by simp
  | p :: r, 0 => by simp [starS]
  | p :: r, j + 1 => by
    have := starS_le r j
    show (42 :: (escV p ++ starS (r.take j))).length ≤ (42 :: (escV p ++ starS r)).length
    simp only [List.length_cons, List.length_append]; omega
theorem starS_part {s : List (List UInt8)} {j : Nat} (hj : j < s.length) : (starS (s.take j)).length + 1 + (escV (s[j]'hj)).length ≤ (starS s).length := by
  have := starS_le s (j + 1)
  rw [starS_take hj, List.length_append, List.length_cons] at this
  omega
end FiS
open Go.RowKit
open FiS (Fi)
attribute [local go_sem ↓] Go.wp_at_zero Go.wp_at_succ
/-- two texts, one behind the other -/
theorem cat3 (x y : List UInt8) (h : x.length + y.length ≤ 1000000000) : ∃ z, z = x ++ y ∧ (∀ w, (Op.stringOp .add ⟨x.toArray⟩ ⟨y.toArray⟩).run Tryz.prog w = .ok (.string ⟨z.toArray⟩) w) ∧ (⟨x.toArray⟩ ++ ⟨y.toArray⟩ : ByteArray) = ⟨z.toArray⟩ := by
  refine ⟨x ++ y, rfl, fun w => ?_, mk_app x y⟩
  rw [← mk_app]
  exact run_string_add_sum w _ _ (by show x.toArray.size + y.toArray.size ≤ _; simp; omega)

def TextC (n : Nat) : Prop := ∀ (x : Fi) (v : Value) (w : World), FiIn n w v x → FiS.wdF 20000 x → (FiS.textS x).length ≤ 500000000 → Calls Tryz.prog 30 #[v] w fun e w' => e = .returned (.string ⟨(FiS.textS x).toArray⟩) ∧ Below w.heap.size w w'
set_option maxRecDepth 100000 in
set_option maxHeartbeats 8000000 in
theorem fltext_c : ∀ n, TextC n := deep_ind (fun n IH => by
  unfold TextC at *
  intro x v w h hwd hlen
  obtain ⟨kd, at0, vl, fs, ls, an, ps⟩ := x
  obtain ⟨a5, c5, a6, c6, hv, hss, hc6, hps⟩ := FiV.parts h
  have hv : v = .agg #[.int .i64 kd, .string ⟨at0.toArray⟩, .string ⟨vl.toArray⟩, .string ⟨fs.toArray⟩, .string ⟨ls.toArray⟩, .slice a5 an.length c5, .slice a6 ps.length c6] := hv
  subst hv
  have hss : StrsIn w (.slice a5 an.length c5) an := hss
  have hc6 : ps.length ≤ c6 := hc6
  have hps : FisP n (fun _ => True) w (.slice a6 ps.length c6) ps := hps
  rw [FiS.wdF] at hwd
  obtain ⟨⟨hat0, hvl, hfs, hls⟩, hany, hanys, hpl, hwl⟩ := hwd
  have HWD := Lib.hid (FiS.wdL_iff.1 hwl)
  have HANY := Lib.hid (fun j (hj : j < an.length) => hanys an[j] (List.getElem_mem hj))
  clear hwl hanys
  have HT := Lib.hid (fun j (hj : j < ps.length) => FiS.textL_take hj)
  have HTP := Lib.hid (fun j (hj : j < ps.length) => FiS.textL_part hj)
  have HST := Lib.hid (fun j (hj : j < an.length) => FiS.starS_take hj)
  have HSP := Lib.hid (fun j (hj : j < an.length) => FiS.starS_part hj)
  have HALL : Hid (ps.take ps.length = ps) := Lib.hid (List.take_length)
  have HALA : Hid (an.take an.length = an) := Lib.hid (List.take_length)
  have HTX : Hid (FiS.textS (.mk kd at0 vl fs ls an ps) = 40 :: ((if FiS.inner kd = true then FiS.opC kd :: FiS.textL ps else FiS.itemM kd at0 vl fs ls an) ++ [41])) := Lib.hid (by rw [FiS.textS]; rfl)
  obtain ⟨R, hR⟩ : ∃ r, FiS.textS (.mk kd at0 vl fs ls an ps) = r := ⟨_, rfl⟩
  rw [hR] at hlen HTX ⊢
  have HLEN := Lib.hid hlen
  clear hR hlen
  obtain ⟨AL, hAL⟩ : ∃ m, an.length = m := ⟨_, rfl⟩
  obtain ⟨PL, hPL⟩ : ∃ m, ps.length = m := ⟨_, rfl⟩
  have HAL := Lib.hid hAL
  have HPL := Lib.hid hPL
  rw [hAL] at hss
  rw [hPL] at hc6 hps
  try rw [hAL]
  try rw [hPL]
  have hg0 := grow1 w (.cells #[.int .i64 kd, .string ⟨at0.toArray⟩, .string ⟨vl.toArray⟩, .string ⟨fs.toArray⟩, .string ⟨ls.toArray⟩, .slice a5 AL c5, .slice a6 PL c6] 25)
  have hw0 := Whole.made w 25 #[.int .i64 kd, .string ⟨at0.toArray⟩, .string ⟨vl.toArray⟩, .string ⟨fs.toArray⟩, .string ⟨ls.toArray⟩, .slice a5 AL c5, .slice a6 PL c6]
  have HAT := Lib.hid (fun j (hj : j < ps.length) => FisP.at hps j hj)
  rw [hPL] at HALL hpl
  rw [hAL] at HALA hany
  obtain ⟨a', c', e, hcc, hsc⟩ := SliceP.at (hss.strsP (fun _ => True) (fun _ _ => trivial))
  injection e with e1 e2 e3
  rw [← e1] at hsc
  have HSC := Lib.hid hsc
  clear hsc hss e1 e2 e3 hcc
  obtain ⟨q0, q1, q2, q3, q4, q5, q6⟩ := hw0.seven
  have HW0 := Lib.hid hw0
  have hesc := fun l (hl : l.length ≤ 20000) w => escaped_c l hl w
  have hsgn := fun w => refsign_c kd w
  clear h hps hAL hPL hw0
  by_cases hk0 : kd = 0
  · subst hk0
    have HRS : Hid (R = 40 :: ((38 :: FiS.textL ps) ++ [41])) := Lib.hid HTX.out
    clear HTX HSC hesc hsgn HST HSP HALA HANY
    have HW0 := HW0.out
    go_enter Tryz.func30, Tryz.ntmps30
    go_wp2_with fail
    go_loopw [3, 31] (fun sv i wr => ∃ j : Nat, j ≤ PL ∧ i = .int .i64 j ∧ sv = .string ⟨(38 :: FiS.textL (ps.take j)).toArray⟩ ∧ Whole wr w.heap.size 25 #[.int .i64 0, .string ⟨at0.toArray⟩, .string ⟨vl.toArray⟩, .string ⟨fs.toArray⟩, .string ⟨ls.toArray⟩, .slice a5 AL c5, .slice a6 PL c6] ∧ Below w.heap.size w wr) (fun _ i _ => PL - (intOf i).toNat)
    case atStart => exact ⟨0, Nat.zero_le _, rfl, rfl, HW0, hg0⟩
    case round =>
      obtain ⟨j, hj, rfl, rfl, hw, hb⟩ := hrel
      clear HW0 hg0 q0 q1 q2 q3 q4 q5 q6
      by_cases hlt : j < PL
      · have hlt2 : j < ps.length := by rw [HPL.out]; exact hlt
        have HTj := Lib.hid (HT.out j hlt2)
        have htp := HTP.out j hlt2
        have hj39 : j ≤ 20000 := by omega
        have hwp := HWD.out j hlt2
        have hrl := congrArg List.length HRS.out
        simp only [List.length_cons, List.length_append, List.length_nil] at hrl
        have hlen2 : (FiS.textL (ps.take j)).length + (FiS.textS (ps[j]'hlt2)).length ≤ 500000000 := by have := HLEN.out; omega
        clear hrl htp
        obtain ⟨d, rfl, g, o, rfl, hg, b5, d5, b6, d6, hin, y0, y1, y2, y3, y4, y5, y6⟩ := HAT.out j hlt2
        have hin := hin.call hb
        have y0 := (hb.cell (p := ⟨g, o + j * 7, none⟩) hg).trans y0
        have y1 := (hb.cell (p := ⟨g, o + j * 7 + 1, none⟩) hg).trans y1
        have y2 := (hb.cell (p := ⟨g, o + j * 7 + 2, none⟩) hg).trans y2
        have y3 := (hb.cell (p := ⟨g, o + j * 7 + 3, none⟩) hg).trans y3
        have y4 := (hb.cell (p := ⟨g, o + j * 7 + 4, none⟩) hg).trans y4
        have y5 := (hb.cell (p := ⟨g, o + j * 7 + 5, none⟩) hg).trans y5
        have y6 := (hb.cell (p := ⟨g, o + j * 7 + 6, none⟩) hg).trans y6
        have hrec := fun v W h => IH d rfl (ps[j]'hlt2) v W h hwp (by omega)
        clear IH HAT HT HTP HWD
        generalize ps[j] = p at *
        generalize p.any.length = PA at *
        generalize p.parts.length = PP at *
        have hl0 : (0 : Int) ≤ (j : Int) := by omega
        have hl1 : (j : Int) < (PL : Int) := by omega
        have hc := hrec _ _ hin
        clear hrec hin hwp
        obtain ⟨q0, q1, q2, q3, q4, q5, q6⟩ := hw.seven
        generalize FiS.textS p = TP at *
        obtain ⟨A, hA⟩ : ∃ A, 38 :: FiS.textL (ps.take j) = A := ⟨_, rfl⟩
        obtain ⟨y1, hy1, ha1, hp1⟩ := cat3 A TP (by rw [← hA]; simp only [List.length_cons]; omega)
        have HY : Hid (38 :: FiS.textL (ps.take (j + 1)) = y1) := Lib.hid (by rw [HTj.out, hy1, ← hA]; rfl)
        rw [hA]
        clear hA hy1 HTj hlen2
        go_wp2_with fail
        refine hc.mono ?_; rintro e w2 ⟨rfl, hb2⟩
        have hz2 := hb.trans (hb2.mono hb.size)
        have hw2 := hw.call hb2
        clear hc q0 q1 q2 q3 q4 q5 q6
        go_wp2_with fail
        go_roundw
        case rel => exact ⟨j + 1, by omega, by go_num, by rw [HY.out], hw2, hz2⟩
        case measure => simp [intOf]; omega
      · have hjl : j = PL := by omega
        subst hjl
        rw [HALL.out]
        clear IH HAT HT HTP HWD
        obtain ⟨A, hA⟩ : ∃ A, 38 :: FiS.textL ps = A := ⟨_, rfl⟩
        rw [hA] at HRS ⊢
        clear hA
        obtain ⟨y1, hy1, ha1, hp1⟩ := cat3 [40] A (by have h1 := HLEN.out; have h2 := congrArg List.length HRS.out; simp only [List.length_cons, List.length_append, List.length_nil] at h1 h2 ⊢; omega)
        obtain ⟨y2, hy2, ha2, hp2⟩ := cat3 y1 [41] (by have h1 := HLEN.out; have h2 := congrArg List.length HRS.out; rw [hy1]; simp only [List.length_cons, List.length_append, List.length_nil] at h1 h2 ⊢; omega)
        have HR2 : Hid (R = y2) := Lib.hid (by rw [HRS.out, hy2, hy1]; simp)
        clear hy1 hy2 HRS
        go_wp2_with fail
        go_ret
        exact ⟨by (rw [HR2.out]) <;> rfl, hb⟩
  by_cases hk1 : kd = 1
  · subst hk1
    have HRS : Hid (R = 40 :: ((124 :: FiS.textL ps) ++ [41])) := Lib.hid HTX.out
    clear HTX HSC hesc hsgn HST HSP HALA HANY
    have HW0 := HW0.out
    go_enter Tryz.func30, Tryz.ntmps30
    go_wp2_with fail
    go_loopw [3, 31] (fun sv i wr => ∃ j : Nat, j ≤ PL ∧ i = .int .i64 j ∧ sv = .string ⟨(124 :: FiS.textL (ps.take j)).toArray⟩ ∧ Whole wr w.heap.size 25 #[.int .i64 1, .string ⟨at0.toArray⟩, .string ⟨vl.toArray⟩, .string ⟨fs.toArray⟩, .string ⟨ls.toArray⟩, .slice a5 AL c5, .slice a6 PL c6] ∧ Below w.heap.size w wr) (fun _ i _ => PL - (intOf i).toNat)
    case atStart => exact ⟨0, Nat.zero_le _, rfl, rfl, HW0, hg0⟩
    case round =>
      obtain ⟨j, hj, rfl, rfl, hw, hb⟩ := hrel
      clear HW0 hg0 q0 q1 q2 q3 q4 q5 q6
      by_cases hlt : j < PL
      · have hlt2 : j < ps.length := by rw [HPL.out]; exact hlt
        have HTj := Lib.hid (HT.out j hlt2)
        have htp := HTP.out j hlt2
        have hj39 : j ≤ 20000 := by omega
        have hwp := HWD.out j hlt2
        have hrl := congrArg List.length HRS.out
        simp only [List.length_cons, List.length_append, List.length_nil] at hrl
        have hlen2 : (FiS.textL (ps.take j)).length + (FiS.textS (ps[j]'hlt2)).length ≤ 500000000 := by have := HLEN.out; omega
        clear hrl htp
        obtain ⟨d, rfl, g, o, rfl, hg, b5, d5, b6, d6, hin, y0, y1, y2, y3, y4, y5, y6⟩ := HAT.out j hlt2
        have hin := hin.call hb
        have y0 := (hb.cell (p := ⟨g, o + j * 7, none⟩) hg).trans y0
        have y1 := (hb.cell (p := ⟨g, o + j * 7 + 1, none⟩) hg).trans y1
        have y2 := (hb.cell (p := ⟨g, o + j * 7 + 2, none⟩) hg).trans y2
        have y3 := (hb.cell (p := ⟨g, o + j * 7 + 3, none⟩) hg).trans y3
        have y4 := (hb.cell (p := ⟨g, o + j * 7 + 4, none⟩) hg).trans y4
        have y5 := (hb.cell (p := ⟨g, o + j * 7 + 5, none⟩) hg).trans y5
        have y6 := (hb.cell (p := ⟨g, o + j * 7 + 6, none⟩) hg).trans y6
        have hrec := fun v W h => IH d rfl (ps[j]'hlt2) v W h hwp (by omega)
        clear IH HAT HT HTP HWD
        generalize ps[j] = p at *
        generalize p.any.length = PA at *
        generalize p.parts.length = PP at *
        have hl0 : (0 : Int) ≤ (j : Int) := by omega
        have hl1 : (j : Int) < (PL : Int) := by omega
        have hc := hrec _ _ hin
        clear hrec hin hwp
        obtain ⟨q0, q1, q2, q3, q4, q5, q6⟩ := hw.seven
        generalize FiS.textS p = TP at *
        obtain ⟨A, hA⟩ : ∃ A, 124 :: FiS.textL (ps.take j) = A := ⟨_, rfl⟩
        obtain ⟨y1, hy1, ha1, hp1⟩ := cat3 A TP (by rw [← hA]; simp only [List.length_cons]; omega)
        have HY : Hid (124 :: FiS.textL (ps.take (j + 1)) = y1) := Lib.hid (by rw [HTj.out, hy1, ← hA]; rfl)
        rw [hA]
        clear hA hy1 HTj hlen2
        go_wp2_with fail
        refine hc.mono ?_; rintro e w2 ⟨rfl, hb2⟩
        have hz2 := hb.trans (hb2.mono hb.size)
        have hw2 := hw.call hb2
        clear hc q0 q1 q2 q3 q4 q5 q6
        go_wp2_with fail
        go_roundw
        case rel => exact ⟨j + 1, by omega, by go_num, by rw [HY.out], hw2, hz2⟩
        case measure => simp [intOf]; omega
      · have hjl : j = PL := by omega
        subst hjl
        rw [HALL.out]
        clear IH HAT HT HTP HWD
        obtain ⟨A, hA⟩ : ∃ A, 124 :: FiS.textL ps = A := ⟨_, rfl⟩
        rw [hA] at HRS ⊢
        clear hA
        obtain ⟨y1, hy1, ha1, hp1⟩ := cat3 [40] A (by have h1 := HLEN.out; have h2 := congrArg List.length HRS.out; simp only [List.length_cons, List.length_append, List.length_nil] at h1 h2 ⊢; omega)
        obtain ⟨y2, hy2, ha2, hp2⟩ := cat3 y1 [41] (by have h1 := HLEN.out; have h2 := congrArg List.length HRS.out; rw [hy1]; simp only [List.length_cons, List.length_append, List.length_nil] at h1 h2 ⊢; omega)
        have HR2 : Hid (R = y2) := Lib.hid (by rw [HRS.out, hy2, hy1]; simp)
        clear hy1 hy2 HRS
        go_wp2_with fail
        go_ret
        exact ⟨by (rw [HR2.out]) <;> rfl, hb⟩
  by_cases hk2 : kd = 2
  · subst hk2
    have HRS : Hid (R = 40 :: ((33 :: FiS.textL ps) ++ [41])) := Lib.hid HTX.out
    clear HTX HSC hesc hsgn HST HSP HALA HANY
    have HW0 := HW0.out
    go_enter Tryz.func30, Tryz.ntmps30
    go_wp2_with fail
    go_loopw [3, 31] (fun sv i wr => ∃ j : Nat, j ≤ PL ∧ i = .int .i64 j ∧ sv = .string ⟨(33 :: FiS.textL (ps.take j)).toArray⟩ ∧ Whole wr w.heap.size 25 #[.int .i64 2, .string ⟨at0.toArray⟩, .string ⟨vl.toArray⟩, .string ⟨fs.toArray⟩, .string ⟨ls.toArray⟩, .slice a5 AL c5, .slice a6 PL c6] ∧ Below w.heap.size w wr) (fun _ i _ => PL - (intOf i).toNat)
    case atStart => exact ⟨0, Nat.zero_le _, rfl, rfl, HW0, hg0⟩
    case round =>
      obtain ⟨j, hj, rfl, rfl, hw, hb⟩ := hrel
      clear HW0 hg0 q0 q1 q2 q3 q4 q5 q6
      by_cases hlt : j < PL
      · have hlt2 : j < ps.length := by rw [HPL.out]; exact hlt
        have HTj := Lib.hid (HT.out j hlt2)
        have htp := HTP.out j hlt2
        have hj39 : j ≤ 20000 := by omega
        have hwp := HWD.out j hlt2
        have hrl := congrArg List.length HRS.out
        simp only [List.length_cons, List.length_append, List.length_nil] at hrl
        have hlen2 : (FiS.textL (ps.take j)).length + (FiS.textS (ps[j]'hlt2)).length ≤ 500000000 := by have := HLEN.out; omega
        clear hrl htp
        obtain ⟨d, rfl, g, o, rfl, hg, b5, d5, b6, d6, hin, y0, y1, y2, y3, y4, y5, y6⟩ := HAT.out j hlt2
        have hin := hin.call hb
        have y0 := (hb.cell (p := ⟨g, o + j * 7, none⟩) hg).trans y0
        have y1 := (hb.cell (p := ⟨g, o + j * 7 + 1, none⟩) hg).trans y1
        have y2 := (hb.cell (p := ⟨g, o + j * 7 + 2, none⟩) hg).trans y2
        have y3 := (hb.cell (p := ⟨g, o + j * 7 + 3, none⟩) hg).trans y3
        have y4 := (hb.cell (p := ⟨g, o + j * 7 + 4, none⟩) hg).trans y4
        have y5 := (hb.cell (p := ⟨g, o + j * 7 + 5, none⟩) hg).trans y5
        have y6 := (hb.cell (p := ⟨g, o + j * 7 + 6, none⟩) hg).trans y6
        have hrec := fun v W h => IH d rfl (ps[j]'hlt2) v W h hwp (by omega)
        clear IH HAT HT HTP HWD
        generalize ps[j] = p at *
        generalize p.any.length = PA at *
        generalize p.parts.length = PP at *
        have hl0 : (0 : Int) ≤ (j : Int) := by omega
        have hl1 : (j : Int) < (PL : Int) := by omega
        have hc := hrec _ _ hin
        clear hrec hin hwp
        obtain ⟨q0, q1, q2, q3, q4, q5, q6⟩ := hw.seven
        generalize FiS.textS p = TP at *
        obtain ⟨A, hA⟩ : ∃ A, 33 :: FiS.textL (ps.take j) = A := ⟨_, rfl⟩
        obtain ⟨y1, hy1, ha1, hp1⟩ := cat3 A TP (by rw [← hA]; simp only [List.length_cons]; omega)
        have HY : Hid (33 :: FiS.textL (ps.take (j + 1)) = y1) := Lib.hid (by rw [HTj.out, hy1, ← hA]; rfl)
        rw [hA]
        clear hA hy1 HTj hlen2
        go_wp2_with fail
        refine hc.mono ?_; rintro e w2 ⟨rfl, hb2⟩
        have hz2 := hb.trans (hb2.mono hb.size)
        have hw2 := hw.call hb2
        clear hc q0 q1 q2 q3 q4 q5 q6
        go_wp2_with fail
        go_roundw
        case rel => exact ⟨j + 1, by omega, by go_num, by rw [HY.out], hw2, hz2⟩
        case measure => simp [intOf]; omega
      · have hjl : j = PL := by omega
        subst hjl
        rw [HALL.out]
        clear IH HAT HT HTP HWD
        obtain ⟨A, hA⟩ : ∃ A, 33 :: FiS.textL ps = A := ⟨_, rfl⟩
        rw [hA] at HRS ⊢
        clear hA
        obtain ⟨y1, hy1, ha1, hp1⟩ := cat3 [40] A (by have h1 := HLEN.out; have h2 := congrArg List.length HRS.out; simp only [List.length_cons, List.length_append, List.length_nil] at h1 h2 ⊢; omega)
        obtain ⟨y2, hy2, ha2, hp2⟩ := cat3 y1 [41] (by have h1 := HLEN.out; have h2 := congrArg List.length HRS.out; rw [hy1]; simp only [List.length_cons, List.length_append, List.length_nil] at h1 h2 ⊢; omega)
        have HR2 : Hid (R = y2) := Lib.hid (by rw [HRS.out, hy2, hy1]; simp)
        clear hy1 hy2 HRS
        go_wp2_with fail
        go_ret
        exact ⟨by (rw [HR2.out]) <;> rfl, hb⟩
  have HIN : Hid (FiS.inner kd = false) := Lib.hid (decide_eq_false (by omega))
  have HRS0 : Hid (R = 40 :: (FiS.itemM kd at0 vl fs ls an ++ [41])) := Lib.hid (by rw [HTX.out, if_neg (by rw [HIN.out]; simp)])
  clear HTX HIN IH HAT HT HTP HWD HALL
  by_cases hk7 : kd = 7
  · subst hk7
    have HRS1 : Hid (R = 40 :: ((at0 ++ [61, 42]) ++ [41])) := Lib.hid HRS0.out
    obtain ⟨A, hA, ha0, hp0⟩ := cat3 at0 [61, 42] (by simp only [List.length_cons, List.length_nil]; omega)
    have HRS : Hid (R = 40 :: (A ++ [41])) := Lib.hid (by rw [HRS1.out, hA])
    clear HRS0 HRS1 hA hesc hsgn HSC
    go_enter Tryz.func30, Tryz.ntmps30
    obtain ⟨y1, hy1, ha1, hp1⟩ := cat3 [40] A (by have h1 := HLEN.out; have h2 := congrArg List.length HRS.out; simp only [List.length_cons, List.length_append, List.length_nil] at h1 h2 ⊢; omega)
    obtain ⟨y2, hy2, ha2, hp2⟩ := cat3 y1 [41] (by have h1 := HLEN.out; have h2 := congrArg List.length HRS.out; rw [hy1]; simp only [List.length_cons, List.length_append, List.length_nil] at h1 h2 ⊢; omega)
    have HR2 : Hid (R = y2) := Lib.hid (by rw [HRS.out, hy2, hy1]; simp)
    clear hy1 hy2 HRS
    go_wp2_with fail
    go_ret
    exact ⟨by (rw [HR2.out]) <;> rfl, hg0⟩
  by_cases hk4 : kd = 4
  · subst hk4
    have HRS1 : Hid (R = 40 :: ((at0 ++ 61 :: (FiS.escV fs ++ (FiS.starS an ++ 42 :: FiS.escV ls))) ++ [41])) := Lib.hid HRS0.out
    have hrl := congrArg List.length HRS1.out
    simp only [List.length_cons, List.length_append, List.length_nil] at hrl
    have hrl2 : at0.length + (FiS.escV fs).length + (FiS.starS an).length + (FiS.escV ls).length ≤ 500000000 := by have := HLEN.out; omega
    clear hrl HRS0 hsgn
    obtain ⟨z1, hz1, ha1, hp1⟩ := cat3 at0 [61] (by simp only [List.length_cons, List.length_nil]; omega)
    have hef := fun w => hesc fs hfs w
    obtain ⟨EF, hEF⟩ : ∃ x, FiS.escV fs = x := ⟨_, rfl⟩
    rw [hEF] at HRS1 hrl2 hef
    obtain ⟨z2, hz2, ha2, hp2⟩ := cat3 z1 EF (by rw [hz1]; simp only [List.length_append, List.length_cons, List.length_nil]; omega)
    obtain ⟨z3, hz3, ha3, hp3⟩ := cat3 z2 [42] (by rw [hz2, hz1]; simp only [List.length_append, List.length_cons, List.length_nil]; omega)
    have hlz : z2.length = at0.length + 1 + EF.length := by rw [hz2, hz1]; simp only [List.length_append, List.length_cons, List.length_nil]
    have HRS2 : Hid (R = 40 :: ((z2 ++ (FiS.starS an ++ [42]) ++ FiS.escV ls) ++ [41])) := Lib.hid (by rw [HRS1.out, hz2, hz1]; simp)
    have HZ3 : Hid (z3 = z2 ++ (FiS.starS (an.take 0) ++ [42])) := Lib.hid (by rw [hz3]; simp [FiS.starS])
    have hel := fun w => hesc ls hls w
    obtain ⟨EL, hEL⟩ : ∃ x, FiS.escV ls = x := ⟨_, rfl⟩
    rw [hEL] at HRS2 hel hrl2
    clear hz1 hz2 hz3 hEF hEL HRS1
    have hdr : Below (w.alloc (.cells #[.int .i64 4, .string ⟨at0.toArray⟩, .string ⟨vl.toArray⟩, .string ⟨fs.toArray⟩, .string ⟨ls.toArray⟩, .slice a5 AL c5, .slice a6 PL c6] 25)).heap.size (w.alloc (.cells #[.int .i64 4, .string ⟨at0.toArray⟩, .string ⟨vl.toArray⟩, .string ⟨fs.toArray⟩, .string ⟨ls.toArray⟩, .slice a5 AL c5, .slice a6 PL c6] 25)) (w.alloc (.cells #[.int .i64 4, .string ⟨at0.toArray⟩, .string ⟨vl.toArray⟩, .string ⟨fs.toArray⟩, .string ⟨ls.toArray⟩, .slice a5 AL c5, .slice a6 PL c6] 25)).drew := (Below.refl _ _).drew
    have d1 := keepC q1 hdr
    have d3 := keepC q3 hdr
    clear hdr
    go_enter Tryz.func30, Tryz.ntmps30
    go_wp2_with fail
    go_region_held3 (fun W => W.cell? ⟨w.heap.size, 1, none⟩ = some (.string ⟨at0.toArray⟩) ∧ W.cell? ⟨w.heap.size, 3, none⟩ = some (.string ⟨fs.toArray⟩)) (first | exact ⟨d1, d3⟩ | exact ⟨keepC d1 hb2, keepC d3 hb2⟩ | go_keep)
      (first | (go_at_call 45; (with_reducible refine (hef _).mono ?_); rintro e w2 ⟨rfl, hb2⟩))
    have hbd := hg0.drew
    have hz2' := hbd.trans (hb2.mono hbd.size)
    have hw2 : Whole w2 w.heap.size 25 #[.int .i64 4, .string ⟨at0.toArray⟩, .string ⟨vl.toArray⟩, .string ⟨fs.toArray⟩, .string ⟨ls.toArray⟩, .slice a5 AL c5, .slice a6 PL c6] := Whole.call (w := (w.alloc (.cells #[.int .i64 4, .string ⟨at0.toArray⟩, .string ⟨vl.toArray⟩, .string ⟨fs.toArray⟩, .string ⟨ls.toArray⟩, .slice a5 AL c5, .slice a6 PL c6] 25)).drew) HW0.out hb2
    clear hef q0 q1 q2 q3 q4 q5 q6 hb2 hbd ha1 hp1 ha2 hp2 ha3 hp3
    obtain ⟨q0, q1, q2, q3, q4, q5, q6⟩ := hw2.seven
    go_wp2_with fail
    go_loopw [3, 61] (fun sv i wr => ∃ j : Nat, j ≤ AL ∧ i = .int .i64 j ∧ sv = .string ⟨(z2 ++ (FiS.starS (an.take j) ++ [42])).toArray⟩ ∧ Whole wr w.heap.size 25 #[.int .i64 4, .string ⟨at0.toArray⟩, .string ⟨vl.toArray⟩, .string ⟨fs.toArray⟩, .string ⟨ls.toArray⟩, .slice a5 AL c5, .slice a6 PL c6] ∧ Below w.heap.size w wr) (fun _ i _ => AL - (intOf i).toNat)
    case atStart => exact ⟨0, Nat.zero_le _, rfl, by rw [← HZ3.out], hw2, hz2'⟩
    case round =>
      obtain ⟨j, hj, rfl, rfl, hw, hb⟩ := hrel
      clear hw2 hz2' q0 q1 q2 q3 q4 q5 q6
      obtain ⟨q0, q1, q2, q3, q4, q5, q6⟩ := hw.seven
      by_cases hlt : j < AL
      · have hlt2 : j < an.length := by rw [HAL.out]; exact hlt
        have HTj := Lib.hid (HST.out j hlt2)
        have htp := HSP.out j hlt2
        have hj39 : j ≤ 20000 := by omega
        have hpl2 := HANY.out j hlt2
        obtain ⟨g, o, hae, hg, _, hra⟩ := HSC.out j hlt2
        have hcj : wr.cell? ⟨g, o + j, none⟩ = some (strV an[j]) := by
          have : w.cell? ⟨g, o + j * 1, none⟩ = some (strV an[j]) := hra
          rw [Nat.mul_one] at this
          exact keepC this hb
        clear hra HSC HST HSP HANY HALA hel
        subst hae
        generalize an[j] = p at *
        unfold strV at hcj
        have hcp := hesc p hpl2 wr
        obtain ⟨EP, hEP⟩ : ∃ x, FiS.escV p = x := ⟨_, rfl⟩
        rw [hEP] at HTj htp hcp
        clear hEP
        have hl0 : (0 : Int) ≤ (j : Int) := by omega
        have hl1 : (j : Int) < (AL : Int) := by omega
        obtain ⟨A, hA⟩ : ∃ A, z2 ++ (FiS.starS (an.take j) ++ [42]) = A := ⟨_, rfl⟩
        have hAl : A.length + EP.length ≤ 500000010 := by rw [← hA]; simp only [List.length_append, List.length_cons, List.length_nil]; omega
        obtain ⟨y1, hy1, ha1, hp1⟩ := cat3 A EP (by omega)
        obtain ⟨y2, hy2, ha2, hp2⟩ := cat3 y1 [42] (by rw [hy1]; simp only [List.length_append, List.length_cons, List.length_nil]; omega)
        have HY : Hid (z2 ++ (FiS.starS (an.take (j + 1)) ++ [42]) = y2) := Lib.hid (by rw [HTj.out, hy2, hy1, ← hA]; simp)
        rw [hA]
        clear hA hy1 hy2 HTj htp hAl
        go_wp2_with fail
        refine hcp.mono ?_; rintro e w3 ⟨rfl, hb3⟩
        have hw3 := hw.call hb3
        clear hcp q0 q1 q2 q3 q4 q5 q6
        go_wp2_with fail
        go_roundw
        case rel => exact ⟨j + 1, by omega, by go_num, by rw [HY.out], hw3, hb.trans (hb3.mono hb.size)⟩
        case measure => simp [intOf]; omega
      · have hjl : j = AL := by omega
        subst hjl
        rw [HALA.out]
        clear HSC HST HSP HANY hesc
        have hcl := hel wr
        obtain ⟨A, hA⟩ : ∃ A, z2 ++ (FiS.starS an ++ [42]) = A := ⟨_, rfl⟩
        rw [hA] at HRS2 ⊢
        have hAl : A.length + EL.length ≤ 500000010 := by rw [← hA]; simp only [List.length_append, List.length_cons, List.length_nil]; omega
        obtain ⟨y3, hy3, ha3, hp3⟩ := cat3 A EL (by omega)
        have HRS : Hid (R = 40 :: (y3 ++ [41])) := Lib.hid (by rw [HRS2.out, hy3])
        clear hA hel hAl hy3 HRS2
        go_wp2_with fail
        refine hcl.mono ?_; rintro e w3 ⟨rfl, hb3⟩
        have hbz := hb.trans (hb3.mono hb.size)
        clear hcl q0 q1 q2 q3 q4 q5 q6
        obtain ⟨y1, hy1, ha1, hp1⟩ := cat3 [40] y3 (by have h1 := HLEN.out; have h2 := congrArg List.length HRS.out; simp only [List.length_cons, List.length_append, List.length_nil] at h1 h2 ⊢; omega)
        obtain ⟨y2, hy2, ha2, hp2⟩ := cat3 y1 [41] (by have h1 := HLEN.out; have h2 := congrArg List.length HRS.out; rw [hy1]; simp only [List.length_cons, List.length_append, List.length_nil] at h1 h2 ⊢; omega)
        have HR2 : Hid (R = y2) := Lib.hid (by rw [HRS.out, hy2, hy1]; simp)
        clear hy1 hy2 HRS
        go_wp2_with fail
        go_ret
        exact ⟨by (rw [HR2.out]) <;> rfl, hbz⟩
  have HRS1 : Hid (R = 40 :: ((at0 ++ FiS.signS kd ++ FiS.escV vl) ++ [41])) := Lib.hid (by rw [HRS0.out]; unfold FiS.itemM; rw [if_neg hk7, if_neg hk4])
  have hrl := congrArg List.length HRS1.out
  simp only [List.length_cons, List.length_append, List.length_nil] at hrl
  have hrl2 : at0.length + (FiS.signS kd).length + (FiS.escV vl).length ≤ 500000000 := by have := HLEN.out; omega
  have hev := fun w => hesc vl hvl w
  clear hrl HRS0 hesc
  obtain ⟨SG, hSG⟩ : ∃ x, FiS.signS kd = x := ⟨_, rfl⟩
  rw [hSG] at HRS1 hrl2 hsgn
  obtain ⟨EV, hEV⟩ : ∃ x, FiS.escV vl = x := ⟨_, rfl⟩
  rw [hEV] at HRS1 hrl2 hev
  obtain ⟨z1, hz1, hb1, hp3⟩ := cat3 at0 SG (by omega)
  obtain ⟨z2, hz2, hb2', hp4⟩ := cat3 z1 EV (by rw [hz1]; simp only [List.length_append]; omega)
  have HRS : Hid (R = 40 :: (z2 ++ [41])) := Lib.hid (by rw [HRS1.out, hz2, hz1])
  have k0 : (kd == 0) = false := by simpa using hk0
  have k1 : (kd == 1) = false := by simpa using hk1
  have k2 : (kd == 2) = false := by simpa using hk2
  have k4 : (kd == 4) = false := by simpa using hk4
  have k7 : (kd == 7) = false := by simpa using hk7
  clear hz1 hz2 HRS1 hSG hEV HSC HST HSP HALA HANY
  have hdr : Below (w.alloc (.cells #[.int .i64 kd, .string ⟨at0.toArray⟩, .string ⟨vl.toArray⟩, .string ⟨fs.toArray⟩, .string ⟨ls.toArray⟩, .slice a5 AL c5, .slice a6 PL c6] 25)).heap.size (w.alloc (.cells #[.int .i64 kd, .string ⟨at0.toArray⟩, .string ⟨vl.toArray⟩, .string ⟨fs.toArray⟩, .string ⟨ls.toArray⟩, .slice a5 AL c5, .slice a6 PL c6] 25)) (w.alloc (.cells #[.int .i64 kd, .string ⟨at0.toArray⟩, .string ⟨vl.toArray⟩, .string ⟨fs.toArray⟩, .string ⟨ls.toArray⟩, .slice a5 AL c5, .slice a6 PL c6] 25)).drew := (Below.refl _ _).drew
  have d0 := keepC q0 hdr
  have d1 := keepC q1 hdr
  have d2 := keepC q2 hdr
  clear hdr
  go_enter Tryz.func30, Tryz.ntmps30
  go_wp2_with fail
  go_region_held3 (fun W => W.cell? ⟨w.heap.size, 0, none⟩ = some (.int .i64 kd) ∧ W.cell? ⟨w.heap.size, 1, none⟩ = some (.string ⟨at0.toArray⟩) ∧ W.cell? ⟨w.heap.size, 2, none⟩ = some (.string ⟨vl.toArray⟩)) (first | exact ⟨d0, d1, d2⟩ | exact ⟨keepC d0 hb2, keepC d1 hb2, keepC d2 hb2⟩ | go_keep)
    (first | (go_at_call 46; (with_reducible refine (hsgn _).mono ?_); rintro e w9 ⟨rfl, rfl⟩) | (go_at_call 45; (with_reducible refine (hev _).mono ?_); rintro e w2 ⟨rfl, hb2⟩))
  have hbd := hg0.drew
  have hbz := hbd.trans (hb2.mono hbd.size)
  clear hev hsgn q0 q1 q2 q3 q4 q5 q6
  obtain ⟨y1, hy1, ha1, hp1⟩ := cat3 [40] z2 (by have h1 := HLEN.out; have h2 := congrArg List.length HRS.out; simp only [List.length_cons, List.length_append, List.length_nil] at h1 h2 ⊢; omega)
  obtain ⟨y2, hy2, ha2, hp2⟩ := cat3 y1 [41] (by have h1 := HLEN.out; have h2 := congrArg List.length HRS.out; rw [hy1]; simp only [List.length_cons, List.length_append, List.length_nil] at h1 h2 ⊢; omega)
  have HR2 : Hid (R = y2) := Lib.hid (by rw [HRS.out, hy2, hy1]; simp)
  clear hy1 hy2 HRS
  go_wp2_with fail
  go_ret
  exact ⟨by (rw [HR2.out]) <;> rfl, hbz⟩)
end Go.Proofs.YtjmfknfponjgkaaGreatDoor
namespace Go.Proofs.YtjmfknfponjgkaaGreatDoor
open Go.RowKit
open FiS (Fi)
attribute [local go_sem ↓] Go.wp_at_zero Go.wp_at_succ
/-- a part, where its blocks have a property -/
theorem FisP.atO {n : Nat} {ok : Nat → Prop} {w : World} {a : Option Addr} {m c : Nat} {xs : List Fi} (h : FisP n ok w (.slice a m c) xs) : ∀ j (hj : j < xs.length), ∃ d, n = d + 1 ∧ ∃ g o, a = some ⟨g, o, none⟩ ∧ g < w.heap.size ∧ ok g ∧ ∃ a5 c5 a6 c6, FiV d ok w (.agg #[.int .i64 (xs[j]'hj).kind, .string ⟨(xs[j]'hj).attr.toArray⟩, .string ⟨(xs[j]'hj).value.toArray⟩, .string ⟨(xs[j]'hj).first.toArray⟩, .string ⟨(xs[j]'hj).last.toArray⟩, .slice a5 (xs[j]'hj).any.length c5, .slice a6 (xs[j]'hj).parts.length c6]) (xs[j]'hj) ∧
    w.cell? ⟨g, o + j * 7, none⟩ = some (.int .i64 (xs[j]'hj).kind) ∧ w.cell? ⟨g, o + j * 7 + 1, none⟩ = some (.string ⟨(xs[j]'hj).attr.toArray⟩) ∧ w.cell? ⟨g, o + j * 7 + 2, none⟩ = some (.string ⟨(xs[j]'hj).value.toArray⟩) ∧ w.cell? ⟨g, o + j * 7 + 3, none⟩ = some (.string ⟨(xs[j]'hj).first.toArray⟩) ∧ w.cell? ⟨g, o + j * 7 + 4, none⟩ = some (.string ⟨(xs[j]'hj).last.toArray⟩) ∧
    w.cell? ⟨g, o + j * 7 + 5, none⟩ = some (.slice a5 (xs[j]'hj).any.length c5) ∧ w.cell? ⟨g, o + j * 7 + 6, none⟩ = some (.slice a6 (xs[j]'hj).parts.length c6) := by
  intro j hj
  obtain ⟨a', c', e, hc, hat⟩ := SliceP.at h
  injection e with e1 e2 e3
  subst e1
  obtain ⟨g, o, ha, hg, hok, hx⟩ := hat j hj
  generalize xs[j] = x at *
  cases n with
  | zero => cases hx
  | succ d =>
    obtain ⟨ua, up, ⟨h0, h1, h2, h3, h4, h5, h6⟩, hs, hp⟩ := hx
    have hs' := hs
    have hp' := hp
    obtain ⟨a5, c5, rfl, _⟩ := SliceP.form hs
    obtain ⟨a6, c6, rfl, _⟩ := SliceP.form hp
    exact ⟨d, rfl, g, o, ha, hg, hok, a5, c5, a6, c6, ⟨_, _, rfl, hs', hp'⟩, h0, h1, h2, h3, h4, h5, h6⟩
/-- a filter's parts, where its blocks have a property -/
theorem FiV.partsO {n : Nat} {ok : Nat → Prop} {w : World} {v : Value} {x : Fi} (h : FiV n ok w v x) : ∃ a5 c5 a6 c6, v = .agg #[.int .i64 x.kind, .string ⟨x.attr.toArray⟩, .string ⟨x.value.toArray⟩, .string ⟨x.first.toArray⟩, .string ⟨x.last.toArray⟩, .slice a5 x.any.length c5, .slice a6 x.parts.length c6] ∧ StrsP ok w (.slice a5 x.any.length c5) x.any ∧ x.parts.length ≤ c6 ∧ FisP n ok w (.slice a6 x.parts.length c6) x.parts := by
  obtain ⟨ua, up, rfl, h1, h2⟩ := h
  obtain ⟨a5, c5, rfl, _⟩ := SliceP.form h1
  obtain ⟨a6, c6, rfl, hc⟩ := SliceP.form h2
  exact ⟨a5, c5, a6, c6, rfl, h1, hc, h2⟩
def WriteC (n : Nat) : Prop := ∀ (x : Fi) (v : Value) (w : World) (B b : Nat) (l0 : List UInt8), FiV n (fun g => g < B) w v x → FiS.wdF 20000 x → l0.length + (FiS.textS x).length ≤ 400000000 → Bld B b l0 w → B ≤ w.heap.size → Calls Tryz.prog 28 #[.pointer (some ⟨b, 0, none⟩), v] w fun e w' => e = .returned (.tuple #[]) ∧ Bld B b (l0 ++ FiS.textS x) w' ∧ Below B w w' ∧ Others b w w'
set_option maxRecDepth 100000 in
set_option maxHeartbeats 8000000 in
theorem flwrite_c : ∀ n, WriteC n := deep_ind (fun n IH => by
  unfold WriteC at *
  intro x v w B b l0 h hwd hlen hbl hBw
  obtain ⟨kd, at0, vl, fs, ls, an, ps⟩ := x
  obtain ⟨a5, c5, a6, c6, hv, hss, hc6, hps⟩ := FiV.partsO h
  have hv : v = .agg #[.int .i64 kd, .string ⟨at0.toArray⟩, .string ⟨vl.toArray⟩, .string ⟨fs.toArray⟩, .string ⟨ls.toArray⟩, .slice a5 an.length c5, .slice a6 ps.length c6] := hv
  subst hv
  have hss : StrsP (fun g => g < B) w (.slice a5 an.length c5) an := hss
  have hc6 : ps.length ≤ c6 := hc6
  have hps : FisP n (fun g => g < B) w (.slice a6 ps.length c6) ps := hps
  rw [FiS.wdF] at hwd
  obtain ⟨⟨hat0, hvl, hfs, hls⟩, hany, hanys, hpl, hwl⟩ := hwd
  have HWD := Lib.hid (FiS.wdL_iff.1 hwl)
  have HANY := Lib.hid (fun j (hj : j < an.length) => hanys an[j] (List.getElem_mem hj))
  clear hwl hanys
  have HT := Lib.hid (fun j (hj : j < ps.length) => FiS.textL_take hj)
  have HTP := Lib.hid (fun j (hj : j < ps.length) => FiS.textL_part hj)
  have HST := Lib.hid (fun j (hj : j < an.length) => FiS.starS_take hj)
  have HSP := Lib.hid (fun j (hj : j < an.length) => FiS.starS_part hj)
  have HALL : Hid (ps.take ps.length = ps) := Lib.hid (List.take_length)
  have HALA : Hid (an.take an.length = an) := Lib.hid (List.take_length)
  have HTX : Hid (FiS.textS (.mk kd at0 vl fs ls an ps) = 40 :: ((if FiS.inner kd = true then FiS.opC kd :: FiS.textL ps else FiS.itemM kd at0 vl fs ls an) ++ [41])) := Lib.hid (by rw [FiS.textS]; rfl)
  obtain ⟨R, hR⟩ : ∃ r, FiS.textS (.mk kd at0 vl fs ls an ps) = r := ⟨_, rfl⟩
  rw [hR] at hlen HTX ⊢
  have HLEN := Lib.hid hlen
  have hl0 : l0.length ≤ 400000000 := by omega
  clear hR hlen
  obtain ⟨AL, hAL⟩ : ∃ m, an.length = m := ⟨_, rfl⟩
  obtain ⟨PL, hPL⟩ : ∃ m, ps.length = m := ⟨_, rfl⟩
  have HAL := Lib.hid hAL
  have HPL := Lib.hid hPL
  rw [hAL] at hss
  rw [hPL] at hc6 hps
  try rw [hAL]
  try rw [hPL]
  have hg0 := grow1 w (.cells #[.int .i64 kd, .string ⟨at0.toArray⟩, .string ⟨vl.toArray⟩, .string ⟨fs.toArray⟩, .string ⟨ls.toArray⟩, .slice a5 AL c5, .slice a6 PL c6] 33)
  have hw0 := Whole.made w 33 #[.int .i64 kd, .string ⟨at0.toArray⟩, .string ⟨vl.toArray⟩, .string ⟨fs.toArray⟩, .string ⟨ls.toArray⟩, .slice a5 AL c5, .slice a6 PL c6]
  have HAT := Lib.hid (fun j (hj : j < ps.length) => FisP.atO hps j hj)
  rw [hPL] at HALL hpl
  rw [hAL] at HALA hany
  obtain ⟨a', c', e, hcc, hsc⟩ := SliceP.at hss
  injection e with e1 e2 e3
  rw [← e1] at hsc
  have HSC := Lib.hid hsc
  clear hsc hss e1 e2 e3 hcc
  have hne : w.heap.size ≠ b := by have := hbl.lt.1; omega
  have hbl0 := hbl.alloc (.cells #[.int .i64 kd, .string ⟨at0.toArray⟩, .string ⟨vl.toArray⟩, .string ⟨fs.toArray⟩, .string ⟨ls.toArray⟩, .slice a5 AL c5, .slice a6 PL c6] 33)
  have hwb := writeByte_k B b l0 40 (w.alloc (.cells #[.int .i64 kd, .string ⟨at0.toArray⟩, .string ⟨vl.toArray⟩, .string ⟨fs.toArray⟩, .string ⟨ls.toArray⟩, .slice a5 AL c5, .slice a6 PL c6] 33)) hbl0 (by omega) (by simp; omega)
  have HB0 : Hid (Below B w (w.alloc (.cells #[.int .i64 kd, .string ⟨at0.toArray⟩, .string ⟨vl.toArray⟩, .string ⟨fs.toArray⟩, .string ⟨ls.toArray⟩, .slice a5 AL c5, .slice a6 PL c6] 33))) := Lib.hid (hg0.mono hBw)
  have HO0 : Hid (Others b w (w.alloc (.cells #[.int .i64 kd, .string ⟨at0.toArray⟩, .string ⟨vl.toArray⟩, .string ⟨fs.toArray⟩, .string ⟨ls.toArray⟩, .slice a5 AL c5, .slice a6 PL c6] 33))) := Lib.hid ((Others.refl b w).alloc (Nat.le_refl _) _)
  have HW0 := Lib.hid hw0
  clear h hps hAL hPL hbl hbl0 hw0 hg0
  have hesc := fun l (hl : l.length ≤ 20000) w => escape_c l hl w
  have hsgn := fun w => sign_c kd w
  by_cases hk0 : kd = 0
  · subst hk0
    have HRS : Hid (R = 40 :: ((38 :: FiS.textL ps) ++ [41])) := Lib.hid HTX.out
    clear HTX HSC hesc hsgn HST HSP HALA HANY
    go_enter Tryz.func28, Tryz.ntmps28
    go_wp2_with fail
    refine hwb.mono ?_; rintro e w1 ⟨rfl, hu1, hb1, ho1⟩
    have hw1 := ho1.cell (by decide) hne HW0.out
    have HB1 := Lib.hid (HB0.out.trans hb1)
    have HO1 := Lib.hid (HO0.out.trans ho1 HB0.out.size)
    obtain ⟨q0, q1, q2, q3, q4, q5, q6⟩ := hw1.seven
    have hs1 := Nat.le_trans hBw HB1.out.size
    have hwo := writeByte_k B b (l0 ++ [40]) 38 w1 hu1.bld (by rw [List.length_append, List.length_singleton]; omega) hs1
    clear hwb hu1 hb1 ho1 HW0 HB0 HO0
    go_wp2_with fail
    refine hwo.mono ?_; rintro e w2 ⟨rfl, hu2, hb2, ho2⟩
    have hw2 := ho2.cell (by decide) hne hw1
    have HB2 := Lib.hid (HB1.out.trans hb2)
    have HO2 := Lib.hid (HO1.out.trans ho2 HB1.out.size)
    have hbl2 : Bld B b (l0 ++ (40 :: 38 :: FiS.textL (ps.take 0))) w2 := by have := hu2.bld; rw [List.append_assoc] at this; exact this
    clear q0 q1 q2 q3 q4 q5 q6 hwo hu2 hb2 ho2 hw1 HB1 HO1 hs1
    obtain ⟨q0, q1, q2, q3, q4, q5, q6⟩ := hw2.seven
    go_wp2_with fail
    clear q0 q1 q2 q3 q4 q5 q6 hw2
    go_loopw [36] (fun i wr => ∃ j : Nat, j ≤ PL ∧ i = .int .i64 j ∧ Bld B b (l0 ++ (40 :: 38 :: FiS.textL (ps.take j))) wr ∧ Below B w wr ∧ Hid (Others b w wr)) (fun i _ => PL - (intOf i).toNat)
    case atStart => exact ⟨0, Nat.zero_le _, rfl, hbl2, HB2.out, HO2⟩
    case round =>
      obtain ⟨j, hj, rfl, hbl, hb, HO⟩ := hrel
      clear hbl2 HB2 HO2
      have hsz := hb.size
      have hrl := congrArg List.length HRS.out
      simp only [List.length_cons, List.length_append, List.length_nil] at hrl
      by_cases hlt : j < PL
      · have hlt2 : j < ps.length := by rw [HPL.out]; exact hlt
        have HTj := Lib.hid (HT.out j hlt2)
        have htp := HTP.out j hlt2
        have hj39 : j ≤ 20000 := by omega
        have hwp := HWD.out j hlt2
        have hlen2 : l0.length + (FiS.textL (ps.take j)).length + (FiS.textS (ps[j]'hlt2)).length + 2 ≤ 400000000 := by have := HLEN.out; omega
        clear hrl htp
        obtain ⟨d, rfl, g, o, rfl, hg, hok, b5, d5, b6, d6, hin, y0, y1, y2, y3, y4, y5, y6⟩ := HAT.out j hlt2
        have hin := hin.keep hb.size (fun g _ hg => hb.block g hg) (fun _ _ h => h)
        have y0 := (hb.cell (p := ⟨g, o + j * 7, none⟩) hok).trans y0
        have y1 := (hb.cell (p := ⟨g, o + j * 7 + 1, none⟩) hok).trans y1
        have y2 := (hb.cell (p := ⟨g, o + j * 7 + 2, none⟩) hok).trans y2
        have y3 := (hb.cell (p := ⟨g, o + j * 7 + 3, none⟩) hok).trans y3
        have y4 := (hb.cell (p := ⟨g, o + j * 7 + 4, none⟩) hok).trans y4
        have y5 := (hb.cell (p := ⟨g, o + j * 7 + 5, none⟩) hok).trans y5
        have y6 := (hb.cell (p := ⟨g, o + j * 7 + 6, none⟩) hok).trans y6
        have hrec := fun v W l1 h hl hbW hBW => IH d rfl (ps[j]'hlt2) v W B b l1 h hwp hl hbW hBW
        clear IH HAT HT HTP HWD
        generalize ps[j] = p at *
        generalize p.any.length = PA at *
        generalize p.parts.length = PP at *
        have hj0 : (0 : Int) ≤ (j : Int) := by omega
        have hj1 : (j : Int) < (PL : Int) := by omega
        have hgX := grow1 wr (.cells #[.int .i64 p.kind, .string ⟨p.attr.toArray⟩, .string ⟨p.value.toArray⟩, .string ⟨p.first.toArray⟩, .string ⟨p.last.toArray⟩, .slice b5 PA d5, .slice b6 PP d6] 33)
        have hwX := Whole.made wr 33 #[.int .i64 p.kind, .string ⟨p.attr.toArray⟩, .string ⟨p.value.toArray⟩, .string ⟨p.first.toArray⟩, .string ⟨p.last.toArray⟩, .slice b5 PA d5, .slice b6 PP d6]
        obtain ⟨x0, x1, x2, x3, x4, x5, x6⟩ := hwX.seven
        generalize FiS.textS p = TP at *
        obtain ⟨A, hA⟩ : ∃ A, l0 ++ (40 :: 38 :: FiS.textL (ps.take j)) = A := ⟨_, rfl⟩
        have hAl : A.length + TP.length ≤ 400000000 := by rw [← hA]; simp only [List.length_append, List.length_cons]; omega
        have HY : Hid (l0 ++ (40 :: 38 :: FiS.textL (ps.take (j + 1))) = A ++ TP) := Lib.hid (by rw [HTj.out, ← hA]; simp)
        rw [hA] at hbl
        have hc := hrec _ _ A (hin.call hgX) hAl (hbl.alloc _) (by simp; omega)
        have HBX := Lib.hid (hb.trans (hgX.mono (by omega)))
        have HOX := Lib.hid (HO.out.alloc hsz (.cells #[.int .i64 p.kind, .string ⟨p.attr.toArray⟩, .string ⟨p.value.toArray⟩, .string ⟨p.first.toArray⟩, .string ⟨p.last.toArray⟩, .slice b5 PA d5, .slice b6 PP d6] 33))
        clear hrec hin hwX hwp hA HTj hlen2 hbl HO hAl
        go_wp2_with fail
        refine hc.mono ?_; rintro e w3 ⟨rfl, hbl3, hb3, ho3⟩
        have HB3 := Lib.hid (HBX.out.trans hb3)
        have HO3 := Lib.hid (HOX.out.trans ho3 HBX.out.size)
        clear hc x0 x1 x2 x3 x4 x5 x6 ho3 hb3
        go_wp2_with fail
        go_roundw
        case rel => exact ⟨j + 1, by omega, by go_num, by rw [HY.out]; exact hbl3, HB3.out, HO3⟩
        case measure => simp [intOf]; omega
      · have hjl : j = PL := by omega
        subst hjl
        rw [HALL.out] at hbl
        clear IH HAT HT HTP HWD
        have hwf := writeByte_k B b (l0 ++ (40 :: 38 :: FiS.textL ps)) 41 wr hbl (by have := HLEN.out; simp only [List.length_append, List.length_cons]; omega) (by omega)
        have HR2 : Hid (l0 ++ R = l0 ++ (40 :: 38 :: FiS.textL ps) ++ [41]) := Lib.hid (by rw [HRS.out]; simp)
        clear hrl hbl
        go_wp2_with fail
        refine hwf.mono ?_; rintro e w4 ⟨rfl, hu4, hb4, ho4⟩
        have HF := Lib.hid (And.intro (hb.trans hb4) (HO.out.trans ho4 hsz))
        have HU := Lib.hid hu4.bld
        clear hwf hu4 hb4 ho4
        go_wp2_with fail
        go_end0
        exact ⟨rfl, by rw [HR2.out]; exact HU.out, HF.out.1, HF.out.2⟩
  by_cases hk1 : kd = 1
  · subst hk1
    have HRS : Hid (R = 40 :: ((124 :: FiS.textL ps) ++ [41])) := Lib.hid HTX.out
    clear HTX HSC hesc hsgn HST HSP HALA HANY
    go_enter Tryz.func28, Tryz.ntmps28
    go_wp2_with fail
    refine hwb.mono ?_; rintro e w1 ⟨rfl, hu1, hb1, ho1⟩
    have hw1 := ho1.cell (by decide) hne HW0.out
    have HB1 := Lib.hid (HB0.out.trans hb1)
    have HO1 := Lib.hid (HO0.out.trans ho1 HB0.out.size)
    obtain ⟨q0, q1, q2, q3, q4, q5, q6⟩ := hw1.seven
    have hs1 := Nat.le_trans hBw HB1.out.size
    have hwo := writeByte_k B b (l0 ++ [40]) 124 w1 hu1.bld (by rw [List.length_append, List.length_singleton]; omega) hs1
    clear hwb hu1 hb1 ho1 HW0 HB0 HO0
    go_wp2_with fail
    refine hwo.mono ?_; rintro e w2 ⟨rfl, hu2, hb2, ho2⟩
    have hw2 := ho2.cell (by decide) hne hw1
    have HB2 := Lib.hid (HB1.out.trans hb2)
    have HO2 := Lib.hid (HO1.out.trans ho2 HB1.out.size)
    have hbl2 : Bld B b (l0 ++ (40 :: 124 :: FiS.textL (ps.take 0))) w2 := by have := hu2.bld; rw [List.append_assoc] at this; exact this
    clear q0 q1 q2 q3 q4 q5 q6 hwo hu2 hb2 ho2 hw1 HB1 HO1 hs1
    obtain ⟨q0, q1, q2, q3, q4, q5, q6⟩ := hw2.seven
    go_wp2_with fail
    clear q0 q1 q2 q3 q4 q5 q6 hw2
    go_loopw [36] (fun i wr => ∃ j : Nat, j ≤ PL ∧ i = .int .i64 j ∧ Bld B b (l0 ++ (40 :: 124 :: FiS.textL (ps.take j))) wr ∧ Below B w wr ∧ Hid (Others b w wr)) (fun i _ => PL - (intOf i).toNat)
    case atStart => exact ⟨0, Nat.zero_le _, rfl, hbl2, HB2.out, HO2⟩
    case round =>
      obtain ⟨j, hj, rfl, hbl, hb, HO⟩ := hrel
      clear hbl2 HB2 HO2
      have hsz := hb.size
      have hrl := congrArg List.length HRS.out
      simp only [List.length_cons, List.length_append, List.length_nil] at hrl
      by_cases hlt : j < PL
      · have hlt2 : j < ps.length := by rw [HPL.out]; exact hlt
        have HTj := Lib.hid (HT.out j hlt2)
        have htp := HTP.out j hlt2
        have hj39 : j ≤ 20000 := by omega
        have hwp := HWD.out j hlt2
        have hlen2 : l0.length + (FiS.textL (ps.take j)).length + (FiS.textS (ps[j]'hlt2)).length + 2 ≤ 400000000 := by have := HLEN.out; omega
        clear hrl htp
        obtain ⟨d, rfl, g, o, rfl, hg, hok, b5, d5, b6, d6, hin, y0, y1, y2, y3, y4, y5, y6⟩ := HAT.out j hlt2
        have hin := hin.keep hb.size (fun g _ hg => hb.block g hg) (fun _ _ h => h)
        have y0 := (hb.cell (p := ⟨g, o + j * 7, none⟩) hok).trans y0
        have y1 := (hb.cell (p := ⟨g, o + j * 7 + 1, none⟩) hok).trans y1
        have y2 := (hb.cell (p := ⟨g, o + j * 7 + 2, none⟩) hok).trans y2
        have y3 := (hb.cell (p := ⟨g, o + j * 7 + 3, none⟩) hok).trans y3
        have y4 := (hb.cell (p := ⟨g, o + j * 7 + 4, none⟩) hok).trans y4
        have y5 := (hb.cell (p := ⟨g, o + j * 7 + 5, none⟩) hok).trans y5
        have y6 := (hb.cell (p := ⟨g, o + j * 7 + 6, none⟩) hok).trans y6
        have hrec := fun v W l1 h hl hbW hBW => IH d rfl (ps[j]'hlt2) v W B b l1 h hwp hl hbW hBW
        clear IH HAT HT HTP HWD
        generalize ps[j] = p at *
        generalize p.any.length = PA at *
        generalize p.parts.length = PP at *
        have hj0 : (0 : Int) ≤ (j : Int) := by omega
        have hj1 : (j : Int) < (PL : Int) := by omega
        have hgX := grow1 wr (.cells #[.int .i64 p.kind, .string ⟨p.attr.toArray⟩, .string ⟨p.value.toArray⟩, .string ⟨p.first.toArray⟩, .string ⟨p.last.toArray⟩, .slice b5 PA d5, .slice b6 PP d6] 33)
        have hwX := Whole.made wr 33 #[.int .i64 p.kind, .string ⟨p.attr.toArray⟩, .string ⟨p.value.toArray⟩, .string ⟨p.first.toArray⟩, .string ⟨p.last.toArray⟩, .slice b5 PA d5, .slice b6 PP d6]
        obtain ⟨x0, x1, x2, x3, x4, x5, x6⟩ := hwX.seven
        generalize FiS.textS p = TP at *
        obtain ⟨A, hA⟩ : ∃ A, l0 ++ (40 :: 124 :: FiS.textL (ps.take j)) = A := ⟨_, rfl⟩
        have hAl : A.length + TP.length ≤ 400000000 := by rw [← hA]; simp only [List.length_append, List.length_cons]; omega
        have HY : Hid (l0 ++ (40 :: 124 :: FiS.textL (ps.take (j + 1))) = A ++ TP) := Lib.hid (by rw [HTj.out, ← hA]; simp)
        rw [hA] at hbl
        have hc := hrec _ _ A (hin.call hgX) hAl (hbl.alloc _) (by simp; omega)
        have HBX := Lib.hid (hb.trans (hgX.mono (by omega)))
        have HOX := Lib.hid (HO.out.alloc hsz (.cells #[.int .i64 p.kind, .string ⟨p.attr.toArray⟩, .string ⟨p.value.toArray⟩, .string ⟨p.first.toArray⟩, .string ⟨p.last.toArray⟩, .slice b5 PA d5, .slice b6 PP d6] 33))
        clear hrec hin hwX hwp hA HTj hlen2 hbl HO hAl
        go_wp2_with fail
        refine hc.mono ?_; rintro e w3 ⟨rfl, hbl3, hb3, ho3⟩
        have HB3 := Lib.hid (HBX.out.trans hb3)
        have HO3 := Lib.hid (HOX.out.trans ho3 HBX.out.size)
        clear hc x0 x1 x2 x3 x4 x5 x6 ho3 hb3
        go_wp2_with fail
        go_roundw
        case rel => exact ⟨j + 1, by omega, by go_num, by rw [HY.out]; exact hbl3, HB3.out, HO3⟩
        case measure => simp [intOf]; omega
      · have hjl : j = PL := by omega
        subst hjl
        rw [HALL.out] at hbl
        clear IH HAT HT HTP HWD
        have hwf := writeByte_k B b (l0 ++ (40 :: 124 :: FiS.textL ps)) 41 wr hbl (by have := HLEN.out; simp only [List.length_append, List.length_cons]; omega) (by omega)
        have HR2 : Hid (l0 ++ R = l0 ++ (40 :: 124 :: FiS.textL ps) ++ [41]) := Lib.hid (by rw [HRS.out]; simp)
        clear hrl hbl
        go_wp2_with fail
        refine hwf.mono ?_; rintro e w4 ⟨rfl, hu4, hb4, ho4⟩
        have HF := Lib.hid (And.intro (hb.trans hb4) (HO.out.trans ho4 hsz))
        have HU := Lib.hid hu4.bld
        clear hwf hu4 hb4 ho4
        go_wp2_with fail
        go_end0
        exact ⟨rfl, by rw [HR2.out]; exact HU.out, HF.out.1, HF.out.2⟩
  by_cases hk2 : kd = 2
  · subst hk2
    have HRS : Hid (R = 40 :: ((33 :: FiS.textL ps) ++ [41])) := Lib.hid HTX.out
    clear HTX HSC hesc hsgn HST HSP HALA HANY
    go_enter Tryz.func28, Tryz.ntmps28
    go_wp2_with fail
    refine hwb.mono ?_; rintro e w1 ⟨rfl, hu1, hb1, ho1⟩
    have hw1 := ho1.cell (by decide) hne HW0.out
    have HB1 := Lib.hid (HB0.out.trans hb1)
    have HO1 := Lib.hid (HO0.out.trans ho1 HB0.out.size)
    obtain ⟨q0, q1, q2, q3, q4, q5, q6⟩ := hw1.seven
    have hs1 := Nat.le_trans hBw HB1.out.size
    have hwo := writeByte_k B b (l0 ++ [40]) 33 w1 hu1.bld (by rw [List.length_append, List.length_singleton]; omega) hs1
    clear hwb hu1 hb1 ho1 HW0 HB0 HO0
    go_wp2_with fail
    refine hwo.mono ?_; rintro e w2 ⟨rfl, hu2, hb2, ho2⟩
    have hw2 := ho2.cell (by decide) hne hw1
    have HB2 := Lib.hid (HB1.out.trans hb2)
    have HO2 := Lib.hid (HO1.out.trans ho2 HB1.out.size)
    have hbl2 : Bld B b (l0 ++ (40 :: 33 :: FiS.textL (ps.take 0))) w2 := by have := hu2.bld; rw [List.append_assoc] at this; exact this
    clear q0 q1 q2 q3 q4 q5 q6 hwo hu2 hb2 ho2 hw1 HB1 HO1 hs1
    obtain ⟨q0, q1, q2, q3, q4, q5, q6⟩ := hw2.seven
    go_wp2_with fail
    clear q0 q1 q2 q3 q4 q5 q6 hw2
    go_loopw [36] (fun i wr => ∃ j : Nat, j ≤ PL ∧ i = .int .i64 j ∧ Bld B b (l0 ++ (40 :: 33 :: FiS.textL (ps.take j))) wr ∧ Below B w wr ∧ Hid (Others b w wr)) (fun i _ => PL - (intOf i).toNat)
    case atStart => exact ⟨0, Nat.zero_le _, rfl, hbl2, HB2.out, HO2⟩
    case round =>
      obtain ⟨j, hj, rfl, hbl, hb, HO⟩ := hrel
      clear hbl2 HB2 HO2
      have hsz := hb.size
      have hrl := congrArg List.length HRS.out
      simp only [List.length_cons, List.length_append, List.length_nil] at hrl
      by_cases hlt : j < PL
      · have hlt2 : j < ps.length := by rw [HPL.out]; exact hlt
        have HTj := Lib.hid (HT.out j hlt2)
        have htp := HTP.out j hlt2
        have hj39 : j ≤ 20000 := by omega
        have hwp := HWD.out j hlt2
        have hlen2 : l0.length + (FiS.textL (ps.take j)).length + (FiS.textS (ps[j]'hlt2)).length + 2 ≤ 400000000 := by have := HLEN.out; omega
        clear hrl htp
        obtain ⟨d, rfl, g, o, rfl, hg, hok, b5, d5, b6, d6, hin, y0, y1, y2, y3, y4, y5, y6⟩ := HAT.out j hlt2
        have hin := hin.keep hb.size (fun g _ hg => hb.block g hg) (fun _ _ h => h)
        have y0 := (hb.cell (p := ⟨g, o + j * 7, none⟩) hok).trans y0
        have y1 := (hb.cell (p := ⟨g, o + j * 7 + 1, none⟩) hok).trans y1
        have y2 := (hb.cell (p := ⟨g, o + j * 7 + 2, none⟩) hok).trans y2
        have y3 := (hb.cell (p := ⟨g, o + j * 7 + 3, none⟩) hok).trans y3
        have y4 := (hb.cell (p := ⟨g, o + j * 7 + 4, none⟩) hok).trans y4
        have y5 := (hb.cell (p := ⟨g, o + j * 7 + 5, none⟩) hok).trans y5
        have y6 := (hb.cell (p := ⟨g, o + j * 7 + 6, none⟩) hok).trans y6
        have hrec := fun v W l1 h hl hbW hBW => IH d rfl (ps[j]'hlt2) v W B b l1 h hwp hl hbW hBW
        clear IH HAT HT HTP HWD
        generalize ps[j] = p at *
        generalize p.any.length = PA at *
        generalize p.parts.length = PP at *
        have hj0 : (0 : Int) ≤ (j : Int) := by omega
        have hj1 : (j : Int) < (PL : Int) := by omega
        have hgX := grow1 wr (.cells #[.int .i64 p.kind, .string ⟨p.attr.toArray⟩, .string ⟨p.value.toArray⟩, .string ⟨p.first.toArray⟩, .string ⟨p.last.toArray⟩, .slice b5 PA d5, .slice b6 PP d6] 33)
        have hwX := Whole.made wr 33 #[.int .i64 p.kind, .string ⟨p.attr.toArray⟩, .string ⟨p.value.toArray⟩, .string ⟨p.first.toArray⟩, .string ⟨p.last.toArray⟩, .slice b5 PA d5, .slice b6 PP d6]
        obtain ⟨x0, x1, x2, x3, x4, x5, x6⟩ := hwX.seven
        generalize FiS.textS p = TP at *
        obtain ⟨A, hA⟩ : ∃ A, l0 ++ (40 :: 33 :: FiS.textL (ps.take j)) = A := ⟨_, rfl⟩
        have hAl : A.length + TP.length ≤ 400000000 := by rw [← hA]; simp only [List.length_append, List.length_cons]; omega
        have HY : Hid (l0 ++ (40 :: 33 :: FiS.textL (ps.take (j + 1))) = A ++ TP) := Lib.hid (by rw [HTj.out, ← hA]; simp)
        rw [hA] at hbl
        have hc := hrec _ _ A (hin.call hgX) hAl (hbl.alloc _) (by simp; omega)
        have HBX := Lib.hid (hb.trans (hgX.mono (by omega)))
        have HOX := Lib.hid (HO.out.alloc hsz (.cells #[.int .i64 p.kind, .string ⟨p.attr.toArray⟩, .string ⟨p.value.toArray⟩, .string ⟨p.first.toArray⟩, .string ⟨p.last.toArray⟩, .slice b5 PA d5, .slice b6 PP d6] 33))
        clear hrec hin hwX hwp hA HTj hlen2 hbl HO hAl
        go_wp2_with fail
        refine hc.mono ?_; rintro e w3 ⟨rfl, hbl3, hb3, ho3⟩
        have HB3 := Lib.hid (HBX.out.trans hb3)
        have HO3 := Lib.hid (HOX.out.trans ho3 HBX.out.size)
        clear hc x0 x1 x2 x3 x4 x5 x6 ho3 hb3
        go_wp2_with fail
        go_roundw
        case rel => exact ⟨j + 1, by omega, by go_num, by rw [HY.out]; exact hbl3, HB3.out, HO3⟩
        case measure => simp [intOf]; omega
      · have hjl : j = PL := by omega
        subst hjl
        rw [HALL.out] at hbl
        clear IH HAT HT HTP HWD
        have hwf := writeByte_k B b (l0 ++ (40 :: 33 :: FiS.textL ps)) 41 wr hbl (by have := HLEN.out; simp only [List.length_append, List.length_cons]; omega) (by omega)
        have HR2 : Hid (l0 ++ R = l0 ++ (40 :: 33 :: FiS.textL ps) ++ [41]) := Lib.hid (by rw [HRS.out]; simp)
        clear hrl hbl
        go_wp2_with fail
        refine hwf.mono ?_; rintro e w4 ⟨rfl, hu4, hb4, ho4⟩
        have HF := Lib.hid (And.intro (hb.trans hb4) (HO.out.trans ho4 hsz))
        have HU := Lib.hid hu4.bld
        clear hwf hu4 hb4 ho4
        go_wp2_with fail
        go_end0
        exact ⟨rfl, by rw [HR2.out]; exact HU.out, HF.out.1, HF.out.2⟩
  have HIN : Hid (FiS.inner kd = false) := Lib.hid (decide_eq_false (by omega))
  have HRS0 : Hid (R = 40 :: (FiS.itemM kd at0 vl fs ls an ++ [41])) := Lib.hid (by rw [HTX.out, if_neg (by rw [HIN.out]; simp)])
  clear HTX HIN IH HAT HT HTP HWD HALL
  by_cases hk7 : kd = 7
  · subst hk7
    have HRS1 : Hid (R = 40 :: ((at0 ++ [61, 42]) ++ [41])) := Lib.hid HRS0.out
    obtain ⟨A, hA, ha0, hp0⟩ := cat3 at0 [61, 42] (by simp only [List.length_cons, List.length_nil]; omega)
    have hAl : A.length ≤ 20010 := by rw [hA]; simp only [List.length_append, List.length_cons, List.length_nil]; omega
    have HR2 : Hid (l0 ++ R = l0 ++ [40] ++ A ++ [41]) := Lib.hid (by rw [HRS1.out, hA]; simp)
    clear HRS0 HRS1 hA hesc hsgn HSC HST HSP HALA HANY
    go_enter Tryz.func28, Tryz.ntmps28
    go_wp2_with fail
    refine hwb.mono ?_; rintro e w1 ⟨rfl, hu1, hb1, ho1⟩
    have hw1 := ho1.cell (by decide) hne HW0.out
    have HB1 := Lib.hid (HB0.out.trans hb1)
    have HO1 := Lib.hid (HO0.out.trans ho1 HB0.out.size)
    obtain ⟨q0, q1, q2, q3, q4, q5, q6⟩ := hw1.seven
    have hs1 := Nat.le_trans hBw HB1.out.size
    have hbl1 := hu1.bld
    clear hwb hu1 hb1 ho1 HW0 HB0 HO0
    have hws := writeString_k B b (l0 ++ [40]) ⟨A.toArray⟩ w1 hbl1 (by rw [bsize, List.length_append, List.length_singleton]; omega) hs1
    clear hbl1
    go_wp2_with fail
    refine hws.mono ?_; rintro e w2 ⟨rfl, hu2, hb2, ho2⟩
    have HB2 := Lib.hid (HB1.out.trans hb2)
    have HO2 := Lib.hid (HO1.out.trans ho2 HB1.out.size)
    have hbl2 : Bld B b (l0 ++ [40] ++ A) w2 := by have := hu2.bld; simpa using this
    have hal : (l0 ++ [40] ++ A).length ≤ 900000000 := by simp only [List.length_append, List.length_cons, List.length_nil]; omega
    clear hws hu2 hb2 ho2 q0 q1 q2 q3 q4 q5 q6
    have hwf := writeByte_k B b (l0 ++ [40] ++ A) 41 w2 hbl2 (by have := HLEN.out; omega) (Nat.le_trans hBw HB2.out.size)
    clear hbl2
    go_wp2_with fail
    refine hwf.mono ?_; rintro e w4 ⟨rfl, hu4, hb4, ho4⟩
    have HF := Lib.hid (And.intro (HB2.out.trans hb4) (HO2.out.trans ho4 HB2.out.size))
    have HU := Lib.hid hu4.bld
    clear hwf hu4 hb4 ho4
    go_wp2_with fail
    go_end0
    exact ⟨rfl, by rw [HR2.out]; exact HU.out, HF.out.1, HF.out.2⟩
  by_cases hk4 : kd = 4
  · subst hk4
    have HRS1 : Hid (R = 40 :: ((at0 ++ 61 :: (FiS.escV fs ++ (FiS.starS an ++ 42 :: FiS.escV ls))) ++ [41])) := Lib.hid HRS0.out
    have hrl := congrArg List.length HRS1.out
    simp only [List.length_cons, List.length_append, List.length_nil] at hrl
    have hrl2 : l0.length + at0.length + (FiS.escV fs).length + (FiS.starS an).length + (FiS.escV ls).length + 4 ≤ 400000000 := by have := HLEN.out; omega
    clear hrl HRS0 hsgn
    obtain ⟨z1, hz1, ha1, hp3⟩ := cat3 at0 [61] (by simp only [List.length_cons, List.length_nil]; omega)
    have hef := fun w => hesc fs hfs w
    have hel := fun w => hesc ls hls w
    have hfl3 := FiS.escV_le fs
    have hll3 := FiS.escV_le ls
    obtain ⟨EF, hEF⟩ : ∃ x, FiS.escV fs = x := ⟨_, rfl⟩
    rw [hEF] at HRS1 hrl2 hef hfl3
    obtain ⟨z2, hz2, ha2, hp4⟩ := cat3 z1 EF (by rw [hz1]; simp only [List.length_append, List.length_cons, List.length_nil]; omega)
    obtain ⟨EL, hEL⟩ : ∃ x, FiS.escV ls = x := ⟨_, rfl⟩
    rw [hEL] at HRS1 hel hrl2 hll3
    obtain ⟨z3, hz3, ha3, hp5⟩ := cat3 [42] EL (by simp only [List.length_cons, List.length_nil]; omega)
    have hlz2 : z2.length = at0.length + 1 + EF.length := by rw [hz2, hz1]; simp only [List.length_append, List.length_cons, List.length_nil]
    have hlz3 : z3.length = 1 + EL.length := by rw [hz3, List.length_append]; rfl
    have HR2 : Hid (l0 ++ R = l0 ++ [40] ++ z2 ++ FiS.starS an ++ z3 ++ [41]) := Lib.hid (by rw [HRS1.out, hz3, hz2, hz1]; simp)
    have HZ0 : Hid (l0 ++ [40] ++ z2 = l0 ++ [40] ++ z2 ++ FiS.starS (an.take 0)) := Lib.hid (by simp [FiS.starS])
    clear hz1 hz2 hz3 hEF hEL HRS1
    go_enter Tryz.func28, Tryz.ntmps28
    go_wp2_with fail
    refine hwb.mono ?_; rintro e w1 ⟨rfl, hu1, hb1, ho1⟩
    have hw1 := ho1.cell (by decide) hne HW0.out
    have HB1 := Lib.hid (HB0.out.trans hb1)
    have HO1 := Lib.hid (HO0.out.trans ho1 HB0.out.size)
    obtain ⟨q0, q1, q2, q3, q4, q5, q6⟩ := hw1.seven
    have hs1 := Nat.le_trans hBw HB1.out.size
    have hbl1 := hu1.bld
    clear hwb hu1 hb1 ho1 HW0 HB0 HO0
    have hdr : Below w1.heap.size w1 w1.drew := (Below.refl _ _).drew
    have hwD : Whole w1.drew w.heap.size 33 #[.int .i64 4, .string ⟨at0.toArray⟩, .string ⟨vl.toArray⟩, .string ⟨fs.toArray⟩, .string ⟨ls.toArray⟩, .slice a5 AL c5, .slice a6 PL c6] := hw1
    have d1 := keepC q1 hdr
    have d3 := keepC q3 hdr
    have hblD := hbl1.drew
    clear hbl1
    go_wp2_with fail
    go_region_held3 (fun W => W.cell? ⟨w.heap.size, 1, none⟩ = some (.string ⟨at0.toArray⟩) ∧ W.cell? ⟨w.heap.size, 3, none⟩ = some (.string ⟨fs.toArray⟩)) (first | exact ⟨d1, d3⟩ | exact ⟨zz.2.1, zz.2.2.2.1⟩ | exact ⟨keepC d1 hb2, keepC d3 hb2⟩ | go_keep)
      (first | (go_at_call 43; (with_reducible refine (hef _).mono ?_); rintro e w2 ⟨rfl, hb2⟩) | (go_at_call 42; refine (writeString_k B b (l0 ++ [40]) ⟨z2.toArray⟩ _ (hblD.call hb2) (by rw [bsize, List.length_append, List.length_singleton]; omega) (Nat.le_trans hs1 (Nat.le_trans hdr.size hb2.size))).mono ?_; rintro e w3 ⟨rfl, hu3, hb3, ho3⟩; have zz := (ho3.cell (by decide) hne (Whole.call hwD hb2)).seven))
    have hw3 := ho3.cell (by decide) hne (Whole.call hwD hb2)
    have hbE := HB1.out.trans ((hdr.mono hs1).trans (hb2.mono (Nat.le_trans hs1 hdr.size)))
    have HB2 := Lib.hid (hbE.trans hb3)
    have HO2 : Hid (Others b w w3) := Lib.hid ((HO1.out.trans (fun k hk _ _ => hb2.block k hk) HB1.out.size).trans ho3 hbE.size)
    have hbl2 : Bld B b (l0 ++ [40] ++ z2 ++ FiS.starS (an.take 0)) w3 := by have := hu3.bld; rw [← HZ0.out]; simpa using this
    clear hu3 hb3 ho3 zz hb2 hbE hblD hwD d1 d3 hdr q0 q1 q2 q3 q4 q5 q6 hw1 hef ha1 ha2 hp3 hp4 HB1 HO1 hs1 HZ0
    obtain ⟨q0, q1, q2, q3, q4, q5, q6⟩ := hw3.seven
    go_wp2_with fail
    clear q0 q1 q2 q3 q4 q5 q6
    go_loopw [65] (fun i wr => ∃ j : Nat, j ≤ AL ∧ i = .int .i64 j ∧ Bld B b (l0 ++ [40] ++ z2 ++ FiS.starS (an.take j)) wr ∧ Whole wr w.heap.size 33 #[.int .i64 4, .string ⟨at0.toArray⟩, .string ⟨vl.toArray⟩, .string ⟨fs.toArray⟩, .string ⟨ls.toArray⟩, .slice a5 AL c5, .slice a6 PL c6] ∧ Below B w wr ∧ Hid (Others b w wr)) (fun i _ => AL - (intOf i).toNat)
    case atStart => exact ⟨0, Nat.zero_le _, rfl, hbl2, hw3, HB2.out, HO2⟩
    case round =>
      obtain ⟨j, hj, rfl, hbl, hw, hb, HO⟩ := hrel
      clear hbl2 HB2 HO2 hw3
      have hsz := hb.size
      obtain ⟨q0, q1, q2, q3, q4, q5, q6⟩ := hw.seven
      by_cases hlt : j < AL
      · have hlt2 : j < an.length := by rw [HAL.out]; exact hlt
        have HTj := Lib.hid (HST.out j hlt2)
        have htp := HSP.out j hlt2
        have hj39 : j ≤ 20000 := by omega
        have hpl2 := HANY.out j hlt2
        obtain ⟨g, o, hae, hg, hok, hra⟩ := HSC.out j hlt2
        have hcj : wr.cell? ⟨g, o + j, none⟩ = some (strV an[j]) := by
          have : w.cell? ⟨g, o + j * 1, none⟩ = some (strV an[j]) := hra
          rw [Nat.mul_one] at this
          exact (hb.cell (p := ⟨g, o + j, none⟩) hok).trans this
        clear hra HSC HST HSP HANY HALA hel
        subst hae
        generalize an[j] = p at *
        unfold strV at hcj
        have hcp := hesc p hpl2 wr
        obtain ⟨EP, hEP⟩ : ∃ x, FiS.escV p = x := ⟨_, rfl⟩
        rw [hEP] at HTj htp hcp
        clear hEP
        have hj0 : (0 : Int) ≤ (j : Int) := by omega
        have hj1 : (j : Int) < (AL : Int) := by omega
        obtain ⟨A, hA⟩ : ∃ A, l0 ++ [40] ++ z2 ++ FiS.starS (an.take j) = A := ⟨_, rfl⟩
        have hAl : A.length + EP.length + 1 ≤ 400000000 := by rw [← hA]; simp only [List.length_append, List.length_cons, List.length_nil]; omega
        obtain ⟨y1, hy1, ha1, hp1⟩ := cat3 [42] EP (by simp only [List.length_cons, List.length_nil]; omega)
        have hy1l : y1.length = 1 + EP.length := by rw [hy1, List.length_append]; rfl
        have HY : Hid (l0 ++ [40] ++ z2 ++ FiS.starS (an.take (j + 1)) = A ++ y1) := Lib.hid (by rw [HTj.out, hy1, ← hA]; simp)
        rw [hA] at hbl
        clear hA hy1 HTj htp
        go_wp2_with fail
        refine hcp.mono ?_; rintro e w3 ⟨rfl, hb3⟩
        have hw3 := hw.call hb3
        have hbl3 := hbl.call hb3
        have hb3' := hb.trans (hb3.mono (by omega))
        have HO3 : Hid (Others b w w3) := Lib.hid (HO.out.trans (fun k hk _ _ => hb3.block k hk) hsz)
        have hws := writeString_k B b A ⟨y1.toArray⟩ w3 hbl3 (by rw [bsize]; omega) (Nat.le_trans hBw hb3'.size)
        clear hcp q0 q1 q2 q3 q4 q5 q6 hbl hbl3 hb3 HO hw hb hsz hcj
        go_wp2_with fail
        refine hws.mono ?_; rintro e w4 ⟨rfl, hu4, hb4, ho4⟩
        have hw4 := ho4.cell (by decide) hne hw3
        have HB4 := Lib.hid (hb3'.trans hb4)
        have HO4 := Lib.hid (HO3.out.trans ho4 hb3'.size)
        have hbl4 : Bld B b (A ++ y1) w4 := by have := hu4.bld; simpa using this
        clear hws hu4 hb4 ho4 hw3 hb3' HO3
        go_wp2_with fail
        go_roundw
        case rel => exact ⟨j + 1, by omega, by go_num, by rw [HY.out]; exact hbl4, hw4, HB4.out, HO4⟩
        case measure => simp [intOf]; omega
      · have hjl : j = AL := by omega
        subst hjl
        rw [HALA.out] at hbl
        clear HSC HST HSP HANY hesc
        have hcl := hel wr
        obtain ⟨A, hA⟩ : ∃ A, l0 ++ [40] ++ z2 ++ FiS.starS an = A := ⟨_, rfl⟩
        have hAl : A.length + EL.length + 1 ≤ 400000000 := by rw [← hA]; simp only [List.length_append, List.length_cons, List.length_nil]; omega
        rw [hA] at hbl HR2
        clear hA hel hrl2
        go_wp2_with fail
        refine hcl.mono ?_; rintro e w3 ⟨rfl, hb3⟩
        have hbl3 := hbl.call hb3
        have hb3' := hb.trans (hb3.mono (by omega))
        have HO3 : Hid (Others b w w3) := Lib.hid (HO.out.trans (fun k hk _ _ => hb3.block k hk) hsz)
        have hws := writeString_k B b A ⟨z3.toArray⟩ w3 hbl3 (by rw [bsize]; omega) (Nat.le_trans hBw hb3'.size)
        clear hcl q0 q1 q2 q3 q4 q5 q6 hbl hbl3 hb3 HO hw hb hsz
        go_wp2_with fail
        refine hws.mono ?_; rintro e w5 ⟨rfl, hu5, hb5, ho5⟩
        have HB5 := Lib.hid (hb3'.trans hb5)
        have HO5 := Lib.hid (HO3.out.trans ho5 hb3'.size)
        have hbl5 : Bld B b (A ++ z3) w5 := by have := hu5.bld; simpa using this
        have hal : (A ++ z3).length ≤ 900000000 := by simp only [List.length_append]; omega
        clear hws hu5 hb5 ho5 hb3' HO3
        have hwf := writeByte_k B b (A ++ z3) 41 w5 hbl5 (by have := HLEN.out; omega) (Nat.le_trans hBw HB5.out.size)
        clear hbl5
        go_wp2_with fail
        refine hwf.mono ?_; rintro e w4 ⟨rfl, hu4, hb4, ho4⟩
        have HF := Lib.hid (And.intro (HB5.out.trans hb4) (HO5.out.trans ho4 HB5.out.size))
        have HU := Lib.hid hu4.bld
        clear hwf hu4 hb4 ho4
        go_wp2_with fail
        go_end0
        exact ⟨rfl, by rw [HR2.out]; exact HU.out, HF.out.1, HF.out.2⟩
  have HRS1 : Hid (R = 40 :: ((at0 ++ FiS.signS kd ++ FiS.escV vl) ++ [41])) := Lib.hid (by rw [HRS0.out]; unfold FiS.itemM; rw [if_neg hk7, if_neg hk4])
  have hev := fun w => hesc vl hvl w
  have hvl3 := FiS.escV_le vl
  have hsg2 : (FiS.signS kd).length ≤ 2 := by unfold FiS.signS; split <;> (try split) <;> (try split) <;> simp
  clear HRS0 hesc
  obtain ⟨SG, hSG⟩ : ∃ x, FiS.signS kd = x := ⟨_, rfl⟩
  rw [hSG] at HRS1 hsg2 hsgn
  obtain ⟨EV, hEV⟩ : ∃ x, FiS.escV vl = x := ⟨_, rfl⟩
  rw [hEV] at HRS1 hvl3 hev
  obtain ⟨z1, hz1, ha1, hp3⟩ := cat3 at0 SG (by omega)
  have hz1l : z1.length ≤ 20002 := by rw [hz1, List.length_append]; omega
  obtain ⟨z2, hz2, ha2, hp4⟩ := cat3 z1 EV (by omega)
  have hz2l : z2.length ≤ 80002 := by rw [hz2, List.length_append]; omega
  have HR2 : Hid (l0 ++ R = l0 ++ [40] ++ z2 ++ [41]) := Lib.hid (by rw [HRS1.out, hz2, hz1]; simp)
  have k0 : (kd == 0) = false := by simpa using hk0
  have k1 : (kd == 1) = false := by simpa using hk1
  have k2 : (kd == 2) = false := by simpa using hk2
  have k4 : (kd == 4) = false := by simpa using hk4
  have k7 : (kd == 7) = false := by simpa using hk7
  clear hz1 hz2 HRS1 hSG hEV HSC HST HSP HALA HANY
  go_enter Tryz.func28, Tryz.ntmps28
  go_wp2_with fail
  refine hwb.mono ?_; rintro e w1 ⟨rfl, hu1, hb1, ho1⟩
  have hw1 := ho1.cell (by decide) hne HW0.out
  have HB1 := Lib.hid (HB0.out.trans hb1)
  have HO1 := Lib.hid (HO0.out.trans ho1 HB0.out.size)
  obtain ⟨q0, q1, q2, q3, q4, q5, q6⟩ := hw1.seven
  have hs1 := Nat.le_trans hBw HB1.out.size
  have hbl1 := hu1.bld
  clear hwb hu1 hb1 ho1 HW0 HB0 HO0
  have hdr : Below w1.heap.size w1 w1.drew := (Below.refl _ _).drew
  have hwD : Whole w1.drew w.heap.size 33 #[.int .i64 kd, .string ⟨at0.toArray⟩, .string ⟨vl.toArray⟩, .string ⟨fs.toArray⟩, .string ⟨ls.toArray⟩, .slice a5 AL c5, .slice a6 PL c6] := hw1
  have d0 := keepC q0 hdr
  have d1 := keepC q1 hdr
  have d2 := keepC q2 hdr
  have hblD := hbl1.drew
  clear hbl1
  go_wp2_with fail
  go_region_held3 (fun W => W.cell? ⟨w.heap.size, 0, none⟩ = some (.int .i64 kd) ∧ W.cell? ⟨w.heap.size, 1, none⟩ = some (.string ⟨at0.toArray⟩) ∧ W.cell? ⟨w.heap.size, 2, none⟩ = some (.string ⟨vl.toArray⟩)) (first | exact ⟨d0, d1, d2⟩ | exact ⟨zz.1, zz.2.1, zz.2.2.1⟩ | exact ⟨keepC d0 hb2, keepC d1 hb2, keepC d2 hb2⟩ | go_keep)
    (first | (go_at_call 44; (with_reducible refine (hsgn _).mono ?_); rintro e w9 ⟨rfl, rfl⟩) | (go_at_call 43; (with_reducible refine (hev _).mono ?_); rintro e w2 ⟨rfl, hb2⟩) | (go_at_call 42; refine (writeString_k B b (l0 ++ [40]) ⟨z2.toArray⟩ _ (hblD.call hb2) (by rw [bsize, List.length_append, List.length_singleton]; omega) (Nat.le_trans hs1 (Nat.le_trans hdr.size hb2.size))).mono ?_; rintro e w3 ⟨rfl, hu3, hb3, ho3⟩; have zz := (ho3.cell (by decide) hne (Whole.call hwD hb2)).seven))
  have hbE := HB1.out.trans ((hdr.mono hs1).trans (hb2.mono (Nat.le_trans hs1 hdr.size)))
  have HB2 := Lib.hid (hbE.trans hb3)
  have HO2 : Hid (Others b w w3) := Lib.hid ((HO1.out.trans (fun k hk _ _ => hb2.block k hk) HB1.out.size).trans ho3 hbE.size)
  have hbl2 : Bld B b (l0 ++ [40] ++ z2) w3 := by have := hu3.bld; simpa using this
  have hal : (l0 ++ [40] ++ z2).length ≤ 900000000 := by simp only [List.length_append, List.length_cons, List.length_nil]; omega
  clear hu3 hb3 ho3 zz hb2 hbE hblD hwD d0 d1 d2 hdr q0 q1 q2 q3 q4 q5 q6 hw1 hsgn hev
  have hwf := writeByte_k B b (l0 ++ [40] ++ z2) 41 w3 hbl2 (by have := HLEN.out; omega) (Nat.le_trans hBw HB2.out.size)
  clear hbl2
  go_wp2_with fail
  refine hwf.mono ?_; rintro e w4 ⟨rfl, hu4, hb4, ho4⟩
  have HF := Lib.hid (And.intro (HB2.out.trans hb4) (HO2.out.trans ho4 HB2.out.size))
  have HU := Lib.hid hu4.bld
  clear hwf hu4 hb4 ho4
  go_wp2_with fail
  go_end0
  exact ⟨rfl, by rw [HR2.out]; exact HU.out, HF.out.1, HF.out.2⟩)
end Go.Proofs.YtjmfknfponjgkaaGreatDoor
