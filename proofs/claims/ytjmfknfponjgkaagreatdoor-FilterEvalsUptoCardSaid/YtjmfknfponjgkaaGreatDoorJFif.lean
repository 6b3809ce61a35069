/- The walks of Small, and of what makes a filter formed (the program's, the document's). Conditions: as stated. -/
import Derived.Test.YtjmfknfponjgkaaGreatDoorJFib
import Derived.Test.YtjmfknfponjgkaaGreatDoorJFid
set_option maxRecDepth 100000
set_option maxHeartbeats 2000000
namespace Go.Proofs.YtjmfknfponjgkaaGreatDoor
section
namespace FiS
mutual
def wdF (n : Nat) : Fi -> Prop
 | .mk _ a v f l s ps => (a.length <= n /\ v.length <= n /\ f.length <= n /\ l.length <= n) /\ s.length <= n /\ (∀ t ∈ s, t.length <= n) /\ ps.length <= n /\ wdL n ps
def wdL (n : Nat) : List Fi -> Prop
 | [] => True
 | p :: r => wdF n p /\ wdL n r
end
mutual
theorem wdF_mono {n m : Nat} (hnm : n <= m) : ∀ x : Fi, wdF n x -> wdF m x
 | .mk k a v f l s ps, h => by
  rw [wdF] at h ⊢
  obtain ⟨⟨h1, h2, h3, h4⟩, h5, h6, h7, h8⟩ := h
  exact ⟨⟨by omega, by omega, by omega, by omega⟩, by omega, fun t ht => Nat.le_trans (h6 t ht) hnm, by omega, wdL_mono hnm ps h8⟩
theorem wdL_mono {n m : Nat} (hnm : n <= m) : ∀ l : List Fi, wdL n l -> wdL m l
 | [], _ => by rw [wdL]; trivial
 | p :: r, h => by
  rw [wdL] at h ⊢
  exact ⟨wdF_mono hnm p h.1, wdL_mono hnm r h.2⟩
end
theorem wdL_iff {n : Nat} : ∀ {l : List Fi}, wdL n l ↔ ∀ j (hj : j < l.length), wdF n (l[j]'hj)
 | [] => ⟨fun _ j hj => by simp at hj, fun _ => by rw [wdL]; trivial⟩
 | p :: r => by
  rw [wdL, wdL_iff (l := r)]
  constructor
  · rintro ⟨h1, h2⟩ j hj
    cases j with
    | zero => exact h1
    | succ j => exact h2 j (by simpa using hj)
  · intro h
    exact ⟨h 0 (by simp), fun j hj => h (j + 1) (by simpa using hj)⟩
theorem allL_take : ∀ {ps : List Fi} {j : Nat} (hj : j < ps.length), allL (ps.take (j + 1)) = (allL (ps.take j) && allS (ps[j]'hj))
 | [], j, hj => by simp at hj
 | p :: r, 0, _ => by
  show (allS p && allL (r.take 0)) = (allL [] && allS p)
  simp [allL]
 | p :: r, j + 1, hj => by
  have ih := allL_take (ps := r) (j := j) (by simpa using hj)
  show (allS p && allL (r.take (j + 1))) = (allS p && allL (r.take j) && allS (r[j]'(by simpa using hj)))
  rw [ih, Bool.and_assoc]
theorem allL_not : ∀ {ps : List Fi} {j : Nat} (hj : j < ps.length), allS (ps[j]'hj) = false -> allL ps = false
 | [], j, hj, _ => by simp at hj
 | p :: r, 0, _, h => by
  show (allS p && allL r) = false
  rw [show allS p = false from h]; rfl
 | p :: r, j + 1, hj, h => by
  show (allS p && allL r) = false
  rw [allL_not (ps := r) (j := j) (by simpa using hj) h, Bool.and_false]
theorem depthL_ge : ∀ {ps : List Fi} {j : Nat} (hj : j < ps.length), depth (ps[j]'hj) <= depthL ps
 | [], j, hj => by simp at hj
 | p :: r, 0, _ => by show depth p <= max (depth p) (depthL r); omega
 | p :: r, j + 1, hj => by
  have := depthL_ge (ps := r) (j := j) (by simpa using hj)
  show depth (r[j]'(by simpa using hj)) <= max (depth p) (depthL r)
  omega
def formD (d : Nat) (x : Fi) : Bool := decide (d + depth x <= 21) && allS x
theorem formD_mk {d : Nat} {k : Int} {a v f l : List UInt8} {s : List (List UInt8)} {ps : List Fi} : formD d (.mk k a v f l s ps) = (decide (d <= 20 /\ d + 1 + depthL ps <= 21) && (bareS (.mk k a v f l s ps) && allL ps)) := by
 unfold formD
 rw [depth, allS]
 congr 1
 exact decide_eq_decide.2 ⟨fun h => by omega, fun h => by omega⟩
theorem formD_one (x : Fi) : formedS x = (decide (nodes x <= 40) && formD 1 x) := by
 unfold formedS formD
 congr 2
 exact decide_eq_decide.2 ⟨fun h => by omega, fun h => by omega⟩
theorem formD_bad {d : Nat} {ps : List Fi} {j : Nat} (hj : j < ps.length) (h : formD (d + 1) (ps[j]'hj) = false) : (decide (d <= 20 /\ d + 1 + depthL ps <= 21) && allL ps) = false := by
 unfold formD at h
 have hd := depthL_ge hj
 cases ha : allS (ps[j]'hj) with
 | false => rw [allL_not hj ha, Bool.and_false]
 | true =>
  rw [ha, Bool.and_true, decide_eq_false_iff_not] at h
  rw [decide_eq_false (by omega), Bool.false_and]
def formT (d : Nat) (ps : List Fi) : Prop := d + 1 + depthL ps <= 21 /\ allL ps = true
theorem formT_nil {d : Nat} (h : d <= 20) : formT d [] := ⟨by simp [depthL]; omega, rfl⟩
theorem formT_step {d : Nat} {ps : List Fi} {j : Nat} (hj : j < ps.length) (h : formD (d + 1) (ps[j]'hj) = true) (ht : formT d (ps.take j)) : formT d (ps.take (j + 1)) := by
 unfold formD at h
 rw [Bool.and_eq_true, decide_eq_true_eq] at h
 refine ⟨?_, by rw [allL_take hj, ht.2, h.2]; rfl⟩
 rw [depthL_take hj]
 have := ht.1
 omega
end FiS
open Go.RowKit
open FiS (Fi)
attribute [local go_sem ↓] Go.wp_at_zero Go.wp_at_succ
def FormedC (n : Nat) : Prop := ∀ (x : Fi) (v : Value) (w : World) (d : Nat) (di : Int), FiIn n w v x -> FiS.wdF 20000 x -> d <= 21 -> di = (d : Int) -> Calls Tryz.prog 27 #[v, .int .i64 di] w (BoolR (FiS.formD d x) w)
theorem flformed_c : ∀ n, FormedC n := deep_ind (fun n IH => by
 unfold FormedC BoolR at *
 intro x v w D di h hwd hD hdi
 have hdi2 : 0 <= di /\ di <= 21 := by omega
 have hown := fun w h ha hs => own_c n x v w h ha hs
 unfold BoolR at hown
 obtain ⟨kd, at0, vl, fs, ls, an, ps⟩ := x
 obtain ⟨a5, c5, a6, c6, hv, hss, hc6, hps⟩ := FiV.parts h
 have hv : v = .agg #[.int .i64 kd, .string ⟨at0.toArray⟩, .string ⟨vl.toArray⟩, .string ⟨fs.toArray⟩, .string ⟨ls.toArray⟩, .slice a5 an.length c5, .slice a6 ps.length c6] := hv
 subst hv
 have hss : StrsIn w (.slice a5 an.length c5) an := hss
 have hc6 : ps.length <= c6 := hc6
 have hps : FisP n (fun _ => True) w (.slice a6 ps.length c6) ps := hps
 rw [FiS.wdF] at hwd
 obtain ⟨⟨ha, _⟩, hs, _, hpl, hwl⟩ := hwd
 have HWD := hZ9 (FiS.wdL_iff.1 hwl)
 clear hwl
 have hown := fun w h => hown w h ha (by show an.length <= _; omega)
 have HBAD := hZ9 (fun j (hj : j < ps.length) (h : FiS.formD (D + 1) (ps[j]'hj) = false) => FiS.formD_bad hj h)
 have HSTEP := hZ9 (fun j (hj : j < ps.length) (h : FiS.formD (D + 1) (ps[j]'hj) = true) (ht : FiS.formT D (ps.take j)) => FiS.formT_step hj h ht)
 have HNIL := hZ9 (fun h : D <= 20 => FiS.formT_nil h)
 have HALL : Hid (ps.take ps.length = ps) := hZ9 (List.take_length)
 have HTD : Hid (FiS.formT D ps -> D + 1 + FiS.depthL ps <= 21 /\ FiS.allL ps = true) := hZ9 (fun h => h)
 have HFD : Hid (FiS.formD D (.mk kd at0 vl fs ls an ps) = (decide (D <= 20 /\ D + 1 + FiS.depthL ps <= 21) && (FiS.bareS (.mk kd at0 vl fs ls an ps) && FiS.allL ps))) := hZ9 FiS.formD_mk
 obtain ⟨AL, hAL⟩ : ∃ m, an.length = m := ⟨_, rfl⟩
 obtain ⟨PL, hPL⟩ : ∃ m, ps.length = m := ⟨_, rfl⟩
 have HAL := hZ9 hAL
 have HPL := hZ9 hPL
 rw [hAL] at hss
 rw [hPL] at hc6 hps
 obtain ⟨R, hR⟩ : ∃ b, FiS.formD D (.mk kd at0 vl fs ls an ps) = b := ⟨_, rfl⟩
 obtain ⟨B, hB⟩ : ∃ b, FiS.bareS (.mk kd at0 vl fs ls an ps) = b := ⟨_, rfl⟩
 rw [hR, hB] at HFD
 rw [hR]
 rw [hB] at hown
 clear hB hR
 have hg0 := grow1 w (.cells #[.int .i64 kd, .string ⟨at0.toArray⟩, .string ⟨vl.toArray⟩, .string ⟨fs.toArray⟩, .string ⟨ls.toArray⟩, .slice a5 AL c5, .slice a6 PL c6] 33)
 have hw0 := Whole.made w 33 #[.int .i64 kd, .string ⟨at0.toArray⟩, .string ⟨vl.toArray⟩, .string ⟨fs.toArray⟩, .string ⟨ls.toArray⟩, .slice a5 AL c5, .slice a6 PL c6]
 have hfi : FiIn n w (.agg #[.int .i64 kd, .string ⟨at0.toArray⟩, .string ⟨vl.toArray⟩, .string ⟨fs.toArray⟩, .string ⟨ls.toArray⟩, .slice a5 AL c5, .slice a6 PL c6]) (.mk kd at0 vl fs ls an ps) := by rw [hAL, hPL] at h; exact h
 rw [hAL, hPL] at hown ⊢
 have hown := hown _ (hfi.call hg0)
 have HAT := hZ9 (fun j (hj : j < ps.length) => FisP.at hps j hj)
 rw [hPL] at HALL
 obtain ⟨q0, q1, q2, q3, q4, q5, q6⟩ := hw0.seven
 have HWHO := hZ9 hw0
 clear h hss hps hAL hPL HAL hfi hw0
 have hd20 : decide ((20 : Int) < di) = decide (20 < D) := decide_eq_decide.2 (by omega)
 have HDI := hZ9 hdi
 clear hdi
 by_cases hd : 20 < D
 · rw [decide_eq_true hd] at hd20
   have HR : Hid (R = false) := hZ9 (by rw [HFD.out, decide_eq_false (by omega), Bool.false_and])
   clear HFD hown IH
   go_enter Tryz.func27, Tryz.ntmps27
   go_wp2_with fail
   go_ret
   exact ⟨by (rw [HR.out]) <;> rfl, hg0⟩
 rw [decide_eq_false hd] at hd20
 cases B with
 | false =>
  have HR : Hid (R = false) := hZ9 (by rw [HFD.out]; simp)
  clear HFD IH
  go_enter Tryz.func27, Tryz.ntmps27
  go_wp2_with fail
  refine hown.mono ?_; rintro e w2 ⟨rfl, hb2⟩
  go_wp2_with fail
  go_ret
  exact ⟨by (rw [HR.out]) <;> rfl, hg0.trans (hb2.mono hg0.size)⟩
 | true =>
  go_enter Tryz.func27, Tryz.ntmps27
  go_wp2_with fail
  refine hown.mono ?_; rintro e w2 ⟨rfl, hb2⟩
  have hz2 := hg0.trans (hb2.mono hg0.size)
  clear q0 q1 q2 q3 q4 q5 q6
  obtain ⟨q0, q1, q2, q3, q4, q5, q6⟩ := (HWHO.out.call hb2).seven
  clear hown
  go_wp2_with fail
  go_loopw [17] (fun i wr => ∃ j : Nat, j <= PL /\ i = .int .i64 j /\ Hid (FiS.formT D (ps.take j)) /\ Below w.heap.size w wr) (fun i _ => PL - (intOf i).toNat)
  case atStart => exact ⟨0, Nat.zero_le _, rfl, hZ9 (HNIL.out (by omega)), hz2⟩
  case round =>
   obtain ⟨j, hj, rfl, HA, hb⟩ := hrel
   clear hg0 hz2 hb2 q0 q1 q2 q3 q4 q5 q6 HWHO
   by_cases hlt : j < PL
   · have hlt2 : j < ps.length := by rw [HPL.out]; exact hlt
     have hj39 : j <= 20000 := by have := HPL.out; omega
     have HB := hZ9 (fun h => HBAD.out j hlt2 h)
     have HS := hZ9 (fun h => HSTEP.out j hlt2 h HA.out)
     have hwp := HWD.out j hlt2
     obtain ⟨d, rfl, g, o, rfl, hg, b5, d5, b6, d6, hin, y0, y1, y2, y3, y4, y5, y6⟩ := HAT.out j hlt2
     have hin := hin.call hb
     have y0 := (hb.cell (p := ⟨g, o + j * 7, none⟩) hg).trans y0
     have y1 := (hb.cell (p := ⟨g, o + j * 7 + 1, none⟩) hg).trans y1
     have y2 := (hb.cell (p := ⟨g, o + j * 7 + 2, none⟩) hg).trans y2
     have y3 := (hb.cell (p := ⟨g, o + j * 7 + 3, none⟩) hg).trans y3
     have y4 := (hb.cell (p := ⟨g, o + j * 7 + 4, none⟩) hg).trans y4
     have y5 := (hb.cell (p := ⟨g, o + j * 7 + 5, none⟩) hg).trans y5
     have y6 := (hb.cell (p := ⟨g, o + j * 7 + 6, none⟩) hg).trans y6
     have hrec := fun v W h => IH d rfl (ps[j]'hlt2) v W (D + 1) (di + 1) h hwp (by omega) (by have := HDI.out; omega)
     clear IH HAT HBAD HSTEP HWD
     generalize ps[j] = p at *
     generalize p.any.length = PA at *
     generalize p.parts.length = PP at *
     have hl0 : (0 : Int) <= (j : Int) := by omega
     have hl1 : (j : Int) < (PL : Int) := by omega
     have hgX := grow1 wr (.cells #[.int .i64 p.kind, .string ⟨p.attr.toArray⟩, .string ⟨p.value.toArray⟩, .string ⟨p.first.toArray⟩, .string ⟨p.last.toArray⟩, .slice b5 PA d5, .slice b6 PP d6] 33)
     have hwX := Whole.made wr 33 #[.int .i64 p.kind, .string ⟨p.attr.toArray⟩, .string ⟨p.value.toArray⟩, .string ⟨p.first.toArray⟩, .string ⟨p.last.toArray⟩, .slice b5 PA d5, .slice b6 PP d6]
     obtain ⟨x0, x1, x2, x3, x4, x5, x6⟩ := hwX.seven
     have hbX := hb.trans (hgX.mono hb.size)
     have hc := hrec _ _ (hin.call hgX)
     clear hrec hin hwX hwp
     cases hq : FiS.formD (D + 1) p with
     | true =>
      have HA2 := hZ9 (HS.out hq)
      rw [hq] at hc
      clear hq HS HB HA
      go_wp2_with fail
      refine hc.mono ?_; rintro e w2 ⟨rfl, hb2⟩
      go_wp2_with fail
      go_roundw
      case rel => exact ⟨j + 1, by omega, by go_num, HA2, hbX.trans (hb2.mono hbX.size)⟩
      case measure => simp [intOf]; omega
     | false =>
      have HR : Hid (R = false) := hZ9 (by rw [HFD.out, Bool.true_and]; exact HB.out hq)
      rw [hq] at hc
      clear hq HS HB HA HFD
      go_wp2_with fail
      refine hc.mono ?_; rintro e w2 ⟨rfl, hb2⟩
      go_wp2_with fail
      go_ret
      exact ⟨by (rw [HR.out]) <;> rfl, hbX.trans (hb2.mono hbX.size)⟩
   · have HR : Hid (R = true) := hZ9 (by
      have h1 := HA.out
      rw [show j = PL by omega, HALL.out] at h1
      obtain ⟨h2, h3⟩ := HTD.out h1
      rw [HFD.out, decide_eq_true ⟨by omega, h2⟩, h3]; rfl)
     clear IH HAT HBAD HSTEP HWD HA HFD HTD HNIL
     go_wp2_with fail
     go_ret
     exact ⟨by (rw [HR.out]) <;> rfl, hb⟩)
theorem flFormed_c (n : Nat) (x : Fi) (v : Value) (w : World) (h : FiIn n w v x) (hwd : FiS.wdF 20000 x) : Calls Tryz.prog 13 #[v] w (BoolR (FiS.formedS x) w) := by
 have hn := fun W h => nodes_c n x v W h
 have hf := fun W h => flformed_c n x v W 1 1 h hwd (by omega) rfl
 unfold BoolR at *
 have HR : Hid (FiS.formedS x = (decide (FiS.nodes x <= 40) && FiS.formD 1 x)) := hZ9 (FiS.formD_one x)
 generalize FiS.formedS x = R at *
 generalize FiS.nodes x = N at *
 generalize FiS.formD 1 x = B at *
 obtain ⟨a5, c5, a6, c6, hv, hss, hc6, hps⟩ := FiV.parts h
 generalize x.any.length = AL at *
 generalize x.parts.length = PL at *
 generalize x.kind = kd at *
 generalize x.attr = at0 at *
 generalize x.value = vl at *
 generalize x.first = fs at *
 generalize x.last = ls at *
 subst hv
 have hg0 := grow1 w (.cells #[.int .i64 kd, .string ⟨at0.toArray⟩, .string ⟨vl.toArray⟩, .string ⟨fs.toArray⟩, .string ⟨ls.toArray⟩, .slice a5 AL c5, .slice a6 PL c6] 33)
 have hw0 := Whole.made w 33 #[.int .i64 kd, .string ⟨at0.toArray⟩, .string ⟨vl.toArray⟩, .string ⟨fs.toArray⟩, .string ⟨ls.toArray⟩, .slice a5 AL c5, .slice a6 PL c6]
 obtain ⟨q0, q1, q2, q3, q4, q5, q6⟩ := hw0.seven
 have hn1 := hn _ (h.call hg0)
 obtain ⟨M, hM⟩ : ∃ m, min N 41 = m := ⟨_, rfl⟩
 rw [hM] at hn1
 clear hss hps hn
 go_enter Tryz.func13, Tryz.ntmps13
 go_wp2_with fail
 refine hn1.mono ?_; rintro e w2 ⟨rfl, hb2⟩
 have hz2 := hg0.trans (hb2.mono hg0.size)
 have hf1 := hf _ (h.call hz2)
 clear q0 q1 q2 q3 q4 q5 q6 hn1 h hf
 obtain ⟨q0, q1, q2, q3, q4, q5, q6⟩ := (hw0.call hb2).seven
 clear hw0
 by_cases hN : M <= 40
 · have hi : decide ((M : Int) <= 40) = true := decide_eq_true (by omega)
   have HR2 : Hid (R = B) := hZ9 (by rw [HR.out, decide_eq_true (by omega), Bool.true_and])
   clear HR hM
   go_wp2_with fail
   refine hf1.mono ?_; rintro e w3 ⟨rfl, hb3⟩
   go_wp2_with fail
   go_ret
   exact ⟨by (rw [HR2.out]) <;> rfl, hz2.trans (hb3.mono hz2.size)⟩
 · have hi : decide ((M : Int) <= 40) = false := decide_eq_false (by omega)
   have HR2 : Hid (R = false) := hZ9 (by rw [HR.out, decide_eq_false (by omega), Bool.false_and])
   clear HR hM
   go_wp2_with fail
   go_ret
   exact ⟨by (rw [HR2.out]) <;> rfl, hz2⟩
end
section
open Go.RowKit
open FiS (Fi)
attribute [local go_sem ↓] Go.wp_at_zero Go.wp_at_succ
def DeepC (n : Nat) : Prop := ∀ (x : Fi) (v : Value) (w : World) (lf : Nat) (li : Int), FiIn n w v x -> FiS.wdF 20000 x -> lf <= 20 -> li = (lf : Int) -> Calls Tryz.prog 31 #[v, .int .i64 li] w fun e w' => e = .returned (.int .i64 ((min (FiS.depth x) (lf + 1) : Nat) : Int)) /\ Below w.heap.size w w'
theorem deep_c : ∀ n, DeepC n := deep_ind (fun n IH => by
 unfold DeepC at *
 intro x v w lf li h hwd hlf hli
 obtain ⟨kd, at0, vl, fs, ls, an, ps⟩ := x
 obtain ⟨a5, c5, a6, c6, hv, hss, hc6, hps⟩ := FiV.parts h
 have hv : v = .agg #[.int .i64 kd, .string ⟨at0.toArray⟩, .string ⟨vl.toArray⟩, .string ⟨fs.toArray⟩, .string ⟨ls.toArray⟩, .slice a5 an.length c5, .slice a6 ps.length c6] := hv
 subst hv
 have hss : StrsIn w (.slice a5 an.length c5) an := hss
 have hc6 : ps.length <= c6 := hc6
 have hps : FisP n (fun _ => True) w (.slice a6 ps.length c6) ps := hps
 rw [FiS.wdF] at hwd
 obtain ⟨_, _, _, hpl, hwl⟩ := hwd
 have HWD := hZ9 (FiS.wdL_iff.1 hwl)
 clear hwl
 have HT := hZ9 (fun j (hj : j < ps.length) => FiS.depthL_take hj)
 have H0 : Hid (FiS.depthL (ps.take 0) = 0) := hZ9 (by simp [FiS.depthL])
 have HALL : Hid (ps.take ps.length = ps) := hZ9 (List.take_length)
 have hN : FiS.depth (.mk kd at0 vl fs ls an ps) = 1 + FiS.depthL ps := by rw [FiS.depth]
 rw [hN]
 clear hN
 obtain ⟨R, hR⟩ : ∃ r, min (1 + FiS.depthL ps) (lf + 1) = r := ⟨_, rfl⟩
 have HR := hZ9 hR
 rw [hR]
 clear hR
 obtain ⟨AL, hAL⟩ : ∃ m, an.length = m := ⟨_, rfl⟩
 obtain ⟨PL, hPL⟩ : ∃ m, ps.length = m := ⟨_, rfl⟩
 have HAL := hZ9 hAL
 have HPL := hZ9 hPL
 rw [hAL] at hss
 rw [hPL] at hc6 hps
 try rw [hAL]
 try rw [hPL]
 have hg0 := grow1 w (.cells #[.int .i64 kd, .string ⟨at0.toArray⟩, .string ⟨vl.toArray⟩, .string ⟨fs.toArray⟩, .string ⟨ls.toArray⟩, .slice a5 AL c5, .slice a6 PL c6] 25)
 have hw0 := Whole.made w 25 #[.int .i64 kd, .string ⟨at0.toArray⟩, .string ⟨vl.toArray⟩, .string ⟨fs.toArray⟩, .string ⟨ls.toArray⟩, .slice a5 AL c5, .slice a6 PL c6]
 have HAT := hZ9 (fun j (hj : j < ps.length) => FisP.at hps j hj)
 rw [hPL] at HALL hpl
 obtain ⟨q0, q1, q2, q3, q4, q5, q6⟩ := hw0.seven
 clear h hss hps hAL hPL HAL
 by_cases h0 : lf = 0
 · subst h0
   subst hli
   have hR : R = 1 := by have := HR.out; omega
   clear IH HAT HT HWD
   go_enter Tryz.func31, Tryz.ntmps31
   go_wp2_with fail
   go_ret
   exact ⟨by (rw [hR]) <;> rfl, hg0⟩
 have hl00 : (li == 0) = false := by simp; omega
 have hli1 : 0 <= li /\ li <= 20 := by omega
 have HLI := hZ9 hli
 clear hli
 go_enter Tryz.func31, Tryz.ntmps31
 go_wp2_with fail
 go_loopw [5, 12] (fun mv i wr => ∃ j M : Nat, j <= PL /\ i = .int .i64 j /\ mv = .int .i64 (M : Int) /\ Hid (M = min (FiS.depthL (ps.take j)) lf) /\ Whole wr w.heap.size 25 #[.int .i64 kd, .string ⟨at0.toArray⟩, .string ⟨vl.toArray⟩, .string ⟨fs.toArray⟩, .string ⟨ls.toArray⟩, .slice a5 AL c5, .slice a6 PL c6] /\ Below w.heap.size w wr) (fun _ i _ => PL - (intOf i).toNat)
 case atStart => exact ⟨0, 0, Nat.zero_le _, rfl, rfl, hZ9 (by rw [H0.out]; omega), hw0, hg0⟩
 case round =>
  obtain ⟨j, M, hj, rfl, rfl, HM, hw, hb⟩ := hrel
  clear hw0 hg0 q0 q1 q2 q3 q4 q5 q6
  have hM20 : M <= 20 := by have := HM.out; omega
  by_cases hlt : j < PL
  · have hlt2 : j < ps.length := by rw [HPL.out]; exact hlt
    have ht := HT.out j hlt2
    have hj39 : j <= 20000 := by omega
    have hwp := HWD.out j hlt2
    obtain ⟨d, rfl, g, o, rfl, hg, b5, d5, b6, d6, hin, y0, y1, y2, y3, y4, y5, y6⟩ := HAT.out j hlt2
    have hin := hin.call hb
    have y0 := (hb.cell (p := ⟨g, o + j * 7, none⟩) hg).trans y0
    have y1 := (hb.cell (p := ⟨g, o + j * 7 + 1, none⟩) hg).trans y1
    have y2 := (hb.cell (p := ⟨g, o + j * 7 + 2, none⟩) hg).trans y2
    have y3 := (hb.cell (p := ⟨g, o + j * 7 + 3, none⟩) hg).trans y3
    have y4 := (hb.cell (p := ⟨g, o + j * 7 + 4, none⟩) hg).trans y4
    have y5 := (hb.cell (p := ⟨g, o + j * 7 + 5, none⟩) hg).trans y5
    have y6 := (hb.cell (p := ⟨g, o + j * 7 + 6, none⟩) hg).trans y6
    have hrec := fun v W h => IH d rfl (ps[j]'hlt2) v W (lf - 1) (li - 1) h hwp (by omega) (by have := HLI.out; omega)
    clear IH HAT HT HWD
    generalize ps[j] = p at *
    generalize p.any.length = PA at *
    generalize p.parts.length = PP at *
    have hl0 : (0 : Int) <= (j : Int) := by omega
    have hl1 : (j : Int) < (PL : Int) := by omega
    have hc := hrec _ _ hin
    clear hrec hin hwp
    obtain ⟨q0, q1, q2, q3, q4, q5, q6⟩ := hw.seven
    obtain ⟨D, hD⟩ : ∃ m, min (FiS.depth p) (lf - 1 + 1) = m := ⟨_, rfl⟩
    rw [hD] at hc
    have HM2 : Hid (max M D = min (FiS.depthL (ps.take (j + 1))) lf) := hZ9 (by have := HM.out; omega)
    have hD20 : D <= 20 := by omega
    have hmx : max (M : Int) (D : Int) = ((max M D : Nat) : Int) := by omega
    clear hD ht HM
    go_wp2_with fail
    refine hc.mono ?_; rintro e w2 ⟨rfl, hb2⟩
    have hz2 := hb.trans (hb2.mono hb.size)
    have hw2 := hw.call hb2
    clear hc q0 q1 q2 q3 q4 q5 q6
    go_wp2_with fail
    go_roundw
    case rel => exact ⟨j + 1, max M D, by omega, by go_num, by first | rfl | (rw [hmx]) | (congr 1), HM2, hw2, hz2⟩
    case measure => simp [intOf]; omega
  · have hjl : j = PL := by omega
    subst hjl
    have hR : R = M + 1 := by have := HM.out; rw [HALL.out] at this; have := HR.out; omega
    clear IH HAT HT HWD HM
    go_wp2_with fail
    go_ret
    subst hR
    exact ⟨by first | rfl | (congr 2), hb⟩)
def AllC (n : Nat) : Prop := ∀ (x : Fi) (v : Value) (w : World), FiIn n w v x -> FiS.wdF 20000 x -> Calls Tryz.prog 32 #[v] w (BoolR (FiS.allS x) w)
theorem all_c : ∀ n, AllC n := deep_ind (fun n IH => by
 unfold AllC BoolR at *
 intro x v w h hwd
 have hown := fun w h hs => bare_c n x v w h hs
 unfold BoolR at hown
 obtain ⟨kd, at0, vl, fs, ls, an, ps⟩ := x
 obtain ⟨a5, c5, a6, c6, hv, hss, hc6, hps⟩ := FiV.parts h
 have hv : v = .agg #[.int .i64 kd, .string ⟨at0.toArray⟩, .string ⟨vl.toArray⟩, .string ⟨fs.toArray⟩, .string ⟨ls.toArray⟩, .slice a5 an.length c5, .slice a6 ps.length c6] := hv
 subst hv
 have hss : StrsIn w (.slice a5 an.length c5) an := hss
 have hc6 : ps.length <= c6 := hc6
 have hps : FisP n (fun _ => True) w (.slice a6 ps.length c6) ps := hps
 rw [FiS.wdF] at hwd
 obtain ⟨_, hs, _, hpl, hwl⟩ := hwd
 have HWD := hZ9 (FiS.wdL_iff.1 hwl)
 clear hwl
 have hown := fun w h => hown w h (by show an.length <= _; omega)
 have HT := hZ9 (fun j (hj : j < ps.length) => FiS.allL_take hj)
 have HN := hZ9 (fun j (hj : j < ps.length) (h : FiS.allS (ps[j]'hj) = false) => FiS.allL_not hj h)
 have HALL : Hid (ps.take ps.length = ps) := hZ9 (List.take_length)
 have HFD : Hid (FiS.allS (.mk kd at0 vl fs ls an ps) = (FiS.bareS (.mk kd at0 vl fs ls an ps) && FiS.allL ps)) := hZ9 (by rw [FiS.allS])
 obtain ⟨AL, hAL⟩ : ∃ m, an.length = m := ⟨_, rfl⟩
 obtain ⟨PL, hPL⟩ : ∃ m, ps.length = m := ⟨_, rfl⟩
 have HAL := hZ9 hAL
 have HPL := hZ9 hPL
 rw [hAL] at hss
 rw [hPL] at hc6 hps
 obtain ⟨R, hR⟩ : ∃ b, FiS.allS (.mk kd at0 vl fs ls an ps) = b := ⟨_, rfl⟩
 obtain ⟨B, hB⟩ : ∃ b, FiS.bareS (.mk kd at0 vl fs ls an ps) = b := ⟨_, rfl⟩
 rw [hR, hB] at HFD
 rw [hR]
 rw [hB] at hown
 clear hB hR
 have hg0 := grow1 w (.cells #[.int .i64 kd, .string ⟨at0.toArray⟩, .string ⟨vl.toArray⟩, .string ⟨fs.toArray⟩, .string ⟨ls.toArray⟩, .slice a5 AL c5, .slice a6 PL c6] 25)
 have hw0 := Whole.made w 25 #[.int .i64 kd, .string ⟨at0.toArray⟩, .string ⟨vl.toArray⟩, .string ⟨fs.toArray⟩, .string ⟨ls.toArray⟩, .slice a5 AL c5, .slice a6 PL c6]
 have hfi : FiIn n w (.agg #[.int .i64 kd, .string ⟨at0.toArray⟩, .string ⟨vl.toArray⟩, .string ⟨fs.toArray⟩, .string ⟨ls.toArray⟩, .slice a5 AL c5, .slice a6 PL c6]) (.mk kd at0 vl fs ls an ps) := by rw [hAL, hPL] at h; exact h
 rw [hAL, hPL] at hown ⊢
 have hown := hown _ (hfi.call hg0)
 have HAT := hZ9 (fun j (hj : j < ps.length) => FisP.at hps j hj)
 rw [hPL] at HALL
 obtain ⟨q0, q1, q2, q3, q4, q5, q6⟩ := hw0.seven
 have HWHO := hZ9 hw0
 clear h hss hps hAL hPL HAL hfi hw0
 cases B with
 | false =>
  have HR : Hid (R = false) := hZ9 (by rw [HFD.out]; simp)
  clear HFD IH
  go_enter Tryz.func32, Tryz.ntmps32
  go_wp2_with fail
  refine hown.mono ?_; rintro e w2 ⟨rfl, hb2⟩
  go_wp2_with fail
  go_ret
  exact ⟨by (rw [HR.out]) <;> rfl, hg0.trans (hb2.mono hg0.size)⟩
 | true =>
  go_enter Tryz.func32, Tryz.ntmps32
  go_wp2_with fail
  refine hown.mono ?_; rintro e w2 ⟨rfl, hb2⟩
  have hz2 := hg0.trans (hb2.mono hg0.size)
  clear q0 q1 q2 q3 q4 q5 q6
  have hw2 := HWHO.out.call hb2
  obtain ⟨q0, q1, q2, q3, q4, q5, q6⟩ := hw2.seven
  clear hown
  go_wp2_with fail
  go_loopw [10] (fun i wr => ∃ j : Nat, j <= PL /\ i = .int .i64 j /\ Hid (FiS.allL (ps.take j) = true) /\ Whole wr w.heap.size 25 #[.int .i64 kd, .string ⟨at0.toArray⟩, .string ⟨vl.toArray⟩, .string ⟨fs.toArray⟩, .string ⟨ls.toArray⟩, .slice a5 AL c5, .slice a6 PL c6] /\ Below w.heap.size w wr) (fun i _ => PL - (intOf i).toNat)
  case atStart => exact ⟨0, Nat.zero_le _, rfl, hZ9 (by simp [FiS.allL]), hw2, hz2⟩
  case round =>
   obtain ⟨j, hj, rfl, HA, hw, hb⟩ := hrel
   clear hg0 hz2 hb2 hw2 q0 q1 q2 q3 q4 q5 q6 HWHO
   by_cases hlt : j < PL
   · have hlt2 : j < ps.length := by rw [HPL.out]; exact hlt
     have hj39 : j <= 20000 := by have := HPL.out; omega
     have HB := hZ9 (fun h => HN.out j hlt2 h)
     have HS := hZ9 (HT.out j hlt2)
     have hwp := HWD.out j hlt2
     obtain ⟨d, rfl, g, o, rfl, hg, b5, d5, b6, d6, hin, y0, y1, y2, y3, y4, y5, y6⟩ := HAT.out j hlt2
     have hin := hin.call hb
     have y0 := (hb.cell (p := ⟨g, o + j * 7, none⟩) hg).trans y0
     have y1 := (hb.cell (p := ⟨g, o + j * 7 + 1, none⟩) hg).trans y1
     have y2 := (hb.cell (p := ⟨g, o + j * 7 + 2, none⟩) hg).trans y2
     have y3 := (hb.cell (p := ⟨g, o + j * 7 + 3, none⟩) hg).trans y3
     have y4 := (hb.cell (p := ⟨g, o + j * 7 + 4, none⟩) hg).trans y4
     have y5 := (hb.cell (p := ⟨g, o + j * 7 + 5, none⟩) hg).trans y5
     have y6 := (hb.cell (p := ⟨g, o + j * 7 + 6, none⟩) hg).trans y6
     have hrec := fun v W h => IH d rfl (ps[j]'hlt2) v W h hwp
     clear IH HAT HN HT HWD
     generalize ps[j] = p at *
     generalize p.any.length = PA at *
     generalize p.parts.length = PP at *
     have hl0 : (0 : Int) <= (j : Int) := by omega
     have hl1 : (j : Int) < (PL : Int) := by omega
     have hc := hrec _ _ hin
     clear hrec hin hwp
     obtain ⟨q0, q1, q2, q3, q4, q5, q6⟩ := hw.seven
     cases hq : FiS.allS p with
     | true =>
      have HA2 : Hid (FiS.allL (ps.take (j + 1)) = true) := hZ9 (by rw [HS.out, HA.out, hq]; rfl)
      rw [hq] at hc
      clear hq HS HB HA
      go_wp2_with fail
      refine hc.mono ?_; rintro e w2 ⟨rfl, hb2⟩
      have hw2 := hw.call hb2
      clear q0 q1 q2 q3 q4 q5 q6
      go_wp2_with fail
      go_roundw
      case rel => exact ⟨j + 1, by omega, by go_num, HA2, hw2, hb.trans (hb2.mono hb.size)⟩
      case measure => simp [intOf]; omega
     | false =>
      have HR : Hid (R = false) := hZ9 (by rw [HFD.out, Bool.true_and]; exact HB.out hq)
      rw [hq] at hc
      clear hq HS HB HA HFD
      go_wp2_with fail
      refine hc.mono ?_; rintro e w2 ⟨rfl, hb2⟩
      go_wp2_with fail
      go_ret
      exact ⟨by (rw [HR.out]) <;> rfl, hb.trans (hb2.mono hb.size)⟩
   · have HR : Hid (R = true) := hZ9 (by
      have h1 := HA.out
      rw [show j = PL by omega, HALL.out] at h1
      rw [HFD.out, h1]; rfl)
     clear IH HAT HN HT HWD HA HFD
     go_wp2_with fail
     go_ret
     exact ⟨by (rw [HR.out]) <;> rfl, hb⟩)
theorem refflFormed_c (n : Nat) (x : Fi) (v : Value) (w : World) (h : FiIn n w v x) (hwd : FiS.wdF 20000 x) : Calls Tryz.prog 16 #[v] w (BoolR (FiS.formedS x) w) := by
 have hn := fun W h => refnodes_c n x v W h
 have hd := fun W h => deep_c n x v W 20 20 h hwd (by omega) rfl
 have ha := fun W h => all_c n x v W h hwd
 unfold BoolR at *
 have HR : Hid (FiS.formedS x = (decide (FiS.nodes x <= 40) && (decide (FiS.depth x <= 20) && FiS.allS x))) := hZ9 rfl
 generalize FiS.formedS x = R at *
 generalize FiS.nodes x = N at *
 generalize FiS.depth x = D at *
 generalize FiS.allS x = B at *
 obtain ⟨a5, c5, a6, c6, hv, hss, hc6, hps⟩ := FiV.parts h
 generalize x.any.length = AL at *
 generalize x.parts.length = PL at *
 generalize x.kind = kd at *
 generalize x.attr = at0 at *
 generalize x.value = vl at *
 generalize x.first = fs at *
 generalize x.last = ls at *
 subst hv
 have hg0 := grow1 w (.cells #[.int .i64 kd, .string ⟨at0.toArray⟩, .string ⟨vl.toArray⟩, .string ⟨fs.toArray⟩, .string ⟨ls.toArray⟩, .slice a5 AL c5, .slice a6 PL c6] 25)
 have hw0 := Whole.made w 25 #[.int .i64 kd, .string ⟨at0.toArray⟩, .string ⟨vl.toArray⟩, .string ⟨fs.toArray⟩, .string ⟨ls.toArray⟩, .slice a5 AL c5, .slice a6 PL c6]
 obtain ⟨q0, q1, q2, q3, q4, q5, q6⟩ := hw0.seven
 have hn1 := hn _ (h.call hg0)
 obtain ⟨M, hM⟩ : ∃ m, min N 41 = m := ⟨_, rfl⟩
 rw [hM] at hn1
 obtain ⟨E, hE⟩ : ∃ m, min D (20 + 1) = m := ⟨_, rfl⟩
 rw [hE] at hd
 clear hss hps hn
 go_enter Tryz.func16, Tryz.ntmps16
 go_wp2_with fail
 refine hn1.mono ?_; rintro e w2 ⟨rfl, hb2⟩
 have hz2 := hg0.trans (hb2.mono hg0.size)
 have hd1 := hd _ (h.call hz2)
 clear q0 q1 q2 q3 q4 q5 q6 hn1 hd
 have hw2 := hw0.call hb2
 obtain ⟨q0, q1, q2, q3, q4, q5, q6⟩ := hw2.seven
 clear hw0
 by_cases hN : M <= 40
 · have hi : decide ((M : Int) <= 40) = true := decide_eq_true (by omega)
   have HR2 : Hid (R = (decide (D <= 20) && B)) := hZ9 (by rw [HR.out, decide_eq_true (p := N <= 40) (by omega), Bool.true_and])
   clear HR hM
   go_wp2_with fail
   refine hd1.mono ?_; rintro e w3 ⟨rfl, hb3⟩
   have hz3 := hz2.trans (hb3.mono hz2.size)
   have ha1 := ha _ (h.call hz3)
   clear q0 q1 q2 q3 q4 q5 q6 hd1 ha h
   have hw3 := hw2.call hb3
   obtain ⟨q0, q1, q2, q3, q4, q5, q6⟩ := hw3.seven
   by_cases hD : E <= 20
   · have hi2 : decide ((E : Int) <= 20) = true := decide_eq_true (by omega)
     have HR3 : Hid (R = B) := hZ9 (by rw [HR2.out, decide_eq_true (by omega), Bool.true_and])
     clear HR2 hE
     go_wp2_with fail
     refine ha1.mono ?_; rintro e w4 ⟨rfl, hb4⟩
     go_wp2_with fail
     go_ret
     exact ⟨by (rw [HR3.out]) <;> rfl, hz3.trans (hb4.mono hz3.size)⟩
   · have hi2 : decide ((E : Int) <= 20) = false := decide_eq_false (by omega)
     have HR3 : Hid (R = false) := hZ9 (by rw [HR2.out, decide_eq_false (by omega), Bool.false_and])
     clear HR2 hE
     go_wp2_with fail
     go_ret
     exact ⟨by (rw [HR3.out]) <;> rfl, hz3⟩
 · have hi : decide ((M : Int) <= 40) = false := decide_eq_false (by omega)
   have HR2 : Hid (R = false) := hZ9 (by rw [HR.out, decide_eq_false (p := N <= 40) (by omega), Bool.false_and])
   clear HR hM hE
   go_wp2_with fail
   go_ret
   exact ⟨by (rw [HR2.out]) <;> rfl, hz2⟩
def FlSmallR (x : Fi) (d lf : Nat) (w : World) (e : Ending) (w' : World) : Prop := ∃ r : Int, e = .returned (.int .i64 r) /\ -1 <= r /\ r <= 60 /\ Hid (0 <= r -> FiS.wdF 2000 x /\ d + FiS.depth x <= 41 /\ r + FiS.nodes x = lf) /\ Below w.heap.size w w'
def FlSmallC (n : Nat) : Prop := ∀ (x : Fi) (v : Value) (w : World) (d lf : Nat) (di li : Int), FiIn n w v x -> d <= 41 -> lf <= 60 -> di = (d : Int) -> li = (lf : Int) -> Calls Tryz.prog 23 #[v, .int .i64 di, .int .i64 li] w (FlSmallR x d lf w)
def SmT (ps : List Fi) (d lf j : Nat) (r : Int) : Prop := 0 <= r -> (∀ i (hi : i < ps.length), i < j -> FiS.wdF 2000 (ps[i]'hi)) /\ d + 1 + FiS.depthL (ps.take j) <= 41 /\ r + 1 + FiS.nodesL (ps.take j) = lf
theorem SmT.step {ps : List Fi} {d lf j m : Nat} {r r2 : Int} (hj : j < ps.length) (hm : (m : Int) = r) (h : SmT ps d lf j r) (h2 : 0 <= r2 -> FiS.wdF 2000 (ps[j]'hj) /\ d + 1 + FiS.depth (ps[j]'hj) <= 41 /\ r2 + FiS.nodes (ps[j]'hj) = m) : SmT ps d lf (j + 1) r2 := by
 intro hr
 obtain ⟨h3, h4, h5⟩ := h2 hr
 obtain ⟨h6, h7, h8⟩ := h (by omega)
 refine ⟨fun i hi hij => ?_, ?_, ?_⟩
 · by_cases e : i = j
   · subst e; exact h3
   · exact h6 i hi (by omega)
 · rw [FiS.depthL_take hj]; omega
 · rw [FiS.nodesL_take hj]; omega
theorem flsmall_c : ∀ n, FlSmallC n := deep_ind (fun n IH => by
 unfold FlSmallC FlSmallR at *
 intro x v w D lf di li h hD hlf hdi hli
 obtain ⟨kd, at0, vl, fs, ls, an, ps⟩ := x
 obtain ⟨a5, c5, a6, c6, hv, hss, hc6, hps⟩ := FiV.parts h
 have hv : v = .agg #[.int .i64 kd, .string ⟨at0.toArray⟩, .string ⟨vl.toArray⟩, .string ⟨fs.toArray⟩, .string ⟨ls.toArray⟩, .slice a5 an.length c5, .slice a6 ps.length c6] := hv
 subst hv
 have hss : StrsIn w (.slice a5 an.length c5) an := hss
 have hc6 : ps.length <= c6 := hc6
 have hps : FisP n (fun _ => True) w (.slice a6 ps.length c6) ps := hps
 have HSTEP := hZ9 (fun j (hj : j < ps.length) (m : Nat) (r r2 : Int) (hm : (m : Int) = r) (h : SmT ps D lf j r) h2 => SmT.step (r2 := r2) hj hm h h2)
 have HNIL : Hid (∀ r : Int, D <= 40 -> r + 1 = lf -> SmT ps D lf 0 r) := hZ9 (fun r h1 h2 h3 => ⟨fun i hi h => by omega, by simp [FiS.depthL]; omega, by simp [FiS.nodesL]; omega⟩)
 have HGE := hZ9 (fun j (hj : j <= ps.length) => FiS.nodesL_at hj)
 have HALL : Hid (ps.take ps.length = ps) := hZ9 (List.take_length)
 have HLL : Hid (ps.length <= FiS.nodesL ps) := hZ9 (FiS.nodesL_ge ps)
 have HSM : Hid (∀ r : Int, SmT ps D lf ps.length r -> (at0.length <= 2000 /\ vl.length <= 2000 /\ fs.length <= 2000 /\ ls.length <= 2000) -> an.length <= 2000 -> (∀ t ∈ an, t.length <= 2000) -> 0 <= r -> FiS.wdF 2000 (.mk kd at0 vl fs ls an ps) /\ D + FiS.depth (.mk kd at0 vl fs ls an ps) <= 41 /\ r + FiS.nodes (.mk kd at0 vl fs ls an ps) = lf) := hZ9 (fun r h1 h2 h3 h4 h5 => by
  obtain ⟨h6, h7, h8⟩ := h1 h5
  rw [HALL.out] at h7 h8
  rw [FiS.wdF, FiS.depth, FiS.nodes]
  have := HLL.out
  exact ⟨⟨h2, h3, h4, by omega, FiS.wdL_iff.2 (fun i hi => h6 i hi hi)⟩, by omega, by omega⟩)
 obtain ⟨AL, hAL⟩ : ∃ m, an.length = m := ⟨_, rfl⟩
 obtain ⟨PL, hPL⟩ : ∃ m, ps.length = m := ⟨_, rfl⟩
 have HAL := hZ9 hAL
 have HPL := hZ9 hPL
 rw [hAL] at hss
 rw [hPL] at hc6 hps
 try rw [hAL]
 try rw [hPL]
 have hg0 := grow1 w (.cells #[.int .i64 kd, .string ⟨at0.toArray⟩, .string ⟨vl.toArray⟩, .string ⟨fs.toArray⟩, .string ⟨ls.toArray⟩, .slice a5 AL c5, .slice a6 PL c6] 25)
 have hw0 := Whole.made w 25 #[.int .i64 kd, .string ⟨at0.toArray⟩, .string ⟨vl.toArray⟩, .string ⟨fs.toArray⟩, .string ⟨ls.toArray⟩, .slice a5 AL c5, .slice a6 PL c6]
 have HAT := hZ9 (fun j (hj : j < ps.length) => FisP.at hps j hj)
 obtain ⟨a', c', e, hcc, hsc⟩ := SliceP.at (hss.strsP (fun _ => True) (fun _ _ => trivial))
 injection e with e1 e2 e3
 rw [<- e1] at hsc
 have HSC := hZ9 hsc
 clear hsc hss e1 e2 e3 hcc
 obtain ⟨GOAL, hG⟩ : ∃ G : Int -> Prop, G = fun r : Int => 0 <= r -> FiS.wdF 2000 (.mk kd at0 vl fs ls an ps) /\ D + FiS.depth (.mk kd at0 vl fs ls an ps) <= 41 /\ r + FiS.nodes (.mk kd at0 vl fs ls an ps) = lf := ⟨_, rfl⟩
 have HGO : Hid (∀ r : Int, (0 <= r -> FiS.wdF 2000 (.mk kd at0 vl fs ls an ps) /\ D + FiS.depth (.mk kd at0 vl fs ls an ps) <= 41 /\ r + FiS.nodes (.mk kd at0 vl fs ls an ps) = lf) -> GOAL r) := hZ9 (fun r h => by rw [hG]; exact h)
 have HNEG : Hid (GOAL (-1)) := hZ9 (by rw [hG]; intro h; omega)
 suffices hS : Calls Tryz.prog 23 #[.agg #[.int .i64 kd, .string ⟨at0.toArray⟩, .string ⟨vl.toArray⟩, .string ⟨fs.toArray⟩, .string ⟨ls.toArray⟩, .slice a5 AL c5, .slice a6 PL c6], .int .i64 di, .int .i64 li] w fun e w' => ∃ r : Int, e = .returned (.int .i64 r) /\ -1 <= r /\ r <= 60 /\ Hid (GOAL r) /\ Below w.heap.size w w' by
  rw [hG] at hS; exact hS
 clear hG
 rw [hAL, hPL] at HSM
 obtain ⟨q0, q1, q2, q3, q4, q5, q6⟩ := hw0.seven
 clear h hps hAL hPL
 have g1 : decide ((40 : Int) < di) = decide (40 < D) := decide_eq_decide.2 (by omega)
 have hdl : 0 <= di /\ di <= 41 /\ 0 <= li /\ li <= 60 := by omega
 have HDI := hZ9 hdi
 have HLI := hZ9 hli
 clear hdi hli
 by_cases k0 : 40 < D
 · rw [decide_eq_true k0] at g1
   clear IH HAT HSC HSM HSTEP HNIL HGO
   go_enter Tryz.func23, Tryz.ntmps23
   go_wp2_with fail
   go_ret
   exact ⟨-1, by rfl, by omega, by omega, HNEG, hg0⟩
 rw [decide_eq_false k0] at g1
 have g2 : decide ((100 : Int) < (AL : Int)) = decide (100 < AL) := decide_eq_decide.2 (by omega)
 by_cases k1 : 100 < AL
 · rw [decide_eq_true k1] at g2
   clear IH HAT HSC HSM HSTEP HNIL HGO
   go_enter Tryz.func23, Tryz.ntmps23
   go_wp2_with fail
   go_ret
   exact ⟨-1, by rfl, by omega, by omega, HNEG, hg0⟩
 rw [decide_eq_false k1] at g2
 have g3 : decide ((2000 : Int) < (vl.length : Int)) = decide (2000 < vl.length) := decide_eq_decide.2 (by omega)
 by_cases k2 : 2000 < vl.length
 · rw [decide_eq_true k2] at g3
   clear IH HAT HSC HSM HSTEP HNIL HGO
   go_enter Tryz.func23, Tryz.ntmps23
   go_wp2_with fail
   go_ret
   exact ⟨-1, by rfl, by omega, by omega, HNEG, hg0⟩
 rw [decide_eq_false k2] at g3
 have g4 : decide ((2000 : Int) < (at0.length : Int)) = decide (2000 < at0.length) := decide_eq_decide.2 (by omega)
 by_cases k3 : 2000 < at0.length
 · rw [decide_eq_true k3] at g4
   clear IH HAT HSC HSM HSTEP HNIL HGO
   go_enter Tryz.func23, Tryz.ntmps23
   go_wp2_with fail
   go_ret
   exact ⟨-1, by rfl, by omega, by omega, HNEG, hg0⟩
 rw [decide_eq_false k3] at g4
 have g5 : decide ((2000 : Int) < (fs.length : Int)) = decide (2000 < fs.length) := decide_eq_decide.2 (by omega)
 by_cases k4 : 2000 < fs.length
 · rw [decide_eq_true k4] at g5
   clear IH HAT HSC HSM HSTEP HNIL HGO
   go_enter Tryz.func23, Tryz.ntmps23
   go_wp2_with fail
   go_ret
   exact ⟨-1, by rfl, by omega, by omega, HNEG, hg0⟩
 rw [decide_eq_false k4] at g5
 have g6 : decide ((2000 : Int) < (ls.length : Int)) = decide (2000 < ls.length) := decide_eq_decide.2 (by omega)
 by_cases k5 : 2000 < ls.length
 · rw [decide_eq_true k5] at g6
   clear IH HAT HSC HSM HSTEP HNIL HGO
   go_enter Tryz.func23, Tryz.ntmps23
   go_wp2_with fail
   go_ret
   exact ⟨-1, by rfl, by omega, by omega, HNEG, hg0⟩
 rw [decide_eq_false k5] at g6
 have HSM2 : Hid (∀ r : Int, SmT ps D lf PL r -> (∀ t ∈ an, t.length <= 2000) -> GOAL r) := hZ9 (fun r h1 h2 => HGO.out r (HSM.out r h1 ⟨by omega, by omega, by omega, by omega⟩ (by omega) h2))
 clear HSM HGO
 go_enter Tryz.func23, Tryz.ntmps23
 go_wp2_with fail
 clear g1 g2 g3 g4 g5 g6
 go_loopw [44] (fun i wr => ∃ j : Nat, j <= AL /\ i = .int .i64 j /\ Hid (∀ i (hi : i < an.length), i < j -> (an[i]'hi).length <= 2000) /\ w.alloc (.cells #[.int .i64 kd, .string ⟨at0.toArray⟩, .string ⟨vl.toArray⟩, .string ⟨fs.toArray⟩, .string ⟨ls.toArray⟩, .slice a5 AL c5, .slice a6 PL c6] 25) = wr) (fun i _ => AL - (intOf i).toNat)
 case atStart => exact ⟨0, Nat.zero_le _, rfl, hZ9 (fun i hi h => by omega), rfl⟩
 case round =>
  obtain ⟨j, hj, rfl, HA, rfl⟩ := hrel
  by_cases hlt : j < AL
  · have hlt2 : j < an.length := by rw [HAL.out]; exact hlt
    have HA3 := hZ9 HA.out
    obtain ⟨g, o, hae, hg, _, hra⟩ := HSC.out j hlt2
    have hcj : (w.alloc (.cells #[.int .i64 kd, .string ⟨at0.toArray⟩, .string ⟨vl.toArray⟩, .string ⟨fs.toArray⟩, .string ⟨ls.toArray⟩, .slice a5 AL c5, .slice a6 PL c6] 25)).cell? ⟨g, o + j, none⟩ = some (strV an[j]) := by
     have : w.cell? ⟨g, o + j * 1, none⟩ = some (strV an[j]) := hra
     rw [Nat.mul_one] at this
     exact keepC this hg0
    clear hra HSC IH HAT HSTEP HNIL HSM2
    subst hae
    have HSL : Hid ((an[j]'hlt2).length <= 2000 -> ∀ i (hi : i < an.length), i < j + 1 -> (an[i]'hi).length <= 2000) := hZ9 (fun h i hi hij => by
     by_cases e : i = j
     · subst e; exact h
     · exact HA.out i hi (by omega))
    generalize an[j] = s at *
    unfold strV at hcj
    have hl0 : (0 : Int) <= (j : Int) := by omega
    have hl1 : (j : Int) < (AL : Int) := by omega
    by_cases hs : 2000 < s.length
    · have g1 : decide ((2000 : Int) < (s.length : Int)) = true := decide_eq_true (by omega)
      go_wp2_with fail
      go_ret
      exact ⟨-1, by rfl, by omega, by omega, HNEG, hg0⟩
    · have g1 : decide ((2000 : Int) < (s.length : Int)) = false := decide_eq_false (by omega)
      have HA2 := hZ9 (HSL.out (by omega))
      clear HSL HA HA3
      go_wp2_with fail
      go_roundw
      case rel => exact ⟨j + 1, by omega, by go_num, HA2, by first | rfl | trivial⟩
      case measure => simp [intOf]; omega
  · have HSM3 : Hid (∀ r : Int, SmT ps D lf PL r -> GOAL r) := hZ9 (fun r h => HSM2.out r h (fun t ht => by
     obtain ⟨i, hi, rfl⟩ := List.getElem_of_mem ht
     exact HA.out i hi (by rw [HAL.out] at hi; omega)))
    clear HSM2 HA HSC HAL
    go_wp2_with fail
    go_loopw [2, 60] (fun lv i wr => ∃ (j : Nat) (r : Int), j <= PL /\ i = .int .i64 j /\ lv = .int .i64 r /\ -1 <= r /\ r <= 60 /\ Hid (SmT ps D lf j r) /\ Whole wr w.heap.size 25 #[.int .i64 kd, .string ⟨at0.toArray⟩, .string ⟨vl.toArray⟩, .string ⟨fs.toArray⟩, .string ⟨ls.toArray⟩, .slice a5 AL c5, .slice a6 PL c6] /\ Below w.heap.size w wr) (fun _ i _ => PL - (intOf i).toNat)
    case atStart => exact ⟨0, li - 1, Nat.zero_le _, rfl, by first | rfl | go_num, by omega, by omega, hZ9 (HNIL.out _ (by omega) (by have := HLI.out; omega)), hw0, hg0⟩
    case round =>
     obtain ⟨j, r, hj, rfl, rfl, hr1, hr2, HM, hw, hb⟩ := hrel
     clear hw0 hg0 q0 q1 q2 q3 q4 q5 q6
     by_cases hlt : j < PL
     · by_cases hneg : r < 0
       · have g1 : decide (r < 0) = true := decide_eq_true hneg
         clear IH HAT HSTEP HNIL HSM3 HM
         go_wp2_with fail
         go_ret
         exact ⟨-1, by rfl, by omega, by omega, HNEG, hb⟩
       have g1 : decide (r < 0) = false := decide_eq_false hneg
       have hlt2 : j < ps.length := by rw [HPL.out]; exact hlt
       have hge := HGE.out j (Nat.le_of_lt hlt2)
       have hj39 : j <= 60 := by have := (HM.out (by omega)).2.2; omega
       obtain ⟨m, hm⟩ : ∃ m : Nat, (m : Int) = r := ⟨r.toNat, by omega⟩
       have HS := hZ9 (fun r2 h2 => HSTEP.out j hlt2 m r r2 hm HM.out h2)
       clear hge HGE
       obtain ⟨d, rfl, g, o, rfl, hg, b5, d5, b6, d6, hin, y0, y1, y2, y3, y4, y5, y6⟩ := HAT.out j hlt2
       have hin := hin.call hb
       have y0 := (hb.cell (p := ⟨g, o + j * 7, none⟩) hg).trans y0
       have y1 := (hb.cell (p := ⟨g, o + j * 7 + 1, none⟩) hg).trans y1
       have y2 := (hb.cell (p := ⟨g, o + j * 7 + 2, none⟩) hg).trans y2
       have y3 := (hb.cell (p := ⟨g, o + j * 7 + 3, none⟩) hg).trans y3
       have y4 := (hb.cell (p := ⟨g, o + j * 7 + 4, none⟩) hg).trans y4
       have y5 := (hb.cell (p := ⟨g, o + j * 7 + 5, none⟩) hg).trans y5
       have y6 := (hb.cell (p := ⟨g, o + j * 7 + 6, none⟩) hg).trans y6
       have hrec := fun v W h => IH d rfl (ps[j]'hlt2) v W (D + 1) m (di + 1) r h (by omega) (by omega) (by have := HDI.out; omega) hm.symm
       clear IH HAT HSTEP HNIL HM
       clear hm
       generalize ps[j] = p at *
       generalize p.any.length = PA at *
       generalize p.parts.length = PP at *
       have hl0 : (0 : Int) <= (j : Int) := by omega
       have hl1 : (j : Int) < (PL : Int) := by omega
       have hc := hrec _ _ hin
       clear hrec hin
       obtain ⟨q0, q1, q2, q3, q4, q5, q6⟩ := hw.seven
       go_wp2_with fail
       refine hc.mono ?_; rintro e w2 ⟨r2, rfl, hr3, hr4, HRR, hb2⟩
       have hz2 := hb.trans (hb2.mono hb.size)
       have hw2 := hw.call hb2
       have HM2 := hZ9 (HS.out r2 HRR.out)
       clear hc q0 q1 q2 q3 q4 q5 q6 HS HRR
       go_wp2_with fail
       go_roundw
       case rel => exact ⟨j + 1, r2, by omega, by go_num, rfl, hr3, hr4, HM2, hw2, hz2⟩
       case measure => simp [intOf]; omega
     · have hjl : j = PL := by omega
       subst hjl
       have HRR := hZ9 (HSM3.out r HM.out)
       clear IH HAT HSTEP HNIL HSM3 HM HGE
       go_wp2_with fail
       go_ret
       exact ⟨r, rfl, hr1, hr2, HRR, hb⟩)
theorem flSmall_c (n : Nat) (x : Fi) (v : Value) (w : World) (h : FiIn n w v x) : Calls Tryz.prog 8 #[v] w fun e w' => ∃ b, e = .returned (.bool b) /\ Hid (b = true -> FiS.wdF 2000 x /\ FiS.depth x <= 41 /\ FiS.nodes x <= 60) /\ Below w.heap.size w w' := by
 have hn := fun W h => flsmall_c n x v W 0 60 0 60 h (by omega) (by omega) rfl rfl
 unfold FlSmallR at *
 have HR : Hid (∀ r : Int, (0 <= r -> FiS.wdF 2000 x /\ 0 + FiS.depth x <= 41 /\ r + FiS.nodes x = (60 : Nat)) -> decide (0 <= r) = true -> FiS.wdF 2000 x /\ FiS.depth x <= 41 /\ FiS.nodes x <= 60) := hZ9 (fun r h h2 => by
  obtain ⟨h3, h4, h5⟩ := h (of_decide_eq_true h2)
  have := of_decide_eq_true h2
  exact ⟨h3, by omega, by omega⟩)
 obtain ⟨a5, c5, a6, c6, hv, hss, hc6, hps⟩ := FiV.parts h
 generalize x.any.length = AL at *
 generalize x.parts.length = PL at *
 generalize x.kind = kd at *
 generalize x.attr = at0 at *
 generalize x.value = vl at *
 generalize x.first = fs at *
 generalize x.last = ls at *
 subst hv
 have hg0 := grow1 w (.cells #[.int .i64 kd, .string ⟨at0.toArray⟩, .string ⟨vl.toArray⟩, .string ⟨fs.toArray⟩, .string ⟨ls.toArray⟩, .slice a5 AL c5, .slice a6 PL c6] 25)
 have hw0 := Whole.made w 25 #[.int .i64 kd, .string ⟨at0.toArray⟩, .string ⟨vl.toArray⟩, .string ⟨fs.toArray⟩, .string ⟨ls.toArray⟩, .slice a5 AL c5, .slice a6 PL c6]
 obtain ⟨q0, q1, q2, q3, q4, q5, q6⟩ := hw0.seven
 have hn1 := hn _ (h.call hg0)
 clear hss hps hn
 go_enter Tryz.func8, Tryz.ntmps8
 go_wp2_with fail
 refine hn1.mono ?_; rintro e w2 ⟨r, rfl, hr1, hr2, HRR, hb2⟩
 have hz2 := hg0.trans (hb2.mono hg0.size)
 have HF := hZ9 (HR.out r HRR.out)
 clear HR HRR hn1
 go_wp2_with fail
 go_ret
 exact ⟨_, rfl, HF, hz2⟩
end
end Go.Proofs.YtjmfknfponjgkaaGreatDoor
