/- The walks of Small, and of what makes a filter formed (the program's, the document's). Conditions: those that each theorem states. -/
import Derived.Test.YtjmfknfponjgkaaGreatDoorQFib
import Derived.Test.YtjmfknfponjgkaaGreatDoorQFid
namespace Go.Proofs.YtjmfknfponjgkaaGreatDoor
namespace FiS
mutual
/-- no text and no row in it is longer than n -/
def wdF (n : Nat) : Fi → Prop
  | .mk _ a v f l s ps => (a.length ≤ n ∧ v.length ≤ n ∧ f.length ≤ n ∧ l.length ≤ n) ∧ s.length ≤ n ∧ (∀ t ∈ s, t.length ≤ n) ∧ ps.length ≤ n ∧ wdL n ps
def wdL (n : Nat) : List Fi → Prop
  | [] => True
  | p :: r => wdF n p ∧ wdL n r
end
mutual
theorem wdF_mono {n m : Nat} (hnm : n ≤ m) : ∀ x : Fi, wdF n x → wdF m x
  | .mk k a v f l s ps, h => by
    rw [wdF] at h ⊢
    obtain ⟨⟨h1, h2, h3, h4⟩, h5, h6, h7, h8⟩ := h
    exact ⟨⟨by omega, by omega, by omega, by omega⟩, by omega, fun t ht => Nat.le_trans (h6 t ht) hnm, by omega, wdL_mono hnm ps h8⟩
theorem wdL_mono {n m : Nat} (hnm : n ≤ m) : ∀ l : List Fi, wdL n l → wdL m l
  | [], _ => by rw [wdL]; trivial
  | p :: r, h => by
    rw [wdL] at h ⊢
    exact ⟨wdF_mono hnm p h.1, wdL_mono hnm r h.2⟩
end
theorem wdL_iff {n : Nat} : ∀ {l : List Fi}, wdL n l ↔ ∀ j (hj : j < l.length), wdF n (l[j]'hj)
  | [] => ⟨fun _ j hj => by simp at hj, fun _ => by rw [wdL]; trivial⟩
  | p :: r => by
    rw [wdL, wdL_iff (l := r)]
    constructor
    · rintro ⟨h1, h2⟩ j hj
      cases j with
      | zero => exact h1
      | succ j => exact h2 j (by simpa using hj)
    · intro h
      exact ⟨h 0 (by simp), fun j hj => h (j + 1) (by simpa using hj)⟩
theorem allL_take : ∀ {ps : List Fi} {j : Nat} (hj : j < ps.length), allL (ps.take (j + 1)) = (allL (ps.take j) && allS (ps[j]'hj))
  | [], j, hj => by simp at hj
  | p :: r, 0, _ => by
    show (allS p && allL (r.take 0)) = (allL [] && allS p)
    simp [allL]
  | p :: r, j + 1, hj => by
    have ih := allL_take (ps := r) (j := j) (by simpa using hj)
    show (allS p && allL (r.take (j + 1))) = (allS p && allL (r.take j) && allS (r[j]'(by simpa using hj)))
    rw [ih, Bool.and_assoc]
theorem allL_not : ∀ {ps : List Fi} {j : Nat} (hj : j < ps.length), allS (ps[j]'hj) = false → allL ps = false
  | [], j, hj, _ => by simp at hj
  | p :: r, 0, _, h => by
    show (allS p && allL r) = false
    rw [show allS p = false from h]; rfl
  | p :: r, j + 1, hj, h => by
    show (allS p && allL r) = false
    rw [allL_not (ps := r) (j := j) (by simpa using hj) h, Bool.and_false]
theorem depthL_ge : ∀ {ps : List Fi} {j : Nat} (hj : j < ps.length), depth (ps[j]'hj) ≤ depthL ps
  | [], j, hj => by simp at hj
  | p :: r, 0, _ => by show depth p ≤ max (depth p) (depthL r); omega
  | p :: r, j + 1, hj => by
    have := depthL_ge (ps := r) (j := j) (by simpa using hj)
    show depth (r[j]'(by simpa using hj)) ≤ max (depth p) (depthL r)
    omega
/-- is it formed from a depth on? -/
def formD (d : Nat) (x : Fi) : Bool := decide (d + depth x ≤ 21) && allS x
theorem formD_mk {d : Nat} {k : Int} {a v f l : List UInt8} {s : List (List UInt8)} {ps : List Fi} : formD d (.mk k a v f l s ps) = (decide (d ≤ 20 ∧ d + 1 + depthL ps ≤ 21) && (bareS (.mk k a v f l s ps) && allL ps)) := by
  unfold formD
  rw [depth, allS]
  congr 1
  exact decide_eq_decide.2 ⟨fun h => by omega, fun h => by omega⟩
theorem formD_one (x : Fi) : formedS x = (decide (nodes x ≤ 40) && formD 1 x) := by
  unfold formedS formD
  congr 2
  exact decide_eq_decide.2 ⟨fun h => by omega, fun h => by omega⟩
/-- a part that is not formed -/
theorem formD_bad {d : Nat} {ps : List Fi} {j : Nat} (hj : j < ps.length) (h : formD (d + 1) (ps[j]'hj) = false) : (decide (d ≤ 20 ∧ d + 1 + depthL ps ≤ 21) && allL ps) = false := by
  unfold formD at h
  have hd := depthL_ge hj
  cases ha : allS (ps[j]'hj) with
  | false => rw [allL_not hj ha, Bool.and_false]
  | true =>
    rw [ha, Bool.and_true, decide_eq_false_iff_not] at h
    rw [decide_eq_false (by omega), Bool.false_and]
/-- parts that are formed so far -/
def formT (d : Nat) (ps : List Fi) : Prop := d + 1 + depthL ps ≤ 21 ∧ allL ps = true
theorem formT_nil {d : Nat} (h : d ≤ 20) : formT d [] := ⟨by simp [depthL]; omega, rfl⟩
theorem formT_step {d : Nat} {ps : List Fi} {j : Nat} (hj : j < ps.length) (h : formD (d + 1) (ps[j]'hj) = true) (ht : formT d (ps.take j)) : formT d (ps.take (j + 1)) := by
  unfold formD at h
  rw [Bool.and_eq_true, decide_eq_true_eq] at h
  refine ⟨?_, by rw [allL_take hj, ht.2, h.2]; rfl⟩
  rw [depthL_take hj]
  have := ht.1
  omega
end FiS
open Go.RowKit
open FiS (Fi)
attribute [local go_sem ↓] Go.wp_at_zero Go.wp_at_succ

def FormedC (n : Nat) : Prop := ∀ (x : Fi) (v : Value) (w : World) (d : Nat) (di : Int), FiIn n w v x → FiS.wdF 20000 x → d ≤ 21 → di = (d : Int) → Calls Tryz.prog 27 #[v, .int .i64 di] w (BoolR (FiS.formD d x) w)
set_option maxRecDepth 100000 in
set_option maxHeartbeats 2000000 in
theorem flformed_c : ∀ n, FormedC n := deep_ind (fun n IH => by
  unfold FormedC BoolR at *
  intro x v w D di h hwd hD hdi
  have hdi2 : 0 ≤ di ∧ di ≤ 21 := by omega
  have hown := fun w h ha hs => own_c n x v w h ha hs
  unfold BoolR at hown
  obtain ⟨kd, at0, vl, fs, ls, an, ps⟩ := x
  obtain ⟨a5, c5, a6, c6, hv, hss, hc6, hps⟩ := FiV.parts h
  have hv : v = .agg #[.int .i64 kd, .string ⟨at0.toArray⟩, .string ⟨vl.toArray⟩, .string ⟨fs.toArray⟩, .string ⟨ls.toArray⟩, .slice a5 an.length c5, .slice a6 ps.length c6] := hv
  subst hv
  have hss : StrsIn w (.slice a5 an.length c5) an := hss
  have hc6 : ps.length ≤ c6 := hc6
  have hps : FisP n (fun _ => True) w (.slice a6 ps.length c6) ps := hps
  rw [FiS.wdF] at hwd
  obtain ⟨⟨ha, _⟩, hs, _, hpl, hwl⟩ := hwd
  have HWD := Lib.hid (FiS.wdL_iff.1 hwl)
  clear hwl
  have hown := fun w h => hown w h ha (by show an.length ≤ _; omega)
  have HBAD := Lib.hid (fun j (hj : j < ps.length) (h : FiS.formD (D + 1) (ps[j]'hj) = false) => FiS.formD_bad hj h)
  have HSTEP := Lib.hid (fun j (hj : j < ps.length) (h : FiS.formD (D + 1) (ps[j]'hj) = true) (ht : FiS.formT D (ps.take j)) => FiS.formT_step hj h ht)
  have HNIL := Lib.hid (fun h : D ≤ 20 => FiS.formT_nil h)
  have HALL : Hid (ps.take ps.length = ps) := Lib.hid (List.take_length)
  have HTD : Hid (FiS.formT D ps → D + 1 + FiS.depthL ps ≤ 21 ∧ FiS.allL ps = true) := Lib.hid (fun h => h)
  have HFD : Hid (FiS.formD D (.mk kd at0 vl fs ls an ps) = (decide (D ≤ 20 ∧ D + 1 + FiS.depthL ps ≤ 21) && (FiS.bareS (.mk kd at0 vl fs ls an ps) && FiS.allL ps))) := Lib.hid FiS.formD_mk
  obtain ⟨AL, hAL⟩ : ∃ m, an.length = m := ⟨_, rfl⟩
  obtain ⟨PL, hPL⟩ : ∃ m, ps.length = m := ⟨_, rfl⟩
  have HAL := Lib.hid hAL
  have HPL := Lib.hid hPL
  rw [hAL] at hss
  rw [hPL] at hc6 hps
  obtain ⟨R, hR⟩ : ∃ b, FiS.formD D (.mk kd at0 vl fs ls an ps) = b := ⟨_, rfl⟩
  obtain ⟨B, hB⟩ : ∃ b, FiS.bareS (.mk kd at0 vl fs ls an ps) = b := ⟨_, rfl⟩
  rw [hR, hB] at HFD
  rw [hR]
  rw [hB] at hown
  clear hB hR
  have hg0 := grow1 w (.cells #[.int .i64 kd, .string ⟨at0.toArray⟩, .string ⟨vl.toArray⟩, .string ⟨fs.toArray⟩, .string ⟨ls.toArray⟩, .slice a5 AL c5, .slice a6 PL c6] 33)
  have hw0 := Whole.made w 33 #[.int .i64 kd, .string ⟨at0.toArray⟩, .string ⟨vl.toArray⟩, .string ⟨fs.toArray⟩, .string ⟨ls.toArray⟩, .slice a5 AL c5, .slice a6 PL c6]
  have hfi : FiIn n w (.agg #[.int .i64 kd, .string ⟨at0.toArray⟩, .string ⟨vl.toArray⟩, .string ⟨fs.toArray⟩, .string ⟨ls.toArray⟩, .slice a5 AL c5, .slice a6 PL c6]) (.mk kd at0 vl fs ls an ps) := by rw [hAL, hPL] at h; exact h
  rw [hAL, hPL] at hown ⊢
  have hown := hown _ (hfi.call hg0)
  have HAT := Lib.hid (fun j (hj : j < ps.length) => FisP.at hps j hj)
  rw [hPL] at HALL
  obtain ⟨q0, q1, q2, q3, q4, q5, q6⟩ := hw0.seven
  have HWHO := Lib.hid hw0
  clear h hss hps hAL hPL HAL hfi hw0
  have hd20 : decide ((20 : Int) < di) = decide (20 < D) := decide_eq_decide.2 (by omega)
  have HDI := Lib.hid hdi
  clear hdi
  by_cases hd : 20 < D
  · rw [decide_eq_true hd] at hd20
    have HR : Hid (R = false) := Lib.hid (by rw [HFD.out, decide_eq_false (by omega), Bool.false_and])
    clear HFD hown IH
    go_enter Tryz.func27, Tryz.ntmps27
    go_wp2_with fail
    go_ret
    exact ⟨by (rw [HR.out]) <;> rfl, hg0⟩
  rw [decide_eq_false hd] at hd20
  cases B with
  | false =>
    have HR : Hid (R = false) := Lib.hid (by rw [HFD.out]; simp)
    clear HFD IH
    go_enter Tryz.func27, Tryz.ntmps27
    go_wp2_with fail
    refine hown.mono ?_; rintro e w2 ⟨rfl, hb2⟩
    go_wp2_with fail
    go_ret
    exact ⟨by (rw [HR.out]) <;> rfl, hg0.trans (hb2.mono hg0.size)⟩
  | true =>
    go_enter Tryz.func27, Tryz.ntmps27
    go_wp2_with fail
    refine hown.mono ?_; rintro e w2 ⟨rfl, hb2⟩
    have hz2 := hg0.trans (hb2.mono hg0.size)
    clear q0 q1 q2 q3 q4 q5 q6
    obtain ⟨q0, q1, q2, q3, q4, q5, q6⟩ := (HWHO.out.call hb2).seven
    clear hown
    go_wp2_with fail
    go_loopw [17] (fun i wr => ∃ j : Nat, j ≤ PL ∧ i = .int .i64 j ∧ Hid (FiS.formT D (ps.take j)) ∧ Below w.heap.size w wr) (fun i _ => PL - (intOf i).toNat)
    case atStart => exact ⟨0, Nat.zero_le _, rfl, Lib.hid (HNIL.out (by omega)), hz2⟩
    case round =>
      obtain ⟨j, hj, rfl, HA, hb⟩ := hrel
      clear hg0 hz2 hb2 q0 q1 q2 q3 q4 q5 q6 HWHO
      by_cases hlt : j < PL
      · have hlt2 : j < ps.length := by rw [HPL.out]; exact hlt
        have hj39 : j ≤ 20000 := by have := HPL.out; omega
        have HB := Lib.hid (fun h => HBAD.out j hlt2 h)
        have HS := Lib.hid (fun h => HSTEP.out j hlt2 h HA.out)
        have hwp := HWD.out j hlt2
        obtain ⟨d, rfl, g, o, rfl, hg, b5, d5, b6, d6, hin, y0, y1, y2, y3, y4, y5, y6⟩ := HAT.out j hlt2
        have hin := hin.call hb
        have y0 := (hb.cell (p := ⟨g, o + j * 7, none⟩) hg).trans y0
        have y1 := (hb.cell (p := ⟨g, o + j * 7 + 1, none⟩) hg).trans y1
        have y2 := (hb.cell (p := ⟨g, o + j * 7 + 2, none⟩) hg).trans y2
        have y3 := (hb.cell (p := ⟨g, o + j * 7 + 3, none⟩) hg).trans y3
        have y4 := (hb.cell (p := ⟨g, o + j * 7 + 4, none⟩) hg).trans y4
        have y5 := (hb.cell (p := ⟨g, o + j * 7 + 5, none⟩) hg).trans y5
        have y6 := (hb.cell (p := ⟨g, o + j * 7 + 6, none⟩) hg).trans y6
        have hrec := fun v W h => IH d rfl (ps[j]'hlt2) v W (D + 1) (di + 1) h hwp (by omega) (by have := HDI.out; omega)
        clear IH HAT HBAD HSTEP HWD
        generalize ps[j] = p at *
        generalize p.any.length = PA at *
        generalize p.parts.length = PP at *
        have hl0 : (0 : Int) ≤ (j : Int) := by omega
        have hl1 : (j : Int) < (PL : Int) := by omega
        have hgX := grow1 wr (.cells #[.int .i64 p.kind, .string ⟨p.attr.toArray⟩, .string ⟨p.value.toArray⟩, .string ⟨p.first.toArray⟩, .string ⟨p.last.toArray⟩, .slice b5 PA d5, .slice b6 PP d6] 33)
        have hwX := Whole.made wr 33 #[.int .i64 p.kind, .string ⟨p.attr.toArray⟩, .string ⟨p.value.toArray⟩, .string ⟨p.first.toArray⟩, .string ⟨p.last.toArray⟩, .slice b5 PA d5, .slice b6 PP d6]
        obtain ⟨x0, x1, x2, x3, x4, x5, x6⟩ := hwX.seven
        have hbX := hb.trans (hgX.mono hb.size)
        have hc := hrec _ _ (hin.call hgX)
        clear hrec hin hwX hwp
        cases hq : FiS.formD (D + 1) p with
        | true =>
          have HA2 := Lib.hid (HS.out hq)
          rw [hq] at hc
          clear hq HS HB HA
          go_wp2_with fail
          refine hc.mono ?_; rintro e w2 ⟨rfl, hb2⟩
          go_wp2_with fail
          go_roundw
          case rel => exact ⟨j + 1, by omega, by go_num, HA2, hbX.trans (hb2.mono hbX.size)⟩
          case measure => simp [intOf]; omega
        | false =>
          have HR : Hid (R = false) := Lib.hid (by rw [HFD.out, Bool.true_and]; exact HB.out hq)
          rw [hq] at hc
          clear hq HS HB HA HFD
          go_wp2_with fail
          refine hc.mono ?_; rintro e w2 ⟨rfl, hb2⟩
          go_wp2_with fail
          go_ret
          exact ⟨by (rw [HR.out]) <;> rfl, hbX.trans (hb2.mono hbX.size)⟩
      · have HR : Hid (R = true) := Lib.hid (by
          have h1 := HA.out
          rw [show j = PL by omega, HALL.out] at h1
          obtain ⟨h2, h3⟩ := HTD.out h1
          rw [HFD.out, decide_eq_true ⟨by omega, h2⟩, h3]; rfl)
        clear IH HAT HBAD HSTEP HWD HA HFD HTD HNIL
        go_wp2_with fail
        go_ret
        exact ⟨by (rw [HR.out]) <;> rfl, hb⟩)
set_option maxRecDepth 100000 in
theorem flFormed_c (n : Nat) (x : Fi) (v : Value) (w : World) (h : FiIn n w v x) (hwd : FiS.wdF 20000 x) : Calls Tryz.prog 13 #[v] w (BoolR (FiS.formedS x) w) := by
  have hn := fun W h => nodes_c n x v W h
  have hf := fun W h => flformed_c n x v W 1 1 h hwd (by omega) rfl
  unfold BoolR at *
  have HR : Hid (FiS.formedS x = (decide (FiS.nodes x ≤ 40) && FiS.formD 1 x)) := Lib.hid (FiS.formD_one x)
  generalize FiS.formedS x = R at *
  generalize FiS.nodes x = N at *
  generalize FiS.formD 1 x = B at *
  obtain ⟨a5, c5, a6, c6, hv, hss, hc6, hps⟩ := FiV.parts h
  generalize x.any.length = AL at *
  generalize x.parts.length = PL at *
  generalize x.kind = kd at *
  generalize x.attr = at0 at *
  generalize x.value = vl at *
  generalize x.first = fs at *
  generalize x.last = ls at *
  subst hv
  have hg0 := grow1 w (.cells #[.int .i64 kd, .string ⟨at0.toArray⟩, .string ⟨vl.toArray⟩, .string ⟨fs.toArray⟩, .string ⟨ls.toArray⟩, .slice a5 AL c5, .slice a6 PL c6] 33)
  have hw0 := Whole.made w 33 #[.int .i64 kd, .string ⟨at0.toArray⟩, .string ⟨vl.toArray⟩, .string ⟨fs.toArray⟩, .string ⟨ls.toArray⟩, .slice a5 AL c5, .slice a6 PL c6]
  obtain ⟨q0, q1, q2, q3, q4, q5, q6⟩ := hw0.seven
  have hn1 := hn _ (h.call hg0)
  obtain ⟨M, hM⟩ : ∃ m, min N 41 = m := ⟨_, rfl⟩
  rw [hM] at hn1
  clear hss hps hn
  go_enter Tryz.func13, Tryz.ntmps13
  go_wp2_with fail
  refine hn1.mono ?_; rintro e w2 ⟨rfl, hb2⟩
  have hz2 := hg0.trans (hb2.mono hg0.size)
  have hf1 := hf _ (h.call hz2)
  clear q0 q1 q2 q3 q4 q5 q6 hn1 h hf
  obtain ⟨q0, q1, q2, q3, q4, q5, q6⟩ := (hw0.call hb2).seven
  clear hw0
  by_cases hN : M ≤ 40
  · have hi : decide ((M : Int) ≤ 40) = true := decide_eq_true (by omega)
    have HR2 : Hid (R = B) := Lib.hid (by rw [HR.out, decide_eq_true (by omega), Bool.true_and])
    clear HR hM
    go_wp2_with fail
    refine hf1.mono ?_; rintro e w3 ⟨rfl, hb3⟩
    go_wp2_with fail
    go_ret
    exact ⟨by (rw [HR2.out]) <;> rfl, hz2.trans (hb3.mono hz2.size)⟩
  · have hi : decide ((M : Int) ≤ 40) = false := decide_eq_false (by omega)
    have HR2 : Hid (R = false) := Lib.hid (by rw [HR.out, decide_eq_false (by omega), Bool.false_and])
    clear HR hM
    go_wp2_with fail
    go_ret
    exact ⟨by (rw [HR2.out]) <;> rfl, hz2⟩
end Go.Proofs.YtjmfknfponjgkaaGreatDoor
