/- The walks of Same, the program's and the document's. Conditions: no text and no row in the filters is longer than 20000. -/
import Derived.Test.YtjmfknfponjgkaaGreatDoorQFie
import Derived.Test.YtjmfknfponjgkaaGreatDoorQDnh
namespace Go.Proofs.YtjmfknfponjgkaaGreatDoor
namespace FiS
mutual
/-- are two filters alike? -/
def sameS : Fi → Fi → Bool
  | .mk k a v f l s ps, .mk k2 a2 v2 f2 l2 s2 qs => decide (k = k2) && (decide (a = a2) && (decide (v = v2) && (decide (f = f2) && (decide (l = l2) && (decide (s = s2) && sameL ps qs)))))
def sameL : List Fi → List Fi → Bool
  | [], [] => true
  | p :: r, q :: t => sameS p q && sameL r t
  | [], _ :: _ => false
  | _ :: _, [] => false
end
theorem sameL_len : ∀ {ps qs : List Fi}, ps.length ≠ qs.length → sameL ps qs = false
  | [], [], h => absurd rfl h
  | p :: r, q :: t, h => by
    rw [sameL, sameL_len (ps := r) (qs := t) (by simpa using h), Bool.and_false]
  | [], _ :: _, _ => by rw [sameL]
  | _ :: _, [], _ => by rw [sameL]
theorem sameL_no : ∀ {ps qs : List Fi} {j : Nat} (hj : j < ps.length) (hk : j < qs.length), sameS (ps[j]'hj) (qs[j]'hk) = false → sameL ps qs = false
  | [], _, j, hj, _, _ => by simp at hj
  | p :: r, [], j, _, hk, _ => by simp at hk
  | p :: r, q :: t, 0, _, _, h => by rw [sameL, show sameS p q = false from h]; rfl
  | p :: r, q :: t, j + 1, hj, hk, h => by
    rw [sameL, sameL_no (ps := r) (qs := t) (j := j) (by simpa using hj) (by simpa using hk) h, Bool.and_false]
theorem sameL_yes : ∀ {ps qs : List Fi}, ps.length = qs.length → (∀ j (hj : j < ps.length) (hk : j < qs.length), sameS (ps[j]'hj) (qs[j]'hk) = true) → sameL ps qs = true
  | [], [], _, _ => by rw [sameL]
  | p :: r, q :: t, hl, h => by
    rw [sameL, show sameS p q = true from h 0 (by simp) (by simp), sameL_yes (ps := r) (qs := t) (by simpa using hl) (fun j hj hk => h (j + 1) (by simpa using hj) (by simpa using hk))]
    rfl
  | [], _ :: _, hl, _ => by simp at hl
  | _ :: _, [], hl, _ => by simp at hl
mutual
theorem sameS_self : ∀ x : Fi, sameS x x = true
  | .mk k a v f l s ps => by
    rw [sameS, sameL_self ps]; simp
theorem sameL_self : ∀ ps : List Fi, sameL ps ps = true
  | [] => by rw [sameL]
  | p :: r => by rw [sameL, sameS_self p, sameL_self r]; rfl
end
end FiS
open Go.RowKit
open FiS (Fi)
attribute [local go_sem ↓] Go.wp_at_zero Go.wp_at_succ
theorem flne_self (l : List UInt8) : (l != l) = false := by simp
def SameC (n : Nat) : Prop := ∀ (x y : Fi) (v u : Value) (w : World) (m : Nat), FiIn n w v x → FiIn m w u y → FiS.wdF 20000 x → FiS.wdF 20000 y → Calls Tryz.prog 19 #[v, u] w (BoolR (FiS.sameS x y) w)
set_option maxRecDepth 100000 in
set_option maxHeartbeats 4000000 in
theorem flequalfunc_c (n : Nat) (IH : ∀ d, n = d + 1 → SameC d) (m : Nat) (ps qs : List Fi) (a6 e6 : Option Addr) (c6 f6 : Nat) (w : World) (hps : FisP n (fun _ => True) w (.slice a6 ps.length c6) ps) (hqs : FisP m (fun _ => True) w (.slice e6 qs.length f6) qs) (hpl : ps.length ≤ 20000) (hql : qs.length ≤ 20000) (hpc : ps.length ≤ c6) (hqc : qs.length ≤ f6) (hw1 : FiS.wdL 20000 ps) (hw2 : FiS.wdL 20000 qs) :
    Calls Tryz.prog 34 #[.slice a6 ps.length c6, .slice e6 qs.length f6, .func (.func 19) #[] #[]] w (BoolR (FiS.sameL ps qs) w) := by
  unfold SameC at IH
  unfold BoolR at *
  have HAT := Lib.hid (fun j (hj : j < ps.length) => FisP.at hps j hj)
  have HBT := Lib.hid (fun j (hj : j < qs.length) => FisP.at hqs j hj)
  have HW1 := Lib.hid (FiS.wdL_iff.1 hw1)
  have HW2 := Lib.hid (FiS.wdL_iff.1 hw2)
  have HNO := Lib.hid (fun j (hj : j < ps.length) (hk : j < qs.length) => FiS.sameL_no hj hk)
  have HYES := Lib.hid (@FiS.sameL_yes ps qs)
  have HLEN := Lib.hid (@FiS.sameL_len ps qs)
  clear hps hqs hw1 hw2
  obtain ⟨R, hR⟩ : ∃ r, FiS.sameL ps qs = r := ⟨_, rfl⟩
  rw [hR] at HNO HYES HLEN ⊢
  clear hR
  obtain ⟨PL, hPL⟩ : ∃ m, ps.length = m := ⟨_, rfl⟩
  obtain ⟨QL, hQL⟩ : ∃ m, qs.length = m := ⟨_, rfl⟩
  have HPL := Lib.hid hPL
  have HQL := Lib.hid hQL
  rw [hPL] at hpl hpc ⊢
  rw [hQL] at hql hqc ⊢
  by_cases hne : PL = QL
  case neg =>
    have HRR : Hid (R = false) := Lib.hid (HLEN.out (by rw [hPL, hQL]; exact hne))
    have hn1 : ((PL : Int) != (QL : Int)) = true := by simp; omega
    have hn2 : (PL != QL) = true := by simpa using hne
    clear HAT HBT HW1 HW2 HNO HYES HLEN HPL HQL hPL hQL IH
    go_enter Tryz.func34, Tryz.ntmps34
    go_wp2_with fail
    go_ret
    exact ⟨by (rw [HRR.out]) <;> rfl, Below.refl _ _⟩
  subst hne
  clear hPL hQL HLEN
  go_enter Tryz.func34, Tryz.ntmps34
  go_wp2_with fail
  go_loopw [17] (fun i wr => ∃ j : Nat, j ≤ PL ∧ i = .int .i64 j ∧ Below w.heap.size w wr ∧ Hid (∀ t, t < j → ∀ (hj : t < ps.length) (hk : t < qs.length), FiS.sameS (ps[t]'hj) (qs[t]'hk) = true)) (fun i _ => PL - (intOf i).toNat)
  case atStart => exact ⟨0, Nat.zero_le _, rfl, Below.refl _ _, Lib.hid (fun t ht => absurd ht (Nat.not_lt_zero _))⟩
  case round =>
    obtain ⟨j, hj, rfl, hb, HALL⟩ := hrel
    by_cases hlt : j < PL
    · have hlt2 : j < ps.length := by rw [HPL.out]; exact hlt
      have hlt3 : j < qs.length := by rw [HQL.out]; exact hlt
      have hwp := HW1.out j hlt2
      have hwq := HW2.out j hlt3
      have hnj := HNO.out j hlt2 hlt3
      have HNX : Hid (FiS.sameS (ps[j]'hlt2) (qs[j]'hlt3) = true → ∀ t, t < j + 1 → ∀ (hj : t < ps.length) (hk : t < qs.length), FiS.sameS (ps[t]'hj) (qs[t]'hk) = true) := Lib.hid (fun h t ht hj hk => by
        rcases Nat.lt_or_eq_of_le (Nat.le_of_lt_succ ht) with h2 | rfl
        · exact HALL.out t h2 hj hk
        · exact h)
      obtain ⟨d, rfl, g, o, rfl, hg, b5, d5, b6, d6, hin, y0, y1, y2, y3, y4, y5, y6⟩ := HAT.out j hlt2
      obtain ⟨d2, rfl, g2, o2, rfl, hg2, u5, v5, u6, v6, hin2, z0, z1, z2, z3, z4, z5, z6⟩ := HBT.out j hlt3
      have hin := hin.call hb
      have hin2 := hin2.call hb
      have y0 := (hb.cell (p := ⟨g, o + j * 7, none⟩) hg).trans y0
      have y1 := (hb.cell (p := ⟨g, o + j * 7 + 1, none⟩) hg).trans y1
      have y2 := (hb.cell (p := ⟨g, o + j * 7 + 2, none⟩) hg).trans y2
      have y3 := (hb.cell (p := ⟨g, o + j * 7 + 3, none⟩) hg).trans y3
      have y4 := (hb.cell (p := ⟨g, o + j * 7 + 4, none⟩) hg).trans y4
      have y5 := (hb.cell (p := ⟨g, o + j * 7 + 5, none⟩) hg).trans y5
      have y6 := (hb.cell (p := ⟨g, o + j * 7 + 6, none⟩) hg).trans y6
      have z0 := (hb.cell (p := ⟨g2, o2 + j * 7, none⟩) hg2).trans z0
      have z1 := (hb.cell (p := ⟨g2, o2 + j * 7 + 1, none⟩) hg2).trans z1
      have z2 := (hb.cell (p := ⟨g2, o2 + j * 7 + 2, none⟩) hg2).trans z2
      have z3 := (hb.cell (p := ⟨g2, o2 + j * 7 + 3, none⟩) hg2).trans z3
      have z4 := (hb.cell (p := ⟨g2, o2 + j * 7 + 4, none⟩) hg2).trans z4
      have z5 := (hb.cell (p := ⟨g2, o2 + j * 7 + 5, none⟩) hg2).trans z5
      have z6 := (hb.cell (p := ⟨g2, o2 + j * 7 + 6, none⟩) hg2).trans z6
      have hrec := fun v u W h k => IH d rfl (ps[j]'hlt2) (qs[j]'hlt3) v u W d2 h k hwp hwq
      clear IH HAT HBT HW1 HW2 HNO HYES
      generalize ps[j] = p at *
      generalize qs[j] = q at *
      generalize p.any.length = PA at *
      generalize p.parts.length = PP at *
      generalize q.any.length = QA at *
      generalize q.parts.length = QP at *
      have hl0 : (0 : Int) ≤ (j : Int) := by omega
      have hl1 : (j : Int) < (PL : Int) := by omega
      have hg3 : g < wr.heap.size := Nat.lt_of_lt_of_le hg hb.size
      have hg4 : g2 < wr.heap.size := Nat.lt_of_lt_of_le hg2 hb.size
      have hgX := grow1 wr (.cells #[.int .i64 p.kind, .string ⟨p.attr.toArray⟩, .string ⟨p.value.toArray⟩, .string ⟨p.first.toArray⟩, .string ⟨p.last.toArray⟩, .slice b5 PA d5, .slice b6 PP d6] 33)
      have hgY := grow1 (wr.alloc (.cells #[.int .i64 p.kind, .string ⟨p.attr.toArray⟩, .string ⟨p.value.toArray⟩, .string ⟨p.first.toArray⟩, .string ⟨p.last.toArray⟩, .slice b5 PA d5, .slice b6 PP d6] 33)) (.cells #[.int .i64 q.kind, .string ⟨q.attr.toArray⟩, .string ⟨q.value.toArray⟩, .string ⟨q.first.toArray⟩, .string ⟨q.last.toArray⟩, .slice u5 QA v5, .slice u6 QP v6] 33)
      have hwX0 := Whole.made wr 33 #[.int .i64 p.kind, .string ⟨p.attr.toArray⟩, .string ⟨p.value.toArray⟩, .string ⟨p.first.toArray⟩, .string ⟨p.last.toArray⟩, .slice b5 PA d5, .slice b6 PP d6]
      have hwX := hwX0.call hgY
      have hwY := Whole.made (wr.alloc (.cells #[.int .i64 p.kind, .string ⟨p.attr.toArray⟩, .string ⟨p.value.toArray⟩, .string ⟨p.first.toArray⟩, .string ⟨p.last.toArray⟩, .slice b5 PA d5, .slice b6 PP d6] 33)) 33 #[.int .i64 q.kind, .string ⟨q.attr.toArray⟩, .string ⟨q.value.toArray⟩, .string ⟨q.first.toArray⟩, .string ⟨q.last.toArray⟩, .slice u5 QA v5, .slice u6 QP v6]
      obtain ⟨x0, x1, x2, x3, x4, x5, x6⟩ := hwX.seven
      obtain ⟨t0, t1, t2, t3, t4, t5, t6⟩ := hwY.seven
      have zz0 := keepC z0 hgX
      have zz1 := keepC z1 hgX
      have zz2 := keepC z2 hgX
      have zz3 := keepC z3 hgX
      have zz4 := keepC z4 hgX
      have zz5 := keepC z5 hgX
      have zz6 := keepC z6 hgX
      have hc := hrec _ _ _ ((hin.call hgX).call hgY) ((hin2.call hgX).call hgY)
      have hbY := (hb.trans (hgX.mono hb.size)).trans (hgY.mono (by have := hb.size; simp; omega))
      clear hrec hin hin2 hwX0 hwX hwY hgX hgY hwp hwq
      obtain ⟨r, hr⟩ : ∃ r, FiS.sameS p q = r := ⟨_, rfl⟩
      rw [hr] at hnj HNX hc
      have HNX2 := Lib.hid (fun h : r = true => HNX.out h)
      have HNJ := Lib.hid hnj
      clear hnj HNX hr
      cases r with
      | false =>
        have HRR : Hid (R = false) := Lib.hid (HNJ.out rfl)
        clear HNJ HNX2
        go_wp2_with fail
        refine hc.mono ?_; rintro e w3 ⟨rfl, hb3⟩
        have hz3 := hbY.trans (hb3.mono hbY.size)
        clear hc
        go_wp2_with fail
        go_ret
        exact ⟨by (rw [HRR.out]) <;> rfl, hz3⟩
      | true =>
        have HN := Lib.hid (HNX2.out rfl)
        clear HNJ HNX2
        go_wp2_with fail
        refine hc.mono ?_; rintro e w3 ⟨rfl, hb3⟩
        have hz3 := hbY.trans (hb3.mono hbY.size)
        clear hc
        go_wp2_with fail
        go_roundw
        case rel => exact ⟨j + 1, by omega, by go_num, hz3, HN⟩
        case measure => simp [intOf]; omega
    · have hjl : j = PL := by omega
      subst hjl
      have HRR : Hid (R = true) := Lib.hid (HYES.out (by rw [HPL.out, HQL.out]) (fun t hj hk => HALL.out t (by rw [HPL.out] at hj; exact hj) hj hk))
      clear IH HAT HBT HW1 HW2 HNO HYES HALL
      go_wp2_with fail
      go_ret
      exact ⟨by (rw [HRR.out]) <;> rfl, hb⟩
set_option maxRecDepth 100000 in
set_option maxHeartbeats 8000000 in
theorem flsame_c : ∀ n, SameC n := deep_ind (fun n IH => by
  unfold SameC at ⊢
  intro x y v u w m h k hwd hwe
  obtain ⟨kd, at0, vl, fs, ls, an, ps⟩ := x
  obtain ⟨a5, c5, a6, c6, hv, hss, hc6, hps⟩ := FiV.parts h
  have hv : v = .agg #[.int .i64 kd, .string ⟨at0.toArray⟩, .string ⟨vl.toArray⟩, .string ⟨fs.toArray⟩, .string ⟨ls.toArray⟩, .slice a5 an.length c5, .slice a6 ps.length c6] := hv
  subst hv
  have hss : StrsIn w (.slice a5 an.length c5) an := hss
  have hc6 : ps.length ≤ c6 := hc6
  have hps : FisP n (fun _ => True) w (.slice a6 ps.length c6) ps := hps
  rw [FiS.wdF] at hwd
  obtain ⟨_, hal, _, hpl, hwl⟩ := hwd
  obtain ⟨AL, hAL⟩ : ∃ m, an.length = m := ⟨_, rfl⟩
  obtain ⟨PL, hPL⟩ : ∃ m, ps.length = m := ⟨_, rfl⟩
  have HAL := Lib.hid hAL
  have HPL := Lib.hid hPL
  rw [hAL] at hss
  rw [hPL] at hc6 hps
  try rw [hAL]
  try rw [hPL]
  obtain ⟨ke, bt, wv, gs, ms, bn, qs⟩ := y
  obtain ⟨e5, f5, e6, f6, hu, htt, hf6, hqs⟩ := FiV.parts k
  have hu : u = .agg #[.int .i64 ke, .string ⟨bt.toArray⟩, .string ⟨wv.toArray⟩, .string ⟨gs.toArray⟩, .string ⟨ms.toArray⟩, .slice e5 bn.length f5, .slice e6 qs.length f6] := hu
  subst hu
  have htt : StrsIn w (.slice e5 bn.length f5) bn := htt
  have hf6 : qs.length ≤ f6 := hf6
  have hqs : FisP m (fun _ => True) w (.slice e6 qs.length f6) qs := hqs
  rw [FiS.wdF] at hwe
  obtain ⟨_, hbl, _, hql, hwm⟩ := hwe
  obtain ⟨BL, hBL⟩ : ∃ m, bn.length = m := ⟨_, rfl⟩
  obtain ⟨QL, hQL⟩ : ∃ m, qs.length = m := ⟨_, rfl⟩
  have HBL := Lib.hid hBL
  have HQL := Lib.hid hQL
  rw [hBL] at htt
  rw [hQL] at hf6 hqs
  try rw [hBL]
  try rw [hQL]
  have hg0 := grow1 w (.cells #[.int .i64 kd, .string ⟨at0.toArray⟩, .string ⟨vl.toArray⟩, .string ⟨fs.toArray⟩, .string ⟨ls.toArray⟩, .slice a5 AL c5, .slice a6 PL c6] 33)
  have hg1 := grow1 (w.alloc (.cells #[.int .i64 kd, .string ⟨at0.toArray⟩, .string ⟨vl.toArray⟩, .string ⟨fs.toArray⟩, .string ⟨ls.toArray⟩, .slice a5 AL c5, .slice a6 PL c6] 33)) (.cells #[.int .i64 ke, .string ⟨bt.toArray⟩, .string ⟨wv.toArray⟩, .string ⟨gs.toArray⟩, .string ⟨ms.toArray⟩, .slice e5 BL f5, .slice e6 QL f6] 33)
  have hw0 := (Whole.made w 33 #[.int .i64 kd, .string ⟨at0.toArray⟩, .string ⟨vl.toArray⟩, .string ⟨fs.toArray⟩, .string ⟨ls.toArray⟩, .slice a5 AL c5, .slice a6 PL c6]).call hg1
  have hw1 := Whole.made (w.alloc (.cells #[.int .i64 kd, .string ⟨at0.toArray⟩, .string ⟨vl.toArray⟩, .string ⟨fs.toArray⟩, .string ⟨ls.toArray⟩, .slice a5 AL c5, .slice a6 PL c6] 33)) 33 #[.int .i64 ke, .string ⟨bt.toArray⟩, .string ⟨wv.toArray⟩, .string ⟨gs.toArray⟩, .string ⟨ms.toArray⟩, .slice e5 BL f5, .slice e6 QL f6]
  have hz0 := hg0.trans (hg1.mono (by simp))
  obtain ⟨q0, q1, q2, q3, q4, q5, q6⟩ := hw0.seven
  obtain ⟨r0, r1, r2, r3, r4, r5, r6⟩ := hw1.seven
  have HSM : Hid (FiS.sameS (.mk kd at0 vl fs ls an ps) (.mk ke bt wv gs ms bn qs) = (decide (kd = ke) && (decide (at0 = bt) && (decide (vl = wv) && (decide (fs = gs) && (decide (ls = ms) && (decide (an = bn) && FiS.sameL ps qs))))))) := Lib.hid (by rw [FiS.sameS])
  obtain ⟨R, hR⟩ : ∃ r, FiS.sameS (.mk kd at0 vl fs ls an ps) (.mk ke bt wv gs ms bn qs) = r := ⟨_, rfl⟩
  rw [hR] at HSM ⊢
  clear hR h k
  unfold BoolR at *
  have hss2 := hss.call (w' := (w.alloc (.cells #[.int .i64 kd, .string ⟨at0.toArray⟩, .string ⟨vl.toArray⟩, .string ⟨fs.toArray⟩, .string ⟨ls.toArray⟩, .slice a5 AL c5, .slice a6 PL c6] 33)).alloc (.cells #[.int .i64 ke, .string ⟨bt.toArray⟩, .string ⟨wv.toArray⟩, .string ⟨gs.toArray⟩, .string ⟨ms.toArray⟩, .slice e5 BL f5, .slice e6 QL f6] 33)) hz0 (Nat.le_refl _)
  have htt2 := htt.call (w' := (w.alloc (.cells #[.int .i64 kd, .string ⟨at0.toArray⟩, .string ⟨vl.toArray⟩, .string ⟨fs.toArray⟩, .string ⟨ls.toArray⟩, .slice a5 AL c5, .slice a6 PL c6] 33)).alloc (.cells #[.int .i64 ke, .string ⟨bt.toArray⟩, .string ⟨wv.toArray⟩, .string ⟨gs.toArray⟩, .string ⟨ms.toArray⟩, .slice e5 BL f5, .slice e6 QL f6] 33)) hz0 (Nat.le_refl _)
  have hse := equal_c _ _ an bn _ hss2 htt2 (by omega) (by omega)
  unfold NmBool at hse
  have HEF : Hid (∀ W, Below w.heap.size w W → Calls Tryz.prog 34 #[.slice a6 PL c6, .slice e6 QL f6, .func (.func 19) #[] #[]] W (BoolR (FiS.sameL ps qs) W)) := Lib.hid (fun W hb => by
    have := flequalfunc_c n IH m ps qs a6 e6 c6 f6 W (by rw [hPL]; exact hps.call hb) (by rw [hQL]; exact hqs.call hb) hpl hql (by rw [hPL]; exact hc6) (by rw [hQL]; exact hf6) hwl hwm
    rw [hPL, hQL] at this
    exact this)
  clear hss htt hss2 htt2 hps hqs IH hwl hwm HPL HQL HAL HBL hg0 hg1 hw0 hw1
  by_cases h0 : kd = ke
  case neg =>
    have HRR : Hid (R = false) := Lib.hid (by rw [HSM.out]; simp [h0])
    have e0 : (kd == ke) = false := by simpa using h0
    clear HSM HEF hse
    go_enter Tryz.func19, Tryz.ntmps19
    go_wp2_with fail
    go_ret
    exact ⟨by (rw [HRR.out]) <;> rfl, hz0⟩
  subst h0
  by_cases h1 : at0 = bt
  case neg =>
    have HRR : Hid (R = false) := Lib.hid (by rw [HSM.out]; simp [h1])
    have e1 : (at0 == bt) = false := by simpa using h1
    clear HSM HEF hse
    go_enter Tryz.func19, Tryz.ntmps19
    go_wp2_with fail
    go_ret
    exact ⟨by (rw [HRR.out]) <;> rfl, hz0⟩
  subst h1
  by_cases h2 : vl = wv
  case neg =>
    have HRR : Hid (R = false) := Lib.hid (by rw [HSM.out]; simp [h2])
    have e2 : (vl == wv) = false := by simpa using h2
    clear HSM HEF hse
    go_enter Tryz.func19, Tryz.ntmps19
    go_wp2_with fail
    go_ret
    exact ⟨by (rw [HRR.out]) <;> rfl, hz0⟩
  subst h2
  by_cases h3 : fs = gs
  case neg =>
    have HRR : Hid (R = false) := Lib.hid (by rw [HSM.out]; simp [h3])
    have e3 : (fs == gs) = false := by simpa using h3
    clear HSM HEF hse
    go_enter Tryz.func19, Tryz.ntmps19
    go_wp2_with fail
    go_ret
    exact ⟨by (rw [HRR.out]) <;> rfl, hz0⟩
  subst h3
  by_cases h4 : ls = ms
  case neg =>
    have HRR : Hid (R = false) := Lib.hid (by rw [HSM.out]; simp [h4])
    have e4 : (ls == ms) = false := by simpa using h4
    clear HSM HEF hse
    go_enter Tryz.func19, Tryz.ntmps19
    go_wp2_with fail
    go_ret
    exact ⟨by (rw [HRR.out]) <;> rfl, hz0⟩
  subst h4
  by_cases h5 : an = bn
  case neg =>
    have HRR : Hid (R = false) := Lib.hid (by rw [HSM.out]; simp [h5])
    rw [decide_eq_false h5] at hse
    clear HSM HEF
    go_enter Tryz.func19, Tryz.ntmps19
    go_wp2_with fail
    refine hse.mono ?_; rintro e w3 ⟨rfl, hb3⟩
    have hz3 := hz0.trans (hb3.mono hz0.size)
    clear hse
    go_wp2_with fail
    go_ret
    exact ⟨by (rw [HRR.out]) <;> rfl, hz3⟩
  subst h5
  rw [decide_eq_true rfl] at hse
  have HRR : Hid (R = FiS.sameL ps qs) := Lib.hid (by rw [HSM.out]; simp)
  clear HSM
  go_enter Tryz.func19, Tryz.ntmps19
  go_wp2_with fail
  refine hse.mono ?_; rintro e w3 ⟨rfl, hb3⟩
  have hz3 := hz0.trans (hb3.mono hz0.size)
  have hef := HEF.out w3 hz3
  unfold BoolR at hef
  have s0 := keepC q6 hb3
  have s1 : w3.cell? ⟨w.heap.size + 1, 6, none⟩ = some (.slice e6 QL f6) := by have := keepC r6 hb3; simpa using this
  clear hse HEF q0 q1 q2 q3 q4 q5 q6 r0 r1 r2 r3 r4 r5 r6 hb3
  obtain ⟨SL, hSL⟩ : ∃ r, FiS.sameL ps qs = r := ⟨_, rfl⟩
  rw [hSL] at hef HRR
  clear hSL
  go_wp2_with fail
  refine hef.mono ?_; rintro e w4 ⟨rfl, hb4⟩
  have hz4 := hz3.trans (hb4.mono hz3.size)
  clear hef
  go_wp2_with fail
  go_ret
  exact ⟨by (rw [HRR.out]) <;> rfl, hz4⟩)
set_option maxRecDepth 100000 in
set_option maxHeartbeats 2000000 in
theorem flsametexts_c (v1 v2 : Value) (xs ys : List (List UInt8)) (w : World) (h1 : StrsIn w v1 xs) (h2 : StrsIn w v2 ys) (hl : xs.length ≤ 20000) (hl2 : ys.length ≤ 20000) : Calls Tryz.prog 35 #[v1, v2] w (BoolR (decide (xs = ys)) w) := by
  obtain ⟨a1, c1, rfl, hc1, hat1⟩ := SliceP.at (h1.strsP (fun _ => True) (fun _ _ => trivial))
  obtain ⟨a2, c2, rfl, hc2, hat2⟩ := SliceP.at (h2.strsP (fun _ => True) (fun _ _ => trivial))
  have H1 := Lib.hid hat1
  have H2 := Lib.hid hat2
  have HNO : Hid (∀ j (hj : j < xs.length) (hk : j < ys.length), xs[j]'hj ≠ ys[j]'hk → decide (xs = ys) = false) := Lib.hid (fun j hj hk h => decide_eq_false (fun e => h (by subst e; rfl)))
  have HLEN : Hid (xs.length ≠ ys.length → decide (xs = ys) = false) := Lib.hid (fun h => decide_eq_false (fun e => h (by rw [e])))
  have HYES : Hid (xs.length = ys.length → (∀ j (hj : j < xs.length) (hk : j < ys.length), xs[j]'hj = ys[j]'hk) → decide (xs = ys) = true) := Lib.hid (fun h1 h2 => decide_eq_true (List.ext_getElem h1 h2))
  clear hat1 hat2 h1 h2
  obtain ⟨R, hR⟩ : ∃ r, decide (xs = ys) = r := ⟨_, rfl⟩
  rw [hR] at HNO HYES HLEN ⊢
  clear hR
  unfold BoolR
  generalize hn : xs.length = n at hc1 hl ⊢
  generalize hm : ys.length = m at hc2 hl2 ⊢
  have HN := Lib.hid hn
  have HM := Lib.hid hm
  by_cases hne : n = m
  case neg =>
    have HRR : Hid (R = false) := Lib.hid (HLEN.out (by rw [hn, hm]; exact hne))
    have hn1 : ((n : Int) != (m : Int)) = true := by simp; omega
    have hn2 : (n != m) = true := by simpa using hne
    clear H1 H2 HNO HYES HLEN HN HM hn hm
    go_enter Tryz.func35, Tryz.ntmps35
    go_wp2_with fail
    go_ret
    exact ⟨by (rw [HRR.out]) <;> rfl, Below.refl _ _⟩
  subst hne
  clear hn hm HLEN
  go_enter Tryz.func35, Tryz.ntmps35
  go_wp2_with fail
  go_loopw [13] (fun i wr => ∃ k m : Nat, k ≤ n ∧ i = .int .i64 k ∧ wr = w.drewN m ∧ Hid (∀ t, t < k → ∀ (hj : t < xs.length) (hk : t < ys.length), xs[t]'hj = ys[t]'hk)) (fun i _ => n - (intOf i).toNat)
  case atStart => exact ⟨0, 0, Nat.zero_le _, rfl, rfl, Lib.hid (fun t ht => absurd ht (Nat.not_lt_zero _))⟩
  case round =>
    obtain ⟨k, m, hk, rfl, rfl, HALL⟩ := hrel
    by_cases hlt : k < n
    · have hx : k < xs.length := by rw [HN.out]; exact hlt
      have hy : k < ys.length := by rw [HM.out]; exact hlt
      have hno := HNO.out k hx hy
      have HNX : Hid (xs[k]'hx = ys[k]'hy → ∀ t, t < k + 1 → ∀ (hj : t < xs.length) (hk : t < ys.length), xs[t]'hj = ys[t]'hk) := Lib.hid (fun h t ht hj hk => by
        rcases Nat.lt_or_eq_of_le (Nat.le_of_lt_succ ht) with h2 | rfl
        · exact HALL.out t h2 hj hk
        · exact h)
      obtain ⟨g1, o1, rfl, _, _, d1⟩ := H1.out k hx
      obtain ⟨g2, o2, rfl, _, _, d2⟩ := H2.out k hy
      generalize xs[k] = s at *
      generalize ys[k] = t at *
      unfold StrAt strV at d1 d2
      simp only [Nat.mul_one] at d1 d2
      have hl0 : (0 : Int) ≤ (k : Int) := by omega
      have hl1 : (k : Int) < (n : Int) := by omega
      have hbz := below_drewN w m
      by_cases hst : s = t
      · have HN1 := Lib.hid (HNX.out hst)
        subst hst
        have hs := flne_self s
        clear hno HNX H1 H2 HNO HYES HALL
        go_wp2_with fail
        go_quiet (fail)
        go_wp2_with fail
        go_roundw
        case rel => exact ⟨k + 1, _, by omega, by go_num, rfl, HN1⟩
        case measure => simp [intOf]; omega
      · have HRR : Hid (R = false) := Lib.hid (hno hst)
        have hs : (s != t) = true := by simpa using hst
        have hs2 : (s == t) = false := by simpa using hst
        clear hno HNX H1 H2 HNO HYES HALL
        go_wp2_with fail
        go_quiet (fail)
        go_wp2_with fail
        go_ret
        exact ⟨by (rw [HRR.out]) <;> rfl, by first | exact below_drewN _ _ | (rw [World.drewN_drewN]; exact below_drewN _ _)⟩
    · have hkn : k = n := by omega
      subst hkn
      have HRR : Hid (R = true) := Lib.hid (HYES.out (by rw [HN.out, HM.out]) (fun t hj hk => HALL.out t (by rw [HN.out] at hj; exact hj) hj hk))
      clear H1 H2 HNO HYES HALL
      go_wp2_with fail
      go_ret
      exact ⟨by (rw [HRR.out]) <;> rfl, by first | exact below_drewN _ _ | (rw [World.drewN_drewN]; exact below_drewN _ _)⟩
def RefSameC (n : Nat) : Prop := ∀ (x y : Fi) (v u : Value) (w : World) (m : Nat), FiIn n w v x → FiIn m w u y → FiS.wdF 20000 x → FiS.wdF 20000 y → Calls Tryz.prog 20 #[v, u] w (BoolR (FiS.sameS x y) w)
set_option maxRecDepth 100000 in
set_option maxHeartbeats 8000000 in
theorem refflsame_c : ∀ n, RefSameC n := deep_ind (fun n IH => by
  unfold RefSameC at *
  intro x y v u w m h k hwd hwe
  obtain ⟨kd, at0, vl, fs, ls, an, ps⟩ := x
  obtain ⟨a5, c5, a6, c6, hv, hss, hc6, hps⟩ := FiV.parts h
  have hv : v = .agg #[.int .i64 kd, .string ⟨at0.toArray⟩, .string ⟨vl.toArray⟩, .string ⟨fs.toArray⟩, .string ⟨ls.toArray⟩, .slice a5 an.length c5, .slice a6 ps.length c6] := hv
  subst hv
  have hss : StrsIn w (.slice a5 an.length c5) an := hss
  have hc6 : ps.length ≤ c6 := hc6
  have hps : FisP n (fun _ => True) w (.slice a6 ps.length c6) ps := hps
  rw [FiS.wdF] at hwd
  obtain ⟨_, hal, _, hpl, hwl⟩ := hwd
  obtain ⟨AL, hAL⟩ : ∃ m, an.length = m := ⟨_, rfl⟩
  obtain ⟨PL, hPL⟩ : ∃ m, ps.length = m := ⟨_, rfl⟩
  have HAL := Lib.hid hAL
  have HPL := Lib.hid hPL
  rw [hAL] at hss
  rw [hPL] at hc6 hps
  try rw [hAL]
  try rw [hPL]
  obtain ⟨ke, bt, wv, gs, ms, bn, qs⟩ := y
  obtain ⟨e5, f5, e6, f6, hu, htt, hf6, hqs⟩ := FiV.parts k
  have hu : u = .agg #[.int .i64 ke, .string ⟨bt.toArray⟩, .string ⟨wv.toArray⟩, .string ⟨gs.toArray⟩, .string ⟨ms.toArray⟩, .slice e5 bn.length f5, .slice e6 qs.length f6] := hu
  subst hu
  have htt : StrsIn w (.slice e5 bn.length f5) bn := htt
  have hf6 : qs.length ≤ f6 := hf6
  have hqs : FisP m (fun _ => True) w (.slice e6 qs.length f6) qs := hqs
  rw [FiS.wdF] at hwe
  obtain ⟨_, hbl, _, hql, hwm⟩ := hwe
  obtain ⟨BL, hBL⟩ : ∃ m, bn.length = m := ⟨_, rfl⟩
  obtain ⟨QL, hQL⟩ : ∃ m, qs.length = m := ⟨_, rfl⟩
  have HBL := Lib.hid hBL
  have HQL := Lib.hid hQL
  rw [hBL] at htt
  rw [hQL] at hf6 hqs
  try rw [hBL]
  try rw [hQL]
  have hg0 := grow1 w (.cells #[.int .i64 kd, .string ⟨at0.toArray⟩, .string ⟨vl.toArray⟩, .string ⟨fs.toArray⟩, .string ⟨ls.toArray⟩, .slice a5 AL c5, .slice a6 PL c6] 25)
  have hg1 := grow1 (w.alloc (.cells #[.int .i64 kd, .string ⟨at0.toArray⟩, .string ⟨vl.toArray⟩, .string ⟨fs.toArray⟩, .string ⟨ls.toArray⟩, .slice a5 AL c5, .slice a6 PL c6] 25)) (.cells #[.int .i64 ke, .string ⟨bt.toArray⟩, .string ⟨wv.toArray⟩, .string ⟨gs.toArray⟩, .string ⟨ms.toArray⟩, .slice e5 BL f5, .slice e6 QL f6] 25)
  have hw0 := (Whole.made w 25 #[.int .i64 kd, .string ⟨at0.toArray⟩, .string ⟨vl.toArray⟩, .string ⟨fs.toArray⟩, .string ⟨ls.toArray⟩, .slice a5 AL c5, .slice a6 PL c6]).call hg1
  have hw1 := Whole.made (w.alloc (.cells #[.int .i64 kd, .string ⟨at0.toArray⟩, .string ⟨vl.toArray⟩, .string ⟨fs.toArray⟩, .string ⟨ls.toArray⟩, .slice a5 AL c5, .slice a6 PL c6] 25)) 25 #[.int .i64 ke, .string ⟨bt.toArray⟩, .string ⟨wv.toArray⟩, .string ⟨gs.toArray⟩, .string ⟨ms.toArray⟩, .slice e5 BL f5, .slice e6 QL f6]
  have hz0 := hg0.trans (hg1.mono (by simp))
  obtain ⟨q0, q1, q2, q3, q4, q5, q6⟩ := hw0.seven
  obtain ⟨r0, r1, r2, r3, r4, r5, r6⟩ := hw1.seven
  have HSM : Hid (FiS.sameS (.mk kd at0 vl fs ls an ps) (.mk ke bt wv gs ms bn qs) = (decide (kd = ke) && (decide (at0 = bt) && (decide (vl = wv) && (decide (fs = gs) && (decide (ls = ms) && (decide (an = bn) && FiS.sameL ps qs))))))) := Lib.hid (by rw [FiS.sameS])
  obtain ⟨R, hR⟩ : ∃ r, FiS.sameS (.mk kd at0 vl fs ls an ps) (.mk ke bt wv gs ms bn qs) = r := ⟨_, rfl⟩
  rw [hR] at HSM ⊢
  clear hR h k
  unfold BoolR at *
  have hss2 := hss.call (w' := (w.alloc (.cells #[.int .i64 kd, .string ⟨at0.toArray⟩, .string ⟨vl.toArray⟩, .string ⟨fs.toArray⟩, .string ⟨ls.toArray⟩, .slice a5 AL c5, .slice a6 PL c6] 25)).alloc (.cells #[.int .i64 ke, .string ⟨bt.toArray⟩, .string ⟨wv.toArray⟩, .string ⟨gs.toArray⟩, .string ⟨ms.toArray⟩, .slice e5 BL f5, .slice e6 QL f6] 25)) hz0 (Nat.le_refl _)
  have htt2 := htt.call (w' := (w.alloc (.cells #[.int .i64 kd, .string ⟨at0.toArray⟩, .string ⟨vl.toArray⟩, .string ⟨fs.toArray⟩, .string ⟨ls.toArray⟩, .slice a5 AL c5, .slice a6 PL c6] 25)).alloc (.cells #[.int .i64 ke, .string ⟨bt.toArray⟩, .string ⟨wv.toArray⟩, .string ⟨gs.toArray⟩, .string ⟨ms.toArray⟩, .slice e5 BL f5, .slice e6 QL f6] 25)) hz0 (Nat.le_refl _)
  have hse := flsametexts_c _ _ an bn _ hss2 htt2 (by omega) (by omega)
  unfold BoolR at hse
  have HAT := Lib.hid (fun j (hj : j < ps.length) => FisP.at (by rw [← hPL] at hps; exact hps) j hj)
  have HBT := Lib.hid (fun j (hj : j < qs.length) => FisP.at (by rw [← hQL] at hqs; exact hqs) j hj)
  have HW1 := Lib.hid (FiS.wdL_iff.1 hwl)
  have HW2 := Lib.hid (FiS.wdL_iff.1 hwm)
  have HNO := Lib.hid (fun j (hj : j < ps.length) (hk : j < qs.length) => FiS.sameL_no hj hk)
  have HYES := Lib.hid (@FiS.sameL_yes ps qs)
  have HLEN := Lib.hid (@FiS.sameL_len ps qs)
  rw [hPL] at hpl
  rw [hQL] at hql
  clear hss htt hss2 htt2 hps hqs hwl hwm HAL HBL hAL hBL hg0 hg1 hal hbl
  by_cases h0 : kd = ke
  case neg =>
    have HRR : Hid (R = false) := Lib.hid (by rw [HSM.out]; simp [h0])
    have e0 : (kd != ke) = true := by simpa using h0
    clear HSM hse HAT HBT HW1 HW2 HNO HYES HLEN IH HPL HQL hPL hQL hw0 hw1
    go_enter Tryz.func20, Tryz.ntmps20
    go_wp2_with fail
    go_ret
    exact ⟨by (rw [HRR.out]) <;> rfl, hz0⟩
  subst h0
  by_cases h1 : at0 = bt
  case neg =>
    have HRR : Hid (R = false) := Lib.hid (by rw [HSM.out]; simp [h1])
    have e1 : (at0 != bt) = true := by simpa using h1
    clear HSM hse HAT HBT HW1 HW2 HNO HYES HLEN IH HPL HQL hPL hQL hw0 hw1
    go_enter Tryz.func20, Tryz.ntmps20
    go_wp2_with fail
    go_ret
    exact ⟨by (rw [HRR.out]) <;> rfl, hz0⟩
  subst h1
  by_cases h2 : vl = wv
  case neg =>
    have HRR : Hid (R = false) := Lib.hid (by rw [HSM.out]; simp [h2])
    have e2 : (vl != wv) = true := by simpa using h2
    clear HSM hse HAT HBT HW1 HW2 HNO HYES HLEN IH HPL HQL hPL hQL hw0 hw1
    go_enter Tryz.func20, Tryz.ntmps20
    go_wp2_with fail
    go_ret
    exact ⟨by (rw [HRR.out]) <;> rfl, hz0⟩
  subst h2
  by_cases h3 : fs = gs
  case neg =>
    have HRR : Hid (R = false) := Lib.hid (by rw [HSM.out]; simp [h3])
    have e3 : (fs != gs) = true := by simpa using h3
    clear HSM hse HAT HBT HW1 HW2 HNO HYES HLEN IH HPL HQL hPL hQL hw0 hw1
    go_enter Tryz.func20, Tryz.ntmps20
    go_wp2_with fail
    go_ret
    exact ⟨by (rw [HRR.out]) <;> rfl, hz0⟩
  subst h3
  by_cases h4 : ls = ms
  case neg =>
    have HRR : Hid (R = false) := Lib.hid (by rw [HSM.out]; simp [h4])
    have e4 : (ls != ms) = true := by simpa using h4
    clear HSM hse HAT HBT HW1 HW2 HNO HYES HLEN IH HPL HQL hPL hQL hw0 hw1
    go_enter Tryz.func20, Tryz.ntmps20
    go_wp2_with fail
    go_ret
    exact ⟨by (rw [HRR.out]) <;> rfl, hz0⟩
  subst h4
  have hn1 := flne_self at0
  have hn2 := flne_self vl
  have hn3 := flne_self fs
  have hn4 := flne_self ls
  by_cases h5 : an = bn
  case neg =>
    have HRR : Hid (R = false) := Lib.hid (by rw [HSM.out]; simp [h5])
    rw [decide_eq_false h5] at hse
    clear HSM HAT HBT HW1 HW2 HNO HYES HLEN IH HPL HQL hPL hQL hw0 hw1
    go_enter Tryz.func20, Tryz.ntmps20
    go_wp2_with fail
    refine hse.mono ?_; rintro e w3 ⟨rfl, hb3⟩
    have hz3 := hz0.trans (hb3.mono hz0.size)
    clear hse
    go_wp2_with fail
    go_ret
    exact ⟨by (rw [HRR.out]) <;> rfl, hz3⟩
  subst h5
  rw [decide_eq_true rfl] at hse
  have HRR : Hid (R = FiS.sameL ps qs) := Lib.hid (by rw [HSM.out]; simp)
  clear HSM
  obtain ⟨SL, hSL⟩ : ∃ r, FiS.sameL ps qs = r := ⟨_, rfl⟩
  rw [hSL] at HNO HYES HLEN HRR
  clear hSL
  have HRR2 : Hid (R = SL) := HRR
  clear HRR
  by_cases hne : PL = QL
  case neg =>
    have HRR : Hid (R = false) := Lib.hid (by rw [HRR2.out]; exact HLEN.out (by rw [hPL, hQL]; exact hne))
    have hn5 : ((PL : Int) != (QL : Int)) = true := by simp; omega
    have hn6 : (PL != QL) = true := by simpa using hne
    go_enter Tryz.func20, Tryz.ntmps20
    go_wp2_with fail
    refine hse.mono ?_; rintro e w3 ⟨rfl, hb3⟩
    have hz3 := hz0.trans (hb3.mono hz0.size)
    have s0 := keepC q6 hb3
    have s1 : w3.cell? ⟨w.heap.size + 1, 6, none⟩ = some (.slice e6 QL f6) := by have := keepC r6 hb3; simpa using this
    clear hse HAT HBT HW1 HW2 HNO HYES HLEN IH HPL HQL hPL hQL q0 q1 q2 q3 q4 q5 q6 r0 r1 r2 r3 r4 r5 r6 hw0 hw1
    go_wp2_with fail
    go_ret
    exact ⟨by (rw [HRR.out]) <;> rfl, hz3⟩
  subst hne
  clear hPL hQL HLEN
  go_enter Tryz.func20, Tryz.ntmps20
  go_wp2_with fail
  refine hse.mono ?_; rintro e w3 ⟨rfl, hb3⟩
  have hz3 := hz0.trans (hb3.mono hz0.size)
  have hw3 := hw0.call hb3
  have hv3 := hw1.call hb3
  have s0 := keepC q6 hb3
  have s1 : w3.cell? ⟨w.heap.size + 1, 6, none⟩ = some (.slice e6 PL f6) := by have := keepC r6 hb3; simpa using this
  clear hse q0 q1 q2 q3 q4 q5 q6 r0 r1 r2 r3 r4 r5 r6 hb3 hw0 hw1 hz0
  go_wp2_with fail
  go_loopw [59] (fun i wr => ∃ j : Nat, j ≤ PL ∧ i = .int .i64 j ∧ Whole wr w.heap.size 25 #[.int .i64 kd, .string ⟨at0.toArray⟩, .string ⟨vl.toArray⟩, .string ⟨fs.toArray⟩, .string ⟨ls.toArray⟩, .slice a5 AL c5, .slice a6 PL c6] ∧ Whole wr (w.heap.size + 1) 25 #[.int .i64 kd, .string ⟨at0.toArray⟩, .string ⟨vl.toArray⟩, .string ⟨fs.toArray⟩, .string ⟨ls.toArray⟩, .slice e5 BL f5, .slice e6 PL f6] ∧ Below w.heap.size w wr ∧ Hid (∀ t, t < j → ∀ (hj : t < ps.length) (hk : t < qs.length), FiS.sameS (ps[t]'hj) (qs[t]'hk) = true)) (fun i _ => PL - (intOf i).toNat)
  case atStart => exact ⟨0, Nat.zero_le _, rfl, hw3, by simpa using hv3, hz3, Lib.hid (fun t ht => absurd ht (Nat.not_lt_zero _))⟩
  case round =>
    obtain ⟨j, hj, rfl, hw, hv, hb, HALL⟩ := hrel
    clear hw3 hv3 hz3 s0 s1
    by_cases hlt : j < PL
    · have hlt2 : j < ps.length := by rw [HPL.out]; exact hlt
      have hlt3 : j < qs.length := by rw [HQL.out]; exact hlt
      have hwp := HW1.out j hlt2
      have hwq := HW2.out j hlt3
      have hnj := HNO.out j hlt2 hlt3
      have HNX : Hid (FiS.sameS (ps[j]'hlt2) (qs[j]'hlt3) = true → ∀ t, t < j + 1 → ∀ (hj : t < ps.length) (hk : t < qs.length), FiS.sameS (ps[t]'hj) (qs[t]'hk) = true) := Lib.hid (fun h t ht hj hk => by
        rcases Nat.lt_or_eq_of_le (Nat.le_of_lt_succ ht) with h2 | rfl
        · exact HALL.out t h2 hj hk
        · exact h)
      obtain ⟨d, rfl, g, o, rfl, hg, b5, d5, b6, d6, hin, y0, y1, y2, y3, y4, y5, y6⟩ := HAT.out j hlt2
      obtain ⟨d2, rfl, g2, o2, rfl, hg2, u5, v5, u6, v6, hin2, z0, z1, z2, z3, z4, z5, z6⟩ := HBT.out j hlt3
      have hbD := hb.drew
      have hin := hin.call hbD
      have hin2 := hin2.call hbD
      have y0 := (hbD.cell (p := ⟨g, o + j * 7, none⟩) hg).trans y0
      have y1 := (hbD.cell (p := ⟨g, o + j * 7 + 1, none⟩) hg).trans y1
      have y2 := (hbD.cell (p := ⟨g, o + j * 7 + 2, none⟩) hg).trans y2
      have y3 := (hbD.cell (p := ⟨g, o + j * 7 + 3, none⟩) hg).trans y3
      have y4 := (hbD.cell (p := ⟨g, o + j * 7 + 4, none⟩) hg).trans y4
      have y5 := (hbD.cell (p := ⟨g, o + j * 7 + 5, none⟩) hg).trans y5
      have y6 := (hbD.cell (p := ⟨g, o + j * 7 + 6, none⟩) hg).trans y6
      have z0 := (hbD.cell (p := ⟨g2, o2 + j * 7, none⟩) hg2).trans z0
      have z1 := (hbD.cell (p := ⟨g2, o2 + j * 7 + 1, none⟩) hg2).trans z1
      have z2 := (hbD.cell (p := ⟨g2, o2 + j * 7 + 2, none⟩) hg2).trans z2
      have z3 := (hbD.cell (p := ⟨g2, o2 + j * 7 + 3, none⟩) hg2).trans z3
      have z4 := (hbD.cell (p := ⟨g2, o2 + j * 7 + 4, none⟩) hg2).trans z4
      have z5 := (hbD.cell (p := ⟨g2, o2 + j * 7 + 5, none⟩) hg2).trans z5
      have z6 := (hbD.cell (p := ⟨g2, o2 + j * 7 + 6, none⟩) hg2).trans z6
      have hrec := fun v u W h k => IH d rfl (ps[j]'hlt2) (qs[j]'hlt3) v u W d2 h k hwp hwq
      clear IH HAT HBT HW1 HW2 HNO HYES
      generalize ps[j] = p at *
      generalize qs[j] = q at *
      generalize p.any.length = PA at *
      generalize p.parts.length = PP at *
      generalize q.any.length = QA at *
      generalize q.parts.length = QP at *
      have hl0 : (0 : Int) ≤ (j : Int) := by omega
      have hl1 : (j : Int) < (PL : Int) := by omega
      have hwD := hw.drew
      have hvD := hv.drew
      obtain ⟨_, _, _, _, _, _, q6⟩ := hwD.seven
      obtain ⟨_, _, _, _, _, _, r6⟩ := hvD.seven
      have hc := hrec _ _ _ hin hin2
      clear hrec hin hin2 hwp hwq
      obtain ⟨r, hr⟩ : ∃ r, FiS.sameS p q = r := ⟨_, rfl⟩
      rw [hr] at hnj HNX hc
      have HNX2 := Lib.hid (fun h : r = true => HNX.out h)
      have HNJ := Lib.hid hnj
      clear hnj HNX hr
      have hgw : g < wr.drew.heap.size := Nat.lt_of_lt_of_le hg hbD.size
      have hgw2 : g2 < wr.drew.heap.size := Nat.lt_of_lt_of_le hg2 hbD.size
      go_wp2_with fail
      go_region_held3 (fun W => W.cell? ⟨w.heap.size, 6, none⟩ = some (.slice (some ⟨g, o, none⟩) PL c6) ∧ W.cell? ⟨w.heap.size + 1, 6, none⟩ = some (.slice (some ⟨g2, o2, none⟩) PL f6) ∧ W.cell? ⟨g, o + j * 7, none⟩ = some (.int .i64 p.kind) ∧ W.cell? ⟨g, o + j * 7 + 1, none⟩ = some (.string ⟨p.attr.toArray⟩) ∧ W.cell? ⟨g, o + j * 7 + 2, none⟩ = some (.string ⟨p.value.toArray⟩) ∧ W.cell? ⟨g, o + j * 7 + 3, none⟩ = some (.string ⟨p.first.toArray⟩) ∧ W.cell? ⟨g, o + j * 7 + 4, none⟩ = some (.string ⟨p.last.toArray⟩) ∧ W.cell? ⟨g, o + j * 7 + 5, none⟩ = some (.slice b5 PA d5) ∧ W.cell? ⟨g, o + j * 7 + 6, none⟩ = some (.slice b6 PP d6) ∧ W.cell? ⟨g2, o2 + j * 7, none⟩ = some (.int .i64 q.kind) ∧ W.cell? ⟨g2, o2 + j * 7 + 1, none⟩ = some (.string ⟨q.attr.toArray⟩) ∧ W.cell? ⟨g2, o2 + j * 7 + 2, none⟩ = some (.string ⟨q.value.toArray⟩) ∧ W.cell? ⟨g2, o2 + j * 7 + 3, none⟩ = some (.string ⟨q.first.toArray⟩) ∧ W.cell? ⟨g2, o2 + j * 7 + 4, none⟩ = some (.string ⟨q.last.toArray⟩) ∧ W.cell? ⟨g2, o2 + j * 7 + 5, none⟩ = some (.slice u5 QA v5) ∧ W.cell? ⟨g2, o2 + j * 7 + 6, none⟩ = some (.slice u6 QP v6)) (first | exact ⟨q6, r6, y0, y1, y2, y3, y4, y5, y6, z0, z1, z2, z3, z4, z5, z6⟩ | exact ⟨keepC q6 hb2, keepC r6 hb2, keepC y0 hb2, keepC y1 hb2, keepC y2 hb2, keepC y3 hb2, keepC y4 hb2, keepC y5 hb2, keepC y6 hb2, keepC z0 hb2, keepC z1 hb2, keepC z2 hb2, keepC z3 hb2, keepC z4 hb2, keepC z5 hb2, keepC z6 hb2⟩)
        (first | (go_at_call 20; (with_reducible refine hc.mono ?_); rintro e w2 ⟨rfl, hb2⟩))
      all_goals (
        have hz2 := hbD.trans (hb2.mono hbD.size)
        have hw2 := hwD.call hb2
        have hv2 := hvD.call hb2
        clear q6 r6 y0 y1 y2 y3 y4 y5 y6 z0 z1 z2 z3 z4 z5 z6 hc)
      cases r with
      | false =>
        have HRR : Hid (R = false) := Lib.hid (by rw [HRR2.out]; exact HNJ.out rfl)
        clear HNJ HNX2
        go_wp2_with fail
        go_ret
        exact ⟨by (rw [HRR.out]) <;> rfl, hz2⟩
      | true =>
        have HN := Lib.hid (HNX2.out rfl)
        clear HNJ HNX2
        go_wp2_with fail
        go_roundw
        case rel => exact ⟨j + 1, by omega, by go_num, hw2, hv2, hz2, HN⟩
        case measure => simp [intOf]; omega
    · have hjl : j = PL := by omega
      subst hjl
      have HRR : Hid (R = true) := Lib.hid (by rw [HRR2.out]; exact HYES.out (by rw [HPL.out, HQL.out]) (fun t hj hk => HALL.out t (by rw [HPL.out] at hj; exact hj) hj hk))
      clear IH HAT HBT HW1 HW2 HNO HYES HALL
      go_wp2_with fail
      go_ret
      exact ⟨by (rw [HRR.out]) <;> rfl, hb⟩)
end Go.Proofs.YtjmfknfponjgkaaGreatDoor
