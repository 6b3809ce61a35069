/- The walk of the document's without, with what it says of whether a value was there. Conditions: those that the theorem states; the library's variables are laid. The walk of the document's change of values. Conditions: those that each theorem states; the library's variables are laid. -/
import Derived.Test.YtmnhgbkdahdoiaaGreatDoorMRna
import Derived.Test.YtmnhgbkdahdoiaaGreatDoorMCha
import Derived.Test.YtmnhgbkdahdoiaaGreatDoorMEna
import Derived.Test.YtmnhgbkdahdoiaaGreatDoorMFmc
namespace Go.Proofs.YtmnhgbkdahdoiaaGreatDoor
open Go.RowKit

theorem within_at (t v : List UInt8) {l : List (List UInt8)} {k : Nat} (hk : k < l.length) : EnS.withinS t (l.drop k) v = (EnS.withinS t [l[k]] v || EnS.withinS t (l.drop (k + 1)) v) := by
  rw [List.drop_eq_getElem_cons hk]
  unfold EnS.withinS
  rw [List.any_cons, List.any_cons, List.any_nil, Bool.or_false]
  cases decide ((DnS.valueS t v).2 = 0) <;> rfl
def WoRet2 (l : List (List UInt8)) (b : Bool) (w : World) (e : Ending) (w' : World) : Prop := ∃ v, e = .returned (.tuple #[v, .bool b]) ∧ Own w' w.heap.size v l ∧ Below w.heap.size w w'
set_option maxRecDepth 100000 in
set_option maxHeartbeats 2000000 in
theorem without2_c (t v : List UInt8) (u : Value) (l : List (List UInt8)) (w : World) (hE : Env w) (ht : t.length ≤ 1048576) (hv : v.length ≤ 1000000) (h : StrsIn w u l) (hl : l.length ≤ 1048576) (hx : ∀ x ∈ l, x.length ≤ 1000000) :
    Calls Tryz.prog 57 #[.string ⟨t.toArray⟩, u, .string ⟨v.toArray⟩] w (WoRet2 (EnS.withoutS t l v) (EnS.withinS t l v) w) := by
  rw [← wout_is]
  have HIN := Lib.hid (fun W (hb : Below w.heap.size w W) => h.call hb (Nat.le_refl _))
  obtain ⟨a, c, rfl, hc, hat⟩ := SliceP.at (h.strsP (fun _ => True) (fun _ _ => trivial))
  have HAT := Lib.hid hat
  have HX := Lib.hid (fun k (h : k < l.length) => hx l[k] (List.getElem_mem h))
  have HEN := Lib.hid (fun W (hb : Below w.heap.size w W) => hE.below hb)
  have HWA := Lib.hid (fun k (hk : k < l.length) g => wout_at t v hk g)
  have HW0 : Hid (woutS t v false l = [] ++ woutS t v false (l.drop 0)) := Lib.hid rfl
  generalize woutS t v false l = Z at *
  have HWB := Lib.hid (fun k (hk : k < l.length) => within_at t v hk)
  have HF0 : Hid (EnS.withinS t l v = (false || EnS.withinS t (l.drop 0) v)) := Lib.hid rfl
  generalize EnS.withinS t l v = FB at *
  clear hat h hx hE
  go_enter Tryz.func57, Tryz.ntmps57
  go_wp2_with fail
  go_loopw [8, 9, 13] (fun ov gv i wr => ∃ (k : Nat) (g : Bool) (q : List (List UInt8)), k ≤ l.length ∧ i = .int .i64 k ∧ gv = .bool g ∧ Own wr w.heap.size ov q ∧ Hid (Z = q ++ woutS t v g (l.drop k)) ∧ q.length ≤ k ∧ Hid (FB = (g || EnS.withinS t (l.drop k) v)) ∧ Below w.heap.size w wr) (fun _ _ i _ => l.length - (intOf i).toNat)
  case atStart => exact ⟨0, false, [], Nat.zero_le _, rfl, rfl, Own.empty _ _, HW0, Nat.le_refl _, HF0, Below.refl _ _⟩
  case round =>
    obtain ⟨k, g, q, hk, rfl, rfl, hown, HZ, hql, HF, hb⟩ := hrel
    by_cases hlt : k < l.length
    · obtain ⟨b0, o, rfl, hg, _, hra⟩ := HAT.out k hlt
      have c0 : w.cell? ⟨b0, o + k, none⟩ = some (strV l[k]) := by
        have : w.cell? ⟨b0, o + k * 1, none⟩ = some (strV l[k]) := hra
        rwa [Nat.mul_one] at this
      have c0 := keepC c0 hb
      have hin := strs_part (HIN.out wr hb) hlt (c - k) (by omega)
      have hxl := HX.out k hlt
      have HF1 := Lib.hid (HF.out.trans (congrArg (g || ·) (HWB.out k hlt)))
      have HZ1 := Lib.hid (HZ.out.trans (congrArg (q ++ ·) (HWA.out k hlt g)))
      clear hra HAT HIN HX HWA HW0 HZ HF HF0 HWB
      generalize l[k] = x at *
      unfold strV at c0
      have hwi := fun W hb2 hE => enwithin_c t v (.slice (some ⟨b0, o + k, none⟩) 1 (c - k)) [x] W hE ht hv (hin.call (w' := W) (B := wr.heap.size) hb2 (Nat.le_refl _)) (by simp) (by simpa using hxl)
      unfold NmBool at hwi
      generalize EnS.withinS t [x] v = WB at *
      have hwi1 := hwi wr (Below.refl _ _) (HEN.out _ hb)
      have hl0 : (0 : Int) ≤ (k : Int) := by omega
      have hl1 : (k : Int) < (l.length : Int) := by omega
      have hl2 : (k : Int) + 1 ≤ (c : Int) := by omega
      have hl3 : (k : Int) ≤ (k : Int) + 1 := by omega
      have hck : ¬ c - k = 0 := by omega
      clear hin hwi
      obtain ⟨oa, oc, rfl⟩ := hown.form
      obtain ⟨OL, hOL⟩ : ∃ n, q.length = n := ⟨_, rfl⟩
      rw [hOL] at hown hql ⊢
      cases g with
      | true =>
        have HZ2 := Lib.hid (show Z = (q ++ [x]) ++ woutS t v true (l.drop (k + 1)) from by rw [HZ1.out]; simp)
        have HF2 := Lib.hid (show FB = (true || EnS.withinS t (l.drop (k + 1)) v) from by rw [HF1.out]; rfl)
        clear HZ1 hwi1 HF1
        have hgS := grow1 wr (.cells #[.string ⟨x.toArray⟩] 9)
        have hwS := Whole.made wr 9 #[.string ⟨x.toArray⟩]
        have s0 := hwS.cell 0
        simp only [List.getElem?_toArray, List.getElem?_cons_zero] at s0
        have hoS := hown.call hgS
        have hbS := hb.trans (hgS.mono hb.size)
        have hszS := hbS.size
        clear hwS
        go_wp2_with (at_builtin; refine push_str rfl _ _ rfl w.heap.size _ q (by rfl) hoS wr.heap.size (by rfl) x s0 (by omega) hszS ?_)
        intro v6 w6 hown6 hb6
        go_wp2_with fail
        go_roundw
        case rel => exact ⟨k + 1, true, q ++ [x], by omega, by go_num, rfl, hown6, HZ2, by rw [List.length_append]; show q.length + 1 ≤ _; omega, HF2, hbS.trans hb6⟩
        case measure => simp [intOf]; omega
      | false =>
        clear HEN
        go_wp2_with fail
        refine hwi1.mono ?_; rintro e w1 ⟨rfl, hb1⟩
        have hz1 := hb.trans (hb1.mono hb.size)
        have hown1 := hown.call hb1
        have c01 := keepC c0 hb1
        clear hwi1 hown
        cases WB with
        | true =>
          have HZ2 := Lib.hid (show Z = q ++ woutS t v true (l.drop (k + 1)) from HZ1.out)
          have HF2 := Lib.hid (show FB = (true || EnS.withinS t (l.drop (k + 1)) v) from by rw [HF1.out]; rfl)
          clear HZ1 HF1
          go_wp2_with fail
          go_roundw
          case rel => exact ⟨k + 1, true, q, by omega, by go_num, rfl, hown1, HZ2, by omega, HF2, hz1⟩
          case measure => simp [intOf]; omega
        | false =>
          have HZ2 := Lib.hid (show Z = (q ++ [x]) ++ woutS t v false (l.drop (k + 1)) from by rw [HZ1.out]; simp)
          have HF2 := Lib.hid (show FB = (false || EnS.withinS t (l.drop (k + 1)) v) from by rw [HF1.out]; rfl)
          clear HZ1 HF1
          have hgS := grow1 w1 (.cells #[.string ⟨x.toArray⟩] 9)
          have hwS := Whole.made w1 9 #[.string ⟨x.toArray⟩]
          have s0 := hwS.cell 0
          simp only [List.getElem?_toArray, List.getElem?_cons_zero] at s0
          have hoS := hown1.call hgS
          have hbS := hz1.trans (hgS.mono hz1.size)
          have hszS := hbS.size
          clear hwS
          go_wp2_with (at_builtin; refine push_str rfl _ _ rfl w.heap.size _ q (by rfl) hoS w1.heap.size (by rfl) x s0 (by omega) hszS ?_)
          intro v6 w6 hown6 hb6
          go_wp2_with fail
          go_roundw
          case rel => exact ⟨k + 1, false, q ++ [x], by omega, by go_num, rfl, hown6, HZ2, by rw [List.length_append]; show q.length + 1 ≤ _; omega, HF2, hbS.trans hb6⟩
          case measure => simp [intOf]; omega
    · have hkl : k = l.length := by omega
      subst hkl
      have hd : l.drop l.length = [] := List.drop_length
      have HZ2 := Lib.hid (show Z = q from by rw [HZ.out, hd]; simp [woutS])
      have HF2 := Lib.hid (show FB = g from by rw [HF.out, hd]; simp [EnS.withinS])
      clear HZ HAT HX HWA HW0 HIN HF HWB HF0
      go_wp2_with fail
      go_ret2
      exact ⟨_, congrArg (fun b => Ending.returned (.tuple #[_, .bool b])) HF2.out.symm, by rw [HZ2.out]; exact hown, hb⟩
end Go.Proofs.YtmnhgbkdahdoiaaGreatDoor
namespace Go.Proofs.YtmnhgbkdahdoiaaGreatDoor
open Go.RowKit
attribute [local go_sem ↓] Go.wp_at_zero Go.wp_at_succ

def ChoRet (r : List (List UInt8) × Int) (w0 : World) (e : Ending) (w' : World) : Prop := ∃ y, e = .returned (.tuple #[y, .int .i64 r.2]) ∧ Own w' w0.heap.size y r.1 ∧ Below w0.heap.size w0 w'
theorem ChoRet.no {r : List (List UInt8) × Int} {n : Int} {w0 w' : World} (h : r = ([], n)) (hb : Below w0.heap.size w0 w') : ChoRet r w0 (.returned (.tuple #[.slice none 0 0, .int .i64 n])) w' := by
  subst h
  exact ⟨_, rfl, Own.empty _ _, hb⟩
theorem ChoRet.yes {r : List (List UInt8) × Int} {q : List (List UInt8)} {y : Value} {w0 w' : World} (h : r = (q, 0)) (hs : Own w' w0.heap.size y q) (hb : Below w0.heap.size w0 w') : ChoRet r w0 (.returned (.tuple #[y, .int .i64 0])) w' := by
  subst h
  exact ⟨_, rfl, hs, hb⟩
theorem LenC.without {N : Nat} {q : List (List UInt8)} (h : EnS.LenC N q) (t v : List UInt8) : EnS.LenC N (EnS.withoutS t q v) := by
  have hs := EnS.without_sub t q v
  exact ⟨Nat.le_trans hs.length_le h.1, fun v hv => h.2 v (hs.subset hv)⟩

set_option maxRecDepth 100000 in
set_option maxHeartbeats 2000000 in
theorem rho0_c (t ty : List UInt8) (syn : Int) (l vs : List (List UInt8)) (vo vl : Value) (w0 w : World) (hb0 : Below w0.heap.size w0 w) (hE : Env w0) (ht : t.length ≤ 1048576) (ho : Own w w0.heap.size vo l) (hv : StrsIn w0 vl vs) (hl : EnS.LenC 400000 l) (hlv : EnS.LenC 400000 vs) :
    Calls Tryz.prog 29 #[.agg #[.int .i64 0, .string ⟨ty.toArray⟩, vl], .string ⟨t.toArray⟩, .int .i64 syn, vo] w (ChoRet (EnS.changeS EnS.upS 0 t syn l vs) w0) := by
  have HR0 : Hid (vs = [] → EnS.changeS EnS.upS 0 t syn l vs = ([], 19)) := Lib.hid (fun h => by unfold EnS.changeS; simp [h])
  have HR : Hid (vs ≠ [] → EnS.changeS EnS.upS 0 t syn l vs = EnS.addC t l (vs.drop 0)) := Lib.hid (fun h => by rw [EnS.change_0 h]; rfl)
  generalize EnS.changeS EnS.upS 0 t syn l vs = R at *
  obtain ⟨a2, c2, rfl, hc2, hat⟩ := SliceP.at (hv.strsP (fun _ => True) (fun _ _ => trivial))
  obtain ⟨a1, c1, rfl⟩ := ho.form
  have HAT := Lib.hid hat
  have HX := Lib.hid (fun k (h : k < vs.length) => hlv.2 vs[k] (List.getElem_mem h))
  have HNO := Lib.hid (fun k (hk : k < vs.length) (q : List (List UInt8)) h => EnS.addC_no (t := t) (l := q) hk h)
  have HYE := Lib.hid (fun k (hk : k < vs.length) (q : List (List UInt8)) h => EnS.addC_at (t := t) (l := q) hk h)
  have HND := Lib.hid (fun k (hk : vs.length ≤ k) (q : List (List UInt8)) => EnS.addC_end (t := t) (l := q) hk)
  have HVN : Hid (vs.length = 0 → vs = []) := Lib.hid (fun h => List.eq_nil_of_length_eq_zero h)
  have HFC := fun u (q : List (List UInt8)) x W hE (hx : x.length ≤ 1000000) h (hq : EnS.LenC 800000 q) => enwithin_c t x u q W hE ht hx h (by have := hq.1; omega) hq.2
  unfold NmBool at HFC
  have HEN := Lib.hid (fun W (hb : Below w0.heap.size w0 W) => hE.below hb)
  have HL : Hid (EnS.LenC (400000 + 0) l) := Lib.hid hl
  have hm : vs.length ≤ 400000 := hlv.1
  clear hat hv hl hlv hE ht
  obtain ⟨n, hnn⟩ : ∃ n, l.length = n := ⟨_, rfl⟩
  obtain ⟨m, hmm⟩ : ∃ m, vs.length = m := ⟨_, rfl⟩
  have HMM := Lib.hid hmm
  have HNN := Lib.hid hnn
  rw [hnn] at ho ⊢
  rw [hmm] at hm hc2 ⊢
  clear hnn hmm
  have hgA := grow1 w (.cells #[.int .i64 0, .string ⟨ty.toArray⟩, .slice a2 m c2] 39)
  have hwA := Whole.made w 39 #[.int .i64 0, .string ⟨ty.toArray⟩, .slice a2 m c2]
  have hzA := hb0.trans (hgA.mono hb0.size)
  have q0 := hwA.cell 0
  have q1 := hwA.cell 1
  have q2 := hwA.cell 2
  simp only [List.getElem?_toArray, List.getElem?_cons_zero, List.getElem?_cons_succ] at q0 q1 q2
  have hownA := ho.call hgA
  clear ho hgA hwA hb0
  cases hmz : ((m : Int) == 0) with
  | true =>
    have HQ := HR0.out (HVN.out (by rw [HMM.out]; simpa using hmz))
    clear HR0 HR HNO HYE HND HFC HX HAT HVN
    go_enter Tryz.func29, Tryz.ntmps29
    go_wp2_with fail
    go_ret2
    exact ChoRet.no HQ hzA
  | false =>
  have HR2 := Lib.hid (HR.out (fun h => by have h2 := HMM.out; rw [h] at h2; simp at h2; subst h2; simp at hmz))
  clear HR0 HR HVN
  go_enter Tryz.func29, Tryz.ntmps29
  go_wp2_with fail
  go_loopw [3, 30] (fun lv i wr => ∃ (k : Nat) (q : List (List UInt8)), k ≤ m ∧ i = .int .i64 k ∧ Own wr w0.heap.size lv q ∧ Hid (R = EnS.addC t q (vs.drop k)) ∧ Hid (EnS.LenC (400000 + k) q) ∧ Below w0.heap.size w0 wr) (fun _ i _ => m - (intOf i).toNat)
  case atStart => exact ⟨0, l, Nat.zero_le _, rfl, hownA, HR2, HL, hzA⟩
  case round =>
    obtain ⟨k, q, hk, rfl, hown, HA, HQL, hb⟩ := hrel
    clear HR2 HL hownA hzA q0 q1 q2
    obtain ⟨qa, qc, rfl⟩ := hown.form
    obtain ⟨QL, hQL⟩ : ∃ n, q.length = n := ⟨_, rfl⟩
    have hql := HQL.out.1
    by_cases hlt : k < m
    · have hlt2 : k < vs.length := by rw [HMM.out]; exact hlt
      obtain ⟨g, o, rfl, hg, _, hra⟩ := HAT.out k hlt2
      have c0 : wr.cell? ⟨g, o + k, none⟩ = some (strV (vs[k]'hlt2)) := by
        have : w0.cell? ⟨g, o + k * 1, none⟩ = some (strV (vs[k]'hlt2)) := hra
        rw [Nat.mul_one] at this
        exact (hb.cell (p := ⟨g, o + k, none⟩) hg).trans this
      have hxl := HX.out k hlt2
      have HNk := Lib.hid (fun h => HA.out.trans (HNO.out k hlt2 q h))
      have HYk := Lib.hid (fun h => HA.out.trans (HYE.out k hlt2 q h))
      have hcl := HFC _ q (vs[k]'hlt2) wr (HEN.out _ hb) hxl hown.strs ⟨by omega, HQL.out.2⟩
      generalize vs[k] = x at *
      unfold strV at c0
      generalize EnS.withinS t q x = WB at *
      have i0 : (0 : Int) ≤ (k : Int) := by omega
      have i3 : (k : Int) < (m : Int) := by omega
      rw [hQL] at hcl hown hql ⊢
      clear hra hlt2 HNO HYE HND HFC HX HAT HA
      go_wp2_with fail
      refine hcl.mono ?_; rintro e w2 ⟨rfl, hb2⟩
      have hz2 := hb.trans (hb2.mono hb.size)
      have hown2 := hown.call hb2
      have c02 := keepC c0 hb2
      clear hcl hown
      cases WB with
      | true =>
        have HQ := HNk.out rfl
        clear HNk HYk
        go_wp2_with fail
        go_ret2
        exact ChoRet.no HQ hz2
      | false =>
        have HQ := Lib.hid (HYk.out rfl)
        have HL2 : Hid (EnS.LenC (400000 + (k + 1)) (q ++ [x])) := Lib.hid ⟨by rw [List.length_append]; show q.length + 1 ≤ _; omega, fun v hv => by
          rcases List.mem_append.1 hv with hv | hv
          · exact HQL.out.2 v hv
          · rw [List.mem_singleton] at hv; subst hv; exact hxl⟩
        clear HNk HYk HQL
        have hgS := grow1 w2 (.cells #[.string ⟨x.toArray⟩] 9)
        have hwS := Whole.made w2 9 #[.string ⟨x.toArray⟩]
        have s0 := hwS.cell 0
        simp only [List.getElem?_toArray, List.getElem?_cons_zero] at s0
        have hoS := hown2.call hgS
        have hbS := hz2.trans (hgS.mono hz2.size)
        have hszS := hbS.size
        clear hwS
        go_wp2_with (at_builtin; refine push_str rfl _ _ rfl w0.heap.size _ q (by rfl) hoS w2.heap.size (by rfl) x s0 (by omega) hszS ?_)
        intro v6 w6 hlo6 hb6
        go_wp2_with fail
        go_roundw
        case rel => exact ⟨k + 1, q ++ [x], by omega, by go_num, hlo6, HQ, HL2, hbS.trans hb6⟩
        case measure => simp [intOf]; omega
    · have hkm : k = m := by omega
      subst hkm
      have HQ := HA.out.trans (HND.out k (by rw [HMM.out]; exact Nat.le_refl _) q)
      rw [hQL] at hown ⊢
      clear HA HNO HYE HND HFC HX HAT HQL
      go_wp2_with fail
      go_ret2
      exact ChoRet.yes HQ hown hb

set_option maxRecDepth 100000 in
set_option maxHeartbeats 2000000 in
theorem rho1_c (t ty : List UInt8) (syn : Int) (l vs : List (List UInt8)) (vo vl : Value) (w0 w : World) (hb0 : Below w0.heap.size w0 w) (hE : Env w0) (ht : t.length ≤ 1048576) (ho : Own w w0.heap.size vo l) (hv : StrsIn w0 vl vs) (hl : EnS.LenC 400000 l) (hlv : EnS.LenC 400000 vs) :
    Calls Tryz.prog 29 #[.agg #[.int .i64 1, .string ⟨ty.toArray⟩, vl], .string ⟨t.toArray⟩, .int .i64 syn, vo] w (ChoRet (EnS.changeS EnS.upS 1 t syn l vs) w0) := by
  have HR1 : Hid (l = [] → EnS.changeS EnS.upS 1 t syn l vs = ([], 16)) := Lib.hid (fun h => by unfold EnS.changeS; simp [h])
  have HR0 : Hid (l ≠ [] → vs = [] → EnS.changeS EnS.upS 1 t syn l vs = ([], 0)) := Lib.hid (fun h0 h => by unfold EnS.changeS; simp [h0, h])
  have HR : Hid (l ≠ [] → vs ≠ [] → EnS.changeS EnS.upS 1 t syn l vs = EnS.delC t l (vs.drop 0)) := Lib.hid (fun h0 h => by rw [EnS.change_1 h0 h]; rfl)
  generalize EnS.changeS EnS.upS 1 t syn l vs = R at *
  obtain ⟨a2, c2, rfl, hc2, hat⟩ := SliceP.at (hv.strsP (fun _ => True) (fun _ _ => trivial))
  obtain ⟨a1, c1, rfl⟩ := ho.form
  have HAT := Lib.hid hat
  have HX := Lib.hid (fun k (h : k < vs.length) => hlv.2 vs[k] (List.getElem_mem h))
  have HNO := Lib.hid (fun k (hk : k < vs.length) (q : List (List UInt8)) (h : EnS.withinS t q vs[k] = false) => EnS.delC_no (t := t) (l := q) hk (by
    rw [← EnS.find_within] at h
    cases hf : EnS.findI t q vs[k] with
    | none => rfl
    | some i => rw [hf] at h; cases h))
  have HYE := Lib.hid (fun k (hk : k < vs.length) (q : List (List UInt8)) (h : EnS.withinS t q vs[k] = true) => EnS.delC_without (t := t) (l := q) hk (by rw [EnS.find_within]; exact h))
  have HND := Lib.hid (fun k (hk : vs.length ≤ k) (q : List (List UInt8)) => EnS.delC_end (t := t) (l := q) hk)
  have HVN : Hid (vs.length = 0 → vs = []) := Lib.hid (fun h => List.eq_nil_of_length_eq_zero h)
  have HLN : Hid (l.length = 0 → l = []) := Lib.hid (fun h => List.eq_nil_of_length_eq_zero h)
  have HFC := fun u (q : List (List UInt8)) x W hE (hx : x.length ≤ 1000000) h (hq : EnS.LenC 400000 q) => without2_c t x u q W hE ht hx h (by have := hq.1; omega) hq.2
  unfold WoRet2 at HFC
  have HEN := Lib.hid (fun W (hb : Below w0.heap.size w0 W) => hE.below hb)
  have HL := Lib.hid hl
  have hm : vs.length ≤ 400000 := hlv.1
  clear hat hv hl hlv hE ht
  obtain ⟨n, hnn⟩ : ∃ n, l.length = n := ⟨_, rfl⟩
  obtain ⟨m, hmm⟩ : ∃ m, vs.length = m := ⟨_, rfl⟩
  have HMM := Lib.hid hmm
  have HNN := Lib.hid hnn
  rw [hnn] at ho ⊢
  rw [hmm] at hm hc2 ⊢
  clear hnn hmm
  have hgA := grow1 w (.cells #[.int .i64 1, .string ⟨ty.toArray⟩, .slice a2 m c2] 39)
  have hwA := Whole.made w 39 #[.int .i64 1, .string ⟨ty.toArray⟩, .slice a2 m c2]
  have hzA := hb0.trans (hgA.mono hb0.size)
  have q0 := hwA.cell 0
  have q1 := hwA.cell 1
  have q2 := hwA.cell 2
  simp only [List.getElem?_toArray, List.getElem?_cons_zero, List.getElem?_cons_succ] at q0 q1 q2
  have hownA := ho.call hgA
  clear ho hgA hwA hb0
  cases hnz : ((n : Int) == 0) with
  | true =>
    have HQ := HR1.out (HLN.out (by rw [HNN.out]; simpa using hnz))
    clear HR1 HR0 HR HNO HYE HND HFC HX HAT HVN HLN
    go_enter Tryz.func29, Tryz.ntmps29
    go_wp2_with fail
    go_ret2
    exact ChoRet.no HQ hzA
  | false =>
  have hl0 : l ≠ [] := fun h => by have h2 := HNN.out; rw [h] at h2; simp at h2; subst h2; simp at hnz
  have HR3 := Lib.hid (HR.out hl0)
  have HR4 := Lib.hid (HR0.out hl0)
  clear HR1 HR0 HR HLN hl0
  cases hmz : ((m : Int) == 0) with
  | true =>
    have HQ := HR4.out (HVN.out (by rw [HMM.out]; simpa using hmz))
    clear HR3 HR4 HNO HYE HND HFC HX HAT HVN
    go_enter Tryz.func29, Tryz.ntmps29
    go_wp2_with fail
    go_ret2
    exact ChoRet.no HQ hzA
  | false =>
  have HR2 := Lib.hid (HR3.out (fun h => by have h2 := HMM.out; rw [h] at h2; simp at h2; subst h2; simp at hmz))
  clear HR3 HR4 HVN
  go_enter Tryz.func29, Tryz.ntmps29
  go_wp2_with fail
  go_loopw [3, 59] (fun lv i wr => ∃ (k : Nat) (q : List (List UInt8)), k ≤ m ∧ i = .int .i64 k ∧ Own wr w0.heap.size lv q ∧ Hid (R = EnS.delC t q (vs.drop k)) ∧ Hid (EnS.LenC 400000 q) ∧ Below w0.heap.size w0 wr) (fun _ i _ => m - (intOf i).toNat)
  case atStart => exact ⟨0, l, Nat.zero_le _, rfl, hownA, HR2, HL, hzA⟩
  case round =>
    obtain ⟨k, q, hk, rfl, hown, HA, HQL, hb⟩ := hrel
    clear HR2 HL hownA hzA q0 q1 q2
    obtain ⟨qa, qc, rfl⟩ := hown.form
    obtain ⟨QL, hQL⟩ : ∃ n, q.length = n := ⟨_, rfl⟩
    have hql := HQL.out.1
    by_cases hlt : k < m
    · have hlt2 : k < vs.length := by rw [HMM.out]; exact hlt
      obtain ⟨g, o, rfl, hg, _, hra⟩ := HAT.out k hlt2
      have c0 : wr.cell? ⟨g, o + k, none⟩ = some (strV (vs[k]'hlt2)) := by
        have : w0.cell? ⟨g, o + k * 1, none⟩ = some (strV (vs[k]'hlt2)) := hra
        rw [Nat.mul_one] at this
        exact (hb.cell (p := ⟨g, o + k, none⟩) hg).trans this
      have hxl := HX.out k hlt2
      have HNk := Lib.hid (fun h => HA.out.trans (HNO.out k hlt2 q h))
      have HYk := Lib.hid (fun h => HA.out.trans (HYE.out k hlt2 q h))
      have hcl := HFC _ q (vs[k]'hlt2) wr (HEN.out _ hb) hxl hown.strs HQL.out
      have HL2 := Lib.hid (LenC.without HQL.out t (vs[k]'hlt2))
      generalize vs[k] = x at *
      unfold strV at c0
      generalize EnS.withinS t q x = WB at *
      generalize EnS.withoutS t q x = QW at *
      have i0 : (0 : Int) ≤ (k : Int) := by omega
      have i3 : (k : Int) < (m : Int) := by omega
      rw [hQL] at hcl hown hql ⊢
      clear hra hlt2 HNO HYE HND HFC HX HAT HA HQL
      go_wp2_with fail
      refine hcl.mono ?_; rintro e w2 ⟨v2, rfl, ho2, hb2⟩
      have hz2 := hb.trans (hb2.mono hb.size)
      have hown2 := ho2.mono (B' := w0.heap.size) hb.size
      clear hcl hown ho2
      cases WB with
      | true =>
        have HQ := Lib.hid (HYk.out rfl)
        clear HNk HYk
        go_wp2_with fail
        go_roundw
        case rel => exact ⟨k + 1, QW, by omega, by go_num, hown2, HQ, HL2, hz2⟩
        case measure => simp [intOf]; omega
      | false =>
        have HQ := HNk.out rfl
        clear HNk HYk
        go_wp2_with fail
        go_ret2
        exact ChoRet.no HQ hz2
    · have hkm : k = m := by omega
      subst hkm
      have HQ := HA.out.trans (HND.out k (by rw [HMM.out]; exact Nat.le_refl _) q)
      rw [hQL] at hown ⊢
      clear HA HNO HYE HND HFC HX HAT HQL
      go_wp2_with fail
      go_ret2
      exact ChoRet.yes HQ hown hb

set_option maxRecDepth 100000 in
set_option maxHeartbeats 2000000 in
theorem rho2_c (t ty : List UInt8) (syn : Int) (l vs : List (List UInt8)) (vo vl : Value) (w0 w : World) (hb0 : Below w0.heap.size w0 w) (hE : Env w0) (ht : t.length ≤ 1048576) (ho : Own w w0.heap.size vo l) (hv : StrsIn w0 vl vs) (hlv : EnS.LenC 400000 vs) :
    Calls Tryz.prog 29 #[.agg #[.int .i64 2, .string ⟨ty.toArray⟩, vl], .string ⟨t.toArray⟩, .int .i64 syn, vo] w (ChoRet (EnS.changeS EnS.upS 2 t syn l vs) w0) := by
  have hbs := build0
  have HR1 : Hid (EnS.aloneS t vs = true → EnS.changeS EnS.upS 2 t syn l vs = (vs, 0)) := Lib.hid (fun h => by rw [EnS.change_2, if_pos h])
  have HR2 : Hid (EnS.aloneS t vs = false → EnS.changeS EnS.upS 2 t syn l vs = ([], 20)) := Lib.hid (fun h => by rw [EnS.change_2, h, if_neg (by simp)])
  generalize EnS.changeS EnS.upS 2 t syn l vs = R at *
  have HV := Lib.hid (fun W (hb : Below w0.heap.size w0 W) => hv.call hb (Nat.le_refl _))
  have htw := fun W (hb : Below w0.heap.size w0 W) hE => enalone_c t vl vs W hE ht (hv.call hb (Nat.le_refl _)) (by have := hlv.1; omega) hlv.2
  unfold NmBool at htw
  obtain ⟨a2, c2, rfl⟩ := hv.form
  obtain ⟨a1, c1, rfl⟩ := ho.form
  have HEN := Lib.hid (fun W (hb : Below w0.heap.size w0 W) => hE.below hb)
  have hm : vs.length ≤ 400000 := hlv.1
  generalize EnS.aloneS t vs = A at *
  clear hv hlv hE ht ho
  generalize l.length = n at *
  obtain ⟨m, hmm⟩ : ∃ m, vs.length = m := ⟨_, rfl⟩
  have HMM := Lib.hid hmm
  rw [hmm] at hm HV htw ⊢
  clear hmm
  have hgA := grow1 w (.cells #[.int .i64 2, .string ⟨ty.toArray⟩, .slice a2 m c2] 39)
  have hwA := Whole.made w 39 #[.int .i64 2, .string ⟨ty.toArray⟩, .slice a2 m c2]
  have hzA := hb0.trans (hgA.mono hb0.size)
  have q0 := hwA.cell 0
  have q1 := hwA.cell 1
  have q2 := hwA.cell 2
  simp only [List.getElem?_toArray, List.getElem?_cons_zero, List.getElem?_cons_succ] at q0 q1 q2
  clear hgA hwA hb0
  go_enter Tryz.func29, Tryz.ntmps29
  go_wp2_with fail
  refine (htw _ hzA (HEN.out _ hzA)).mono ?_; rintro e w1 ⟨rfl, hb1⟩
  have hz1 := hzA.trans (hb1.mono hzA.size)
  clear htw
  cases A with
  | false =>
    have HQ := HR2.out rfl
    clear HR1 HR2
    go_wp2_with fail
    go_ret2
    exact ChoRet.no HQ hz1
  | true =>
    have HQ := HR1.out rfl
    clear HR1 HR2
    have hm0 := Own.made0 w1
    have hg1 := grow1 w1 (.cells #[] 9)
    have hz2 := hz1.trans (hg1.mono hz1.size)
    have hsu2 := HV.out _ hz2
    clear q0 q1 q2 HV
    go_wp2_with (at_builtin; refine push_strs (by rfl) _ _ (by rfl) w1.heap.size _ [] (by rfl) hm0 _ vs (by rfl) hsu2 ?e1 ?e2 ?_)
    case e1 => rw [HMM.out]; simp; omega
    case e2 => exact hg1.size
    intro v' w2 hown2 hb2
    go_wp2_with fail
    go_ret2
    exact ChoRet.yes HQ (hown2.mono hz1.size) (hz2.trans (hb2.mono hz1.size))

set_option maxRecDepth 100000 in
set_option maxHeartbeats 1000000 in
theorem rho3_bad (t ty : List UInt8) (syn : Int) (l vs : List (List UInt8)) (vo vl : Value) (w0 w : World) (hb0 : Below w0.heap.size w0 w) (ho : Own w w0.heap.size vo l) (hv : StrsIn w0 vl vs) (h : (syn ≠ 3 ∧ syn ≠ 4) ∨ vs.length ≠ 1) :
    Calls Tryz.prog 29 #[.agg #[.int .i64 3, .string ⟨ty.toArray⟩, vl], .string ⟨t.toArray⟩, .int .i64 syn, vo] w (ChoRet (EnS.changeS EnS.upS 3 t syn l vs) w0) := by
  have HR := change_bad (t := t) (l := l) h
  obtain ⟨a2, c2, rfl⟩ := hv.form
  obtain ⟨a1, c1, rfl⟩ := ho.form
  generalize EnS.changeS EnS.upS 3 t syn l vs = R at *
  clear ho hv
  generalize l.length = n at *
  generalize vs.length = m at *
  have hgA := grow1 w (.cells #[.int .i64 3, .string ⟨ty.toArray⟩, .slice a2 m c2] 39)
  have hwA := Whole.made w 39 #[.int .i64 3, .string ⟨ty.toArray⟩, .slice a2 m c2]
  have hzA := hb0.trans (hgA.mono hb0.size)
  have q0 := hwA.cell 0
  have q1 := hwA.cell 1
  have q2 := hwA.cell 2
  simp only [List.getElem?_toArray, List.getElem?_cons_zero, List.getElem?_cons_succ] at q0 q1 q2
  clear hgA hwA hb0
  by_cases hs : syn ≠ 3 ∧ syn ≠ 4
  · have h3 : (syn != 3) = true := by simpa using hs.1
    have h4 : (syn != 4) = true := by simpa using hs.2
    clear h hs
    go_enter Tryz.func29, Tryz.ntmps29
    go_wp2_with fail
    go_ret2
    exact ChoRet.no HR hzA
  · have hm : m ≠ 1 := by rcases h with h | h; exact absurd h hs; exact h
    have hm1 : ((m : Int) != 1) = true := by simp; omega
    clear h
    by_cases h3 : syn = 3
    · subst h3
      clear hs hm
      go_enter Tryz.func29, Tryz.ntmps29
      go_wp2_with fail
      go_ret2
      exact ChoRet.no HR hzA
    · have h4 : syn = 4 := by omega
      subst h4
      clear hs hm h3
      go_enter Tryz.func29, Tryz.ntmps29
      go_wp2_with fail
      go_ret2
      exact ChoRet.no HR hzA

set_option maxRecDepth 100000 in
set_option maxHeartbeats 2000000 in
theorem rho33_c (t ty x : List UInt8) (l : List (List UInt8)) (vo vl : Value) (w0 w : World) (hb0 : Below w0.heap.size w0 w) (hE : Env w0) (ht : t.length ≤ 1048576) (hs : (RuS.typeOf t).2 = 3) (ho : Own w w0.heap.size vo l) (hv : StrsIn w0 vl [x]) (hl : EnS.LenC 400000 l) (hfl : EnS.fineS t l = true) (hx : (DnS.valueS t x).2 = 0) (lx : x.length ≤ 1000000) :
    Calls Tryz.prog 29 #[.agg #[.int .i64 3, .string ⟨ty.toArray⟩, vl], .string ⟨t.toArray⟩, .int .i64 3, vo] w (ChoRet (EnS.changeS EnS.upS 3 t 3 l [x]) w0) := by
  obtain ⟨a2, c2, rfl, hc2, hat2⟩ := SliceP.at (hv.strsP (fun _ => True) (fun _ _ => trivial))
  obtain ⟨g2, o2, rfl, hg2, _, hx0⟩ := hat2 0 (by simp)
  have c2x : w0.cell? ⟨g2, o2, none⟩ = some (.string ⟨x.toArray⟩) := by
    have : w0.cell? ⟨g2, o2 + 0 * 1, none⟩ = some (strV x) := hx0
    simpa [strV] using this
  simp only [List.length_cons, List.length_nil, Nat.zero_add] at hc2 ⊢
  clear hat2 hx0 hv
  obtain ⟨a1, c1, rfl⟩ := ho.form
  have hgA := grow1 w (.cells #[.int .i64 3, .string ⟨ty.toArray⟩, .slice (some ⟨g2, o2, none⟩) 1 c2] 39)
  have hwA := Whole.made w 39 #[.int .i64 3, .string ⟨ty.toArray⟩, .slice (some ⟨g2, o2, none⟩) 1 c2]
  have hzA := hb0.trans (hgA.mono hb0.size)
  have q0 := hwA.cell 0
  have q1 := hwA.cell 1
  have q2 := hwA.cell 2
  simp only [List.getElem?_toArray, List.getElem?_cons_zero, List.getElem?_cons_succ] at q0 q1 q2
  have hownA := ho.call hgA
  clear hgA hwA
  by_cases hl0 : l = []
  · subst hl0
    have HR := change_none (t := t) (x := x) (syn := 3) (by decide)
    generalize EnS.changeS EnS.upS 3 t 3 [] [x] = R at *
    simp only [List.length_nil]
    clear ho hl ht hfl hx hs hownA hb0
    go_enter Tryz.func29, Tryz.ntmps29
    go_wp2_with fail
    go_ret2
    exact ChoRet.no HR hzA
  have HR : Hid (EnS.changeS EnS.upS 3 t 3 l [x] = finC t ((EnS.incC EnS.upS t 3 x (l.drop 0)).map ([] ++ ·))) := Lib.hid (fin_start (by decide) hl0)
  generalize EnS.changeS EnS.upS 3 t 3 l [x] = R at *
  obtain ⟨_, _, e9, hc1, hat⟩ := SliceP.at (hownA.strs.strsP (fun _ => True) (fun _ _ => trivial))
  injection e9 with e91 e92 e93
  subst e91
  subst e93
  clear e92
  have HAT := Lib.hid hat
  have HX := Lib.hid (fun k (h : k < l.length) => hl.2 l[k] (List.getElem_mem h))
  have HFN := Lib.hid (fun k (h : k < l.length) => show (DnS.valueS t l[k]).2 = 0 from by
    unfold EnS.fineS at hfl
    exact of_decide_eq_true (List.all_eq_true.1 hfl _ (List.getElem_mem h)))
  have HNO := Lib.hid (fun k (hk : k < l.length) (q : List (List UInt8)) h => fin_no (t := t) (x := x) (syn := 3) (q := q) hk h)
  have HYE := Lib.hid (fun k (hk : k < l.length) (q : List (List UInt8)) z h => fin_at (t := t) (x := x) (s := z) (syn := 3) (q := q) hk h)
  have HND := Lib.hid (fun k (hk : l.length ≤ k) (q : List (List UInt8)) => fin_end (t := t) (x := x) (syn := 3) (q := q) hk)
  have HIC := fun v W hE (hv : (DnS.valueS t v).2 = 0) (lv : v.length ≤ 1000000) => rai_c t v x 3 (by decide) hs hv hx lv lx W hE
  unfold IncRet at HIC
  have HUL := Lib.hid (fun v z h => EnS.up_len (t := t) (v := v) (x := x) (s := z) (syn := 3) h)
  have HTW := fun u q W hE h (hq : EnS.LenC 400000 q) => enalone_c t u q W hE ht h (by have := hq.1; omega) hq.2
  unfold NmBool at HTW
  have HEN := Lib.hid (fun W (hb : Below w0.heap.size w0 W) => hE.below hb)
  have hn : l.length ≤ 400000 := hl.1
  have hn0 : l.length ≠ 0 := fun h => hl0 (List.eq_nil_of_length_eq_zero h)
  have hnz : ((l.length : Int) == 0) = false := by simpa using hn0
  have hL0 : Hid (EnS.LenC 0 ([] : List (List UInt8))) := Lib.hid ⟨Nat.le_refl _, fun v hv => by cases hv⟩
  have hszA := hzA.size
  clear hat ho hl hE hl0 hfl hx lx hs ht hb0
  obtain ⟨n, hnn⟩ : ∃ n, l.length = n := ⟨_, rfl⟩
  have HNN := Lib.hid hnn
  rw [hnn] at hn hn0 hnz hc1 ⊢
  clear hnn hn0
  go_enter Tryz.func29, Tryz.ntmps29
  go_wp2_with fail
  obtain ⟨wA, hwA⟩ : ∃ x, w.alloc (.cells #[.int .i64 3, .string ⟨ty.toArray⟩, .slice (some ⟨g2, o2, none⟩) 1 c2] 39) = x := ⟨_, rfl⟩
  rw [hwA] at HAT hzA hownA hszA q0 q1 q2 ⊢
  clear hwA
  go_loopw [14, 101] (fun av i wr => ∃ (k : Nat) (q : List (List UInt8)), k ≤ n ∧ i = .int .i64 k ∧ Own wr wA.heap.size av q ∧ Hid (R = finC t ((EnS.incC EnS.upS t 3 x (l.drop k)).map (q ++ ·))) ∧ Hid (EnS.LenC k q) ∧ Below wA.heap.size wA wr) (fun _ i _ => n - (intOf i).toNat)
  case atStart => exact ⟨0, [], Nat.zero_le _, rfl, Own.empty _ _, HR, hL0, Below.refl _ _⟩
  case round =>
    obtain ⟨k, q, hk, rfl, hown, HA, HQL, hb⟩ := hrel
    clear HR hL0 q0 q1 q2
    obtain ⟨qa, qc, rfl⟩ := hown.form
    obtain ⟨QL, hQL⟩ : ∃ n, q.length = n := ⟨_, rfl⟩
    have hql := HQL.out.1
    have hbz := hzA.trans (hb.mono hszA)
    rw [hQL] at hown hql ⊢
    by_cases hlt : k < n
    · have hlt2 : k < l.length := by rw [HNN.out]; exact hlt
      obtain ⟨g, o, rfl, hg, _, hra⟩ := HAT.out k hlt2
      have hbd := hb.drew
      have hbzd := hbz.drew
      have c0 : wr.drew.cell? ⟨g, o + k, none⟩ = some (strV (l[k]'hlt2)) := by
        have : wA.cell? ⟨g, o + k * 1, none⟩ = some (strV (l[k]'hlt2)) := hra
        rw [Nat.mul_one] at this
        exact (hbd.cell (p := ⟨g, o + k, none⟩) hg).trans this
      have c2r := (hbzd.cell (p := ⟨g2, o2, none⟩) hg2).trans c2x
      have hxl := HX.out k hlt2
      have hfv := HFN.out k hlt2
      have HNk := Lib.hid (fun h => HA.out.trans (HNO.out k hlt2 q h))
      have HYk := Lib.hid (fun z h => HA.out.trans (HYE.out k hlt2 q z h))
      have HUk := Lib.hid (fun z h => HUL.out (l[k]'hlt2) z h)
      have hcl := HIC (l[k]'hlt2) wr.drew (HEN.out _ hbzd) hfv hxl
      generalize l[k] = y at *
      unfold strV at c0
      generalize EnS.upS t 3 y x = U at *
      have i0 : (0 : Int) ≤ (k : Int) := by omega
      have i3 : (k : Int) < (n : Int) := by omega
      have hownd := hown.call (w' := wr.drew) (Below.refl _ _).drew
      clear hra hlt2 HNO HYE HND HX HAT HA HFN HIC HTW HUL hown
      go_wp2_with fail
      go_region_held3 (fun W => W.cell? ⟨g, o + k, none⟩ = some (.string ⟨y.toArray⟩) ∧ W.cell? ⟨g2, o2, none⟩ = some (.string ⟨x.toArray⟩)) (first | exact ⟨c0, c2r⟩ | exact ⟨keepC c0 hb2', keepC c2r hb2'⟩ | go_keep)
        (first | (go_at_call 59; (with_reducible refine hcl.mono ?_); rintro e w2 ⟨s2, b2, rfl, hb2, hs2, hb2'⟩))
      have hz2 := hbd.trans (hb2'.mono hbd.size)
      have hzz2 := hbzd.trans (hb2'.mono hbzd.size)
      have hown2 := hownd.call hb2'
      clear hcl hownd
      cases U with
      | none =>
        have HQ := HNk.out rfl
        have hbf : b2 = false := hb2
        subst hbf
        clear HNk HYk hs2 hb2 HUk
        go_wp2_with fail
        go_ret2
        exact ChoRet.no HQ hzz2
      | some z =>
        have HQ := Lib.hid (HYk.out z rfl)
        have hbf : b2 = true := hb2
        have hsz : s2 = z := hs2 z rfl
        subst hbf
        subst hsz
        have hul := HUk.out s2 rfl
        have HL2 : Hid (EnS.LenC (k + 1) (q ++ [s2])) := Lib.hid ⟨by rw [List.length_append]; show q.length + 1 ≤ _; omega, fun v hv => by
          rcases List.mem_append.1 hv with hv | hv
          · exact HQL.out.2 v hv
          · rw [List.mem_singleton] at hv; subst hv; omega⟩
        clear HNk HYk hs2 HUk hb2 HQL
        have hgS := grow1 w2 (.cells #[.string ⟨s2.toArray⟩] 9)
        have hwS := Whole.made w2 9 #[.string ⟨s2.toArray⟩]
        have s0 := hwS.cell 0
        simp only [List.getElem?_toArray, List.getElem?_cons_zero] at s0
        have hoS := hown2.call hgS
        have hbS := hz2.trans (hgS.mono hz2.size)
        have hszS := hbS.size
        clear hwS
        go_wp2_with (at_builtin; refine push_str rfl _ _ rfl wA.heap.size _ q (by rfl) hoS w2.heap.size (by rfl) s2 s0 (by omega) hszS ?_)
        intro v6 w6 hlo6 hb6
        go_wp2_with fail
        go_roundw
        case rel => exact ⟨k + 1, q ++ [s2], by omega, by go_num, hlo6, HQ, HL2, hbS.trans hb6⟩
        case measure => simp [intOf]; omega
    · have hkm : k = n := by omega
      subst hkm
      have HQ := Lib.hid (HA.out.trans (HND.out k (by rw [HNN.out]; exact Nat.le_refl _) q))
      have htw := HTW (.slice qa QL qc) q wr (HEN.out _ hbz) hown.strs ⟨by omega, HQL.out.2⟩
      generalize EnS.aloneS t q = A at *
      have HSQ := Lib.hid (fun W (hb : Below wr.heap.size wr W) => (hown.call hb).mono (B' := w0.heap.size) hszA)
      clear HA HNO HYE HND HX HAT HFN HIC HTW HUL hown HQL
      go_wp2_with fail
      refine htw.mono ?_; rintro e w2 ⟨rfl, hb2⟩
      have hz2 := hbz.trans (hb2.mono hbz.size)
      have hs2 := HSQ.out _ hb2
      cases A with
      | true =>
        have HQ2 := HQ.out
        clear HQ htw
        go_wp2_with fail
        go_ret2
        exact ChoRet.yes HQ2 hs2 hz2
      | false =>
        have HQ2 := HQ.out
        clear HQ htw
        go_wp2_with fail
        go_ret2
        exact ChoRet.no HQ2 hz2

set_option maxRecDepth 100000 in
set_option maxHeartbeats 2000000 in
theorem rho34_c (t ty x : List UInt8) (l : List (List UInt8)) (vo vl : Value) (w0 w : World) (hb0 : Below w0.heap.size w0 w) (hE : Env w0) (ht : t.length ≤ 1048576) (hs : (RuS.typeOf t).2 = 4) (ho : Own w w0.heap.size vo l) (hv : StrsIn w0 vl [x]) (hl : EnS.LenC 400000 l) (hfl : EnS.fineS t l = true) (hx : (DnS.valueS t x).2 = 0) (lx : x.length ≤ 1000000) :
    Calls Tryz.prog 29 #[.agg #[.int .i64 3, .string ⟨ty.toArray⟩, vl], .string ⟨t.toArray⟩, .int .i64 4, vo] w (ChoRet (EnS.changeS EnS.upS 3 t 4 l [x]) w0) := by
  obtain ⟨a2, c2, rfl, hc2, hat2⟩ := SliceP.at (hv.strsP (fun _ => True) (fun _ _ => trivial))
  obtain ⟨g2, o2, rfl, hg2, _, hx0⟩ := hat2 0 (by simp)
  have c2x : w0.cell? ⟨g2, o2, none⟩ = some (.string ⟨x.toArray⟩) := by
    have : w0.cell? ⟨g2, o2 + 0 * 1, none⟩ = some (strV x) := hx0
    simpa [strV] using this
  simp only [List.length_cons, List.length_nil, Nat.zero_add] at hc2 ⊢
  clear hat2 hx0 hv
  obtain ⟨a1, c1, rfl⟩ := ho.form
  have hgA := grow1 w (.cells #[.int .i64 3, .string ⟨ty.toArray⟩, .slice (some ⟨g2, o2, none⟩) 1 c2] 39)
  have hwA := Whole.made w 39 #[.int .i64 3, .string ⟨ty.toArray⟩, .slice (some ⟨g2, o2, none⟩) 1 c2]
  have hzA := hb0.trans (hgA.mono hb0.size)
  have q0 := hwA.cell 0
  have q1 := hwA.cell 1
  have q2 := hwA.cell 2
  simp only [List.getElem?_toArray, List.getElem?_cons_zero, List.getElem?_cons_succ] at q0 q1 q2
  have hownA := ho.call hgA
  clear hgA hwA
  by_cases hl0 : l = []
  · subst hl0
    have HR := change_none (t := t) (x := x) (syn := 4) (by decide)
    generalize EnS.changeS EnS.upS 3 t 4 [] [x] = R at *
    simp only [List.length_nil]
    clear ho hl ht hfl hx hs hownA hb0
    go_enter Tryz.func29, Tryz.ntmps29
    go_wp2_with fail
    go_ret2
    exact ChoRet.no HR hzA
  have HR : Hid (EnS.changeS EnS.upS 3 t 4 l [x] = finC t ((EnS.incC EnS.upS t 4 x (l.drop 0)).map ([] ++ ·))) := Lib.hid (fin_start (by decide) hl0)
  generalize EnS.changeS EnS.upS 3 t 4 l [x] = R at *
  obtain ⟨_, _, e9, hc1, hat⟩ := SliceP.at (hownA.strs.strsP (fun _ => True) (fun _ _ => trivial))
  injection e9 with e91 e92 e93
  subst e91
  subst e93
  clear e92
  have HAT := Lib.hid hat
  have HX := Lib.hid (fun k (h : k < l.length) => hl.2 l[k] (List.getElem_mem h))
  have HFN := Lib.hid (fun k (h : k < l.length) => show (DnS.valueS t l[k]).2 = 0 from by
    unfold EnS.fineS at hfl
    exact of_decide_eq_true (List.all_eq_true.1 hfl _ (List.getElem_mem h)))
  have HNO := Lib.hid (fun k (hk : k < l.length) (q : List (List UInt8)) h => fin_no (t := t) (x := x) (syn := 4) (q := q) hk h)
  have HYE := Lib.hid (fun k (hk : k < l.length) (q : List (List UInt8)) z h => fin_at (t := t) (x := x) (s := z) (syn := 4) (q := q) hk h)
  have HND := Lib.hid (fun k (hk : l.length ≤ k) (q : List (List UInt8)) => fin_end (t := t) (x := x) (syn := 4) (q := q) hk)
  have HIC := fun v W hE (hv : (DnS.valueS t v).2 = 0) (lv : v.length ≤ 1000000) => rai_c t v x 4 (by decide) hs hv hx lv lx W hE
  unfold IncRet at HIC
  have HUL := Lib.hid (fun v z h => EnS.up_len (t := t) (v := v) (x := x) (s := z) (syn := 4) h)
  have HTW := fun u q W hE h (hq : EnS.LenC 400000 q) => enalone_c t u q W hE ht h (by have := hq.1; omega) hq.2
  unfold NmBool at HTW
  have HEN := Lib.hid (fun W (hb : Below w0.heap.size w0 W) => hE.below hb)
  have hn : l.length ≤ 400000 := hl.1
  have hn0 : l.length ≠ 0 := fun h => hl0 (List.eq_nil_of_length_eq_zero h)
  have hnz : ((l.length : Int) == 0) = false := by simpa using hn0
  have hL0 : Hid (EnS.LenC 0 ([] : List (List UInt8))) := Lib.hid ⟨Nat.le_refl _, fun v hv => by cases hv⟩
  have hszA := hzA.size
  clear hat ho hl hE hl0 hfl hx lx hs ht hb0
  obtain ⟨n, hnn⟩ : ∃ n, l.length = n := ⟨_, rfl⟩
  have HNN := Lib.hid hnn
  rw [hnn] at hn hn0 hnz hc1 ⊢
  clear hnn hn0
  go_enter Tryz.func29, Tryz.ntmps29
  go_wp2_with fail
  obtain ⟨wA, hwA⟩ : ∃ x, w.alloc (.cells #[.int .i64 3, .string ⟨ty.toArray⟩, .slice (some ⟨g2, o2, none⟩) 1 c2] 39) = x := ⟨_, rfl⟩
  rw [hwA] at HAT hzA hownA hszA q0 q1 q2 ⊢
  clear hwA
  go_loopw [14, 101] (fun av i wr => ∃ (k : Nat) (q : List (List UInt8)), k ≤ n ∧ i = .int .i64 k ∧ Own wr wA.heap.size av q ∧ Hid (R = finC t ((EnS.incC EnS.upS t 4 x (l.drop k)).map (q ++ ·))) ∧ Hid (EnS.LenC k q) ∧ Below wA.heap.size wA wr) (fun _ i _ => n - (intOf i).toNat)
  case atStart => exact ⟨0, [], Nat.zero_le _, rfl, Own.empty _ _, HR, hL0, Below.refl _ _⟩
  case round =>
    obtain ⟨k, q, hk, rfl, hown, HA, HQL, hb⟩ := hrel
    clear HR hL0 q0 q1 q2
    obtain ⟨qa, qc, rfl⟩ := hown.form
    obtain ⟨QL, hQL⟩ : ∃ n, q.length = n := ⟨_, rfl⟩
    have hql := HQL.out.1
    have hbz := hzA.trans (hb.mono hszA)
    rw [hQL] at hown hql ⊢
    by_cases hlt : k < n
    · have hlt2 : k < l.length := by rw [HNN.out]; exact hlt
      obtain ⟨g, o, rfl, hg, _, hra⟩ := HAT.out k hlt2
      have hbd := hb.drew
      have hbzd := hbz.drew
      have c0 : wr.drew.cell? ⟨g, o + k, none⟩ = some (strV (l[k]'hlt2)) := by
        have : wA.cell? ⟨g, o + k * 1, none⟩ = some (strV (l[k]'hlt2)) := hra
        rw [Nat.mul_one] at this
        exact (hbd.cell (p := ⟨g, o + k, none⟩) hg).trans this
      have c2r := (hbzd.cell (p := ⟨g2, o2, none⟩) hg2).trans c2x
      have hxl := HX.out k hlt2
      have hfv := HFN.out k hlt2
      have HNk := Lib.hid (fun h => HA.out.trans (HNO.out k hlt2 q h))
      have HYk := Lib.hid (fun z h => HA.out.trans (HYE.out k hlt2 q z h))
      have HUk := Lib.hid (fun z h => HUL.out (l[k]'hlt2) z h)
      have hcl := HIC (l[k]'hlt2) wr.drew (HEN.out _ hbzd) hfv hxl
      generalize l[k] = y at *
      unfold strV at c0
      generalize EnS.upS t 4 y x = U at *
      have i0 : (0 : Int) ≤ (k : Int) := by omega
      have i3 : (k : Int) < (n : Int) := by omega
      have hownd := hown.call (w' := wr.drew) (Below.refl _ _).drew
      clear hra hlt2 HNO HYE HND HX HAT HA HFN HIC HTW HUL hown
      go_wp2_with fail
      go_region_held3 (fun W => W.cell? ⟨g, o + k, none⟩ = some (.string ⟨y.toArray⟩) ∧ W.cell? ⟨g2, o2, none⟩ = some (.string ⟨x.toArray⟩)) (first | exact ⟨c0, c2r⟩ | exact ⟨keepC c0 hb2', keepC c2r hb2'⟩ | go_keep)
        (first | (go_at_call 59; (with_reducible refine hcl.mono ?_); rintro e w2 ⟨s2, b2, rfl, hb2, hs2, hb2'⟩))
      have hz2 := hbd.trans (hb2'.mono hbd.size)
      have hzz2 := hbzd.trans (hb2'.mono hbzd.size)
      have hown2 := hownd.call hb2'
      clear hcl hownd
      cases U with
      | none =>
        have HQ := HNk.out rfl
        have hbf : b2 = false := hb2
        subst hbf
        clear HNk HYk hs2 hb2 HUk
        go_wp2_with fail
        go_ret2
        exact ChoRet.no HQ hzz2
      | some z =>
        have HQ := Lib.hid (HYk.out z rfl)
        have hbf : b2 = true := hb2
        have hsz : s2 = z := hs2 z rfl
        subst hbf
        subst hsz
        have hul := HUk.out s2 rfl
        have HL2 : Hid (EnS.LenC (k + 1) (q ++ [s2])) := Lib.hid ⟨by rw [List.length_append]; show q.length + 1 ≤ _; omega, fun v hv => by
          rcases List.mem_append.1 hv with hv | hv
          · exact HQL.out.2 v hv
          · rw [List.mem_singleton] at hv; subst hv; omega⟩
        clear HNk HYk hs2 HUk hb2 HQL
        have hgS := grow1 w2 (.cells #[.string ⟨s2.toArray⟩] 9)
        have hwS := Whole.made w2 9 #[.string ⟨s2.toArray⟩]
        have s0 := hwS.cell 0
        simp only [List.getElem?_toArray, List.getElem?_cons_zero] at s0
        have hoS := hown2.call hgS
        have hbS := hz2.trans (hgS.mono hz2.size)
        have hszS := hbS.size
        clear hwS
        go_wp2_with (at_builtin; refine push_str rfl _ _ rfl wA.heap.size _ q (by rfl) hoS w2.heap.size (by rfl) s2 s0 (by omega) hszS ?_)
        intro v6 w6 hlo6 hb6
        go_wp2_with fail
        go_roundw
        case rel => exact ⟨k + 1, q ++ [s2], by omega, by go_num, hlo6, HQ, HL2, hbS.trans hb6⟩
        case measure => simp [intOf]; omega
    · have hkm : k = n := by omega
      subst hkm
      have HQ := Lib.hid (HA.out.trans (HND.out k (by rw [HNN.out]; exact Nat.le_refl _) q))
      have htw := HTW (.slice qa QL qc) q wr (HEN.out _ hbz) hown.strs ⟨by omega, HQL.out.2⟩
      generalize EnS.aloneS t q = A at *
      have HSQ := Lib.hid (fun W (hb : Below wr.heap.size wr W) => (hown.call hb).mono (B' := w0.heap.size) hszA)
      clear HA HNO HYE HND HX HAT HFN HIC HTW HUL hown HQL
      go_wp2_with fail
      refine htw.mono ?_; rintro e w2 ⟨rfl, hb2⟩
      have hz2 := hbz.trans (hb2.mono hbz.size)
      have hs2 := HSQ.out _ hb2
      cases A with
      | true =>
        have HQ2 := HQ.out
        clear HQ htw
        go_wp2_with fail
        go_ret2
        exact ChoRet.yes HQ2 hs2 hz2
      | false =>
        have HQ2 := HQ.out
        clear HQ htw
        go_wp2_with fail
        go_ret2
        exact ChoRet.no HQ2 hz2

theorem rhange_c (op : Int) (t ty : List UInt8) (l vs : List (List UInt8)) (vo vl : Value) (w0 w : World) (hop : 0 ≤ op ∧ op ≤ 3) (hb0 : Below w0.heap.size w0 w) (hE : Env w0) (ht : t.length ≤ 1048576) (ho : Own w w0.heap.size vo l) (hv : StrsIn w0 vl vs) (hl : EnS.LenC 400000 l) (hlv : EnS.LenC 400000 vs) (hfl : EnS.fineS t l = true) (hfv : EnS.fineS t vs = true) :
    Calls Tryz.prog 29 #[.agg #[.int .i64 op, .string ⟨ty.toArray⟩, vl], .string ⟨t.toArray⟩, .int .i64 (RuS.typeOf t).2, vo] w (ChoRet (EnS.changeS EnS.upS op t (RuS.typeOf t).2 l vs) w0) := by
  have h : op = 0 ∨ op = 1 ∨ op = 2 ∨ op = 3 := by omega
  rcases h with rfl | rfl | rfl | rfl
  · exact rho0_c t ty _ l vs vo vl w0 w hb0 hE ht ho hv hl hlv
  · exact rho1_c t ty _ l vs vo vl w0 w hb0 hE ht ho hv hl hlv
  · exact rho2_c t ty _ l vs vo vl w0 w hb0 hE ht ho hv hlv
  · by_cases hb : ((RuS.typeOf t).2 ≠ 3 ∧ (RuS.typeOf t).2 ≠ 4) ∨ vs.length ≠ 1
    · exact rho3_bad t ty _ l vs vo vl w0 w hb0 ho hv hb
    · obtain ⟨x, rfl⟩ : ∃ x, vs = [x] := by
        match vs, (show vs.length = 1 by omega) with
        | [x], _ => exact ⟨x, rfl⟩
      have hx : (DnS.valueS t x).2 = 0 := by unfold EnS.fineS at hfv; simpa using hfv
      have lx := hlv.2 x (List.mem_singleton.2 rfl)
      have h34 : (RuS.typeOf t).2 = 3 ∨ (RuS.typeOf t).2 = 4 := by omega
      rcases h34 with h3 | h4
      · rw [h3]; exact rho33_c t ty x l vo vl w0 w hb0 hE ht h3 ho hv hl hfl hx lx
      · rw [h4]; exact rho34_c t ty x l vo vl w0 w hb0 hE ht h4 ho hv hl hfl hx lx
end Go.Proofs.YtmnhgbkdahdoiaaGreatDoor
