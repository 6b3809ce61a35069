/- The walks of 'Formed' of a part. Conditions: as stated. -/
import Derived.Laws.BitsLemmas
import Derived.Deep.DrawnRows
import Derived.Deep.RegionHeld3
import Derived.Laws.OwnMore
import Derived.Deep.AppendLies
import Derived.Test.YtjmfknfponjgkaaGreatDoorJAva
import Derived.Test.YtjmfknfponjgkaaGreatDoorJRue
import Derived.Test.YtjmfknfponjgkaaGreatDoorJRuS
import Derived.Test.YtjmfknfponjgkaaGreatDoorJMem
set_option maxRecDepth 100000
set_option maxHeartbeats 8000000
namespace Go.Proofs.YtjmfknfponjgkaaGreatDoor
section
open Go.RowKit
def FmRet (xs : List RdS.Pr) (w : World) (e : Ending) (w' : World) : Prop := e = .returned (.bool (RdS.formedS xs)) /\ Below w.heap.size w w'
def FmLoop (xs : List RdS.Pr) (w : World) (l i : Value) (wr : World) : Prop :=
 ∃ k : Nat, k <= xs.length /\ i = .int .i64 k /\ l = .string ⟨(RdS.lastT xs k).toArray⟩ /\ RdS.okTo xs k = true /\ Below w.heap.size w wr
def PairsFit (xs : List RdS.Pr) : Prop := ∀ p ∈ xs, p.1.length <= 9223372036854775807 /\ p.2.length <= 9223372036854775807
theorem formed_any (v : Value) (xs : List RdS.Pr) (w : World) (h : AvasIn w v xs) (hf : PairsFit xs) (hE : Env w) : Calls Tryz.prog 159 #[v] w (FmRet xs w) := by
 obtain ⟨a, c, rfl, hc, h⟩ := h
 have HF := hZ9 (RdS.formed_okTo xs)
 rcases h with rfl | ⟨g, o, rfl, hg, h⟩
 · go_enter Tryz.func159, Tryz.ntmps159
   go_wp2_with fail
   go_ret
   exact ⟨rfl, Below.refl _ _⟩
 · have H := hZ9 h
   have HFI := hZ9 hf
   generalize hn : xs.length = n at *
   have HN := hZ9 hn
   clear h hf hn
   by_cases hn0 : n = 0
   · subst hn0
     go_enter Tryz.func159, Tryz.ntmps159
     go_wp2_with fail
     go_ret
     exact ⟨by rw [HF.out]; rfl, Below.refl _ _⟩
   by_cases hn3 : 3 < n
   · have HB : Hid (decide (n <= 3) = false) := hZ9 (decide_eq_false (by omega))
     have hz : ((n : Int) == 0) = false := beq_eq_false_iff_ne.2 (by omega)
     go_enter Tryz.func159, Tryz.ntmps159
     go_wp2_with fail
     go_ret
     exact ⟨by rw [HF.out, HB.out]; simp, Below.refl _ _⟩
   have hz : ((n : Int) == 0) = false := beq_eq_false_iff_ne.2 (by omega)
   have HB : Hid (decide (1 <= n) = true /\ decide (n <= 3) = true) := hZ9 ⟨decide_eq_true (by omega), decide_eq_true (by omega)⟩
   have hd3 : decide ((3 : Int) < (n : Int)) = false := decide_eq_false (by omega)
   have hn3' : n <= 3 := by omega
   clear hn0 hn3
   go_enter Tryz.func159, Tryz.ntmps159
   go_wp2_with fail
   go_loopw [3, 20] (fun l i wr => FmLoop xs w l i wr) (fun _ i _ => n - (intOf i).toNat)
   case atStart => exact ⟨0, Nat.zero_le _, rfl, rfl, rfl, Below.refl _ _⟩
   case round =>
    obtain ⟨k, hk, rfl, rfl, hok, hb⟩ := hrel
    rw [HN.out] at hk
    have HOK := hZ9 hok
    clear hok
    by_cases hlt : k < n
    · have hlt2 : k < xs.length := by rw [HN.out]; exact hlt
      obtain ⟨c0, c1⟩ := H.out k _ (List.getElem?_eq_getElem hlt2)
      have HSUC := hZ9 (RdS.okTo_succ xs k hlt2)
      have HLS := hZ9 (RdS.lastT_succ xs k hlt2)
      have HFL := hZ9 (fun hp n hn => RdS.okTo_false hlt2 hp n hn)
      obtain ⟨f1, f2⟩ := HFI.out _ (List.getElem_mem hlt2)
      generalize xs[k] = p at *
      obtain ⟨t, u⟩ := p
      simp only at c0 c1 f1 f2
      replace c0 : wr.cell? ⟨g, o + k * 2, none⟩ = some (strV t) := (hb.cell (p := ⟨g, o + k * 2, none⟩) hg).trans c0
      replace c1 : wr.cell? ⟨g, o + k * 2 + 1, none⟩ = some (strV u) := (hb.cell (p := ⟨g, o + k * 2 + 1, none⟩) hg).trans c1
      unfold strV at c0 c1
      have HFA : Hid (RdS.pairOk (RdS.lastT xs k) (t, u) = false -> RdS.formedS xs = false) := hZ9 (fun hp => by
       rw [HF.out, HFL.out hp n hlt, Bool.and_false])
      have hty := fun w => type_c ⟨t.toArray⟩ f1 w
      unfold TypeRet at hty
      have dt : (⟨t.toArray⟩ : ByteArray).data.toList = t := rfl
      rw [dt] at hty
      clear dt
      have HP : Hid (RdS.pairOk (RdS.lastT xs k) (t, u) = (((RuS.typeOf t).1 == t) && ((RuS.typeOf t).2 == 1 || (RuS.typeOf t).2 == 3) && Op.bytesLess (RdS.lastT xs k) t && ((RuS.normal t u).2 == 0))) := hZ9 rfl
      generalize RdS.lastT xs k = last at *
      generalize RuS.typeOf t = r at *
      obtain ⟨t', sy⟩ := r
      simp only at hty
      have hbk := hb
      cases q1 : (t' == t) with
      | false =>
       have Q1 := hZ9 q1
       go_wp2_with fail
       refine (hty _).mono ?_; rintro e w1 ⟨rfl, hb1⟩
       have d0 : w1.cell? ⟨wr.heap.size, 0, none⟩ = some (.string ⟨t.toArray⟩) := keepC (by go_simp) hb1
       go_wp2_with fail
       go_ret
       exact ⟨by rw [HFA.out (by rw [HP.out]; simp only [Q1.out]; rfl)]; rfl, (hbk.alloc hbk.size _).trans (hb1.mono (by have := hbk.size; simp; omega))⟩
      | true =>
       have e1 := beq_iff_eq.1 q1
       subst e1
       clear q1
       have hs1 : t'.length <= 9223372036854775807 := f1
       by_cases q2 : sy = 1 \/ sy = 3
       · have hcr := RuS.compare_range last t'
         have hls := RuS.less_iff last t'
         have hls2 := RuS.less_iff t' last
         have heq := RuS.eq_iff t' last
         have hsw := RuS.compare_swap last t'
         rw [hsw] at hls2 heq
         generalize Lib.compareBytes last t' = cb at *
         have hcb : cb = -1 \/ cb = 0 \/ cb = 1 := by omega
         have Q2 : Hid ((sy == 1 || sy == 3) = true) := hZ9 (by rcases q2 with rfl | rfl <;> rfl)
         clear hsw hcr
         have hnm := fun w hE => rulenormal_c ⟨t'.toArray⟩ ⟨u.toArray⟩ f1 f2 w hE
         unfold NormRet at hnm
         have du : ∀ l : List UInt8, (⟨l.toArray⟩ : ByteArray).data.toList = l := fun _ => rfl
         rw [du, du] at hnm
         clear du
         generalize RuS.normal t' u = nr at *
         obtain ⟨x, e0⟩ := nr
         simp only at hnm
         rcases hcb with rfl | hcb
         · simp only [Int.reduceNeg, decide_true, Int.reduceEq, decide_false, Int.neg_neg] at hls hls2 heq
           have HLS2 := hZ9 hls
           clear hls
           by_cases q4 : e0 = 0
           · subst q4
             rcases q2 with rfl | rfl
             all_goals
              go_wp2_with fail
              refine (hty _).mono ?_; rintro e w1 ⟨rfl, hb1⟩
              have d0 : w1.cell? ⟨wr.heap.size, 0, none⟩ = some (.string ⟨t'.toArray⟩) := keepC (by go_simp) hb1
              have d1 : w1.cell? ⟨wr.heap.size, 1, none⟩ = some (.string ⟨u.toArray⟩) := keepC (by go_simp) hb1
              have hb2 : Below w.heap.size w w1 := (hbk.alloc hbk.size _).trans (hb1.mono (by have := hbk.size; simp; omega))
              go_wp2_with fail
              refine (hnm _ (hE.below hb2)).mono ?_; rintro e w2 ⟨rfl, hb3⟩
              have hb4 : Below w.heap.size w w2 := hb2.trans (hb3.mono hb2.size)
              go_wp2_with fail
              go_roundw
              case rel => exact ⟨k + 1, by rw [HN.out]; omega, by go_num, by rw [HLS.out], by rw [HSUC.out, HOK.out, HP.out]; simp [HLS2.out], hb4⟩
              case measure => simp [intOf]; omega
           · have hz4 : (e0 == 0) = false := by simpa using q4
             have hz5 : (e0 != 0) = true := by simpa using q4
             have Q4 := hZ9 hz4
             clear q4
             rcases q2 with rfl | rfl
             all_goals
              go_wp2_with fail
              refine (hty _).mono ?_; rintro e w1 ⟨rfl, hb1⟩
              have d0 : w1.cell? ⟨wr.heap.size, 0, none⟩ = some (.string ⟨t'.toArray⟩) := keepC (by go_simp) hb1
              have d1 : w1.cell? ⟨wr.heap.size, 1, none⟩ = some (.string ⟨u.toArray⟩) := keepC (by go_simp) hb1
              have hb2 : Below w.heap.size w w1 := (hbk.alloc hbk.size _).trans (hb1.mono (by have := hbk.size; simp; omega))
              go_wp2_with fail
              refine (hnm _ (hE.below hb2)).mono ?_; rintro e w2 ⟨rfl, hb3⟩
              have hb4 : Below w.heap.size w w2 := hb2.trans (hb3.mono hb2.size)
              go_wp2_with fail
              go_ret
              exact ⟨by rw [HFA.out (by rw [HP.out]; simp only [Q4.out, Bool.and_false])]; rfl, hb4⟩
         · have HLS2 : Hid (Op.bytesLess last t' = false) := hZ9 (by rw [hls, decide_eq_false (by omega)])
           have hle : (Op.bytesLess t' last || t' == last) = true := by
            rw [hls2, heq]
            rcases hcb with rfl | rfl <;> rfl
           clear hls hls2 heq hcb
           rcases q2 with rfl | rfl
           all_goals
            go_wp2_with fail
            refine (hty _).mono ?_; rintro e w1 ⟨rfl, hb1⟩
            have d0 : w1.cell? ⟨wr.heap.size, 0, none⟩ = some (.string ⟨t'.toArray⟩) := keepC (by go_simp) hb1
            go_wp2_with fail
            all_goals go_ret
            all_goals exact ⟨by rw [HFA.out (by rw [HP.out]; simp only [HLS2.out, Bool.and_false, Bool.false_and])]; rfl, (hbk.alloc hbk.size _).trans (hb1.mono (by have := hbk.size; simp; omega))⟩
       · have g1 : (sy != 1) = true := by simp; omega
         have g3 : (sy != 3) = true := by simp; omega
         have Q2 : Hid ((sy == 1 || sy == 3) = false) := hZ9 (by simp; omega)
         clear q2
         go_wp2_with fail
         refine (hty _).mono ?_; rintro e w1 ⟨rfl, hb1⟩
         have d0 : w1.cell? ⟨wr.heap.size, 0, none⟩ = some (.string ⟨t'.toArray⟩) := keepC (by go_simp) hb1
         go_wp2_with fail
         go_ret
         exact ⟨by rw [HFA.out (by rw [HP.out]; simp only [Q2.out, Bool.and_false, Bool.false_and])]; rfl, (hbk.alloc hbk.size _).trans (hb1.mono (by have := hbk.size; simp; omega))⟩
    · have hkn : k = n := by omega
      subst hkn
      go_wp2_with fail
      go_ret
      exact ⟨by rw [HF.out, HOK.out, HB.out.1, HB.out.2]; rfl, hb⟩
end
section
open Go.RowKit
attribute [local go_sem ↓] Go.wp_at_zero Go.wp_at_succ
def WrLoop (B b : Nat) (l0 v : List UInt8) (w : World) (i : Value) (wr : World) : Prop := ∃ k : Nat, k <= v.length /\ i = .int .i64 k /\ Bld B b (l0 ++ RdS.escTo v k) wr /\ Below B w wr /\ Others b w wr
theorem special_index (c : UInt8) : decide (0 <= Lib.indexByte RdS.specials c) = RdS.special c := by
 have h := RuS.indexByte_none RdS.specials c
 unfold RdS.special
 rw [Bool.eq_iff_iff, decide_eq_true_eq, List.contains_iff_mem]
 constructor
 · intro h1; exact Decidable.byContradiction fun hn => by have := h.2 hn; omega
 · intro h1; have : ¬ Lib.indexByte RdS.specials c < 0 := fun hn => h.1 hn h1
   omega
theorem escC_stroke {f l : Bool} {c : UInt8} (h : (RdS.special c || (c == 32 && (f || l)) || (c == 35 && f)) = true) : RdS.escC f l c = [92, c] := by
 unfold RdS.escC; rw [if_pos h]
theorem escC_hex {f l : Bool} {c : UInt8} (h : (RdS.special c || (c == 32 && (f || l)) || (c == 35 && f)) = false) (h2 : (decide (c.toNat < 32) || decide (126 < c.toNat)) = true) :
  RdS.escC f l c = [92, RdS.hexd (c.toNat / 16), RdS.hexd (c.toNat % 16)] := by
 unfold RdS.escC; rw [if_neg (by rw [h]; decide), if_pos h2]
theorem escC_plain {f l : Bool} {c : UInt8} (h : (RdS.special c || (c == 32 && (f || l)) || (c == 35 && f)) = false) (h2 : (decide (c.toNat < 32) || decide (126 < c.toNat)) = false) : RdS.escC f l c = [c] := by
 unfold RdS.escC; rw [if_neg (by rw [h]; decide), if_neg (by rw [h2]; decide)]
theorem u8_eqB {c d : UInt8} {n : Int} (hn : (d.toNat : Int) = n) : ((c.toNat : Int) == n) = (c == d) := by
 rw [Bool.eq_iff_iff, beq_iff_eq, beq_iff_eq, <- hn]
 exact ⟨fun h => UInt8.toNat_inj.1 (by omega), fun h => by rw [h]⟩
theorem hex_idx (n : Nat) (h : n < 16) (w : World) : (Instr.index 9 (.string ⟨#[48, 49, 50, 51, 52, 53, 54, 55, 56, 57, 97, 98, 99, 100, 101, 102]⟩) (.int .u8 (n : Int))).run Tryz.prog w = .ok (.int .u8 ((RdS.hexd n).toNat : Int)) w := by
 have hn : n = 0 \/ n = 1 \/ n = 2 \/ n = 3 \/ n = 4 \/ n = 5 \/ n = 6 \/ n = 7 \/ n = 8 \/ n = 9 \/ n = 10 \/ n = 11 \/ n = 12 \/ n = 13 \/ n = 14 \/ n = 15 := by omega
 rcases hn with rfl | rfl | rfl | rfl | rfl | rfl | rfl | rfl | rfl | rfl | rfl | rfl | rfl | rfl | rfl | rfl <;> (show _ = _; kernel_rfl)
theorem hex_hi (c : UInt8) (w : World) : (Instr.index 9 (.string ⟨#[48, 49, 50, 51, 52, 53, 54, 55, 56, 57, 97, 98, 99, 100, 101, 102]⟩) (.int .u8 ((c.toNat : Int) / 16))).run Tryz.prog w = .ok (.int .u8 ((RdS.hexd (c.toNat / 16)).toNat : Int)) w := by
 have h := hex_idx (c.toNat / 16) (by have := c.toNat_lt; omega) w
 rw [show ((c.toNat / 16 : Nat) : Int) = (c.toNat : Int) / 16 from by omega] at h
 exact h
theorem hex_lo (c : UInt8) (w : World) : (Instr.index 9 (.string ⟨#[48, 49, 50, 51, 52, 53, 54, 55, 56, 57, 97, 98, 99, 100, 101, 102]⟩) (.int .u8 ((c.toNat : Int) % 16))).run Tryz.prog w = .ok (.int .u8 ((RdS.hexd (c.toNat % 16)).toNat : Int)) w := by
 have h := hex_idx (c.toNat % 16) (by omega) w
 rw [show ((c.toNat % 16 : Nat) : Int) = (c.toNat : Int) % 16 from by omega] at h
 exact h
theorem write1_k (B b : Nat) (l0 v : List UInt8) (w : World) (h : Bld B b l0 w) (hl0 : l0.length <= 100000000) (hv : v.length <= 100000000) (hB : B <= w.heap.size) :
  Calls Tryz.prog 161 #[.pointer (some ⟨b, 0, none⟩), .string ⟨v.toArray⟩] w fun e w' => e = .returned (.tuple #[]) /\ Bld B b (l0 ++ RdS.escS v) w' /\ Below B w w' /\ Others b w w' := by
 go_enter Tryz.func161, Tryz.ntmps161
 go_wp2_with fail
 go_loopw [9] (fun i wr => WrLoop B b l0 v w i wr) (fun i _ => v.length - (intOf i).toNat)
 case atStart => exact ⟨0, Nat.zero_le _, rfl, by rw [show RdS.escTo v 0 = [] from rfl, List.append_nil]; exact h, Below.refl _ _, Others.refl _ _⟩
 case round =>
  obtain ⟨k, hk, rfl, hbl, hb, ho⟩ := hrel
  have HO := hZ9 ho
  clear ho
  by_cases hlt : k < v.length
  · have HS := hZ9 (RdS.escTo_succ v k hlt)
    have hle := RdS.escTo_len v k hk
    have hle2 : (l0 ++ RdS.escTo v k).length <= 500000000 := by rw [List.length_append]; omega
    have HIX := hZ9 (special_index v[k])
    generalize hcq : v[k] = c at *
    have hq2 : ∀ h, (⟨v.toArray⟩ : ByteArray)[k]'h = c := fun _ => hcq
    clear hcq hle
    have HA : Hid (∀ x, l0 ++ RdS.escTo v k ++ x = l0 ++ (RdS.escTo v k ++ x)) := hZ9 (fun x => List.append_assoc _ _ _)
    generalize hacc : l0 ++ RdS.escTo v k = acc at *
    have HACC := hZ9 hacc
    clear hacc
    have hsz := hb.size
    have hib := fun w => Tryz.strings_IndexByte ⟨#[44, 43, 34, 92, 60, 62, 59]⟩ (c.toNat : Int) w
    have hd1 : (⟨#[44, 43, 34, 92, 60, 62, 59]⟩ : ByteArray).data.toList = RdS.specials := rfl
    have hd2 : ((c.toNat : Int).toNat.toUInt8) = c := by rw [Int.toNat_natCast]; exact UInt8.ofNat_toNat
    rw [hd1, hd2] at hib
    clear hd1 hd2
    generalize Lib.indexByte RdS.specials c = ix at *
    replace hib := fun w => (hib w).mono (fun e w' (h : _ /\ _) => (⟨h.1, h.2.symm⟩ : e = .returned (.int .i64 ix) /\ w = w'))
    have e32 : ((c.toNat : Int) == 32) = (c == 32) := u8_eqB rfl
    have e35 : ((c.toNat : Int) == 35) = (c == 35) := u8_eqB rfl
    have ez : ((k : Int) == 0) = decide (k = 0) := by rw [Bool.eq_iff_iff, beq_iff_eq, decide_eq_true_eq]; omega
    have el : ((k : Int) == (v.length : Int) - 1) = decide (k + 1 = v.length) := by rw [Bool.eq_iff_iff, beq_iff_eq, decide_eq_true_eq]; omega
    have hfin : ∀ (x : List UInt8) (w' : World), RdS.escC (decide (k = 0)) (decide (k + 1 = v.length)) c = x -> BldU B b (acc ++ x) w' -> Below B w w' -> Others b w w' -> WrLoop B b l0 v w (.int .i64 ((k : Int) + 1)) w' := by
     intro x w' hx hu hb' ho'
     refine ⟨k + 1, by omega, by go_num, ?_, hb', ho'⟩
     rw [HS.out, hx, <- HA.out]
     exact hu.bld
    have HFIN := hZ9 hfin
    clear hfin
    generalize hqf : decide (k = 0) = qf at *
    generalize hql : decide (k + 1 = v.length) = ql at *
    generalize hq32 : (c == 32) = q32 at *
    generalize hq35 : (c == 35) = q35 at *
    have HQ32 := hZ9 hq32
    have HQ35 := hZ9 hq35
    have HBL := hZ9 hbl
    clear hqf hql hq32 hq35
    cases q32
    all_goals cases q35
    all_goals cases qf
    all_goals cases ql
    case false.false.false.false =>
     by_cases hix : 0 <= ix
     · have HSP : Hid (RdS.special c = true) := hZ9 (by rw [<- HIX.out, decide_eq_true hix])
       have HE : Hid (RdS.escC false false c = [92, c]) := hZ9 (escC_stroke (by rw [HSP.out]; rfl))
       go_wp2_with fail
       refine (hib _).mono ?_; rintro e w0 ⟨rfl, rfl⟩
       go_wp2_with fail
       refine (write_k B b acc wr.heap.size 2 2 [92, c] _ (HBL.out.alloc _) (by omega) (by simp; omega) rfl (by have := HBL.out.lt.1; omega) (two_cells (by simp [go_sem, byteV]) (by simp [go_sem, byteV]))).mono ?_
       rintro e w1 ⟨rfl, hu, hb1, ho1⟩
       go_wp2_with fail
       go_roundw
       case rel => exact HFIN.out _ _ HE.out hu ((hb.alloc (by omega) _).trans hb1) ((HO.out.alloc hsz _).trans ho1 (by simp; omega))
       case measure => simp [intOf]; omega
     · have HSP : Hid (RdS.special c = false) := hZ9 (by rw [<- HIX.out, decide_eq_false hix])
       have hixn : decide (0 <= ix) = false := decide_eq_false hix
       clear hix
       by_cases hu : c.toNat < 32 \/ 126 < c.toNat
       · have HU : Hid ((decide (c.toNat < 32) || decide (126 < c.toNat)) = true) := hZ9 (by rcases hu with hu | hu <;> simp [hu])
         have HE := hZ9 (escC_hex (f := false) (l := false) (c := c) (by rw [HSP.out, HQ32.out, HQ35.out]; rfl) HU.out)
         have hx1 := hex_hi c
         have hx2 := hex_lo c
         have hand : bits .and .u8 (c.toNat : Int) 15 = (c.toNat : Int) % 16 := u8_and15 (c.toNat : Int) (by omega) (by have := c.toNat_lt; omega)
         by_cases hlo : c.toNat < 32
         · have hu1 : decide ((c.toNat : Int) < 32) = true := decide_eq_true (by omega)
           clear hlo hu
           go_wp2_with fail
           refine (hib _).mono ?_; rintro e w0 ⟨rfl, rfl⟩
           go_wp2_with fail
           go_region_held3 (fun _ => True) (trivial)
            (first | (go_at_call 67; refine (write_k B b acc wr.heap.size 3 3 [92, RdS.hexd (c.toNat / 16), RdS.hexd (c.toNat % 16)] _ ((HBL.out.alloc _).drew) (by omega) (by simp; omega) rfl (by have := HBL.out.lt.1; omega) (three_cells (by simp [go_sem, byteV]) (by simp [go_sem, byteV]) (by simp [go_sem, byteV]))).mono ?_; rintro e w1 ⟨rfl, hu, hb1, ho1⟩))
           all_goals go_wp2_with fail
           all_goals go_roundw
           all_goals first | exact HFIN.out _ _ HE.out hu ((hb.alloc (by omega) _).drew.trans hb1) (((HO.out.alloc hsz _).drew).trans ho1 (by simp; omega)) | (simp [intOf]; omega)
         · have hu1 : decide ((c.toNat : Int) < 32) = false := decide_eq_false (by omega)
           have hu2 : decide ((126 : Int) < (c.toNat : Int)) = true := decide_eq_true (by omega)
           clear hlo hu
           go_wp2_with fail
           refine (hib _).mono ?_; rintro e w0 ⟨rfl, rfl⟩
           go_wp2_with fail
           go_region_held3 (fun _ => True) (trivial)
            (first | (go_at_call 67; refine (write_k B b acc wr.heap.size 3 3 [92, RdS.hexd (c.toNat / 16), RdS.hexd (c.toNat % 16)] _ ((HBL.out.alloc _).drew) (by omega) (by simp; omega) rfl (by have := HBL.out.lt.1; omega) (three_cells (by simp [go_sem, byteV]) (by simp [go_sem, byteV]) (by simp [go_sem, byteV]))).mono ?_; rintro e w1 ⟨rfl, hu, hb1, ho1⟩))
           all_goals go_wp2_with fail
           all_goals go_roundw
           all_goals first | exact HFIN.out _ _ HE.out hu ((hb.alloc (by omega) _).drew.trans hb1) (((HO.out.alloc hsz _).drew).trans ho1 (by simp; omega)) | (simp [intOf]; omega)
       · have HU : Hid ((decide (c.toNat < 32) || decide (126 < c.toNat)) = false) := hZ9 (by rw [decide_eq_false (fun h => hu (.inl h)), decide_eq_false (fun h => hu (.inr h))]; rfl)
         have hu1 : decide ((c.toNat : Int) < 32) = false := decide_eq_false (by omega)
         have hu2 : decide ((126 : Int) < (c.toNat : Int)) = false := decide_eq_false (by omega)
         clear hu
         have HE : Hid (RdS.escC false false c = [c]) := hZ9 (escC_plain (by rw [HSP.out, HQ32.out, HQ35.out]; rfl) (HU.out))
         go_wp2_with fail
         refine (hib _).mono ?_; rintro e w0 ⟨rfl, rfl⟩
         go_wp2_with fail
         refine (writeByte_k B b acc c _ HBL.out (by omega) (by omega)).mono ?_
         rintro e w1 ⟨rfl, hu, hb1, ho1⟩
         go_wp2_with fail
         go_roundw
         case rel => exact HFIN.out _ _ HE.out hu (hb.trans hb1) (HO.out.trans ho1 hsz)
         case measure => simp [intOf]; omega
    case false.false.false.true =>
     by_cases hix : 0 <= ix
     · have HSP : Hid (RdS.special c = true) := hZ9 (by rw [<- HIX.out, decide_eq_true hix])
       have HE : Hid (RdS.escC false true c = [92, c]) := hZ9 (escC_stroke (by rw [HSP.out]; rfl))
       go_wp2_with fail
       refine (hib _).mono ?_; rintro e w0 ⟨rfl, rfl⟩
       go_wp2_with fail
       refine (write_k B b acc wr.heap.size 2 2 [92, c] _ (HBL.out.alloc _) (by omega) (by simp; omega) rfl (by have := HBL.out.lt.1; omega) (two_cells (by simp [go_sem, byteV]) (by simp [go_sem, byteV]))).mono ?_
       rintro e w1 ⟨rfl, hu, hb1, ho1⟩
       go_wp2_with fail
       go_roundw
       case rel => exact HFIN.out _ _ HE.out hu ((hb.alloc (by omega) _).trans hb1) ((HO.out.alloc hsz _).trans ho1 (by simp; omega))
       case measure => simp [intOf]; omega
     · have HSP : Hid (RdS.special c = false) := hZ9 (by rw [<- HIX.out, decide_eq_false hix])
       have hixn : decide (0 <= ix) = false := decide_eq_false hix
       clear hix
       by_cases hu : c.toNat < 32 \/ 126 < c.toNat
       · have HU : Hid ((decide (c.toNat < 32) || decide (126 < c.toNat)) = true) := hZ9 (by rcases hu with hu | hu <;> simp [hu])
         have HE := hZ9 (escC_hex (f := false) (l := true) (c := c) (by rw [HSP.out, HQ32.out, HQ35.out]; rfl) HU.out)
         have hx1 := hex_hi c
         have hx2 := hex_lo c
         have hand : bits .and .u8 (c.toNat : Int) 15 = (c.toNat : Int) % 16 := u8_and15 (c.toNat : Int) (by omega) (by have := c.toNat_lt; omega)
         by_cases hlo : c.toNat < 32
         · have hu1 : decide ((c.toNat : Int) < 32) = true := decide_eq_true (by omega)
           clear hlo hu
           go_wp2_with fail
           refine (hib _).mono ?_; rintro e w0 ⟨rfl, rfl⟩
           go_wp2_with fail
           go_region_held3 (fun _ => True) (trivial)
            (first | (go_at_call 67; refine (write_k B b acc wr.heap.size 3 3 [92, RdS.hexd (c.toNat / 16), RdS.hexd (c.toNat % 16)] _ ((HBL.out.alloc _).drew) (by omega) (by simp; omega) rfl (by have := HBL.out.lt.1; omega) (three_cells (by simp [go_sem, byteV]) (by simp [go_sem, byteV]) (by simp [go_sem, byteV]))).mono ?_; rintro e w1 ⟨rfl, hu, hb1, ho1⟩))
           all_goals go_wp2_with fail
           all_goals go_roundw
           all_goals first | exact HFIN.out _ _ HE.out hu ((hb.alloc (by omega) _).drew.trans hb1) (((HO.out.alloc hsz _).drew).trans ho1 (by simp; omega)) | (simp [intOf]; omega)
         · have hu1 : decide ((c.toNat : Int) < 32) = false := decide_eq_false (by omega)
           have hu2 : decide ((126 : Int) < (c.toNat : Int)) = true := decide_eq_true (by omega)
           clear hlo hu
           go_wp2_with fail
           refine (hib _).mono ?_; rintro e w0 ⟨rfl, rfl⟩
           go_wp2_with fail
           go_region_held3 (fun _ => True) (trivial)
            (first | (go_at_call 67; refine (write_k B b acc wr.heap.size 3 3 [92, RdS.hexd (c.toNat / 16), RdS.hexd (c.toNat % 16)] _ ((HBL.out.alloc _).drew) (by omega) (by simp; omega) rfl (by have := HBL.out.lt.1; omega) (three_cells (by simp [go_sem, byteV]) (by simp [go_sem, byteV]) (by simp [go_sem, byteV]))).mono ?_; rintro e w1 ⟨rfl, hu, hb1, ho1⟩))
           all_goals go_wp2_with fail
           all_goals go_roundw
           all_goals first | exact HFIN.out _ _ HE.out hu ((hb.alloc (by omega) _).drew.trans hb1) (((HO.out.alloc hsz _).drew).trans ho1 (by simp; omega)) | (simp [intOf]; omega)
       · have HU : Hid ((decide (c.toNat < 32) || decide (126 < c.toNat)) = false) := hZ9 (by rw [decide_eq_false (fun h => hu (.inl h)), decide_eq_false (fun h => hu (.inr h))]; rfl)
         have hu1 : decide ((c.toNat : Int) < 32) = false := decide_eq_false (by omega)
         have hu2 : decide ((126 : Int) < (c.toNat : Int)) = false := decide_eq_false (by omega)
         clear hu
         have HE : Hid (RdS.escC false true c = [c]) := hZ9 (escC_plain (by rw [HSP.out, HQ32.out, HQ35.out]; rfl) (HU.out))
         go_wp2_with fail
         refine (hib _).mono ?_; rintro e w0 ⟨rfl, rfl⟩
         go_wp2_with fail
         refine (writeByte_k B b acc c _ HBL.out (by omega) (by omega)).mono ?_
         rintro e w1 ⟨rfl, hu, hb1, ho1⟩
         go_wp2_with fail
         go_roundw
         case rel => exact HFIN.out _ _ HE.out hu (hb.trans hb1) (HO.out.trans ho1 hsz)
         case measure => simp [intOf]; omega
    case false.false.true.false =>
     by_cases hix : 0 <= ix
     · have HSP : Hid (RdS.special c = true) := hZ9 (by rw [<- HIX.out, decide_eq_true hix])
       have HE : Hid (RdS.escC true false c = [92, c]) := hZ9 (escC_stroke (by rw [HSP.out]; rfl))
       go_wp2_with fail
       refine (hib _).mono ?_; rintro e w0 ⟨rfl, rfl⟩
       go_wp2_with fail
       refine (write_k B b acc wr.heap.size 2 2 [92, c] _ (HBL.out.alloc _) (by omega) (by simp; omega) rfl (by have := HBL.out.lt.1; omega) (two_cells (by simp [go_sem, byteV]) (by simp [go_sem, byteV]))).mono ?_
       rintro e w1 ⟨rfl, hu, hb1, ho1⟩
       go_wp2_with fail
       go_roundw
       case rel => exact HFIN.out _ _ HE.out hu ((hb.alloc (by omega) _).trans hb1) ((HO.out.alloc hsz _).trans ho1 (by simp; omega))
       case measure => simp [intOf]; omega
     · have HSP : Hid (RdS.special c = false) := hZ9 (by rw [<- HIX.out, decide_eq_false hix])
       have hixn : decide (0 <= ix) = false := decide_eq_false hix
       clear hix
       by_cases hu : c.toNat < 32 \/ 126 < c.toNat
       · have HU : Hid ((decide (c.toNat < 32) || decide (126 < c.toNat)) = true) := hZ9 (by rcases hu with hu | hu <;> simp [hu])
         have HE := hZ9 (escC_hex (f := true) (l := false) (c := c) (by rw [HSP.out, HQ32.out, HQ35.out]; rfl) HU.out)
         have hx1 := hex_hi c
         have hx2 := hex_lo c
         have hand : bits .and .u8 (c.toNat : Int) 15 = (c.toNat : Int) % 16 := u8_and15 (c.toNat : Int) (by omega) (by have := c.toNat_lt; omega)
         by_cases hlo : c.toNat < 32
         · have hu1 : decide ((c.toNat : Int) < 32) = true := decide_eq_true (by omega)
           clear hlo hu
           go_wp2_with fail
           refine (hib _).mono ?_; rintro e w0 ⟨rfl, rfl⟩
           go_wp2_with fail
           go_region_held3 (fun _ => True) (trivial)
            (first | (go_at_call 67; refine (write_k B b acc wr.heap.size 3 3 [92, RdS.hexd (c.toNat / 16), RdS.hexd (c.toNat % 16)] _ ((HBL.out.alloc _).drew) (by omega) (by simp; omega) rfl (by have := HBL.out.lt.1; omega) (three_cells (by simp [go_sem, byteV]) (by simp [go_sem, byteV]) (by simp [go_sem, byteV]))).mono ?_; rintro e w1 ⟨rfl, hu, hb1, ho1⟩))
           all_goals go_wp2_with fail
           all_goals go_roundw
           all_goals first | exact HFIN.out _ _ HE.out hu ((hb.alloc (by omega) _).drew.trans hb1) (((HO.out.alloc hsz _).drew).trans ho1 (by simp; omega)) | (simp [intOf]; omega)
         · have hu1 : decide ((c.toNat : Int) < 32) = false := decide_eq_false (by omega)
           have hu2 : decide ((126 : Int) < (c.toNat : Int)) = true := decide_eq_true (by omega)
           clear hlo hu
           go_wp2_with fail
           refine (hib _).mono ?_; rintro e w0 ⟨rfl, rfl⟩
           go_wp2_with fail
           go_region_held3 (fun _ => True) (trivial)
            (first | (go_at_call 67; refine (write_k B b acc wr.heap.size 3 3 [92, RdS.hexd (c.toNat / 16), RdS.hexd (c.toNat % 16)] _ ((HBL.out.alloc _).drew) (by omega) (by simp; omega) rfl (by have := HBL.out.lt.1; omega) (three_cells (by simp [go_sem, byteV]) (by simp [go_sem, byteV]) (by simp [go_sem, byteV]))).mono ?_; rintro e w1 ⟨rfl, hu, hb1, ho1⟩))
           all_goals go_wp2_with fail
           all_goals go_roundw
           all_goals first | exact HFIN.out _ _ HE.out hu ((hb.alloc (by omega) _).drew.trans hb1) (((HO.out.alloc hsz _).drew).trans ho1 (by simp; omega)) | (simp [intOf]; omega)
       · have HU : Hid ((decide (c.toNat < 32) || decide (126 < c.toNat)) = false) := hZ9 (by rw [decide_eq_false (fun h => hu (.inl h)), decide_eq_false (fun h => hu (.inr h))]; rfl)
         have hu1 : decide ((c.toNat : Int) < 32) = false := decide_eq_false (by omega)
         have hu2 : decide ((126 : Int) < (c.toNat : Int)) = false := decide_eq_false (by omega)
         clear hu
         have HE : Hid (RdS.escC true false c = [c]) := hZ9 (escC_plain (by rw [HSP.out, HQ32.out, HQ35.out]; rfl) (HU.out))
         go_wp2_with fail
         refine (hib _).mono ?_; rintro e w0 ⟨rfl, rfl⟩
         go_wp2_with fail
         refine (writeByte_k B b acc c _ HBL.out (by omega) (by omega)).mono ?_
         rintro e w1 ⟨rfl, hu, hb1, ho1⟩
         go_wp2_with fail
         go_roundw
         case rel => exact HFIN.out _ _ HE.out hu (hb.trans hb1) (HO.out.trans ho1 hsz)
         case measure => simp [intOf]; omega
    case false.false.true.true =>
     by_cases hix : 0 <= ix
     · have HSP : Hid (RdS.special c = true) := hZ9 (by rw [<- HIX.out, decide_eq_true hix])
       have HE : Hid (RdS.escC true true c = [92, c]) := hZ9 (escC_stroke (by rw [HSP.out]; rfl))
       go_wp2_with fail
       refine (hib _).mono ?_; rintro e w0 ⟨rfl, rfl⟩
       go_wp2_with fail
       refine (write_k B b acc wr.heap.size 2 2 [92, c] _ (HBL.out.alloc _) (by omega) (by simp; omega) rfl (by have := HBL.out.lt.1; omega) (two_cells (by simp [go_sem, byteV]) (by simp [go_sem, byteV]))).mono ?_
       rintro e w1 ⟨rfl, hu, hb1, ho1⟩
       go_wp2_with fail
       go_roundw
       case rel => exact HFIN.out _ _ HE.out hu ((hb.alloc (by omega) _).trans hb1) ((HO.out.alloc hsz _).trans ho1 (by simp; omega))
       case measure => simp [intOf]; omega
     · have HSP : Hid (RdS.special c = false) := hZ9 (by rw [<- HIX.out, decide_eq_false hix])
       have hixn : decide (0 <= ix) = false := decide_eq_false hix
       clear hix
       by_cases hu : c.toNat < 32 \/ 126 < c.toNat
       · have HU : Hid ((decide (c.toNat < 32) || decide (126 < c.toNat)) = true) := hZ9 (by rcases hu with hu | hu <;> simp [hu])
         have HE := hZ9 (escC_hex (f := true) (l := true) (c := c) (by rw [HSP.out, HQ32.out, HQ35.out]; rfl) HU.out)
         have hx1 := hex_hi c
         have hx2 := hex_lo c
         have hand : bits .and .u8 (c.toNat : Int) 15 = (c.toNat : Int) % 16 := u8_and15 (c.toNat : Int) (by omega) (by have := c.toNat_lt; omega)
         by_cases hlo : c.toNat < 32
         · have hu1 : decide ((c.toNat : Int) < 32) = true := decide_eq_true (by omega)
           clear hlo hu
           go_wp2_with fail
           refine (hib _).mono ?_; rintro e w0 ⟨rfl, rfl⟩
           go_wp2_with fail
           go_region_held3 (fun _ => True) (trivial)
            (first | (go_at_call 67; refine (write_k B b acc wr.heap.size 3 3 [92, RdS.hexd (c.toNat / 16), RdS.hexd (c.toNat % 16)] _ ((HBL.out.alloc _).drew) (by omega) (by simp; omega) rfl (by have := HBL.out.lt.1; omega) (three_cells (by simp [go_sem, byteV]) (by simp [go_sem, byteV]) (by simp [go_sem, byteV]))).mono ?_; rintro e w1 ⟨rfl, hu, hb1, ho1⟩))
           all_goals go_wp2_with fail
           all_goals go_roundw
           all_goals first | exact HFIN.out _ _ HE.out hu ((hb.alloc (by omega) _).drew.trans hb1) (((HO.out.alloc hsz _).drew).trans ho1 (by simp; omega)) | (simp [intOf]; omega)
         · have hu1 : decide ((c.toNat : Int) < 32) = false := decide_eq_false (by omega)
           have hu2 : decide ((126 : Int) < (c.toNat : Int)) = true := decide_eq_true (by omega)
           clear hlo hu
           go_wp2_with fail
           refine (hib _).mono ?_; rintro e w0 ⟨rfl, rfl⟩
           go_wp2_with fail
           go_region_held3 (fun _ => True) (trivial)
            (first | (go_at_call 67; refine (write_k B b acc wr.heap.size 3 3 [92, RdS.hexd (c.toNat / 16), RdS.hexd (c.toNat % 16)] _ ((HBL.out.alloc _).drew) (by omega) (by simp; omega) rfl (by have := HBL.out.lt.1; omega) (three_cells (by simp [go_sem, byteV]) (by simp [go_sem, byteV]) (by simp [go_sem, byteV]))).mono ?_; rintro e w1 ⟨rfl, hu, hb1, ho1⟩))
           all_goals go_wp2_with fail
           all_goals go_roundw
           all_goals first | exact HFIN.out _ _ HE.out hu ((hb.alloc (by omega) _).drew.trans hb1) (((HO.out.alloc hsz _).drew).trans ho1 (by simp; omega)) | (simp [intOf]; omega)
       · have HU : Hid ((decide (c.toNat < 32) || decide (126 < c.toNat)) = false) := hZ9 (by rw [decide_eq_false (fun h => hu (.inl h)), decide_eq_false (fun h => hu (.inr h))]; rfl)
         have hu1 : decide ((c.toNat : Int) < 32) = false := decide_eq_false (by omega)
         have hu2 : decide ((126 : Int) < (c.toNat : Int)) = false := decide_eq_false (by omega)
         clear hu
         have HE : Hid (RdS.escC true true c = [c]) := hZ9 (escC_plain (by rw [HSP.out, HQ32.out, HQ35.out]; rfl) (HU.out))
         go_wp2_with fail
         refine (hib _).mono ?_; rintro e w0 ⟨rfl, rfl⟩
         go_wp2_with fail
         refine (writeByte_k B b acc c _ HBL.out (by omega) (by omega)).mono ?_
         rintro e w1 ⟨rfl, hu, hb1, ho1⟩
         go_wp2_with fail
         go_roundw
         case rel => exact HFIN.out _ _ HE.out hu (hb.trans hb1) (HO.out.trans ho1 hsz)
         case measure => simp [intOf]; omega
    case false.true.false.false =>
     by_cases hix : 0 <= ix
     · have HSP : Hid (RdS.special c = true) := hZ9 (by rw [<- HIX.out, decide_eq_true hix])
       have HE : Hid (RdS.escC false false c = [92, c]) := hZ9 (escC_stroke (by rw [HSP.out]; rfl))
       go_wp2_with fail
       refine (hib _).mono ?_; rintro e w0 ⟨rfl, rfl⟩
       go_wp2_with fail
       refine (write_k B b acc wr.heap.size 2 2 [92, c] _ (HBL.out.alloc _) (by omega) (by simp; omega) rfl (by have := HBL.out.lt.1; omega) (two_cells (by simp [go_sem, byteV]) (by simp [go_sem, byteV]))).mono ?_
       rintro e w1 ⟨rfl, hu, hb1, ho1⟩
       go_wp2_with fail
       go_roundw
       case rel => exact HFIN.out _ _ HE.out hu ((hb.alloc (by omega) _).trans hb1) ((HO.out.alloc hsz _).trans ho1 (by simp; omega))
       case measure => simp [intOf]; omega
     · have HSP : Hid (RdS.special c = false) := hZ9 (by rw [<- HIX.out, decide_eq_false hix])
       have hixn : decide (0 <= ix) = false := decide_eq_false hix
       clear hix
       have hc : c.toNat = 35 := by rw [beq_iff_eq.1 HQ35.out]; rfl
       have HU : Hid ((decide (c.toNat < 32) || decide (126 < c.toNat)) = false) := hZ9 (by rw [hc]; rfl)
       have hu1 : decide ((c.toNat : Int) < 32) = false := decide_eq_false (by omega)
       have hu2 : decide ((126 : Int) < (c.toNat : Int)) = false := decide_eq_false (by omega)
       clear hc
       have HE : Hid (RdS.escC false false c = [c]) := hZ9 (escC_plain (by rw [HSP.out, HQ32.out, HQ35.out]; rfl) (HU.out))
       go_wp2_with fail
       refine (hib _).mono ?_; rintro e w0 ⟨rfl, rfl⟩
       go_wp2_with fail
       refine (writeByte_k B b acc c _ HBL.out (by omega) (by omega)).mono ?_
       rintro e w1 ⟨rfl, hu, hb1, ho1⟩
       go_wp2_with fail
       go_roundw
       case rel => exact HFIN.out _ _ HE.out hu (hb.trans hb1) (HO.out.trans ho1 hsz)
       case measure => simp [intOf]; omega
    case false.true.false.true =>
     by_cases hix : 0 <= ix
     · have HSP : Hid (RdS.special c = true) := hZ9 (by rw [<- HIX.out, decide_eq_true hix])
       have HE : Hid (RdS.escC false true c = [92, c]) := hZ9 (escC_stroke (by rw [HSP.out]; rfl))
       go_wp2_with fail
       refine (hib _).mono ?_; rintro e w0 ⟨rfl, rfl⟩
       go_wp2_with fail
       refine (write_k B b acc wr.heap.size 2 2 [92, c] _ (HBL.out.alloc _) (by omega) (by simp; omega) rfl (by have := HBL.out.lt.1; omega) (two_cells (by simp [go_sem, byteV]) (by simp [go_sem, byteV]))).mono ?_
       rintro e w1 ⟨rfl, hu, hb1, ho1⟩
       go_wp2_with fail
       go_roundw
       case rel => exact HFIN.out _ _ HE.out hu ((hb.alloc (by omega) _).trans hb1) ((HO.out.alloc hsz _).trans ho1 (by simp; omega))
       case measure => simp [intOf]; omega
     · have HSP : Hid (RdS.special c = false) := hZ9 (by rw [<- HIX.out, decide_eq_false hix])
       have hixn : decide (0 <= ix) = false := decide_eq_false hix
       clear hix
       have hc : c.toNat = 35 := by rw [beq_iff_eq.1 HQ35.out]; rfl
       have HU : Hid ((decide (c.toNat < 32) || decide (126 < c.toNat)) = false) := hZ9 (by rw [hc]; rfl)
       have hu1 : decide ((c.toNat : Int) < 32) = false := decide_eq_false (by omega)
       have hu2 : decide ((126 : Int) < (c.toNat : Int)) = false := decide_eq_false (by omega)
       clear hc
       have HE : Hid (RdS.escC false true c = [c]) := hZ9 (escC_plain (by rw [HSP.out, HQ32.out, HQ35.out]; rfl) (HU.out))
       go_wp2_with fail
       refine (hib _).mono ?_; rintro e w0 ⟨rfl, rfl⟩
       go_wp2_with fail
       refine (writeByte_k B b acc c _ HBL.out (by omega) (by omega)).mono ?_
       rintro e w1 ⟨rfl, hu, hb1, ho1⟩
       go_wp2_with fail
       go_roundw
       case rel => exact HFIN.out _ _ HE.out hu (hb.trans hb1) (HO.out.trans ho1 hsz)
       case measure => simp [intOf]; omega
    case false.true.true.false =>
     have HE : Hid (RdS.escC true false c = [92, c]) := hZ9 (escC_stroke (by rw [HQ32.out, HQ35.out]; simp))
     go_wp2_with fail
     refine (write_k B b acc wr.heap.size 2 2 [92, c] _ (HBL.out.alloc _) (by omega) (by simp; omega) rfl (by have := HBL.out.lt.1; omega) (two_cells (by simp [go_sem, byteV]) (by simp [go_sem, byteV]))).mono ?_
     rintro e w1 ⟨rfl, hu, hb1, ho1⟩
     go_wp2_with fail
     go_roundw
     case rel => exact HFIN.out _ _ HE.out hu ((hb.alloc (by omega) _).trans hb1) ((HO.out.alloc hsz _).trans ho1 (by simp; omega))
     case measure => simp [intOf]; omega
    case false.true.true.true =>
     have HE : Hid (RdS.escC true true c = [92, c]) := hZ9 (escC_stroke (by rw [HQ32.out, HQ35.out]; simp))
     go_wp2_with fail
     refine (write_k B b acc wr.heap.size 2 2 [92, c] _ (HBL.out.alloc _) (by omega) (by simp; omega) rfl (by have := HBL.out.lt.1; omega) (two_cells (by simp [go_sem, byteV]) (by simp [go_sem, byteV]))).mono ?_
     rintro e w1 ⟨rfl, hu, hb1, ho1⟩
     go_wp2_with fail
     go_roundw
     case rel => exact HFIN.out _ _ HE.out hu ((hb.alloc (by omega) _).trans hb1) ((HO.out.alloc hsz _).trans ho1 (by simp; omega))
     case measure => simp [intOf]; omega
    case true.false.false.false =>
     by_cases hix : 0 <= ix
     · have HSP : Hid (RdS.special c = true) := hZ9 (by rw [<- HIX.out, decide_eq_true hix])
       have HE : Hid (RdS.escC false false c = [92, c]) := hZ9 (escC_stroke (by rw [HSP.out]; rfl))
       go_wp2_with fail
       refine (hib _).mono ?_; rintro e w0 ⟨rfl, rfl⟩
       go_wp2_with fail
       refine (write_k B b acc wr.heap.size 2 2 [92, c] _ (HBL.out.alloc _) (by omega) (by simp; omega) rfl (by have := HBL.out.lt.1; omega) (two_cells (by simp [go_sem, byteV]) (by simp [go_sem, byteV]))).mono ?_
       rintro e w1 ⟨rfl, hu, hb1, ho1⟩
       go_wp2_with fail
       go_roundw
       case rel => exact HFIN.out _ _ HE.out hu ((hb.alloc (by omega) _).trans hb1) ((HO.out.alloc hsz _).trans ho1 (by simp; omega))
       case measure => simp [intOf]; omega
     · have HSP : Hid (RdS.special c = false) := hZ9 (by rw [<- HIX.out, decide_eq_false hix])
       have hixn : decide (0 <= ix) = false := decide_eq_false hix
       clear hix
       have hc : c.toNat = 32 := by rw [beq_iff_eq.1 HQ32.out]; rfl
       have HU : Hid ((decide (c.toNat < 32) || decide (126 < c.toNat)) = false) := hZ9 (by rw [hc]; rfl)
       have hu1 : decide ((c.toNat : Int) < 32) = false := decide_eq_false (by omega)
       have hu2 : decide ((126 : Int) < (c.toNat : Int)) = false := decide_eq_false (by omega)
       clear hc
       have HE : Hid (RdS.escC false false c = [c]) := hZ9 (escC_plain (by rw [HSP.out, HQ32.out, HQ35.out]; rfl) (HU.out))
       go_wp2_with fail
       refine (hib _).mono ?_; rintro e w0 ⟨rfl, rfl⟩
       go_wp2_with fail
       refine (writeByte_k B b acc c _ HBL.out (by omega) (by omega)).mono ?_
       rintro e w1 ⟨rfl, hu, hb1, ho1⟩
       go_wp2_with fail
       go_roundw
       case rel => exact HFIN.out _ _ HE.out hu (hb.trans hb1) (HO.out.trans ho1 hsz)
       case measure => simp [intOf]; omega
    case true.false.false.true =>
     have HE : Hid (RdS.escC false true c = [92, c]) := hZ9 (escC_stroke (by rw [HQ32.out, HQ35.out]; simp))
     go_wp2_with fail
     refine (write_k B b acc wr.heap.size 2 2 [92, c] _ (HBL.out.alloc _) (by omega) (by simp; omega) rfl (by have := HBL.out.lt.1; omega) (two_cells (by simp [go_sem, byteV]) (by simp [go_sem, byteV]))).mono ?_
     rintro e w1 ⟨rfl, hu, hb1, ho1⟩
     go_wp2_with fail
     go_roundw
     case rel => exact HFIN.out _ _ HE.out hu ((hb.alloc (by omega) _).trans hb1) ((HO.out.alloc hsz _).trans ho1 (by simp; omega))
     case measure => simp [intOf]; omega
    case true.false.true.false =>
     have HE : Hid (RdS.escC true false c = [92, c]) := hZ9 (escC_stroke (by rw [HQ32.out, HQ35.out]; simp))
     go_wp2_with fail
     refine (write_k B b acc wr.heap.size 2 2 [92, c] _ (HBL.out.alloc _) (by omega) (by simp; omega) rfl (by have := HBL.out.lt.1; omega) (two_cells (by simp [go_sem, byteV]) (by simp [go_sem, byteV]))).mono ?_
     rintro e w1 ⟨rfl, hu, hb1, ho1⟩
     go_wp2_with fail
     go_roundw
     case rel => exact HFIN.out _ _ HE.out hu ((hb.alloc (by omega) _).trans hb1) ((HO.out.alloc hsz _).trans ho1 (by simp; omega))
     case measure => simp [intOf]; omega
    case true.false.true.true =>
     have HE : Hid (RdS.escC true true c = [92, c]) := hZ9 (escC_stroke (by rw [HQ32.out, HQ35.out]; simp))
     go_wp2_with fail
     refine (write_k B b acc wr.heap.size 2 2 [92, c] _ (HBL.out.alloc _) (by omega) (by simp; omega) rfl (by have := HBL.out.lt.1; omega) (two_cells (by simp [go_sem, byteV]) (by simp [go_sem, byteV]))).mono ?_
     rintro e w1 ⟨rfl, hu, hb1, ho1⟩
     go_wp2_with fail
     go_roundw
     case rel => exact HFIN.out _ _ HE.out hu ((hb.alloc (by omega) _).trans hb1) ((HO.out.alloc hsz _).trans ho1 (by simp; omega))
     case measure => simp [intOf]; omega
    case true.true.false.false =>
     exact absurd ((beq_iff_eq.1 HQ32.out).symm.trans (beq_iff_eq.1 HQ35.out)) (by decide)
    case true.true.false.true =>
     exact absurd ((beq_iff_eq.1 HQ32.out).symm.trans (beq_iff_eq.1 HQ35.out)) (by decide)
    case true.true.true.false =>
     exact absurd ((beq_iff_eq.1 HQ32.out).symm.trans (beq_iff_eq.1 HQ35.out)) (by decide)
    case true.true.true.true =>
     exact absurd ((beq_iff_eq.1 HQ32.out).symm.trans (beq_iff_eq.1 HQ35.out)) (by decide)
  · have hall : k = v.length := by omega
    have HFN : Hid (RdS.escS v = RdS.escTo v v.length) := hZ9 rfl
    subst hall
    go_wp2_with fail
    go_end0
    exact ⟨rfl, by rw [HFN.out]; exact hbl, hb, HO.out⟩
theorem write1_c (B b : Nat) (l0 v : List UInt8) (w : World) (h : Bld B b l0 w) (hl0 : l0.length <= 100000000) (hv : v.length <= 100000000) (hB : B <= w.heap.size) :
  Calls Tryz.prog 161 #[.pointer (some ⟨b, 0, none⟩), .string ⟨v.toArray⟩] w fun e w' => e = .returned (.tuple #[]) /\ Bld B b (l0 ++ RdS.escS v) w' /\ Below B w w' :=
 (write1_k B b l0 v w h hl0 hv hB).mono fun _ _ h => ⟨h.1, h.2.1, h.2.2.1⟩
end
section
open Go.RowKit
theorem mk_extract (l : List UInt8) (a b : Nat) : (⟨l.toArray⟩ : ByteArray).extract a b = ⟨((l.take b).drop a).toArray⟩ := by
 apply ByteArray.ext
 rw [ByteArray.data_extract]
 apply Array.ext'
 simp [List.extract, List.drop_take]
theorem mk_app (l r : List UInt8) : (⟨l.toArray⟩ ++ ⟨r.toArray⟩ : ByteArray) = ⟨(l ++ r).toArray⟩ := by
 apply ByteArray.ext
 rw [ByteArray.data_append]
 simp
theorem u8_is {c n : UInt8} {k : Int} (hn : (n.toNat : Int) = k) (h : (c.toNat : Int) = k) : c = n := UInt8.toNat_inj.1 (by omega)
theorem cat_c (cur l : List UInt8) (a b : Nat) (h1 : cur.length <= 2000000) (h2 : l.length <= 1000000) {y : List UInt8} (hy : (l.take b).drop a = y) (w : World) :
  (Op.stringOp .add ⟨cur.toArray⟩ ((⟨l.toArray⟩ : ByteArray).extract a b)).run Tryz.prog w = .ok (.string ⟨(cur ++ y).toArray⟩) w := by
 rw [mk_extract, hy]
 have : y.length <= l.length := by rw [<- hy, List.length_drop, List.length_take]; omega
 rw [<- mk_app]
 exact run_string_add_sum w _ _ (by show cur.toArray.size + y.toArray.size <= _; simp; omega)
def SplitRet (sep : UInt8) (l : List UInt8) (w : World) (e : Ending) (w' : World) : Prop := ∃ v, e = .returned v /\ StrsIn w' v (RdS.splitE sep l) /\ Below w.heap.size w w'
def SplitLoop (sep : UInt8) (l : List UInt8) (w0 : World) (out i : Value) (wr : World) : Prop :=
 ∃ (k : Nat) (ys : List (List UInt8)) (cur : List UInt8), k <= l.length /\ i = .int .i64 k /\ Own wr w0.heap.size out (ys ++ [cur]) /\ ys.length <= k /\ cur.length <= k /\
  RdS.splitE sep l = ys ++ RdS.glue cur (RdS.splitE sep (l.drop k)) /\ Below w0.heap.size w0 wr
theorem Own.last {w : World} {B : Nat} {v : Value} {ys : List (List UInt8)} {cur : List UInt8} (h : Own w B v (ys ++ [cur])) : ∃ g c, v = .slice (some ⟨g, 0, none⟩) (ys.length + 1) c /\ B <= g /\
  w.cell? ⟨g, ys.length, none⟩ = some (strV cur) /\ w.frozen? ⟨g, ys.length, none⟩ = false /\ (∀ z : List UInt8, Own (w.setCell ⟨g, ys.length, none⟩ (strV z)) B v (ys ++ [z])) := by
 have hl : (ys ++ [cur]).length = ys.length + 1 := by simp
 have h0 := h
 unfold Own at h0
 rw [hl] at h0
 obtain ⟨g, cap, rfl, hg, _⟩ := World.ownsRow.form h0 (Nat.succ_pos _)
 refine ⟨g, cap, rfl, hg, ?_, World.ownsRow.frozenAt h0 _, fun z => ?_⟩
 · have := World.ownsRow.cells h0 (g := g) rfl ys.length (strV cur) (by rw [List.map_append, List.getElem?_append_right (by simp)]; simp)
   have hadd : (⟨g, 0, none⟩ : Addr).add ys.length = ⟨g, ys.length, none⟩ := by unfold Addr.add; split <;> simp_all
   rwa [hadd] at this
 · have := (World.ownsRow.stored h0 ys.length (strV z)).1
   unfold Own
   rw [show (ys ++ [z]).length = ys.length + 1 from by simp]
   rw [List.map_append, List.set_append_right _ _ (by simp)] at this
   rw [List.map_append]
   simpa using this
theorem rdsplit_c (l : List UInt8) (sep : UInt8) (hl : l.length <= 1000000) (h92 : sep ≠ 92) (w : World) : Calls Tryz.prog 157 #[.string ⟨l.toArray⟩, .int .u8 (sep.toNat : Int)] w (SplitRet sep l w) := by
 have hn92 : ((sep.toNat : Int) != 92) = true := by
  rw [bne_iff_ne]; intro h; exact h92 (u8_is (n := 92) rfl h)
 have H92 := hZ9 h92
 clear h92
 go_enter Tryz.func157, Tryz.ntmps157
 go_wp2_with fail
 go_loopw [5, 6] (fun out i wr => SplitLoop sep l w out i wr) (fun _ i _ => l.length - (intOf i).toNat)
 case atStart =>
  refine ⟨0, [], [], Nat.zero_le _, rfl, ?_, Nat.zero_le _, Nat.zero_le _, ?_, grow1 w _⟩
  · exact ⟨rfl, .inr ⟨w.heap.size, 1, #[.string ⟨#[]⟩], rfl, Nat.le_refl _, by show (w.heap.push _)[w.heap.size]? = _; rw [Array.getElem?_push_size], Nat.le_refl _, by unfold maxLen; omega, rfl, rfl⟩⟩
  · obtain ⟨p, ps, e⟩ := RdS.splitE_ne sep l
    rw [List.drop_zero, e]; rfl
 case round =>
  obtain ⟨k, ys, cur, hk, rfl, hown, hys, hcl, hsp, hb⟩ := hrel
  by_cases hlt : k < l.length
  · have HD := hZ9 (List.drop_eq_getElem_cons hlt)
    generalize hcq : l[k] = c at *
    have hq2 : ∀ h, (⟨l.toArray⟩ : ByteArray)[k]'h = c := fun _ => hcq
    have HK := hZ9 hk
    have HSP := hZ9 hsp
    have HOWN := hZ9 hown
    obtain ⟨g, cp, rfl, hg, hc, hfz, hset⟩ := hown.last
    have HSET := hZ9 hset
    unfold strV at hc
    clear hcq hsp hset hk
    cases hcs : (c == sep) with
    | true =>
     have HC := hZ9 (beq_iff_eq.1 hcs)
     have e1 : ((c.toNat : Int) == (sep.toNat : Int)) = true := by rw [beq_iff_eq.1 hcs]; exact beq_self_eq_true _
     clear hcs
     go_wp2_with (at_builtin; refine push_str (by rfl) _ _ (by rfl) w.heap.size (.slice (some ⟨g, 0, none⟩) (ys.length + 1) cp) (ys ++ [cur]) (by rfl) (HOWN.out.alloc _) wr.heap.size (by rfl) [] ?c1 ?c2 ?c3 ?_)
     case c1 => simp [go_sem, strV]
     case c2 => simp; omega
     case c3 => have := hb.size; simp; omega
     intro v' w2 hown2 hb2
     go_wp2_with fail
     go_roundw
     case rel =>
      refine ⟨k + 1, ys ++ [cur], [], hlt, by go_num, by rw [List.append_assoc]; exact hown2, by simp; omega, Nat.zero_le _, ?_, (hb.alloc hb.size _).trans hb2⟩
      rw [HSP.out, HD.out, HC.out, RdS.splitE_sep, RdS.glue_cons, List.append_nil, List.append_assoc]
      obtain ⟨p, ps, e⟩ := RdS.splitE_ne sep (l.drop (k + 1))
      rw [e]; rfl
     case measure => simp [intOf]; omega
    | false =>
     have HC : Hid (c ≠ sep) := hZ9 (by simpa using hcs)
     have e1 : ((c.toNat : Int) == (sep.toNat : Int)) = false := beq_eq_false_iff_ne.2 (fun h => HC.out (UInt8.toNat_inj.1 (by omega)))
     clear hcs
     have HFIN : Hid (∀ (k2 : Nat) (y : List UInt8) (i : Value), k2 <= l.length -> k <= k2 -> y.length <= k2 - k -> i = .int .i64 k2 -> RdS.splitE sep (l.drop k) = RdS.glue y (RdS.splitE sep (l.drop k2)) ->
       SplitLoop sep l w (.slice (some ⟨g, 0, none⟩) (ys.length + 1) cp) i (wr.drew.setCell ⟨g, ys.length, none⟩ (.string ⟨(cur ++ y).toArray⟩))) := hZ9 (fun k2 y i h1 h2 h3 hi h4 =>
      ⟨k2, ys, cur ++ y, h1, hi, HSET.out (cur ++ y), by omega, by rw [List.length_append]; omega, by rw [HSP.out, h4, RdS.glue_glue], hb.drew.setCell (p := ⟨g, ys.length, none⟩) hg _⟩)
     by_cases h92 : c = 92
     · have HC9 := hZ9 h92
       have e92 : ((c.toNat : Int) == 92) = true := by rw [h92]; rfl
       clear h92
       by_cases hk1 : k + 1 < l.length
       · have hmin : min ((k : Int) + 2) (l.length : Int) = (k : Int) + 2 := by omega
         have hy : (l.take (k + 2)).drop k = [92, l[k + 1]] := by
          rw [List.drop_take, HD.out, List.drop_eq_getElem_cons hk1, HC9.out, show k + 2 - k = 2 from by omega]; rfl
         have hadd := cat_c cur l k (k + 2) (by omega) (by omega) hy
         have HG : Hid (RdS.splitE sep (l.drop k) = RdS.glue [92, l[k + 1]] (RdS.splitE sep (l.drop (k + 2)))) := hZ9 (by
          rw [HD.out, HC9.out, List.drop_eq_getElem_cons hk1, RdS.splitE_stroke H92.out])
         clear hy
         generalize l[k + 1] = d at *
         go_wp2_with fail
         go_region
         all_goals go_wp2_with fail
         all_goals go_roundw
         all_goals first | (simp [intOf]; omega) | exact HFIN.out (k + 2) [92, d] _ (by omega) (by omega) (by simp) (by go_num) HG.out
       · have hke : k + 1 = l.length := by omega
         have hmin : min ((k : Int) + 2) (l.length : Int) = (l.length : Int) := by omega
         have hnil : l.drop (k + 1) = [] := by rw [hke]; exact List.drop_length
         have hy : (l.take l.length).drop k = [92] := by rw [List.take_length, HD.out, hnil, HC9.out]
         have hadd := cat_c cur l k l.length (by omega) (by omega) hy
         have HG : Hid (RdS.splitE sep (l.drop k) = RdS.glue [92] (RdS.splitE sep (l.drop l.length))) := hZ9 (by
          rw [HD.out, HC9.out, hnil, RdS.splitE_stroke1 H92.out, List.drop_length]; simp [RdS.splitE, RdS.glue])
         clear hy hnil
         go_wp2_with fail
         go_region
         all_goals go_wp2_with fail
         all_goals go_roundw
         all_goals first | (simp [intOf]; omega) | exact HFIN.out l.length [92] _ (by omega) (by omega) (by simp; omega) (by go_num) HG.out
     · have HC9 := hZ9 h92
       have e92 : ((c.toNat : Int) == 92) = false := beq_eq_false_iff_ne.2 (fun h => h92 (u8_is (n := 92) rfl h))
       have hadd := cat_c cur l k (k + 1) (by omega) (by omega) (show (l.take (k + 1)).drop k = [c] by rw [List.drop_take, HD.out]; simp)
       clear h92
       have HG : Hid (RdS.splitE sep (l.drop k) = RdS.glue [c] (RdS.splitE sep (l.drop (k + 1)))) := hZ9 (by rw [HD.out, RdS.splitE_plain HC.out HC9.out])
       go_wp2_with fail
       go_region
       all_goals go_wp2_with fail
       all_goals go_roundw
       all_goals first | (simp [intOf]; omega) | exact HFIN.out (k + 1) [c] _ (by omega) (by omega) (by simp) (by go_num) HG.out
  · have hkl : k = l.length := by omega
    subst hkl
    have hd : l.drop l.length = [] := List.drop_length
    rw [hd] at hsp
    have hsp2 : RdS.splitE sep l = ys ++ [cur] := by rw [hsp]; simp [RdS.splitE, RdS.glue]
    rw [<- hsp2] at hown
    clear hsp hsp2 hd
    go_wp2_with fail
    go_ret
    exact ⟨_, rfl, hown.strs, hb⟩
end
section
open Go.RowKit
def RefSplitLoop (sep : UInt8) (l : List UInt8) (w0 : World) (out fr i : Value) (wr : World) : Prop :=
 ∃ (k f : Nat) (ys : List (List UInt8)), k <= l.length + 1 /\ i = .int .i64 k /\ fr = .int .i64 f /\ f <= k /\ f <= l.length /\ Own wr w0.heap.size out ys /\ ys.length <= k /\
  RdS.splitE sep l = ys ++ RdS.glue ((l.take k).drop f) (RdS.splitE sep (l.drop k)) /\ Below w0.heap.size w0 wr
theorem take_drop_add (l : List UInt8) (f k j : Nat) (h : f <= k) (hk : k <= l.length) : (l.take (k + j)).drop f = (l.take k).drop f ++ (l.drop k).take j := by
 rw [List.take_add, List.drop_append]
 have : f - (l.take k).length = 0 := by rw [List.length_take]; omega
 rw [this, List.drop_zero]
theorem refsplit_c (l : List UInt8) (sep : UInt8) (hl : l.length <= 1000000) (h92 : sep ≠ 92) (w : World) : Calls Tryz.prog 178 #[.string ⟨l.toArray⟩, .int .u8 (sep.toNat : Int)] w (SplitRet sep l w) := by
 have H92 := hZ9 h92
 clear h92
 go_enter Tryz.func178, Tryz.ntmps178
 go_wp2_with fail
 go_loopw [5, 6, 7] (fun out fr i wr => RefSplitLoop sep l w out fr i wr) (fun _ _ i _ => l.length + 1 - (intOf i).toNat)
 case atStart =>
  refine ⟨0, 0, [], Nat.zero_le _, rfl, rfl, Nat.le_refl _, Nat.zero_le _, Own.empty _ _, Nat.zero_le _, ?_, Below.refl _ _⟩
  obtain ⟨p, ps, e⟩ := RdS.splitE_ne sep l
  simp [e, RdS.glue]
 case round =>
  obtain ⟨k, f, ys, hk, rfl, rfl, hfk, hfl, hown, hys, hsp, hb⟩ := hrel
  by_cases hlt : k < l.length
  · have HD := hZ9 (List.drop_eq_getElem_cons hlt)
    generalize hcq : l[k] = c at *
    have hq2 : ∀ h, (⟨l.toArray⟩ : ByteArray)[k]'h = c := fun _ => hcq
    have HK := hZ9 hk
    have HSP := hZ9 hsp
    have HTA := hZ9 (fun j => take_drop_add l f k j hfk (by omega))
    clear hcq hsp hk
    by_cases h92 : c = 92
    · have HC9 := hZ9 h92
      have e92 : ((c.toNat : Int) == 92) = true := by rw [h92]; rfl
      clear h92
      go_wp2_with fail
      go_roundw
      case rel =>
       refine ⟨k + 2, f, ys, by omega, by go_num, rfl, by omega, hfl, hown, by omega, ?_, hb⟩
       rw [HSP.out, HTA.out 2, HD.out, HC9.out]
       by_cases hk1 : k + 1 < l.length
       · rw [List.drop_eq_getElem_cons hk1, RdS.splitE_stroke H92.out, RdS.glue_glue]; rfl
       · have hnil : l.drop (k + 1) = [] := List.drop_of_length_le (by omega)
         have hnil2 : l.drop (k + 2) = [] := List.drop_of_length_le (by omega)
         rw [hnil, hnil2, RdS.splitE_stroke1 H92.out]; simp [RdS.splitE, RdS.glue]
      case measure => simp [intOf]; omega
    · have HC9 := hZ9 h92
      have e92 : ((c.toNat : Int) == 92) = false := beq_eq_false_iff_ne.2 (fun h => h92 (u8_is (n := 92) rfl h))
      clear h92
      cases hcs : (c == sep) with
      | true =>
       have HC := hZ9 (beq_iff_eq.1 hcs)
       have e1 : ((c.toNat : Int) == (sep.toNat : Int)) = true := by rw [beq_iff_eq.1 hcs]; exact beq_self_eq_true _
       clear hcs
       go_wp2_with (at_builtin; refine push_str (by rfl) _ _ (by rfl) w.heap.size _ ys (by rfl) (hown.alloc _) wr.heap.size (by rfl) ((l.take k).drop f) ?c1 ?c2 ?c3 ?_)
       case c1 => simp [go_sem, strV, mk_extract]
       case c2 => omega
       case c3 => have := hb.size; simp; omega
       intro v' w2 hown2 hb2
       go_wp2_with fail
       go_roundw
       case rel =>
        refine ⟨k + 1, k + 1, ys ++ [(l.take k).drop f], by omega, by go_num, by go_num, Nat.le_refl _, by omega, hown2, by simp; omega, ?_, (hb.alloc hb.size _).trans hb2⟩
        have e0 : (l.take (k + 1)).drop (k + 1) = [] := List.drop_of_length_le (by rw [List.length_take]; omega)
        obtain ⟨p, ps, e⟩ := RdS.splitE_ne sep (l.drop (k + 1))
        rw [HSP.out, HD.out, HC.out, RdS.splitE_sep, RdS.glue_cons, List.append_nil, List.append_assoc, e0, e]; rfl
       case measure => simp [intOf]; omega
      | false =>
       have HC : Hid (c ≠ sep) := hZ9 (by simpa using hcs)
       have e1 : ((c.toNat : Int) == (sep.toNat : Int)) = false := beq_eq_false_iff_ne.2 (fun h => HC.out (UInt8.toNat_inj.1 (by omega)))
       clear hcs
       go_wp2_with fail
       go_roundw
       case rel =>
        refine ⟨k + 1, f, ys, by omega, by go_num, rfl, by omega, hfl, hown, by omega, ?_, hb⟩
        rw [HSP.out, HTA.out 1, HD.out, RdS.splitE_plain HC.out HC9.out, RdS.glue_glue]; rfl
       case measure => simp [intOf]; omega
  · have hd : l.drop k = [] := List.drop_of_length_le (by omega)
    have ht : l.take k = l := List.take_of_length_le (by omega)
    have hsp2 : RdS.splitE sep l = ys ++ [l.drop f] := by rw [hsp, hd, ht]; simp [RdS.splitE, RdS.glue]
    have HSP := hZ9 hsp2
    clear hsp hsp2 hd ht
    go_wp2_with (at_builtin; refine push_str (by rfl) _ _ (by rfl) w.heap.size _ ys (by rfl) (hown.alloc _) wr.heap.size (by rfl) (l.drop f) ?d1 ?d2 ?d3 ?_)
    case d1 => simp [go_sem, strV, mk_extract]
    case d2 => omega
    case d3 => have := hb.size; simp; omega
    intro v' w2 hown2 hb2
    go_wp2_with fail
    go_ret
    exact ⟨_, rfl, by rw [HSP.out]; exact hown2.strs, (hb.alloc hb.size _).trans hb2⟩
end
end Go.Proofs.YtjmfknfponjgkaaGreatDoor
