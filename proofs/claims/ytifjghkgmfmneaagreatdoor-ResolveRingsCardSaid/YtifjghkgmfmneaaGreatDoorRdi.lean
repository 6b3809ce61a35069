/- The walk of the document's 'read': a value, read. Conditions: the text has at most 1000000 bytes. -/
import Derived.Test.YtifjghkgmfmneaaGreatDoorRdf
import Derived.Deep.DrawnRows
import Derived.Deep.RegionHeld3
import Derived.Deep.RegionLaw
namespace Go.Proofs.YtifjghkgmfmneaaGreatDoor
open Go.RowKit
attribute [local go_sem ↓] Go.wp_at_zero Go.wp_at_succ

def ReadLoop (l : List UInt8) (w : World) (out i : Value) (wr : World) : Prop :=
  ∃ (k : Nat) (acc : List UInt8), k ≤ l.length ∧ i = .int .i64 k ∧ OwnB wr w.heap.size out acc ∧ acc.length ≤ k ∧ RdS.readS l = (RdS.readL (decide (k = 0)) (l.drop k)).map (acc ++ ·) ∧ Below w.heap.size w wr

/-- one byte more, as a step of a region that draws its order -/
theorem step_push {w : World} {ops : Array Oper} {o : Oper} {a : Act} {K : Act → World → Prop} {Q : Exit → Act → World → Prop} {E : Prop} (hgd : o.guard = none) (s x : Operand)
    (ho : o.op = .call { callee := .builtin .append, args := #[s, x], argTypes := #[125, 125] })
    (B : Nat) (v : Value) (l : List UInt8) (hs : a.eval s = v) (hown : OwnB w B v l) (g c : Nat) (hx : a.eval x = .slice (some ⟨g, 0, none⟩) 1 c)
    (y : UInt8) (hc : w.cell? ⟨g, 0, none⟩ = some (byteV y)) (hn : l.length ≤ 1000000000) (hB : B ≤ w.heap.size)
    (hK : ∀ v' w', OwnB w' B v' (l ++ [y]) → Below B w w' → K (a.put o.dst v') w') : if Region.wanted o (yielded ops a.tmps) = true then Oper.wp Tryz.prog o a w K Q else E := by
  have hw : Region.wanted o (yielded ops a.tmps) = true := by simp [Region.wanted, hgd]
  rw [if_pos hw]
  obtain ⟨i0, hi, hz0, hz1, hz2⟩ := info_parts infoU8
  refine wp_append_own w s x _ ho B 5 i0 (.int .u8 0) 1 1 Tryz.underlying125 hi hz0 hz1 hz2 rfl (by decide) v l.length (l.map byteV) hs hown ⟨g, 0, none⟩ 1 c [byteV y] hx rfl
    (fun j u hj => ?_) (fun u hu => ?_) (by unfold maxLen; omega) (by omega) hB (fun v' w' h1 h2 _ => hK v' w' ?_ ?_)
  · have hj0 : j = 0 := by
      rcases Nat.eq_zero_or_pos j with h | h
      · exact h
      · rw [List.getElem?_eq_none (by simp; omega)] at hj; cases hj
    subst hj0
    have hadd : (⟨g, 0, none⟩ : Addr).add 0 = ⟨g, 0, none⟩ := by unfold Addr.add; split <;> simp_all
    rw [hadd, hc]
    simpa using hj
  · rw [List.mem_singleton] at hu; subst hu; rfl
  · unfold OwnB
    rw [List.map_append, List.length_append]
    exact h1
  · exact (Below.refl B w).grown h2 hB (fun k hk => (World.ownsRow.lt hown k hk).1)
set_option maxRecDepth 100000 in
set_option maxHeartbeats 8000000 in
theorem refread_c (l : List UInt8) (hl : l.length ≤ 1000000) (w : World) : Calls Tryz.prog 255 #[.string ⟨l.toArray⟩] w (ValRet l w) := by
  go_enter Tryz.func255, Tryz.ntmps255
  go_wp2_with fail
  go_loopw [4, 5] (fun out i wr => ReadLoop l w out i wr) (fun _ i _ => l.length - (intOf i).toNat)
  case atStart => exact ⟨0, [], Nat.zero_le _, rfl, OwnB.empty _ _, Nat.zero_le _, by simp [RdS.readS], Below.refl _ _⟩
  case round =>
    obtain ⟨k, acc, hk, rfl, hown, hacc, hsp, hb⟩ := hrel
    have HK := Lib.hid hk
    have HSP := Lib.hid hsp
    have hsz := hb.size
    clear hsp hk
    by_cases hlt : k < l.length
    · have HD := Lib.hid (List.drop_eq_getElem_cons hlt)
      generalize hcq : l[k] = c at *
      have hq2 : ∀ h, (⟨l.toArray⟩ : ByteArray)[k]'h = c := fun _ => hcq
      clear hcq
      have HNONE : Hid (RdS.readL (decide (k = 0)) (l.drop k) = none → RdS.readS l = none) := Lib.hid (fun h => by rw [HSP.out, h]; rfl)
      have HFIN : Hid (∀ (k2 : Nat) (x : UInt8) (out i : Value) (w2 : World), k2 ≤ l.length → k < k2 → i = .int .i64 k2 → RdS.readL (decide (k = 0)) (l.drop k) = (RdS.readL false (l.drop k2)).map (x :: ·) → OwnB w2 w.heap.size out (acc ++ [x]) → Below w.heap.size w w2 → ReadLoop l w out i w2) :=
        Lib.hid (fun k2 x out i w2 h1 h2 hi h3 h4 h5 => ⟨k2, acc ++ [x], h1, hi, h4, by simp; omega, by rw [HSP.out, h3, Option.map_map, decide_eq_false (show ¬ k2 = 0 by omega)]; congr 1; funext y; simp, h5⟩)
      have ez0 : ((k : Int) == 0) = decide (k = 0) := by rw [Bool.eq_iff_iff, beq_iff_eq, decide_eq_true_eq]; omega
      by_cases h92 : c = 92
      · have HC9 := Lib.hid h92
        have e92 : ((c.toNat : Int) != 92) = false := by rw [h92]; rfl
        clear h92
        by_cases hk1 : k + 1 < l.length
        · have HD1 := Lib.hid (List.drop_eq_getElem_cons hk1)
          generalize hdq : l[k + 1] = d at *
          have hq3 : ∀ h, (⟨l.toArray⟩ : ByteArray)[k + 1]'h = d := fun _ => hdq
          clear hdq
          have hk1z : (k : Int) + 1 < (l.length : Int) := by omega
          have hspd := fun w => special_c d w
          have HBR : Hid (RdS.bare1 d = (RdS.special d || d == 35 || d == 61 || d == 32)) := Lib.hid rfl
          have HE : Hid (RdS.bare1 d = true → RdS.readL (decide (k = 0)) (l.drop k) = (RdS.readL false (l.drop (k + 2))).map (d :: ·)) := Lib.hid (fun h => by rw [HD.out, HC9.out, HD1.out, RdS.readL_stroke_bare _ h])
          generalize hsv : RdS.special d = sv at *
          by_cases hbr : sv = true ∨ d = 35 ∨ d = 61 ∨ d = 32
          · have HBT : Hid (RdS.bare1 d = true) := Lib.hid (by rw [HBR.out]; rcases hbr with rfl | rfl | rfl | rfl <;> simp)
            have HE2 := Lib.hid (HE.out HBT.out)
            have hcase : sv = true ∨ (sv = false ∧ ((d.toNat : Int) == 35) = true) ∨ (sv = false ∧ ((d.toNat : Int) == 35) = false ∧ ((d.toNat : Int) == 61) = true) ∨ (sv = false ∧ ((d.toNat : Int) == 35) = false ∧ ((d.toNat : Int) == 61) = false ∧ ((d.toNat : Int) == 32) = true) := by
              rcases hbr with rfl | rfl | rfl | rfl
              · exact .inl rfl
              · cases sv <;> simp
              · cases sv <;> simp
              · cases sv <;> simp
            have HSV := Lib.hid hsv
            clear hbr hsv
            rcases hcase with rfl | ⟨rfl, g1⟩ | ⟨rfl, g1, g2⟩ | ⟨rfl, g1, g2, g3⟩
            all_goals
              go_wp2_with fail
              refine (hspd _).mono ?_; rintro e w1 ⟨rfl, rfl⟩
              go_wp2_with (at_builtin; refine push_bytes (by rfl) _ _ (by rfl) w.heap.size _ acc (by rfl) (hown.alloc _) wr.heap.size 1 1 (by rfl) [d] (by rfl) ?c1 ?c2 ?c3 ?_)
              case c1 => first | exact one_cell (by simp [go_sem, byteV]) | exact one_list _
              case c2 => omega
              case c3 => simp; omega
              intro v' w2 hown2 hb2
              go_wp2_with fail
              go_roundw
              case rel => exact HFIN.out (k + 2) d _ _ _ (by omega) (by omega) (by go_num) HE2.out hown2 ((hb.alloc hsz _).trans hb2)
              case measure => simp [intOf]; omega
          · have hsf : sv = false := by cases sv with | true => exact absurd (.inl rfl) hbr | false => rfl
            subst hsf
            have HBF : Hid (RdS.bare1 d = false) := Lib.hid (by
              rw [HBR.out]
              have n1 : (d == 35) = false := by simpa using fun h => hbr (.inr (.inl h))
              have n2 : (d == 61) = false := by simpa using fun h => hbr (.inr (.inr (.inl h)))
              have n3 : (d == 32) = false := by simpa using fun h => hbr (.inr (.inr (.inr h)))
              rw [n1, n2, n3]; rfl)
            have g1 : ((d.toNat : Int) == 35) = false := beq_eq_false_iff_ne.2 (fun h => hbr (.inr (.inl (u8_is rfl h))))
            have g2 : ((d.toNat : Int) == 61) = false := beq_eq_false_iff_ne.2 (fun h => hbr (.inr (.inr (.inl (u8_is rfl h)))))
            have g3 : ((d.toNat : Int) == 32) = false := beq_eq_false_iff_ne.2 (fun h => hbr (.inr (.inr (.inr (u8_is rfl h)))))
            clear hbr hsv HE
            by_cases hk2 : k + 2 < l.length
            · have HD2 := Lib.hid (List.drop_eq_getElem_cons hk2)
              generalize hfq : l[k + 2] = f at *
              have hq4 : ∀ h, (⟨l.toArray⟩ : ByteArray)[k + 2]'h = f := fun _ => hfq
              clear hfq
              have hk2z : decide ((l.length : Int) ≤ (k : Int) + 2) = false := decide_eq_false (by omega)
              have hk2y : (k : Int) + 2 < (l.length : Int) := by omega
              have hdd := fun w => hex_c d w
              have hdf := fun w => hex_c f w
              rcases RdS.hexI_cases d with ⟨hn, hv⟩ | ⟨x, hx, hxv, hx16⟩
              · rw [hv] at hdd
                have HN : Hid (RdS.readS l = none) := Lib.hid (HNONE.out (by rw [HD.out, HC9.out, HD1.out, show k + 1 + 1 = k + 2 from rfl, HD2.out, RdS.readL_stroke_none1 _ HBF.out (.inl hn)]))
                clear hn hv hdf
                go_wp2_with fail
                refine (hspd _).mono ?_; rintro e w0 ⟨rfl, rfl⟩
                go_wp2_with fail
                refine (hdd _).mono ?_; rintro e w1 ⟨rfl, rfl⟩
                go_wp2_with fail
                go_ret2
                exact ValRet.none HN.out hb
              · rcases RdS.hexI_cases f with ⟨hn, hv⟩ | ⟨y, hy, hyv, hy16⟩
                · rw [hxv] at hdd
                  rw [hv] at hdf
                  have HN : Hid (RdS.readS l = none) := Lib.hid (HNONE.out (by rw [HD.out, HC9.out, HD1.out, show k + 1 + 1 = k + 2 from rfl, HD2.out, RdS.readL_stroke_none1 _ HBF.out (.inr hn)]))
                  have hx0 : decide ((x : Int) < 0) = false := decide_eq_false (by omega)
                  clear hn hv hx hxv
                  go_wp2_with fail
                  refine (hspd _).mono ?_; rintro e w0 ⟨rfl, rfl⟩
                  go_wp2_with fail
                  refine (hdd _).mono ?_; rintro e w1 ⟨rfl, rfl⟩
                  go_wp2_with fail
                  refine (hdf _).mono ?_; rintro e w2 ⟨rfl, rfl⟩
                  go_wp2_with fail
                  go_ret2
                  exact ValRet.none HN.out hb
                · have HE : Hid (RdS.readL (decide (k = 0)) (l.drop k) = (RdS.readL false (l.drop (k + 3))).map (UInt8.ofNat (16 * x + y) :: ·)) := Lib.hid (by
                    rw [HD.out, HC9.out, HD1.out, show k + 1 + 1 = k + 2 from rfl, HD2.out, RdS.readL_stroke_hex _ HBF.out hx hy])
                  obtain ⟨z, hz⟩ : ∃ z : UInt8, z = UInt8.ofNat (16 * x + y) := ⟨_, rfl⟩
                  have hzn : (z.toNat : Int) = 16 * (x : Int) + (y : Int) := by rw [hz, UInt8.toNat_ofNat']; omega
                  rw [← hz] at HE
                  have hz256 := z.toNat_lt
                  have hmul : (16 : Int) * (x : Int) + (y : Int) = (z.toNat : Int) := hzn.symm
                  have hwz : IntKind.u8.wrap (z.toNat : Int) = (z.toNat : Int) := by rw [IntKind.wrap_u8]; omega
                  have hwi : IntKind.i64.wrap (z.toNat : Int) = (z.toNat : Int) := by rw [IntKind.wrap_i64]; omega
                  have hwx : IntKind.i64.wrap (16 * (x : Int)) = 16 * (x : Int) := by rw [IntKind.wrap_i64]; omega
                  have hx0 : decide ((x : Int) < 0) = false := decide_eq_false (by omega)
                  have hy0 : decide ((y : Int) < 0) = false := decide_eq_false (by omega)
                  have j1 : (0 : Int) ≤ (k : Int) + 1 := by omega
                  have j2 : (0 : Int) ≤ (k : Int) + 2 := by omega
                  have t1 : ((k : Int) + 1).toNat = k + 1 := by omega
                  have t2 : ((k : Int) + 2).toNat = k + 2 := by omega
                  have w1' : IntKind.i64.wrap ((k : Int) + 1) = (k : Int) + 1 := by rw [IntKind.wrap_i64]; omega
                  have w2' : IntKind.i64.wrap ((k : Int) + 2) = (k : Int) + 2 := by rw [IntKind.wrap_i64]; omega
                  clear hx hy hz hzn
                  rw [hxv] at hdd
                  rw [hyv] at hdf
                  go_wp2_with fail
                  refine (hspd _).mono ?_; rintro e w0 ⟨rfl, rfl⟩
                  go_wp2_with fail
                  refine (hdd _).mono ?_; rintro e w1 ⟨rfl, rfl⟩
                  go_wp2_with fail
                  refine (hdf _).mono ?_; rintro e w2 ⟨rfl, rfl⟩
                  go_wp2_with fail
                  have hown0 := hown
                  clear hdd hdf hspd hown
                  go_region_law (first
                    | (refine step_push (by rfl) _ _ (by rfl) w.heap.size _ acc (by rfl) (World.ownsRow.alloc hown0 _) wr.heap.size 1 (by rfl) z (by simp [go_sem, byteV]) (by omega) (by simp; omega) ?_; intro v' w2 hown2 hb2)
                    | (go_simp; go_at_call 286; refine (hex_c _ _).mono ?_; rintro e w1 ⟨rfl, rfl⟩))
                  all_goals go_wp2_with fail
                  all_goals go_roundw
                  all_goals first | (simp [intOf]; omega) | exact HFIN.out (k + 3) z _ _ _ (by omega) (by omega) (by go_num) HE.out hown2 ((hb.drew.alloc hsz _).trans hb2)
            · have hk2z : (l.length : Int) ≤ (k : Int) + 2 := by omega
              have hnil : l.drop (k + 1 + 1) = [] := List.drop_of_length_le (by omega)
              have HN : Hid (RdS.readS l = none) := Lib.hid (HNONE.out (by rw [HD.out, HC9.out, HD1.out, hnil, RdS.readL_stroke_none2 _ HBF.out]))
              clear hnil
              go_wp2_with fail
              refine (hspd _).mono ?_; rintro e w0 ⟨rfl, rfl⟩
              go_wp2_with fail
              go_ret2
              exact ValRet.none HN.out hb
        · have hk1z : decide ((k : Int) + 1 < (l.length : Int)) = false := decide_eq_false (by omega)
          have hk2z : (l.length : Int) ≤ (k : Int) + 2 := by omega
          have hnil : l.drop (k + 1) = [] := List.drop_of_length_le (by omega)
          have HN : Hid (RdS.readS l = none) := Lib.hid (HNONE.out (by rw [HD.out, HC9.out, hnil, RdS.readL_stroke_none3]))
          clear hnil
          go_wp2_with fail
          go_ret2
          exact ValRet.none HN.out hb
      · have HC9 := Lib.hid h92
        have e92 : ((c.toNat : Int) != 92) = true := by rw [bne_iff_ne]; exact fun h => HC9.out (u8_is rfl h)
        clear h92
        have hem : (l.drop (k + 1)).isEmpty = decide (k + 1 = l.length) := by rw [Bool.eq_iff_iff, List.isEmpty_iff, List.drop_eq_nil_iff, decide_eq_true_eq]; omega
        have HBAD : Hid (RdS.badC (decide (k = 0)) (decide (k + 1 = l.length)) c = true → RdS.readS l = none) := Lib.hid (fun h => HNONE.out (by rw [HD.out]; exact RdS.readL_bad HC9.out (by rw [hem]; exact h)))
        have HOK : Hid (RdS.badC (decide (k = 0)) (decide (k + 1 = l.length)) c = false → RdS.readL (decide (k = 0)) (l.drop k) = (RdS.readL false (l.drop (k + 1))).map (c :: ·)) := Lib.hid (fun h => by rw [HD.out]; exact RdS.readL_plain HC9.out (by rw [hem]; exact h))
        have el : ((k : Int) == (l.length : Int) - 1) = decide (k + 1 = l.length) := by rw [Bool.eq_iff_iff, beq_iff_eq, decide_eq_true_eq]; omega
        have HQB : Hid (∀ f last, RdS.badC f last c = (RdS.special c || c == 0 || (c == 32 && (f || last)) || (c == 35 && f))) := Lib.hid (fun _ _ => rfl)
        have e0 : ((c.toNat : Int) == 0) = (c == 0) := by rw [Bool.eq_iff_iff, beq_iff_eq, beq_iff_eq]; exact ⟨fun h => u8_is rfl h, fun h => by rw [h]; rfl⟩
        have e32 : ((c.toNat : Int) == 32) = (c == 32) := by rw [Bool.eq_iff_iff, beq_iff_eq, beq_iff_eq]; exact ⟨fun h => u8_is rfl h, fun h => by rw [h]; rfl⟩
        have e35 : ((c.toNat : Int) == 35) = (c == 35) := by rw [Bool.eq_iff_iff, beq_iff_eq, beq_iff_eq]; exact ⟨fun h => u8_is rfl h, fun h => by rw [h]; rfl⟩
        have hspc := fun w => special_c c w
        have HFIN2 := Lib.hid (fun out w2 => HFIN.out (k + 1) c out _ w2 (by omega) (by omega) rfl)
        clear hem
        generalize decide (k + 1 = l.length) = ql at *
        generalize decide (k = 0) = qf at *
        generalize RdS.special c = sv at *
        generalize (c == 0) = z0 at *
        generalize (c == 32) = z32 at *
        generalize (c == 35) = z35 at *
        cases sv
        case true =>
          have HN := Lib.hid (HBAD.out (by rw [HQB.out]; rfl))
          go_wp2_with fail
          refine (hspc _).mono ?_; rintro e w1 ⟨rfl, rfl⟩
          go_wp2_with fail
          go_ret2
          exact ValRet.none HN.out hb
        cases z0
        case true =>
          have HN := Lib.hid (HBAD.out (by rw [HQB.out]; rfl))
          go_wp2_with fail
          refine (hspc _).mono ?_; rintro e w1 ⟨rfl, rfl⟩
          go_wp2_with fail
          go_ret2
          exact ValRet.none HN.out hb
        cases z32 <;> cases z35 <;> cases qf <;> cases ql
        all_goals first
          | (have HN := Lib.hid (HBAD.out (by rw [HQB.out]; rfl))
             go_wp2_with fail
             refine (hspc _).mono ?_; rintro e w1 ⟨rfl, rfl⟩
             go_wp2_with fail
             go_ret2
             exact ValRet.none HN.out hb)
          | (have HE := Lib.hid (HOK.out (by rw [HQB.out]; rfl))
             go_wp2_with fail
             refine (hspc _).mono ?_; rintro e w1 ⟨rfl, rfl⟩
             go_wp2_with (at_builtin; refine push_bytes (by rfl) _ _ (by rfl) w.heap.size _ acc (by rfl) (hown.alloc _) wr.heap.size 1 1 (by rfl) [c] (by rfl) (by first | exact one_cell (by simp [go_sem, byteV]) | exact one_list _) (by omega) (by simp; omega) ?_)
             intro v' w2 hown2 hb2
             go_wp2_with fail
             go_roundw
             · first | exact HFIN2.out _ _ HE.out hown2 ((hb.alloc hsz _).trans hb2) | (simp [intOf]; omega)
             · first | exact HFIN2.out _ _ HE.out hown2 ((hb.alloc hsz _).trans hb2) | (simp [intOf]; omega))
    · have hnil : l.drop k = [] := List.drop_of_length_le (by omega)
      have HN : Hid (RdS.readS l = some acc) := Lib.hid (by rw [HSP.out, hnil]; simp [RdS.readL])
      have hback := hown.back
      clear hnil
      go_wp2_with fail
      go_ret2
      exact ⟨by rw [HN.out]; rfl, hb⟩
end Go.Proofs.YtifjghkgmfmneaaGreatDoor
