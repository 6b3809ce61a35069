/- The walk of the document's 'value': how a value is written. Conditions: the text has at most 1000000 bytes. -/
import Derived.Test.YtjjbkldlgjllnaaGreatDoorRdi
import Derived.Test.YtjjbkldlgjllnaaGreatDoorRdb
namespace Go.Proofs.YtjjbkldlgjllnaaGreatDoor
open Go.RowKit
attribute [local go_sem ↓] Go.wp_at_zero Go.wp_at_succ

theorem step_pushN {w : World} {ops : Array Oper} {o : Oper} {a : Act} {K : Act → World → Prop} {Q : Exit → Act → World → Prop} {E : Prop} (hgd : o.guard = none) (s x : Operand)
    (ho : o.op = .call { callee := .builtin .append, args := #[s, x], argTypes := #[100, 100] })
    (B : Nat) (v : Value) (l : List UInt8) (hs : a.eval s = v) (hown : OwnB w B v l) (g m c : Nat) (hx : a.eval x = .slice (some ⟨g, 0, none⟩) m c)
    (ys : List UInt8) (hm : ys.length = m) (hc : ∀ (j : Nat) (y : UInt8), ys[j]? = some y → w.cell? ⟨g, j, none⟩ = some (byteV y)) (hn : l.length + m ≤ 1000000000) (hB : B ≤ w.heap.size)
    (hK : ∀ v' w', OwnB w' B v' (l ++ ys) → Below B w w' → K (a.put o.dst v') w') : if Region.wanted o (yielded ops a.tmps) = true then Oper.wp Tryz.prog o a w K Q else E := by
  have hw : Region.wanted o (yielded ops a.tmps) = true := by simp [Region.wanted, hgd]
  rw [if_pos hw]
  obtain ⟨i0, hi, hz0, hz1, hz2⟩ := info_parts infoU8
  subst hm
  refine wp_append_own w s x _ ho B 5 i0 (.int .u8 0) 1 1 Tryz.underlying100 hi hz0 hz1 hz2 rfl (by decide) v l.length (l.map byteV) hs hown ⟨g, 0, none⟩ ys.length c (ys.map byteV) hx (by simp)
    (fun j u hj => ?_) (fun u hu => ?_) (by unfold maxLen; omega) (by omega) hB (fun v' w' h1 h2 _ => hK v' w' ?_ ?_)
  · rw [List.getElem?_map] at hj
    cases hy : ys[j]? with
    | none => rw [hy] at hj; cases hj
    | some y =>
      rw [hy] at hj
      have hj := Option.some.inj hj
      subst hj
      have hadd : (⟨g, 0, none⟩ : Addr).add j = ⟨g, j, none⟩ := by unfold Addr.add; split <;> simp_all
      rw [hadd]
      exact hc j y hy
  · obtain ⟨y, _, rfl⟩ := List.mem_map.1 hu; rfl
  · unfold OwnB
    rw [List.map_append, List.length_append]
    exact h1
  · exact (Below.refl B w).grown h2 hB (fun k hk => (World.ownsRow.lt hown k hk).1)

def EscLoop (l : List UInt8) (w : World) (out i : Value) (wr : World) : Prop := ∃ k : Nat, k ≤ l.length ∧ i = .int .i64 k ∧ OwnB wr w.heap.size out (RdS.escTo l k) ∧ Below w.heap.size w wr
set_option maxRecDepth 100000 in
set_option maxHeartbeats 8000000 in
theorem refvalue_c (l : List UInt8) (hl : l.length ≤ 1000000) (w : World) : Calls Tryz.prog 97 #[.string ⟨l.toArray⟩] w fun e w' => e = .returned (.string ⟨(RdS.escS l).toArray⟩) ∧ Below w.heap.size w w' := by
  go_enter Tryz.func97, Tryz.ntmps97
  go_wp2_with fail
  go_loopw [3, 4] (fun out i wr => EscLoop l w out i wr) (fun _ i _ => l.length - (intOf i).toNat)
  case atStart => exact ⟨0, Nat.zero_le _, rfl, OwnB.empty _ _, Below.refl _ _⟩
  case round =>
    obtain ⟨k, hk, rfl, hown, hb⟩ := hrel
    have hsz := hb.size
    by_cases hlt : k < l.length
    · have HS := Lib.hid (RdS.escTo_succ l k hlt)
      have hle := RdS.escTo_len l k hk
      have hacc : (RdS.escTo l k).length ≤ 3000000 := by omega
      generalize hcq : l[k] = c at *
      have hq2 : ∀ h, (⟨l.toArray⟩ : ByteArray)[k]'h = c := fun _ => hcq
      clear hcq hle
      have ez0 : ((k : Int) == 0) = decide (k = 0) := by rw [Bool.eq_iff_iff, beq_iff_eq, decide_eq_true_eq]; omega
      have el : ((k : Int) == (l.length : Int) - 1) = decide (k + 1 = l.length) := by rw [Bool.eq_iff_iff, beq_iff_eq, decide_eq_true_eq]; omega
      have e32 : ((c.toNat : Int) == 32) = (c == 32) := u8_eqB rfl
      have e35 : ((c.toNat : Int) == 35) = (c == 35) := u8_eqB rfl
      have hspc := fun w => special_c c w
      have HFIN : Hid (∀ (x : List UInt8) (out i : Value) (w2 : World), i = .int .i64 ((k + 1 : Nat) : Int) → RdS.escC (decide (k = 0)) (decide (k + 1 = l.length)) c = x → OwnB w2 w.heap.size out (RdS.escTo l k ++ x) → Below w.heap.size w w2 → EscLoop l w out i w2) :=
        Lib.hid (fun x out i w2 hi hx h1 h2 => ⟨k + 1, hlt, hi, by rw [HS.out, hx]; exact h1, h2⟩)
      have HQ : Hid (∀ f la, (RdS.special c || (c == 32 && (f || la)) || (c == 35 && f)) = true → RdS.escC f la c = [92, c]) := Lib.hid (fun f la h => escC_stroke h)
      have HX : Hid (∀ f la, (RdS.special c || (c == 32 && (f || la)) || (c == 35 && f)) = false → (decide (c.toNat < 32) || decide (126 < c.toNat)) = true → RdS.escC f la c = [92, RdS.hexd (c.toNat / 16), RdS.hexd (c.toNat % 16)]) := Lib.hid (fun f la h h2 => escC_hex h h2)
      have HP : Hid (∀ f la, (RdS.special c || (c == 32 && (f || la)) || (c == 35 && f)) = false → (decide (c.toNat < 32) || decide (126 < c.toNat)) = false → RdS.escC f la c = [c]) := Lib.hid (fun f la h h2 => escC_plain h h2)
      have hx1 := hex_hi c
      have hx2 := hex_lo c
      have hand : bits .and .u8 (c.toNat : Int) 15 = (c.toNat : Int) % 16 := u8_and15 (c.toNat : Int) (by omega) (by have := c.toNat_lt; omega)
      generalize decide (k + 1 = l.length) = ql at *
      generalize decide (k = 0) = qf at *
      generalize RdS.special c = sv at *
      generalize (c == 32) = z32 at *
      generalize (c == 35) = z35 at *
      generalize RdS.escTo l k = acc at *
      by_cases hst : (sv || (z32 && (qf || ql)) || (z35 && qf)) = true
      · have HE := Lib.hid (HQ.out qf ql hst)
        clear hx1 hx2
        cases sv <;> cases z32 <;> cases z35 <;> cases qf <;> cases ql
        all_goals first
          | (exact absurd hst (by decide))
          | (clear hst
             go_wp2_with fail
             refine (hspc _).mono ?_; rintro e w1 ⟨rfl, rfl⟩
             go_wp2_with (at_builtin; refine push_bytes (by rfl) _ _ (by rfl) w.heap.size _ acc (by rfl) (hown.alloc _) wr.heap.size 2 2 (by rfl) [92, c] (by rfl) (two_cells (by simp [go_sem, byteV]) (by simp [go_sem, byteV])) (by omega) (by simp; omega) ?_)
             intro v' w2 hown2 hb2
             go_wp2_with fail
             go_roundw
             · first | exact HFIN.out _ _ _ _ (by go_num) HE.out hown2 ((hb.alloc hsz _).trans hb2) | (simp [intOf]; omega)
             · first | exact HFIN.out _ _ _ _ (by go_num) HE.out hown2 ((hb.alloc hsz _).trans hb2) | (simp [intOf]; omega))
      · have hst' : (sv || (z32 && (qf || ql)) || (z35 && qf)) = false := by simpa using hst
        clear hst
        by_cases hu : c.toNat < 32 ∨ 126 < c.toNat
        · have HE := Lib.hid (HX.out qf ql hst' (by rcases hu with hu | hu <;> simp [hu]))
          have hd1 : (decide ((c.toNat : Int) < 32) = true) ∨ (decide ((c.toNat : Int) < 32) = false ∧ decide ((126 : Int) < (c.toNat : Int)) = true) := by
            by_cases h : c.toNat < 32
            · exact .inl (decide_eq_true (by omega))
            · exact .inr ⟨decide_eq_false (by omega), decide_eq_true (by omega)⟩
          clear hu
          have hownA := hown
          clear hown
          rcases hd1 with g1 | ⟨g1, g2⟩
          all_goals cases sv <;> cases z32 <;> cases z35 <;> cases qf <;> cases ql
          all_goals first
            | (exact absurd hst' (by decide))
            | (clear hst'
               go_wp2_with fail
               refine (hspc _).mono ?_; rintro e w1 ⟨rfl, rfl⟩
               go_wp2_with fail
               go_region_law (first | (refine step_pushN (by rfl) _ _ (by rfl) w.heap.size _ acc (by rfl) (World.ownsRow.alloc hownA _) wr.heap.size 3 3 (by rfl) [92, RdS.hexd (c.toNat / 16), RdS.hexd (c.toNat % 16)] (by rfl) (three_cells (by simp [go_sem, byteV]) (by simp [go_sem, byteV]) (by simp [go_sem, byteV])) (by omega) (by simp; omega) ?_; intro v' w2 hown2 hb2))
               all_goals go_wp2_with fail
               all_goals go_roundw
               all_goals first | exact HFIN.out _ _ _ _ (by go_num) HE.out hown2 ((hb.drew.alloc hsz _).trans hb2) | (simp [intOf]; omega))
        · have HE := Lib.hid (HP.out qf ql hst' (by rw [decide_eq_false (fun h => hu (.inl h)), decide_eq_false (fun h => hu (.inr h))]; rfl))
          have g1 : decide ((c.toNat : Int) < 32) = false := decide_eq_false (by omega)
          have g2 : decide ((126 : Int) < (c.toNat : Int)) = false := decide_eq_false (by omega)
          clear hu hx1 hx2
          cases sv <;> cases z32 <;> cases z35 <;> cases qf <;> cases ql
          all_goals first
            | (exact absurd hst' (by decide))
            | (clear hst'
               go_wp2_with fail
               refine (hspc _).mono ?_; rintro e w1 ⟨rfl, rfl⟩
               go_wp2_with (at_builtin; refine push_bytes (by rfl) _ _ (by rfl) w.heap.size _ acc (by rfl) (hown.alloc _) wr.heap.size 1 1 (by rfl) [c] (by rfl) (by first | exact one_cell (by simp [go_sem, byteV]) | exact one_list _) (by omega) (by simp; omega) ?_)
               intro v' w2 hown2 hb2
               go_wp2_with fail
               go_roundw
               · first | exact HFIN.out _ _ _ _ (by go_num) HE.out hown2 ((hb.alloc hsz _).trans hb2) | (simp [intOf]; omega)
               · first | exact HFIN.out _ _ _ _ (by go_num) HE.out hown2 ((hb.alloc hsz _).trans hb2) | (simp [intOf]; omega))
    · have hkl : k = l.length := by omega
      subst hkl
      have hback := hown.back
      have HE : Hid (RdS.escTo l l.length = RdS.escS l) := Lib.hid rfl
      clear hown
      go_wp2_with fail
      go_ret
      exact ⟨by rw [← HE.out]; rfl, hb⟩
end Go.Proofs.YtjjbkldlgjllnaaGreatDoor
