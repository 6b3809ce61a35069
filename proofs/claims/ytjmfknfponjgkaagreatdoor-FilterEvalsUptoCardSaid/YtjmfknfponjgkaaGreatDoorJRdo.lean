/- The walk of the program's 'Print' of a part. Conditions: as stated. -/
import Derived.Test.YtjmfknfponjgkaaGreatDoorJRda
import Derived.Test.YtjmfknfponjgkaaGreatDoorJRuS
import Derived.Test.YtjmfknfponjgkaaGreatDoorJRdi
set_option maxRecDepth 100000
set_option maxHeartbeats 8000000
namespace Go.Proofs.YtjmfknfponjgkaaGreatDoor
section
open Go.RowKit
def PrintRet (xs : List RdS.Pr) (w : World) (e : Ending) (w' : World) : Prop := e = .returned (.tuple #[.string ⟨(RdS.printS xs).1.toArray⟩, .int .i64 (RdS.printS xs).2]) /\ Below w.heap.size w w'
theorem PrintRet.bad {xs : List RdS.Pr} {w w' : World} (h : RdS.formedS xs = false) (hb : Below w.heap.size w w') : PrintRet xs w (.returned (.tuple #[.string ⟨#[]⟩, .int .i64 1])) w' := by
 unfold PrintRet RdS.printS; rw [h]; exact ⟨rfl, hb⟩
def PrLoop (xs : List RdS.Pr) (w1 : World) (i : Value) (wr : World) : Prop := ∃ k : Nat, k <= xs.length /\ i = .int .i64 k /\ Bld w1.heap.size w1.heap.size (RdS.textTo xs k) wr /\ Below w1.heap.size w1 wr
theorem bsize (l : List UInt8) : (⟨l.toArray⟩ : ByteArray).size = l.length := by show l.toArray.size = _; simp
theorem cat_lit (x y : List UInt8) (h1 : x.length <= 2000000) (h2 : y.length <= 2000000) (w : World) : (Op.stringOp .add ⟨x.toArray⟩ ⟨y.toArray⟩).run Tryz.prog w = .ok (.string ⟨(x ++ y).toArray⟩) w := by
 rw [<- mk_app]
 exact run_string_add_sum w _ _ (by show x.toArray.size + y.toArray.size <= _; simp; omega)
theorem rdprint_c (v : Value) (xs : List RdS.Pr) (w : World) (h : AvasIn w v xs) (hf : PairsFit xs) (hE : Env w) : Calls Tryz.prog 131 #[v] w (PrintRet xs w) := by
 have hfm := formed_any v xs w h hf hE
 unfold FmRet at hfm
 cases hfd : RdS.formedS xs with
 | false =>
  rw [hfd] at hfm
  have HFD := hZ9 hfd
  clear h hf hfd
  go_enter Tryz.func131, Tryz.ntmps131
  go_wp2_with fail
  refine hfm.mono ?_; rintro e w1 ⟨rfl, hb1⟩
  go_wp2_with fail
  go_ret2
  exact PrintRet.bad HFD.out hb1
 | true =>
  rw [hfd] at hfm
  have HFD := hZ9 hfd
  have HSM := hZ9 (RdS.formed_small hfd)
  have HTS := hZ9 (RdS.text_small hfd)
  have HPR : Hid (RdS.printS xs = (RdS.textTo xs xs.length, 0)) := hZ9 (by unfold RdS.printS; rw [if_pos hfd])
  clear hfd hf
  obtain ⟨a, c, rfl, hc, hcase⟩ := h
  rcases hcase with rfl | ⟨g, o, rfl, hg, hcell⟩
  · have := HFD.out; cases this
  have HC := hZ9 hcell
  generalize hn : xs.length = n at *
  have HN := hZ9 hn
  have hn3 : n <= 3 := HSM.out.1
  clear hn hcell
  go_enter Tryz.func131, Tryz.ntmps131
  go_wp2_with fail
  refine hfm.mono ?_; rintro e w1 ⟨rfl, hb1⟩
  have hg1 : g < w1.heap.size := Nat.lt_of_lt_of_le hg hb1.size
  go_wp2_with fail
  go_loopw [12] (fun i wr => PrLoop xs w1 i wr) (fun i _ => n - (intOf i).toNat)
  case atStart => exact ⟨0, Nat.zero_le _, rfl, Bld.fresh w1, grow1 w1 _⟩
  case round =>
   obtain ⟨k, hk, rfl, hbl, hb⟩ := hrel
   rw [HN.out] at hk
   have hsz := hb.size
   by_cases hlt : k < n
   · have hlt2 : k < xs.length := by rw [HN.out]; exact hlt
     obtain ⟨c0, c1⟩ := HC.out k _ (List.getElem?_eq_getElem hlt2)
     have HTX := hZ9 (RdS.textTo_succ xs k hlt2)
     have hsm := HSM.out.2 _ (List.getElem_mem hlt2)
     have hts := HTS.out k hk
     generalize xs[k] = p at *
     obtain ⟨t, u⟩ := p
     simp only at c0 c1 hsm
     have HPT : Hid (RdS.pairT (t, u) = t ++ [61] ++ RdS.escS u) := hZ9 rfl
     replace c0 : wr.cell? ⟨g, o + k * 2, none⟩ = some (strV t) := (hb.cell (p := ⟨g, o + k * 2, none⟩) hg1).trans ((hb1.cell (p := ⟨g, o + k * 2, none⟩) hg).trans c0)
     replace c1 : wr.cell? ⟨g, o + k * 2 + 1, none⟩ = some (strV u) := (hb.cell (p := ⟨g, o + k * 2 + 1, none⟩) hg1).trans ((hb1.cell (p := ⟨g, o + k * 2 + 1, none⟩) hg).trans c1)
     unfold strV at c0 c1
     have hadd := cat_lit t [61] (by omega) (by decide)
     have hcat : (⟨t.toArray⟩ ++ ⟨#[61]⟩ : ByteArray) = ⟨(t ++ [61]).toArray⟩ := mk_app t [61]
     have hba : Below w1.heap.size w1 (wr.alloc (.cells #[.string ⟨t.toArray⟩, .string ⟨u.toArray⟩] 190)) := hb.alloc hsz _
     have hbl2 := hbl.alloc (.cells #[.string ⟨t.toArray⟩, .string ⟨u.toArray⟩] 190)
     have hwh := Whole.made wr 190 #[.string ⟨t.toArray⟩, .string ⟨u.toArray⟩]
     have HWL := hZ9 hwh
     have HNB : Hid (wr.heap.size ≠ w1.heap.size) := hZ9 (by have := hbl.lt.1; omega)
     clear hlt2 hbl hwh
     by_cases hk0 : k = 0
     · have HT0 : Hid (RdS.textTo xs (k + 1) = RdS.textTo xs k ++ (t ++ [61]) ++ RdS.escS u) := hZ9 (by rw [HTX.out, if_pos hk0, HPT.out]; simp)
       have hkz : decide ((0 : Int) < (k : Int)) = false := decide_eq_false (by omega)
       have hkz2 : decide (0 < k) = false := decide_eq_false (by omega)
       clear hk0
       generalize RdS.textTo xs k = acc at *
       go_wp2_with fail
       have hL : acc.length + (⟨(t ++ [61]).toArray⟩ : ByteArray).size <= 900000000 := by rw [bsize, List.length_append, List.length_singleton]; omega
       have hWS := writeString_k w1.heap.size w1.heap.size acc ⟨(t ++ [61]).toArray⟩ _ hbl2 hL hba.size
       refine hWS.mono ?_
       rintro e w2 ⟨rfl, hu2, hb2, ho2⟩
       have hw2 := ho2.cell (by decide) HNB.out HWL.out
       have d1 : w2.cell? ⟨wr.heap.size, 1, none⟩ = some (.string ⟨u.toArray⟩) := hw2.cell 1
       have hs2 : w1.heap.size <= w2.heap.size := (hba.trans hb2).size
       clear ho2 hw2
       go_wp2_with fail
       have hu2' : Bld w1.heap.size w1.heap.size (acc ++ (t ++ [61])) w2 := hu2.bld
       have hL2 : (acc ++ (t ++ [61])).length <= 100000000 := by rw [List.length_append, List.length_append, List.length_singleton]; omega
       have hL3 : u.length <= 100000000 := by omega
       have hWR := write1_c w1.heap.size w1.heap.size _ u _ hu2' hL2 hL3 hs2
       clear hL hL2 hL3 hu2 hu2' hWS
       refine hWR.mono ?_
       rintro e w3 ⟨rfl, hu3, hb3⟩
       go_wp2_with fail
       go_roundw
       case rel => exact ⟨k + 1, by rw [HN.out]; omega, by go_num, by rw [HT0.out]; exact hu3, (hba.trans hb2).trans hb3⟩
       case measure => simp [intOf]; omega
     · have HT0 : Hid (RdS.textTo xs (k + 1) = RdS.textTo xs k ++ [43] ++ (t ++ [61]) ++ RdS.escS u) := hZ9 (by rw [HTX.out, if_neg hk0, HPT.out]; simp)
       have hkz : (0 : Int) < (k : Int) := by omega
       have hkz2 : 0 < k := by omega
       clear hk0
       generalize RdS.textTo xs k = acc at *
       go_wp2_with fail
       refine (writeByte_k w1.heap.size w1.heap.size acc 43 _ hbl2 (by omega) hba.size).mono ?_
       rintro e w15 ⟨rfl, hu1, hb1', ho1⟩
       have hw1 := ho1.cell (by decide) HNB.out HWL.out
       have d0 : w15.cell? ⟨wr.heap.size, 0, none⟩ = some (.string ⟨t.toArray⟩) := hw1.cell 0
       have hs1 : w1.heap.size <= w15.heap.size := (hba.trans hb1').size
       clear ho1
       go_wp2_with fail
       have hL : (acc ++ [43]).length + (⟨(t ++ [61]).toArray⟩ : ByteArray).size <= 900000000 := by rw [bsize, List.length_append, List.length_append, List.length_singleton, List.length_singleton]; omega
       have hWS := writeString_k w1.heap.size w1.heap.size (acc ++ [43]) ⟨(t ++ [61]).toArray⟩ _ hu1.bld hL hs1
       refine hWS.mono ?_
       rintro e w2 ⟨rfl, hu2, hb2, ho2⟩
       have hw2 := ho2.cell (by decide) HNB.out hw1
       have d1 : w2.cell? ⟨wr.heap.size, 1, none⟩ = some (.string ⟨u.toArray⟩) := hw2.cell 1
       have hs2 : w1.heap.size <= w2.heap.size := ((hba.trans hb1').trans hb2).size
       clear ho2 hw2
       go_wp2_with fail
       have hu2' : Bld w1.heap.size w1.heap.size (acc ++ [43] ++ (t ++ [61])) w2 := hu2.bld
       have hL2 : (acc ++ [43] ++ (t ++ [61])).length <= 100000000 := by rw [List.length_append, List.length_append, List.length_append, List.length_singleton, List.length_singleton]; omega
       have hL3 : u.length <= 100000000 := by omega
       have hWR := write1_c w1.heap.size w1.heap.size _ u _ hu2' hL2 hL3 hs2
       clear hL hL2 hL3 hu2 hu2' hWS
       refine hWR.mono ?_
       rintro e w3 ⟨rfl, hu3, hb3⟩
       go_wp2_with fail
       go_roundw
       case rel => exact ⟨k + 1, by rw [HN.out]; omega, by go_num, by rw [HT0.out]; exact hu3, ((hba.trans hb1').trans hb2).trans hb3⟩
       case measure => simp [intOf]; omega
   · have hkn : k = n := by omega
     subst hkn
     have hst := Tryz.Builder_String_any w1.heap.size w1.heap.size (RdS.textTo xs k) wr (by first | exact hbl | simpa [Bld, byteV, Lib.byteCells] using hbl) hsz
     generalize RdS.textTo xs k = tx at *
     go_wp2_with fail
     refine hst.mono ?_; rintro e w2 ⟨rfl, hb2⟩
     go_wp2_with fail
     go_ret2
     exact ⟨by rw [HPR.out]; rfl, hb1.trans ((hb.trans hb2).mono hb1.size)⟩
end
section
open Go.RowKit
attribute [local go_sem ↓] Go.wp_at_zero Go.wp_at_succ
theorem step_pushN {w : World} {ops : Array Oper} {o : Oper} {a : Act} {K : Act -> World -> Prop} {Q : Exit -> Act -> World -> Prop} {E : Prop} (hgd : o.guard = none) (s x : Operand)
  (ho : o.op = .call { callee := .builtin .append, args := #[s, x], argTypes := #[61, 61] })
  (B : Nat) (v : Value) (l : List UInt8) (hs : a.eval s = v) (hown : OwnB w B v l) (g m c : Nat) (hx : a.eval x = .slice (some ⟨g, 0, none⟩) m c)
  (ys : List UInt8) (hm : ys.length = m) (hc : ∀ (j : Nat) (y : UInt8), ys[j]? = some y -> w.cell? ⟨g, j, none⟩ = some (byteV y)) (hn : l.length + m <= 1000000000) (hB : B <= w.heap.size)
  (hK : ∀ v' w', OwnB w' B v' (l ++ ys) -> Below B w w' -> K (a.put o.dst v') w') : if Region.wanted o (yielded ops a.tmps) = true then Oper.wp Tryz.prog o a w K Q else E := by
 have hw : Region.wanted o (yielded ops a.tmps) = true := by simp [Region.wanted, hgd]
 rw [if_pos hw]
 obtain ⟨i0, hi, hz0, hz1, hz2⟩ := info_parts infoU8
 subst hm
 refine wp_append_own w s x _ ho B 5 i0 (.int .u8 0) 1 1 Tryz.underlying61 hi hz0 hz1 hz2 rfl (by decide) v l.length (l.map byteV) hs hown ⟨g, 0, none⟩ ys.length c (ys.map byteV) hx (by simp)
  (fun j u hj => ?_) (fun u hu => ?_) (by unfold maxLen; omega) (by omega) hB (fun v' w' h1 h2 _ => hK v' w' ?_ ?_)
 · rw [List.getElem?_map] at hj
   cases hy : ys[j]? with
   | none => rw [hy] at hj; cases hj
   | some y =>
    rw [hy] at hj
    have hj := Option.some.inj hj
    subst hj
    have hadd : (⟨g, 0, none⟩ : Addr).add j = ⟨g, j, none⟩ := by unfold Addr.add; split <;> simp_all
    rw [hadd]
    exact hc j y hy
 · obtain ⟨y, _, rfl⟩ := List.mem_map.1 hu; rfl
 · unfold OwnB
   rw [List.map_append, List.length_append]
   exact h1
 · exact (Below.refl B w).grown h2 hB (fun k hk => (World.ownsRow.lt hown k hk).1)
def EscLoop (l : List UInt8) (w : World) (out i : Value) (wr : World) : Prop := ∃ k : Nat, k <= l.length /\ i = .int .i64 k /\ OwnB wr w.heap.size out (RdS.escTo l k) /\ Below w.heap.size w wr
theorem refvalue_c (l : List UInt8) (hl : l.length <= 1000000) (w : World) : Calls Tryz.prog 181 #[.string ⟨l.toArray⟩] w fun e w' => e = .returned (.string ⟨(RdS.escS l).toArray⟩) /\ Below w.heap.size w w' := by
 go_enter Tryz.func181, Tryz.ntmps181
 go_wp2_with fail
 go_loopw [3, 4] (fun out i wr => EscLoop l w out i wr) (fun _ i _ => l.length - (intOf i).toNat)
 case atStart => exact ⟨0, Nat.zero_le _, rfl, OwnB.empty _ _, Below.refl _ _⟩
 case round =>
  obtain ⟨k, hk, rfl, hown, hb⟩ := hrel
  have hsz := hb.size
  by_cases hlt : k < l.length
  · have HS := hZ9 (RdS.escTo_succ l k hlt)
    have hle := RdS.escTo_len l k hk
    have hacc : (RdS.escTo l k).length <= 3000000 := by omega
    generalize hcq : l[k] = c at *
    have hq2 : ∀ h, (⟨l.toArray⟩ : ByteArray)[k]'h = c := fun _ => hcq
    clear hcq hle
    have ez0 : ((k : Int) == 0) = decide (k = 0) := by rw [Bool.eq_iff_iff, beq_iff_eq, decide_eq_true_eq]; omega
    have el : ((k : Int) == (l.length : Int) - 1) = decide (k + 1 = l.length) := by rw [Bool.eq_iff_iff, beq_iff_eq, decide_eq_true_eq]; omega
    have e32 : ((c.toNat : Int) == 32) = (c == 32) := u8_eqB rfl
    have e35 : ((c.toNat : Int) == 35) = (c == 35) := u8_eqB rfl
    have hspc := fun w => special_c c w
    have HFIN : Hid (∀ (x : List UInt8) (out i : Value) (w2 : World), i = .int .i64 ((k + 1 : Nat) : Int) -> RdS.escC (decide (k = 0)) (decide (k + 1 = l.length)) c = x -> OwnB w2 w.heap.size out (RdS.escTo l k ++ x) -> Below w.heap.size w w2 -> EscLoop l w out i w2) :=
     hZ9 (fun x out i w2 hi hx h1 h2 => ⟨k + 1, hlt, hi, by rw [HS.out, hx]; exact h1, h2⟩)
    have HQ : Hid (∀ f la, (RdS.special c || (c == 32 && (f || la)) || (c == 35 && f)) = true -> RdS.escC f la c = [92, c]) := hZ9 (fun f la h => escC_stroke h)
    have HX : Hid (∀ f la, (RdS.special c || (c == 32 && (f || la)) || (c == 35 && f)) = false -> (decide (c.toNat < 32) || decide (126 < c.toNat)) = true -> RdS.escC f la c = [92, RdS.hexd (c.toNat / 16), RdS.hexd (c.toNat % 16)]) := hZ9 (fun f la h h2 => escC_hex h h2)
    have HP : Hid (∀ f la, (RdS.special c || (c == 32 && (f || la)) || (c == 35 && f)) = false -> (decide (c.toNat < 32) || decide (126 < c.toNat)) = false -> RdS.escC f la c = [c]) := hZ9 (fun f la h h2 => escC_plain h h2)
    have hx1 := hex_hi c
    have hx2 := hex_lo c
    have hand : bits .and .u8 (c.toNat : Int) 15 = (c.toNat : Int) % 16 := u8_and15 (c.toNat : Int) (by omega) (by have := c.toNat_lt; omega)
    generalize decide (k + 1 = l.length) = ql at *
    generalize decide (k = 0) = qf at *
    generalize RdS.special c = sv at *
    generalize (c == 32) = z32 at *
    generalize (c == 35) = z35 at *
    generalize RdS.escTo l k = acc at *
    by_cases hst : (sv || (z32 && (qf || ql)) || (z35 && qf)) = true
    · have HE := hZ9 (HQ.out qf ql hst)
      clear hx1 hx2
      cases sv <;> cases z32 <;> cases z35 <;> cases qf <;> cases ql
      all_goals first
       | (exact absurd hst (by decide))
       | (clear hst
          go_wp2_with fail
          refine (hspc _).mono ?_; rintro e w1 ⟨rfl, rfl⟩
          go_wp2_with (at_builtin; refine push_bytes (by rfl) _ _ (by rfl) w.heap.size _ acc (by rfl) (hown.alloc _) wr.heap.size 2 2 (by rfl) [92, c] (by rfl) (two_cells (by simp [go_sem, byteV]) (by simp [go_sem, byteV])) (by omega) (by simp; omega) ?_)
          intro v' w2 hown2 hb2
          go_wp2_with fail
          go_roundw
          · first | exact HFIN.out _ _ _ _ (by go_num) HE.out hown2 ((hb.alloc hsz _).trans hb2) | (simp [intOf]; omega)
          · first | exact HFIN.out _ _ _ _ (by go_num) HE.out hown2 ((hb.alloc hsz _).trans hb2) | (simp [intOf]; omega))
    · have hst' : (sv || (z32 && (qf || ql)) || (z35 && qf)) = false := by simpa using hst
      clear hst
      by_cases hu : c.toNat < 32 \/ 126 < c.toNat
      · have HE := hZ9 (HX.out qf ql hst' (by rcases hu with hu | hu <;> simp [hu]))
        have hd1 : (decide ((c.toNat : Int) < 32) = true) \/ (decide ((c.toNat : Int) < 32) = false /\ decide ((126 : Int) < (c.toNat : Int)) = true) := by
         by_cases h : c.toNat < 32
         · exact .inl (decide_eq_true (by omega))
         · exact .inr ⟨decide_eq_false (by omega), decide_eq_true (by omega)⟩
        clear hu
        have hownA := hown
        clear hown
        rcases hd1 with g1 | ⟨g1, g2⟩
        all_goals cases sv <;> cases z32 <;> cases z35 <;> cases qf <;> cases ql
        all_goals first
         | (exact absurd hst' (by decide))
         | (clear hst'
            go_wp2_with fail
            refine (hspc _).mono ?_; rintro e w1 ⟨rfl, rfl⟩
            go_wp2_with fail
            go_region_law (first | (refine step_pushN (by rfl) _ _ (by rfl) w.heap.size _ acc (by rfl) (World.ownsRow.alloc hownA _) wr.heap.size 3 3 (by rfl) [92, RdS.hexd (c.toNat / 16), RdS.hexd (c.toNat % 16)] (by rfl) (three_cells (by simp [go_sem, byteV]) (by simp [go_sem, byteV]) (by simp [go_sem, byteV])) (by omega) (by simp; omega) ?_; intro v' w2 hown2 hb2))
            all_goals go_wp2_with fail
            all_goals go_roundw
            all_goals first | exact HFIN.out _ _ _ _ (by go_num) HE.out hown2 ((hb.drew.alloc hsz _).trans hb2) | (simp [intOf]; omega))
      · have HE := hZ9 (HP.out qf ql hst' (by rw [decide_eq_false (fun h => hu (.inl h)), decide_eq_false (fun h => hu (.inr h))]; rfl))
        have g1 : decide ((c.toNat : Int) < 32) = false := decide_eq_false (by omega)
        have g2 : decide ((126 : Int) < (c.toNat : Int)) = false := decide_eq_false (by omega)
        clear hu hx1 hx2
        cases sv <;> cases z32 <;> cases z35 <;> cases qf <;> cases ql
        all_goals first
         | (exact absurd hst' (by decide))
         | (clear hst'
            go_wp2_with fail
            refine (hspc _).mono ?_; rintro e w1 ⟨rfl, rfl⟩
            go_wp2_with (at_builtin; refine push_bytes (by rfl) _ _ (by rfl) w.heap.size _ acc (by rfl) (hown.alloc _) wr.heap.size 1 1 (by rfl) [c] (by rfl) (by first | exact one_cell (by simp [go_sem, byteV]) | exact one_list _) (by omega) (by simp; omega) ?_)
            intro v' w2 hown2 hb2
            go_wp2_with fail
            go_roundw
            · first | exact HFIN.out _ _ _ _ (by go_num) HE.out hown2 ((hb.alloc hsz _).trans hb2) | (simp [intOf]; omega)
            · first | exact HFIN.out _ _ _ _ (by go_num) HE.out hown2 ((hb.alloc hsz _).trans hb2) | (simp [intOf]; omega))
  · have hkl : k = l.length := by omega
    subst hkl
    have hback := hown.back
    have HE : Hid (RdS.escTo l l.length = RdS.escS l) := hZ9 rfl
    clear hown
    go_wp2_with fail
    go_ret
    exact ⟨by rw [<- HE.out]; rfl, hb⟩
end
end Go.Proofs.YtjmfknfponjgkaaGreatDoor
