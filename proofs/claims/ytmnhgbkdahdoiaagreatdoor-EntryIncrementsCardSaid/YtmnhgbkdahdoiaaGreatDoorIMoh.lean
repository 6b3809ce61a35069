/- The walk of the law EntryIncrements. Condition: the library's variables are laid. -/
import Derived.Deep.CutBlock
import Derived.Deep.DeepCutAuto
import Derived.Test.YtmnhgbkdahdoiaaGreatDoorIMoe
import Derived.Test.YtmnhgbkdahdoiaaGreatDoorITai
import Derived.Test.YtmnhgbkdahdoiaaGreatDoorIDig
import Derived.Test.YtmnhgbkdahdoiaaGreatDoorIEnC
namespace Go.Proofs.YtmnhgbkdahdoiaaGreatDoor
namespace EnS
open Go.Lib DnS
theorem has_serial {n : Int} (h : n.natAbs < 1000000000000000000) : hasS (eI (itoa n)) tSer (itoa n) = true := by
  have n2 : ¬ ([100, 99] : List UInt8) = tSer := by decide
  have n3 : ¬ tClass = tSer := by decide
  have e3 : tSer ≠ [] := by decide
  have hv : valuesS (eI (itoa n)) tSer = [itoa n] := by
    unfold valuesS
    rw [ser_type, if_neg e3]
    simp [eI, valuesL, n2, n3]
  unfold hasS
  rw [hv]
  exact within_last (V := []) (ser_value h).2
theorem eI_fit {s : List UInt8} (h : s.length ≤ 1000000) : FitA (eI s).attrs ∧ ∀ x ∈ (eI s).attrs, x.typ.length ≤ 1048576 := by
  refine ⟨⟨by simp [eI], fun y hy => ?_⟩, fun y hy => ?_⟩
  all_goals
    simp only [eI, List.mem_cons, List.not_mem_nil, or_false] at hy
    rcases hy with rfl | rfl | rfl
  · exact ⟨by decide, fun v hv => by simp only [List.mem_cons, List.not_mem_nil, or_false] at hv; subst hv; decide⟩
  · exact ⟨by decide, fun v hv => by simp only [List.mem_cons, List.not_mem_nil, or_false] at hv; subst hv; decide⟩
  · exact ⟨by simp, fun v hv => by simp only [List.mem_cons, List.not_mem_nil, or_false] at hv; subst hv; exact h⟩
  · decide
  · decide
  · exact (by decide : tSer.length ≤ 1048576)
end EnS
open Go.RowKit
attribute [local go_sem ↓] Go.wp_at_zero Go.wp_at_succ

def SerRet (C : Nat) (n : Int) (w : World) (e : Ending) (w' : World) : Prop := ∃ a c, e = .returned (.tuple #[.agg #[.string ⟨#[100, 99, 61, 120]⟩, .slice a 3 c], .int .i64 0]) ∧ OwnK atK 37 [9] C w' w.heap.size (.slice a 3 c) (EnS.eI (Lib.itoa n)).attrs ∧ Below w.heap.size w w'
theorem MakeRet.ser {C : Nat} {r : EnS.En × Int} {n : Int} {w w' : World} {e : Ending} (h : MakeRet C r w e w') (hr : r = (EnS.eI (Lib.itoa n), 0)) : SerRet C n w e w' := by
  subst hr
  obtain ⟨u, rfl, ho, hb⟩ := h
  obtain ⟨a, c, hu⟩ := ho.form
  subst hu
  exact ⟨a, c, rfl, ho, hb⟩
theorem itoa_len20 {n : Int} (h : n.natAbs < 1000000000000000000) : (Lib.itoa n).length ≤ 20 := PhS.itoa_len (by omega)
theorem mod_ser (a b : Int) (ha : a.natAbs < 1000000000000000000) (hb : b.natAbs < 1000000000000000000) (hab : (a + b).natAbs < 1000000000000000000) (C : Nat) (u vc : Value) (W : World) (hC : C ≤ W.heap.size) (h : AttrsE [9] C W u (EnS.eI (Lib.itoa a)).attrs) (hvc : ChgsIn W vc [⟨3, EnS.tSer, [Lib.itoa b]⟩]) (hE : Env W) :
    Calls Tryz.prog 11 #[.agg #[.string ⟨#[100, 99, 61, 120]⟩, u], vc] W (SerRet C (a + b) W) := by
  have la := itoa_len20 ha
  have lb := itoa_len20 hb
  have hf := EnS.eI_fit (s := Lib.itoa a) (by omega)
  refine (enmodify_c C EnS.dcxI (EnS.eI (Lib.itoa a)).attrs u [⟨3, EnS.tSer, [Lib.itoa b]⟩] vc W hC h hf.1 hf.2 (by decide) hvc (by simp) (fun c hc => by rw [List.mem_singleton] at hc; subst hc; exact ⟨(by decide : EnS.tSer.length ≤ 1048576), fun z hz => by rw [List.mem_singleton] at hz; subst hz; omega⟩) (by show 1 + 0 ≤ _; omega) hE).mono fun _ _ h => h.ser (EnS.modify_serial ha hb hab)
theorem make_ser (a : Int) (ha : a.natAbs < 1000000000000000000) (C : Nat) (u : Value) (W : World) (hC : C ≤ W.heap.size) (h : AttrsIn W u [⟨EnS.tClass, [[111]]⟩, ⟨[100, 99], [[120]]⟩, ⟨EnS.tSer, [Lib.itoa a]⟩]) (hE : Env W) :
    Calls Tryz.prog 18 #[.string ⟨#[100, 99, 61, 120]⟩, u] W (SerRet C a W) := by
  have la := itoa_len20 ha
  have hf : FitA [⟨EnS.tClass, [[111]]⟩, ⟨[100, 99], [[120]]⟩, ⟨EnS.tSer, [Lib.itoa a]⟩] ∧ ∀ x ∈ ([⟨EnS.tClass, [[111]]⟩, ⟨[100, 99], [[120]]⟩, ⟨EnS.tSer, [Lib.itoa a]⟩] : List EnS.At), x.typ.length ≤ 1048576 := by
    refine ⟨⟨by simp, fun y hy => ?_⟩, fun y hy => ?_⟩
    all_goals
      simp only [List.mem_cons, List.not_mem_nil, or_false] at hy
      rcases hy with rfl | rfl | rfl
    · exact ⟨by decide, fun v hv => by simp only [List.mem_cons, List.not_mem_nil, or_false] at hv; subst hv; decide⟩
    · exact ⟨by decide, fun v hv => by simp only [List.mem_cons, List.not_mem_nil, or_false] at hv; subst hv; decide⟩
    · exact ⟨by simp, fun v hv => by simp only [List.mem_cons, List.not_mem_nil, or_false] at hv; subst hv; omega⟩
    · decide
    · decide
    · exact (by decide : EnS.tSer.length ≤ 1048576)
  refine (enmake_c C EnS.dcxI _ u W hC h hf.1 hf.2 (by show 1 + (1 + (1 + 0)) ≤ _; omega) (by decide) hE).mono fun _ _ h => h.ser (EnS.make_serial (EnS.ser_value ha).2)
theorem has_ser (n : Int) (h : n.natAbs < 1000000000000000000) (u : Value) (W : World) (hu : AttrsIn W u (EnS.eI (Lib.itoa n)).attrs) (hE : Env W) :
    Calls Tryz.prog 17 #[.agg #[.string ⟨#[100, 99, 61, 120]⟩, u], .string ⟨#[115, 101, 114, 105, 97, 108, 78, 117, 109, 98, 101, 114]⟩, .string ⟨(Lib.itoa n).toArray⟩] W (NmBool true W) := by
  have la := itoa_len20 h
  have hc := has_c EnS.dcxI (EnS.eI (Lib.itoa n)).attrs u EnS.tSer (Lib.itoa n) W hE hu (EnS.eI_fit (s := Lib.itoa n) (by omega)).1 (by decide) (by omega)
  have e : EnS.hasS ⟨EnS.dcxI, (EnS.eI (Lib.itoa n)).attrs⟩ EnS.tSer (Lib.itoa n) = true := EnS.has_serial h
  rw [e] at hc
  exact hc
theorem same_ser (n : Int) (h : n.natAbs < 1000000000000000000) (u1 u2 : Value) (W : World) (h1 : AttrsIn W u1 (EnS.eI (Lib.itoa n)).attrs) (h2 : AttrsIn W u2 (EnS.eI (Lib.itoa n)).attrs) :
    Calls Tryz.prog 13 #[.agg #[.string ⟨#[100, 99, 61, 120]⟩, u1], .agg #[.string ⟨#[100, 99, 61, 120]⟩, u2]] W (True_ W) := by
  have la := itoa_len20 h
  have hf := (EnS.eI_fit (s := Lib.itoa n) (by omega)).1
  exact same09_c EnS.dcxI _ u1 u2 W h1 h2 hf.1 (fun x hx => (hf.2 x hx).1)
theorem tmod9 (a : Int) : -1000000000 < a.tmod 1000000000 ∧ a.tmod 1000000000 < 1000000000 := by
  have h1 := Int.tmod_lt_of_pos a (b := 1000000000) (by decide)
  have h2 := Int.lt_tmod_of_pos a (b := 1000000000) (by decide)
  omega
/-- three attributes that were laid -/
theorem three_attrs {w : World} {g g1 g2 g3 : Nat} {t1 t2 t3 v1 v2 v3 : List UInt8} (hw : Whole w g 37 #[.string ⟨t1.toArray⟩, .slice (some ⟨g1, 0, none⟩) 1 1, .string ⟨t2.toArray⟩, .slice (some ⟨g2, 0, none⟩) 1 1, .string ⟨t3.toArray⟩, .slice (some ⟨g3, 0, none⟩) 1 1])
    (h1 : Whole w g1 9 #[.string ⟨v1.toArray⟩]) (h2 : Whole w g2 9 #[.string ⟨v2.toArray⟩]) (h3 : Whole w g3 9 #[.string ⟨v3.toArray⟩]) : AttrsIn w (.slice (some ⟨g, 0, none⟩) 3 3) [⟨t1, [v1]⟩, ⟨t2, [v2]⟩, ⟨t3, [v3]⟩] := by
  refine ⟨some ⟨g, 0, none⟩, 3, rfl, by simp, .inr ⟨g, 0, rfl, hw.lt, trivial, fun j y hj => ?_⟩⟩
  match j, hj with
  | 0, hj => simp at hj; subst hj; exact ⟨hw.cell 0, _, hw.cell 1, (strs_one h1).strsP (fun _ => True) (fun _ _ => trivial)⟩
  | 1, hj => simp at hj; subst hj; exact ⟨hw.cell 2, _, hw.cell 3, (strs_one h2).strsP (fun _ => True) (fun _ _ => trivial)⟩
  | 2, hj => simp at hj; subst hj; exact ⟨hw.cell 4, _, hw.cell 5, (strs_one h3).strsP (fun _ => True) (fun _ _ => trivial)⟩
  | j + 3, hj => simp at hj
set_option maxRecDepth 100000 in
set_option maxHeartbeats 4000000 in
theorem entryincrements_c (a0 b0 : Int) (w : World) (hE : Env w) : Calls Tryz.prog 6 #[.int .i64 a0, .int .i64 b0] w (True_ w) := by
  have HEN := Lib.hid (fun W (hb : Below w.heap.size w W) => hE.below hb)
  have ha := tmod9 a0
  have hb := tmod9 b0
  go_enter Tryz.func6, Tryz.ntmps6
  go_wp2_with fail
  refine (awake09_c _ hE).mono ?_; rintro e w1 ⟨rfl, hb1⟩
  go_wp2_with fail
  generalize a0.tmod 1000000000 = a at *
  generalize b0.tmod 1000000000 = b at *
  obtain ⟨ha1, ha2⟩ := ha
  obtain ⟨hb1', hb2'⟩ := hb
  have hwab : IntKind.i64.wrap (a + b) = a + b := Go.IntWalk.i64_in _ (by omega)
  have hwnb : IntKind.i64.wrap (-b) = -b := Go.IntWalk.i64_in _ (by omega)
  have dga := fun W => digits9_c a (by omega) W
  have dgb := fun W => digits9_c b (by omega) W
  have dgn := fun W => digits9_c (-b) (by omega) W
  have dgs := fun W => digits9_c (a + b) (by omega) W
  have HM1 := fun W (hz : Below w.heap.size w W) vc u h hvc => mod_ser a b (by omega) (by omega) (by omega) w.heap.size u vc W hz.size h hvc (HEN.out W hz)
  have HM2 := fun W (hz : Below w.heap.size w W) vc u h hvc => mod_ser (a + b) (-b) (by omega) (by omega) (by omega) w.heap.size u vc W hz.size h hvc (HEN.out W hz)
  have hback : a + b + -b = a := by omega
  rw [hback] at HM2
  have hmk := fun W (hz : Below w.heap.size w W) u h => make_ser a (by omega) w.heap.size u W hz.size h (HEN.out W hz)
  have hhs := fun W (hz : Below w.heap.size w W) u h => has_ser (a + b) (by omega) u W h (HEN.out W hz)
  have hsm := fun W u1 u2 h1 h2 => same_ser a (by omega) u1 u2 W h1 h2
  unfold SerRet at HM1 HM2 hmk
  unfold NmBool at hhs
  unfold True_ at hsm
  have hs1 := alloc_size w1 (.cells #[.string ⟨#[111]⟩] 9)
  have hg1 := grow1 w1 (.cells #[.string ⟨#[111]⟩] 9)
  have hS1 := Whole.made w1 9 #[.string ⟨#[111]⟩]
  obtain ⟨V1, hV1⟩ : ∃ x, x = w1.alloc (.cells #[.string ⟨#[111]⟩] 9) := ⟨_, rfl⟩
  rw [← hV1] at hs1 hg1 hS1
  have hg2 := grow1 V1 (.cells #[.string ⟨#[120]⟩] 9)
  have hS2 := Whole.made V1 9 #[.string ⟨#[120]⟩]
  rw [hs1] at hS2
  obtain ⟨V2, hV2⟩ : ∃ x, x = V1.alloc (.cells #[.string ⟨#[120]⟩] 9) := ⟨_, rfl⟩
  rw [← hV2] at hg2 hS2
  have hS1 := hS1.call hg2
  have hzV := hb1.trans ((hg1.trans (hg2.mono hg1.size)).mono hb1.size)
  have hdg := dga V2
  clear hback hE hg1 hg2 hs1 hb1
  subst hV2
  subst hV1
  refine hdg.mono ?_; rintro e w2 ⟨rfl, hb2⟩
  have hz2 := hzV.trans (hb2.mono hzV.size)
  have hS1 := hS1.call hb2
  have hS2 := hS2.call hb2
  have hs3 := alloc_size w2 (.cells #[.string ⟨(Lib.itoa a).toArray⟩] 9)
  have hg3 := grow1 w2 (.cells #[.string ⟨(Lib.itoa a).toArray⟩] 9)
  have hS3 := Whole.made w2 9 #[.string ⟨(Lib.itoa a).toArray⟩]
  obtain ⟨V3, hV3⟩ : ∃ x, x = w2.alloc (.cells #[.string ⟨(Lib.itoa a).toArray⟩] 9) := ⟨_, rfl⟩
  rw [← hV3] at hs3 hg3 hS3
  have hg4 := grow1 V3 (.cells #[.string ⟨#[111, 98, 106, 101, 99, 116, 67, 108, 97, 115, 115]⟩, .slice (some ⟨w1.heap.size, 0, none⟩) 1 1, .string ⟨#[100, 99]⟩, .slice (some ⟨w1.heap.size + 1, 0, none⟩) 1 1, .string ⟨#[115, 101, 114, 105, 97, 108, 78, 117, 109, 98, 101, 114]⟩, .slice (some ⟨w2.heap.size, 0, none⟩) 1 1] 37)
  have hA4 := Whole.made V3 37 #[.string ⟨#[111, 98, 106, 101, 99, 116, 67, 108, 97, 115, 115]⟩, .slice (some ⟨w1.heap.size, 0, none⟩) 1 1, .string ⟨#[100, 99]⟩, .slice (some ⟨w1.heap.size + 1, 0, none⟩) 1 1, .string ⟨#[115, 101, 114, 105, 97, 108, 78, 117, 109, 98, 101, 114]⟩, .slice (some ⟨w2.heap.size, 0, none⟩) 1 1]
  rw [hs3] at hA4
  obtain ⟨V4, hV4⟩ : ∃ x, x = V3.alloc (.cells #[.string ⟨#[111, 98, 106, 101, 99, 116, 67, 108, 97, 115, 115]⟩, .slice (some ⟨w1.heap.size, 0, none⟩) 1 1, .string ⟨#[100, 99]⟩, .slice (some ⟨w1.heap.size + 1, 0, none⟩) 1 1, .string ⟨#[115, 101, 114, 105, 97, 108, 78, 117, 109, 98, 101, 114]⟩, .slice (some ⟨w2.heap.size, 0, none⟩) 1 1] 37) := ⟨_, rfl⟩
  rw [← hV4] at hg4 hA4
  have hg34 := hg3.trans (hg4.mono hg3.size)
  have hz4 := hz2.trans (hg34.mono hz2.size)
  have hm4 := hmk V4 hz4 _ (three_attrs (t1 := EnS.tClass) (t2 := [100, 99]) (t3 := EnS.tSer) (v1 := [111]) (v2 := [120]) hA4 (hS1.call hg34) (hS2.call hg34) (hS3.call hg4))
  clear hmk hS1 hS2 hS3 hA4 hg3 hg4 hg34 hs3 hdg hz2 hzV hb2
  subst hV4
  subst hV3
  go_wp2_with fail
  refine hm4.mono ?_; rintro e w5 ⟨a5, c5, rfl, ho5, hb5⟩
  have hz5 := hz4.trans (hb5.mono hz4.size)
  have hgE := grow1 w5 (.cells #[.string ⟨#[100, 99, 61, 120]⟩, .slice a5 3 c5] 24)
  have hwE := Whole.made w5 24 #[.string ⟨#[100, 99, 61, 120]⟩, .slice a5 3 c5]
  have hz6 := hz5.trans (hgE.mono hz5.size)
  have hiE := (ho5.call hgE).attrsE
  clear hm4 ho5 hz4 hb5
  go_wp2_with fail
  obtain ⟨w6, hw6⟩ : ∃ x, w5.alloc (.cells #[.string ⟨#[100, 99, 61, 120]⟩, .slice a5 3 c5] 24) = x := ⟨_, rfl⟩
  rw [hw6] at hwE hz6 hiE ⊢
  obtain ⟨bE, hbE⟩ : ∃ x, w5.heap.size = x := ⟨_, rfl⟩
  rw [hbE] at hwE ⊢
  clear hw6 hbE hgE hz5
  have e0 := hwE.cell 0
  have e1 := hwE.cell 1
  simp only [List.getElem?_toArray, List.getElem?_cons_zero, List.getElem?_cons_succ] at e0 e1
  have hbD : Below w6.heap.size w6 w6.drew := (Below.refl _ _).drew
  go_cut [7, 8] (fun x d wd => ∃ g ap cp, x = .pointer (some ⟨g, 0, none⟩) ∧ d = .int .i64 0 ∧ Whole wd g 24 #[.string ⟨#[100, 99, 61, 120]⟩, .slice ap 3 cp] ∧ OwnK atK 37 [9] w.heap.size wd w.heap.size (.slice ap 3 cp) (EnS.eI (Lib.itoa (a + b))).attrs ∧ Below w6.heap.size w6 wd)
  case first =>
    refine head_begin 13 (fun W => W.cell? ⟨bE, 0, none⟩ = some (.string ⟨#[100, 99, 61, 120]⟩) ∧ W.cell? ⟨bE, 1, none⟩ = some (.slice a5 3 c5)) (by kernel_rfl) (by kernel_rfl) ⟨e0, e1⟩ (fun hHeld => ?_)
    generalize w6.drew = wd at *
    refine head_take 0 ?_ (by simp only [List.length_cons, List.length_nil]; decide) (by kernel_rfl) (fun _ _ _ h => h) (by rfl) ?_ hHeld ?_
    rotate_left
    · intro W hSw; (try simp only [List.getElem_cons_zero]); (try go_split_ands); go_simp; (try with_reducible rfl)
    (try simp only [List.getElem_cons_zero, Act.put, List.setIfInBounds_toArray, List.set_cons_zero, List.set_cons_succ])
    refine head_take 1 ?_ (by simp only [List.length_cons, List.length_nil]; decide) (by kernel_rfl) (fun _ _ _ h => h) (by rfl) ?_ hHeld ?_
    rotate_left
    · intro W hSw; (try simp only [List.getElem_cons_succ, List.getElem_cons_zero]); (try go_split_ands); go_simp; (try with_reducible rfl)
    (try simp only [List.getElem_cons_succ, List.getElem_cons_zero, Act.put, List.setIfInBounds_toArray, List.set_cons_zero, List.set_cons_succ])
    refine head_two 2 11 (by simp only [List.length_cons, List.length_nil]; decide) (by simp only [List.length_cons, List.length_nil]; decide) (by kernel_rfl) (fun K hK => ?_) (fun K hK => ?_)
    · (try simp only [List.getElem_cons_succ, List.getElem_cons_zero])
      refine if_step (by rfl) ?_
      go_simp
      refine (dgb wd).mono ?_
      rintro e w8 ⟨rfl, hb8⟩
      replace hbD := hbD.trans (hb8.mono hbD.size)
      clear hb8
      (try dsimp only)
      refine hK.out _ _ ?_ (fun hHeld => ?_)
      · exact ⟨keepC e0 hbD, keepC e1 hbD⟩
      clear hK K
      (try simp only [Act.put, List.setIfInBounds_toArray, List.set_cons_zero, List.set_cons_succ])
      refine head_two 3 11 (by simp only [List.length_cons, List.length_nil]; decide) (by simp only [List.length_cons, List.length_nil]; decide) (by kernel_rfl) (fun K hK => ?_) (fun K hK => ?_)
      · (try simp only [List.getElem_cons_succ, List.getElem_cons_zero])
        refine if_step (by rfl) ?_
        go_simp
        have hga := grow1 w8 (.cells #[.string ⟨(Lib.itoa b).toArray⟩] 9)
        have hS9 := Whole.made w8 9 #[.string ⟨(Lib.itoa b).toArray⟩]
        replace hbD := hbD.trans (hga.mono hbD.size)
        clear hga
        generalize w8.alloc (.cells #[.string ⟨(Lib.itoa b).toArray⟩] 9) = wb at *
        generalize w8.heap.size = bS at *
        refine hK.out _ _ ?_ (fun hHeld => ?_)
        · exact ⟨keepC e0 hbD, keepC e1 hbD⟩
        clear hK K
        (try simp only [List.getElem_cons_succ, List.getElem_cons_zero, Act.put, List.setIfInBounds_toArray, List.set_cons_zero, List.set_cons_succ])
        refine head_take 4 ?_ (by simp only [List.length_cons, List.length_nil]; decide) (by kernel_rfl) (fun _ _ _ h => h) (by rfl) ?_ hHeld ?_
        rotate_left
        · intro W hSw; (try simp only [List.getElem_cons_succ, List.getElem_cons_zero]); (try go_split_ands); go_simp; (try with_reducible rfl)
        (try simp only [List.getElem_cons_succ, List.getElem_cons_zero, Act.put, List.setIfInBounds_toArray, List.set_cons_zero, List.set_cons_succ])
        refine head_take 5 ?_ (by simp only [List.length_cons, List.length_nil]; decide) (by kernel_rfl) (fun _ _ _ h => h) (by rfl) ?_ hHeld ?_
        rotate_left
        · intro W hSw; (try simp only [List.getElem_cons_succ, List.getElem_cons_zero]); (try go_split_ands); go_simp; (try with_reducible rfl)
        (try simp only [List.getElem_cons_succ, List.getElem_cons_zero, Act.put, List.setIfInBounds_toArray, List.set_cons_zero, List.set_cons_succ])
        refine head_two 6 11 (by simp only [List.length_cons, List.length_nil]; decide) (by simp only [List.length_cons, List.length_nil]; decide) (by kernel_rfl) (fun K hK => ?_) (fun K hK => ?_)
        · (try simp only [List.getElem_cons_succ, List.getElem_cons_zero])
          refine if_step (by rfl) ?_
          go_simp
          have hga := grow1 wb (.cells #[.int .i64 3, .string ⟨#[115, 101, 114, 105, 97, 108, 78, 117, 109, 98, 101, 114]⟩, .slice (some ⟨bS, 0, none⟩) 1 1] 39)
          have hC9 := Whole.made wb 39 #[.int .i64 3, .string ⟨#[115, 101, 114, 105, 97, 108, 78, 117, 109, 98, 101, 114]⟩, .slice (some ⟨bS, 0, none⟩) 1 1]
          have hS9 := hS9.call hga
          replace hbD := hbD.trans (hga.mono hbD.size)
          clear hga
          generalize wb.alloc (.cells #[.int .i64 3, .string ⟨#[115, 101, 114, 105, 97, 108, 78, 117, 109, 98, 101, 114]⟩, .slice (some ⟨bS, 0, none⟩) 1 1] 39) = wc at *
          generalize wb.heap.size = bC at *
          refine hK.out _ _ ?_ (fun hHeld => ?_)
          · exact ⟨keepC e0 hbD, keepC e1 hbD⟩
          clear hK K
          (try simp only [List.getElem_cons_succ, List.getElem_cons_zero, Act.put, List.setIfInBounds_toArray, List.set_cons_zero, List.set_cons_succ])
          refine head_two 7 11 (by simp only [List.length_cons, List.length_nil]; decide) (by simp only [List.length_cons, List.length_nil]; decide) (by kernel_rfl) (fun K hK => ?_) (fun K hK => ?_)
          · (try simp only [List.getElem_cons_succ, List.getElem_cons_zero])
            refine if_step (by rfl) ?_
            go_simp
            refine (HM1 wc (hz6.trans (hbD.mono hz6.size)) _ _ (hiE.callT hbD) (chg_one (name := EnS.tSer) hC9 (strs_one hS9))).mono ?_
            rintro e w10 ⟨a10, c10, rfl, ho10, hb10⟩
            replace ho10 := ho10.mono (B' := w.heap.size) (Nat.le_trans hz6.size hbD.size)
            replace hbD := hbD.trans (hb10.mono hbD.size)
            clear hb10
            (try dsimp only)
            refine hK.out _ _ ?_ (fun hHeld => ?_)
            · exact ⟨keepC e0 hbD, keepC e1 hbD⟩
            clear hK K
            (try simp only [Act.put, List.setIfInBounds_toArray, List.set_cons_zero, List.set_cons_succ])
            refine head_take 8 ?_ (by simp only [List.length_cons, List.length_nil]; decide) (by kernel_rfl) (fun _ _ _ h => h) (by rfl) ?_ hHeld ?_
            rotate_left
            · intro W hSw; (try simp only [List.getElem_cons_succ, List.getElem_cons_zero]); (try go_split_ands); go_simp; (try with_reducible rfl)
            (try simp only [List.getElem_cons_succ, List.getElem_cons_zero, Act.put, List.setIfInBounds_toArray, List.set_cons_zero, List.set_cons_succ])
            refine head_take 9 ?_ (by simp only [List.length_cons, List.length_nil]; decide) (by kernel_rfl) (fun _ _ _ h => h) (by rfl) ?_ hHeld ?_
            rotate_left
            · intro W hSw; (try simp only [List.getElem_cons_succ, List.getElem_cons_zero]); (try go_split_ands); go_simp; (try with_reducible rfl)
            (try simp only [List.getElem_cons_succ, List.getElem_cons_zero, Act.put, List.setIfInBounds_toArray, List.set_cons_zero, List.set_cons_succ])
            refine head_take 10 ?_ (by simp only [List.length_cons, List.length_nil]; decide) (by kernel_rfl) (fun _ _ _ h => h) (by rfl) ?_ hHeld ?_
            rotate_left
            · intro W hSw; (try simp only [List.getElem_cons_succ, List.getElem_cons_zero]); (try go_split_ands); go_simp; (try with_reducible rfl)
            (try simp only [List.getElem_cons_succ, List.getElem_cons_zero, Act.put, List.setIfInBounds_toArray, List.set_cons_zero, List.set_cons_succ])
            refine head_step 11 (by simp only [List.length_cons, List.length_nil]; decide) (by kernel_rfl) (fun K hK => ?_)
            (try simp only [List.getElem_cons_succ, List.getElem_cons_zero])
            refine if_step (by rfl) ?_
            go_simp
            have hX := Whole.made w10 24 #[.string ⟨#[]⟩, .slice none 0 0]
            have hga := grow1 w10 (.cells #[.string ⟨#[]⟩, .slice none 0 0] 24)
            have hgx : w6.heap.size ≤ w10.heap.size := hbD.size
            have ho10 := ho10.call hga
            replace hbD := hbD.trans (hga.mono hbD.size)
            clear hga
            generalize w10.alloc (.cells #[.string ⟨#[]⟩, .slice none 0 0] 24) = wx at *
            generalize w10.heap.size = bX at *
            refine hK.out _ _ ?_ (fun hHeld => ?_)
            · exact ⟨keepC e0 hbD, keepC e1 hbD⟩
            clear hK K
            (try simp only [List.getElem_cons_succ, List.getElem_cons_zero, Act.put, List.setIfInBounds_toArray, List.set_cons_zero, List.set_cons_succ])
            refine head_step 12 (by simp only [List.length_cons, List.length_nil]; decide) (by kernel_rfl) (fun K hK => ?_)
            (try simp only [List.getElem_cons_succ, List.getElem_cons_zero])
            refine if_step (by rfl) ?_
            have x0 := hX.cell 0
            have x1 := hX.cell 1
            have s0 := hX.thaw 0
            have s1 := hX.thaw 1
            simp only [List.getElem?_toArray, List.getElem?_cons_zero, List.getElem?_cons_succ] at x0 x1
            have hP := hX.put 0 (.string ⟨#[100, 99, 61, 120]⟩)
            have hgC : w.heap.size ≤ bX := Nat.le_trans hz6.size hgx
            have hoA := ho10.other hX hgC (by decide) (by decide) 0 (.string ⟨#[100, 99, 61, 120]⟩)
            simp only [List.setIfInBounds_toArray, List.set_cons_zero] at hP
            have hQ := hP.put 1 (.slice a10 3 c10)
            have hoB := hoA.other hP hgC (by decide) (by decide) 1 (.slice a10 3 c10)
            simp only [List.setIfInBounds_toArray, List.set_cons_succ, List.set_cons_zero] at hQ
            have hbF := (hbD.setCell (p := ⟨bX, 0, none⟩) hgx (.string ⟨#[100, 99, 61, 120]⟩)).setCell (p := ⟨bX, 1, none⟩) hgx (.slice a10 3 c10)
            go_simp
            refine hK.out _ _ ?_ (fun hHeld => ?_)
            · exact ⟨keepC e0 hbF, keepC e1 hbF⟩
            clear hK K
            (try simp only [List.getElem_cons_succ, List.getElem_cons_zero, Act.put, List.setIfInBounds_toArray, List.set_cons_zero, List.set_cons_succ])
            refine head_end (by kernel_rfl) ?_
            simp only [List.drop_succ_cons, List.drop_zero]
            generalize (wx.setCell ⟨bX, 0, none⟩ (.string ⟨#[100, 99, 61, 120]⟩)).setCell ⟨bX, 1, none⟩ (.slice a10 3 c10) = wf at *
            clear hX hP hoA ho10 hHeld hC9 hS9 hbD s0 s1 x0 x1
            go_wp2_with fail
            go_meet
            exact ⟨bX, a10, c10, rfl, rfl, hQ, hoB, hbF⟩
          · (try simp only [List.getElem_cons_succ, List.getElem_cons_zero])
            refine if_step (by rfl) ?_
            go_simp
            have hX := Whole.made wc 24 #[.string ⟨#[]⟩, .slice none 0 0]
            have hga := grow1 wc (.cells #[.string ⟨#[]⟩, .slice none 0 0] 24)
            have hgx : w6.heap.size ≤ wc.heap.size := hbD.size
            have hS9 := hS9.call hga
            have hC9 := hC9.call hga
            replace hbD := hbD.trans (hga.mono hbD.size)
            clear hga
            generalize wc.alloc (.cells #[.string ⟨#[]⟩, .slice none 0 0] 24) = wx at *
            generalize wc.heap.size = bX at *
            refine hK.out _ _ ?_ (fun hHeld => ?_)
            · exact ⟨keepC e0 hbD, keepC e1 hbD⟩
            clear hK K
            (try simp only [List.getElem_cons_succ, List.getElem_cons_zero, Act.put, List.setIfInBounds_toArray, List.set_cons_zero, List.set_cons_succ])
            refine head_step 7 (by simp only [List.length_cons, List.length_nil]; decide) (by kernel_rfl) (fun K hK => ?_)
            (try simp only [List.getElem_cons_succ, List.getElem_cons_zero])
            refine if_step (by rfl) ?_
            go_simp
            refine (HM1 wx (hz6.trans (hbD.mono hz6.size)) _ _ (hiE.callT hbD) (chg_one (name := EnS.tSer) hC9 (strs_one hS9))).mono ?_
            rintro e w10 ⟨a10, c10, rfl, ho10, hb10⟩
            replace ho10 := ho10.mono (B' := w.heap.size) (Nat.le_trans hz6.size hbD.size)
            have hX := hX.call hb10
            replace hbD := hbD.trans (hb10.mono hbD.size)
            clear hb10
            (try dsimp only)
            refine hK.out _ _ ?_ (fun hHeld => ?_)
            · exact ⟨keepC e0 hbD, keepC e1 hbD⟩
            clear hK K
            (try simp only [Act.put, List.setIfInBounds_toArray, List.set_cons_zero, List.set_cons_succ])
            refine head_take 8 ?_ (by simp only [List.length_cons, List.length_nil]; decide) (by kernel_rfl) (fun _ _ _ h => h) (by rfl) ?_ hHeld ?_
            rotate_left
            · intro W hSw; (try simp only [List.getElem_cons_succ, List.getElem_cons_zero]); (try go_split_ands); go_simp; (try with_reducible rfl)
            (try simp only [List.getElem_cons_succ, List.getElem_cons_zero, Act.put, List.setIfInBounds_toArray, List.set_cons_zero, List.set_cons_succ])
            refine head_take 9 ?_ (by simp only [List.length_cons, List.length_nil]; decide) (by kernel_rfl) (fun _ _ _ h => h) (by rfl) ?_ hHeld ?_
            rotate_left
            · intro W hSw; (try simp only [List.getElem_cons_succ, List.getElem_cons_zero]); (try go_split_ands); go_simp; (try with_reducible rfl)
            (try simp only [List.getElem_cons_succ, List.getElem_cons_zero, Act.put, List.setIfInBounds_toArray, List.set_cons_zero, List.set_cons_succ])
            refine head_take 10 ?_ (by simp only [List.length_cons, List.length_nil]; decide) (by kernel_rfl) (fun _ _ _ h => h) (by rfl) ?_ hHeld ?_
            rotate_left
            · intro W hSw; (try simp only [List.getElem_cons_succ, List.getElem_cons_zero]); (try go_split_ands); go_simp; (try with_reducible rfl)
            (try simp only [List.getElem_cons_succ, List.getElem_cons_zero, Act.put, List.setIfInBounds_toArray, List.set_cons_zero, List.set_cons_succ])
            refine head_step 12 (by simp only [List.length_cons, List.length_nil]; decide) (by kernel_rfl) (fun K hK => ?_)
            (try simp only [List.getElem_cons_succ, List.getElem_cons_zero])
            refine if_step (by rfl) ?_
            have x0 := hX.cell 0
            have x1 := hX.cell 1
            have s0 := hX.thaw 0
            have s1 := hX.thaw 1
            simp only [List.getElem?_toArray, List.getElem?_cons_zero, List.getElem?_cons_succ] at x0 x1
            have hP := hX.put 0 (.string ⟨#[100, 99, 61, 120]⟩)
            have hgC : w.heap.size ≤ bX := Nat.le_trans hz6.size hgx
            have hoA := ho10.other hX hgC (by decide) (by decide) 0 (.string ⟨#[100, 99, 61, 120]⟩)
            simp only [List.setIfInBounds_toArray, List.set_cons_zero] at hP
            have hQ := hP.put 1 (.slice a10 3 c10)
            have hoB := hoA.other hP hgC (by decide) (by decide) 1 (.slice a10 3 c10)
            simp only [List.setIfInBounds_toArray, List.set_cons_succ, List.set_cons_zero] at hQ
            have hbF := (hbD.setCell (p := ⟨bX, 0, none⟩) hgx (.string ⟨#[100, 99, 61, 120]⟩)).setCell (p := ⟨bX, 1, none⟩) hgx (.slice a10 3 c10)
            go_simp
            refine hK.out _ _ ?_ (fun hHeld => ?_)
            · exact ⟨keepC e0 hbF, keepC e1 hbF⟩
            clear hK K
            (try simp only [List.getElem_cons_succ, List.getElem_cons_zero, Act.put, List.setIfInBounds_toArray, List.set_cons_zero, List.set_cons_succ])
            refine head_end (by kernel_rfl) ?_
            simp only [List.drop_succ_cons, List.drop_zero]
            generalize (w10.setCell ⟨bX, 0, none⟩ (.string ⟨#[100, 99, 61, 120]⟩)).setCell ⟨bX, 1, none⟩ (.slice a10 3 c10) = wf at *
            clear hX hP hoA ho10 hHeld hC9 hS9 hbD s0 s1 x0 x1
            go_wp2_with fail
            go_meet
            exact ⟨bX, a10, c10, rfl, rfl, hQ, hoB, hbF⟩
        · (try simp only [List.getElem_cons_succ, List.getElem_cons_zero])
          refine if_step (by rfl) ?_
          go_simp
          have hX := Whole.made wb 24 #[.string ⟨#[]⟩, .slice none 0 0]
          have hga := grow1 wb (.cells #[.string ⟨#[]⟩, .slice none 0 0] 24)
          have hgx : w6.heap.size ≤ wb.heap.size := hbD.size
          have hS9 := hS9.call hga
          replace hbD := hbD.trans (hga.mono hbD.size)
          clear hga
          generalize wb.alloc (.cells #[.string ⟨#[]⟩, .slice none 0 0] 24) = wx at *
          generalize wb.heap.size = bX at *
          refine hK.out _ _ ?_ (fun hHeld => ?_)
          · exact ⟨keepC e0 hbD, keepC e1 hbD⟩
          clear hK K
          (try simp only [List.getElem_cons_succ, List.getElem_cons_zero, Act.put, List.setIfInBounds_toArray, List.set_cons_zero, List.set_cons_succ])
          refine head_step 6 (by simp only [List.length_cons, List.length_nil]; decide) (by kernel_rfl) (fun K hK => ?_)
          (try simp only [List.getElem_cons_succ, List.getElem_cons_zero])
          refine if_step (by rfl) ?_
          go_simp
          have hga := grow1 wx (.cells #[.int .i64 3, .string ⟨#[115, 101, 114, 105, 97, 108, 78, 117, 109, 98, 101, 114]⟩, .slice (some ⟨bS, 0, none⟩) 1 1] 39)
          have hC9 := Whole.made wx 39 #[.int .i64 3, .string ⟨#[115, 101, 114, 105, 97, 108, 78, 117, 109, 98, 101, 114]⟩, .slice (some ⟨bS, 0, none⟩) 1 1]
          have hS9 := hS9.call hga
          have hX := hX.call hga
          replace hbD := hbD.trans (hga.mono hbD.size)
          clear hga
          generalize wx.alloc (.cells #[.int .i64 3, .string ⟨#[115, 101, 114, 105, 97, 108, 78, 117, 109, 98, 101, 114]⟩, .slice (some ⟨bS, 0, none⟩) 1 1] 39) = wc at *
          generalize wx.heap.size = bC at *
          refine hK.out _ _ ?_ (fun hHeld => ?_)
          · exact ⟨keepC e0 hbD, keepC e1 hbD⟩
          clear hK K
          (try simp only [List.getElem_cons_succ, List.getElem_cons_zero, Act.put, List.setIfInBounds_toArray, List.set_cons_zero, List.set_cons_succ])
          refine head_step 7 (by simp only [List.length_cons, List.length_nil]; decide) (by kernel_rfl) (fun K hK => ?_)
          (try simp only [List.getElem_cons_succ, List.getElem_cons_zero])
          refine if_step (by rfl) ?_
          go_simp
          refine (HM1 wc (hz6.trans (hbD.mono hz6.size)) _ _ (hiE.callT hbD) (chg_one (name := EnS.tSer) hC9 (strs_one hS9))).mono ?_
          rintro e w10 ⟨a10, c10, rfl, ho10, hb10⟩
          replace ho10 := ho10.mono (B' := w.heap.size) (Nat.le_trans hz6.size hbD.size)
          have hX := hX.call hb10
          replace hbD := hbD.trans (hb10.mono hbD.size)
          clear hb10
          (try dsimp only)
          refine hK.out _ _ ?_ (fun hHeld => ?_)
          · exact ⟨keepC e0 hbD, keepC e1 hbD⟩
          clear hK K
          (try simp only [Act.put, List.setIfInBounds_toArray, List.set_cons_zero, List.set_cons_succ])
          refine head_take 8 ?_ (by simp only [List.length_cons, List.length_nil]; decide) (by kernel_rfl) (fun _ _ _ h => h) (by rfl) ?_ hHeld ?_
          rotate_left
          · intro W hSw; (try simp only [List.getElem_cons_succ, List.getElem_cons_zero]); (try go_split_ands); go_simp; (try with_reducible rfl)
          (try simp only [List.getElem_cons_succ, List.getElem_cons_zero, Act.put, List.setIfInBounds_toArray, List.set_cons_zero, List.set_cons_succ])
          refine head_take 9 ?_ (by simp only [List.length_cons, List.length_nil]; decide) (by kernel_rfl) (fun _ _ _ h => h) (by rfl) ?_ hHeld ?_
          rotate_left
          · intro W hSw; (try simp only [List.getElem_cons_succ, List.getElem_cons_zero]); (try go_split_ands); go_simp; (try with_reducible rfl)
          (try simp only [List.getElem_cons_succ, List.getElem_cons_zero, Act.put, List.setIfInBounds_toArray, List.set_cons_zero, List.set_cons_succ])
          refine head_take 10 ?_ (by simp only [List.length_cons, List.length_nil]; decide) (by kernel_rfl) (fun _ _ _ h => h) (by rfl) ?_ hHeld ?_
          rotate_left
          · intro W hSw; (try simp only [List.getElem_cons_succ, List.getElem_cons_zero]); (try go_split_ands); go_simp; (try with_reducible rfl)
          (try simp only [List.getElem_cons_succ, List.getElem_cons_zero, Act.put, List.setIfInBounds_toArray, List.set_cons_zero, List.set_cons_succ])
          refine head_step 12 (by simp only [List.length_cons, List.length_nil]; decide) (by kernel_rfl) (fun K hK => ?_)
          (try simp only [List.getElem_cons_succ, List.getElem_cons_zero])
          refine if_step (by rfl) ?_
          have x0 := hX.cell 0
          have x1 := hX.cell 1
          have s0 := hX.thaw 0
          have s1 := hX.thaw 1
          simp only [List.getElem?_toArray, List.getElem?_cons_zero, List.getElem?_cons_succ] at x0 x1
          have hP := hX.put 0 (.string ⟨#[100, 99, 61, 120]⟩)
          have hgC : w.heap.size ≤ bX := Nat.le_trans hz6.size hgx
          have hoA := ho10.other hX hgC (by decide) (by decide) 0 (.string ⟨#[100, 99, 61, 120]⟩)
          simp only [List.setIfInBounds_toArray, List.set_cons_zero] at hP
          have hQ := hP.put 1 (.slice a10 3 c10)
          have hoB := hoA.other hP hgC (by decide) (by decide) 1 (.slice a10 3 c10)
          simp only [List.setIfInBounds_toArray, List.set_cons_succ, List.set_cons_zero] at hQ
          have hbF := (hbD.setCell (p := ⟨bX, 0, none⟩) hgx (.string ⟨#[100, 99, 61, 120]⟩)).setCell (p := ⟨bX, 1, none⟩) hgx (.slice a10 3 c10)
          go_simp
          refine hK.out _ _ ?_ (fun hHeld => ?_)
          · exact ⟨keepC e0 hbF, keepC e1 hbF⟩
          clear hK K
          (try simp only [List.getElem_cons_succ, List.getElem_cons_zero, Act.put, List.setIfInBounds_toArray, List.set_cons_zero, List.set_cons_succ])
          refine head_end (by kernel_rfl) ?_
          simp only [List.drop_succ_cons, List.drop_zero]
          generalize (w10.setCell ⟨bX, 0, none⟩ (.string ⟨#[100, 99, 61, 120]⟩)).setCell ⟨bX, 1, none⟩ (.slice a10 3 c10) = wf at *
          clear hX hP hoA ho10 hHeld hC9 hS9 hbD s0 s1 x0 x1
          go_wp2_with fail
          go_meet
          exact ⟨bX, a10, c10, rfl, rfl, hQ, hoB, hbF⟩
      · (try simp only [List.getElem_cons_succ, List.getElem_cons_zero])
        refine if_step (by rfl) ?_
        go_simp
        have hX := Whole.made w8 24 #[.string ⟨#[]⟩, .slice none 0 0]
        have hga := grow1 w8 (.cells #[.string ⟨#[]⟩, .slice none 0 0] 24)
        have hgx : w6.heap.size ≤ w8.heap.size := hbD.size
        replace hbD := hbD.trans (hga.mono hbD.size)
        clear hga
        generalize w8.alloc (.cells #[.string ⟨#[]⟩, .slice none 0 0] 24) = wx at *
        generalize w8.heap.size = bX at *
        refine hK.out _ _ ?_ (fun hHeld => ?_)
        · exact ⟨keepC e0 hbD, keepC e1 hbD⟩
        clear hK K
        (try simp only [List.getElem_cons_succ, List.getElem_cons_zero, Act.put, List.setIfInBounds_toArray, List.set_cons_zero, List.set_cons_succ])
        refine head_step 3 (by simp only [List.length_cons, List.length_nil]; decide) (by kernel_rfl) (fun K hK => ?_)
        (try simp only [List.getElem_cons_succ, List.getElem_cons_zero])
        refine if_step (by rfl) ?_
        go_simp
        have hga := grow1 wx (.cells #[.string ⟨(Lib.itoa b).toArray⟩] 9)
        have hS9 := Whole.made wx 9 #[.string ⟨(Lib.itoa b).toArray⟩]
        have hX := hX.call hga
        replace hbD := hbD.trans (hga.mono hbD.size)
        clear hga
        generalize wx.alloc (.cells #[.string ⟨(Lib.itoa b).toArray⟩] 9) = wb at *
        generalize wx.heap.size = bS at *
        refine hK.out _ _ ?_ (fun hHeld => ?_)
        · exact ⟨keepC e0 hbD, keepC e1 hbD⟩
        clear hK K
        (try simp only [List.getElem_cons_succ, List.getElem_cons_zero, Act.put, List.setIfInBounds_toArray, List.set_cons_zero, List.set_cons_succ])
        refine head_take 4 ?_ (by simp only [List.length_cons, List.length_nil]; decide) (by kernel_rfl) (fun _ _ _ h => h) (by rfl) ?_ hHeld ?_
        rotate_left
        · intro W hSw; (try simp only [List.getElem_cons_succ, List.getElem_cons_zero]); (try go_split_ands); go_simp; (try with_reducible rfl)
        (try simp only [List.getElem_cons_succ, List.getElem_cons_zero, Act.put, List.setIfInBounds_toArray, List.set_cons_zero, List.set_cons_succ])
        refine head_take 5 ?_ (by simp only [List.length_cons, List.length_nil]; decide) (by kernel_rfl) (fun _ _ _ h => h) (by rfl) ?_ hHeld ?_
        rotate_left
        · intro W hSw; (try simp only [List.getElem_cons_succ, List.getElem_cons_zero]); (try go_split_ands); go_simp; (try with_reducible rfl)
        (try simp only [List.getElem_cons_succ, List.getElem_cons_zero, Act.put, List.setIfInBounds_toArray, List.set_cons_zero, List.set_cons_succ])
        refine head_step 6 (by simp only [List.length_cons, List.length_nil]; decide) (by kernel_rfl) (fun K hK => ?_)
        (try simp only [List.getElem_cons_succ, List.getElem_cons_zero])
        refine if_step (by rfl) ?_
        go_simp
        have hga := grow1 wb (.cells #[.int .i64 3, .string ⟨#[115, 101, 114, 105, 97, 108, 78, 117, 109, 98, 101, 114]⟩, .slice (some ⟨bS, 0, none⟩) 1 1] 39)
        have hC9 := Whole.made wb 39 #[.int .i64 3, .string ⟨#[115, 101, 114, 105, 97, 108, 78, 117, 109, 98, 101, 114]⟩, .slice (some ⟨bS, 0, none⟩) 1 1]
        have hS9 := hS9.call hga
        have hX := hX.call hga
        replace hbD := hbD.trans (hga.mono hbD.size)
        clear hga
        generalize wb.alloc (.cells #[.int .i64 3, .string ⟨#[115, 101, 114, 105, 97, 108, 78, 117, 109, 98, 101, 114]⟩, .slice (some ⟨bS, 0, none⟩) 1 1] 39) = wc at *
        generalize wb.heap.size = bC at *
        refine hK.out _ _ ?_ (fun hHeld => ?_)
        · exact ⟨keepC e0 hbD, keepC e1 hbD⟩
        clear hK K
        (try simp only [List.getElem_cons_succ, List.getElem_cons_zero, Act.put, List.setIfInBounds_toArray, List.set_cons_zero, List.set_cons_succ])
        refine head_step 7 (by simp only [List.length_cons, List.length_nil]; decide) (by kernel_rfl) (fun K hK => ?_)
        (try simp only [List.getElem_cons_succ, List.getElem_cons_zero])
        refine if_step (by rfl) ?_
        go_simp
        refine (HM1 wc (hz6.trans (hbD.mono hz6.size)) _ _ (hiE.callT hbD) (chg_one (name := EnS.tSer) hC9 (strs_one hS9))).mono ?_
        rintro e w10 ⟨a10, c10, rfl, ho10, hb10⟩
        replace ho10 := ho10.mono (B' := w.heap.size) (Nat.le_trans hz6.size hbD.size)
        have hX := hX.call hb10
        replace hbD := hbD.trans (hb10.mono hbD.size)
        clear hb10
        (try dsimp only)
        refine hK.out _ _ ?_ (fun hHeld => ?_)
        · exact ⟨keepC e0 hbD, keepC e1 hbD⟩
        clear hK K
        (try simp only [Act.put, List.setIfInBounds_toArray, List.set_cons_zero, List.set_cons_succ])
        refine head_take 8 ?_ (by simp only [List.length_cons, List.length_nil]; decide) (by kernel_rfl) (fun _ _ _ h => h) (by rfl) ?_ hHeld ?_
        rotate_left
        · intro W hSw; (try simp only [List.getElem_cons_succ, List.getElem_cons_zero]); (try go_split_ands); go_simp; (try with_reducible rfl)
        (try simp only [List.getElem_cons_succ, List.getElem_cons_zero, Act.put, List.setIfInBounds_toArray, List.set_cons_zero, List.set_cons_succ])
        refine head_take 9 ?_ (by simp only [List.length_cons, List.length_nil]; decide) (by kernel_rfl) (fun _ _ _ h => h) (by rfl) ?_ hHeld ?_
        rotate_left
        · intro W hSw; (try simp only [List.getElem_cons_succ, List.getElem_cons_zero]); (try go_split_ands); go_simp; (try with_reducible rfl)
        (try simp only [List.getElem_cons_succ, List.getElem_cons_zero, Act.put, List.setIfInBounds_toArray, List.set_cons_zero, List.set_cons_succ])
        refine head_take 10 ?_ (by simp only [List.length_cons, List.length_nil]; decide) (by kernel_rfl) (fun _ _ _ h => h) (by rfl) ?_ hHeld ?_
        rotate_left
        · intro W hSw; (try simp only [List.getElem_cons_succ, List.getElem_cons_zero]); (try go_split_ands); go_simp; (try with_reducible rfl)
        (try simp only [List.getElem_cons_succ, List.getElem_cons_zero, Act.put, List.setIfInBounds_toArray, List.set_cons_zero, List.set_cons_succ])
        refine head_step 12 (by simp only [List.length_cons, List.length_nil]; decide) (by kernel_rfl) (fun K hK => ?_)
        (try simp only [List.getElem_cons_succ, List.getElem_cons_zero])
        refine if_step (by rfl) ?_
        have x0 := hX.cell 0
        have x1 := hX.cell 1
        have s0 := hX.thaw 0
        have s1 := hX.thaw 1
        simp only [List.getElem?_toArray, List.getElem?_cons_zero, List.getElem?_cons_succ] at x0 x1
        have hP := hX.put 0 (.string ⟨#[100, 99, 61, 120]⟩)
        have hgC : w.heap.size ≤ bX := Nat.le_trans hz6.size hgx
        have hoA := ho10.other hX hgC (by decide) (by decide) 0 (.string ⟨#[100, 99, 61, 120]⟩)
        simp only [List.setIfInBounds_toArray, List.set_cons_zero] at hP
        have hQ := hP.put 1 (.slice a10 3 c10)
        have hoB := hoA.other hP hgC (by decide) (by decide) 1 (.slice a10 3 c10)
        simp only [List.setIfInBounds_toArray, List.set_cons_succ, List.set_cons_zero] at hQ
        have hbF := (hbD.setCell (p := ⟨bX, 0, none⟩) hgx (.string ⟨#[100, 99, 61, 120]⟩)).setCell (p := ⟨bX, 1, none⟩) hgx (.slice a10 3 c10)
        go_simp
        refine hK.out _ _ ?_ (fun hHeld => ?_)
        · exact ⟨keepC e0 hbF, keepC e1 hbF⟩
        clear hK K
        (try simp only [List.getElem_cons_succ, List.getElem_cons_zero, Act.put, List.setIfInBounds_toArray, List.set_cons_zero, List.set_cons_succ])
        refine head_end (by kernel_rfl) ?_
        simp only [List.drop_succ_cons, List.drop_zero]
        generalize (w10.setCell ⟨bX, 0, none⟩ (.string ⟨#[100, 99, 61, 120]⟩)).setCell ⟨bX, 1, none⟩ (.slice a10 3 c10) = wf at *
        clear hX hP hoA ho10 hHeld hC9 hS9 hbD s0 s1 x0 x1
        go_wp2_with fail
        go_meet
        exact ⟨bX, a10, c10, rfl, rfl, hQ, hoB, hbF⟩
    · (try simp only [List.getElem_cons_succ, List.getElem_cons_zero])
      refine if_step (by rfl) ?_
      go_simp
      have hX := Whole.made wd 24 #[.string ⟨#[]⟩, .slice none 0 0]
      have hga := grow1 wd (.cells #[.string ⟨#[]⟩, .slice none 0 0] 24)
      have hgx : w6.heap.size ≤ wd.heap.size := hbD.size
      replace hbD := hbD.trans (hga.mono hbD.size)
      clear hga
      generalize wd.alloc (.cells #[.string ⟨#[]⟩, .slice none 0 0] 24) = wx at *
      generalize wd.heap.size = bX at *
      refine hK.out _ _ ?_ (fun hHeld => ?_)
      · exact ⟨keepC e0 hbD, keepC e1 hbD⟩
      clear hK K
      (try simp only [List.getElem_cons_succ, List.getElem_cons_zero, Act.put, List.setIfInBounds_toArray, List.set_cons_zero, List.set_cons_succ])
      refine head_step 2 (by simp only [List.length_cons, List.length_nil]; decide) (by kernel_rfl) (fun K hK => ?_)
      (try simp only [List.getElem_cons_succ, List.getElem_cons_zero])
      refine if_step (by rfl) ?_
      go_simp
      refine (dgb wx).mono ?_
      rintro e w8 ⟨rfl, hb8⟩
      have hX := hX.call hb8
      replace hbD := hbD.trans (hb8.mono hbD.size)
      clear hb8
      (try dsimp only)
      refine hK.out _ _ ?_ (fun hHeld => ?_)
      · exact ⟨keepC e0 hbD, keepC e1 hbD⟩
      clear hK K
      (try simp only [Act.put, List.setIfInBounds_toArray, List.set_cons_zero, List.set_cons_succ])
      refine head_step 3 (by simp only [List.length_cons, List.length_nil]; decide) (by kernel_rfl) (fun K hK => ?_)
      (try simp only [List.getElem_cons_succ, List.getElem_cons_zero])
      refine if_step (by rfl) ?_
      go_simp
      have hga := grow1 w8 (.cells #[.string ⟨(Lib.itoa b).toArray⟩] 9)
      have hS9 := Whole.made w8 9 #[.string ⟨(Lib.itoa b).toArray⟩]
      have hX := hX.call hga
      replace hbD := hbD.trans (hga.mono hbD.size)
      clear hga
      generalize w8.alloc (.cells #[.string ⟨(Lib.itoa b).toArray⟩] 9) = wb at *
      generalize w8.heap.size = bS at *
      refine hK.out _ _ ?_ (fun hHeld => ?_)
      · exact ⟨keepC e0 hbD, keepC e1 hbD⟩
      clear hK K
      (try simp only [List.getElem_cons_succ, List.getElem_cons_zero, Act.put, List.setIfInBounds_toArray, List.set_cons_zero, List.set_cons_succ])
      refine head_take 4 ?_ (by simp only [List.length_cons, List.length_nil]; decide) (by kernel_rfl) (fun _ _ _ h => h) (by rfl) ?_ hHeld ?_
      rotate_left
      · intro W hSw; (try simp only [List.getElem_cons_succ, List.getElem_cons_zero]); (try go_split_ands); go_simp; (try with_reducible rfl)
      (try simp only [List.getElem_cons_succ, List.getElem_cons_zero, Act.put, List.setIfInBounds_toArray, List.set_cons_zero, List.set_cons_succ])
      refine head_take 5 ?_ (by simp only [List.length_cons, List.length_nil]; decide) (by kernel_rfl) (fun _ _ _ h => h) (by rfl) ?_ hHeld ?_
      rotate_left
      · intro W hSw; (try simp only [List.getElem_cons_succ, List.getElem_cons_zero]); (try go_split_ands); go_simp; (try with_reducible rfl)
      (try simp only [List.getElem_cons_succ, List.getElem_cons_zero, Act.put, List.setIfInBounds_toArray, List.set_cons_zero, List.set_cons_succ])
      refine head_step 6 (by simp only [List.length_cons, List.length_nil]; decide) (by kernel_rfl) (fun K hK => ?_)
      (try simp only [List.getElem_cons_succ, List.getElem_cons_zero])
      refine if_step (by rfl) ?_
      go_simp
      have hga := grow1 wb (.cells #[.int .i64 3, .string ⟨#[115, 101, 114, 105, 97, 108, 78, 117, 109, 98, 101, 114]⟩, .slice (some ⟨bS, 0, none⟩) 1 1] 39)
      have hC9 := Whole.made wb 39 #[.int .i64 3, .string ⟨#[115, 101, 114, 105, 97, 108, 78, 117, 109, 98, 101, 114]⟩, .slice (some ⟨bS, 0, none⟩) 1 1]
      have hS9 := hS9.call hga
      have hX := hX.call hga
      replace hbD := hbD.trans (hga.mono hbD.size)
      clear hga
      generalize wb.alloc (.cells #[.int .i64 3, .string ⟨#[115, 101, 114, 105, 97, 108, 78, 117, 109, 98, 101, 114]⟩, .slice (some ⟨bS, 0, none⟩) 1 1] 39) = wc at *
      generalize wb.heap.size = bC at *
      refine hK.out _ _ ?_ (fun hHeld => ?_)
      · exact ⟨keepC e0 hbD, keepC e1 hbD⟩
      clear hK K
      (try simp only [List.getElem_cons_succ, List.getElem_cons_zero, Act.put, List.setIfInBounds_toArray, List.set_cons_zero, List.set_cons_succ])
      refine head_step 7 (by simp only [List.length_cons, List.length_nil]; decide) (by kernel_rfl) (fun K hK => ?_)
      (try simp only [List.getElem_cons_succ, List.getElem_cons_zero])
      refine if_step (by rfl) ?_
      go_simp
      refine (HM1 wc (hz6.trans (hbD.mono hz6.size)) _ _ (hiE.callT hbD) (chg_one (name := EnS.tSer) hC9 (strs_one hS9))).mono ?_
      rintro e w10 ⟨a10, c10, rfl, ho10, hb10⟩
      replace ho10 := ho10.mono (B' := w.heap.size) (Nat.le_trans hz6.size hbD.size)
      have hX := hX.call hb10
      replace hbD := hbD.trans (hb10.mono hbD.size)
      clear hb10
      (try dsimp only)
      refine hK.out _ _ ?_ (fun hHeld => ?_)
      · exact ⟨keepC e0 hbD, keepC e1 hbD⟩
      clear hK K
      (try simp only [Act.put, List.setIfInBounds_toArray, List.set_cons_zero, List.set_cons_succ])
      refine head_take 8 ?_ (by simp only [List.length_cons, List.length_nil]; decide) (by kernel_rfl) (fun _ _ _ h => h) (by rfl) ?_ hHeld ?_
      rotate_left
      · intro W hSw; (try simp only [List.getElem_cons_succ, List.getElem_cons_zero]); (try go_split_ands); go_simp; (try with_reducible rfl)
      (try simp only [List.getElem_cons_succ, List.getElem_cons_zero, Act.put, List.setIfInBounds_toArray, List.set_cons_zero, List.set_cons_succ])
      refine head_take 9 ?_ (by simp only [List.length_cons, List.length_nil]; decide) (by kernel_rfl) (fun _ _ _ h => h) (by rfl) ?_ hHeld ?_
      rotate_left
      · intro W hSw; (try simp only [List.getElem_cons_succ, List.getElem_cons_zero]); (try go_split_ands); go_simp; (try with_reducible rfl)
      (try simp only [List.getElem_cons_succ, List.getElem_cons_zero, Act.put, List.setIfInBounds_toArray, List.set_cons_zero, List.set_cons_succ])
      refine head_take 10 ?_ (by simp only [List.length_cons, List.length_nil]; decide) (by kernel_rfl) (fun _ _ _ h => h) (by rfl) ?_ hHeld ?_
      rotate_left
      · intro W hSw; (try simp only [List.getElem_cons_succ, List.getElem_cons_zero]); (try go_split_ands); go_simp; (try with_reducible rfl)
      (try simp only [List.getElem_cons_succ, List.getElem_cons_zero, Act.put, List.setIfInBounds_toArray, List.set_cons_zero, List.set_cons_succ])
      refine head_step 12 (by simp only [List.length_cons, List.length_nil]; decide) (by kernel_rfl) (fun K hK => ?_)
      (try simp only [List.getElem_cons_succ, List.getElem_cons_zero])
      refine if_step (by rfl) ?_
      have x0 := hX.cell 0
      have x1 := hX.cell 1
      have s0 := hX.thaw 0
      have s1 := hX.thaw 1
      simp only [List.getElem?_toArray, List.getElem?_cons_zero, List.getElem?_cons_succ] at x0 x1
      have hP := hX.put 0 (.string ⟨#[100, 99, 61, 120]⟩)
      have hgC : w.heap.size ≤ bX := Nat.le_trans hz6.size hgx
      have hoA := ho10.other hX hgC (by decide) (by decide) 0 (.string ⟨#[100, 99, 61, 120]⟩)
      simp only [List.setIfInBounds_toArray, List.set_cons_zero] at hP
      have hQ := hP.put 1 (.slice a10 3 c10)
      have hoB := hoA.other hP hgC (by decide) (by decide) 1 (.slice a10 3 c10)
      simp only [List.setIfInBounds_toArray, List.set_cons_succ, List.set_cons_zero] at hQ
      have hbF := (hbD.setCell (p := ⟨bX, 0, none⟩) hgx (.string ⟨#[100, 99, 61, 120]⟩)).setCell (p := ⟨bX, 1, none⟩) hgx (.slice a10 3 c10)
      go_simp
      refine hK.out _ _ ?_ (fun hHeld => ?_)
      · exact ⟨keepC e0 hbF, keepC e1 hbF⟩
      clear hK K
      (try simp only [List.getElem_cons_succ, List.getElem_cons_zero, Act.put, List.setIfInBounds_toArray, List.set_cons_zero, List.set_cons_succ])
      refine head_end (by kernel_rfl) ?_
      simp only [List.drop_succ_cons, List.drop_zero]
      generalize (w10.setCell ⟨bX, 0, none⟩ (.string ⟨#[100, 99, 61, 120]⟩)).setCell ⟨bX, 1, none⟩ (.slice a10 3 c10) = wf at *
      clear hX hP hoA ho10 hHeld hC9 hS9 hbD s0 s1 x0 x1
      go_wp2_with fail
      go_meet
      exact ⟨bX, a10, c10, rfl, rfl, hQ, hoB, hbF⟩
  case rest =>
  obtain ⟨bF, aF, cF, rfl, rfl, hwF, hoF, hbF⟩ := hcut
  obtain ⟨w7, rfl⟩ : ∃ x, x = wc := ⟨_, rfl⟩
  have hz7 := hz6.trans (hbF.mono hz6.size)
  have hwE7 := hwE.call hbF
  have hiE7 := hiE.callT hbF
  have hiE := hoF.attrsE
  clear hwE hoF e0 e1 hbF HM1 dgb hbD
  go_wp2_with fail
  go_cut [9, 10] (fun x d wd => ∃ g ap cp, x = .pointer (some ⟨g, 0, none⟩) ∧ d = .int .i64 0 ∧ Whole wd g 24 #[.string ⟨#[100, 99, 61, 120]⟩, .slice ap 3 cp] ∧ OwnK atK 37 [9] w.heap.size wd w.heap.size (.slice ap 3 cp) (EnS.eI (Lib.itoa a)).attrs ∧ Below w7.heap.size w7 wd)
  case first =>
    have hbD : Below w7.heap.size w7 w7.drew := (Below.refl _ _).drew
    have e0 := hwF.cell 0
    have e1 := hwF.cell 1
    simp only [List.getElem?_toArray, List.getElem?_cons_zero, List.getElem?_cons_succ] at e0 e1
    refine head_begin 14 (fun W => W.cell? ⟨bF, 0, none⟩ = some (.string ⟨#[100, 99, 61, 120]⟩) ∧ W.cell? ⟨bF, 1, none⟩ = some (.slice aF 3 cF)) (by kernel_rfl) (by kernel_rfl) ⟨e0, e1⟩ (fun hHeld => ?_)
    generalize w7.drew = wd at *
    refine head_take 0 ?_ (by simp only [List.length_cons, List.length_nil]; decide) (by kernel_rfl) (fun _ _ _ h => h) (by rfl) ?_ hHeld ?_
    rotate_left
    · intro W hSw; (try simp only [List.getElem_cons_zero]); (try go_split_ands); go_simp; (try with_reducible rfl)
    (try simp only [List.getElem_cons_zero, Act.put, List.setIfInBounds_toArray, List.set_cons_zero, List.set_cons_succ])
    refine head_take 1 ?_ (by simp only [List.length_cons, List.length_nil]; decide) (by kernel_rfl) (fun _ _ _ h => h) (by rfl) ?_ hHeld ?_
    rotate_left
    · intro W hSw; (try simp only [List.getElem_cons_succ, List.getElem_cons_zero]); (try go_split_ands); go_simp; (try with_reducible rfl)
    (try simp only [List.getElem_cons_succ, List.getElem_cons_zero, Act.put, List.setIfInBounds_toArray, List.set_cons_zero, List.set_cons_succ])
    refine head_take 2 ?_ (by simp only [List.length_cons, List.length_nil]; decide) (by kernel_rfl) (fun _ _ _ h => h) (by rfl) ?_ hHeld ?_
    rotate_left
    · intro W hSw; (try simp only [List.getElem_cons_succ, List.getElem_cons_zero]); (try go_split_ands); go_simp; (try with_reducible rfl)
    (try simp only [List.getElem_cons_succ, List.getElem_cons_zero, Act.put, List.setIfInBounds_toArray, List.set_cons_zero, List.set_cons_succ])
    refine head_two 3 12 (by simp only [List.length_cons, List.length_nil]; decide) (by simp only [List.length_cons, List.length_nil]; decide) (by kernel_rfl) (fun K hK => ?_) (fun K hK => ?_)
    · (try simp only [List.getElem_cons_succ, List.getElem_cons_zero])
      refine if_step (by rfl) ?_
      go_simp
      refine (dgn wd).mono ?_
      rintro e w8 ⟨rfl, hb8⟩
      replace hbD := hbD.trans (hb8.mono hbD.size)
      clear hb8
      (try dsimp only)
      refine hK.out _ _ ?_ (fun hHeld => ?_)
      · exact ⟨keepC e0 hbD, keepC e1 hbD⟩
      clear hK K
      (try simp only [Act.put, List.setIfInBounds_toArray, List.set_cons_zero, List.set_cons_succ])
      refine head_two 4 12 (by simp only [List.length_cons, List.length_nil]; decide) (by simp only [List.length_cons, List.length_nil]; decide) (by kernel_rfl) (fun K hK => ?_) (fun K hK => ?_)
      · (try simp only [List.getElem_cons_succ, List.getElem_cons_zero])
        refine if_step (by rfl) ?_
        go_simp
        have hga := grow1 w8 (.cells #[.string ⟨(Lib.itoa (-b)).toArray⟩] 9)
        have hS9 := Whole.made w8 9 #[.string ⟨(Lib.itoa (-b)).toArray⟩]
        replace hbD := hbD.trans (hga.mono hbD.size)
        clear hga
        generalize w8.alloc (.cells #[.string ⟨(Lib.itoa (-b)).toArray⟩] 9) = wb at *
        generalize w8.heap.size = bS at *
        refine hK.out _ _ ?_ (fun hHeld => ?_)
        · exact ⟨keepC e0 hbD, keepC e1 hbD⟩
        clear hK K
        (try simp only [List.getElem_cons_succ, List.getElem_cons_zero, Act.put, List.setIfInBounds_toArray, List.set_cons_zero, List.set_cons_succ])
        refine head_take 5 ?_ (by simp only [List.length_cons, List.length_nil]; decide) (by kernel_rfl) (fun _ _ _ h => h) (by rfl) ?_ hHeld ?_
        rotate_left
        · intro W hSw; (try simp only [List.getElem_cons_succ, List.getElem_cons_zero]); (try go_split_ands); go_simp; (try with_reducible rfl)
        (try simp only [List.getElem_cons_succ, List.getElem_cons_zero, Act.put, List.setIfInBounds_toArray, List.set_cons_zero, List.set_cons_succ])
        refine head_take 6 ?_ (by simp only [List.length_cons, List.length_nil]; decide) (by kernel_rfl) (fun _ _ _ h => h) (by rfl) ?_ hHeld ?_
        rotate_left
        · intro W hSw; (try simp only [List.getElem_cons_succ, List.getElem_cons_zero]); (try go_split_ands); go_simp; (try with_reducible rfl)
        (try simp only [List.getElem_cons_succ, List.getElem_cons_zero, Act.put, List.setIfInBounds_toArray, List.set_cons_zero, List.set_cons_succ])
        refine head_two 7 12 (by simp only [List.length_cons, List.length_nil]; decide) (by simp only [List.length_cons, List.length_nil]; decide) (by kernel_rfl) (fun K hK => ?_) (fun K hK => ?_)
        · (try simp only [List.getElem_cons_succ, List.getElem_cons_zero])
          refine if_step (by rfl) ?_
          go_simp
          have hga := grow1 wb (.cells #[.int .i64 3, .string ⟨#[115, 101, 114, 105, 97, 108, 78, 117, 109, 98, 101, 114]⟩, .slice (some ⟨bS, 0, none⟩) 1 1] 39)
          have hC9 := Whole.made wb 39 #[.int .i64 3, .string ⟨#[115, 101, 114, 105, 97, 108, 78, 117, 109, 98, 101, 114]⟩, .slice (some ⟨bS, 0, none⟩) 1 1]
          have hS9 := hS9.call hga
          replace hbD := hbD.trans (hga.mono hbD.size)
          clear hga
          generalize wb.alloc (.cells #[.int .i64 3, .string ⟨#[115, 101, 114, 105, 97, 108, 78, 117, 109, 98, 101, 114]⟩, .slice (some ⟨bS, 0, none⟩) 1 1] 39) = wc at *
          generalize wb.heap.size = bC at *
          refine hK.out _ _ ?_ (fun hHeld => ?_)
          · exact ⟨keepC e0 hbD, keepC e1 hbD⟩
          clear hK K
          (try simp only [List.getElem_cons_succ, List.getElem_cons_zero, Act.put, List.setIfInBounds_toArray, List.set_cons_zero, List.set_cons_succ])
          refine head_two 8 12 (by simp only [List.length_cons, List.length_nil]; decide) (by simp only [List.length_cons, List.length_nil]; decide) (by kernel_rfl) (fun K hK => ?_) (fun K hK => ?_)
          · (try simp only [List.getElem_cons_succ, List.getElem_cons_zero])
            refine if_step (by rfl) ?_
            go_simp
            refine (HM2 wc (hz7.trans (hbD.mono hz7.size)) _ _ (hiE.callT hbD) (chg_one (name := EnS.tSer) hC9 (strs_one hS9))).mono ?_
            rintro e w10 ⟨a10, c10, rfl, ho10, hb10⟩
            replace ho10 := ho10.mono (B' := w.heap.size) (Nat.le_trans hz7.size hbD.size)
            replace hbD := hbD.trans (hb10.mono hbD.size)
            clear hb10
            (try dsimp only)
            refine hK.out _ _ ?_ (fun hHeld => ?_)
            · exact ⟨keepC e0 hbD, keepC e1 hbD⟩
            clear hK K
            (try simp only [Act.put, List.setIfInBounds_toArray, List.set_cons_zero, List.set_cons_succ])
            refine head_take 9 ?_ (by simp only [List.length_cons, List.length_nil]; decide) (by kernel_rfl) (fun _ _ _ h => h) (by rfl) ?_ hHeld ?_
            rotate_left
            · intro W hSw; (try simp only [List.getElem_cons_succ, List.getElem_cons_zero]); (try go_split_ands); go_simp; (try with_reducible rfl)
            (try simp only [List.getElem_cons_succ, List.getElem_cons_zero, Act.put, List.setIfInBounds_toArray, List.set_cons_zero, List.set_cons_succ])
            refine head_take 10 ?_ (by simp only [List.length_cons, List.length_nil]; decide) (by kernel_rfl) (fun _ _ _ h => h) (by rfl) ?_ hHeld ?_
            rotate_left
            · intro W hSw; (try simp only [List.getElem_cons_succ, List.getElem_cons_zero]); (try go_split_ands); go_simp; (try with_reducible rfl)
            (try simp only [List.getElem_cons_succ, List.getElem_cons_zero, Act.put, List.setIfInBounds_toArray, List.set_cons_zero, List.set_cons_succ])
            refine head_take 11 ?_ (by simp only [List.length_cons, List.length_nil]; decide) (by kernel_rfl) (fun _ _ _ h => h) (by rfl) ?_ hHeld ?_
            rotate_left
            · intro W hSw; (try simp only [List.getElem_cons_succ, List.getElem_cons_zero]); (try go_split_ands); go_simp; (try with_reducible rfl)
            (try simp only [List.getElem_cons_succ, List.getElem_cons_zero, Act.put, List.setIfInBounds_toArray, List.set_cons_zero, List.set_cons_succ])
            refine head_step 12 (by simp only [List.length_cons, List.length_nil]; decide) (by kernel_rfl) (fun K hK => ?_)
            (try simp only [List.getElem_cons_succ, List.getElem_cons_zero])
            refine if_step (by rfl) ?_
            go_simp
            have hX := Whole.made w10 24 #[.string ⟨#[]⟩, .slice none 0 0]
            have hga := grow1 w10 (.cells #[.string ⟨#[]⟩, .slice none 0 0] 24)
            have hgx : w7.heap.size ≤ w10.heap.size := hbD.size
            have ho10 := ho10.call hga
            replace hbD := hbD.trans (hga.mono hbD.size)
            clear hga
            generalize w10.alloc (.cells #[.string ⟨#[]⟩, .slice none 0 0] 24) = wx at *
            generalize w10.heap.size = bX at *
            refine hK.out _ _ ?_ (fun hHeld => ?_)
            · exact ⟨keepC e0 hbD, keepC e1 hbD⟩
            clear hK K
            (try simp only [List.getElem_cons_succ, List.getElem_cons_zero, Act.put, List.setIfInBounds_toArray, List.set_cons_zero, List.set_cons_succ])
            refine head_step 13 (by simp only [List.length_cons, List.length_nil]; decide) (by kernel_rfl) (fun K hK => ?_)
            (try simp only [List.getElem_cons_succ, List.getElem_cons_zero])
            refine if_step (by rfl) ?_
            have x0 := hX.cell 0
            have x1 := hX.cell 1
            have s0 := hX.thaw 0
            have s1 := hX.thaw 1
            simp only [List.getElem?_toArray, List.getElem?_cons_zero, List.getElem?_cons_succ] at x0 x1
            have hP := hX.put 0 (.string ⟨#[100, 99, 61, 120]⟩)
            have hgC : w.heap.size ≤ bX := Nat.le_trans hz7.size hgx
            have hoA := ho10.other hX hgC (by decide) (by decide) 0 (.string ⟨#[100, 99, 61, 120]⟩)
            simp only [List.setIfInBounds_toArray, List.set_cons_zero] at hP
            have hQ := hP.put 1 (.slice a10 3 c10)
            have hoB := hoA.other hP hgC (by decide) (by decide) 1 (.slice a10 3 c10)
            simp only [List.setIfInBounds_toArray, List.set_cons_succ, List.set_cons_zero] at hQ
            have hbF := (hbD.setCell (p := ⟨bX, 0, none⟩) hgx (.string ⟨#[100, 99, 61, 120]⟩)).setCell (p := ⟨bX, 1, none⟩) hgx (.slice a10 3 c10)
            go_simp
            refine hK.out _ _ ?_ (fun hHeld => ?_)
            · exact ⟨keepC e0 hbF, keepC e1 hbF⟩
            clear hK K
            (try simp only [List.getElem_cons_succ, List.getElem_cons_zero, Act.put, List.setIfInBounds_toArray, List.set_cons_zero, List.set_cons_succ])
            refine head_end (by kernel_rfl) ?_
            simp only [List.drop_succ_cons, List.drop_zero]
            generalize (wx.setCell ⟨bX, 0, none⟩ (.string ⟨#[100, 99, 61, 120]⟩)).setCell ⟨bX, 1, none⟩ (.slice a10 3 c10) = wf at *
            clear hX hP hoA ho10 hHeld hC9 hS9 hbD s0 s1 x0 x1
            go_wp2_with fail
            go_meet
            exact ⟨bX, a10, c10, rfl, rfl, hQ, hoB, hbF⟩
          · (try simp only [List.getElem_cons_succ, List.getElem_cons_zero])
            refine if_step (by rfl) ?_
            go_simp
            have hX := Whole.made wc 24 #[.string ⟨#[]⟩, .slice none 0 0]
            have hga := grow1 wc (.cells #[.string ⟨#[]⟩, .slice none 0 0] 24)
            have hgx : w7.heap.size ≤ wc.heap.size := hbD.size
            have hS9 := hS9.call hga
            have hC9 := hC9.call hga
            replace hbD := hbD.trans (hga.mono hbD.size)
            clear hga
            generalize wc.alloc (.cells #[.string ⟨#[]⟩, .slice none 0 0] 24) = wx at *
            generalize wc.heap.size = bX at *
            refine hK.out _ _ ?_ (fun hHeld => ?_)
            · exact ⟨keepC e0 hbD, keepC e1 hbD⟩
            clear hK K
            (try simp only [List.getElem_cons_succ, List.getElem_cons_zero, Act.put, List.setIfInBounds_toArray, List.set_cons_zero, List.set_cons_succ])
            refine head_step 8 (by simp only [List.length_cons, List.length_nil]; decide) (by kernel_rfl) (fun K hK => ?_)
            (try simp only [List.getElem_cons_succ, List.getElem_cons_zero])
            refine if_step (by rfl) ?_
            go_simp
            refine (HM2 wx (hz7.trans (hbD.mono hz7.size)) _ _ (hiE.callT hbD) (chg_one (name := EnS.tSer) hC9 (strs_one hS9))).mono ?_
            rintro e w10 ⟨a10, c10, rfl, ho10, hb10⟩
            replace ho10 := ho10.mono (B' := w.heap.size) (Nat.le_trans hz7.size hbD.size)
            have hX := hX.call hb10
            replace hbD := hbD.trans (hb10.mono hbD.size)
            clear hb10
            (try dsimp only)
            refine hK.out _ _ ?_ (fun hHeld => ?_)
            · exact ⟨keepC e0 hbD, keepC e1 hbD⟩
            clear hK K
            (try simp only [Act.put, List.setIfInBounds_toArray, List.set_cons_zero, List.set_cons_succ])
            refine head_take 9 ?_ (by simp only [List.length_cons, List.length_nil]; decide) (by kernel_rfl) (fun _ _ _ h => h) (by rfl) ?_ hHeld ?_
            rotate_left
            · intro W hSw; (try simp only [List.getElem_cons_succ, List.getElem_cons_zero]); (try go_split_ands); go_simp; (try with_reducible rfl)
            (try simp only [List.getElem_cons_succ, List.getElem_cons_zero, Act.put, List.setIfInBounds_toArray, List.set_cons_zero, List.set_cons_succ])
            refine head_take 10 ?_ (by simp only [List.length_cons, List.length_nil]; decide) (by kernel_rfl) (fun _ _ _ h => h) (by rfl) ?_ hHeld ?_
            rotate_left
            · intro W hSw; (try simp only [List.getElem_cons_succ, List.getElem_cons_zero]); (try go_split_ands); go_simp; (try with_reducible rfl)
            (try simp only [List.getElem_cons_succ, List.getElem_cons_zero, Act.put, List.setIfInBounds_toArray, List.set_cons_zero, List.set_cons_succ])
            refine head_take 11 ?_ (by simp only [List.length_cons, List.length_nil]; decide) (by kernel_rfl) (fun _ _ _ h => h) (by rfl) ?_ hHeld ?_
            rotate_left
            · intro W hSw; (try simp only [List.getElem_cons_succ, List.getElem_cons_zero]); (try go_split_ands); go_simp; (try with_reducible rfl)
            (try simp only [List.getElem_cons_succ, List.getElem_cons_zero, Act.put, List.setIfInBounds_toArray, List.set_cons_zero, List.set_cons_succ])
            refine head_step 13 (by simp only [List.length_cons, List.length_nil]; decide) (by kernel_rfl) (fun K hK => ?_)
            (try simp only [List.getElem_cons_succ, List.getElem_cons_zero])
            refine if_step (by rfl) ?_
            have x0 := hX.cell 0
            have x1 := hX.cell 1
            have s0 := hX.thaw 0
            have s1 := hX.thaw 1
            simp only [List.getElem?_toArray, List.getElem?_cons_zero, List.getElem?_cons_succ] at x0 x1
            have hP := hX.put 0 (.string ⟨#[100, 99, 61, 120]⟩)
            have hgC : w.heap.size ≤ bX := Nat.le_trans hz7.size hgx
            have hoA := ho10.other hX hgC (by decide) (by decide) 0 (.string ⟨#[100, 99, 61, 120]⟩)
            simp only [List.setIfInBounds_toArray, List.set_cons_zero] at hP
            have hQ := hP.put 1 (.slice a10 3 c10)
            have hoB := hoA.other hP hgC (by decide) (by decide) 1 (.slice a10 3 c10)
            simp only [List.setIfInBounds_toArray, List.set_cons_succ, List.set_cons_zero] at hQ
            have hbF := (hbD.setCell (p := ⟨bX, 0, none⟩) hgx (.string ⟨#[100, 99, 61, 120]⟩)).setCell (p := ⟨bX, 1, none⟩) hgx (.slice a10 3 c10)
            go_simp
            refine hK.out _ _ ?_ (fun hHeld => ?_)
            · exact ⟨keepC e0 hbF, keepC e1 hbF⟩
            clear hK K
            (try simp only [List.getElem_cons_succ, List.getElem_cons_zero, Act.put, List.setIfInBounds_toArray, List.set_cons_zero, List.set_cons_succ])
            refine head_end (by kernel_rfl) ?_
            simp only [List.drop_succ_cons, List.drop_zero]
            generalize (w10.setCell ⟨bX, 0, none⟩ (.string ⟨#[100, 99, 61, 120]⟩)).setCell ⟨bX, 1, none⟩ (.slice a10 3 c10) = wf at *
            clear hX hP hoA ho10 hHeld hC9 hS9 hbD s0 s1 x0 x1
            go_wp2_with fail
            go_meet
            exact ⟨bX, a10, c10, rfl, rfl, hQ, hoB, hbF⟩
        · (try simp only [List.getElem_cons_succ, List.getElem_cons_zero])
          refine if_step (by rfl) ?_
          go_simp
          have hX := Whole.made wb 24 #[.string ⟨#[]⟩, .slice none 0 0]
          have hga := grow1 wb (.cells #[.string ⟨#[]⟩, .slice none 0 0] 24)
          have hgx : w7.heap.size ≤ wb.heap.size := hbD.size
          have hS9 := hS9.call hga
          replace hbD := hbD.trans (hga.mono hbD.size)
          clear hga
          generalize wb.alloc (.cells #[.string ⟨#[]⟩, .slice none 0 0] 24) = wx at *
          generalize wb.heap.size = bX at *
          refine hK.out _ _ ?_ (fun hHeld => ?_)
          · exact ⟨keepC e0 hbD, keepC e1 hbD⟩
          clear hK K
          (try simp only [List.getElem_cons_succ, List.getElem_cons_zero, Act.put, List.setIfInBounds_toArray, List.set_cons_zero, List.set_cons_succ])
          refine head_step 7 (by simp only [List.length_cons, List.length_nil]; decide) (by kernel_rfl) (fun K hK => ?_)
          (try simp only [List.getElem_cons_succ, List.getElem_cons_zero])
          refine if_step (by rfl) ?_
          go_simp
          have hga := grow1 wx (.cells #[.int .i64 3, .string ⟨#[115, 101, 114, 105, 97, 108, 78, 117, 109, 98, 101, 114]⟩, .slice (some ⟨bS, 0, none⟩) 1 1] 39)
          have hC9 := Whole.made wx 39 #[.int .i64 3, .string ⟨#[115, 101, 114, 105, 97, 108, 78, 117, 109, 98, 101, 114]⟩, .slice (some ⟨bS, 0, none⟩) 1 1]
          have hS9 := hS9.call hga
          have hX := hX.call hga
          replace hbD := hbD.trans (hga.mono hbD.size)
          clear hga
          generalize wx.alloc (.cells #[.int .i64 3, .string ⟨#[115, 101, 114, 105, 97, 108, 78, 117, 109, 98, 101, 114]⟩, .slice (some ⟨bS, 0, none⟩) 1 1] 39) = wc at *
          generalize wx.heap.size = bC at *
          refine hK.out _ _ ?_ (fun hHeld => ?_)
          · exact ⟨keepC e0 hbD, keepC e1 hbD⟩
          clear hK K
          (try simp only [List.getElem_cons_succ, List.getElem_cons_zero, Act.put, List.setIfInBounds_toArray, List.set_cons_zero, List.set_cons_succ])
          refine head_step 8 (by simp only [List.length_cons, List.length_nil]; decide) (by kernel_rfl) (fun K hK => ?_)
          (try simp only [List.getElem_cons_succ, List.getElem_cons_zero])
          refine if_step (by rfl) ?_
          go_simp
          refine (HM2 wc (hz7.trans (hbD.mono hz7.size)) _ _ (hiE.callT hbD) (chg_one (name := EnS.tSer) hC9 (strs_one hS9))).mono ?_
          rintro e w10 ⟨a10, c10, rfl, ho10, hb10⟩
          replace ho10 := ho10.mono (B' := w.heap.size) (Nat.le_trans hz7.size hbD.size)
          have hX := hX.call hb10
          replace hbD := hbD.trans (hb10.mono hbD.size)
          clear hb10
          (try dsimp only)
          refine hK.out _ _ ?_ (fun hHeld => ?_)
          · exact ⟨keepC e0 hbD, keepC e1 hbD⟩
          clear hK K
          (try simp only [Act.put, List.setIfInBounds_toArray, List.set_cons_zero, List.set_cons_succ])
          refine head_take 9 ?_ (by simp only [List.length_cons, List.length_nil]; decide) (by kernel_rfl) (fun _ _ _ h => h) (by rfl) ?_ hHeld ?_
          rotate_left
          · intro W hSw; (try simp only [List.getElem_cons_succ, List.getElem_cons_zero]); (try go_split_ands); go_simp; (try with_reducible rfl)
          (try simp only [List.getElem_cons_succ, List.getElem_cons_zero, Act.put, List.setIfInBounds_toArray, List.set_cons_zero, List.set_cons_succ])
          refine head_take 10 ?_ (by simp only [List.length_cons, List.length_nil]; decide) (by kernel_rfl) (fun _ _ _ h => h) (by rfl) ?_ hHeld ?_
          rotate_left
          · intro W hSw; (try simp only [List.getElem_cons_succ, List.getElem_cons_zero]); (try go_split_ands); go_simp; (try with_reducible rfl)
          (try simp only [List.getElem_cons_succ, List.getElem_cons_zero, Act.put, List.setIfInBounds_toArray, List.set_cons_zero, List.set_cons_succ])
          refine head_take 11 ?_ (by simp only [List.length_cons, List.length_nil]; decide) (by kernel_rfl) (fun _ _ _ h => h) (by rfl) ?_ hHeld ?_
          rotate_left
          · intro W hSw; (try simp only [List.getElem_cons_succ, List.getElem_cons_zero]); (try go_split_ands); go_simp; (try with_reducible rfl)
          (try simp only [List.getElem_cons_succ, List.getElem_cons_zero, Act.put, List.setIfInBounds_toArray, List.set_cons_zero, List.set_cons_succ])
          refine head_step 13 (by simp only [List.length_cons, List.length_nil]; decide) (by kernel_rfl) (fun K hK => ?_)
          (try simp only [List.getElem_cons_succ, List.getElem_cons_zero])
          refine if_step (by rfl) ?_
          have x0 := hX.cell 0
          have x1 := hX.cell 1
          have s0 := hX.thaw 0
          have s1 := hX.thaw 1
          simp only [List.getElem?_toArray, List.getElem?_cons_zero, List.getElem?_cons_succ] at x0 x1
          have hP := hX.put 0 (.string ⟨#[100, 99, 61, 120]⟩)
          have hgC : w.heap.size ≤ bX := Nat.le_trans hz7.size hgx
          have hoA := ho10.other hX hgC (by decide) (by decide) 0 (.string ⟨#[100, 99, 61, 120]⟩)
          simp only [List.setIfInBounds_toArray, List.set_cons_zero] at hP
          have hQ := hP.put 1 (.slice a10 3 c10)
          have hoB := hoA.other hP hgC (by decide) (by decide) 1 (.slice a10 3 c10)
          simp only [List.setIfInBounds_toArray, List.set_cons_succ, List.set_cons_zero] at hQ
          have hbF := (hbD.setCell (p := ⟨bX, 0, none⟩) hgx (.string ⟨#[100, 99, 61, 120]⟩)).setCell (p := ⟨bX, 1, none⟩) hgx (.slice a10 3 c10)
          go_simp
          refine hK.out _ _ ?_ (fun hHeld => ?_)
          · exact ⟨keepC e0 hbF, keepC e1 hbF⟩
          clear hK K
          (try simp only [List.getElem_cons_succ, List.getElem_cons_zero, Act.put, List.setIfInBounds_toArray, List.set_cons_zero, List.set_cons_succ])
          refine head_end (by kernel_rfl) ?_
          simp only [List.drop_succ_cons, List.drop_zero]
          generalize (w10.setCell ⟨bX, 0, none⟩ (.string ⟨#[100, 99, 61, 120]⟩)).setCell ⟨bX, 1, none⟩ (.slice a10 3 c10) = wf at *
          clear hX hP hoA ho10 hHeld hC9 hS9 hbD s0 s1 x0 x1
          go_wp2_with fail
          go_meet
          exact ⟨bX, a10, c10, rfl, rfl, hQ, hoB, hbF⟩
      · (try simp only [List.getElem_cons_succ, List.getElem_cons_zero])
        refine if_step (by rfl) ?_
        go_simp
        have hX := Whole.made w8 24 #[.string ⟨#[]⟩, .slice none 0 0]
        have hga := grow1 w8 (.cells #[.string ⟨#[]⟩, .slice none 0 0] 24)
        have hgx : w7.heap.size ≤ w8.heap.size := hbD.size
        replace hbD := hbD.trans (hga.mono hbD.size)
        clear hga
        generalize w8.alloc (.cells #[.string ⟨#[]⟩, .slice none 0 0] 24) = wx at *
        generalize w8.heap.size = bX at *
        refine hK.out _ _ ?_ (fun hHeld => ?_)
        · exact ⟨keepC e0 hbD, keepC e1 hbD⟩
        clear hK K
        (try simp only [List.getElem_cons_succ, List.getElem_cons_zero, Act.put, List.setIfInBounds_toArray, List.set_cons_zero, List.set_cons_succ])
        refine head_step 4 (by simp only [List.length_cons, List.length_nil]; decide) (by kernel_rfl) (fun K hK => ?_)
        (try simp only [List.getElem_cons_succ, List.getElem_cons_zero])
        refine if_step (by rfl) ?_
        go_simp
        have hga := grow1 wx (.cells #[.string ⟨(Lib.itoa (-b)).toArray⟩] 9)
        have hS9 := Whole.made wx 9 #[.string ⟨(Lib.itoa (-b)).toArray⟩]
        have hX := hX.call hga
        replace hbD := hbD.trans (hga.mono hbD.size)
        clear hga
        generalize wx.alloc (.cells #[.string ⟨(Lib.itoa (-b)).toArray⟩] 9) = wb at *
        generalize wx.heap.size = bS at *
        refine hK.out _ _ ?_ (fun hHeld => ?_)
        · exact ⟨keepC e0 hbD, keepC e1 hbD⟩
        clear hK K
        (try simp only [List.getElem_cons_succ, List.getElem_cons_zero, Act.put, List.setIfInBounds_toArray, List.set_cons_zero, List.set_cons_succ])
        refine head_take 5 ?_ (by simp only [List.length_cons, List.length_nil]; decide) (by kernel_rfl) (fun _ _ _ h => h) (by rfl) ?_ hHeld ?_
        rotate_left
        · intro W hSw; (try simp only [List.getElem_cons_succ, List.getElem_cons_zero]); (try go_split_ands); go_simp; (try with_reducible rfl)
        (try simp only [List.getElem_cons_succ, List.getElem_cons_zero, Act.put, List.setIfInBounds_toArray, List.set_cons_zero, List.set_cons_succ])
        refine head_take 6 ?_ (by simp only [List.length_cons, List.length_nil]; decide) (by kernel_rfl) (fun _ _ _ h => h) (by rfl) ?_ hHeld ?_
        rotate_left
        · intro W hSw; (try simp only [List.getElem_cons_succ, List.getElem_cons_zero]); (try go_split_ands); go_simp; (try with_reducible rfl)
        (try simp only [List.getElem_cons_succ, List.getElem_cons_zero, Act.put, List.setIfInBounds_toArray, List.set_cons_zero, List.set_cons_succ])
        refine head_step 7 (by simp only [List.length_cons, List.length_nil]; decide) (by kernel_rfl) (fun K hK => ?_)
        (try simp only [List.getElem_cons_succ, List.getElem_cons_zero])
        refine if_step (by rfl) ?_
        go_simp
        have hga := grow1 wb (.cells #[.int .i64 3, .string ⟨#[115, 101, 114, 105, 97, 108, 78, 117, 109, 98, 101, 114]⟩, .slice (some ⟨bS, 0, none⟩) 1 1] 39)
        have hC9 := Whole.made wb 39 #[.int .i64 3, .string ⟨#[115, 101, 114, 105, 97, 108, 78, 117, 109, 98, 101, 114]⟩, .slice (some ⟨bS, 0, none⟩) 1 1]
        have hS9 := hS9.call hga
        have hX := hX.call hga
        replace hbD := hbD.trans (hga.mono hbD.size)
        clear hga
        generalize wb.alloc (.cells #[.int .i64 3, .string ⟨#[115, 101, 114, 105, 97, 108, 78, 117, 109, 98, 101, 114]⟩, .slice (some ⟨bS, 0, none⟩) 1 1] 39) = wc at *
        generalize wb.heap.size = bC at *
        refine hK.out _ _ ?_ (fun hHeld => ?_)
        · exact ⟨keepC e0 hbD, keepC e1 hbD⟩
        clear hK K
        (try simp only [List.getElem_cons_succ, List.getElem_cons_zero, Act.put, List.setIfInBounds_toArray, List.set_cons_zero, List.set_cons_succ])
        refine head_step 8 (by simp only [List.length_cons, List.length_nil]; decide) (by kernel_rfl) (fun K hK => ?_)
        (try simp only [List.getElem_cons_succ, List.getElem_cons_zero])
        refine if_step (by rfl) ?_
        go_simp
        refine (HM2 wc (hz7.trans (hbD.mono hz7.size)) _ _ (hiE.callT hbD) (chg_one (name := EnS.tSer) hC9 (strs_one hS9))).mono ?_
        rintro e w10 ⟨a10, c10, rfl, ho10, hb10⟩
        replace ho10 := ho10.mono (B' := w.heap.size) (Nat.le_trans hz7.size hbD.size)
        have hX := hX.call hb10
        replace hbD := hbD.trans (hb10.mono hbD.size)
        clear hb10
        (try dsimp only)
        refine hK.out _ _ ?_ (fun hHeld => ?_)
        · exact ⟨keepC e0 hbD, keepC e1 hbD⟩
        clear hK K
        (try simp only [Act.put, List.setIfInBounds_toArray, List.set_cons_zero, List.set_cons_succ])
        refine head_take 9 ?_ (by simp only [List.length_cons, List.length_nil]; decide) (by kernel_rfl) (fun _ _ _ h => h) (by rfl) ?_ hHeld ?_
        rotate_left
        · intro W hSw; (try simp only [List.getElem_cons_succ, List.getElem_cons_zero]); (try go_split_ands); go_simp; (try with_reducible rfl)
        (try simp only [List.getElem_cons_succ, List.getElem_cons_zero, Act.put, List.setIfInBounds_toArray, List.set_cons_zero, List.set_cons_succ])
        refine head_take 10 ?_ (by simp only [List.length_cons, List.length_nil]; decide) (by kernel_rfl) (fun _ _ _ h => h) (by rfl) ?_ hHeld ?_
        rotate_left
        · intro W hSw; (try simp only [List.getElem_cons_succ, List.getElem_cons_zero]); (try go_split_ands); go_simp; (try with_reducible rfl)
        (try simp only [List.getElem_cons_succ, List.getElem_cons_zero, Act.put, List.setIfInBounds_toArray, List.set_cons_zero, List.set_cons_succ])
        refine head_take 11 ?_ (by simp only [List.length_cons, List.length_nil]; decide) (by kernel_rfl) (fun _ _ _ h => h) (by rfl) ?_ hHeld ?_
        rotate_left
        · intro W hSw; (try simp only [List.getElem_cons_succ, List.getElem_cons_zero]); (try go_split_ands); go_simp; (try with_reducible rfl)
        (try simp only [List.getElem_cons_succ, List.getElem_cons_zero, Act.put, List.setIfInBounds_toArray, List.set_cons_zero, List.set_cons_succ])
        refine head_step 13 (by simp only [List.length_cons, List.length_nil]; decide) (by kernel_rfl) (fun K hK => ?_)
        (try simp only [List.getElem_cons_succ, List.getElem_cons_zero])
        refine if_step (by rfl) ?_
        have x0 := hX.cell 0
        have x1 := hX.cell 1
        have s0 := hX.thaw 0
        have s1 := hX.thaw 1
        simp only [List.getElem?_toArray, List.getElem?_cons_zero, List.getElem?_cons_succ] at x0 x1
        have hP := hX.put 0 (.string ⟨#[100, 99, 61, 120]⟩)
        have hgC : w.heap.size ≤ bX := Nat.le_trans hz7.size hgx
        have hoA := ho10.other hX hgC (by decide) (by decide) 0 (.string ⟨#[100, 99, 61, 120]⟩)
        simp only [List.setIfInBounds_toArray, List.set_cons_zero] at hP
        have hQ := hP.put 1 (.slice a10 3 c10)
        have hoB := hoA.other hP hgC (by decide) (by decide) 1 (.slice a10 3 c10)
        simp only [List.setIfInBounds_toArray, List.set_cons_succ, List.set_cons_zero] at hQ
        have hbF := (hbD.setCell (p := ⟨bX, 0, none⟩) hgx (.string ⟨#[100, 99, 61, 120]⟩)).setCell (p := ⟨bX, 1, none⟩) hgx (.slice a10 3 c10)
        go_simp
        refine hK.out _ _ ?_ (fun hHeld => ?_)
        · exact ⟨keepC e0 hbF, keepC e1 hbF⟩
        clear hK K
        (try simp only [List.getElem_cons_succ, List.getElem_cons_zero, Act.put, List.setIfInBounds_toArray, List.set_cons_zero, List.set_cons_succ])
        refine head_end (by kernel_rfl) ?_
        simp only [List.drop_succ_cons, List.drop_zero]
        generalize (w10.setCell ⟨bX, 0, none⟩ (.string ⟨#[100, 99, 61, 120]⟩)).setCell ⟨bX, 1, none⟩ (.slice a10 3 c10) = wf at *
        clear hX hP hoA ho10 hHeld hC9 hS9 hbD s0 s1 x0 x1
        go_wp2_with fail
        go_meet
        exact ⟨bX, a10, c10, rfl, rfl, hQ, hoB, hbF⟩
    · (try simp only [List.getElem_cons_succ, List.getElem_cons_zero])
      refine if_step (by rfl) ?_
      go_simp
      have hX := Whole.made wd 24 #[.string ⟨#[]⟩, .slice none 0 0]
      have hga := grow1 wd (.cells #[.string ⟨#[]⟩, .slice none 0 0] 24)
      have hgx : w7.heap.size ≤ wd.heap.size := hbD.size
      replace hbD := hbD.trans (hga.mono hbD.size)
      clear hga
      generalize wd.alloc (.cells #[.string ⟨#[]⟩, .slice none 0 0] 24) = wx at *
      generalize wd.heap.size = bX at *
      refine hK.out _ _ ?_ (fun hHeld => ?_)
      · exact ⟨keepC e0 hbD, keepC e1 hbD⟩
      clear hK K
      (try simp only [List.getElem_cons_succ, List.getElem_cons_zero, Act.put, List.setIfInBounds_toArray, List.set_cons_zero, List.set_cons_succ])
      refine head_step 3 (by simp only [List.length_cons, List.length_nil]; decide) (by kernel_rfl) (fun K hK => ?_)
      (try simp only [List.getElem_cons_succ, List.getElem_cons_zero])
      refine if_step (by rfl) ?_
      go_simp
      refine (dgn wx).mono ?_
      rintro e w8 ⟨rfl, hb8⟩
      have hX := hX.call hb8
      replace hbD := hbD.trans (hb8.mono hbD.size)
      clear hb8
      (try dsimp only)
      refine hK.out _ _ ?_ (fun hHeld => ?_)
      · exact ⟨keepC e0 hbD, keepC e1 hbD⟩
      clear hK K
      (try simp only [Act.put, List.setIfInBounds_toArray, List.set_cons_zero, List.set_cons_succ])
      refine head_step 4 (by simp only [List.length_cons, List.length_nil]; decide) (by kernel_rfl) (fun K hK => ?_)
      (try simp only [List.getElem_cons_succ, List.getElem_cons_zero])
      refine if_step (by rfl) ?_
      go_simp
      have hga := grow1 w8 (.cells #[.string ⟨(Lib.itoa (-b)).toArray⟩] 9)
      have hS9 := Whole.made w8 9 #[.string ⟨(Lib.itoa (-b)).toArray⟩]
      have hX := hX.call hga
      replace hbD := hbD.trans (hga.mono hbD.size)
      clear hga
      generalize w8.alloc (.cells #[.string ⟨(Lib.itoa (-b)).toArray⟩] 9) = wb at *
      generalize w8.heap.size = bS at *
      refine hK.out _ _ ?_ (fun hHeld => ?_)
      · exact ⟨keepC e0 hbD, keepC e1 hbD⟩
      clear hK K
      (try simp only [List.getElem_cons_succ, List.getElem_cons_zero, Act.put, List.setIfInBounds_toArray, List.set_cons_zero, List.set_cons_succ])
      refine head_take 5 ?_ (by simp only [List.length_cons, List.length_nil]; decide) (by kernel_rfl) (fun _ _ _ h => h) (by rfl) ?_ hHeld ?_
      rotate_left
      · intro W hSw; (try simp only [List.getElem_cons_succ, List.getElem_cons_zero]); (try go_split_ands); go_simp; (try with_reducible rfl)
      (try simp only [List.getElem_cons_succ, List.getElem_cons_zero, Act.put, List.setIfInBounds_toArray, List.set_cons_zero, List.set_cons_succ])
      refine head_take 6 ?_ (by simp only [List.length_cons, List.length_nil]; decide) (by kernel_rfl) (fun _ _ _ h => h) (by rfl) ?_ hHeld ?_
      rotate_left
      · intro W hSw; (try simp only [List.getElem_cons_succ, List.getElem_cons_zero]); (try go_split_ands); go_simp; (try with_reducible rfl)
      (try simp only [List.getElem_cons_succ, List.getElem_cons_zero, Act.put, List.setIfInBounds_toArray, List.set_cons_zero, List.set_cons_succ])
      refine head_step 7 (by simp only [List.length_cons, List.length_nil]; decide) (by kernel_rfl) (fun K hK => ?_)
      (try simp only [List.getElem_cons_succ, List.getElem_cons_zero])
      refine if_step (by rfl) ?_
      go_simp
      have hga := grow1 wb (.cells #[.int .i64 3, .string ⟨#[115, 101, 114, 105, 97, 108, 78, 117, 109, 98, 101, 114]⟩, .slice (some ⟨bS, 0, none⟩) 1 1] 39)
      have hC9 := Whole.made wb 39 #[.int .i64 3, .string ⟨#[115, 101, 114, 105, 97, 108, 78, 117, 109, 98, 101, 114]⟩, .slice (some ⟨bS, 0, none⟩) 1 1]
      have hS9 := hS9.call hga
      have hX := hX.call hga
      replace hbD := hbD.trans (hga.mono hbD.size)
      clear hga
      generalize wb.alloc (.cells #[.int .i64 3, .string ⟨#[115, 101, 114, 105, 97, 108, 78, 117, 109, 98, 101, 114]⟩, .slice (some ⟨bS, 0, none⟩) 1 1] 39) = wc at *
      generalize wb.heap.size = bC at *
      refine hK.out _ _ ?_ (fun hHeld => ?_)
      · exact ⟨keepC e0 hbD, keepC e1 hbD⟩
      clear hK K
      (try simp only [List.getElem_cons_succ, List.getElem_cons_zero, Act.put, List.setIfInBounds_toArray, List.set_cons_zero, List.set_cons_succ])
      refine head_step 8 (by simp only [List.length_cons, List.length_nil]; decide) (by kernel_rfl) (fun K hK => ?_)
      (try simp only [List.getElem_cons_succ, List.getElem_cons_zero])
      refine if_step (by rfl) ?_
      go_simp
      refine (HM2 wc (hz7.trans (hbD.mono hz7.size)) _ _ (hiE.callT hbD) (chg_one (name := EnS.tSer) hC9 (strs_one hS9))).mono ?_
      rintro e w10 ⟨a10, c10, rfl, ho10, hb10⟩
      replace ho10 := ho10.mono (B' := w.heap.size) (Nat.le_trans hz7.size hbD.size)
      have hX := hX.call hb10
      replace hbD := hbD.trans (hb10.mono hbD.size)
      clear hb10
      (try dsimp only)
      refine hK.out _ _ ?_ (fun hHeld => ?_)
      · exact ⟨keepC e0 hbD, keepC e1 hbD⟩
      clear hK K
      (try simp only [Act.put, List.setIfInBounds_toArray, List.set_cons_zero, List.set_cons_succ])
      refine head_take 9 ?_ (by simp only [List.length_cons, List.length_nil]; decide) (by kernel_rfl) (fun _ _ _ h => h) (by rfl) ?_ hHeld ?_
      rotate_left
      · intro W hSw; (try simp only [List.getElem_cons_succ, List.getElem_cons_zero]); (try go_split_ands); go_simp; (try with_reducible rfl)
      (try simp only [List.getElem_cons_succ, List.getElem_cons_zero, Act.put, List.setIfInBounds_toArray, List.set_cons_zero, List.set_cons_succ])
      refine head_take 10 ?_ (by simp only [List.length_cons, List.length_nil]; decide) (by kernel_rfl) (fun _ _ _ h => h) (by rfl) ?_ hHeld ?_
      rotate_left
      · intro W hSw; (try simp only [List.getElem_cons_succ, List.getElem_cons_zero]); (try go_split_ands); go_simp; (try with_reducible rfl)
      (try simp only [List.getElem_cons_succ, List.getElem_cons_zero, Act.put, List.setIfInBounds_toArray, List.set_cons_zero, List.set_cons_succ])
      refine head_take 11 ?_ (by simp only [List.length_cons, List.length_nil]; decide) (by kernel_rfl) (fun _ _ _ h => h) (by rfl) ?_ hHeld ?_
      rotate_left
      · intro W hSw; (try simp only [List.getElem_cons_succ, List.getElem_cons_zero]); (try go_split_ands); go_simp; (try with_reducible rfl)
      (try simp only [List.getElem_cons_succ, List.getElem_cons_zero, Act.put, List.setIfInBounds_toArray, List.set_cons_zero, List.set_cons_succ])
      refine head_step 13 (by simp only [List.length_cons, List.length_nil]; decide) (by kernel_rfl) (fun K hK => ?_)
      (try simp only [List.getElem_cons_succ, List.getElem_cons_zero])
      refine if_step (by rfl) ?_
      have x0 := hX.cell 0
      have x1 := hX.cell 1
      have s0 := hX.thaw 0
      have s1 := hX.thaw 1
      simp only [List.getElem?_toArray, List.getElem?_cons_zero, List.getElem?_cons_succ] at x0 x1
      have hP := hX.put 0 (.string ⟨#[100, 99, 61, 120]⟩)
      have hgC : w.heap.size ≤ bX := Nat.le_trans hz7.size hgx
      have hoA := ho10.other hX hgC (by decide) (by decide) 0 (.string ⟨#[100, 99, 61, 120]⟩)
      simp only [List.setIfInBounds_toArray, List.set_cons_zero] at hP
      have hQ := hP.put 1 (.slice a10 3 c10)
      have hoB := hoA.other hP hgC (by decide) (by decide) 1 (.slice a10 3 c10)
      simp only [List.setIfInBounds_toArray, List.set_cons_succ, List.set_cons_zero] at hQ
      have hbF := (hbD.setCell (p := ⟨bX, 0, none⟩) hgx (.string ⟨#[100, 99, 61, 120]⟩)).setCell (p := ⟨bX, 1, none⟩) hgx (.slice a10 3 c10)
      go_simp
      refine hK.out _ _ ?_ (fun hHeld => ?_)
      · exact ⟨keepC e0 hbF, keepC e1 hbF⟩
      clear hK K
      (try simp only [List.getElem_cons_succ, List.getElem_cons_zero, Act.put, List.setIfInBounds_toArray, List.set_cons_zero, List.set_cons_succ])
      refine head_end (by kernel_rfl) ?_
      simp only [List.drop_succ_cons, List.drop_zero]
      generalize (w10.setCell ⟨bX, 0, none⟩ (.string ⟨#[100, 99, 61, 120]⟩)).setCell ⟨bX, 1, none⟩ (.slice a10 3 c10) = wf at *
      clear hX hP hoA ho10 hHeld hC9 hS9 hbD s0 s1 x0 x1
      go_wp2_with fail
      go_meet
      exact ⟨bX, a10, c10, rfl, rfl, hQ, hoB, hbF⟩
  case rest =>
  obtain ⟨bX, a10, c10, rfl, rfl, hQ, hoB, hbF⟩ := hcut
  obtain ⟨w8, rfl⟩ : ∃ x, x = wc := ⟨_, rfl⟩
  have hzK := hz7.trans (hbF.mono hz7.size)
  have hiF8 := hiE.callT hbF
  have hwF8 := hwF.call hbF
  have hwE8 := hwE7.call hbF
  have hiE8 := hiE7.callT hbF
  have hbd : Below w8.heap.size w8 w8.drew := (Below.refl _ _).drew
  have hzd := hzK.drew
  have u0 := hwF8.cell 0
  have u1 := hwF8.cell 1
  have u2 := hQ.cell 0
  have u3 := hQ.cell 1
  have u4 := hwE8.cell 0
  have u5 := hwE8.cell 1
  simp only [List.getElem?_toArray, List.getElem?_cons_zero, List.getElem?_cons_succ] at u0 u1 u2 u3 u4 u5
  have u0 := keepC u0 hbd
  have u1 := keepC u1 hbd
  have u2 := keepC u2 hbd
  have u3 := keepC u3 hbd
  have u4 := keepC u4 hbd
  have u5 := keepC u5 hbd
  have hiFd := (AttrsE.ins hiF8).call hbd
  have hiEd := (AttrsE.ins hiE8).call hbd
  have hiGd := hoB.attrs.call hbd
  have HZ7 := Lib.hid (fun W (hb : Below w8.drew.heap.size w8.drew W) => hzd.trans (hb.mono hzd.size))
  clear hwF8 hwE8 hiF8 hiE8 hQ hoB hiE hiE7 hwF hwE7 HM2 dgn hbF
  go_wp2_with fail
  go_region_held3 (fun W => W.cell? ⟨bF, 0, none⟩ = some (.string ⟨#[100, 99, 61, 120]⟩) ∧ W.cell? ⟨bF, 1, none⟩ = some (.slice aF 3 cF) ∧ W.cell? ⟨bX, 0, none⟩ = some (.string ⟨#[100, 99, 61, 120]⟩) ∧ W.cell? ⟨bX, 1, none⟩ = some (.slice a10 3 c10) ∧ W.cell? ⟨bE, 0, none⟩ = some (.string ⟨#[100, 99, 61, 120]⟩) ∧ W.cell? ⟨bE, 1, none⟩ = some (.slice a5 3 c5)) (first | exact ⟨u0, u1, u2, u3, u4, u5⟩ | exact ⟨keepC u0 hb11, keepC u1 hb11, keepC u2 hb11, keepC u3 hb11, keepC u4 hb11, keepC u5 hb11⟩ | exact ⟨keepC u0 hb12s, keepC u1 hb12s, keepC u2 hb12s, keepC u3 hb12s, keepC u4 hb12s, keepC u5 hb12s⟩ | exact ⟨keepC u0 hb13s, keepC u1 hb13s, keepC u2 hb13s, keepC u3 hb13s, keepC u4 hb13s, keepC u5 hb13s⟩ | go_keep)
    (first
    | (go_at_call 19; (with_reducible refine (dgs _).mono ?_); rintro e w11 ⟨rfl, hb11⟩)
    | (go_at_call 17; have hc12 := hhs w11 (HZ7.out _ hb11) _ (hiFd.call hb11); (with_reducible refine hc12.mono ?_); rintro e w12 ⟨rfl, hb12⟩; have hb12s := hb11.trans (hb12.mono hb11.size))
    | (go_at_call 13; have hc13 := hsm w12 _ _ (hiGd.call hb12s) (hiEd.call hb12s); (with_reducible refine hc13.mono ?_); rintro e w13 ⟨rfl, hb13⟩; have hb13s := hb12s.trans (hb13.mono hb12s.size)))
  go_wp2_with fail
  go_ret
  exact ⟨rfl, hzd.trans (hb13s.mono hzd.size)⟩
theorem lawentryincrements_c (a b : Int) (w : World) (hE : Env w) : Calls Tryz.prog 6 #[.int .i64 a, .int .i64 b] w (True_ w) := entryincrements_c a b w hE
end Go.Proofs.YtmnhgbkdahdoiaaGreatDoor
