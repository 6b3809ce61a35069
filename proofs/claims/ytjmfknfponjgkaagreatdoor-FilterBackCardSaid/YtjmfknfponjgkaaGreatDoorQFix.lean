/- The walk of the law FilterBack. Condition: the library's variables are laid. -/
import Derived.Test.YtjmfknfponjgkaaGreatDoorQFir
import Derived.Test.YtjmfknfponjgkaaGreatDoorQFit
import Derived.Test.YtjmfknfponjgkaaGreatDoorQFil
import Derived.Test.YtjmfknfponjgkaaGreatDoorQFim
namespace Go.Proofs.YtjmfknfponjgkaaGreatDoor
open Go.RowKit
open FiS (Fi)
attribute [local go_sem ↓] Go.wp_at_zero Go.wp_at_succ
theorem FiForm.cells {v : Value} (h : FiForm v) : ∃ (k : Int) (a b c d : List UInt8) (s1 s2 : Option Addr) (n1 c1 n2 c2 : Nat), v = .agg #[.int .i64 k, .string ⟨a.toArray⟩, .string ⟨b.toArray⟩, .string ⟨c.toArray⟩, .string ⟨d.toArray⟩, .slice s1 n1 c1, .slice s2 n2 c2] := by
  obtain ⟨y, s1, s2, n1, c1, n2, c2, rfl⟩ := h
  exact ⟨_, _, _, _, _, _, _, _, _, _, _, rfl⟩
set_option maxRecDepth 100000 in
set_option maxHeartbeats 16000000 in
theorem filterback_c (n : Nat) (x : Fi) (v : Value) (s : List UInt8) (w : World) (h : FiIn n w v x) (hE : Env w) : Calls Tryz.prog 6 #[v, .string ⟨s.toArray⟩] w (True_ w) := by
  have haw := fun W hE => flawake_c W hE
  have hsm := fun W h => flSmall_c n x v W h
  unfold True_ at *
  have HH := Lib.hid h
  have HEN := Lib.hid (fun W (hb : Below w.heap.size w W) => hE.below hb)
  obtain ⟨a5, c5, a6, c6, hv, _, _, _⟩ := FiV.parts h
  subst hv
  have hg0 := grow1 w (.cells #[.int .i64 x.kind, .string ⟨x.attr.toArray⟩, .string ⟨x.value.toArray⟩, .string ⟨x.first.toArray⟩, .string ⟨x.last.toArray⟩, .slice a5 x.any.length c5, .slice a6 x.parts.length c6] 25)
  have hw0 := Whole.made w 25 #[.int .i64 x.kind, .string ⟨x.attr.toArray⟩, .string ⟨x.value.toArray⟩, .string ⟨x.first.toArray⟩, .string ⟨x.last.toArray⟩, .slice a5 x.any.length c5, .slice a6 x.parts.length c6]
  have haw1 := haw _ (HEN.out _ hg0)
  clear h hE
  go_enter Tryz.func6, Tryz.ntmps6
  go_wp2_with fail
  refine haw1.mono ?_; rintro e w1 ⟨rfl, hb1⟩
  have hz1 := hg0.trans (hb1.mono hg0.size)
  have hw1 := hw0.call hb1
  obtain ⟨q0, q1, q2, q3, q4, q5, q6⟩ := hw1.seven
  have hsm1 := hsm w1 (HH.out.call hz1)
  clear haw1 hsm hw0 hg0 hb1
  go_wp2_with fail
  refine hsm1.mono ?_; rintro e w2 ⟨b, rfl, HB, hb2⟩
  have hz2 := hz1.trans (hb2.mono hz1.size)
  have hw2 := hw1.call hb2
  clear hsm1 q0 q1 q2 q3 q4 q5 q6 hw1 hb2 hz1
  obtain ⟨q0, q1, q2, q3, q4, q5, q6⟩ := hw2.seven
  cases b with
  | false =>
    have haw2 := haw w2 (HEN.out _ hz2)
    clear haw
    go_wp2_with fail
    refine haw2.mono ?_; rintro e w3 ⟨rfl, hb3⟩
    have hz3 := hz2.trans (hb3.mono hz2.size)
    clear haw2
    go_wp2_with fail
    go_ret
    exact ⟨by first | rfl | trivial, hz3⟩
  | true =>
  have hwd := (HB.out rfl).1
  clear HB haw
  have hth := theirs_c n x _ w2 (HH.out.call hz2) (FiS.wdF_mono (by decide) x hwd)
  go_wp2_with fail
  refine hth.mono ?_; rintro e w3 ⟨v3, rfl, hfv3, hb3⟩
  have hz3 := hz2.trans (hb3.mono hz2.size)
  have hw3 := hw2.call hb3
  have hpr := flPrint_c (n + 1) x v3 w3 hfv3.ins (FiS.wdF_mono (by decide) x hwd)
  unfold FlPrintRet at hpr
  have HPP : Hid ((FiS.printS x).2 = 0 → FiS.parseS (FiS.printS x).1 = some x) := Lib.hid (fun h => by
    cases hfd : FiS.formedS x with
    | false =>
      have hp : FiS.printS x = ([], 1) := by unfold FiS.printS; rw [hfd]; rfl
      rw [hp] at h
      exact absurd h (by decide)
    | true =>
      have hp : FiS.printS x = (FiS.textS x, 0) := by unfold FiS.printS; rw [hfd]; rfl
      rw [hp]
      exact FiS.parse_text hfd)
  generalize (FiS.printS x).1 = tx at *
  generalize (FiS.printS x).2 = te at *
  clear hth q0 q1 q2 q3 q4 q5 q6 hw2 hfv3 hb3 hz2
  go_wp2_with fail
  refine hpr.mono ?_; rintro e w4 ⟨rfl, hb4⟩
  have hz4 := hz3.trans (hb4.mono hz3.size)
  have hw4 := hw3.call hb4
  clear hpr hw3 hb4 hz3
  obtain ⟨q0, q1, q2, q3, q4, q5, q6⟩ := hw4.seven
  obtain ⟨TB, hTB⟩ : ∃ b, (decide (te = 0) && decide (tx.length ≤ 16384)) = b := ⟨_, rfl⟩
  have HTB := Lib.hid hTB
  clear hTB
  go_upto_region 4 with fail
  go_cut [35] (fun t wd => t = .bool TB ∧ w4 = wd)
  case first =>
    by_cases ht : te = 0
    case neg =>
      have htn : (te == 0) = false := by simpa using ht
      have HB : Hid (false = TB) := Lib.hid (by rw [← HTB.out, decide_eq_false ht]; rfl)
      clear HPP HTB
      go_wp2_with fail
      go_meet
      exact ⟨by (rw [← HB.out]) <;> rfl, rfl⟩
    have HT0 : Hid (decide (te = 0) = true) := Lib.hid (decide_eq_true ht)
    subst ht
    by_cases hl : tx.length ≤ 16384
    case neg =>
      have hld : decide ((tx.length : Int) ≤ 16384) = false := decide_eq_false (by omega)
      have HB : Hid (false = TB) := Lib.hid (by rw [← HTB.out, decide_eq_false hl, Bool.and_false])
      clear HPP HTB HT0
      go_wp2_with fail
      go_meet
      exact ⟨by (rw [← HB.out]) <;> rfl, rfl⟩
    have hld : (tx.length : Int) ≤ 16384 := by omega
    have HB : Hid (true = TB) := Lib.hid (by rw [← HTB.out, decide_eq_true hl, HT0.out]; rfl)
    clear HPP HTB HT0
    go_wp2_with fail
    go_meet
    exact ⟨by (rw [← HB.out]) <;> rfl, rfl⟩
  case rest =>
  obtain ⟨rfl, rfl⟩ := hcut
  go_upto_if 35 with fail
  go_cut [5] (fun _ wd => Below w.heap.size w wd)
  case first =>
    cases TB with
    | false =>
      clear HTB HPP
      go_wp2_with fail
      go_meet
      exact hz4
    | true =>
      have hTT := HTB.out
      rw [Bool.and_eq_true, decide_eq_true_eq, decide_eq_true_eq] at hTT
      obtain ⟨ht0, hl⟩ := hTT
      have hpt := HPP.out ht0
      clear HTB HPP ht0
      have hpa := flParse_c tx w4 (HEN.out _ hz4)
      have hpe : FiS.parseE tx = 0 := by unfold FiS.parseE; rw [if_neg (by omega), hpt]; rfl
      unfold ParseR at hpa
      rw [hpe] at hpa
      clear hpe
      go_wp2_with fail
      refine hpa.mono ?_; rintro e w5 ⟨⟨v5, rfl, _, hall⟩, hb5⟩
      obtain ⟨hfv5, hwd5⟩ := hall x hl hpt
      obtain ⟨e5, f5, e6, f6, rfl, _, _, _⟩ := FiV.partsO hfv5
      have hz5 := hz4.trans (hb5.mono hz4.size)
      have hg6 := grow1 w5 (.cells #[.int .i64 x.kind, .string ⟨x.attr.toArray⟩, .string ⟨x.value.toArray⟩, .string ⟨x.first.toArray⟩, .string ⟨x.last.toArray⟩, .slice e5 x.any.length f5, .slice e6 x.parts.length f6] 33)
      have hz6 := hz5.trans (hg6.mono hz5.size)
      have hw6 := (hw4.call hb5).call hg6
      have hx6 := Whole.made w5 33 #[.int .i64 x.kind, .string ⟨x.attr.toArray⟩, .string ⟨x.value.toArray⟩, .string ⟨x.first.toArray⟩, .string ⟨x.last.toArray⟩, .slice e5 x.any.length f5, .slice e6 x.parts.length f6]
      have hfv6 := hfv5.ins.call hg6
      clear hpa hall q0 q1 q2 q3 q4 q5 q6 hw4 hb5 hz5 hfv5 hz4 hpt
      go_upto_region 6 with fail
      generalize w5.alloc (.cells #[.int .i64 x.kind, .string ⟨x.attr.toArray⟩, .string ⟨x.value.toArray⟩, .string ⟨x.first.toArray⟩, .string ⟨x.last.toArray⟩, .slice e5 x.any.length f5, .slice e6 x.parts.length f6] 33) = w6 at *
      have hxb : w5.heap.size < w6.heap.size := hx6.lt
      generalize w5.heap.size = xb at *
      have hd6 : Below w6.heap.size w6 w6.drew := (Below.refl _ _).drew
      have hou := ours_c 40 x _ w6.drew (hfv6.call hd6) (FiS.wdF_mono (by decide) x hwd)
      have hsa := fun m u W (hm : FiIn m W u x) hb => refflsame_c m x x u _ W n hm (HH.out.call hb) (FiS.wdF_mono (by decide) x hwd) (FiS.wdF_mono (by decide) x hwd)
      unfold BoolR at hsa
      rw [FiS.sameS_self] at hsa
      obtain ⟨x0, x1, x2, x3, x4, x5, x6⟩ := hx6.drew.seven
      obtain ⟨q0, q1, q2, q3, q4, q5, q6⟩ := hw6.drew.seven
      have hz6D : Below w.heap.size w w6.drew := hz6.drew
      have HSA := Lib.hid hsa
      clear hsa hx6 hw6 hfv6 hg6
      go_region_held3 (fun W => W.cell? ⟨w.heap.size, 0, none⟩ = some (.int .i64 x.kind) ∧ W.cell? ⟨w.heap.size, 1, none⟩ = some (.string ⟨x.attr.toArray⟩) ∧ W.cell? ⟨w.heap.size, 2, none⟩ = some (.string ⟨x.value.toArray⟩) ∧ W.cell? ⟨w.heap.size, 3, none⟩ = some (.string ⟨x.first.toArray⟩) ∧ W.cell? ⟨w.heap.size, 4, none⟩ = some (.string ⟨x.last.toArray⟩) ∧ W.cell? ⟨w.heap.size, 5, none⟩ = some (.slice a5 x.any.length c5) ∧ W.cell? ⟨w.heap.size, 6, none⟩ = some (.slice a6 x.parts.length c6) ∧ W.cell? ⟨xb, 0, none⟩ = some (.int .i64 x.kind) ∧ W.cell? ⟨xb, 1, none⟩ = some (.string ⟨x.attr.toArray⟩) ∧ W.cell? ⟨xb, 2, none⟩ = some (.string ⟨x.value.toArray⟩) ∧ W.cell? ⟨xb, 3, none⟩ = some (.string ⟨x.first.toArray⟩) ∧ W.cell? ⟨xb, 4, none⟩ = some (.string ⟨x.last.toArray⟩) ∧ W.cell? ⟨xb, 5, none⟩ = some (.slice e5 x.any.length f5) ∧ W.cell? ⟨xb, 6, none⟩ = some (.slice e6 x.parts.length f6)) (first | exact ⟨q0, q1, q2, q3, q4, q5, q6, x0, x1, x2, x3, x4, x5, x6⟩ | exact ⟨keepC q0 hb7, keepC q1 hb7, keepC q2 hb7, keepC q3 hb7, keepC q4 hb7, keepC q5 hb7, keepC q6 hb7, keepC x0 hb7, keepC x1 hb7, keepC x2 hb7, keepC x3 hb7, keepC x4 hb7, keepC x5 hb7, keepC x6 hb7⟩ | exact ⟨keepC (keepC q0 hb7) hb8, keepC (keepC q1 hb7) hb8, keepC (keepC q2 hb7) hb8, keepC (keepC q3 hb7) hb8, keepC (keepC q4 hb7) hb8, keepC (keepC q5 hb7) hb8, keepC (keepC q6 hb7) hb8, keepC (keepC x0 hb7) hb8, keepC (keepC x1 hb7) hb8, keepC (keepC x2 hb7) hb8, keepC (keepC x3 hb7) hb8, keepC (keepC x4 hb7) hb8, keepC (keepC x5 hb7) hb8, keepC (keepC x6 hb7) hb8⟩)
        (first | (go_at_call 22; (with_reducible refine hou.mono ?_); rintro e w7 ⟨v7, rfl, hfv7, hb7⟩; have hz7 := hz6D.trans (hb7.mono hz6D.size)) | (go_at_call 20; (with_reducible refine (HSA.out _ _ _ hfv7.ins hz7).mono ?_); rintro e w8 ⟨rfl, hb8⟩))
      all_goals (
        have hz8 := hz7.trans (hb8.mono hz7.size)
        clear q0 q1 q2 q3 q4 q5 q6 x0 x1 x2 x3 x4 x5 x6
        go_wp2_with fail
        go_meet
        exact hz8)
  case rest =>
    have hzc : Below w.heap.size w wc := hcut
    clear hz4 hw4 q0 q1 q2 q3 q4 q5 q6 HH hwd HTB HPP
    have hpa := flParse_c s wc (HEN.out _ hzc)
    unfold ParseR at hpa
    by_cases hls : 16384 < s.length
    case pos =>
      have hpe : FiS.parseE s = 4 := by unfold FiS.parseE; rw [if_pos hls]
      rw [hpe] at hpa
      clear hpe
      go_wp2_with fail
      refine hpa.mono ?_; rintro e w5 ⟨⟨v5, rfl, hfo, _⟩, hb5⟩
      obtain ⟨k, a, b, c, d, s1, s2, n1, k1, n2, k2, rfl⟩ := hfo.cells
      have hz5 := (hzc.trans (hb5.mono hzc.size)).trans ((grow1 w5 (.cells #[.int .i64 k, .string ⟨a.toArray⟩, .string ⟨b.toArray⟩, .string ⟨c.toArray⟩, .string ⟨d.toArray⟩, .slice s1 n1 k1, .slice s2 n2 k2] 33)).mono (Nat.le_trans hzc.size hb5.size))
      clear hpa
      go_wp2_with fail
      go_ret
      exact ⟨by first | rfl | trivial, hz5⟩
    cases hps : FiS.parseS s with
    | none =>
      have hpe : FiS.parseE s = 2 := by unfold FiS.parseE; rw [if_neg hls, hps]; rfl
      rw [hpe] at hpa
      clear hpe hps
      go_wp2_with fail
      refine hpa.mono ?_; rintro e w5 ⟨⟨v5, rfl, hfo, _⟩, hb5⟩
      obtain ⟨k, a, b, c, d, s1, s2, n1, k1, n2, k2, rfl⟩ := hfo.cells
      have hz5 := (hzc.trans (hb5.mono hzc.size)).trans ((grow1 w5 (.cells #[.int .i64 k, .string ⟨a.toArray⟩, .string ⟨b.toArray⟩, .string ⟨c.toArray⟩, .string ⟨d.toArray⟩, .slice s1 n1 k1, .slice s2 n2 k2] 33)).mono (Nat.le_trans hzc.size hb5.size))
      clear hpa
      go_wp2_with fail
      go_ret
      exact ⟨by first | rfl | trivial, hz5⟩
    | some y =>
      have hpe : FiS.parseE s = 0 := by unfold FiS.parseE; rw [if_neg hls, hps]; rfl
      rw [hpe] at hpa
      have hfy := FiS.parse_formed hps
      have hp : FiS.printS y = (FiS.textS y, 0) := by unfold FiS.printS; rw [hfy]; rfl
      have hpt := FiS.parse_text hfy
      go_wp2_with fail
      refine hpa.mono ?_; rintro e w5 ⟨⟨v5, rfl, _, hall⟩, hb5⟩
      obtain ⟨hfv5, hwd5⟩ := hall y (by omega) hps
      obtain ⟨y5, d5, y6, d6, rfl, _, _, _⟩ := FiV.partsO hfv5
      have hz5 := hzc.trans (hb5.mono hzc.size)
      have hg6 := grow1 w5 (.cells #[.int .i64 y.kind, .string ⟨y.attr.toArray⟩, .string ⟨y.value.toArray⟩, .string ⟨y.first.toArray⟩, .string ⟨y.last.toArray⟩, .slice y5 y.any.length d5, .slice y6 y.parts.length d6] 33)
      have hz6 := hz5.trans (hg6.mono hz5.size)
      have hy6 := Whole.made w5 33 #[.int .i64 y.kind, .string ⟨y.attr.toArray⟩, .string ⟨y.value.toArray⟩, .string ⟨y.first.toArray⟩, .string ⟨y.last.toArray⟩, .slice y5 y.any.length d5, .slice y6 y.parts.length d6]
      have hfv6 := hfv5.ins.call hg6
      clear hpa hall hb5 hz5 hfv5 hg6 hpe hps hfy hzc
      go_upto_region 9 with fail
      generalize w5.alloc (.cells #[.int .i64 y.kind, .string ⟨y.attr.toArray⟩, .string ⟨y.value.toArray⟩, .string ⟨y.first.toArray⟩, .string ⟨y.last.toArray⟩, .slice y5 y.any.length d5, .slice y6 y.parts.length d6] 33) = w6 at *
      generalize w5.heap.size = xb at *
      obtain ⟨x0, x1, x2, x3, x4, x5, x6⟩ := hy6.seven
      have hpr := flPrint_c 40 y _ w6 hfv6 hwd5
      unfold FlPrintRet at hpr
      rw [hp] at hpr
      clear hp
      go_wp2_with fail
      refine hpr.mono ?_; rintro e w7 ⟨rfl, hb7⟩
      have hz7 := hz6.trans (hb7.mono hz6.size)
      have hy7 := hy6.call hb7
      have hfv7 := hfv6.call hb7
      have hpa := flParse_c (FiS.textS y) w7 (HEN.out _ hz7)
      unfold ParseR at hpa
      clear hpr x0 x1 x2 x3 x4 x5 x6 hy6 hfv6 hb7 hz6
      generalize FiS.textS y = ty at *
      by_cases hlt : 16384 < ty.length
      case pos =>
        have hpe : FiS.parseE ty = 4 := by unfold FiS.parseE; rw [if_pos hlt]
        rw [hpe] at hpa
        have hld : (16384 : Int) < (ty.length : Int) := by omega
        clear hpe
        go_wp2_with fail
        refine hpa.mono ?_; rintro e w8 ⟨⟨v8, rfl, hfo, _⟩, hb8⟩
        obtain ⟨k, a, b, c, d, s1, s2, n1, k1, n2, k2, rfl⟩ := hfo.cells
        have hz8 := (hz7.trans (hb8.mono hz7.size)).trans ((grow1 w8 (.cells #[.int .i64 k, .string ⟨a.toArray⟩, .string ⟨b.toArray⟩, .string ⟨c.toArray⟩, .string ⟨d.toArray⟩, .slice s1 n1 k1, .slice s2 n2 k2] 33)).mono (Nat.le_trans hz7.size hb8.size))
        clear hpa
        go_wp2_with fail
        go_ret
        exact ⟨by first | rfl | trivial, hz8⟩
      have hpe : FiS.parseE ty = 0 := by unfold FiS.parseE; rw [if_neg hlt, hpt]; rfl
      rw [hpe] at hpa
      have hld : decide ((16384 : Int) < (ty.length : Int)) = false := decide_eq_false (by omega)
      clear hpe
      go_wp2_with fail
      refine hpa.mono ?_; rintro e w8 ⟨⟨v8, rfl, _, hall⟩, hb8⟩
      obtain ⟨hfv8, _⟩ := hall y (by omega) hpt
      obtain ⟨z5, k5, z6, k6, rfl, _, _, _⟩ := FiV.partsO hfv8
      have hz8 := hz7.trans (hb8.mono hz7.size)
      have hg9 := grow1 w8 (.cells #[.int .i64 y.kind, .string ⟨y.attr.toArray⟩, .string ⟨y.value.toArray⟩, .string ⟨y.first.toArray⟩, .string ⟨y.last.toArray⟩, .slice z5 y.any.length k5, .slice z6 y.parts.length k6] 33)
      have hz9 := hz8.trans (hg9.mono hz8.size)
      have hy9 := (hy7.call hb8).call hg9
      have hfy9 := (hfv7.call hb8).call hg9
      have hz99 := Whole.made w8 33 #[.int .i64 y.kind, .string ⟨y.attr.toArray⟩, .string ⟨y.value.toArray⟩, .string ⟨y.first.toArray⟩, .string ⟨y.last.toArray⟩, .slice z5 y.any.length k5, .slice z6 y.parts.length k6]
      have hfz9 := hfv8.ins.call hg9
      clear hpa hall hb8 hz8 hfv8 hfv7 hg9 hy7 hz7
      go_upto_region 13 with fail
      generalize w8.alloc (.cells #[.int .i64 y.kind, .string ⟨y.attr.toArray⟩, .string ⟨y.value.toArray⟩, .string ⟨y.first.toArray⟩, .string ⟨y.last.toArray⟩, .slice z5 y.any.length k5, .slice z6 y.parts.length k6] 33) = w9 at *
      generalize w8.heap.size = zb at *
      have hsa := flsame_c 40 y y _ _ w9 40 hfy9 hfz9 (FiS.wdF_mono (by decide) y hwd5) (FiS.wdF_mono (by decide) y hwd5)
      unfold BoolR at hsa
      rw [FiS.sameS_self] at hsa
      obtain ⟨x0, x1, x2, x3, x4, x5, x6⟩ := hy9.seven
      obtain ⟨q0, q1, q2, q3, q4, q5, q6⟩ := hz99.seven
      go_wp2_with fail
      refine hsa.mono ?_; rintro e w10 ⟨rfl, hb10⟩
      have hz10 := hz9.trans (hb10.mono hz9.size)
      clear hsa x0 x1 x2 x3 x4 x5 x6 q0 q1 q2 q3 q4 q5 q6
      go_wp2_with fail
      go_ret
      exact ⟨by first | rfl | trivial, hz10⟩
theorem lawfilterback_c (n : Nat) (x : Fi) (v : Value) (s : ByteArray) (w : World) (h : FiIn n w v x) (hE : Env w) : Calls Tryz.prog 6 #[v, .string s] w (True_ w) := by
  obtain ⟨a, rfl⟩ := fl_bytes_of s
  exact filterback_c n x v a w h hE
end Go.Proofs.YtjmfknfponjgkaaGreatDoor
