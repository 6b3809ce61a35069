/- The walk of the law FilterPrints. Condition: the library's variables are laid. -/
import Derived.Test.YtjmfknfponjgkaaGreatDoorQFir
import Derived.Test.YtjmfknfponjgkaaGreatDoorQFit
import Derived.Test.YtjmfknfponjgkaaGreatDoorQFil
import Derived.Test.YtjmfknfponjgkaaGreatDoorQFim
namespace Go.Proofs.YtjmfknfponjgkaaGreatDoor
open Go.RowKit
open FiS (Fi)
attribute [local go_sem ↓] Go.wp_at_zero Go.wp_at_succ
set_option maxRecDepth 100000 in
set_option maxHeartbeats 16000000 in
theorem filterprints_c (n m : Nat) (x y : Fi) (v u : Value) (w : World) (h : FiIn n w v x) (k : FiIn m w u y) (hE : Env w) : Calls Tryz.prog 5 #[v, u] w (True_ w) := by
  have haw := fun W hE => flawake_c W hE
  have hsm := fun W h => flSmall_c n x v W h
  have htm := fun W h => flSmall_c m y u W h
  unfold True_ at *
  have HH := Lib.hid h
  have KK := Lib.hid k
  have HEN := Lib.hid (fun W (hb : Below w.heap.size w W) => hE.below hb)
  obtain ⟨a5, c5, a6, c6, hv, _, _, _⟩ := FiV.parts h
  subst hv
  obtain ⟨e5, f5, e6, f6, hu, _, _, _⟩ := FiV.parts k
  subst hu
  have hg0 := grow1 w (.cells #[.int .i64 x.kind, .string ⟨x.attr.toArray⟩, .string ⟨x.value.toArray⟩, .string ⟨x.first.toArray⟩, .string ⟨x.last.toArray⟩, .slice a5 x.any.length c5, .slice a6 x.parts.length c6] 25)
  have hg1 := grow1 (w.alloc (.cells #[.int .i64 x.kind, .string ⟨x.attr.toArray⟩, .string ⟨x.value.toArray⟩, .string ⟨x.first.toArray⟩, .string ⟨x.last.toArray⟩, .slice a5 x.any.length c5, .slice a6 x.parts.length c6] 25)) (.cells #[.int .i64 y.kind, .string ⟨y.attr.toArray⟩, .string ⟨y.value.toArray⟩, .string ⟨y.first.toArray⟩, .string ⟨y.last.toArray⟩, .slice e5 y.any.length f5, .slice e6 y.parts.length f6] 25)
  have hx0 := (Whole.made w 25 #[.int .i64 x.kind, .string ⟨x.attr.toArray⟩, .string ⟨x.value.toArray⟩, .string ⟨x.first.toArray⟩, .string ⟨x.last.toArray⟩, .slice a5 x.any.length c5, .slice a6 x.parts.length c6]).call hg1
  have hy0 := Whole.made (w.alloc (.cells #[.int .i64 x.kind, .string ⟨x.attr.toArray⟩, .string ⟨x.value.toArray⟩, .string ⟨x.first.toArray⟩, .string ⟨x.last.toArray⟩, .slice a5 x.any.length c5, .slice a6 x.parts.length c6] 25)) 25 #[.int .i64 y.kind, .string ⟨y.attr.toArray⟩, .string ⟨y.value.toArray⟩, .string ⟨y.first.toArray⟩, .string ⟨y.last.toArray⟩, .slice e5 y.any.length f5, .slice e6 y.parts.length f6]
  have e1 : (w.alloc (.cells #[.int .i64 x.kind, .string ⟨x.attr.toArray⟩, .string ⟨x.value.toArray⟩, .string ⟨x.first.toArray⟩, .string ⟨x.last.toArray⟩, .slice a5 x.any.length c5, .slice a6 x.parts.length c6] 25)).heap.size = w.heap.size + 1 := by simp
  rw [e1] at hy0
  have hz0 := hg0.trans (hg1.mono (by rw [e1]; omega))
  have haw1 := haw _ (HEN.out _ hz0)
  clear h k hE hg0 hg1 e1
  go_enter Tryz.func5, Tryz.ntmps5
  go_upto_region 1 with fail
  generalize (w.alloc (.cells #[.int .i64 x.kind, .string ⟨x.attr.toArray⟩, .string ⟨x.value.toArray⟩, .string ⟨x.first.toArray⟩, .string ⟨x.last.toArray⟩, .slice a5 x.any.length c5, .slice a6 x.parts.length c6] 25)).alloc (.cells #[.int .i64 y.kind, .string ⟨y.attr.toArray⟩, .string ⟨y.value.toArray⟩, .string ⟨y.first.toArray⟩, .string ⟨y.last.toArray⟩, .slice e5 y.any.length f5, .slice e6 y.parts.length f6] 25) = w0 at *
  go_wp2_with fail
  refine haw1.mono ?_; rintro e w1 ⟨rfl, hb1⟩
  have hz1 := hz0.trans (hb1.mono hz0.size)
  have hx1 := hx0.call hb1
  have hy1 := hy0.call hb1
  obtain ⟨q0, q1, q2, q3, q4, q5, q6⟩ := hx1.seven
  have hsm1 := hsm w1 (HH.out.call hz1)
  clear haw1 hsm hx0 hy0 hz0 hb1
  go_wp2_with fail
  refine hsm1.mono ?_; rintro e w2 ⟨b, rfl, HB, hb2⟩
  have hz2 := hz1.trans (hb2.mono hz1.size)
  have hx2 := hx1.call hb2
  have hy2 := hy1.call hb2
  clear hsm1 q0 q1 q2 q3 q4 q5 q6 hx1 hy1 hb2 hz1
  cases b with
  | false =>
    have haw2 := haw w2 (HEN.out _ hz2)
    clear haw htm
    go_wp2_with fail
    refine haw2.mono ?_; rintro e w3 ⟨rfl, hb3⟩
    have hz3 := hz2.trans (hb3.mono hz2.size)
    clear haw2
    go_wp2_with fail
    go_ret
    exact ⟨by first | rfl | trivial, hz3⟩
  | true =>
  have hwd := (HB.out rfl).1
  clear HB
  obtain ⟨r0, r1, r2, r3, r4, r5, r6⟩ := hy2.seven
  have htm2 := htm w2 (KK.out.call hz2)
  clear htm
  go_wp2_with fail
  refine htm2.mono ?_; rintro e w3 ⟨b, rfl, HB, hb3⟩
  have hz3 := hz2.trans (hb3.mono hz2.size)
  have hx3 := hx2.call hb3
  have hy3 := hy2.call hb3
  clear htm2 r0 r1 r2 r3 r4 r5 r6 hx2 hy2 hb3 hz2
  cases b with
  | false =>
    have haw3 := haw w3 (HEN.out _ hz3)
    clear haw
    go_wp2_with fail
    refine haw3.mono ?_; rintro e w4 ⟨rfl, hb4⟩
    have hz4 := hz3.trans (hb4.mono hz3.size)
    clear haw3
    go_wp2_with fail
    go_ret
    exact ⟨by first | rfl | trivial, hz4⟩
  | true =>
  have hwe := (HB.out rfl).1
  clear HB haw HEN
  obtain ⟨q0, q1, q2, q3, q4, q5, q6⟩ := hx3.seven
  have hth := theirs_c n x _ w3 (HH.out.call hz3) (FiS.wdF_mono (by decide) x hwd)
  go_wp2_with fail
  refine hth.mono ?_; rintro e w4 ⟨v4, rfl, hfv4, hb4⟩
  have hz4 := hz3.trans (hb4.mono hz3.size)
  have hx4 := hx3.call hb4
  have hy4 := hy3.call hb4
  have hpr := flPrint_c (n + 1) x v4 w4 hfv4.ins (FiS.wdF_mono (by decide) x hwd)
  unfold FlPrintRet at hpr
  clear hth q0 q1 q2 q3 q4 q5 q6 hx3 hy3 hfv4 hb4 hz3
  go_wp2_with fail
  refine hpr.mono ?_; rintro e w40 ⟨rfl, hb40⟩
  have hz40 := hz4.trans (hb40.mono hz4.size)
  have hx40 := hx4.call hb40
  have hy40 := hy4.call hb40
  obtain ⟨q0, q1, q2, q3, q4, q5, q6⟩ := hx40.seven
  have hpq := refflPrint_c n x _ w40 (HH.out.call hz40) (FiS.wdF_mono (by decide) x hwd)
  unfold FlPrintRet at hpq
  clear hpr hx4 hy4 hb40 hz4
  go_wp2_with fail
  refine hpq.mono ?_; rintro e w5 ⟨rfl, hb5⟩
  have hz5 := hz40.trans (hb5.mono hz40.size)
  have hx5 := hx40.call hb5
  have hy5 := hy40.call hb5
  clear hpq q0 q1 q2 q3 q4 q5 q6 hx40 hy40 hb5 hz40
  have HS : Hid (∀ W, Below w5.heap.size w5 W → W.cell? ⟨w.heap.size, 0, none⟩ = some (.int .i64 x.kind) ∧ W.cell? ⟨w.heap.size, 1, none⟩ = some (.string ⟨x.attr.toArray⟩) ∧ W.cell? ⟨w.heap.size, 2, none⟩ = some (.string ⟨x.value.toArray⟩) ∧ W.cell? ⟨w.heap.size, 3, none⟩ = some (.string ⟨x.first.toArray⟩) ∧ W.cell? ⟨w.heap.size, 4, none⟩ = some (.string ⟨x.last.toArray⟩) ∧ W.cell? ⟨w.heap.size, 5, none⟩ = some (.slice a5 x.any.length c5) ∧ W.cell? ⟨w.heap.size, 6, none⟩ = some (.slice a6 x.parts.length c6) ∧ W.cell? ⟨w.heap.size + 1, 0, none⟩ = some (.int .i64 y.kind) ∧ W.cell? ⟨w.heap.size + 1, 1, none⟩ = some (.string ⟨y.attr.toArray⟩) ∧ W.cell? ⟨w.heap.size + 1, 2, none⟩ = some (.string ⟨y.value.toArray⟩) ∧ W.cell? ⟨w.heap.size + 1, 3, none⟩ = some (.string ⟨y.first.toArray⟩) ∧ W.cell? ⟨w.heap.size + 1, 4, none⟩ = some (.string ⟨y.last.toArray⟩) ∧ W.cell? ⟨w.heap.size + 1, 5, none⟩ = some (.slice e5 y.any.length f5) ∧ W.cell? ⟨w.heap.size + 1, 6, none⟩ = some (.slice e6 y.parts.length f6)) := Lib.hid (fun W hb => by
    obtain ⟨q0, q1, q2, q3, q4, q5, q6⟩ := (hx5.call hb).seven
    obtain ⟨r0, r1, r2, r3, r4, r5, r6⟩ := (hy5.call hb).seven
    exact ⟨q0, q1, q2, q3, q4, q5, q6, r0, r1, r2, r3, r4, r5, r6⟩)
  have HTX : Hid (∀ W, Below w5.heap.size w5 W → Calls Tryz.prog 11 #[.agg #[.int .i64 x.kind, .string ⟨x.attr.toArray⟩, .string ⟨x.value.toArray⟩, .string ⟨x.first.toArray⟩, .string ⟨x.last.toArray⟩, .slice a5 x.any.length c5, .slice a6 x.parts.length c6]] W (fun e w' => ∃ v', e = .returned v' ∧ FiV (n + 1) (fun g => W.heap.size ≤ g) w' v' x ∧ Below W.heap.size W w')) := Lib.hid (fun W hb => theirs_c n x _ W (HH.out.call (hz5.trans (hb.mono hz5.size))) (FiS.wdF_mono (by decide) x hwd))
  have HTY : Hid (∀ W, Below w5.heap.size w5 W → Calls Tryz.prog 11 #[.agg #[.int .i64 y.kind, .string ⟨y.attr.toArray⟩, .string ⟨y.value.toArray⟩, .string ⟨y.first.toArray⟩, .string ⟨y.last.toArray⟩, .slice e5 y.any.length f5, .slice e6 y.parts.length f6]] W (fun e w' => ∃ v', e = .returned v' ∧ FiV (m + 1) (fun g => W.heap.size ≤ g) w' v' y ∧ Below W.heap.size W w')) := Lib.hid (fun W hb => theirs_c m y _ W (KK.out.call (hz5.trans (hb.mono hz5.size))) (FiS.wdF_mono (by decide) y hwe))
  obtain ⟨F, hF⟩ : ∃ b, FiS.formedS x = b := ⟨_, rfl⟩
  obtain ⟨N, hN⟩ : ∃ b : Int, ((min (FiS.nodes x) 41 : Nat) : Int) = b := ⟨_, rfl⟩
  obtain ⟨E, hEq⟩ : ∃ b, FiS.sameS x y = b := ⟨_, rfl⟩
  have HFO : Hid (∀ (W : World) (d : Nat) (V : Value), FiIn d W V x → Calls Tryz.prog 13 #[V] W (fun e w' => e = .returned (.bool F) ∧ Below W.heap.size W w')) := Lib.hid (fun W d V h => by
    have := flFormed_c d x V W h (FiS.wdF_mono (by decide) x hwd)
    rw [hF] at this
    exact this)
  have HRO : Hid (∀ W, Below w5.heap.size w5 W → Calls Tryz.prog 16 #[.agg #[.int .i64 x.kind, .string ⟨x.attr.toArray⟩, .string ⟨x.value.toArray⟩, .string ⟨x.first.toArray⟩, .string ⟨x.last.toArray⟩, .slice a5 x.any.length c5, .slice a6 x.parts.length c6]] W (fun e w' => e = .returned (.bool F) ∧ Below W.heap.size W w')) := Lib.hid (fun W hb => by
    have := refflFormed_c n x _ W (HH.out.call (hz5.trans (hb.mono hz5.size))) (FiS.wdF_mono (by decide) x hwd)
    rw [hF] at this
    exact this)
  have HNO : Hid (∀ (W : World) (d : Nat) (V : Value), FiIn d W V x → Calls Tryz.prog 17 #[V] W (fun e w' => e = .returned (.int .i64 N) ∧ Below W.heap.size W w')) := Lib.hid (fun W d V h => by
    have := nodes_c d x V W h
    rw [hN] at this
    exact this)
  have HRN : Hid (∀ W, Below w5.heap.size w5 W → Calls Tryz.prog 18 #[.agg #[.int .i64 x.kind, .string ⟨x.attr.toArray⟩, .string ⟨x.value.toArray⟩, .string ⟨x.first.toArray⟩, .string ⟨x.last.toArray⟩, .slice a5 x.any.length c5, .slice a6 x.parts.length c6]] W (fun e w' => e = .returned (.int .i64 N) ∧ Below W.heap.size W w')) := Lib.hid (fun W hb => by
    have := refnodes_c n x _ W (HH.out.call (hz5.trans (hb.mono hz5.size)))
    rw [hN] at this
    exact this)
  have HSA : Hid (∀ (W : World) (d e : Nat) (V U : Value), FiIn d W V x → FiIn e W U y → Calls Tryz.prog 19 #[V, U] W (fun e w' => e = .returned (.bool E) ∧ Below W.heap.size W w')) := Lib.hid (fun W d e V U h k => by
    have := flsame_c d x y V U W e h k (FiS.wdF_mono (by decide) x hwd) (FiS.wdF_mono (by decide) y hwe)
    rw [hEq] at this
    exact this)
  have HRS : Hid (∀ W, Below w5.heap.size w5 W → Calls Tryz.prog 20 #[.agg #[.int .i64 x.kind, .string ⟨x.attr.toArray⟩, .string ⟨x.value.toArray⟩, .string ⟨x.first.toArray⟩, .string ⟨x.last.toArray⟩, .slice a5 x.any.length c5, .slice a6 x.parts.length c6], .agg #[.int .i64 y.kind, .string ⟨y.attr.toArray⟩, .string ⟨y.value.toArray⟩, .string ⟨y.first.toArray⟩, .string ⟨y.last.toArray⟩, .slice e5 y.any.length f5, .slice e6 y.parts.length f6]] W (fun e w' => e = .returned (.bool E) ∧ Below W.heap.size W w')) := Lib.hid (fun W hb => by
    have := refflsame_c n x y _ _ W m (HH.out.call (hz5.trans (hb.mono hz5.size))) (KK.out.call (hz5.trans (hb.mono hz5.size))) (FiS.wdF_mono (by decide) x hwd) (FiS.wdF_mono (by decide) y hwe)
    rw [hEq] at this
    exact this)
  have hXw5 : Below w5.heap.size w5 w5.drew := (Below.refl _ _).drew
  clear HH KK hwd hwe hF hN hEq hx5 hy5
  generalize FiS.printS x = PR at *
  go_upto_region 5 with fail
  refine head_begin 35 (fun W => W.cell? ⟨w.heap.size, 0, none⟩ = some (.int .i64 x.kind) ∧ W.cell? ⟨w.heap.size, 1, none⟩ = some (.string ⟨x.attr.toArray⟩) ∧ W.cell? ⟨w.heap.size, 2, none⟩ = some (.string ⟨x.value.toArray⟩) ∧ W.cell? ⟨w.heap.size, 3, none⟩ = some (.string ⟨x.first.toArray⟩) ∧ W.cell? ⟨w.heap.size, 4, none⟩ = some (.string ⟨x.last.toArray⟩) ∧ W.cell? ⟨w.heap.size, 5, none⟩ = some (.slice a5 x.any.length c5) ∧ W.cell? ⟨w.heap.size, 6, none⟩ = some (.slice a6 x.parts.length c6) ∧ W.cell? ⟨w.heap.size + 1, 0, none⟩ = some (.int .i64 y.kind) ∧ W.cell? ⟨w.heap.size + 1, 1, none⟩ = some (.string ⟨y.attr.toArray⟩) ∧ W.cell? ⟨w.heap.size + 1, 2, none⟩ = some (.string ⟨y.value.toArray⟩) ∧ W.cell? ⟨w.heap.size + 1, 3, none⟩ = some (.string ⟨y.first.toArray⟩) ∧ W.cell? ⟨w.heap.size + 1, 4, none⟩ = some (.string ⟨y.last.toArray⟩) ∧ W.cell? ⟨w.heap.size + 1, 5, none⟩ = some (.slice e5 y.any.length f5) ∧ W.cell? ⟨w.heap.size + 1, 6, none⟩ = some (.slice e6 y.parts.length f6)) (by kernel_rfl) (by kernel_rfl) (HS.out _ hXw5) (fun hHeld => ?_)
  refine head_take 0 ?_ (by simp only [List.length_cons, List.length_nil]; decide) (by kernel_rfl) (fun _ _ _ h => h) (by rfl) ?_ hHeld ?_
  rotate_left
  · intro W hSw; (try simp only [List.getElem_cons_zero]); (try go_split_ands); go_simp; (try with_reducible rfl)
  (try simp only [List.getElem_cons_zero, Act.put, List.setIfInBounds_toArray, List.set_cons_zero, List.set_cons_succ])
  refine head_take 1 ?_ (by simp only [List.length_cons, List.length_nil]; decide) (by kernel_rfl) (fun _ _ _ h => h) (by rfl) ?_ hHeld ?_
  rotate_left
  · intro W hSw; (try simp only [List.getElem_cons_succ, List.getElem_cons_zero]); (try go_split_ands); go_simp; (try with_reducible rfl)
  (try simp only [List.getElem_cons_succ, List.getElem_cons_zero, Act.put, List.setIfInBounds_toArray, List.set_cons_zero, List.set_cons_succ])
  refine head_take 2 ?_ (by simp only [List.length_cons, List.length_nil]; decide) (by kernel_rfl) (fun _ _ _ h => h) (by rfl) ?_ hHeld ?_
  rotate_left
  · intro W hSw; (try simp only [List.getElem_cons_succ, List.getElem_cons_zero]); (try go_split_ands); go_simp; (try with_reducible rfl)
  (try simp only [List.getElem_cons_succ, List.getElem_cons_zero, Act.put, List.setIfInBounds_toArray, List.set_cons_zero, List.set_cons_succ])
  refine head_take 3 ?_ (by simp only [List.length_cons, List.length_nil]; decide) (by kernel_rfl) (fun _ _ _ h => h) (by rfl) ?_ hHeld ?_
  rotate_left
  · intro W hSw; (try simp only [List.getElem_cons_succ, List.getElem_cons_zero]); (try go_split_ands); go_simp; (try with_reducible rfl)
  (try simp only [List.getElem_cons_succ, List.getElem_cons_zero, Act.put, List.setIfInBounds_toArray, List.set_cons_zero, List.set_cons_succ])
  refine head_take 4 ?_ (by simp only [List.length_cons, List.length_nil]; decide) (by kernel_rfl) (fun _ _ _ h => h) (by rfl) ?_ hHeld ?_
  rotate_left
  · intro W hSw; (try simp only [List.getElem_cons_succ, List.getElem_cons_zero]); (try go_split_ands); go_simp; (try with_reducible rfl)
  (try simp only [List.getElem_cons_succ, List.getElem_cons_zero, Act.put, List.setIfInBounds_toArray, List.set_cons_zero, List.set_cons_succ])
  refine head_take 5 ?_ (by simp only [List.length_cons, List.length_nil]; decide) (by kernel_rfl) (fun _ _ _ h => h) (by rfl) ?_ hHeld ?_
  rotate_left
  · intro W hSw; (try simp only [List.getElem_cons_succ, List.getElem_cons_zero]); (try go_split_ands); go_simp; (try with_reducible rfl)
  (try simp only [List.getElem_cons_succ, List.getElem_cons_zero, Act.put, List.setIfInBounds_toArray, List.set_cons_zero, List.set_cons_succ])
  refine head_take 6 ?_ (by simp only [List.length_cons, List.length_nil]; decide) (by kernel_rfl) (fun _ _ _ h => h) (by rfl) ?_ hHeld ?_
  rotate_left
  · intro W hSw; (try simp only [List.getElem_cons_succ, List.getElem_cons_zero]); (try go_split_ands); go_simp; (try with_reducible rfl)
  (try simp only [List.getElem_cons_succ, List.getElem_cons_zero, Act.put, List.setIfInBounds_toArray, List.set_cons_zero, List.set_cons_succ])
  refine head_take 7 ?_ (by simp only [List.length_cons, List.length_nil]; decide) (by kernel_rfl) (fun _ _ _ h => h) (by rfl) ?_ hHeld ?_
  rotate_left
  · intro W hSw; (try simp only [List.getElem_cons_succ, List.getElem_cons_zero]); (try go_split_ands); go_simp; (try with_reducible rfl)
  (try simp only [List.getElem_cons_succ, List.getElem_cons_zero, Act.put, List.setIfInBounds_toArray, List.set_cons_zero, List.set_cons_succ])
  refine head_take 8 ?_ (by simp only [List.length_cons, List.length_nil]; decide) (by kernel_rfl) (fun _ _ _ h => h) (by rfl) ?_ hHeld ?_
  rotate_left
  · intro W hSw; (try simp only [List.getElem_cons_succ, List.getElem_cons_zero]); (try go_split_ands); go_simp; (try with_reducible rfl)
  (try simp only [List.getElem_cons_succ, List.getElem_cons_zero, Act.put, List.setIfInBounds_toArray, List.set_cons_zero, List.set_cons_succ])
  refine head_take 9 ?_ (by simp only [List.length_cons, List.length_nil]; decide) (by kernel_rfl) (fun _ _ _ h => h) (by rfl) ?_ hHeld ?_
  rotate_left
  · intro W hSw; (try simp only [List.getElem_cons_succ, List.getElem_cons_zero]); (try go_split_ands); go_simp; (try with_reducible rfl)
  (try simp only [List.getElem_cons_succ, List.getElem_cons_zero, Act.put, List.setIfInBounds_toArray, List.set_cons_zero, List.set_cons_succ])
  refine head_take 12 ?_ (by simp only [List.length_cons, List.length_nil]; decide) (by kernel_rfl) (fun _ _ _ h => h) (by rfl) ?_ hHeld ?_
  rotate_left
  · intro W hSw; (try simp only [List.getElem_cons_succ, List.getElem_cons_zero]); (try go_split_ands); go_simp; (try with_reducible rfl)
  (try simp only [List.getElem_cons_succ, List.getElem_cons_zero, Act.put, List.setIfInBounds_toArray, List.set_cons_zero, List.set_cons_succ])
  refine head_step 10 (by simp only [List.length_cons, List.length_nil]; decide) (by kernel_rfl) (fun K hK => ?_)
  (try simp only [List.getElem_cons_succ, List.getElem_cons_zero])
  refine if_step (by rfl) ?_
  go_simp
  (go_at_call 11; (with_reducible refine (HTX.out _ hXw5).mono ?_); rintro e w6 ⟨v6, rfl, hf6, hw6⟩)
  have hXw6 := hXw5.trans (hw6.mono hXw5.size)
  refine hK.out _ _ ?_ (fun hHeld => ?_)
  · exact HS.out _ hXw6
  clear hK K
  (try simp only [Act.put, List.setIfInBounds_toArray, List.set_cons_zero, List.set_cons_succ])
  refine head_step 11 (by simp only [List.length_cons, List.length_nil]; decide) (by kernel_rfl) (fun K hK => ?_)
  (try simp only [List.getElem_cons_succ, List.getElem_cons_zero])
  refine if_step (by rfl) ?_
  go_simp
  (go_at_call 13; (with_reducible refine (HFO.out _ _ _ hf6.ins).mono ?_); rintro e w7 ⟨rfl, hw7⟩)
  have hXw7 := hXw6.trans (hw7.mono hXw6.size)
  refine hK.out _ _ ?_ (fun hHeld => ?_)
  · exact HS.out _ hXw7
  clear hK K
  (try simp only [Act.put, List.setIfInBounds_toArray, List.set_cons_zero, List.set_cons_succ])
  refine head_step 13 (by simp only [List.length_cons, List.length_nil]; decide) (by kernel_rfl) (fun K hK => ?_)
  (try simp only [List.getElem_cons_succ, List.getElem_cons_zero])
  refine if_step (by rfl) ?_
  go_simp
  (go_at_call 16; (with_reducible refine (HRO.out _ hXw7).mono ?_); rintro e w8 ⟨rfl, hw8⟩)
  have hXw8 := hXw7.trans (hw8.mono hXw7.size)
  refine hK.out _ _ ?_ (fun hHeld => ?_)
  · exact HS.out _ hXw8
  clear hK K
  (try simp only [Act.put, List.setIfInBounds_toArray, List.set_cons_zero, List.set_cons_succ])
  refine head_take 14 ?_ (by simp only [List.length_cons, List.length_nil]; decide) (by kernel_rfl) (fun _ _ _ h => h) (by rfl) ?_ hHeld ?_
  rotate_left
  · intro W hSw; (try simp only [List.getElem_cons_succ, List.getElem_cons_zero]); (try go_split_ands); go_simp; (try with_reducible rfl)
  (try simp only [List.getElem_cons_succ, List.getElem_cons_zero, Act.put, List.setIfInBounds_toArray, List.set_cons_zero, List.set_cons_succ])
  refine head_take 15 ?_ (by simp only [List.length_cons, List.length_nil]; decide) (by kernel_rfl) (fun _ _ _ h => h) (by rfl) ?_ hHeld ?_
  rotate_left
  · intro W hSw; (try simp only [List.getElem_cons_succ, List.getElem_cons_zero]); (try go_split_ands); go_simp; (try with_reducible rfl)
  (try simp only [List.getElem_cons_succ, List.getElem_cons_zero, Act.put, List.setIfInBounds_toArray, List.set_cons_zero, List.set_cons_succ])
  refine head_take 16 ?_ (by simp only [List.length_cons, List.length_nil]; decide) (by kernel_rfl) (fun _ _ _ h => h) (by rfl) ?_ hHeld ?_
  rotate_left
  · intro W hSw; (try simp only [List.getElem_cons_succ, List.getElem_cons_zero]); (try go_split_ands); go_simp; (try with_reducible rfl)
  (try simp only [List.getElem_cons_succ, List.getElem_cons_zero, Act.put, List.setIfInBounds_toArray, List.set_cons_zero, List.set_cons_succ])
  refine head_take 17 ?_ (by simp only [List.length_cons, List.length_nil]; decide) (by kernel_rfl) (fun _ _ _ h => h) (by rfl) ?_ hHeld ?_
  rotate_left
  · intro W hSw; (try simp only [List.getElem_cons_succ, List.getElem_cons_zero]); (try go_split_ands); go_simp; (try with_reducible rfl)
  (try simp only [List.getElem_cons_succ, List.getElem_cons_zero, Act.put, List.setIfInBounds_toArray, List.set_cons_zero, List.set_cons_succ])
  refine head_take 20 ?_ (by simp only [List.length_cons, List.length_nil]; decide) (by kernel_rfl) (fun _ _ _ h => h) (by rfl) ?_ hHeld ?_
  rotate_left
  · intro W hSw; (try simp only [List.getElem_cons_succ, List.getElem_cons_zero]); (try go_split_ands); go_simp; (try with_reducible rfl)
  (try simp only [List.getElem_cons_succ, List.getElem_cons_zero, Act.put, List.setIfInBounds_toArray, List.set_cons_zero, List.set_cons_succ])
  refine head_step 18 (by simp only [List.length_cons, List.length_nil]; decide) (by kernel_rfl) (fun K hK => ?_)
  (try simp only [List.getElem_cons_succ, List.getElem_cons_zero])
  refine if_step (by rfl) ?_
  go_simp
  (go_at_call 11; (with_reducible refine (HTX.out _ hXw8).mono ?_); rintro e w9 ⟨v9, rfl, hf9, hw9⟩)
  have hXw9 := hXw8.trans (hw9.mono hXw8.size)
  refine hK.out _ _ ?_ (fun hHeld => ?_)
  · exact HS.out _ hXw9
  clear hK K
  (try simp only [Act.put, List.setIfInBounds_toArray, List.set_cons_zero, List.set_cons_succ])
  refine head_step 19 (by simp only [List.length_cons, List.length_nil]; decide) (by kernel_rfl) (fun K hK => ?_)
  (try simp only [List.getElem_cons_succ, List.getElem_cons_zero])
  refine if_step (by rfl) ?_
  go_simp
  (go_at_call 17; (with_reducible refine (HNO.out _ _ _ hf9.ins).mono ?_); rintro e w10 ⟨rfl, hw10⟩)
  have hXw10 := hXw9.trans (hw10.mono hXw9.size)
  refine hK.out _ _ ?_ (fun hHeld => ?_)
  · exact HS.out _ hXw10
  clear hK K
  (try simp only [Act.put, List.setIfInBounds_toArray, List.set_cons_zero, List.set_cons_succ])
  refine head_step 21 (by simp only [List.length_cons, List.length_nil]; decide) (by kernel_rfl) (fun K hK => ?_)
  (try simp only [List.getElem_cons_succ, List.getElem_cons_zero])
  refine if_step (by rfl) ?_
  go_simp
  (go_at_call 18; (with_reducible refine (HRN.out _ hXw10).mono ?_); rintro e w11 ⟨rfl, hw11⟩)
  have hXw11 := hXw10.trans (hw11.mono hXw10.size)
  refine hK.out _ _ ?_ (fun hHeld => ?_)
  · exact HS.out _ hXw11
  clear hK K
  (try simp only [Act.put, List.setIfInBounds_toArray, List.set_cons_zero, List.set_cons_succ])
  refine head_take 22 ?_ (by simp only [List.length_cons, List.length_nil]; decide) (by kernel_rfl) (fun _ _ _ h => h) (by rfl) ?_ hHeld ?_
  rotate_left
  · intro W hSw; (try simp only [List.getElem_cons_succ, List.getElem_cons_zero]); (try go_split_ands); go_simp; (try with_reducible rfl)
  (try simp only [List.getElem_cons_succ, List.getElem_cons_zero, Act.put, List.setIfInBounds_toArray, List.set_cons_zero, List.set_cons_succ])
  refine head_take 23 ?_ (by simp only [List.length_cons, List.length_nil]; decide) (by kernel_rfl) (fun _ _ _ h => h) (by rfl) ?_ hHeld ?_
  rotate_left
  · intro W hSw; (try simp only [List.getElem_cons_succ, List.getElem_cons_zero]); (try go_split_ands); go_simp; (try with_reducible rfl)
  (try simp only [List.getElem_cons_succ, List.getElem_cons_zero, Act.put, List.setIfInBounds_toArray, List.set_cons_zero, List.set_cons_succ])
  refine head_take 24 ?_ (by simp only [List.length_cons, List.length_nil]; decide) (by kernel_rfl) (fun _ _ _ h => h) (by rfl) ?_ hHeld ?_
  rotate_left
  · intro W hSw; (try simp only [List.getElem_cons_succ, List.getElem_cons_zero]); (try go_split_ands); go_simp; (try with_reducible rfl)
  (try simp only [List.getElem_cons_succ, List.getElem_cons_zero, Act.put, List.setIfInBounds_toArray, List.set_cons_zero, List.set_cons_succ])
  refine head_take 25 ?_ (by simp only [List.length_cons, List.length_nil]; decide) (by kernel_rfl) (fun _ _ _ h => h) (by rfl) ?_ hHeld ?_
  rotate_left
  · intro W hSw; (try simp only [List.getElem_cons_succ, List.getElem_cons_zero]); (try go_split_ands); go_simp; (try with_reducible rfl)
  (try simp only [List.getElem_cons_succ, List.getElem_cons_zero, Act.put, List.setIfInBounds_toArray, List.set_cons_zero, List.set_cons_succ])
  refine head_take 27 ?_ (by simp only [List.length_cons, List.length_nil]; decide) (by kernel_rfl) (fun _ _ _ h => h) (by rfl) ?_ hHeld ?_
  rotate_left
  · intro W hSw; (try simp only [List.getElem_cons_succ, List.getElem_cons_zero]); (try go_split_ands); go_simp; (try with_reducible rfl)
  (try simp only [List.getElem_cons_succ, List.getElem_cons_zero, Act.put, List.setIfInBounds_toArray, List.set_cons_zero, List.set_cons_succ])
  refine head_take 30 ?_ (by simp only [List.length_cons, List.length_nil]; decide) (by kernel_rfl) (fun _ _ _ h => h) (by rfl) ?_ hHeld ?_
  rotate_left
  · intro W hSw; (try simp only [List.getElem_cons_succ, List.getElem_cons_zero]); (try go_split_ands); go_simp; (try with_reducible rfl)
  (try simp only [List.getElem_cons_succ, List.getElem_cons_zero, Act.put, List.setIfInBounds_toArray, List.set_cons_zero, List.set_cons_succ])
  refine head_take 31 ?_ (by simp only [List.length_cons, List.length_nil]; decide) (by kernel_rfl) (fun _ _ _ h => h) (by rfl) ?_ hHeld ?_
  rotate_left
  · intro W hSw; (try simp only [List.getElem_cons_succ, List.getElem_cons_zero]); (try go_split_ands); go_simp; (try with_reducible rfl)
  (try simp only [List.getElem_cons_succ, List.getElem_cons_zero, Act.put, List.setIfInBounds_toArray, List.set_cons_zero, List.set_cons_succ])
  refine head_step 26 (by simp only [List.length_cons, List.length_nil]; decide) (by kernel_rfl) (fun K hK => ?_)
  (try simp only [List.getElem_cons_succ, List.getElem_cons_zero])
  refine if_step (by rfl) ?_
  go_simp
  (go_at_call 11; (with_reducible refine (HTX.out _ hXw11).mono ?_); rintro e w12 ⟨v12, rfl, hf12, hw12⟩)
  have hXw12 := hXw11.trans (hw12.mono hXw11.size)
  refine hK.out _ _ ?_ (fun hHeld => ?_)
  · exact HS.out _ hXw12
  clear hK K
  (try simp only [Act.put, List.setIfInBounds_toArray, List.set_cons_zero, List.set_cons_succ])
  refine head_step 28 (by simp only [List.length_cons, List.length_nil]; decide) (by kernel_rfl) (fun K hK => ?_)
  (try simp only [List.getElem_cons_succ, List.getElem_cons_zero])
  refine if_step (by rfl) ?_
  go_simp
  (go_at_call 11; (with_reducible refine (HTY.out _ hXw12).mono ?_); rintro e w13 ⟨v13, rfl, hf13, hw13⟩)
  have hXw13 := hXw12.trans (hw13.mono hXw12.size)
  refine hK.out _ _ ?_ (fun hHeld => ?_)
  · exact HS.out _ hXw13
  clear hK K
  (try simp only [Act.put, List.setIfInBounds_toArray, List.set_cons_zero, List.set_cons_succ])
  refine head_step 29 (by simp only [List.length_cons, List.length_nil]; decide) (by kernel_rfl) (fun K hK => ?_)
  (try simp only [List.getElem_cons_succ, List.getElem_cons_zero])
  refine if_step (by rfl) ?_
  go_simp
  (go_at_call 19; (with_reducible refine (HSA.out _ _ _ _ _ (hf12.ins.call hw13) hf13.ins).mono ?_); rintro e w14 ⟨rfl, hw14⟩)
  have hXw14 := hXw13.trans (hw14.mono hXw13.size)
  refine hK.out _ _ ?_ (fun hHeld => ?_)
  · exact HS.out _ hXw14
  clear hK K
  (try simp only [Act.put, List.setIfInBounds_toArray, List.set_cons_zero, List.set_cons_succ])
  refine head_step 32 (by simp only [List.length_cons, List.length_nil]; decide) (by kernel_rfl) (fun K hK => ?_)
  (try simp only [List.getElem_cons_succ, List.getElem_cons_zero])
  refine if_step (by rfl) ?_
  go_simp
  (go_at_call 20; (with_reducible refine (HRS.out _ hXw14).mono ?_); rintro e w15 ⟨rfl, hw15⟩)
  have hXw15 := hXw14.trans (hw15.mono hXw14.size)
  refine hK.out _ _ ?_ (fun hHeld => ?_)
  · exact HS.out _ hXw15
  clear hK K
  (try simp only [Act.put, List.setIfInBounds_toArray, List.set_cons_zero, List.set_cons_succ])
  refine head_take 33 ?_ (by simp only [List.length_cons, List.length_nil]; decide) (by kernel_rfl) (fun _ _ _ h => h) (by rfl) ?_ hHeld ?_
  rotate_left
  · intro W hSw; (try simp only [List.getElem_cons_succ, List.getElem_cons_zero]); (try go_split_ands); go_simp; (try with_reducible rfl)
  (try simp only [List.getElem_cons_succ, List.getElem_cons_zero, Act.put, List.setIfInBounds_toArray, List.set_cons_zero, List.set_cons_succ])
  refine head_take 34 ?_ (by simp only [List.length_cons, List.length_nil]; decide) (by kernel_rfl) (fun _ _ _ h => h) (by rfl) ?_ hHeld ?_
  rotate_left
  · intro W hSw; (try simp only [List.getElem_cons_succ, List.getElem_cons_zero]); (try go_split_ands); go_simp; (try with_reducible rfl)
  (try simp only [List.getElem_cons_succ, List.getElem_cons_zero, Act.put, List.setIfInBounds_toArray, List.set_cons_zero, List.set_cons_succ])
  refine head_end (by kernel_rfl) ?_
  simp only [List.drop_succ_cons, List.drop_zero]
  clear hHeld
  have hzz := hz5.trans (hXw15.mono hz5.size)
  go_wp2_with fail
  go_ret
  exact ⟨by first | rfl | trivial, hzz⟩
theorem lawfilterprints_c (n m : Nat) (x y : Fi) (v u : Value) (w : World) (h : FiIn n w v x) (k : FiIn m w u y) (hE : Env w) : Calls Tryz.prog 5 #[v, u] w (True_ w) := filterprints_c n m x y v u w h k hE
end Go.Proofs.YtjmfknfponjgkaaGreatDoor
