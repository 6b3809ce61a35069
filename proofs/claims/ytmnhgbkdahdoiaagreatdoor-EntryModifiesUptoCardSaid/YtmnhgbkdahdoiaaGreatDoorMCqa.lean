/- The walk of the document's Copy of an entry. Conditions: an entry has at most 1048576 attributes of as many values each. -/
import Derived.Deep.DrawnRows
import Derived.Test.YtmnhgbkdahdoiaaGreatDoorMOwk
import Derived.Test.YtmnhgbkdahdoiaaGreatDoorMEna
import Derived.Test.YtmnhgbkdahdoiaaGreatDoorMTai
namespace Go.Proofs.YtmnhgbkdahdoiaaGreatDoor
open Go.RowKit

/-- a slice of texts more, in a region that draws its order -/
theorem wp_strs {w : World} {o : Oper} {a : Act} {K : Act → World → Prop} {Q : Exit → Act → World → Prop} (s x : Operand)
    (ho : o.op = .call { callee := .builtin .append, args := #[s, x], argTypes := #[35, 35] })
    (B : Nat) (v : Value) (xs : List (List UInt8)) (hs : a.eval s = v) (hown : Own w B v xs) (u : Value) (ys : List (List UInt8)) (hx : a.eval x = u) (hin : StrsIn w u ys)
    (hn : xs.length + ys.length ≤ 1000000000) (hB : B ≤ w.heap.size)
    (h : ∀ v' w', Own w' B v' (xs ++ ys) → Below B w w' → K (a.put o.dst v') w') : Oper.wp Tryz.prog o a w K Q := by
  obtain ⟨A, c, rfl, hc, hcase⟩ := hin
  obtain ⟨i0, hi, hz0, hz1, hz2⟩ := info_parts infoStr
  cases A with
  | none =>
    rcases hcase with rfl | ⟨g, o, e, _⟩
    · have hrun := append_nil_run o.type hown c
      unfold Oper.wp
      simp [execOp, ho, resolve, invoke, builtin, hs, hx, hrun, Result.andThen]
      exact h v w (by rw [List.append_nil]; exact hown) (Below.refl B w)
    · cases e
  | some ad =>
    refine wp_append_own w s x _ ho B 9 i0 (.string ⟨#[]⟩) 1 16 Tryz.underlying35 hi hz0 hz1 hz2 rfl (by decide) v xs.length (xs.map strV) hs hown ad ys.length c (ys.map strV) hx (by simp)
      (fun j y hj => ?_) (fun y hy => ?_) (by unfold maxLen; omega) (by omega) hB (fun v' w' h1 h2 _ => h v' w' ?_ ?_)
    · rcases hcase with rfl | ⟨g, o, e, hg, hcell⟩
      · simp at hj
      · cases e
        rw [List.getElem?_map] at hj
        obtain ⟨t, ht, rfl⟩ := Option.map_eq_some_iff.1 hj
        have hadd : (⟨g, o, Option.none⟩ : Addr).add j = ⟨g, o + j, Option.none⟩ := by unfold Addr.add; split <;> simp_all
        rw [hadd]
        exact hcell j t ht
    · obtain ⟨t, _, rfl⟩ := List.mem_map.1 hy
      rfl
    · unfold Own
      rw [List.map_append, List.length_append]
      exact h1
    · exact (Below.refl B w).grown h2 hB (fun k hk => (World.ownsRow.lt hown k hk).1)
/-- a block of another type stays while a row grows -/
theorem Whole.grown {α : Type} {L : KLay α} {T T' : TypeId} {Ts : List TypeId} {w w' : World} {C B g : Nat} {v : Value} {xs : List α} {cs : Array Value} (h : Whole w g T' cs) (ho : OwnK L T Ts C w B v xs) (hT : T ≠ T') (hg : w.grownBy w' v.ownBlock) : Whole w' g T' cs := by
  refine (hg.block g h.lt (fun e => ?_)).trans h
  obtain ⟨us, h1, _⟩ := ho
  obtain ⟨c, fz, h2⟩ := Lib.ownsRow_kind h1 g e.symm
  unfold Whole at h
  rw [h] at h2
  cases h2
  exact hT rfl
theorem Own.nilOf {w : World} {B : Nat} {v : Value} {xs : List (List UInt8)} (h : Own w B v ([] ++ xs)) : Own w B v xs := h
set_option maxRecDepth 100000 in
set_option maxHeartbeats 4000000 in
theorem enrefcopy_c (C : Nat) (name : List UInt8) (xs : List EnS.At) (u : Value) (w : World) (hC : C ≤ w.heap.size) (h : AttrsIn w u xs) (hf : FitA xs) : Calls Tryz.prog 10 #[.agg #[.string ⟨name.toArray⟩, u]] w (CopyRet C name xs w) := by
  have hbs := build0
  have hb0 := grow1 w (.cells #[.string ⟨name.toArray⟩, u] 24)
  have hw0 := Whole.made w 24 #[.string ⟨name.toArray⟩, u]
  have hg1 := grow1 (w.alloc (.cells #[.string ⟨name.toArray⟩, u] 24)) (.cells #[.string ⟨#[]⟩, .slice none 0 0] 24)
  have hb1 := below_trans hb0 hg1
  have hw1 := hw0.call hg1
  have hr1 := Whole.made (w.alloc (.cells #[.string ⟨name.toArray⟩, u] 24)) 24 #[.string ⟨#[]⟩, .slice none 0 0]
  obtain ⟨a, c, rfl, _⟩ := SliceP.form h
  have hm1 : (w.alloc (.cells #[.string ⟨name.toArray⟩, .slice a xs.length c] 24)).heap.size = w.heap.size + 1 := by show (w.heap.push _).size = _; exact Array.size_push _
  have hm2 : ((w.alloc (.cells #[.string ⟨name.toArray⟩, .slice a xs.length c] 24)).alloc (.cells #[.string ⟨#[]⟩, .slice none 0 0] 24)).heap.size = w.heap.size + 2 := by show ((w.heap.push _).push _).size = _; simp
  rw [hm1] at hr1
  have hfl : xs.length ≤ 1048576 := hf.1
  clear hb0 hw0 hg1
  have q0 := hw1.cell 0
  have q1 := hw1.cell 1
  simp only [List.getElem?_toArray, List.getElem?_cons_zero, List.getElem?_cons_succ] at q0 q1
  go_enter Tryz.func10, Tryz.ntmps10
  go_wp2_with fail
  have hg2 := grow1 ((w.alloc (.cells #[.string ⟨name.toArray⟩, .slice a xs.length c] 24)).alloc (.cells #[.string ⟨#[]⟩, .slice none 0 0] 24)) (.cells #[.string ⟨name.toArray⟩, .slice none 0 0] 24)
  have ho2 := Whole.made ((w.alloc (.cells #[.string ⟨name.toArray⟩, .slice a xs.length c] 24)).alloc (.cells #[.string ⟨#[]⟩, .slice none 0 0] 24)) 24 #[.string ⟨name.toArray⟩, .slice none 0 0]
  rw [hm2] at ho2
  have hw2 := hw1.call hg2
  have hr2 := hr1.call hg2
  have hb2 := below_trans hb1 hg2
  obtain ⟨_, _, e, _, hat⟩ := SliceP.at h
  cases e
  have HAT := Lib.hid hat
  clear hb1 hw1 hr1 hm1 hm2 hat q0 q1 hg2 h
  obtain ⟨i0, hi, hz0, hz1, hz2⟩ := info_parts infoAttr
  have HI := Lib.hid hi
  clear hi
  generalize ((w.alloc (.cells #[.string ⟨name.toArray⟩, .slice a xs.length c] 24)).alloc (.cells #[.string ⟨#[]⟩, .slice none 0 0] 24)).alloc (.cells #[.string ⟨name.toArray⟩, .slice none 0 0] 24) = w0 at *
  go_loopw [11] (fun i wr => ∃ (k : Nat) (v : Value), k ≤ xs.length ∧ i = .int .i64 k ∧ OwnK atK 37 [9] C wr w.heap.size v (xs.take k) ∧ Whole wr (w.heap.size + 2) 24 #[.string ⟨name.toArray⟩, v] ∧ Whole wr w.heap.size 24 #[.string ⟨name.toArray⟩, .slice a xs.length c] ∧ Whole wr (w.heap.size + 1) 24 #[.string ⟨#[]⟩, .slice none 0 0] ∧ Below w.heap.size w wr) (fun i _ => xs.length - (intOf i).toNat)
  case atStart => exact ⟨0, _, Nat.zero_le _, rfl, OwnK.empty _ _ _ _ _ _, ho2, hw2, hr2, hb2⟩
  case round =>
    obtain ⟨k, v, hk, rfl, hown, ho, hw, hr, hb⟩ := hrel
    clear ho2 hw2 hr2 hb2
    obtain ⟨va, vc, rfl⟩ := hown.form
    have q0 := ho.cell 0
    have q1 := ho.cell 1
    have p1 := hw.cell 1
    have tq := ho.thaw 1
    simp only [List.getElem?_toArray, List.getElem?_cons_zero, List.getElem?_cons_succ] at q0 q1 p1
    by_cases hlt : k < xs.length
    · obtain ⟨g, o, rfl, hg, _, hra⟩ := HAT.out k hlt
      obtain ⟨c0, a2, p2, c1, hp2, hu⟩ := AttrAt.parts (AttrAt.call hra hg trivial hb)
      have hvl := (hf.2 _ (List.getElem_mem hlt)).1
      have htk : xs.take k ++ [xs[k]] = xs.take (k + 1) := (List.take_succ_eq_append_getElem hlt).symm
      have hgr : g < wr.heap.size := Nat.lt_of_lt_of_le hg hb.size
      generalize xs[k] = x at *
      obtain ⟨ty, vals⟩ := x
      simp only at c0 c1 hp2 hu hvl
      have hus := hu.strs
      have htl : (xs.take k).length ≤ 1048576 := by rw [List.length_take]; omega
      have i0' : (0 : Int) ≤ (k : Int) := by omega
      have i1 : (k : Int) < (xs.length : Int) := by omega
      have hol := ho.lt
      have hwl := hw.lt
      have hg0 := (grow1 wr (.cells #[] 9)).drew
      have hus1 := hus.call hg0 (Nat.le_refl _)
      have hmd : Own (wr.alloc (.cells #[] 9)).drew wr.heap.size (.slice (some ⟨wr.heap.size, 0, none⟩) 0 0) [] := Own.made0 wr
      clear hra hu hus
      generalize hTL : (xs.take k).length = tl at *
      generalize hL : vals.length = L at *
      go_wp2_with fail
      refine head_begin 19 (fun W => W.cell? ⟨w.heap.size + 2, 1, none⟩ = some (.slice va tl vc) ∧ W.cell? ⟨w.heap.size, 1, none⟩ = some (.slice (some ⟨g, o, none⟩) xs.length c) ∧ W.cell? ⟨g, o + k * 2, none⟩ = some (.string ⟨ty.toArray⟩) ∧ W.cell? ⟨g, o + k * 2 + 1, none⟩ = some (.slice a2 L p2)) (by kernel_rfl) (by kernel_rfl) ⟨q1, p1, c0, c1⟩ (fun hHeld => ?_)
      refine head_take 0 ?_ (by simp only [List.length_cons, List.length_nil]; decide) (by kernel_rfl) (fun _ _ _ h => h) (by rfl) ?_ hHeld ?_
      rotate_left
      · intro W hSw; (try simp only [List.getElem_cons_zero]); (try go_split_ands); go_simp; (try with_reducible rfl)
      (try simp only [List.getElem_cons_zero, Act.put, List.setIfInBounds_toArray, List.set_cons_zero, List.set_cons_succ])
      refine head_take 1 ?_ (by simp only [List.length_cons, List.length_nil]; decide) (by kernel_rfl) (fun _ _ _ h => h) (by rfl) ?_ hHeld ?_
      rotate_left
      · intro W hSw; (try simp only [List.getElem_cons_succ, List.getElem_cons_zero]); (try go_split_ands); go_simp; (try with_reducible rfl)
      (try simp only [List.getElem_cons_succ, List.getElem_cons_zero, Act.put, List.setIfInBounds_toArray, List.set_cons_zero, List.set_cons_succ])
      refine head_take 2 ?_ (by simp only [List.length_cons, List.length_nil]; decide) (by kernel_rfl) (fun _ _ _ h => h) (by rfl) ?_ hHeld ?_
      rotate_left
      · intro W hSw; (try simp only [List.getElem_cons_succ, List.getElem_cons_zero]); (try go_split_ands); go_simp; (try with_reducible rfl)
      (try simp only [List.getElem_cons_succ, List.getElem_cons_zero, Act.put, List.setIfInBounds_toArray, List.set_cons_zero, List.set_cons_succ])
      refine head_take 3 ?_ (by simp only [List.length_cons, List.length_nil]; decide) (by kernel_rfl) (fun _ _ _ h => h) (by rfl) ?_ hHeld ?_
      rotate_left
      · intro W hSw; (try simp only [List.getElem_cons_succ, List.getElem_cons_zero]); (try go_split_ands); go_simp; (try with_reducible rfl)
      (try simp only [List.getElem_cons_succ, List.getElem_cons_zero, Act.put, List.setIfInBounds_toArray, List.set_cons_zero, List.set_cons_succ])
      refine head_take 4 ?_ (by simp only [List.length_cons, List.length_nil]; decide) (by kernel_rfl) (fun _ _ _ h => h) (by rfl) ?_ hHeld ?_
      rotate_left
      · intro W hSw; (try simp only [List.getElem_cons_succ, List.getElem_cons_zero]); (try go_split_ands); go_simp; (try with_reducible rfl)
      (try simp only [List.getElem_cons_succ, List.getElem_cons_zero, Act.put, List.setIfInBounds_toArray, List.set_cons_zero, List.set_cons_succ])
      refine head_take 5 ?_ (by simp only [List.length_cons, List.length_nil]; decide) (by kernel_rfl) (fun _ _ _ h => h) (by rfl) ?_ hHeld ?_
      rotate_left
      · intro W hSw; (try simp only [List.getElem_cons_succ, List.getElem_cons_zero]); (try go_split_ands); go_simp; (try with_reducible rfl)
      (try simp only [List.getElem_cons_succ, List.getElem_cons_zero, Act.put, List.setIfInBounds_toArray, List.set_cons_zero, List.set_cons_succ])
      refine head_take 6 ?_ (by simp only [List.length_cons, List.length_nil]; decide) (by kernel_rfl) (fun _ _ _ h => h) (by rfl) ?_ hHeld ?_
      rotate_left
      · intro W hSw; (try simp only [List.getElem_cons_succ, List.getElem_cons_zero]); (try go_split_ands); go_simp; (try with_reducible rfl)
      (try simp only [List.getElem_cons_succ, List.getElem_cons_zero, Act.put, List.setIfInBounds_toArray, List.set_cons_zero, List.set_cons_succ])
      refine head_take 7 ?_ (by simp only [List.length_cons, List.length_nil]; decide) (by kernel_rfl) (fun _ _ _ h => h) (by rfl) ?_ hHeld ?_
      rotate_left
      · intro W hSw; (try simp only [List.getElem_cons_succ, List.getElem_cons_zero]); (try go_split_ands); go_simp; (try with_reducible rfl)
      (try simp only [List.getElem_cons_succ, List.getElem_cons_zero, Act.put, List.setIfInBounds_toArray, List.set_cons_zero, List.set_cons_succ])
      refine head_take 9 ?_ (by simp only [List.length_cons, List.length_nil]; decide) (by kernel_rfl) (fun _ _ _ h => h) (by rfl) ?_ hHeld ?_
      rotate_left
      · intro W hSw; (try simp only [List.getElem_cons_succ, List.getElem_cons_zero]); (try go_split_ands); go_simp; (try with_reducible rfl)
      (try simp only [List.getElem_cons_succ, List.getElem_cons_zero, Act.put, List.setIfInBounds_toArray, List.set_cons_zero, List.set_cons_succ])
      refine head_take 10 ?_ (by simp only [List.length_cons, List.length_nil]; decide) (by kernel_rfl) (fun _ _ _ h => h) (by rfl) ?_ hHeld ?_
      rotate_left
      · intro W hSw; (try simp only [List.getElem_cons_succ, List.getElem_cons_zero]); (try go_split_ands); go_simp; (try with_reducible rfl)
      (try simp only [List.getElem_cons_succ, List.getElem_cons_zero, Act.put, List.setIfInBounds_toArray, List.set_cons_zero, List.set_cons_succ])
      refine head_take 11 ?_ (by simp only [List.length_cons, List.length_nil]; decide) (by kernel_rfl) (fun _ _ _ h => h) (by rfl) ?_ hHeld ?_
      rotate_left
      · intro W hSw; (try simp only [List.getElem_cons_succ, List.getElem_cons_zero]); (try go_split_ands); go_simp; (try with_reducible rfl)
      (try simp only [List.getElem_cons_succ, List.getElem_cons_zero, Act.put, List.setIfInBounds_toArray, List.set_cons_zero, List.set_cons_succ])
      refine head_take 12 ?_ (by simp only [List.length_cons, List.length_nil]; decide) (by kernel_rfl) (fun _ _ _ h => h) (by rfl) ?_ hHeld ?_
      rotate_left
      · intro W hSw; (try simp only [List.getElem_cons_succ, List.getElem_cons_zero]); (try go_split_ands); go_simp; (try with_reducible rfl)
      (try simp only [List.getElem_cons_succ, List.getElem_cons_zero, Act.put, List.setIfInBounds_toArray, List.set_cons_zero, List.set_cons_succ])
      refine head_take 13 ?_ (by simp only [List.length_cons, List.length_nil]; decide) (by kernel_rfl) (fun _ _ _ h => h) (by rfl) ?_ hHeld ?_
      rotate_left
      · intro W hSw; (try simp only [List.getElem_cons_succ, List.getElem_cons_zero]); (try go_split_ands); go_simp; (try with_reducible rfl)
      (try simp only [List.getElem_cons_succ, List.getElem_cons_zero, Act.put, List.setIfInBounds_toArray, List.set_cons_zero, List.set_cons_succ])
      refine head_take 14 ?_ (by simp only [List.length_cons, List.length_nil]; decide) (by kernel_rfl) (fun _ _ _ h => h) (by rfl) ?_ hHeld ?_
      rotate_left
      · intro W hSw; (try simp only [List.getElem_cons_succ, List.getElem_cons_zero]); (try go_split_ands); go_simp; (try with_reducible rfl)
      (try simp only [List.getElem_cons_succ, List.getElem_cons_zero, Act.put, List.setIfInBounds_toArray, List.set_cons_zero, List.set_cons_succ])
      refine head_step 8 (by simp only [List.length_cons, List.length_nil]; decide) (by kernel_rfl) (fun K hK => ?_)
      (try simp only [List.getElem_cons_succ, List.getElem_cons_zero])
      refine if_step (by rfl) ?_
      go_simp
      refine hK.out _ _ ?_ (fun hHeld => ?_)
      · exact ⟨keepC q1 hg0, keepC p1 hg0, keepC c0 hg0, keepC c1 hg0⟩
      clear hK K
      (try simp only [List.getElem_cons_succ, List.getElem_cons_zero, Act.put, List.setIfInBounds_toArray, List.set_cons_zero, List.set_cons_succ])
      refine head_step 15 (by simp only [List.length_cons, List.length_nil]; decide) (by kernel_rfl) (fun K hK => ?_)
      (try simp only [List.getElem_cons_succ, List.getElem_cons_zero])
      refine if_step (by rfl) ?_
      refine wp_strs _ _ (by rfl) wr.heap.size _ [] (by rfl) hmd _ vals (by rfl) hus1 (by simp; omega) hg0.size ?_
      intro v1 w1 hown1 hb1
      have hown1 := Own.nilOf hown1
      have hbw : Below wr.heap.size wr w1 := hg0.trans hb1
      have hty := hown1.typed (Ts := [9]) (B := C) (List.mem_singleton.2 rfl)
      obtain ⟨a3, c3, rfl⟩ := Own.form hown1
      rw [hL] at hty ⊢
      refine hK.out _ _ ?_ (fun hHeld => ?_)
      · exact ⟨keepC q1 hbw, keepC p1 hbw, keepC c0 hbw, keepC c1 hbw⟩
      clear hK K
      (try simp only [Act.put, List.setIfInBounds_toArray, List.set_cons_zero, List.set_cons_succ])
      refine head_take 16 ?_ (by simp only [List.length_cons, List.length_nil]; decide) (by kernel_rfl) (fun _ _ _ h => h) (by rfl) ?_ hHeld ?_
      rotate_left
      · intro W hSw; (try simp only [List.getElem_cons_succ, List.getElem_cons_zero]); (try go_split_ands); go_simp; (try with_reducible rfl)
      (try simp only [List.getElem_cons_succ, List.getElem_cons_zero, Act.put, List.setIfInBounds_toArray, List.set_cons_zero, List.set_cons_succ])
      refine head_step 17 (by simp only [List.length_cons, List.length_nil]; decide) (by kernel_rfl) (fun K hK => ?_)
      (try simp only [List.getElem_cons_succ, List.getElem_cons_zero])
      refine if_step (by rfl) ?_
      go_simp
      have hgA := grow1 w1 (.cells #[.string ⟨ty.toArray⟩, .slice a3 L c3] 37)
      have hwA := Whole.made w1 37 #[.string ⟨ty.toArray⟩, .slice a3 L c3]
      have hbA := hbw.trans (hgA.mono hbw.size)
      have hownA := hown.call hbA
      have hoA := ho.call hbA
      have hwwA := hw.call hbA
      have hrA := hr.call hbA
      have htyA := StrsP.callT hty hgA
      have b0 := hwA.cell 0
      have b1 := hwA.cell 1
      simp only [List.getElem?_toArray, List.getElem?_cons_zero, List.getElem?_cons_succ] at b0 b1
      refine hK.out _ _ ?_ (fun hHeld => ?_)
      · exact ⟨keepC q1 hbA, keepC p1 hbA, keepC c0 hbA, keepC c1 hbA⟩
      clear hK K
      (try simp only [List.getElem_cons_succ, List.getElem_cons_zero, Act.put, List.setIfInBounds_toArray, List.set_cons_zero, List.set_cons_succ])
      refine head_step 18 (by simp only [List.length_cons, List.length_nil]; decide) (by kernel_rfl) (fun K hK => ?_)
      (try simp only [List.getElem_cons_succ, List.getElem_cons_zero])
      refine if_step (by rfl) ?_
      refine wp_k atK 37 22 [9] (by decide) Tryz.underlying22 HI.out hz0 hz1 hz2 (by rfl) _ _ (by rfl) w.heap.size hC _ (xs.take k) (by rfl) hownA w1.heap.size (by rfl) ⟨ty, vals⟩ _ b0 b1 htyA (by omega) (Nat.le_trans hb.size (Nat.le_trans hbw.size hgA.size)) ?_
      intro v2 w2 hown2 hb2 hgw2
      have ho2 := hoA.grown hownA (by decide) hgw2
      have hw2 := hwwA.grown hownA (by decide) hgw2
      have hr2 := hrA.grown hownA (by decide) hgw2
      have z0 := ho2.cell 1
      have z1 := hw2.cell 1
      simp only [List.getElem?_toArray, List.getElem?_cons_zero, List.getElem?_cons_succ] at z0 z1
      refine hK.out _ _ ?_ (fun hHeld => ?_)
      · exact ⟨z0, z1, (hb2.cell (p := ⟨g, o + k * 2, none⟩) hg).trans (keepC c0 hbA), (hb2.cell (p := ⟨g, o + k * 2 + 1, none⟩) hg).trans (keepC c1 hbA)⟩
      clear hK K
      (try simp only [Act.put, List.setIfInBounds_toArray, List.set_cons_zero, List.set_cons_succ])
      refine head_end (by kernel_rfl) ?_
      simp only [List.drop_succ_cons, List.drop_zero]

      rw [htk] at hown2
      obtain ⟨va2, vc2, rfl⟩ := hown2.form
      have tq2 := ho2.thaw 1
      have hoF := ho2.put 1 (.slice va2 (xs.take (k + 1)).length vc2)
      have hownF := hown2.other ho2 (Nat.le_trans hC (Nat.le_add_right _ 2)) (by decide) (by decide) 1 (.slice va2 (xs.take (k + 1)).length vc2)
      have hwF := hw2.other (p := ⟨w.heap.size + 2, 1, none⟩) (by show w.heap.size ≠ w.heap.size + 2; omega) (.slice va2 (xs.take (k + 1)).length vc2)
      have hrF := hr2.other (p := ⟨w.heap.size + 2, 1, none⟩) (by show w.heap.size + 1 ≠ w.heap.size + 2; omega) (.slice va2 (xs.take (k + 1)).length vc2)
      have hbF := ((hb.trans (hbA.mono hb.size)).trans hb2).setCell (p := ⟨w.heap.size + 2, 1, none⟩) (by show w.heap.size ≤ w.heap.size + 2; omega) (.slice va2 (xs.take (k + 1)).length vc2)
      simp only [List.setIfInBounds_toArray, List.set_cons_succ, List.set_cons_zero] at hoF
      generalize (xs.take (k + 1)).length = N1 at *
      clear hHeld hown2 hownA hoA hwwA hrA htyA hgw2
      go_wp2_with fail
      go_roundw
      case rel => exact ⟨k + 1, _, by omega, by go_num, hownF, hoF, hwF, hrF, hbF⟩
      case measure => simp [intOf]; omega
    · have hkl : k = xs.length := by omega
      subst hkl
      simp only [List.take_length] at hown q1 ho
      have r0 := hr.cell 0
      have r1 := hr.cell 1
      have s0 := hr.thaw 0
      have s1 := hr.thaw 1
      simp only [List.getElem?_toArray, List.getElem?_cons_zero, List.getElem?_cons_succ] at r0 r1
      have hA := hr.put 0 (.string ⟨name.toArray⟩)
      have hoA := hown.other hr (Nat.le_trans hC (Nat.le_add_right _ 1)) (by decide) (by decide) 0 (.string ⟨name.toArray⟩)
      simp only [List.setIfInBounds_toArray, List.set_cons_zero] at hA
      have hB := hA.put 1 (.slice va xs.length vc)
      have hoB := hoA.other hA (Nat.le_trans hC (Nat.le_add_right _ 1)) (by decide) (by decide) 1 (.slice va xs.length vc)
      simp only [List.setIfInBounds_toArray, List.set_cons_succ, List.set_cons_zero] at hB
      have hbB : Below w.heap.size w ((wr.setCell ⟨w.heap.size + 1, 0, none⟩ (.string ⟨name.toArray⟩)).setCell ⟨w.heap.size + 1, 1, none⟩ (.slice va xs.length vc)) := (hb.setCell (p := ⟨w.heap.size + 1, 0, none⟩) (by show w.heap.size ≤ w.heap.size + 1; omega) _).setCell (p := ⟨w.heap.size + 1, 1, none⟩) (by show w.heap.size ≤ w.heap.size + 1; omega) _
      have y0 := hB.cell 0
      have y1 := hB.cell 1
      simp only [List.getElem?_toArray, List.getElem?_cons_zero, List.getElem?_cons_succ] at y0 y1
      go_wp2_with fail
      (try simp only [Exit.inBlock, Exit.then])
      refine bodyPost_ret (v := .agg #[.string ⟨name.toArray⟩, .slice va xs.length vc]) ?_ rfl ⟨_, rfl, hoB, hbB⟩
      clear hA hoA hB hoB hbB hown hw hr hb
      generalize (wr.setCell ⟨w.heap.size + 1, 0, none⟩ (.string ⟨name.toArray⟩)).setCell ⟨w.heap.size + 1, 1, none⟩ (.slice va xs.length vc) = wf at *
      rw [results_cell1 rfl]
      go_simp
end Go.Proofs.YtmnhgbkdahdoiaaGreatDoor
