/- The walks of the law's Theirs and Ours: a filter, copied. Conditions: as stated. -/
import Derived.Test.YtjmfknfponjgkaaGreatDoorJFip
import Derived.Test.YtjmfknfponjgkaaGreatDoorJFif
import Derived.Test.YtjmfknfponjgkaaGreatDoorJCqa
set_option maxRecDepth 100000
set_option maxHeartbeats 16000000
namespace Go.Proofs.YtjmfknfponjgkaaGreatDoor
open Go.RowKit
open FiS (Fi)
attribute [local go_sem ↓] Go.wp_at_zero Go.wp_at_succ
theorem wp_strs_g {w : World} {o : Oper} {a : Act} {K : Act -> World -> Prop} {Q : Exit -> Act -> World -> Prop} (s x : Operand)
  (ho : o.op = .call { callee := .builtin .append, args := #[s, x], argTypes := #[22, 22] })
  (B : Nat) (v : Value) (xs : List (List UInt8)) (hs : a.eval s = v) (hown : Own w B v xs) (u : Value) (ys : List (List UInt8)) (hx : a.eval x = u) (hin : StrsIn w u ys)
  (hn : xs.length + ys.length <= 1000000000) (hB : B <= w.heap.size)
  (h : ∀ v' w', Own w' B v' (xs ++ ys) -> Below B w w' -> w.grownBy w' v.ownBlock -> K (a.put o.dst v') w') : Oper.wp Tryz.prog o a w K Q := by
 obtain ⟨A, c, rfl, hc, hcase⟩ := hin
 obtain ⟨i0, hi, hz0, hz1, hz2⟩ := info_parts infoStr
 cases A with
 | none =>
  rcases hcase with rfl | ⟨g, o, e, _⟩
  · have hrun := append_nil_run o.type hown c
    unfold Oper.wp
    simp [execOp, ho, resolve, invoke, builtin, hs, hx, hrun, Result.andThen]
    exact h v w (by rw [List.append_nil]; exact hown) (Below.refl B w) ⟨rfl, rfl, rfl, Nat.le_refl _, fun _ _ _ => rfl⟩
  · cases e
 | some ad =>
  refine wp_append_own w s x _ ho B 9 i0 (.string ⟨#[]⟩) 1 16 Tryz.underlying22 hi hz0 hz1 hz2 rfl (by decide) v xs.length (xs.map strV) hs hown ad ys.length c (ys.map strV) hx (by simp)
   (fun j y hj => ?_) (fun y hy => ?_) (by unfold maxLen; omega) (by omega) hB (fun v' w' h1 h2 _ => h v' w' ?_ ?_ h2)
  · rcases hcase with rfl | ⟨g, o, e, hg, hcell⟩
    · simp at hj
    · cases e
      rw [List.getElem?_map] at hj
      obtain ⟨t, ht, rfl⟩ := Option.map_eq_some_iff.1 hj
      have hadd : (⟨g, o, Option.none⟩ : Addr).add j = ⟨g, o + j, Option.none⟩ := by unfold Addr.add; split <;> simp_all
      rw [hadd]
      exact hcell j t ht
  · obtain ⟨t, _, rfl⟩ := List.mem_map.1 hy
    rfl
  · unfold Own
    rw [List.map_append, List.length_append]
    exact h1
  · exact (Below.refl B w).grown h2 hB (fun k hk => (World.ownsRow.lt hown k hk).1)
theorem Own.apartG {w : World} {B tb : Nat} {v : Value} {xs : List (List UInt8)} {T : TypeId} {cs : Array Value} (h : Own w B v xs) (hw : Whole w tb T cs) (hT : T ≠ 9) : v.ownBlock ≠ some tb := fun e => by
 obtain ⟨c, fz, h2⟩ := Lib.ownsRow_kind h tb e
 unfold Whole at hw
 rw [hw] at h2
 cases h2
 exact hT rfl
theorem Whole.grownO {w w' : World} {B tb : Nat} {v : Value} {xs : List (List UInt8)} {T : TypeId} {cs : Array Value} (h : Whole w tb T cs) (ho : Own w B v xs) (hT : T ≠ 9) (hg : w.grownBy w' v.ownBlock) : Whole w' tb T cs :=
 (hg.block tb h.lt (fun e => Own.apartG ho h hT e.symm)).trans h
def TheirsC (n : Nat) : Prop := ∀ (x : Fi) (v : Value) (w : World), FiIn n w v x -> FiS.wdF 20000 x -> Calls Tryz.prog 11 #[v] w fun e w' => ∃ v', e = .returned v' /\ FiV (n + 1) (fun g => w.heap.size <= g) w' v' x /\ Below w.heap.size w w'
theorem fltheirs_c : ∀ n, TheirsC n := deep_ind (fun n IH => by
 unfold TheirsC at *
 intro x v w h hwd
 obtain ⟨kd, at0, vl, fs, ls, an, ps⟩ := x
 obtain ⟨a5, c5, a6, c6, hv, hss, hc6, hps⟩ := FiV.parts h
 have hv : v = .agg #[.int .i64 kd, .string ⟨at0.toArray⟩, .string ⟨vl.toArray⟩, .string ⟨fs.toArray⟩, .string ⟨ls.toArray⟩, .slice a5 an.length c5, .slice a6 ps.length c6] := hv
 subst hv
 have hss : StrsIn w (.slice a5 an.length c5) an := hss
 have hc6 : ps.length <= c6 := hc6
 have hps : FisP n (fun _ => True) w (.slice a6 ps.length c6) ps := hps
 rw [FiS.wdF] at hwd
 obtain ⟨_, hal, _, hpl, hwl⟩ := hwd
 have HWD := hZ9 (FiS.wdL_iff.1 hwl)
 clear hwl
 have HTK := hZ9 (fun j (hj : j < ps.length) => List.take_succ_eq_append_getElem hj)
 have HALL : Hid (ps.take ps.length = ps) := hZ9 (List.take_length)
 obtain ⟨AL, hAL⟩ : ∃ m, an.length = m := ⟨_, rfl⟩
 obtain ⟨PL, hPL⟩ : ∃ m, ps.length = m := ⟨_, rfl⟩
 have HAL := hZ9 hAL
 have HPL := hZ9 hPL
 rw [hAL] at hss
 rw [hPL] at hc6 hps
 try rw [hAL]
 try rw [hPL]
 rw [hPL] at HALL hpl
 rw [hAL] at hal
 have HAT := hZ9 (fun j (hj : j < ps.length) => FisP.at hps j hj)
 have hg0 := grow1 w (.cells #[.int .i64 kd, .string ⟨at0.toArray⟩, .string ⟨vl.toArray⟩, .string ⟨fs.toArray⟩, .string ⟨ls.toArray⟩, .slice a5 AL c5, .slice a6 PL c6] 25)
 have hg1 := grow1 (w.alloc (.cells #[.int .i64 kd, .string ⟨at0.toArray⟩, .string ⟨vl.toArray⟩, .string ⟨fs.toArray⟩, .string ⟨ls.toArray⟩, .slice a5 AL c5, .slice a6 PL c6] 25)) (.cells #[.int .i64 0, .string ⟨#[]⟩, .string ⟨#[]⟩, .string ⟨#[]⟩, .string ⟨#[]⟩, .slice none 0 0, .slice none 0 0] 33)
 have e1 : (w.alloc (.cells #[.int .i64 kd, .string ⟨at0.toArray⟩, .string ⟨vl.toArray⟩, .string ⟨fs.toArray⟩, .string ⟨ls.toArray⟩, .slice a5 AL c5, .slice a6 PL c6] 25)).heap.size = w.heap.size + 1 := by simp
 have hz1 := hg0.trans (hg1.mono (by rw [e1]; omega))
 have hwa := (Whole.made w 25 #[.int .i64 kd, .string ⟨at0.toArray⟩, .string ⟨vl.toArray⟩, .string ⟨fs.toArray⟩, .string ⟨ls.toArray⟩, .slice a5 AL c5, .slice a6 PL c6]).call hg1
 have hwz : Whole ((w.alloc (.cells #[.int .i64 kd, .string ⟨at0.toArray⟩, .string ⟨vl.toArray⟩, .string ⟨fs.toArray⟩, .string ⟨ls.toArray⟩, .slice a5 AL c5, .slice a6 PL c6] 25)).alloc (.cells #[.int .i64 0, .string ⟨#[]⟩, .string ⟨#[]⟩, .string ⟨#[]⟩, .string ⟨#[]⟩, .slice none 0 0, .slice none 0 0] 33)) (w.heap.size + 1) 33 #[.int .i64 0, .string ⟨#[]⟩, .string ⟨#[]⟩, .string ⟨#[]⟩, .string ⟨#[]⟩, .slice none 0 0, .slice none 0 0] := by
  have := Whole.made (w.alloc (.cells #[.int .i64 kd, .string ⟨at0.toArray⟩, .string ⟨vl.toArray⟩, .string ⟨fs.toArray⟩, .string ⟨ls.toArray⟩, .slice a5 AL c5, .slice a6 PL c6] 25)) 33 #[.int .i64 0, .string ⟨#[]⟩, .string ⟨#[]⟩, .string ⟨#[]⟩, .string ⟨#[]⟩, .slice none 0 0, .slice none 0 0]
  rwa [e1] at this
 have hss1 := hss.call (w' := (w.alloc (.cells #[.int .i64 kd, .string ⟨at0.toArray⟩, .string ⟨vl.toArray⟩, .string ⟨fs.toArray⟩, .string ⟨ls.toArray⟩, .slice a5 AL c5, .slice a6 PL c6] 25)).alloc (.cells #[.int .i64 0, .string ⟨#[]⟩, .string ⟨#[]⟩, .string ⟨#[]⟩, .string ⟨#[]⟩, .slice none 0 0, .slice none 0 0] 33)) hz1 (Nat.le_refl _)
 have hlz := hwz.lt
 clear h hss hps hg0 hg1 e1 hc6
 go_enter Tryz.func11, Tryz.ntmps11
 go_upto_region 1 with fail
 generalize (w.alloc (.cells #[.int .i64 kd, .string ⟨at0.toArray⟩, .string ⟨vl.toArray⟩, .string ⟨fs.toArray⟩, .string ⟨ls.toArray⟩, .slice a5 AL c5, .slice a6 PL c6] 25)).alloc (.cells #[.int .i64 0, .string ⟨#[]⟩, .string ⟨#[]⟩, .string ⟨#[]⟩, .string ⟨#[]⟩, .slice none 0 0, .slice none 0 0] 33) = w1 at *
 go_cut [3] (fun p wd => ∃ (tb : Nat) (sa : Option Addr) (sc : Nat), p = .pointer (some ⟨tb, 0, none⟩) /\ w.heap.size + 2 <= tb /\ Whole wd tb 33 #[.int .i64 kd, .string ⟨at0.toArray⟩, .string ⟨vl.toArray⟩, .string ⟨fs.toArray⟩, .string ⟨ls.toArray⟩, .slice sa AL sc, .slice none 0 0] /\ StrsP (fun g => w.heap.size + 2 <= g /\ g ≠ tb) wd (.slice sa AL sc) an /\ Whole wd w.heap.size 25 #[.int .i64 kd, .string ⟨at0.toArray⟩, .string ⟨vl.toArray⟩, .string ⟨fs.toArray⟩, .string ⟨ls.toArray⟩, .slice a5 AL c5, .slice a6 PL c6] /\ Whole wd (w.heap.size + 1) 33 #[.int .i64 0, .string ⟨#[]⟩, .string ⟨#[]⟩, .string ⟨#[]⟩, .string ⟨#[]⟩, .slice none 0 0, .slice none 0 0] /\ Below w.heap.size w wd)
 case first =>
  obtain ⟨q0, q1, q2, q3, q4, q5, q6⟩ := hwa.seven
  have hbs := build0
  have hbX : Below w1.heap.size w1 w1.drew := (Below.refl _ _).drew
  go_wp2_with fail
  refine head_begin 16 (fun W => W.cell? ⟨w.heap.size, 0, none⟩ = some (.int .i64 kd) /\ W.cell? ⟨w.heap.size, 1, none⟩ = some (.string ⟨at0.toArray⟩) /\ W.cell? ⟨w.heap.size, 2, none⟩ = some (.string ⟨vl.toArray⟩) /\ W.cell? ⟨w.heap.size, 3, none⟩ = some (.string ⟨fs.toArray⟩) /\ W.cell? ⟨w.heap.size, 4, none⟩ = some (.string ⟨ls.toArray⟩) /\ W.cell? ⟨w.heap.size, 5, none⟩ = some (.slice a5 AL c5)) (by kernel_rfl) (by kernel_rfl) ⟨q0, q1, q2, q3, q4, q5⟩ (fun hHeld => ?_)
  refine head_take 0 ?_ (by simp only [List.length_cons, List.length_nil]; decide) (by kernel_rfl) (fun _ _ _ h => h) (by rfl) ?_ hHeld ?_
  rotate_left
  · intro W hSw; (try simp only [List.getElem_cons_zero]); (try go_split_ands); go_simp; (try with_reducible rfl)
  (try simp only [List.getElem_cons_zero, Act.put, List.setIfInBounds_toArray, List.set_cons_zero, List.set_cons_succ])
  refine head_take 1 ?_ (by simp only [List.length_cons, List.length_nil]; decide) (by kernel_rfl) (fun _ _ _ h => h) (by rfl) ?_ hHeld ?_
  rotate_left
  · intro W hSw; (try simp only [List.getElem_cons_succ, List.getElem_cons_zero]); (try go_split_ands); go_simp; (try with_reducible rfl)
  (try simp only [List.getElem_cons_succ, List.getElem_cons_zero, Act.put, List.setIfInBounds_toArray, List.set_cons_zero, List.set_cons_succ])
  refine head_take 2 ?_ (by simp only [List.length_cons, List.length_nil]; decide) (by kernel_rfl) (fun _ _ _ h => h) (by rfl) ?_ hHeld ?_
  rotate_left
  · intro W hSw; (try simp only [List.getElem_cons_succ, List.getElem_cons_zero]); (try go_split_ands); go_simp; (try with_reducible rfl)
  (try simp only [List.getElem_cons_succ, List.getElem_cons_zero, Act.put, List.setIfInBounds_toArray, List.set_cons_zero, List.set_cons_succ])
  refine head_take 3 ?_ (by simp only [List.length_cons, List.length_nil]; decide) (by kernel_rfl) (fun _ _ _ h => h) (by rfl) ?_ hHeld ?_
  rotate_left
  · intro W hSw; (try simp only [List.getElem_cons_succ, List.getElem_cons_zero]); (try go_split_ands); go_simp; (try with_reducible rfl)
  (try simp only [List.getElem_cons_succ, List.getElem_cons_zero, Act.put, List.setIfInBounds_toArray, List.set_cons_zero, List.set_cons_succ])
  refine head_take 4 ?_ (by simp only [List.length_cons, List.length_nil]; decide) (by kernel_rfl) (fun _ _ _ h => h) (by rfl) ?_ hHeld ?_
  rotate_left
  · intro W hSw; (try simp only [List.getElem_cons_succ, List.getElem_cons_zero]); (try go_split_ands); go_simp; (try with_reducible rfl)
  (try simp only [List.getElem_cons_succ, List.getElem_cons_zero, Act.put, List.setIfInBounds_toArray, List.set_cons_zero, List.set_cons_succ])
  refine head_take 5 ?_ (by simp only [List.length_cons, List.length_nil]; decide) (by kernel_rfl) (fun _ _ _ h => h) (by rfl) ?_ hHeld ?_
  rotate_left
  · intro W hSw; (try simp only [List.getElem_cons_succ, List.getElem_cons_zero]); (try go_split_ands); go_simp; (try with_reducible rfl)
  (try simp only [List.getElem_cons_succ, List.getElem_cons_zero, Act.put, List.setIfInBounds_toArray, List.set_cons_zero, List.set_cons_succ])
  refine head_take 6 ?_ (by simp only [List.length_cons, List.length_nil]; decide) (by kernel_rfl) (fun _ _ _ h => h) (by rfl) ?_ hHeld ?_
  rotate_left
  · intro W hSw; (try simp only [List.getElem_cons_succ, List.getElem_cons_zero]); (try go_split_ands); go_simp; (try with_reducible rfl)
  (try simp only [List.getElem_cons_succ, List.getElem_cons_zero, Act.put, List.setIfInBounds_toArray, List.set_cons_zero, List.set_cons_succ])
  refine head_take 7 ?_ (by simp only [List.length_cons, List.length_nil]; decide) (by kernel_rfl) (fun _ _ _ h => h) (by rfl) ?_ hHeld ?_
  rotate_left
  · intro W hSw; (try simp only [List.getElem_cons_succ, List.getElem_cons_zero]); (try go_split_ands); go_simp; (try with_reducible rfl)
  (try simp only [List.getElem_cons_succ, List.getElem_cons_zero, Act.put, List.setIfInBounds_toArray, List.set_cons_zero, List.set_cons_succ])
  refine head_take 8 ?_ (by simp only [List.length_cons, List.length_nil]; decide) (by kernel_rfl) (fun _ _ _ h => h) (by rfl) ?_ hHeld ?_
  rotate_left
  · intro W hSw; (try simp only [List.getElem_cons_succ, List.getElem_cons_zero]); (try go_split_ands); go_simp; (try with_reducible rfl)
  (try simp only [List.getElem_cons_succ, List.getElem_cons_zero, Act.put, List.setIfInBounds_toArray, List.set_cons_zero, List.set_cons_succ])
  refine head_take 9 ?_ (by simp only [List.length_cons, List.length_nil]; decide) (by kernel_rfl) (fun _ _ _ h => h) (by rfl) ?_ hHeld ?_
  rotate_left
  · intro W hSw; (try simp only [List.getElem_cons_succ, List.getElem_cons_zero]); (try go_split_ands); go_simp; (try with_reducible rfl)
  (try simp only [List.getElem_cons_succ, List.getElem_cons_zero, Act.put, List.setIfInBounds_toArray, List.set_cons_zero, List.set_cons_succ])
  refine head_take 11 ?_ (by simp only [List.length_cons, List.length_nil]; decide) (by kernel_rfl) (fun _ _ _ h => h) (by rfl) ?_ hHeld ?_
  rotate_left
  · intro W hSw; (try simp only [List.getElem_cons_succ, List.getElem_cons_zero]); (try go_split_ands); go_simp; (try with_reducible rfl)
  (try simp only [List.getElem_cons_succ, List.getElem_cons_zero, Act.put, List.setIfInBounds_toArray, List.set_cons_zero, List.set_cons_succ])
  refine head_take 12 ?_ (by simp only [List.length_cons, List.length_nil]; decide) (by kernel_rfl) (fun _ _ _ h => h) (by rfl) ?_ hHeld ?_
  rotate_left
  · intro W hSw; (try simp only [List.getElem_cons_succ, List.getElem_cons_zero]); (try go_split_ands); go_simp; (try with_reducible rfl)
  (try simp only [List.getElem_cons_succ, List.getElem_cons_zero, Act.put, List.setIfInBounds_toArray, List.set_cons_zero, List.set_cons_succ])
  refine head_two 10 15 (by simp only [List.length_cons, List.length_nil]; decide) (by simp only [List.length_cons, List.length_nil]; decide) (by kernel_rfl) (fun K hK => ?_) (fun K hK => ?_)
  · (try simp only [List.getElem_cons_succ, List.getElem_cons_zero])
    refine if_step (by rfl) ?_
    go_simp
    have hown : Own (((w1).alloc (.cells #[] 9))).drew w1.heap.size (.slice (some ⟨w1.heap.size, 0, none⟩) 0 0) [] := by
     have := (Own.made0 (w1)).mono (show w1.heap.size <= (w1).heap.size by exact Nat.le_refl _)
     exact (by simpa using this : Own (((w1).alloc (.cells #[] 9))) w1.heap.size (.slice (some ⟨w1.heap.size, 0, none⟩) 0 0) [])
    replace hbX : Below w1.heap.size w1 (((w1).alloc (.cells #[] 9))).drew := ((Below.refl _ _ : Below w1.heap.size w1 (w1)).trans ((grow1 w1 _).mono (by exact Nat.le_refl _))).drew
    refine hK.out _ _ ?_ (fun hHeld => ?_)
    · exact ⟨keepC q0 hbX, keepC q1 hbX, keepC q2 hbX, keepC q3 hbX, keepC q4 hbX, keepC q5 hbX⟩
    clear hK K
    (try simp only [List.getElem_cons_succ, List.getElem_cons_zero, Act.put, List.setIfInBounds_toArray, List.set_cons_zero, List.set_cons_succ])
    refine head_two 13 15 (by simp only [List.length_cons, List.length_nil]; decide) (by simp only [List.length_cons, List.length_nil]; decide) (by kernel_rfl) (fun K hK => ?_) (fun K hK => ?_)
    · (try simp only [List.getElem_cons_succ, List.getElem_cons_zero])
      refine if_step (by rfl) ?_
      have hssX := hss1.call hbX (Nat.le_refl _)
      have hszX := hbX.size
      refine wp_strs_g _ _ (by rfl) w1.heap.size _ [] (by rfl) hown _ an (by rfl) hssX (by simp; omega) hszX ?_
      intro v1 w3 hown1 hb1 hgr1
      replace hown1 := Own.nilOf hown1
      replace hbX := hbX.trans hb1
      obtain ⟨sa, sc, rfl⟩ := Own.form hown1
      rw [hAL] at hown1
      try rw [hAL]
      clear hown hgr1
      refine hK.out _ _ ?_ (fun hHeld => ?_)
      · exact ⟨keepC q0 hbX, keepC q1 hbX, keepC q2 hbX, keepC q3 hbX, keepC q4 hbX, keepC q5 hbX⟩
      clear hK K
      (try simp only [Act.put, List.setIfInBounds_toArray, List.set_cons_zero, List.set_cons_succ])
      refine head_take 14 ?_ (by simp only [List.length_cons, List.length_nil]; decide) (by kernel_rfl) (fun _ _ _ h => h) (by rfl) ?_ hHeld ?_
      rotate_left
      · intro W hSw; (try simp only [List.getElem_cons_succ, List.getElem_cons_zero]); (try go_split_ands); go_simp; (try with_reducible rfl)
      (try simp only [List.getElem_cons_succ, List.getElem_cons_zero, Act.put, List.setIfInBounds_toArray, List.set_cons_zero, List.set_cons_succ])
      refine head_step 15 (by simp only [List.length_cons, List.length_nil]; decide) (by kernel_rfl) (fun K hK => ?_)
      (try simp only [List.getElem_cons_succ, List.getElem_cons_zero])
      refine if_step (by rfl) ?_
      go_simp
      have hwt : Whole (w3.alloc (.cells #[.int .i64 0, .string ⟨#[]⟩, .string ⟨#[]⟩, .string ⟨#[]⟩, .string ⟨#[]⟩, .slice none 0 0, .slice none 0 0] 33)) w3.heap.size 33 #[.int .i64 0, .string ⟨#[]⟩, .string ⟨#[]⟩, .string ⟨#[]⟩, .string ⟨#[]⟩, .slice none 0 0, .slice none 0 0] := Whole.made w3 33 #[.int .i64 0, .string ⟨#[]⟩, .string ⟨#[]⟩, .string ⟨#[]⟩, .string ⟨#[]⟩, .slice none 0 0, .slice none 0 0]
      have htb0 : w1.heap.size <= w3.heap.size := hbX.size
      replace hown1 := hown1.alloc (.cells #[.int .i64 0, .string ⟨#[]⟩, .string ⟨#[]⟩, .string ⟨#[]⟩, .string ⟨#[]⟩, .slice none 0 0, .slice none 0 0] 33)
      replace hbX := hbX.trans ((grow1 w3 (.cells #[.int .i64 0, .string ⟨#[]⟩, .string ⟨#[]⟩, .string ⟨#[]⟩, .string ⟨#[]⟩, .slice none 0 0, .slice none 0 0] 33)).mono hbX.size)
      obtain ⟨tb, htbe⟩ : ∃ b, b = w3.heap.size := ⟨_, rfl⟩
      have htb : w1.heap.size <= tb := by omega
      rw [<- htbe] at hwt
      try rw [<- htbe]
      clear htbe htb0
      refine hK.out _ _ ?_ (fun hHeld => ?_)
      · exact ⟨keepC q0 hbX, keepC q1 hbX, keepC q2 hbX, keepC q3 hbX, keepC q4 hbX, keepC q5 hbX⟩
      clear hK K
      (try simp only [List.getElem_cons_succ, List.getElem_cons_zero, Act.put, List.setIfInBounds_toArray, List.set_cons_zero, List.set_cons_succ])
      refine head_end (by kernel_rfl) ?_
      simp only [List.drop_succ_cons, List.drop_zero]
      clear hHeld hss1
      generalize w3.alloc (.cells #[.int .i64 0, .string ⟨#[]⟩, .string ⟨#[]⟩, .string ⟨#[]⟩, .string ⟨#[]⟩, .slice none 0 0, .slice none 0 0] 33) = w4 at *
      obtain ⟨m0, m1, m2, m3, m4, m5, m6⟩ := hwt.seven
      obtain ⟨t0, t1, t2, t3, t4, t5, t6⟩ := hwt.thaws
      have hwa4 := hwa.call hbX
      have hwz4 := hwz.call hbX
      have hlt4 := hwz.lt
      have hst4 : StrsP (fun g => w.heap.size + 2 <= g /\ g ≠ tb) w4 (.slice sa AL sc) an := hown1.strs.strsP _ (fun g hg => ⟨by have := (World.ownsRow.lt hown1 g hg).1; omega, fun e => Own.apartG hown1 hwt (by decide) (by rw [hg, e])⟩)
      have hwt5 := hwt.put7 (.int .i64 kd) (.string ⟨at0.toArray⟩) (.string ⟨vl.toArray⟩) (.string ⟨fs.toArray⟩) (.string ⟨ls.toArray⟩) (.slice sa AL sc) (.slice none 0 0)
      have hwa5 := hwa4.other7 (g := tb) (by omega) (.int .i64 kd) (.string ⟨at0.toArray⟩) (.string ⟨vl.toArray⟩) (.string ⟨fs.toArray⟩) (.string ⟨ls.toArray⟩) (.slice sa AL sc) (.slice none 0 0)
      have hwz5 := hwz4.other7 (g := tb) (by omega) (.int .i64 kd) (.string ⟨at0.toArray⟩) (.string ⟨vl.toArray⟩) (.string ⟨fs.toArray⟩) (.string ⟨ls.toArray⟩) (.slice sa AL sc) (.slice none 0 0)
      have hst5 : StrsP (fun g => w.heap.size + 2 <= g /\ g ≠ tb) (sev w4 tb (.int .i64 kd) (.string ⟨at0.toArray⟩) (.string ⟨vl.toArray⟩) (.string ⟨fs.toArray⟩) (.string ⟨ls.toArray⟩) (.slice sa AL sc) (.slice none 0 0)) (.slice sa AL sc) an := hst4.keep (below_sev (Below.refl tb w4) (Nat.le_refl _) (.int .i64 kd) (.string ⟨at0.toArray⟩) (.string ⟨vl.toArray⟩) (.string ⟨fs.toArray⟩) (.string ⟨ls.toArray⟩) (.slice sa AL sc) (.slice none 0 0)).size (fun g hg hok => by
       have hok : w.heap.size + 2 <= g /\ g ≠ tb := hok
       unfold sev
       rw [Below.heap_setCell _ _ _ _ (by show g ≠ tb; exact hok.2), Below.heap_setCell _ _ _ _ (by show g ≠ tb; exact hok.2), Below.heap_setCell _ _ _ _ (by show g ≠ tb; exact hok.2), Below.heap_setCell _ _ _ _ (by show g ≠ tb; exact hok.2), Below.heap_setCell _ _ _ _ (by show g ≠ tb; exact hok.2), Below.heap_setCell _ _ _ _ (by show g ≠ tb; exact hok.2), Below.heap_setCell _ _ _ _ (by show g ≠ tb; exact hok.2)]) (fun g _ h => h)
      have hb5 := below_sev ((hz1.trans (hbX.mono hz1.size))) (show w.heap.size <= tb by omega) (.int .i64 kd) (.string ⟨at0.toArray⟩) (.string ⟨vl.toArray⟩) (.string ⟨fs.toArray⟩) (.string ⟨ls.toArray⟩) (.slice sa AL sc) (.slice none 0 0)
      unfold sev at hwt5 hwa5 hwz5 hst5 hb5
      have HF := hZ9 (And.intro hwt5 (And.intro hst5 (And.intro hwa5 (And.intro hwz5 hb5))))
      have htb2 : w.heap.size + 2 <= tb := by omega
      clear hwt5 hst5 hwa5 hwz5 hb5 hst4 hwa4 hwz4 hown1
      go_wp2_with fail
      go_meet
      exact ⟨tb, sa, sc, rfl, htb2, HF.out.1, HF.out.2.1, HF.out.2.2.1, HF.out.2.2.2.1, HF.out.2.2.2.2⟩
    · (try simp only [List.getElem_cons_succ, List.getElem_cons_zero])
      refine if_step (by rfl) ?_
      go_simp
      have hwt : Whole (((((w1).alloc (.cells #[] 9))).alloc (.cells #[.int .i64 0, .string ⟨#[]⟩, .string ⟨#[]⟩, .string ⟨#[]⟩, .string ⟨#[]⟩, .slice none 0 0, .slice none 0 0] 33))).drew (w1.heap.size + 1) 33 #[.int .i64 0, .string ⟨#[]⟩, .string ⟨#[]⟩, .string ⟨#[]⟩, .string ⟨#[]⟩, .slice none 0 0, .slice none 0 0] := by
       have := Whole.made (((w1).alloc (.cells #[] 9))) 33 #[.int .i64 0, .string ⟨#[]⟩, .string ⟨#[]⟩, .string ⟨#[]⟩, .string ⟨#[]⟩, .slice none 0 0, .slice none 0 0]
       exact (by simpa using this : Whole (((((w1).alloc (.cells #[] 9))).alloc (.cells #[.int .i64 0, .string ⟨#[]⟩, .string ⟨#[]⟩, .string ⟨#[]⟩, .string ⟨#[]⟩, .slice none 0 0, .slice none 0 0] 33))) (w1.heap.size + 1) 33 #[.int .i64 0, .string ⟨#[]⟩, .string ⟨#[]⟩, .string ⟨#[]⟩, .string ⟨#[]⟩, .slice none 0 0, .slice none 0 0])
      replace hown : Own (((((w1).alloc (.cells #[] 9))).alloc (.cells #[.int .i64 0, .string ⟨#[]⟩, .string ⟨#[]⟩, .string ⟨#[]⟩, .string ⟨#[]⟩, .slice none 0 0, .slice none 0 0] 33))).drew w1.heap.size _ [] := Own.alloc (w := ((w1).alloc (.cells #[] 9))) hown (.cells #[.int .i64 0, .string ⟨#[]⟩, .string ⟨#[]⟩, .string ⟨#[]⟩, .string ⟨#[]⟩, .slice none 0 0, .slice none 0 0] 33)
      replace hbX : Below w1.heap.size w1 (((((w1).alloc (.cells #[] 9))).alloc (.cells #[.int .i64 0, .string ⟨#[]⟩, .string ⟨#[]⟩, .string ⟨#[]⟩, .string ⟨#[]⟩, .slice none 0 0, .slice none 0 0] 33))).drew := (((grow1 w1 _).trans ((grow1 ((w1).alloc (.cells #[] 9)) _).mono (by simp)))).drew
      obtain ⟨tb, htbe⟩ : ∃ b, b = w1.heap.size + 1 := ⟨_, rfl⟩
      have htb : w1.heap.size <= tb := by omega
      rw [<- htbe] at hwt
      try rw [<- htbe]
      clear htbe
      refine hK.out _ _ ?_ (fun hHeld => ?_)
      · exact ⟨keepC q0 hbX, keepC q1 hbX, keepC q2 hbX, keepC q3 hbX, keepC q4 hbX, keepC q5 hbX⟩
      clear hK K
      (try simp only [List.getElem_cons_succ, List.getElem_cons_zero, Act.put, List.setIfInBounds_toArray, List.set_cons_zero, List.set_cons_succ])
      refine head_step 13 (by simp only [List.length_cons, List.length_nil]; decide) (by kernel_rfl) (fun K hK => ?_)
      (try simp only [List.getElem_cons_succ, List.getElem_cons_zero])
      refine if_step (by rfl) ?_
      have hssX := hss1.call hbX (Nat.le_refl _)
      have hszX := hbX.size
      refine wp_strs_g _ _ (by rfl) w1.heap.size _ [] (by rfl) hown _ an (by rfl) hssX (by simp; omega) hszX ?_
      intro v1 w3 hown1 hb1 hgr1
      replace hown1 := Own.nilOf hown1
      replace hwt := hwt.grownO hown (by decide) hgr1
      replace hbX := hbX.trans hb1
      obtain ⟨sa, sc, rfl⟩ := Own.form hown1
      rw [hAL] at hown1
      try rw [hAL]
      clear hown hgr1
      refine hK.out _ _ ?_ (fun hHeld => ?_)
      · exact ⟨keepC q0 hbX, keepC q1 hbX, keepC q2 hbX, keepC q3 hbX, keepC q4 hbX, keepC q5 hbX⟩
      clear hK K
      (try simp only [Act.put, List.setIfInBounds_toArray, List.set_cons_zero, List.set_cons_succ])
      refine head_take 14 ?_ (by simp only [List.length_cons, List.length_nil]; decide) (by kernel_rfl) (fun _ _ _ h => h) (by rfl) ?_ hHeld ?_
      rotate_left
      · intro W hSw; (try simp only [List.getElem_cons_succ, List.getElem_cons_zero]); (try go_split_ands); go_simp; (try with_reducible rfl)
      (try simp only [List.getElem_cons_succ, List.getElem_cons_zero, Act.put, List.setIfInBounds_toArray, List.set_cons_zero, List.set_cons_succ])
      refine head_end (by kernel_rfl) ?_
      simp only [List.drop_succ_cons, List.drop_zero]
      clear hHeld hss1
      obtain ⟨w4, hw4⟩ : ∃ x, x = w3 := ⟨_, rfl⟩
      subst hw4
      obtain ⟨m0, m1, m2, m3, m4, m5, m6⟩ := hwt.seven
      obtain ⟨t0, t1, t2, t3, t4, t5, t6⟩ := hwt.thaws
      have hwa4 := hwa.call hbX
      have hwz4 := hwz.call hbX
      have hlt4 := hwz.lt
      have hst4 : StrsP (fun g => w.heap.size + 2 <= g /\ g ≠ tb) w4 (.slice sa AL sc) an := hown1.strs.strsP _ (fun g hg => ⟨by have := (World.ownsRow.lt hown1 g hg).1; omega, fun e => Own.apartG hown1 hwt (by decide) (by rw [hg, e])⟩)
      have hwt5 := hwt.put7 (.int .i64 kd) (.string ⟨at0.toArray⟩) (.string ⟨vl.toArray⟩) (.string ⟨fs.toArray⟩) (.string ⟨ls.toArray⟩) (.slice sa AL sc) (.slice none 0 0)
      have hwa5 := hwa4.other7 (g := tb) (by omega) (.int .i64 kd) (.string ⟨at0.toArray⟩) (.string ⟨vl.toArray⟩) (.string ⟨fs.toArray⟩) (.string ⟨ls.toArray⟩) (.slice sa AL sc) (.slice none 0 0)
      have hwz5 := hwz4.other7 (g := tb) (by omega) (.int .i64 kd) (.string ⟨at0.toArray⟩) (.string ⟨vl.toArray⟩) (.string ⟨fs.toArray⟩) (.string ⟨ls.toArray⟩) (.slice sa AL sc) (.slice none 0 0)
      have hst5 : StrsP (fun g => w.heap.size + 2 <= g /\ g ≠ tb) (sev w4 tb (.int .i64 kd) (.string ⟨at0.toArray⟩) (.string ⟨vl.toArray⟩) (.string ⟨fs.toArray⟩) (.string ⟨ls.toArray⟩) (.slice sa AL sc) (.slice none 0 0)) (.slice sa AL sc) an := hst4.keep (below_sev (Below.refl tb w4) (Nat.le_refl _) (.int .i64 kd) (.string ⟨at0.toArray⟩) (.string ⟨vl.toArray⟩) (.string ⟨fs.toArray⟩) (.string ⟨ls.toArray⟩) (.slice sa AL sc) (.slice none 0 0)).size (fun g hg hok => by
       have hok : w.heap.size + 2 <= g /\ g ≠ tb := hok
       unfold sev
       rw [Below.heap_setCell _ _ _ _ (by show g ≠ tb; exact hok.2), Below.heap_setCell _ _ _ _ (by show g ≠ tb; exact hok.2), Below.heap_setCell _ _ _ _ (by show g ≠ tb; exact hok.2), Below.heap_setCell _ _ _ _ (by show g ≠ tb; exact hok.2), Below.heap_setCell _ _ _ _ (by show g ≠ tb; exact hok.2), Below.heap_setCell _ _ _ _ (by show g ≠ tb; exact hok.2), Below.heap_setCell _ _ _ _ (by show g ≠ tb; exact hok.2)]) (fun g _ h => h)
      have hb5 := below_sev ((hz1.trans (hbX.mono hz1.size))) (show w.heap.size <= tb by omega) (.int .i64 kd) (.string ⟨at0.toArray⟩) (.string ⟨vl.toArray⟩) (.string ⟨fs.toArray⟩) (.string ⟨ls.toArray⟩) (.slice sa AL sc) (.slice none 0 0)
      unfold sev at hwt5 hwa5 hwz5 hst5 hb5
      have HF := hZ9 (And.intro hwt5 (And.intro hst5 (And.intro hwa5 (And.intro hwz5 hb5))))
      have htb2 : w.heap.size + 2 <= tb := by omega
      clear hwt5 hst5 hwa5 hwz5 hb5 hst4 hwa4 hwz4 hown1
      go_wp2_with fail
      go_meet
      exact ⟨tb, sa, sc, rfl, htb2, HF.out.1, HF.out.2.1, HF.out.2.2.1, HF.out.2.2.2.1, HF.out.2.2.2.2⟩
  · (try simp only [List.getElem_cons_succ, List.getElem_cons_zero])
    refine if_step (by rfl) ?_
    go_simp
    have hwt : Whole (((w1).alloc (.cells #[.int .i64 0, .string ⟨#[]⟩, .string ⟨#[]⟩, .string ⟨#[]⟩, .string ⟨#[]⟩, .slice none 0 0, .slice none 0 0] 33))).drew (w1.heap.size) 33 #[.int .i64 0, .string ⟨#[]⟩, .string ⟨#[]⟩, .string ⟨#[]⟩, .string ⟨#[]⟩, .slice none 0 0, .slice none 0 0] := by
     have := Whole.made (w1) 33 #[.int .i64 0, .string ⟨#[]⟩, .string ⟨#[]⟩, .string ⟨#[]⟩, .string ⟨#[]⟩, .slice none 0 0, .slice none 0 0]
     exact (by simpa using this : Whole (((w1).alloc (.cells #[.int .i64 0, .string ⟨#[]⟩, .string ⟨#[]⟩, .string ⟨#[]⟩, .string ⟨#[]⟩, .slice none 0 0, .slice none 0 0] 33))) (w1.heap.size) 33 #[.int .i64 0, .string ⟨#[]⟩, .string ⟨#[]⟩, .string ⟨#[]⟩, .string ⟨#[]⟩, .slice none 0 0, .slice none 0 0])
    have hbY : Below w1.heap.size w1 (((w1).alloc (.cells #[.int .i64 0, .string ⟨#[]⟩, .string ⟨#[]⟩, .string ⟨#[]⟩, .string ⟨#[]⟩, .slice none 0 0, .slice none 0 0] 33))) := grow1 w1 _
    replace hbX : Below w1.heap.size w1 (((w1).alloc (.cells #[.int .i64 0, .string ⟨#[]⟩, .string ⟨#[]⟩, .string ⟨#[]⟩, .string ⟨#[]⟩, .slice none 0 0, .slice none 0 0] 33))).drew := hbY.drew
    obtain ⟨tb, htbe⟩ : ∃ b, b = w1.heap.size := ⟨_, rfl⟩
    have htb : w1.heap.size <= tb := by omega
    rw [<- htbe] at hwt
    try rw [<- htbe]
    clear htbe
    refine hK.out _ _ ?_ (fun hHeld => ?_)
    · exact ⟨keepC q0 hbX, keepC q1 hbX, keepC q2 hbX, keepC q3 hbX, keepC q4 hbX, keepC q5 hbX⟩
    clear hK K
    (try simp only [List.getElem_cons_succ, List.getElem_cons_zero, Act.put, List.setIfInBounds_toArray, List.set_cons_zero, List.set_cons_succ])
    refine head_step 10 (by simp only [List.length_cons, List.length_nil]; decide) (by kernel_rfl) (fun K hK => ?_)
    (try simp only [List.getElem_cons_succ, List.getElem_cons_zero])
    refine if_step (by rfl) ?_
    go_simp
    have hown : Own (((((w1).alloc (.cells #[.int .i64 0, .string ⟨#[]⟩, .string ⟨#[]⟩, .string ⟨#[]⟩, .string ⟨#[]⟩, .slice none 0 0, .slice none 0 0] 33))).alloc (.cells #[] 9))).drew w1.heap.size (.slice (some ⟨w1.heap.size + 1, 0, none⟩) 0 0) [] := by
     have := (Own.made0 (((w1).alloc (.cells #[.int .i64 0, .string ⟨#[]⟩, .string ⟨#[]⟩, .string ⟨#[]⟩, .string ⟨#[]⟩, .slice none 0 0, .slice none 0 0] 33)))).mono (show w1.heap.size <= (((w1).alloc (.cells #[.int .i64 0, .string ⟨#[]⟩, .string ⟨#[]⟩, .string ⟨#[]⟩, .string ⟨#[]⟩, .slice none 0 0, .slice none 0 0] 33))).heap.size by simp)
     exact (by simpa using this : Own (((((w1).alloc (.cells #[.int .i64 0, .string ⟨#[]⟩, .string ⟨#[]⟩, .string ⟨#[]⟩, .string ⟨#[]⟩, .slice none 0 0, .slice none 0 0] 33))).alloc (.cells #[] 9))) w1.heap.size (.slice (some ⟨w1.heap.size + 1, 0, none⟩) 0 0) [])
    replace hwt : Whole (((((w1).alloc (.cells #[.int .i64 0, .string ⟨#[]⟩, .string ⟨#[]⟩, .string ⟨#[]⟩, .string ⟨#[]⟩, .slice none 0 0, .slice none 0 0] 33))).alloc (.cells #[] 9))).drew tb 33 #[.int .i64 0, .string ⟨#[]⟩, .string ⟨#[]⟩, .string ⟨#[]⟩, .string ⟨#[]⟩, .slice none 0 0, .slice none 0 0] := Whole.call (w := ((w1).alloc (.cells #[.int .i64 0, .string ⟨#[]⟩, .string ⟨#[]⟩, .string ⟨#[]⟩, .string ⟨#[]⟩, .slice none 0 0, .slice none 0 0] 33))) hwt ((grow1 ((w1).alloc (.cells #[.int .i64 0, .string ⟨#[]⟩, .string ⟨#[]⟩, .string ⟨#[]⟩, .string ⟨#[]⟩, .slice none 0 0, .slice none 0 0] 33)) _).drew)
    replace hbX : Below w1.heap.size w1 (((((w1).alloc (.cells #[.int .i64 0, .string ⟨#[]⟩, .string ⟨#[]⟩, .string ⟨#[]⟩, .string ⟨#[]⟩, .slice none 0 0, .slice none 0 0] 33))).alloc (.cells #[] 9))).drew := ((hbY : Below w1.heap.size w1 (((w1).alloc (.cells #[.int .i64 0, .string ⟨#[]⟩, .string ⟨#[]⟩, .string ⟨#[]⟩, .string ⟨#[]⟩, .slice none 0 0, .slice none 0 0] 33)))).trans ((grow1 ((w1).alloc (.cells #[.int .i64 0, .string ⟨#[]⟩, .string ⟨#[]⟩, .string ⟨#[]⟩, .string ⟨#[]⟩, .slice none 0 0, .slice none 0 0] 33)) _).mono (by simp))).drew
    refine hK.out _ _ ?_ (fun hHeld => ?_)
    · exact ⟨keepC q0 hbX, keepC q1 hbX, keepC q2 hbX, keepC q3 hbX, keepC q4 hbX, keepC q5 hbX⟩
    clear hK K
    (try simp only [List.getElem_cons_succ, List.getElem_cons_zero, Act.put, List.setIfInBounds_toArray, List.set_cons_zero, List.set_cons_succ])
    refine head_step 13 (by simp only [List.length_cons, List.length_nil]; decide) (by kernel_rfl) (fun K hK => ?_)
    (try simp only [List.getElem_cons_succ, List.getElem_cons_zero])
    refine if_step (by rfl) ?_
    have hssX := hss1.call hbX (Nat.le_refl _)
    have hszX := hbX.size
    refine wp_strs_g _ _ (by rfl) w1.heap.size _ [] (by rfl) hown _ an (by rfl) hssX (by simp; omega) hszX ?_
    intro v1 w3 hown1 hb1 hgr1
    replace hown1 := Own.nilOf hown1
    replace hwt := hwt.grownO hown (by decide) hgr1
    replace hbX := hbX.trans hb1
    obtain ⟨sa, sc, rfl⟩ := Own.form hown1
    rw [hAL] at hown1
    try rw [hAL]
    clear hown hgr1
    refine hK.out _ _ ?_ (fun hHeld => ?_)
    · exact ⟨keepC q0 hbX, keepC q1 hbX, keepC q2 hbX, keepC q3 hbX, keepC q4 hbX, keepC q5 hbX⟩
    clear hK K
    (try simp only [Act.put, List.setIfInBounds_toArray, List.set_cons_zero, List.set_cons_succ])
    refine head_take 14 ?_ (by simp only [List.length_cons, List.length_nil]; decide) (by kernel_rfl) (fun _ _ _ h => h) (by rfl) ?_ hHeld ?_
    rotate_left
    · intro W hSw; (try simp only [List.getElem_cons_succ, List.getElem_cons_zero]); (try go_split_ands); go_simp; (try with_reducible rfl)
    (try simp only [List.getElem_cons_succ, List.getElem_cons_zero, Act.put, List.setIfInBounds_toArray, List.set_cons_zero, List.set_cons_succ])
    refine head_end (by kernel_rfl) ?_
    simp only [List.drop_succ_cons, List.drop_zero]
    clear hHeld hss1
    obtain ⟨w4, hw4⟩ : ∃ x, x = w3 := ⟨_, rfl⟩
    subst hw4
    obtain ⟨m0, m1, m2, m3, m4, m5, m6⟩ := hwt.seven
    obtain ⟨t0, t1, t2, t3, t4, t5, t6⟩ := hwt.thaws
    have hwa4 := hwa.call hbX
    have hwz4 := hwz.call hbX
    have hlt4 := hwz.lt
    have hst4 : StrsP (fun g => w.heap.size + 2 <= g /\ g ≠ tb) w4 (.slice sa AL sc) an := hown1.strs.strsP _ (fun g hg => ⟨by have := (World.ownsRow.lt hown1 g hg).1; omega, fun e => Own.apartG hown1 hwt (by decide) (by rw [hg, e])⟩)
    have hwt5 := hwt.put7 (.int .i64 kd) (.string ⟨at0.toArray⟩) (.string ⟨vl.toArray⟩) (.string ⟨fs.toArray⟩) (.string ⟨ls.toArray⟩) (.slice sa AL sc) (.slice none 0 0)
    have hwa5 := hwa4.other7 (g := tb) (by omega) (.int .i64 kd) (.string ⟨at0.toArray⟩) (.string ⟨vl.toArray⟩) (.string ⟨fs.toArray⟩) (.string ⟨ls.toArray⟩) (.slice sa AL sc) (.slice none 0 0)
    have hwz5 := hwz4.other7 (g := tb) (by omega) (.int .i64 kd) (.string ⟨at0.toArray⟩) (.string ⟨vl.toArray⟩) (.string ⟨fs.toArray⟩) (.string ⟨ls.toArray⟩) (.slice sa AL sc) (.slice none 0 0)
    have hst5 : StrsP (fun g => w.heap.size + 2 <= g /\ g ≠ tb) (sev w4 tb (.int .i64 kd) (.string ⟨at0.toArray⟩) (.string ⟨vl.toArray⟩) (.string ⟨fs.toArray⟩) (.string ⟨ls.toArray⟩) (.slice sa AL sc) (.slice none 0 0)) (.slice sa AL sc) an := hst4.keep (below_sev (Below.refl tb w4) (Nat.le_refl _) (.int .i64 kd) (.string ⟨at0.toArray⟩) (.string ⟨vl.toArray⟩) (.string ⟨fs.toArray⟩) (.string ⟨ls.toArray⟩) (.slice sa AL sc) (.slice none 0 0)).size (fun g hg hok => by
     have hok : w.heap.size + 2 <= g /\ g ≠ tb := hok
     unfold sev
     rw [Below.heap_setCell _ _ _ _ (by show g ≠ tb; exact hok.2), Below.heap_setCell _ _ _ _ (by show g ≠ tb; exact hok.2), Below.heap_setCell _ _ _ _ (by show g ≠ tb; exact hok.2), Below.heap_setCell _ _ _ _ (by show g ≠ tb; exact hok.2), Below.heap_setCell _ _ _ _ (by show g ≠ tb; exact hok.2), Below.heap_setCell _ _ _ _ (by show g ≠ tb; exact hok.2), Below.heap_setCell _ _ _ _ (by show g ≠ tb; exact hok.2)]) (fun g _ h => h)
    have hb5 := below_sev ((hz1.trans (hbX.mono hz1.size))) (show w.heap.size <= tb by omega) (.int .i64 kd) (.string ⟨at0.toArray⟩) (.string ⟨vl.toArray⟩) (.string ⟨fs.toArray⟩) (.string ⟨ls.toArray⟩) (.slice sa AL sc) (.slice none 0 0)
    unfold sev at hwt5 hwa5 hwz5 hst5 hb5
    have HF := hZ9 (And.intro hwt5 (And.intro hst5 (And.intro hwa5 (And.intro hwz5 hb5))))
    have htb2 : w.heap.size + 2 <= tb := by omega
    clear hwt5 hst5 hwa5 hwz5 hb5 hst4 hwa4 hwz4 hown1
    go_wp2_with fail
    go_meet
    exact ⟨tb, sa, sc, rfl, htb2, HF.out.1, HF.out.2.1, HF.out.2.2.1, HF.out.2.2.2.1, HF.out.2.2.2.2⟩
 case rest =>
  obtain ⟨tb, sa, sc, rfl, htb, hwt, hst, hwa2, hwz2, hz2⟩ := hcut
  obtain ⟨w2, hw2⟩ : ∃ x, x = wc := ⟨_, rfl⟩
  subst hw2
  clear hwa hwz hz1 hss1 hlz
  obtain ⟨i0, z, hi, hz, hsz, hby, hzc⟩ := infoFi_parts
  have HI := hZ9 hi
  clear hi
  obtain ⟨C, hC⟩ : ∃ c, c = w2.heap.size := ⟨_, rfl⟩
  have hCs : C <= w2.heap.size := by omega
  have htC : tb < C := by have := hwt.lt; omega
  have haC : w.heap.size < C := by have := hwa2.lt; omega
  have hzC : w.heap.size + 1 < C := by have := hwz2.lt; omega
  have hst2 := StrsP.keep (ok' := fun g => w.heap.size + 2 <= g /\ g ≠ tb /\ g < C) hst (Nat.le_refl _) (fun _ _ _ => rfl) (fun g hg h => ⟨h.1, h.2, by omega⟩)
  have hown0 := OwnG.empty (fiG n) 33 (fun g => C <= g) w2 C
  have hP0 : PL = 0 \/ 0 < PL := by omega
  clear hst
  obtain ⟨q0, q1, q2, q3, q4, q5, q6⟩ := hwa2.seven
  go_wp2_with fail
  clear q0 q1 q2 q3 q4 q5 q6
  go_loopw [23] (fun i wr => ∃ (j : Nat) (vq : Value), j <= PL /\ i = .int .i64 j /\ Whole wr tb 33 #[.int .i64 kd, .string ⟨at0.toArray⟩, .string ⟨vl.toArray⟩, .string ⟨fs.toArray⟩, .string ⟨ls.toArray⟩, .slice sa AL sc, vq] /\ OwnG (fiG n) 33 (fun g => C <= g) wr C vq (ps.take j) /\ StrsP (fun g => w.heap.size + 2 <= g /\ g ≠ tb /\ g < C) wr (.slice sa AL sc) an /\ Whole wr w.heap.size 25 #[.int .i64 kd, .string ⟨at0.toArray⟩, .string ⟨vl.toArray⟩, .string ⟨fs.toArray⟩, .string ⟨ls.toArray⟩, .slice a5 AL c5, .slice a6 PL c6] /\ Whole wr (w.heap.size + 1) 33 #[.int .i64 0, .string ⟨#[]⟩, .string ⟨#[]⟩, .string ⟨#[]⟩, .string ⟨#[]⟩, .slice none 0 0, .slice none 0 0] /\ Below w.heap.size w wr /\ C <= wr.heap.size) (fun i _ => PL - (intOf i).toNat)
  case atStart => exact ⟨0, _, Nat.zero_le _, rfl, hwt, hown0, hst2, hwa2, hwz2, hz2, hCs⟩
  case round =>
   obtain ⟨j, vq, hj, rfl, hwt, hown, hst, hwa, hwz, hb, hszC⟩ := hrel
   clear hwa2 hwz2 hz2 hst2 hown0 hCs hC
   obtain ⟨va, vc, rfl⟩ := hown.form
   have hjl : (ps.take j).length = j := by rw [List.length_take, HPL.out]; omega
   rw [hjl] at hown hwt
   by_cases hlt : j < PL
   · have hlt2 : j < ps.length := by rw [HPL.out]; exact hlt
     have hTK := HTK.out j hlt2
     have hwp := HWD.out j hlt2
     have hbC : Below w.heap.size w wr.drew := hb.drew
     obtain ⟨d, rfl, g, o, rfl, hg, b5, d5, b6, d6, hin, y0, y1, y2, y3, y4, y5, y6⟩ := HAT.out j hlt2
     have hin := hin.call hbC
     have y0 := (hbC.cell (p := ⟨g, o + j * 7, none⟩) hg).trans y0
     have y1 := (hbC.cell (p := ⟨g, o + j * 7 + 1, none⟩) hg).trans y1
     have y2 := (hbC.cell (p := ⟨g, o + j * 7 + 2, none⟩) hg).trans y2
     have y3 := (hbC.cell (p := ⟨g, o + j * 7 + 3, none⟩) hg).trans y3
     have y4 := (hbC.cell (p := ⟨g, o + j * 7 + 4, none⟩) hg).trans y4
     have y5 := (hbC.cell (p := ⟨g, o + j * 7 + 5, none⟩) hg).trans y5
     have y6 := (hbC.cell (p := ⟨g, o + j * 7 + 6, none⟩) hg).trans y6
     have hrec := fun v W h => IH d rfl (ps[j]'hlt2) v W h hwp
     clear IH HAT HTK HWD HALL
     generalize ps[j] = p at *
     have hl0 : (0 : Int) <= (j : Int) := by omega
     have hl1 : (j : Int) < (PL : Int) := by omega
     have hc := hrec _ _ hin
     have hgw : g < wr.drew.heap.size := Nat.lt_of_lt_of_le hg hbC.size
     have hgC : g < C := by omega
     have hbk : ∀ g, (Value.slice va j vc).ownBlock = some g -> g < wr.drew.heap.size := fun g h => (hown.block h).2
     have hlq : (ps.take j).length + ([p] : List Fi).length <= 1000000000 := by rw [hjl, List.length_singleton]; omega
     replace hown := hown.call (show Below wr.heap.size wr wr.drew from (Below.refl _ _).drew)
     replace hst := hst.call (show Below wr.heap.size wr wr.drew from (Below.refl _ _).drew)
     replace hwt := hwt.drew
     replace hwa := hwa.drew
     replace hwz := hwz.drew
     replace hszC : C <= wr.drew.heap.size := hszC
     have tq := hwt.cell 6
     have aq := hwa.cell 6
     simp only [List.getElem?_toArray, List.getElem?_cons_zero, List.getElem?_cons_succ] at tq aq
     clear hrec hin hwp hb
     go_wp2_with fail
     refine head_begin 11 (fun W => W.cell? ⟨tb, 6, none⟩ = some (.slice va j vc) /\ W.cell? ⟨w.heap.size, 6, none⟩ = some (.slice (some ⟨g, o, none⟩) PL c6) /\ W.cell? ⟨g, o + j * 7, none⟩ = some (.int .i64 p.kind) /\ W.cell? ⟨g, o + j * 7 + 1, none⟩ = some (.string ⟨p.attr.toArray⟩) /\ W.cell? ⟨g, o + j * 7 + 2, none⟩ = some (.string ⟨p.value.toArray⟩) /\ W.cell? ⟨g, o + j * 7 + 3, none⟩ = some (.string ⟨p.first.toArray⟩) /\ W.cell? ⟨g, o + j * 7 + 4, none⟩ = some (.string ⟨p.last.toArray⟩) /\ W.cell? ⟨g, o + j * 7 + 5, none⟩ = some (.slice b5 p.any.length d5) /\ W.cell? ⟨g, o + j * 7 + 6, none⟩ = some (.slice b6 p.parts.length d6)) (by kernel_rfl) (by kernel_rfl) ⟨tq, aq, y0, y1, y2, y3, y4, y5, y6⟩ (fun hHeld => ?_)
     refine head_take 0 ?_ (by simp only [List.length_cons, List.length_nil]; decide) (by kernel_rfl) (fun _ _ _ h => h) (by rfl) ?_ hHeld ?_
     rotate_left
     · intro W hSw; (try simp only [List.getElem_cons_zero]); (try go_split_ands); go_simp; (try with_reducible rfl)
     (try simp only [List.getElem_cons_zero, Act.put, List.setIfInBounds_toArray, List.set_cons_zero, List.set_cons_succ])
     refine head_take 1 ?_ (by simp only [List.length_cons, List.length_nil]; decide) (by kernel_rfl) (fun _ _ _ h => h) (by rfl) ?_ hHeld ?_
     rotate_left
     · intro W hSw; (try simp only [List.getElem_cons_succ, List.getElem_cons_zero]); (try go_split_ands); go_simp; (try with_reducible rfl)
     (try simp only [List.getElem_cons_succ, List.getElem_cons_zero, Act.put, List.setIfInBounds_toArray, List.set_cons_zero, List.set_cons_succ])
     refine head_take 2 ?_ (by simp only [List.length_cons, List.length_nil]; decide) (by kernel_rfl) (fun _ _ _ h => h) (by rfl) ?_ hHeld ?_
     rotate_left
     · intro W hSw; (try simp only [List.getElem_cons_succ, List.getElem_cons_zero]); (try go_split_ands); go_simp; (try with_reducible rfl)
     (try simp only [List.getElem_cons_succ, List.getElem_cons_zero, Act.put, List.setIfInBounds_toArray, List.set_cons_zero, List.set_cons_succ])
     refine head_take 3 ?_ (by simp only [List.length_cons, List.length_nil]; decide) (by kernel_rfl) (fun _ _ _ h => h) (by rfl) ?_ hHeld ?_
     rotate_left
     · intro W hSw; (try simp only [List.getElem_cons_succ, List.getElem_cons_zero]); (try go_split_ands); go_simp; (try with_reducible rfl)
     (try simp only [List.getElem_cons_succ, List.getElem_cons_zero, Act.put, List.setIfInBounds_toArray, List.set_cons_zero, List.set_cons_succ])
     refine head_take 4 ?_ (by simp only [List.length_cons, List.length_nil]; decide) (by kernel_rfl) (fun _ _ _ h => h) (by rfl) ?_ hHeld ?_
     rotate_left
     · intro W hSw; (try simp only [List.getElem_cons_succ, List.getElem_cons_zero]); (try go_split_ands); go_simp; (try with_reducible rfl)
     (try simp only [List.getElem_cons_succ, List.getElem_cons_zero, Act.put, List.setIfInBounds_toArray, List.set_cons_zero, List.set_cons_succ])
     refine head_take 5 ?_ (by simp only [List.length_cons, List.length_nil]; decide) (by kernel_rfl) (fun _ _ _ h => h) (by rfl) ?_ hHeld ?_
     rotate_left
     · intro W hSw; (try simp only [List.getElem_cons_succ, List.getElem_cons_zero]); (try go_split_ands); go_simp; (try with_reducible rfl)
     (try simp only [List.getElem_cons_succ, List.getElem_cons_zero, Act.put, List.setIfInBounds_toArray, List.set_cons_zero, List.set_cons_succ])
     refine head_take 6 ?_ (by simp only [List.length_cons, List.length_nil]; decide) (by kernel_rfl) (fun _ _ _ h => h) (by rfl) ?_ hHeld ?_
     rotate_left
     · intro W hSw; (try simp only [List.getElem_cons_succ, List.getElem_cons_zero]); (try go_split_ands); go_simp; (try with_reducible rfl)
     (try simp only [List.getElem_cons_succ, List.getElem_cons_zero, Act.put, List.setIfInBounds_toArray, List.set_cons_zero, List.set_cons_succ])
     refine head_step 7 (by simp only [List.length_cons, List.length_nil]; decide) (by kernel_rfl) (fun K hK => ?_)
     (try simp only [List.getElem_cons_succ, List.getElem_cons_zero])
     refine if_step (by rfl) ?_
     go_simp
     (go_at_call 11; (with_reducible refine hc.mono ?_); rintro e w5 ⟨v5, rfl, hfv, hb5⟩)
     obtain ⟨e5, f5, e6, f6, rfl, hss5, hf6, hps5⟩ := FiV.partsO hfv
     have hC5 := hb5.size
     have hbY := hbC.trans (hb5.mono hbC.size)
     have hown5 := hown.call hb5
     have hwt5 := hwt.call hb5
     have hwa5 := hwa.call hb5
     have hwz5 := hwz.call hb5
     have hst5 := hst.call hb5
     have tq5 := keepC tq hb5
     have hgp5 : g < wr.drew.heap.size := hgw
     clear hown hwt hwa hwz hst hc
     refine hK.out _ _ ?_ (fun hHeld => ?_)
     · exact ⟨keepC tq hb5, keepC aq hb5, keepC y0 hb5, keepC y1 hb5, keepC y2 hb5, keepC y3 hb5, keepC y4 hb5, keepC y5 hb5, keepC y6 hb5⟩
     clear hK K
     (try simp only [Act.put, List.setIfInBounds_toArray, List.set_cons_zero, List.set_cons_succ])
     refine head_step 8 (by simp only [List.length_cons, List.length_nil]; decide) (by kernel_rfl) (fun K hK => ?_)
     (try simp only [List.getElem_cons_succ, List.getElem_cons_zero])
     refine if_step (by rfl) ?_
     go_simp
     have hg6 := grow1 w5 (.cells #[.int .i64 p.kind, .string ⟨p.attr.toArray⟩, .string ⟨p.value.toArray⟩, .string ⟨p.first.toArray⟩, .string ⟨p.last.toArray⟩, .slice e5 p.any.length f5, .slice e6 p.parts.length f6] 33)
     have hwp6 := Whole.made w5 33 #[.int .i64 p.kind, .string ⟨p.attr.toArray⟩, .string ⟨p.value.toArray⟩, .string ⟨p.first.toArray⟩, .string ⟨p.last.toArray⟩, .slice e5 p.any.length f5, .slice e6 p.parts.length f6]
     have hss6 := StrsP.keep (ok' := fun g => C <= g /\ (Value.slice va j vc).ownBlock ≠ some g) (hss5.call hg6) (Nat.le_refl _) (fun _ _ _ => rfl) (fun g _ h => ⟨Nat.le_trans hszC h, fun e => by have h2 := hbk g e; have h : wr.drew.heap.size <= g := h; omega⟩)
     have hps6 := (hps5.call hg6).keep (ok' := fun g => C <= g /\ (Value.slice va j vc).ownBlock ≠ some g) (Nat.le_refl _) (fun _ _ _ => rfl) (fun g _ h => ⟨Nat.le_trans hszC h, fun e => by have h2 := hbk g e; have h : wr.drew.heap.size <= g := h; omega⟩)
     have hrow := RowG.oneFi (n := d + 1) (rok := fun _ => True) (x := p) hwp6 trivial hss6 hps6
     replace hown5 := hown5.call hg6
     replace hwt5 := hwt5.call hg6
     replace hwa5 := hwa5.call hg6
     replace hwz5 := hwz5.call hg6
     replace hst5 := hst5.call hg6
     replace hbY := hbY.trans (hg6.mono hbY.size)
     have hb6 : Below wr.drew.heap.size wr.drew (w5.alloc (.cells #[.int .i64 p.kind, .string ⟨p.attr.toArray⟩, .string ⟨p.value.toArray⟩, .string ⟨p.first.toArray⟩, .string ⟨p.last.toArray⟩, .slice e5 p.any.length f5, .slice e6 p.parts.length f6] 33)) := hb5.trans (hg6.mono hC5)
     have hsz6 : C <= (w5.alloc (.cells #[.int .i64 p.kind, .string ⟨p.attr.toArray⟩, .string ⟨p.value.toArray⟩, .string ⟨p.first.toArray⟩, .string ⟨p.last.toArray⟩, .slice e5 p.any.length f5, .slice e6 p.parts.length f6] 33)).heap.size := Nat.le_trans hszC hb6.size
     clear hss5 hps5 hss6 hps6 hwp6 tq5
     refine hK.out _ _ ?_ (fun hHeld => ?_)
     · exact ⟨keepC tq hb6, keepC aq hb6, keepC y0 hb6, keepC y1 hb6, keepC y2 hb6, keepC y3 hb6, keepC y4 hb6, keepC y5 hb6, keepC y6 hb6⟩
     clear hK K
     (try simp only [List.getElem_cons_succ, List.getElem_cons_zero, Act.put, List.setIfInBounds_toArray, List.set_cons_zero, List.set_cons_succ])
     refine head_step 9 (by simp only [List.length_cons, List.length_nil]; decide) (by kernel_rfl) (fun K hK => ?_)
     (try simp only [List.getElem_cons_succ, List.getElem_cons_zero])
     refine if_step (by rfl) ?_
     refine wp_g (fiG (d + 1)) 33 31 Tryz.underlying31 HI.out hz (by rw [hsz]; rfl) (by rw [hby]; decide) (by rw [hzc]; rfl) _ _ (by rfl) (fun g => C <= g) C _ (ps.take j) (by rfl) hown5 _ [p] (by rfl) hrow hlq hsz6 ?_
     intro v7 w7 hown7 hb7 hgr7 hat7
     have hwt7 := hwt5.below hb7 htC
     have hwa7 := hwa5.below hb7 haC
     have hwz7 := hwz5.below hb7 hzC
     have hst7 := StrsP.keep (ok' := fun g => w.heap.size + 2 <= g /\ g ≠ tb /\ g < C) hst5 hb7.size (fun g _ hok => hb7.block g hok.2.2) (fun g _ h => h)
     replace hbY := hbY.trans (hb7.mono (by omega))
     have t7 := hwt7.cell 6
     have a7 := hwa7.cell 6
     simp only [List.getElem?_toArray, List.getElem?_cons_zero, List.getElem?_cons_succ] at t7 a7
     clear hown5 hrow hwt5 hwa5 hwz5 hst5 hgr7 hat7
     refine hK.out _ _ ?_ (fun hHeld => ?_)
     · exact ⟨t7, a7, (hb7.cell (p := ⟨g, o + j * 7, none⟩) hgC).trans (keepC y0 hb6), (hb7.cell (p := ⟨g, o + j * 7 + 1, none⟩) hgC).trans (keepC y1 hb6), (hb7.cell (p := ⟨g, o + j * 7 + 2, none⟩) hgC).trans (keepC y2 hb6), (hb7.cell (p := ⟨g, o + j * 7 + 3, none⟩) hgC).trans (keepC y3 hb6), (hb7.cell (p := ⟨g, o + j * 7 + 4, none⟩) hgC).trans (keepC y4 hb6), (hb7.cell (p := ⟨g, o + j * 7 + 5, none⟩) hgC).trans (keepC y5 hb6), (hb7.cell (p := ⟨g, o + j * 7 + 6, none⟩) hgC).trans (keepC y6 hb6)⟩
     clear hK K
     (try simp only [Act.put, List.setIfInBounds_toArray, List.set_cons_zero, List.set_cons_succ])
     refine head_take 10 ?_ (by simp only [List.length_cons, List.length_nil]; decide) (by kernel_rfl) (fun _ _ _ h => h) (by rfl) ?_ hHeld ?_
     rotate_left
     · intro W hSw; (try simp only [List.getElem_cons_succ, List.getElem_cons_zero]); (try go_split_ands); go_simp; (try with_reducible rfl)
     (try simp only [List.getElem_cons_succ, List.getElem_cons_zero, Act.put, List.setIfInBounds_toArray, List.set_cons_zero, List.set_cons_succ])
     refine head_end (by kernel_rfl) ?_
     simp only [List.drop_succ_cons, List.drop_zero]
     clear hHeld
     rw [<- hTK] at hown7
     obtain ⟨vb, vd, rfl⟩ := hown7.form
     have hjl2 : (ps.take (j + 1)).length = j + 1 := by rw [List.length_take]; omega
     rw [hjl2] at hown7
     try rw [hjl2]
     have t8 := hwt7.thaw 6
     have hwt8 := hwt7.put 6 (.slice vb (j + 1) vd)
     simp only [List.setIfInBounds_toArray, List.set_cons_zero, List.set_cons_succ] at hwt8
     have hwa8 := hwa7.other (p := ⟨tb, 6, none⟩) (by show w.heap.size ≠ tb; omega) (.slice vb (j + 1) vd)
     have hwz8 := hwz7.other (p := ⟨tb, 6, none⟩) (by show w.heap.size + 1 ≠ tb; omega) (.slice vb (j + 1) vd)
     have hown8 := hown7.kept ((Kept2.refl w7.heap.size tb w7).setCell 6 (.slice vb (j + 1) vd)) (Nat.le_refl _) htC
     have hst8 : StrsP (fun g => w.heap.size + 2 <= g /\ g ≠ tb /\ g < C) (w7.setCell ⟨tb, 6, none⟩ (.slice vb (j + 1) vd)) (.slice sa AL sc) an := StrsP.keep hst7 (by simp [World.setCell]) (fun g _ hok => Below.heap_setCell _ _ _ _ hok.2.1) (fun g _ h => h)
     have hb8 := hbY.setCell (p := ⟨tb, 6, none⟩) (show w.heap.size <= tb by omega) (.slice vb (j + 1) vd)
     clear hwt7 hwa7 hwz7 hown7 hst7 hbY y0 y1 y2 y3 y4 y5 y6
     go_wp2_with fail
     go_roundw
     case rel => exact ⟨j + 1, _, by omega, by go_num, hwt8, hown8, hst8, hwa8, hwz8, hb8, by have := hb7.size; simp [World.setCell]; omega⟩
     case measure => simp [intOf]; omega
   · have hjl3 : j = PL := by omega
     subst hjl3
     rw [HALL.out] at hown
     obtain ⟨m0, m1, m2, m3, m4, m5, m6⟩ := hwt.seven
     obtain ⟨k0, k1, k2, k3, k4, k5, k6⟩ := hwz.seven
     obtain ⟨t0, t1, t2, t3, t4, t5, t6⟩ := hwz.thaws
     have hwz3 := hwz.put7 (.int .i64 kd) (.string ⟨at0.toArray⟩) (.string ⟨vl.toArray⟩) (.string ⟨fs.toArray⟩) (.string ⟨ls.toArray⟩) (.slice sa AL sc) (.slice va j vc)
     have hfp := hown.fis
     have hst3 : StrsP (fun g => w.heap.size <= g) (sev wr (w.heap.size + 1) (.int .i64 kd) (.string ⟨at0.toArray⟩) (.string ⟨vl.toArray⟩) (.string ⟨fs.toArray⟩) (.string ⟨ls.toArray⟩) (.slice sa AL sc) (.slice va j vc)) (.slice sa AL sc) an := StrsP.keep hst (below_sev (Below.refl (w.heap.size + 1) wr) (Nat.le_refl _) (.int .i64 kd) (.string ⟨at0.toArray⟩) (.string ⟨vl.toArray⟩) (.string ⟨fs.toArray⟩) (.string ⟨ls.toArray⟩) (.slice sa AL sc) (.slice va j vc)).size (fun g hg hok => by
      have hok : w.heap.size + 2 <= g /\ g ≠ tb /\ g < C := hok
      unfold sev
      rw [Below.heap_setCell _ _ _ _ (by show g ≠ w.heap.size + 1; omega), Below.heap_setCell _ _ _ _ (by show g ≠ w.heap.size + 1; omega), Below.heap_setCell _ _ _ _ (by show g ≠ w.heap.size + 1; omega), Below.heap_setCell _ _ _ _ (by show g ≠ w.heap.size + 1; omega), Below.heap_setCell _ _ _ _ (by show g ≠ w.heap.size + 1; omega), Below.heap_setCell _ _ _ _ (by show g ≠ w.heap.size + 1; omega), Below.heap_setCell _ _ _ _ (by show g ≠ w.heap.size + 1; omega)]) (fun g _ h => by
      have h : w.heap.size + 2 <= g /\ g ≠ tb /\ g < C := h
      show w.heap.size <= g
      omega)
     have hps3 : FisP (n + 1) (fun g => w.heap.size <= g) (sev wr (w.heap.size + 1) (.int .i64 kd) (.string ⟨at0.toArray⟩) (.string ⟨vl.toArray⟩) (.string ⟨fs.toArray⟩) (.string ⟨ls.toArray⟩) (.slice sa AL sc) (.slice va j vc)) (.slice va j vc) ps := hfp.keep (below_sev (Below.refl (w.heap.size + 1) wr) (Nat.le_refl _) (.int .i64 kd) (.string ⟨at0.toArray⟩) (.string ⟨vl.toArray⟩) (.string ⟨fs.toArray⟩) (.string ⟨ls.toArray⟩) (.slice sa AL sc) (.slice va j vc)).size (fun g hg hok => by
      have hok : C <= g := hok
      unfold sev
      rw [Below.heap_setCell _ _ _ _ (by show g ≠ w.heap.size + 1; omega), Below.heap_setCell _ _ _ _ (by show g ≠ w.heap.size + 1; omega), Below.heap_setCell _ _ _ _ (by show g ≠ w.heap.size + 1; omega), Below.heap_setCell _ _ _ _ (by show g ≠ w.heap.size + 1; omega), Below.heap_setCell _ _ _ _ (by show g ≠ w.heap.size + 1; omega), Below.heap_setCell _ _ _ _ (by show g ≠ w.heap.size + 1; omega), Below.heap_setCell _ _ _ _ (by show g ≠ w.heap.size + 1; omega)]) (fun g _ h => by
      have h : C <= g := h
      show w.heap.size <= g
      omega)
     have hb3 := below_sev hb (Nat.le_succ _) (.int .i64 kd) (.string ⟨at0.toArray⟩) (.string ⟨vl.toArray⟩) (.string ⟨fs.toArray⟩) (.string ⟨ls.toArray⟩) (.slice sa AL sc) (.slice va j vc)
     have HFV : Hid (FiV (n + 1) (fun g => w.heap.size <= g) (sev wr (w.heap.size + 1) (.int .i64 kd) (.string ⟨at0.toArray⟩) (.string ⟨vl.toArray⟩) (.string ⟨fs.toArray⟩) (.string ⟨ls.toArray⟩) (.slice sa AL sc) (.slice va j vc)) (.agg #[.int .i64 kd, .string ⟨at0.toArray⟩, .string ⟨vl.toArray⟩, .string ⟨fs.toArray⟩, .string ⟨ls.toArray⟩, .slice sa AL sc, .slice va j vc]) (.mk kd at0 vl fs ls an ps)) := hZ9 ⟨_, _, rfl, hst3, hps3⟩
     unfold sev at hwz3 hb3 HFV
     have HW3 := hZ9 hwz3
     have HB3 := hZ9 hb3
     clear hwz3 hb3 hst3 hps3 hfp IH HAT HTK HWD HALL hown hst hwt hwa
     go_wp2_with fail
     (try simp only [Exit.inBlock, Exit.then])
     generalize ((((((((((((((wr).setCell ⟨w.heap.size + 1, 0, none⟩ (.int .i64 kd))).setCell ⟨w.heap.size + 1, 1, none⟩ (.string ⟨at0.toArray⟩))).setCell ⟨w.heap.size + 1, 2, none⟩ (.string ⟨vl.toArray⟩))).setCell ⟨w.heap.size + 1, 3, none⟩ (.string ⟨fs.toArray⟩))).setCell ⟨w.heap.size + 1, 4, none⟩ (.string ⟨ls.toArray⟩))).setCell ⟨w.heap.size + 1, 5, none⟩ (.slice sa AL sc))).setCell ⟨w.heap.size + 1, 6, none⟩ (.slice va j vc)) = w6 at *
     have hwf6 := HW3.out
     obtain ⟨r0, r1, r2, r3, r4, r5, r6⟩ := hwf6.seven
     refine bodyPost_ret (v := .agg #[.int .i64 kd, .string ⟨at0.toArray⟩, .string ⟨vl.toArray⟩, .string ⟨fs.toArray⟩, .string ⟨ls.toArray⟩, .slice sa AL sc, .slice va j vc]) ?_ rfl ⟨_, rfl, HFV.out, HB3.out⟩
     rw [results_cell1 rfl]
     go_simp)
end Go.Proofs.YtjmfknfponjgkaaGreatDoor
