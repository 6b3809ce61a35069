/- The walk of the law FilterEvals. Conditions: as stated. -/
import Derived.Test.YtjmfknfponjgkaaGreatDoorJFje
import Derived.Test.YtjmfknfponjgkaaGreatDoorJFir
import Derived.Test.YtjmfknfponjgkaaGreatDoorJFit
import Derived.Test.YtjmfknfponjgkaaGreatDoorJMki
set_option maxRecDepth 100000
set_option maxHeartbeats 16000000
namespace Go.Proofs.YtjmfknfponjgkaaGreatDoor
open Go.RowKit
open FiS (Fi)
attribute [local go_sem ↓] Go.wp_at_zero Go.wp_at_succ
theorem few07_fit {A : List EnS.At} (hT : ∀ a ∈ A, a.typ.length <= 1048576) (h : EnS.sumBy EnS.cE [⟨[], A⟩] <= 3000) : FitS A := by
 have h1 := (cost_fit h).2 _ (List.mem_singleton.2 rfl)
 refine ⟨⟨h1.2, hT⟩, ?_⟩
 have h2 := EnS.sum_vals A
 have h3 : EnS.sumBy EnS.cE [⟨[], A⟩] = EnS.cE ⟨[], A⟩ + 0 := rfl
 have h4 : EnS.cE ⟨[], A⟩ = 1 + ([] : List UInt8).length / 100 + EnS.sumBy EnS.cA A := rfl
 omega
theorem few07_c (u : Value) (A : List EnS.At) (w : World) (h : AttrsIn w u A) (hN : 1 + EnS.sumBy EnS.cA A <= 1048576) : Calls Tryz.prog 9 #[u] w (fun e w' => ∃ b, e = .returned (.bool b) /\ (b = true -> EnS.sumBy EnS.cE [⟨[], A⟩] <= 3000) /\ Below w.heap.size w w') := by
 have hsm := small_c (.slice (some ⟨w.heap.size, 0, none⟩) 1 1) [⟨[], A⟩] _ (ens_one (name := []) h) (by show EnS.cE ⟨[], A⟩ + 0 <= _; unfold EnS.cE; simpa using hN)
 unfold SmallRet at hsm
 have hgA := grow1 w (.cells #[.string ⟨([] : List UInt8).toArray⟩, u] 56)
 obtain ⟨a, c, rfl, _⟩ := SliceP.form h
 clear h hN
 go_enter Tryz.func9, Tryz.ntmps9
 go_wp2_with fail
 refine hsm.mono ?_; rintro e w1 ⟨b, rfl, rfl, hb⟩
 go_wp2_with fail
 go_ret
 exact ⟨_, rfl, hb, hgA⟩
theorem filterevals_c (n : Nat) (x : Fi) (v u : Value) (A : List EnS.At) (w : World) (h : FiIn n w v x) (hA : AttrsIn w u A) (hT : ∀ a ∈ A, a.typ.length <= 1048576) (hN : 1 + EnS.sumBy EnS.cA A <= 1048576) (hE : Env w) : Calls Tryz.prog 3 #[v, u] w (True_ w) := by
 have haw := fun W hE => flawake_c W hE
 have hsm := fun W h => flSmall_c n x v W h
 have hfe := fun W h => few07_c u A W h hN
 unfold True_ at *
 have HH := hZ9 h
 have HA := hZ9 (fun W (hb : Below w.heap.size w W) => AttrsP.call hA hb)
 have HEN := hZ9 (fun W (hb : Below w.heap.size w W) => hE.below hb)
 obtain ⟨a5, c5, a6, c6, hv, _, _, _⟩ := FiV.parts h
 subst hv
 obtain ⟨ua, uc, rfl, huc⟩ := SliceP.form hA
 have HFIT := hZ9 (fun h => few07_fit (A := A) hT h)
 have hg0 := grow1 w (.cells #[.int .i64 x.kind, .string ⟨x.attr.toArray⟩, .string ⟨x.value.toArray⟩, .string ⟨x.first.toArray⟩, .string ⟨x.last.toArray⟩, .slice a5 x.any.length c5, .slice a6 x.parts.length c6] 25)
 have hw0 := Whole.made w 25 #[.int .i64 x.kind, .string ⟨x.attr.toArray⟩, .string ⟨x.value.toArray⟩, .string ⟨x.first.toArray⟩, .string ⟨x.last.toArray⟩, .slice a5 x.any.length c5, .slice a6 x.parts.length c6]
 have haw1 := haw _ (HEN.out _ hg0)
 clear h hE hA hT hN
 generalize A.length = NA at *
 go_enter Tryz.func3, Tryz.ntmps3
 go_wp2_with fail
 refine haw1.mono ?_; rintro e w1 ⟨rfl, hb1⟩
 have hz1 := hg0.trans (hb1.mono hg0.size)
 have hw1 := hw0.call hb1
 obtain ⟨q0, q1, q2, q3, q4, q5, q6⟩ := hw1.seven
 have hsm1 := hsm w1 (HH.out.call hz1)
 clear haw1 hsm hw0 hg0 hb1
 go_wp2_with fail
 refine hsm1.mono ?_; rintro e w2 ⟨b, rfl, HB, hb2⟩
 have hz2 := hz1.trans (hb2.mono hz1.size)
 have hw2 := hw1.call hb2
 clear hsm1 q0 q1 q2 q3 q4 q5 q6 hw1 hb2 hz1
 cases b with
 | false =>
  have haw2 := haw w2 (HEN.out _ hz2)
  clear haw hfe
  go_wp2_with fail
  refine haw2.mono ?_; rintro e w3 ⟨rfl, hb3⟩
  have hz3 := hz2.trans (hb3.mono hz2.size)
  clear haw2
  go_wp2_with fail
  go_ret
  exact ⟨by first | rfl | trivial, hz3⟩
 | true =>
 have hwd := (HB.out rfl).1
 clear HB
 have hfe2 := hfe w2 (HA.out _ hz2)
 clear hfe
 go_wp2_with fail
 refine hfe2.mono ?_; rintro e w3 ⟨b, rfl, hfew, hb3⟩
 have HFEW := hZ9 hfew
 have hz3 := hz2.trans (hb3.mono hz2.size)
 have hw3 := hw2.call hb3
 clear hfe2 hw2 hb3 hz2 hfew
 cases b with
 | false =>
  have haw3 := haw w3 (HEN.out _ hz3)
  clear haw
  go_wp2_with fail
  refine haw3.mono ?_; rintro e w4 ⟨rfl, hb4⟩
  have hz4 := hz3.trans (hb4.mono hz3.size)
  clear haw3
  go_wp2_with fail
  go_ret
  exact ⟨by first | rfl | trivial, hz4⟩
 | true =>
 have hfs := HFIT.out (HFEW.out rfl)
 have hwd2 : FiS.wdF 20000 x := FiS.wdF_mono (by decide) x hwd
 clear haw HFEW HFIT hwd
 go_upto_region 3 with fail
 obtain ⟨q0, q1, q2, q3, q4, q5, q6⟩ := hw3.drew.seven
 have hzD := hz3.drew
 have hth := fltheirs_c n x _ w3.drew (HH.out.call hzD) hwd2
 have HEV := hZ9 (fun v W (hv : FiIn (n + 1) W v x) hb => flEval_c (n + 1) x v _ A W hv hwd2 (HA.out W hb) hfs.1 (HEN.out W hb))
 have HRV := hZ9 (fun W hb => refEval_c n x _ _ A W (HH.out.call hb) hwd2 (HA.out W hb) hfs (HEN.out W hb))
 clear HH HA HEN hfs hwd2 hw3
 unfold IntR at HEV HRV
 generalize FiS.evalS A x = E at *
 go_region_held3 (fun W => W.cell? ⟨w.heap.size, 0, none⟩ = some (.int .i64 x.kind) /\ W.cell? ⟨w.heap.size, 1, none⟩ = some (.string ⟨x.attr.toArray⟩) /\ W.cell? ⟨w.heap.size, 2, none⟩ = some (.string ⟨x.value.toArray⟩) /\ W.cell? ⟨w.heap.size, 3, none⟩ = some (.string ⟨x.first.toArray⟩) /\ W.cell? ⟨w.heap.size, 4, none⟩ = some (.string ⟨x.last.toArray⟩) /\ W.cell? ⟨w.heap.size, 5, none⟩ = some (.slice a5 x.any.length c5) /\ W.cell? ⟨w.heap.size, 6, none⟩ = some (.slice a6 x.parts.length c6)) (first | exact ⟨q0, q1, q2, q3, q4, q5, q6⟩ | exact ⟨keepC q0 hb5, keepC q1 hb5, keepC q2 hb5, keepC q3 hb5, keepC q4 hb5, keepC q5 hb5, keepC q6 hb5⟩ | exact ⟨keepC (keepC q0 hb5) hb6, keepC (keepC q1 hb5) hb6, keepC (keepC q2 hb5) hb6, keepC (keepC q3 hb5) hb6, keepC (keepC q4 hb5) hb6, keepC (keepC q5 hb5) hb6, keepC (keepC q6 hb5) hb6⟩ | exact ⟨keepC (keepC (keepC q0 hb5) hb6) hb7, keepC (keepC (keepC q1 hb5) hb6) hb7, keepC (keepC (keepC q2 hb5) hb6) hb7, keepC (keepC (keepC q3 hb5) hb6) hb7, keepC (keepC (keepC q4 hb5) hb6) hb7, keepC (keepC (keepC q5 hb5) hb6) hb7, keepC (keepC (keepC q6 hb5) hb6) hb7⟩)
  (first | (go_at_call 11; (with_reducible refine hth.mono ?_); rintro e w5 ⟨v5, rfl, hfv5, hb5⟩; have hz5 := hzD.trans (hb5.mono hzD.size)) | (go_at_call 10; (with_reducible refine (HEV.out _ _ hfv5.ins hz5).mono ?_); rintro e w6 ⟨rfl, hb6⟩; have hz6 := hz5.trans (hb6.mono hz5.size)) | (go_at_call 12; (with_reducible refine (HRV.out _ hz6).mono ?_); rintro e w7 ⟨rfl, hb7⟩; have hz7 := hz6.trans (hb7.mono hz6.size)))
 all_goals (
  clear q0 q1 q2 q3 q4 q5 q6
  go_wp2_with fail
  go_ret
  exact ⟨by first | rfl | trivial, hz7⟩)
theorem lawfilterevals_c (n : Nat) (x : Fi) (v u : Value) (A : List EnS.At) (w : World) (h : FiIn n w v x) (hA : AttrsIn w u A) (hO : ∀ x ∈ A, AttrOf 1048576 x) (hN : 1 + EnS.sumBy EnS.cA A <= 1048576) (hE : Env w) : Calls Tryz.prog 3 #[v, u] w (True_ w) := filterevals_c n x v u A w h hA (fun a ha => (hO a ha).1) hN hE
end Go.Proofs.YtjmfknfponjgkaaGreatDoor
