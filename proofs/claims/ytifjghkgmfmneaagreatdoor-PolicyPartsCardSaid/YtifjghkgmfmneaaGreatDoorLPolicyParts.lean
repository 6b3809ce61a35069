/- The row and the card of PolicyParts: for every input the law returns true and its arguments read as they did. -/
import Derived.Test.YtifjghkgmfmneaaGreatDoorRox
import Derived.Test.YtifjghkgmfmneaaGreatDoorAPolicyParts
import Derived.Test.YtifjghkgmfmneaaGreatDoorBPolicyParts
import Derived.Test.YtifjghkgmfmneaaGreatDoorPoz
import Derived.Test.YtifjghkgmfmneaaGreatDoorRwc
namespace Go.Proofs.YtifjghkgmfmneaaGreatDoor.lPolicyParts
open Go.ChangeShapes Go.WideShapes Go.ChangeAt Go.RowKit Go.ChangeMaps

theorem laid_ : laidOutB Tryz.prog = true := shared_laid
set_option maxRecDepth 100000 in
theorem contract (H : Type) (enc : TypeId × Value → H) (W : World) (base : Nat) (args : Array Value) (ds gs : List (DataW H)) (before : List MemPlace)
    (hval : ∀ (j : Nat) t v, Tryz.f3.params[j]? = some t → args[j]? = some v → Value.okWide Tryz.prog W .any base t v)
    (hW : DataW.Whole enc Tryz.prog Tryz.f3.params.toList Rows.policyPartsSpec.vars false W args.toList ds gs before)
    (hsz : (DataW.weightsEach Tryz.prog (Tryz.f3.params.toList ++ (OpenSpec.ofChange Rows.policyPartsSpec).bare.plain.varTypes Tryz.prog) (ds ++ gs)).all (· ≤ reachBytes) = true)
    (hE : Env W) : Calls Tryz.prog 3 args W fun e W' => ∃ v, e = .returned v ∧ Rows.policyPartsSpec.post enc Tryz.prog Tryz.f3 false true false false W args v W' := by
  have hW' := hW
  obtain ⟨p, q, hA0, hV, rfl, hfz, hnd⟩ := hW
  have hA : DataW.TrodAll enc Tryz.prog W 0 (fun _ => true) true Tryz.f3.params.toList args.toList ds p := hA0
  rw [Tryz.params3] at hA hval hsz
  obtain ⟨v0, vs0, d0, ds0, p0, q0, hargs, rfl, rfl, h0, r0⟩ := trodAll_cons hA
  obtain ⟨v1, vs1, d1, ds1, p1, q1, rfl, rfl, rfl, h1, r1⟩ := trodAll_cons r0
  obtain ⟨v2, vs2, d2, ds2, p2, q2, rfl, rfl, rfl, h2, r2⟩ := trodAll_cons r1
  obtain ⟨rfl, rfl, rfl⟩ := trodAll_nil r2
  obtain rfl : args = #[v0, v1, v2] := by cases args; simp_all
  obtain ⟨rfl, rfl⟩ := trodVars_none hV
  obtain ⟨x0, hx0, ok0⟩ := open_rules (hval 0 22 v0 rfl rfl) h0 (weights_at (j := 0) hsz (by rfl) (by rfl))
  obtain ⟨x1, rfl, rfl, rfl, ok1⟩ := open_int Tryz.underlying3 (hval 1 3 v1 rfl rfl) h1
  obtain ⟨x2, hx2, ok2⟩ := open_asked (hval 2 24 v2 rfl rfl) h2 (weights_at (j := 2) hsz (by rfl) (by rfl))
  subst hx2
  clear hA0
  simp only [List.append_nil] at hW'
  refine (lawpolicyparts_c v0 x0 x1 x2 W hx0 ok0.1 ok0.2 ok2 hE).mono fun e W' ⟨he, hb⟩ => ?_
  subst he
  have hlt := hW'.lt
  exact ⟨_, rfl, post_below (pa := p0 ++ ([] ++ (p2 ++ ([])))) (pv := []) hW' (fun _ _ _ => trodAll_cons_mk (shut_bool Tryz.underlying4 _) trodAll_mk0) (fun sp hsp => trodAll_cons_mk (WideElems.Trod_stays laid_ (by kernel_rfl) (of_decide_eq_true (by kernel_rfl)) h0 (fun x hx => hb.same (hlt x (by simp [hx]))) (fun x hx => hsp x (by simp [hx]))) (trodAll_cons_mk (shut_int Tryz.underlying3 ok1) (trodAll_cons_mk (WideElems.Trod_stays laid_ (by kernel_rfl) (of_decide_eq_true (by kernel_rfl)) h2 (fun x hx => hb.same (hlt x (by simp [hx]))) (fun x hx => hsp x (by simp [hx]))) trodAll_mk0))) (fun _ _ => rfl) (by simp)
    hb (ok_one (by kernel_rfl) rfl (okWide_bool_mk Tryz.underlying4 _))⟩

theorem reads (os : Os) {H : Type} (enc : TypeId × Value → H) : ∃ places, DataW.whole enc Tryz.prog ((World.laidAll Tryz.prog os theList).forCall (fun _ _ => 0) ⟨#[], #[.slice none 0 0, .int .i64 0, .agg #[.string ⟨#[]⟩, .string ⟨#[]⟩, .string ⟨#[]⟩, .int .i64 0]], []⟩).memory Tryz.f3.params.toList Rows.policyPartsSpec.vars false (#[.slice none 0 0, .int .i64 0, .agg #[.string ⟨#[]⟩, .string ⟨#[]⟩, .string ⟨#[]⟩, .int .i64 0]] : Array Value).toList 8 = some ([.nil, .lit (.int .i64 0), .agg [.lit (.string []), .lit (.string []), .lit (.string []), .lit (.int .i64 0)]], [], places) :=
  ⟨[], by kernel_rfl⟩

set_option maxRecDepth 100000 in
theorem lifted (os : Os) (started : os.Started) (H : Type) (enc : TypeId × Value → H) (F : Stop.Interp) :
    ReturnsInHanded {} Tryz.checked os 3 .any ((OpenSpec.ofChange Rows.policyPartsSpec).preRow enc Tryz.prog Tryz.f3 Rows.policyPartsRow.domain false Rows.policyPartsRow.laid) (((OpenSpec.ofChange Rows.policyPartsSpec).at F).post enc Tryz.prog Tryz.f3 false true false false) := by
  obtain ⟨places, hx⟩ := reads os enc
  refine returnsInHanded_of_row (C := Tryz.checked) (s := (OpenSpec.ofChange Rows.policyPartsSpec)) own started (by kernel_rfl) Tryz.func3
    (witness_shape (enc := enc) (C := Tryz.checked) (World.laidAll Tryz.prog os theList) #[.slice none 0 0, .int .i64 0, .agg #[.string ⟨#[]⟩, .string ⟨#[]⟩, .string ⟨#[]⟩, .int .i64 0]] (World.laidAll_os _ _ _) (listShape os _) (by kernel_rfl)
      (OpenSpec.preRow_of_cond 8 hx (by kernel_rfl) (fun k hk => by cases hk) (by kernel_rfl) (listMet os _))) ?_
  intro W base args ds gs before hval hW _ _ hsz hL hsh _
  exact contract H enc W base args ds gs before hval hW hsz (env_of hL hsh)

theorem and_split {a b : Bool} (h1 : a = true) (h2 : b = true) : (a && b) = true := by rw [h1, h2]; rfl
set_option maxHeartbeats 4000000 in
theorem closed_ : joinedFacts Tryz.pinned.checked.prog 3 Tryz.f3 ((OpenSpec.ofChange Rows.policyPartsSpec)).bare Rows.policyPartsRow = true := by
  unfold joinedFacts
  repeat' (with_reducible refine and_split ?_ ?_)
  all_goals (first | with_reducible exact fact_inPlace | with_reducible exact fact_unfollowed | with_reducible exact fact_recurses | with_reducible exact fact_named | with_reducible exact shared_laid | with_reducible exact shared_maps | (as_aux_lemma => kernel_rfl))
theorem inst_ : Tryz.f3.isInstance Tryz.pinned.checked.prog Rows.policyPartsRow.origin Rows.policyPartsRow.targs := of_decide_eq_true (by kernel_rfl)
theorem named_ : Tryz.pinned.checked.prog.funcNamed Rows.policyPartsRow.func = some 3 := by kernel_rfl
theorem said : Rows.PolicyPartsSaid :=
  OpenClaim.holds_of_cond 3 Tryz.f3 rfl rfl rfl rfl rfl rfl rfl ⟨rfl, rfl, rfl, rfl, rfl⟩ rfl rfl rfl rfl rfl named_ Tryz.func3 closed_ inst_
    (by unfold Func.isWrapper; first | (rw [if_pos (by decide +kernel)]; kernel_rfl) | (rw [if_neg (by decide +kernel)]; exact ⟨rfl, rfl⟩))
    (fun os started H enc _ F => by rw [OpenClaim.pre_eq_preRow]; exact lifted os started H enc F)

theorem plain (f : FuncId) (fn : Func) (hf : Tryz.pinned.checked.prog.funcNamed "verger/vergerlaw11.PolicyParts" = some f) (hfn : Tryz.pinned.checked.prog.funcs[f]? = some fn) :
    true = Tryz.pinned.checked.prog.looks [] ∧ ∀ (j : Nat) t, fn.params[j]? = some t → Tryz.pinned.checked.prog.wantsStandIn t = false := by
  obtain rfl : f = 3 := Option.some.inj ((show Tryz.prog.funcNamed "verger/vergerlaw11.PolicyParts" = some 3 by kernel_rfl).symm.trans hf) |>.symm
  obtain rfl : fn = Tryz.f3 := (Option.some.inj (Tryz.func3.symm.trans hfn)).symm
  refine ⟨shared_looks, fun j t ht => ?_⟩
  rw [Tryz.params3] at ht
  have hm := Array.mem_of_getElem? ht
  have hm2 : t = 22 ∨ t = 3 ∨ t = 24 := by simpa [or_assoc] using hm
  rcases hm2 with rfl | rfl | rfl
  · exact (show Tryz.prog.wantsStandIn 22 = false by kernel_rfl)
  · exact (show Tryz.prog.wantsStandIn 3 = false by kernel_rfl)
  · exact (show Tryz.prog.wantsStandIn 24 = false by kernel_rfl)

theorem card : Rows.PolicyPartsCardSaid :=
  Claim7.holds_tied_plain_at .later [] _ _ _ _ said (fun _ h => by cases h) (by kernel_rfl) (fun _ h => by cases h) policyParts_row_tie rfl ⟨rfl, rfl⟩ (by kernel_rfl) rfl plain fact_goes
end Go.Proofs.YtifjghkgmfmneaaGreatDoor.lPolicyParts
