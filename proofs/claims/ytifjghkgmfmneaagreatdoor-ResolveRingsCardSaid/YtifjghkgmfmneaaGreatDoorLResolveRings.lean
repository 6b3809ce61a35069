/- The row and the card of ResolveRings: for every input the law returns true and its arguments read as they did. -/
import Derived.Test.YtifjghkgmfmneaaGreatDoorRox
import Derived.Test.YtifjghkgmfmneaaGreatDoorAResolveRings
import Derived.Test.YtifjghkgmfmneaaGreatDoorBResolveRings
import Derived.Test.YtifjghkgmfmneaaGreatDoorRin
namespace Go.Proofs.YtifjghkgmfmneaaGreatDoor.lResolveRings
open Go.ChangeShapes Go.WideShapes Go.ChangeAt Go.RowKit Go.ChangeMaps

set_option maxRecDepth 100000 in
theorem contract (H : Type) (enc : TypeId × Value → H) (W : World) (base : Nat) (args : Array Value) (ds gs : List (DataW H)) (before : List MemPlace)
    (hval : ∀ (j : Nat) t v, Tryz.f5.params[j]? = some t → args[j]? = some v → Value.okWide Tryz.prog W .any base t v)
    (hW : DataW.Whole enc Tryz.prog Tryz.f5.params.toList Rows.resolveRingsSpec.vars false W args.toList ds gs before)
    (hE : Env W) : Calls Tryz.prog 5 args W fun e W' => ∃ v, e = .returned v ∧ Rows.resolveRingsSpec.post enc Tryz.prog Tryz.f5 false true false false W args v W' := by
  have hW' := hW
  obtain ⟨p, q, hA0, hV, rfl, hfz, hnd⟩ := hW
  have hA : DataW.TrodAll enc Tryz.prog W 0 (fun _ => true) true Tryz.f5.params.toList args.toList ds p := hA0
  rw [Tryz.params5] at hA hval
  obtain ⟨v0, vs0, d0, ds0, p0, q0, hargs, rfl, rfl, h0, r0⟩ := trodAll_cons hA
  obtain ⟨v1, vs1, d1, ds1, p1, q1, rfl, rfl, rfl, h1, r1⟩ := trodAll_cons r0
  obtain ⟨v2, vs2, d2, ds2, p2, q2, rfl, rfl, rfl, h2, r2⟩ := trodAll_cons r1
  obtain ⟨rfl, rfl, rfl⟩ := trodAll_nil r2
  obtain rfl : args = #[v0, v1, v2] := by cases args; simp_all
  obtain ⟨rfl, rfl⟩ := trodVars_none hV
  obtain ⟨x0, rfl, rfl, rfl, ok0⟩ := open_int Tryz.underlying5 (hval 0 5 v0 rfl rfl) h0
  obtain ⟨x1, rfl, rfl, rfl, ok1⟩ := open_int Tryz.underlying5 (hval 1 5 v1 rfl rfl) h1
  obtain ⟨x2, rfl, rfl, rfl⟩ := open_bool Tryz.underlying4 (hval 2 4 v2 rfl rfl) h2
  clear hA0
  simp only [List.append_nil] at hW'
  refine (lawresolverings_c x0 x1 x2 ok0 ok1 W hE).mono fun e W' ⟨he, hb⟩ => ?_
  subst he
  exact ⟨_, rfl, post_below (pa := []) (pv := []) hW' (fun _ _ _ => trodAll_cons_mk (shut_bool Tryz.underlying4 _) trodAll_mk0) (fun _ _ => trodAll_cons_mk (shut_int Tryz.underlying5 ok0) (trodAll_cons_mk (shut_int Tryz.underlying5 ok1) (trodAll_cons_mk (shut_bool Tryz.underlying4 _) trodAll_mk0))) (fun _ _ => rfl) rfl
    hb (ok_one (by kernel_rfl) rfl (okWide_bool_mk Tryz.underlying4 _))⟩

theorem reads (os : Os) {H : Type} (enc : TypeId × Value → H) : ∃ places, DataW.whole enc Tryz.prog ((World.laidAll Tryz.prog os theList).forCall (fun _ _ => 0) ⟨#[], #[.int .u8 0, .int .u8 0, .bool false], []⟩).memory Tryz.f5.params.toList Rows.resolveRingsSpec.vars false (#[.int .u8 0, .int .u8 0, .bool false] : Array Value).toList 8 = some ([.lit (.int .u8 0), .lit (.int .u8 0), .lit (.bool false)], [], places) :=
  ⟨[], by kernel_rfl⟩

set_option maxRecDepth 100000 in
theorem lifted (os : Os) (started : os.Started) (H : Type) (enc : TypeId × Value → H) (F : Stop.Interp) :
    ReturnsInHanded {} Tryz.checked os 5 .any ((OpenSpec.ofChange Rows.resolveRingsSpec).preRow enc Tryz.prog Tryz.f5 Rows.resolveRingsRow.domain false Rows.resolveRingsRow.laid) (((OpenSpec.ofChange Rows.resolveRingsSpec).at F).post enc Tryz.prog Tryz.f5 false true false false) := by
  obtain ⟨places, hx⟩ := reads os enc
  refine returnsInHanded_of_row (C := Tryz.checked) (s := (OpenSpec.ofChange Rows.resolveRingsSpec)) own started (by kernel_rfl) Tryz.func5
    (witness_shape (enc := enc) (C := Tryz.checked) (World.laidAll Tryz.prog os theList) #[.int .u8 0, .int .u8 0, .bool false] (World.laidAll_os _ _ _) (listShape os _) (by kernel_rfl)
      (OpenSpec.preRow_of_cond 8 hx (by kernel_rfl) (fun k hk => by cases hk) (by kernel_rfl) (listMet os _))) ?_
  intro W base args ds gs before hval hW _ _ _ hL hsh _
  exact contract H enc W base args ds gs before hval hW (env_of hL hsh)

theorem and_split {a b : Bool} (h1 : a = true) (h2 : b = true) : (a && b) = true := by rw [h1, h2]; rfl
theorem row_lifted : (Rows.resolveRingsRow.lifted == false) = true := by kernel_rfl
theorem row_make : (some Make.cut == some Rows.resolveRingsRow.make) = true := by kernel_rfl
set_option maxHeartbeats 4000000 in
theorem closed_ : joinedFacts Tryz.pinned.checked.prog 5 Tryz.f5 ((OpenSpec.ofChange Rows.resolveRingsSpec)).bare Rows.resolveRingsRow = true := by
  unfold joinedFacts
  repeat' (with_reducible refine and_split ?_ ?_)
  all_goals (first | with_reducible exact fact_inPlace | with_reducible exact fact_unfollowed | with_reducible exact fact_recurses | with_reducible exact fact_named | with_reducible exact shared_laid | with_reducible exact shared_maps | with_reducible exact shared_enters | (rw [shared_lifts]; exact row_lifted) | (rw [shared_make]; exact row_make) | (as_aux_lemma => kernel_rfl))
theorem inst_ : Tryz.f5.isInstance Tryz.pinned.checked.prog Rows.resolveRingsRow.origin Rows.resolveRingsRow.targs := of_decide_eq_true (by kernel_rfl)
theorem named_ : Tryz.pinned.checked.prog.funcNamed Rows.resolveRingsRow.func = some 5 := by kernel_rfl
theorem said : Rows.ResolveRingsSaid :=
  OpenClaim.holds_of_cond 5 Tryz.f5 rfl rfl rfl rfl rfl rfl rfl ⟨rfl, rfl, rfl, rfl, rfl⟩ rfl rfl rfl rfl rfl named_ Tryz.func5 closed_ inst_
    (by unfold Func.isWrapper; first | (rw [if_pos (by decide +kernel)]; kernel_rfl) | (rw [if_neg (by decide +kernel)]; exact ⟨rfl, rfl⟩))
    (fun os started H enc _ F => by rw [OpenClaim.pre_eq_preRow]; exact lifted os started H enc F)

theorem plain (f : FuncId) (fn : Func) (hf : Tryz.pinned.checked.prog.funcNamed "verger/vergerlaw13.ResolveRings" = some f) (hfn : Tryz.pinned.checked.prog.funcs[f]? = some fn) :
    true = Tryz.pinned.checked.prog.looks [] ∧ ∀ (j : Nat) t, fn.params[j]? = some t → Tryz.pinned.checked.prog.wantsStandIn t = false := by
  obtain rfl : f = 5 := Option.some.inj ((show Tryz.prog.funcNamed "verger/vergerlaw13.ResolveRings" = some 5 by kernel_rfl).symm.trans hf) |>.symm
  obtain rfl : fn = Tryz.f5 := (Option.some.inj (Tryz.func5.symm.trans hfn)).symm
  refine ⟨shared_looks, fun j t ht => ?_⟩
  rw [Tryz.params5] at ht
  have hm := Array.mem_of_getElem? ht
  have hm2 : t = 5 ∨ t = 4 := by simpa [or_assoc] using hm
  rcases hm2 with rfl | rfl
  · exact (show Tryz.prog.wantsStandIn 5 = false by kernel_rfl)
  · exact (show Tryz.prog.wantsStandIn 4 = false by kernel_rfl)

theorem card : Rows.ResolveRingsCardSaid :=
  Claim7.holds_tied_plain_at .later [] _ _ _ _ said (fun _ h => by cases h) (by kernel_rfl) (fun _ h => by cases h) resolveRings_row_tie rfl ⟨rfl, rfl⟩ (by kernel_rfl) rfl plain fact_goes
end Go.Proofs.YtifjghkgmfmneaaGreatDoor.lResolveRings
