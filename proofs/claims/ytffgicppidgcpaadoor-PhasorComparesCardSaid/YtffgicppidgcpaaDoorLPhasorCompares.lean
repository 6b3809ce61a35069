/- The row and the card of PhasorCompares: for every input the law returns true and its arguments read as they did. -/
import Derived.Test.YtffgicppidgcpaaDoorRow
import Derived.Test.YtffgicppidgcpaaDoorPht
import Derived.Test.YtffgicppidgcpaaDoorArr
namespace Go.Proofs.YtffgicppidgcpaaDoor.lPhasorCompares
open Go.ChangeShapes Go.WideShapes Go.ChangeAt Go.RowKit Go.ChangeMaps

set_option maxRecDepth 100000 in
theorem contract (H : Type) (enc : TypeId × Value → H) (W : World) (base : Nat) (args : Array Value) (ds gs : List (DataW H)) (before : List MemPlace)
    (hval : ∀ (j : Nat) t v, Tryd.f8.params[j]? = some t → args[j]? = some v → Value.okWide Tryd.prog W .any base t v)
    (hW : DataW.Whole enc Tryd.prog Tryd.f8.params.toList Rows.phasorComparesSpec.vars false W args.toList ds gs before)
    (hE : Env W) : Calls Tryd.prog 8 args W fun e W' => ∃ v, e = .returned v ∧ Rows.phasorComparesSpec.post enc Tryd.prog Tryd.f8 false true false false W args v W' := by
  have hW' := hW
  obtain ⟨p, q, hA0, hV, rfl, hfz, hnd⟩ := hW
  have hA : DataW.TrodAll enc Tryd.prog W 0 (fun _ => true) true Tryd.f8.params.toList args.toList ds p := hA0
  rw [Tryd.params8] at hA hval
  obtain ⟨v0, vs0, d0, ds0, p0, q0, hargs, rfl, rfl, h0, r0⟩ := trodAll_cons hA
  obtain ⟨rfl, rfl, rfl⟩ := trodAll_nil r0
  obtain rfl : args = #[v0] := by cases args; simp_all
  obtain ⟨rfl, rfl⟩ := trodVars_none hV
  obtain ⟨x0_0, x0_1, x0_2, x0_3, x0_4, x0_5, rfl, rfl, rfl, ok0_0, ok0_1, ok0_2, ok0_3, ok0_4, ok0_5⟩ := open_floats6 Tryd.underlying51 Tryd.underlying22 (by kernel_rfl) (by kernel_rfl) (hval 0 51 v0 rfl rfl) h0
  clear hA0
  simp only [List.append_nil] at hW'
  refine (compares_c x0_0 x0_1 x0_2 x0_3 x0_4 x0_5 (wd_of ok0_0) (wd_of ok0_1) (wd_of ok0_2) (wd_of ok0_3) (wd_of ok0_4) (wd_of ok0_5) W hE).mono fun e W' ⟨he, hb⟩ => ?_
  subst he
  exact ⟨_, rfl, post_below (pa := []) (pv := []) hW' (fun _ _ _ => trodAll_cons_mk (shut_bool Tryd.underlying4 _) trodAll_mk0) (fun _ _ => trodAll_cons_mk (shut_floats6 Tryd.underlying51 Tryd.underlying22 (by kernel_rfl) (by kernel_rfl) ok0_0 ok0_1 ok0_2 ok0_3 ok0_4 ok0_5) trodAll_mk0) (fun _ _ => rfl) rfl
    hb (ok_one (by kernel_rfl) rfl (okWide_bool_mk Tryd.underlying4 _))⟩

theorem reads (os : Os) {H : Type} (enc : TypeId × Value → H) : ∃ places, DataW.whole enc Tryd.prog ((World.laidAll Tryd.prog os theList).forCall (fun _ _ => 0) ⟨#[], #[.agg #[.float .f64 0, .float .f64 0, .float .f64 0, .float .f64 0, .float .f64 0, .float .f64 0]], []⟩).memory Tryd.f8.params.toList Rows.phasorComparesSpec.vars false (#[.agg #[.float .f64 0, .float .f64 0, .float .f64 0, .float .f64 0, .float .f64 0, .float .f64 0]] : Array Value).toList 8 = some ([.agg [.lit (.float .f64 0), .lit (.float .f64 0), .lit (.float .f64 0), .lit (.float .f64 0), .lit (.float .f64 0), .lit (.float .f64 0)]], [], places) :=
  ⟨[], by kernel_rfl⟩

set_option maxRecDepth 100000 in
theorem lifted (os : Os) (started : os.Started) (H : Type) (enc : TypeId × Value → H) (F : Stop.Interp) :
    ReturnsInHanded {} Tryd.checked os 8 .any ((OpenSpec.ofChange Rows.phasorComparesSpec).preRow enc Tryd.prog Tryd.f8 Rows.phasorComparesRow.domain false Rows.phasorComparesRow.laid) (((OpenSpec.ofChange Rows.phasorComparesSpec).at F).post enc Tryd.prog Tryd.f8 false true false false) := by
  obtain ⟨places, hx⟩ := reads os enc
  refine returnsInHanded_of_row (C := Tryd.checked) (s := (OpenSpec.ofChange Rows.phasorComparesSpec)) own started (by kernel_rfl) Tryd.func8
    (witness_shape (enc := enc) (C := Tryd.checked) (World.laidAll Tryd.prog os theList) #[.agg #[.float .f64 0, .float .f64 0, .float .f64 0, .float .f64 0, .float .f64 0, .float .f64 0]] (World.laidAll_os _ _ _) (listShape os _) (by kernel_rfl)
      (OpenSpec.preRow_of_cond 8 hx (by kernel_rfl) (fun k hk => by cases hk) (by kernel_rfl) (listMet os _))) ?_
  intro W base args ds gs before hval hW _ _ _ hL hsh _
  exact contract H enc W base args ds gs before hval hW (env_of hL hsh)

theorem said : Rows.PhasorComparesSaid :=
  OpenClaim.holds_of_cond 8 Tryd.f8 rfl rfl rfl rfl rfl rfl rfl ⟨rfl, rfl, rfl, rfl, rfl⟩ rfl rfl rfl rfl rfl (by kernel_rfl) Tryd.func8 (by kernel_rfl)
    (of_decide_eq_true (by kernel_rfl)) (by unfold Func.isWrapper; first | (rw [if_pos (by decide +kernel)]; kernel_rfl) | (rw [if_neg (by decide +kernel)]; exact ⟨rfl, rfl⟩))
    (fun os started H enc _ F => by rw [OpenClaim.pre_eq_preRow]; exact lifted os started H enc F)

theorem plain (f : FuncId) (fn : Func) (hf : Tryd.pinned.checked.prog.funcNamed "verger/vergerlaw03.PhasorCompares" = some f) (hfn : Tryd.pinned.checked.prog.funcs[f]? = some fn) :
    true = Tryd.pinned.checked.prog.looks [] ∧ ∀ (j : Nat) t, fn.params[j]? = some t → Tryd.pinned.checked.prog.wantsStandIn t = false := by
  obtain rfl : f = 8 := Option.some.inj ((show Tryd.prog.funcNamed "verger/vergerlaw03.PhasorCompares" = some 8 by kernel_rfl).symm.trans hf) |>.symm
  obtain rfl : fn = Tryd.f8 := (Option.some.inj (Tryd.func8.symm.trans hfn)).symm
  refine ⟨by kernel_rfl, fun j t ht => ?_⟩
  rw [Tryd.params8] at ht
  obtain rfl : t = 51 := by simpa using Array.mem_of_getElem? ht
  exact (show Tryd.prog.wantsStandIn 51 = false by kernel_rfl)

theorem card : Rows.PhasorComparesCardSaid :=
  Claim7.holds_tied_plain_at .later [] _ _ _ _ said (fun _ h => by cases h) (by kernel_rfl) (fun _ h => by cases h) phasorCompares_row_tie rfl ⟨rfl, rfl⟩ (by kernel_rfl) rfl plain (by kernel_rfl)
end Go.Proofs.YtffgicppidgcpaaDoor.lPhasorCompares
