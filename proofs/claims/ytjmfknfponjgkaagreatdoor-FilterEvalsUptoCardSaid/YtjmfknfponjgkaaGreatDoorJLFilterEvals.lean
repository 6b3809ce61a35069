/- The row and the card of FilterEvals: for every input of bulk at most 1048576 the law returns true and its arguments read as they did. -/
import Derived.Test.YtjmfknfponjgkaaGreatDoorJRow
import Derived.Test.YtjmfknfponjgkaaGreatDoorJAFilterEvals
import Derived.Test.YtjmfknfponjgkaaGreatDoorJBFilterEvals
import Derived.Test.YtjmfknfponjgkaaGreatDoorJGFilterEvals
import Derived.Test.YtjmfknfponjgkaaGreatDoorJFjf
import Derived.Test.YtjmfknfponjgkaaGreatDoorJRwe
set_option maxRecDepth 100000
set_option maxHeartbeats 4000000
namespace Go.Proofs.YtjmfknfponjgkaaGreatDoor.lFilterEvals
open Go.ChangeShapes Go.WideShapes Go.ChangeAt Go.RowKit Go.ChangeMaps
theorem laid_ : laidOutB Tryz.prog = true := shared_laid
theorem contract (H : Type) (enc : TypeId × Value -> H) (W : World) (base : Nat) (args : Array Value) (ds gs : List (DataW H)) (before : List MemPlace)
  (hval : ∀ (j : Nat) t v, Tryz.f3.params[j]? = some t -> args[j]? = some v -> Value.okWide Tryz.prog W .any base t v)
  (hW : DataW.Whole enc Tryz.prog Tryz.f3.params.toList Rows.filterEvalsSpec.vars false W args.toList ds gs before)
  (hcond : Rows.uptoSmall H (ds ++ gs) = true)
  (hE : Env W) : Calls Tryz.prog 3 args W fun e W' => ∃ v, e = .returned v /\ Rows.filterEvalsSpec.post enc Tryz.prog Tryz.f3 false true false false W args v W' := by
 have hW' := hW
 obtain ⟨p, q, hA0, hV, rfl, hfz, hnd⟩ := hW
 have hA : DataW.TrodAll enc Tryz.prog W 0 (fun _ => true) true Tryz.f3.params.toList args.toList ds p := hA0
 rw [Tryz.params3] at hA hval
 obtain ⟨v0, vs0, d0, ds0, p0, q0, hargs, rfl, rfl, h0, r0⟩ := trodAll_cons hA
 obtain ⟨v1, vs1, d1, ds1, p1, q1, rfl, rfl, rfl, h1, r1⟩ := trodAll_cons r0
 obtain ⟨rfl, rfl, rfl⟩ := trodAll_nil r1
 obtain rfl : args = #[v0, v1] := by cases args; simp_all
 obtain ⟨rfl, rfl⟩ := trodVars_none hV
 have hbk := of_decide_eq_true hcond
 simp only [List.append_nil, Rows.uptoBulkAll] at hbk
 have hb0 : Rows.uptoBulk d0 <= 1048576 := by omega
 have hb1 : Rows.uptoBulk d1 <= 1048576 := by omega
 obtain ⟨x0, n0, hx0⟩ := open_fi (hval 0 25 v0 rfl rfl) h0
 obtain ⟨x1, hx1, ok1⟩ := open_attrs (hval 1 26 v1 rfl rfl) h1 hb1
 clear hA0
 simp only [List.append_nil] at hW'
 refine (lawfilterevals_c n0 x0 v0 v1 x1 W hx0 hx1 ok1.2.1 (by have h2 := ok1.2.2; omega) hE).mono fun e W' ⟨he, hb⟩ => ?_
 subst he
 have hlt := hW'.lt
 exact ⟨_, rfl, post_below (pa := p0 ++ (p1 ++ ([]))) (pv := []) hW' (fun _ _ _ => trodAll_cons_mk (shut_bool Tryz.underlying4 _) trodAll_mk0) (fun sp hsp => trodAll_cons_mk (WideElems.Trod_stays laid_ (by kernel_rfl) (of_decide_eq_true (by kernel_rfl)) h0 (fun x hx => hb.same (hlt x (by simp [hx]))) (fun x hx => hsp x (by simp [hx]))) (trodAll_cons_mk (WideElems.Trod_stays laid_ (by kernel_rfl) (of_decide_eq_true (by kernel_rfl)) h1 (fun x hx => hb.same (hlt x (by simp [hx]))) (fun x hx => hsp x (by simp [hx]))) trodAll_mk0)) (fun _ _ => rfl) (by simp)
  hb (ok_one (by kernel_rfl) rfl (okWide_bool_mk Tryz.underlying4 _))⟩
theorem reads (os : Os) {H : Type} (enc : TypeId × Value -> H) : ∃ places, DataW.whole enc Tryz.prog ((World.laidAll Tryz.prog os theList).forCall (fun _ _ => 0) ⟨#[], #[.agg #[.int .i64 0, .string ⟨#[]⟩, .string ⟨#[]⟩, .string ⟨#[]⟩, .string ⟨#[]⟩, .slice none 0 0, .slice none 0 0], .slice none 0 0], []⟩).memory Tryz.f3.params.toList Rows.filterEvalsSpec.vars false (#[.agg #[.int .i64 0, .string ⟨#[]⟩, .string ⟨#[]⟩, .string ⟨#[]⟩, .string ⟨#[]⟩, .slice none 0 0, .slice none 0 0], .slice none 0 0] : Array Value).toList 8 = some ([.agg [.lit (.int .i64 0), .lit (.string []), .lit (.string []), .lit (.string []), .lit (.string []), .nil, .nil], .nil], [], places) :=
 ⟨[], by kernel_rfl⟩
theorem lifted (os : Os) (started : os.Started) (H : Type) (enc : TypeId × Value -> H) (F : Stop.Interp) :
  ReturnsInHanded {} Tryz.checked os 3 .any ((Rows.OpenSpec.upto Rows.filterEvalsSpec).preRow enc Tryz.prog Tryz.f3 Rows.filterEvalsUptoRow.domain false Rows.filterEvalsUptoRow.laid) (((Rows.OpenSpec.upto Rows.filterEvalsSpec).at F).post enc Tryz.prog Tryz.f3 false true false false) := by
 obtain ⟨places, hx⟩ := reads os enc
 refine returnsInHanded_of_row (C := Tryz.checked) (s := (Rows.OpenSpec.upto Rows.filterEvalsSpec)) own started (by kernel_rfl) Tryz.func3
  (witness_shape (enc := enc) (C := Tryz.checked) (World.laidAll Tryz.prog os theList) #[.agg #[.int .i64 0, .string ⟨#[]⟩, .string ⟨#[]⟩, .string ⟨#[]⟩, .string ⟨#[]⟩, .slice none 0 0, .slice none 0 0], .slice none 0 0] (World.laidAll_os _ _ _) (listShape os _) (by kernel_rfl)
    (OpenSpec.preRow_of_cond 8 hx (by kernel_rfl) (fun k hk => by cases hk; kernel_rfl) (by kernel_rfl) (listMet os _))) ?_
 intro W base args ds gs before hval hW _ hcond _ hL hsh _
 exact contract H enc W base args ds gs before hval hW (hcond _ rfl) (env_of hL hsh)
theorem and_split {a b : Bool} (h1 : a = true) (h2 : b = true) : (a && b) = true := by rw [h1, h2]; rfl
theorem row_lifted : (Rows.filterEvalsUptoRow.lifted == false) = true := by kernel_rfl
theorem row_make : (some Make.cut == some Rows.filterEvalsUptoRow.make) = true := by kernel_rfl
theorem closed_ : joinedFacts Tryz.pinned.checked.prog 3 Tryz.f3 ((Rows.OpenSpec.upto Rows.filterEvalsSpec)).bare Rows.filterEvalsUptoRow = true := by
 unfold joinedFacts
 repeat' (with_reducible refine and_split ?_ ?_)
 all_goals (first | with_reducible exact fact_inPlace | with_reducible exact fact_unfollowed | with_reducible exact fact_recurses | with_reducible exact fact_named | with_reducible exact shared_laid | with_reducible exact shared_maps | with_reducible exact shared_enters | (rw [shared_lifts]; exact row_lifted) | (rw [shared_make]; exact row_make) | (as_aux_lemma => kernel_rfl))
theorem inst_ : Tryz.f3.isInstance Tryz.pinned.checked.prog Rows.filterEvalsUptoRow.origin Rows.filterEvalsUptoRow.targs := of_decide_eq_true (by kernel_rfl)
theorem named_ : Tryz.pinned.checked.prog.funcNamed Rows.filterEvalsUptoRow.func = some 3 := by kernel_rfl
theorem said : Rows.FilterEvalsUptoSaid :=
 OpenClaim.holds_of_cond 3 Tryz.f3 rfl rfl rfl rfl rfl rfl rfl ⟨rfl, rfl, rfl, rfl, rfl⟩ rfl rfl rfl rfl rfl named_ Tryz.func3 closed_ inst_
  (by unfold Func.isWrapper; first | (rw [if_pos (by decide +kernel)]; kernel_rfl) | (rw [if_neg (by decide +kernel)]; exact ⟨rfl, rfl⟩))
  (fun os started H enc _ F => by rw [OpenClaim.pre_eq_preRow]; exact lifted os started H enc F)
theorem plain (f : FuncId) (fn : Func) (hf : Tryz.pinned.checked.prog.funcNamed "verger/vergerlaw07.FilterEvals" = some f) (hfn : Tryz.pinned.checked.prog.funcs[f]? = some fn) :
  true = Tryz.pinned.checked.prog.looks [] /\ ∀ (j : Nat) t, fn.params[j]? = some t -> Tryz.pinned.checked.prog.wantsStandIn t = false := by
 obtain rfl : f = 3 := Option.some.inj ((show Tryz.prog.funcNamed "verger/vergerlaw07.FilterEvals" = some 3 by kernel_rfl).symm.trans hf) |>.symm
 obtain rfl : fn = Tryz.f3 := (Option.some.inj (Tryz.func3.symm.trans hfn)).symm
 refine ⟨shared_looks, fun j t ht => ?_⟩
 rw [Tryz.params3] at ht
 have hm := Array.mem_of_getElem? ht
 have hm2 : t = 25 \/ t = 26 := by simpa [or_assoc] using hm
 rcases hm2 with rfl | rfl
 · exact (show Tryz.prog.wantsStandIn 25 = false by kernel_rfl)
 · exact (show Tryz.prog.wantsStandIn 26 = false by kernel_rfl)
theorem card : Rows.FilterEvalsUptoCardSaid :=
 Claim7.holds_tied_plain_at .later [] _ _ _ _ said (fun _ h => by cases h) (by kernel_rfl) (fun _ h => by cases h) filterEvalsUpto_row_tie rfl ⟨rfl, rfl⟩ (by kernel_rfl) rfl plain fact_goes
end Go.Proofs.YtjmfknfponjgkaaGreatDoor.lFilterEvals
