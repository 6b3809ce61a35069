/- The row and the card of SearchSizes: for every input of bulk at most 1048576 the law returns true and its arguments read as they did. -/
import Derived.Test.YtgngjfjaelgaeaaGreatDoorKRox
import Derived.Test.YtgngjfjaelgaeaaGreatDoorKASearchSizes
import Derived.Test.YtgngjfjaelgaeaaGreatDoorKBSearchSizes
import Derived.Test.YtgngjfjaelgaeaaGreatDoorKGSearchSizes
import Derived.Test.YtgngjfjaelgaeaaGreatDoorKRwg
set_option maxRecDepth 100000
set_option maxHeartbeats 4000000
namespace Go.Proofs.YtgngjfjaelgaeaaGreatDoor.lSearchSizes
open Go.ChangeShapes Go.WideShapes Go.ChangeAt Go.RowKit Go.ChangeMaps
theorem Ad2:laidOutB Tryz.prog=true:=NG
theorem contract (H:Type) (enc:TypeId × Value->H) (W:World) (base:Nat) (args:Array Value) (ds gs:List (DataW H)) (before:List MemPlace)
  (A0:∀(j:Nat) t v,Tryz.f4.params[j]?=some t->args[j]?=some v->Value.okWide Tryz.prog W .any base t v)
  (hW:DataW.Whole enc Tryz.prog Tryz.f4.params.toList Rows.searchSizesSpec.vars false W args.toList ds gs before)
  (A1:Rows.uptoSmall H (ds++gs)=true)
  (hE:Env W):Calls Tryz.prog 4 args W fun e W'=>∃v,e=.returned v/\Rows.searchSizesSpec.post enc Tryz.prog Tryz.f4 false true false false W args v W':=by
 have A2:=hW
 obtain ⟨p,q,hA0,hV,rfl,B6,B5⟩:=hW
 have hA:DataW.TrodAll enc Tryz.prog W 0 (fun _=>true) true Tryz.f4.params.toList args.toList ds p:=hA0
 rw [Tryz.params4] at hA A0
 obtain ⟨v0,B7,d0,B3,p0,q0,A3,rfl,rfl,h0,r0⟩:=trodAll_cons hA
 obtain ⟨v1,B0,d1,A9,p1,q1,rfl,rfl,rfl,h1,r1⟩:=trodAll_cons r0
 obtain ⟨v2,B4,d2,B1,p2,q2,rfl,rfl,rfl,h2,r2⟩:=trodAll_cons r1
 obtain ⟨rfl,rfl,rfl⟩:=trodAll_nil r2
 obtain rfl:args=#[v0,v1,v2]:=by cases args;simp_all
 obtain ⟨rfl,rfl⟩:=trodVars_none hV
 have A6:=of_decide_eq_true A1
 simp only [List.append_nil,Rows.uptoBulkAll] at A6
 have hb0:Rows.uptoBulk d0<=1048576:=by omega
 have A7:Rows.uptoBulk d1<=1048576:=by omega
 have B2:Rows.uptoBulk d2<=1048576:=by omega
 obtain ⟨x0,A8,ok0⟩:=Adk (A0 0 22 v0 rfl rfl) h0 hb0
 obtain ⟨x1,n1,hx1,ok1⟩:=Adl (A0 1 28 v1 rfl rfl) h1 A7
 obtain ⟨x2,rfl,rfl,rfl,ok2⟩:=open_int Tryz.underlying5 (A0 2 5 v2 rfl rfl) h2
 clear hA0
 simp only [List.append_nil] at A2
 refine (Oi n1 x0 x1 v0 v1 x2 W A8 (Nat.le_trans (Nat.le_of_succ_le ok0.2.2) hb0) ok0.2.1 hx1 ok1.1 ok1.2.2 ok2 hE).mono fun e W' ⟨he,hb⟩=>?_
 subst he
 have A5:=A2.lt
 exact ⟨_,rfl,YH (pa:=p0++(p1++([]++([])))) (pv:=[]) A2 (fun _ _ _=>trodAll_cons_mk (shut_bool Tryz.underlying4 _) trodAll_mk0) (fun sp A4=>trodAll_cons_mk (WideElems.Trod_stays Ad2 (by kernel_rfl) (of_decide_eq_true (by kernel_rfl)) h0 (fun x hx=>hb.same (A5 x (by simp [hx]))) (fun x hx=>A4 x (by simp [hx]))) (trodAll_cons_mk (WideElems.Trod_stays Ad2 (by kernel_rfl) (of_decide_eq_true (by kernel_rfl)) h1 (fun x hx=>hb.same (A5 x (by simp [hx]))) (fun x hx=>A4 x (by simp [hx]))) (trodAll_cons_mk (shut_int Tryz.underlying5 ok2) trodAll_mk0))) (fun _ _=>rfl) (by simp)
  hb (ok_one (by kernel_rfl) rfl (okWide_bool_mk Tryz.underlying4 _))⟩
theorem reads (os:Os) {H:Type} (enc:TypeId × Value->H):∃places,DataW.whole enc Tryz.prog ((World.laidAll Tryz.prog os Dy).forCall (fun _ _=>0) ⟨#[],#[.slice none 0 0,.agg #[.string ⟨#[]⟩,.int .i64 0,.int .i64 0,.int .i64 0,.string ⟨#[]⟩,.string ⟨#[]⟩,.string ⟨#[]⟩,.string ⟨#[]⟩,.slice none 0 0,.slice none 0 0,.slice none 0 0,.bool false,.int .i64 0],.int .u8 0],[]⟩).memory Tryz.f4.params.toList Rows.searchSizesSpec.vars false (#[.slice none 0 0,.agg #[.string ⟨#[]⟩,.int .i64 0,.int .i64 0,.int .i64 0,.string ⟨#[]⟩,.string ⟨#[]⟩,.string ⟨#[]⟩,.string ⟨#[]⟩,.slice none 0 0,.slice none 0 0,.slice none 0 0,.bool false,.int .i64 0],.int .u8 0]:Array Value).toList 8=some ([.nil,.agg [.lit (.string []),.lit (.int .i64 0),.lit (.int .i64 0),.agg [.lit (.int .i64 0),.lit (.string []),.lit (.string []),.lit (.string []),.lit (.string []),.nil,.nil],.nil,.lit (.bool false),.lit (.int .i64 0)],.lit (.int .u8 0)],[],places):=
 ⟨[],by kernel_rfl⟩
theorem lifted (os:Os) (started:os.Started) (H:Type) (enc:TypeId × Value->H) (F:Stop.Interp):
  ReturnsInHanded {} Tryz.checked os 4 .any ((Rows.OpenSpec.upto Rows.searchSizesSpec).preRow enc Tryz.prog Tryz.f4 Rows.searchSizesUptoRow.domain false Rows.searchSizesUptoRow.laid) (((Rows.OpenSpec.upto Rows.searchSizesSpec).at F).post enc Tryz.prog Tryz.f4 false true false false):=by
 obtain ⟨places,hx⟩:=reads os enc
 refine returnsInHanded_of_row (C:=Tryz.checked) (s:=(Rows.OpenSpec.upto Rows.searchSizesSpec)) own started (by kernel_rfl) Tryz.func4
  (SD (enc:=enc) (C:=Tryz.checked) (World.laidAll Tryz.prog os Dy) #[.slice none 0 0,.agg #[.string ⟨#[]⟩,.int .i64 0,.int .i64 0,.int .i64 0,.string ⟨#[]⟩,.string ⟨#[]⟩,.string ⟨#[]⟩,.string ⟨#[]⟩,.slice none 0 0,.slice none 0 0,.slice none 0 0,.bool false,.int .i64 0],.int .u8 0] (World.laidAll_os _ _ _) (Abn os _) (by kernel_rfl)
    (OpenSpec.preRow_of_cond 8 hx (by kernel_rfl) (fun k hk=>by cases hk;kernel_rfl) (by kernel_rfl) (Aeq os _))) ?_
 intro W base args ds gs before A1 hW _ A0 _ hL A2 _
 exact contract H enc W base args ds gs before A1 hW (A0 _ rfl) (AeV hL A2)
theorem and_split {a b:Bool} (h1:a=true) (h2:b=true):(a&&b)=true:=by rw [h1,h2];rfl
theorem XX:(Rows.searchSizesUptoRow.lifted==false)=true:=by kernel_rfl
theorem Ac4:(some Make.cut==some Rows.searchSizesUptoRow.make)=true:=by kernel_rfl
theorem AdQ:joinedFacts Tryz.pinned.checked.prog 4 Tryz.f4 ((Rows.OpenSpec.upto Rows.searchSizesSpec)).bare Rows.searchSizesUptoRow=true:=by
 unfold joinedFacts
 repeat' (with_reducible refine and_split ?_ ?_)
 all_goals (first | with_reducible exact Tc | with_reducible exact Ot | with_reducible exact RQ | with_reducible exact XI | with_reducible exact NG | with_reducible exact Wu | with_reducible exact SE | (rw [UX];exact XX) | (rw [Wv];exact Ac4) | (as_aux_lemma=>kernel_rfl))
theorem Afh:Tryz.f4.isInstance Tryz.pinned.checked.prog Rows.searchSizesUptoRow.origin Rows.searchSizesUptoRow.targs:=of_decide_eq_true (by kernel_rfl)
theorem AeK:Tryz.pinned.checked.prog.funcNamed Rows.searchSizesUptoRow.func=some 4:=by kernel_rfl
theorem said:Rows.SearchSizesUptoSaid:=
 OpenClaim.holds_of_cond 4 Tryz.f4 rfl rfl rfl rfl rfl rfl rfl ⟨rfl,rfl,rfl,rfl,rfl⟩ rfl rfl rfl rfl rfl AeK Tryz.func4 AdQ Afh
  (by unfold Func.isWrapper;first | (rw [if_pos (by decide+kernel)];kernel_rfl) | (rw [if_neg (by decide+kernel)];exact ⟨rfl,rfl⟩))
  (fun os started H enc _ F=>by rw [OpenClaim.pre_eq_preRow];exact lifted os started H enc F)
theorem plain (f:FuncId) (fn:Func) (hf:Tryz.pinned.checked.prog.funcNamed "verger/vergerlaw14.SearchSizes"=some f) (A0:Tryz.pinned.checked.prog.funcs[f]?=some fn):
  true=Tryz.pinned.checked.prog.looks []/\∀(j:Nat) t,fn.params[j]?=some t->Tryz.pinned.checked.prog.wantsStandIn t=false:=by
 obtain rfl:f=4:=Option.some.inj ((show Tryz.prog.funcNamed "verger/vergerlaw14.SearchSizes"=some 4 by kernel_rfl).symm.trans hf) |>.symm
 obtain rfl:fn=Tryz.f4:=(Option.some.inj (Tryz.func4.symm.trans A0)).symm
 refine ⟨UW,fun j t ht=>?_⟩
 rw [Tryz.params4] at ht
 have hm:=Array.mem_of_getElem? ht
 have A1:t=22\/t=28\/t=5:=by simpa [or_assoc] using hm
 rcases A1 with rfl | rfl | rfl
 · exact (show Tryz.prog.wantsStandIn 22=false by kernel_rfl)
 · exact (show Tryz.prog.wantsStandIn 28=false by kernel_rfl)
 · exact (show Tryz.prog.wantsStandIn 5=false by kernel_rfl)
theorem card:Rows.SearchSizesUptoCardSaid:=
 Claim7.holds_tied_plain_at .later [] _ _ _ _ said (fun _ h=>by cases h) (by kernel_rfl) (fun _ h=>by cases h) searchSizesUpto_row_tie rfl ⟨rfl,rfl⟩ (by kernel_rfl) rfl plain Aah
end Go.Proofs.YtgngjfjaelgaeaaGreatDoor.lSearchSizes
