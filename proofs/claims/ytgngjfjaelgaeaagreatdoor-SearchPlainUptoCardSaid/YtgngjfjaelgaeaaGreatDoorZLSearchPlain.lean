/- The row and the card of SearchPlain: for every input of bulk at most 1048576 the law returns true and its arguments read as they did. -/
import Derived.Test.YtgngjfjaelgaeaaGreatDoorZRox
import Derived.Test.YtgngjfjaelgaeaaGreatDoorZASearchPlain
import Derived.Test.YtgngjfjaelgaeaaGreatDoorZBSearchPlain
import Derived.Test.YtgngjfjaelgaeaaGreatDoorZGSearchPlain
import Derived.Test.YtgngjfjaelgaeaaGreatDoorZSlq
import Derived.Test.YtgngjfjaelgaeaaGreatDoorZRwg
set_option maxRecDepth 100000
set_option maxHeartbeats 4000000
namespace Go.Proofs.YtgngjfjaelgaeaaGreatDoor.lSearchPlain
open Go.Proofs.Tryz
open Go.ChangeShapes Go.WideShapes Go.ChangeAt Go.RowKit Go.ChangeMaps
theorem Afa:laidOutB prog=true:=OT
theorem contract(H:Type)(enc:TypeId×Value->H)(W:World)(base:Nat)(args:Array Value)(ds gs:List (DataW H))(before:List MemPlace)
  (a:∀(j:Nat) t v,Tryz.f5.params[j]?=some t->args[j]?=some v->Value.okWide prog W .any base t v)
  (hW:DataW.Whole enc prog Tryz.f5.params.toList Rows.searchPlainSpec.vars false W args.toList ds gs before)
  (b:Rows.uptoSmall H (ds++gs)=true)
  (hE:Env W):Calls prog 5 args W λe m=>∃v,e=.returned v/\Rows.searchPlainSpec.post enc prog Tryz.f5 false true false false W args v m:=by
 have c:=hW;obtain⟨p,q,hA0,u,rfl,A,r⟩:=hW;have hA:DataW.TrodAll enc prog W 0 (λ_=>true) true Tryz.f5.params.toList args.toList ds p:=hA0;rw[params5] at hA a;obtain⟨v0,C,w,z,p0,I,l,rfl,rfl,h0,r0⟩:=trodAll_cons hA;obtain⟨g,F,d1,B,p1,G,rfl,rfl,rfl,h1,E⟩:=trodAll_cons r0;obtain⟨rfl,rfl,rfl⟩:=trodAll_nil E;obtain rfl:args=#[v0,g]:=by cases args;simp_all
 obtain⟨rfl,rfl⟩:=trodVars_none u;have k:=b7 b;simp only[bK,Rows.uptoBulkAll] at k;have hb0:Rows.uptoBulk w<=1048576:=by omega
 have i:Rows.uptoBulk d1<=1048576:=by omega
 obtain⟨y,h,ok0⟩:=AeV (a 0 22 v0 rfl rfl) h0 hb0;obtain⟨s,o,hx1,ok1⟩:=Ae1 (a 1 28 g rfl rfl) h1 i;clear hA0;simp only[bK] at c;refine(PU o y s v0 g W h (aX (Nat.le_of_succ_le ok0.2.2) hb0) ok0.2.1 hx1 ok1.1 ok1.2.2 hE).mono λe m ⟨n,hb⟩=>?_;subst n;have d:=c.lt;exact⟨_,rfl,Aat (pa:=p0++(p1++([]))) (pv:=[]) c (λ_ _ _=>trodAll_cons_mk (shut_bool underlying4 _) trodAll_mk0) (λsp f=>trodAll_cons_mk (WideElems.Trod_stays Afa (by kernel_rfl) (b7 (by kernel_rfl)) h0 (λx hx=>hb.same (d x (by simp[hx]))) (λx hx=>f x (by simp[hx]))) (trodAll_cons_mk (WideElems.Trod_stays Afa (by kernel_rfl) (b7 (by kernel_rfl)) h1 (λx hx=>hb.same (d x (by simp[hx]))) (λx hx=>f x (by simp[hx]))) trodAll_mk0)) (λ_ _=>rfl) (by simp)
  hb (ok_one (by kernel_rfl) rfl (okWide_bool_mk underlying4 _))⟩
theorem reads(os:Os){H:Type}(enc:TypeId×Value->H):∃places,DataW.whole enc prog ((World.laidAll prog os Ed).forCall (λ_ _=>0) ⟨#[],#[.slice none 0 0,.agg #[.string ⟨#[]⟩,.int .i64 0,.int .i64 0,.int .i64 0,.string ⟨#[]⟩,.string ⟨#[]⟩,.string ⟨#[]⟩,.string ⟨#[]⟩,.slice none 0 0,.slice none 0 0,.slice none 0 0,false,.int .i64 0]],[]⟩).memory Tryz.f5.params.toList Rows.searchPlainSpec.vars false (#[.slice none 0 0,.agg #[.string ⟨#[]⟩,.int .i64 0,.int .i64 0,.int .i64 0,.string ⟨#[]⟩,.string ⟨#[]⟩,.string ⟨#[]⟩,.string ⟨#[]⟩,.slice none 0 0,.slice none 0 0,.slice none 0 0,false,.int .i64 0]]:Array Value).toList 8=some ([.nil,.agg [.lit (.string []),.lit (.int .i64 0),.lit (.int .i64 0),.agg [.lit (.int .i64 0),.lit (.string []),.lit (.string []),.lit (.string []),.lit (.string []),.nil,.nil],.nil,.lit (.bool false),.lit (.int .i64 0)]],[],places):=
 ⟨[],by kernel_rfl⟩
theorem lifted(os:Os)(started:os.Started)(H:Type)(enc:TypeId×Value->H)(F:Stop.Interp):
  ReturnsInHanded {} Tryz.checked os 5 .any ((Rows.OpenSpec.upto Rows.searchPlainSpec).preRow enc prog Tryz.f5 Rows.searchPlainUptoRow.domain false Rows.searchPlainUptoRow.laid) (((Rows.OpenSpec.upto Rows.searchPlainSpec).at F).post enc prog Tryz.f5 false true false false):=by
 obtain⟨places,hx⟩:=reads os enc;refine returnsInHanded_of_row (C:=Tryz.checked) (s:=(Rows.OpenSpec.upto Rows.searchPlainSpec)) own started (by kernel_rfl) func5
  (Uy (enc:=enc) (C:=Tryz.checked) (World.laidAll prog os Ed) #[.slice none 0 0,.agg #[.string ⟨#[]⟩,.int .i64 0,.int .i64 0,.int .i64 0,.string ⟨#[]⟩,.string ⟨#[]⟩,.string ⟨#[]⟩,.string ⟨#[]⟩,.slice none 0 0,.slice none 0 0,.slice none 0 0,false,.int .i64 0]] (World.laidAll_os _ _ _) (AcB os _) (by kernel_rfl)
    (OpenSpec.preRow_of_cond 8 hx (by kernel_rfl) (λk hk=>by cases hk;kernel_rfl) (by kernel_rfl) (AfK os _))) ?_
 intro W base args ds gs before b hW _ a _ d c _;exact contract H enc W base args ds gs before b hW (a _ rfl) (AgA d c)
theorem and_split{a b:Bool}(h1:a=true)(h2:b=true):(a&&b)=true:=by rw[h1,h2];rfl
theorem ZR:(Rows.searchPlainUptoRow.lifted==false)=true:=by kernel_rfl
theorem AdS:(some Make.cut==some Rows.searchPlainUptoRow.make)=true:=by kernel_rfl
theorem Afv:joinedFacts Tryz.pinned.checked.prog 5 Tryz.f5 ((Rows.OpenSpec.upto Rows.searchPlainSpec)).bare Rows.searchPlainUptoRow=true:=by
 unfold joinedFacts
 repeat' (with_reducible refine and_split ?_ ?_)
 all_goals(first|with_reducible exact UQ|with_reducible exact PW|with_reducible exact Ue|with_reducible exact Zx|with_reducible exact OT|with_reducible exact XY|with_reducible exact Uz|(rw[Ww];exact ZR)|(rw[XZ];exact AdS)|(as_aux_lemma=>kernel_rfl))
theorem AgR:Tryz.f5.isInstance Tryz.pinned.checked.prog Rows.searchPlainUptoRow.origin Rows.searchPlainUptoRow.targs:=b7 (by kernel_rfl)
theorem Ag0:Tryz.pinned.checked.prog.funcNamed Rows.searchPlainUptoRow.func=some 5:=by kernel_rfl
theorem said:Rows.SearchPlainUptoSaid:=
 OpenClaim.holds_of_cond 5 Tryz.f5 rfl rfl rfl rfl rfl rfl rfl ⟨rfl,rfl,rfl,rfl,rfl⟩ rfl rfl rfl rfl rfl Ag0 func5 Afv AgR
  (by unfold Func.isWrapper;first|(rw[aJ (by decide+kernel)];kernel_rfl)|(rw[aG (by decide+kernel)];exact⟨rfl,rfl⟩))
  (λos started H enc _ F=>by rw[OpenClaim.pre_eq_preRow];exact lifted os started H enc F)
theorem plain(f:FuncId)(fn:Func)(d:Tryz.pinned.checked.prog.funcNamed "verger/vergerlaw14.SearchPlain"=some f)(a:Tryz.pinned.checked.prog.funcs[f]?=some fn):
  true=Tryz.pinned.checked.prog.looks []/\∀(j:Nat) t,fn.params[j]?=some t->Tryz.pinned.checked.prog.wantsStandIn t=false:=by
 obtain rfl:f=5:=aU ((show prog.funcNamed "verger/vergerlaw14.SearchPlain"=some 5 by kernel_rfl).symm.trans d) |>.symm
 obtain rfl:fn=Tryz.f5:=(aU (func5.symm.trans a)).symm;refine⟨Wv,λj t c=>?_⟩;rw[params5] at c;have e:=Array.mem_of_getElem? c;have b:t=22\/t=28:=by simpa[or_assoc] using e
 rcases b with rfl|rfl
 ·exact(show prog.wantsStandIn 22=false by kernel_rfl)
 ·exact(show prog.wantsStandIn 28=false by kernel_rfl)
theorem card:Rows.SearchPlainUptoCardSaid:=
 Claim7.holds_tied_plain_at .later [] _ _ _ _ said (λ_ h=>by cases h) (by kernel_rfl) (λ_ h=>by cases h) searchPlainUpto_row_tie rfl ⟨rfl,rfl⟩ (by kernel_rfl) rfl plain AbH
end Go.Proofs.YtgngjfjaelgaeaaGreatDoor.lSearchPlain
