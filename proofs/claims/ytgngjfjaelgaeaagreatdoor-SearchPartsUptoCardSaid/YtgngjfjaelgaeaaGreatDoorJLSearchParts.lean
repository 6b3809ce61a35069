/- The row and the card of SearchParts: for every input of bulk at most 1048576 the law returns true and its arguments read as they did. -/
import Derived.Test.YtgngjfjaelgaeaaGreatDoorJSog
import Derived.Test.YtgngjfjaelgaeaaGreatDoorJRox
import Derived.Test.YtgngjfjaelgaeaaGreatDoorJASearchParts
import Derived.Test.YtgngjfjaelgaeaaGreatDoorJBSearchParts
import Derived.Test.YtgngjfjaelgaeaaGreatDoorJGSearchParts
import Derived.Test.YtgngjfjaelgaeaaGreatDoorJSlp
set_option maxRecDepth 100000
set_option maxHeartbeats 4000000
namespace Go.Proofs.YtgngjfjaelgaeaaGreatDoor
open Go.Proofs.Tryz
section
open Go.ChangeShapes Go.WideShapes Go.ChangeAt Go.RowKit Go.Deep Go.Joins
open FiS (Fi)
section
variable {H:Type} {enc:TypeId × Value->H}
theorem Oo {α:Type} {w:World} {base:Nat} {held:Bool} {sp:Nat->Bool} {t e:TypeId} {k fuel:Nat} {v:Value} {d:DataW H} {ps:List MemPlace}
  (K:prog.underlying t=some (.slice e)) (hk:prog.cellsOf e=k) (m:0<k) (El:World->Nat->Nat->α->Prop)
  (M:DataW.trod enc prog w base sp held fuel t [v]=some (d,ps))
  (each:∀(g o:Nat) (cs:List Value) (A:Nat) (D:DataW H) (Pl:List MemPlace),(∀j,j<k->w.cell? ⟨g,o+j,none⟩=cs[j]?)->cs.length=k->DataW.trod enc prog w base sp held A e cs=some (D,Pl)->SizeOf.sizeOf D<SizeOf.sizeOf d->∃x,El w g o x):
  ∃xs:List α,Ad k El (fun _=>True) w v xs:=by
 rcases open_slice K M with ⟨h0,I⟩ | ⟨a,n,c,J,A,D,Pl,y,L,F,E,Q,hx,h⟩
 · simp only [bw,dY] at h0;subst h0;exact ⟨[],Ad.nil _ _⟩
 simp only [bw,dY] at y;subst y;have p:=congrArg Prod.fst hx;simp only at p;have N:n<=J:=by rw [Q];split <;> omega
 rw [hk] at h;obtain ⟨g,o,s⟩:=a;rcases bT n with h0 | r
 · subst h0;exact ⟨[],Ad.nil _ _⟩
 have G:s=none:=by
  obtain ⟨cs,h1,h2⟩:=h 0 (by omega);obtain ⟨_,hlen,hc⟩:=World.cells?_some h1;have c0:=hc 0 m;rw [cO] at c0;have l:0<cs.length:=by omega
  rw [aJ l] at c0;have O:((⟨g,o,s⟩:Addr).add 0).add 0=⟨g,o,s⟩:=by unfold Addr.add;simp
  rw [O] at c0;exact cell_spot c0
 subst G;have b:∀i,i<n->∃x:α,El w g (o+i*k) x:=fun i P=>by
  obtain ⟨cs,h1,h2⟩:=h i (by omega);obtain ⟨_,hlen,hc⟩:=World.cells?_some h1;refine each g (o+i*k) cs A (D i) (Pl i) (fun j f=>?_) hlen h2 ?_
  · have:=hc j f;rw [add_add] at this;exact this
  · have h3:=gG (bD.2 ⟨i,dQ.2 P,rfl⟩:D i ∈ (List.range n).map D);rw [p,DataW.slice.sizeOf_spec];omega
 have B:g<w.heap.size:=by
  obtain ⟨cs,h1,h2⟩:=h 0 (by omega);obtain ⟨_,hlen,hc⟩:=World.cells?_some h1;have c0:=hc 0 m;have l:0<cs.length:=by omega
  rw [aJ l,add_add] at c0;exact cell_lt c0
 haveI:Inhabited α:=⟨(b 0 r).choose⟩
 obtain ⟨S,hS⟩:=choose_lt b;refine ⟨(List.range n).map S,⟨some ⟨g,o,none⟩,c,by simp,by simp;omega,.inr ⟨g,o,rfl,B,trivial,fun j q f=>?_⟩⟩⟩;rw [bZ] at f;cases z:(List.range n)[j]? with
 | none=>rw [z] at f;cases f
 | some x=>rw [z] at f;have u:=(aj.1 z).1;have C:=(aj.1 z).2;rw [eF] at C;simp only [fJ] at u;have f:=aU f;subst C;subst f;exact hS j u
theorem Aab {w:World} {base:Nat} {held:Bool} {sp:Nat->Bool} {fuel:Nat} {v:Value} {d:DataW H} {ps:List MemPlace}
  (a:DataW.trod enc prog w base sp held fuel 23 [v]=some (d,ps)):∃xs:List (List UInt8),Aj (fun _=>True) w v xs:=by
 refine Oo underlying23 (by kernel_rfl) (by decide) TZ a (fun g o cs c D Pl hc hlen b _=>?_)
 match cs,hlen with
 | [x],_=>obtain ⟨s,e,_,_⟩:=DataW.trod_string underlying9 b;simp only [bw,dY] at e;have c0:=hc 0 (by decide);simp only [Nat.add_zero,aH] at c0;subst e;rw [Ep] at c0;exact ⟨s.data.toList,c0⟩
theorem Nb {P:Program} {w:World} {base:Nat} {spare:Nat->Bool} {held:Bool} {t:TypeId} {d f1 f2 c f4 f5 f6:Field} {fuel:Nat} {cs:List Value} {x:DataW H × List MemPlace} (g:P.underlying t=some (.struct #[d,f1,f2,c,f4,f5,f6])) (h:DataW.trod enc P w base spare held fuel t cs=some x):
  ∃b y1 y2 y3 y4 e y6 n,x=(.agg [b.1,y1.1,y2.1,y3.1,y4.1,e.1,y6.1],b.2++(y1.2++(y2.2++(y3.2++(y4.2++(e.2++y6.2))))))/\cs.length=P.cellsOf t/\DataW.trod enc P w base spare held n d.type ((cs.drop d.offset).take (P.cellsOf d.type))=some b/\
   DataW.trod enc P w base spare held n f1.type ((cs.drop f1.offset).take (P.cellsOf f1.type))=some y1/\DataW.trod enc P w base spare held n f2.type ((cs.drop f2.offset).take (P.cellsOf f2.type))=some y2/\
   DataW.trod enc P w base spare held n c.type ((cs.drop c.offset).take (P.cellsOf c.type))=some y3/\DataW.trod enc P w base spare held n f4.type ((cs.drop f4.offset).take (P.cellsOf f4.type))=some y4/\
   DataW.trod enc P w base spare held n f5.type ((cs.drop f5.offset).take (P.cellsOf f5.type))=some e/\DataW.trod enc P w base spare held n f6.type ((cs.drop f6.offset).take (P.cellsOf f6.type))=some y6:=by
 obtain ⟨xs,n,_,rfl,f,hlen,a⟩:=DataW.trod_struct g h
 match xs,hlen with
 | [b,y1,y2,y3,y4,e,y6],_=>exact ⟨b,y1,y2,y3,y4,e,y6,n,by simp,f,by simpa using a 0 d rfl,by simpa using a 1 f1 rfl,by simpa using a 2 f2 rfl,by simpa using a 3 c rfl,by simpa using a 4 f4 rfl,by simpa using a 5 f5 rfl,by simpa using a 6 f6 rfl⟩
theorem SC {w:World} {base:Nat} {held:Bool} {sp:Nat->Bool} {fuel m:Nat} {cs:List Value} {d:DataW H} {ps:List MemPlace} (hlen:cs.length=7)
  (C:∀(A:Nat) (v:Value) (D:DataW H) (Pl:List MemPlace),SizeOf.sizeOf D<SizeOf.sizeOf d->DataW.trod enc prog w base sp held A 24 [v]=some (D,Pl)->∃xs,BC m (fun _=>True) w v xs)
  (h:DataW.trod enc prog w base sp held fuel 26 cs=some (d,ps)):
  ∃(x:Fi) (p up:Value),cs=[.int .i64 x.kind,Ac x.attr,Ac x.value,Ac x.first,Ac x.last,p,up]/\Aj (fun _=>True) w p x.any/\BC m (fun _=>True) w up x.parts:=by
 have g:prog.cellsOf 3=1:=by kernel_rfl
 have n:prog.cellsOf 9=1:=by kernel_rfl
 have l:prog.cellsOf 23=1:=by kernel_rfl
 have k:prog.cellsOf 24=1:=by kernel_rfl
 match cs,hlen with
 | [c0,c1,c2,c3,c4,c5,c6],_=>
  obtain ⟨u,y1,y2,y3,y4,o,y6,E,e,_,t0,s,t2,t3,t4,t5,r⟩:=Nb underlying26 h;simp only [g,n,l,k,bQ,List.take_succ_cons,List.take_zero,bU] at t0 s t2 t3 t4 t5 r;have q:=congrArg Prod.fst e;simp only at q;obtain ⟨n0,t,_,_⟩:=DataW.trod_int underlying3 t0;obtain ⟨B,c,_,_⟩:=DataW.trod_string underlying9 s;obtain ⟨G,a,_,_⟩:=DataW.trod_string underlying9 t2;obtain ⟨y,f,_,_⟩:=DataW.trod_string underlying9 t3;obtain ⟨z,b,_,_⟩:=DataW.trod_string underlying9 t4;simp only [bw,dY] at t c a f b;subst t c a f b;obtain ⟨xs,i⟩:=Aab (d:=o.1) (ps:=o.2) t5;obtain ⟨F,j⟩:=C E c6 y6.1 y6.2 (by
   rw [q,DataW.agg.sizeOf_spec];have:=gG (show y6.1 ∈ [u.1,y1.1,y2.1,y3.1,y4.1,o.1,y6.1] by simp);omega) r
  exact ⟨.mk n0 B.data.toList G.data.toList y.data.toList z.data.toList xs F,c5,c6,by rw [Ep,Ep,Ep,Ep];rfl,i,j⟩
theorem Aac {w:World} {base:Nat} {held:Bool} {sp:Nat->Bool}:∀(m:Nat) {fuel:Nat} {v:Value} {d:DataW H} {ps:List MemPlace},SizeOf.sizeOf d<=m->
  DataW.trod enc prog w base sp held fuel 24 [v]=some (d,ps)->∃xs,BC m (fun _=>True) w v xs:=by
 intro m
 induction m with
 | zero=>
  intro fuel v d ps hd h;have:0<SizeOf.sizeOf d:=by cases d <;> simp <;> omega
  omega
 | succ m f=>intro fuel v d ps hd h;refine Oo underlying24 (by kernel_rfl) (by decide) (IY (m+1) (fun _=>True)) h (fun g o cs e D Pl hc hlen c i=>?_);obtain ⟨x,a,up,rfl,h1,h2⟩:=SC (m:=m) hlen (fun e v D' Pl' hs hf=>f (by omega) hf) c;have k:=fun j b=>hc j b;exact ⟨x,a,up,⟨k 0 (by decide),k 1 (by decide),k 2 (by decide),k 3 (by decide),k 4 (by decide),k 5 (by decide),k 6 (by decide)⟩,h1,h2⟩
end
end
section
open Go.ChangeShapes Go.WideShapes Go.ChangeAt Go.RowKit Go.Deep Go.Joins
open FiS (Fi)
section
variable {H:Type} {enc:TypeId × Value->H}
theorem Afk {α:Type} {cs:Array α} (h:cs.size=13):∃c0 c1 c2 c3 c4 c5 e d c c9 b a c12,cs=#[c0,c1,c2,c3,c4,c5,e,d,c,c9,b,a,c12]:=by
 obtain ⟨l⟩:=cs
 match l,h with
 | [c0,c1,c2,c3,c4,c5,e,d,c,c9,b,a,c12],_=>exact ⟨c0,c1,c2,c3,c4,c5,e,d,c,c9,b,a,c12,rfl⟩
theorem AdK {w:World} {base:Nat} {held:Bool} {r:Reach} {X:Nat} {v:Value} {d:DataW H} {ps:List MemPlace} {sp:Nat->Bool} {N:Nat}
  (l:Value.okWide prog w r X 28 v) (hd:DataW.Trod enc prog w base sp held 28 v d ps) (hb:Rows.uptoBulk d<=N):
  ∃(q:SeS.Rq) (n:Nat),EC n w v q/\q.base.length<=N/\q.attrs.length<=N/\∀s ∈ q.attrs,s.length<=N:=by
 have B:prog.cellsOf 3=1:=by kernel_rfl
 have G:prog.cellsOf 9=1:=by kernel_rfl
 have y:prog.cellsOf 23=1:=by kernel_rfl
 have A:prog.cellsOf 4=1:=by kernel_rfl
 have F:prog.cellsOf 26=7:=by kernel_rfl
 obtain ⟨cs,rfl,hsz⟩:=okWide_struct underlying28 l;obtain ⟨c0,c1,c2,c3,c4,c5,K,J,M,c9,C,u,c12,rfl⟩:=Afk (hsz.trans (by kernel_rfl));obtain ⟨fuel,E⟩:=hd;have E:DataW.trod enc prog w base sp held fuel 28 [c0,c1,c2,c3,c4,c5,K,J,M,c9,C,u,c12]=some (d,ps):=by simpa [Value.cells] using E
 obtain ⟨V,y1,y2,y3,y4,Z,y6,nn,e,_,t0,P,t2,t3,t4,t5,O⟩:=Nb underlying28 E;simp only [B,G,y,A,F,bQ,List.take_succ_cons,List.take_zero,bU] at t0 P t2 t3 t4 t5 O;have f:=congrArg Prod.fst e;simp only at f;rw [f] at hb;have z:=aY (OY _) hb;simp only [Rows.uptoBulkAll] at z;have k:Rows.uptoBulk V.1<=N:=by omega
 have o:Rows.uptoBulk y4.1<=N:=by omega
 obtain ⟨L,i,I,_⟩:=DataW.trod_string underlying9 t0;obtain ⟨U,c,_,_⟩:=DataW.trod_int underlying3 P;obtain ⟨T,a,_,_⟩:=DataW.trod_int underlying3 t2;obtain ⟨x,Y,up,ex,h1,h2⟩:=SC (m:=SizeOf.sizeOf y3.1) (cs:=[c3,c4,c5,K,J,M,c9]) (d:=y3.1) (ps:=y3.2) rfl (fun fu v D Pl hs h=>Aac _ (dD hs) h) t3;obtain ⟨xs,b,hx1,p,_⟩:=open_strs (d:=y4.1) (ps:=y4.2) t4 o;rw [I] at k;have t:=Lx k;obtain ⟨b5,j,_⟩:=DataW.trod_bool underlying4 t5;obtain ⟨n6,g,_,_⟩:=DataW.trod_int underlying3 O;simp only [bw,dY] at i c a ex j g;obtain ⟨rfl,rfl,rfl,rfl,rfl,rfl,rfl⟩:=ex;subst i c a j g;obtain ⟨a5,Q,rfl,_⟩:=Ad.form h1;obtain ⟨W,R,rfl,_⟩:=Ad.form h2;obtain ⟨S,ka,rfl,_⟩:=Ad.form b;refine ⟨⟨L.data.toList,U,T,x,xs,b5,n6⟩,_,⟨a5,W,S,Q,R,ka,?_,⟨_,_,rfl,h1,h2⟩,b.strs⟩,t,hx1,p⟩;show _=Value.agg #[Ac L.data.toList,_,_,_,_,_,_,_,_,_,_,_,_]
 rw [Ep];rfl
end
end
end Go.Proofs.YtgngjfjaelgaeaaGreatDoor
namespace Go.Proofs.YtgngjfjaelgaeaaGreatDoor.lSearchParts
open Go.Proofs.Tryz
open Go.ChangeShapes Go.WideShapes Go.ChangeAt Go.RowKit Go.ChangeMaps
theorem Aer:laidOutB prog=true:=Oi
theorem contract (H:Type) (enc:TypeId × Value->H) (W:World) (base:Nat) (args:Array Value) (ds gs:List (DataW H)) (before:List MemPlace)
  (a:∀(j:Nat) t v,Tryz.f6.params[j]?=some t->args[j]?=some v->Value.okWide prog W .any base t v)
  (hW:DataW.Whole enc prog Tryz.f6.params.toList Rows.searchPartsSpec.vars false W args.toList ds gs before)
  (c:Rows.uptoSmall H (ds++gs)=true)
  (hE:Env W):Calls prog 6 args W fun e m=>∃v,e=.returned v/\Rows.searchPartsSpec.post enc prog Tryz.f6 false true false false W args v m:=by
 have b:=hW;obtain ⟨p,q,hA0,w,rfl,B,z⟩:=hW;have hA:DataW.TrodAll enc prog W 0 (fun _=>true) true Tryz.f6.params.toList args.toList ds p:=hA0;rw [params6] at hA a;obtain ⟨v0,u,r,F,p0,G,i,rfl,rfl,h0,r0⟩:=trodAll_cons hA;obtain ⟨k,s,d1,E,p1,I,rfl,rfl,rfl,h1,A⟩:=trodAll_cons r0;obtain ⟨rfl,rfl,rfl⟩:=trodAll_nil A;obtain rfl:args=#[v0,k]:=by cases args;simp_all
 obtain ⟨rfl,rfl⟩:=trodVars_none w;have g:=bB c;simp only [bJ,Rows.uptoBulkAll] at g;have hb0:Rows.uptoBulk r<=1048576:=by omega
 have l:Rows.uptoBulk d1<=1048576:=by omega
 obtain ⟨C,h,ok0⟩:=Aef (a 0 22 v0 rfl rfl) h0 hb0;obtain ⟨y,n,hx1,ok1⟩:=AdK (a 1 28 k rfl rfl) h1 l;clear hA0;simp only [bJ] at b;refine (OX n C y v0 k W h (aY (Nat.le_of_succ_le ok0.2.2) hb0) ok0.2.1 hx1 ok1.1 hE).mono fun e m ⟨o,hb⟩=>?_;subst o;have f:=b.lt;exact ⟨_,rfl,ZF (pa:=p0++(p1++([]))) (pv:=[]) b (fun _ _ _=>trodAll_cons_mk (shut_bool underlying4 _) trodAll_mk0) (fun sp d=>trodAll_cons_mk (WideElems.Trod_stays Aer (by kernel_rfl) (bB (by kernel_rfl)) h0 (fun x hx=>hb.same (f x (by simp [hx]))) (fun x hx=>d x (by simp [hx]))) (trodAll_cons_mk (WideElems.Trod_stays Aer (by kernel_rfl) (bB (by kernel_rfl)) h1 (fun x hx=>hb.same (f x (by simp [hx]))) (fun x hx=>d x (by simp [hx]))) trodAll_mk0)) (fun _ _=>rfl) (by simp)
  hb (ok_one (by kernel_rfl) rfl (okWide_bool_mk underlying4 _))⟩
theorem reads (os:Os) {H:Type} (enc:TypeId × Value->H):∃places,DataW.whole enc prog ((World.laidAll prog os DR).forCall (fun _ _=>0) ⟨#[],#[.slice none 0 0,.agg #[.string ⟨#[]⟩,.int .i64 0,.int .i64 0,.int .i64 0,.string ⟨#[]⟩,.string ⟨#[]⟩,.string ⟨#[]⟩,.string ⟨#[]⟩,.slice none 0 0,.slice none 0 0,.slice none 0 0,.bool false,.int .i64 0]],[]⟩).memory Tryz.f6.params.toList Rows.searchPartsSpec.vars false (#[.slice none 0 0,.agg #[.string ⟨#[]⟩,.int .i64 0,.int .i64 0,.int .i64 0,.string ⟨#[]⟩,.string ⟨#[]⟩,.string ⟨#[]⟩,.string ⟨#[]⟩,.slice none 0 0,.slice none 0 0,.slice none 0 0,.bool false,.int .i64 0]]:Array Value).toList 8=some ([.nil,.agg [.lit (.string []),.lit (.int .i64 0),.lit (.int .i64 0),.agg [.lit (.int .i64 0),.lit (.string []),.lit (.string []),.lit (.string []),.lit (.string []),.nil,.nil],.nil,.lit (.bool false),.lit (.int .i64 0)]],[],places):=
 ⟨[],by kernel_rfl⟩
theorem lifted (os:Os) (started:os.Started) (H:Type) (enc:TypeId × Value->H) (F:Stop.Interp):
  ReturnsInHanded {} Tryz.checked os 6 .any ((Rows.OpenSpec.upto Rows.searchPartsSpec).preRow enc prog Tryz.f6 Rows.searchPartsUptoRow.domain false Rows.searchPartsUptoRow.laid) (((Rows.OpenSpec.upto Rows.searchPartsSpec).at F).post enc prog Tryz.f6 false true false false):=by
 obtain ⟨places,hx⟩:=reads os enc;refine returnsInHanded_of_row (C:=Tryz.checked) (s:=(Rows.OpenSpec.upto Rows.searchPartsSpec)) own started (by kernel_rfl) func6
  (TI (enc:=enc) (C:=Tryz.checked) (World.laidAll prog os DR) #[.slice none 0 0,.agg #[.string ⟨#[]⟩,.int .i64 0,.int .i64 0,.int .i64 0,.string ⟨#[]⟩,.string ⟨#[]⟩,.string ⟨#[]⟩,.string ⟨#[]⟩,.slice none 0 0,.slice none 0 0,.slice none 0 0,.bool false,.int .i64 0]] (World.laidAll_os _ _ _) (AbT os _) (by kernel_rfl)
    (OpenSpec.preRow_of_cond 8 hx (by kernel_rfl) (fun k hk=>by cases hk;kernel_rfl) (by kernel_rfl) (Afe os _))) ?_
 intro W base args ds gs before b hW _ a _ d c _;exact contract H enc W base args ds gs before b hW (a _ rfl) (AfS d c)
theorem and_split {a b:Bool} (h1:a=true) (h2:b=true):(a&&b)=true:=by rw [h1,h2];rfl
theorem YT:(Rows.searchPartsUptoRow.lifted==false)=true:=by kernel_rfl
theorem Adb:(some Make.cut==some Rows.searchPartsUptoRow.make)=true:=by kernel_rfl
theorem Ae9:joinedFacts Tryz.pinned.checked.prog 6 Tryz.f6 ((Rows.OpenSpec.upto Rows.searchPartsSpec)).bare Rows.searchPartsUptoRow=true:=by
 unfold joinedFacts
 repeat' (with_reducible refine and_split ?_ ?_)
 all_goals (first | with_reducible exact Ui | with_reducible exact Pe | with_reducible exact Tf | with_reducible exact YI | with_reducible exact Oi | with_reducible exact Xl | with_reducible exact TJ | (rw [VR];exact YT) | (rw [Xm];exact Adb) | (as_aux_lemma=>kernel_rfl))
theorem Agj:Tryz.f6.isInstance Tryz.pinned.checked.prog Rows.searchPartsUptoRow.origin Rows.searchPartsUptoRow.targs:=bB (by kernel_rfl)
theorem AfG:Tryz.pinned.checked.prog.funcNamed Rows.searchPartsUptoRow.func=some 6:=by kernel_rfl
theorem said:Rows.SearchPartsUptoSaid:=
 OpenClaim.holds_of_cond 6 Tryz.f6 rfl rfl rfl rfl rfl rfl rfl ⟨rfl,rfl,rfl,rfl,rfl⟩ rfl rfl rfl rfl rfl AfG func6 Ae9 Agj
  (by unfold Func.isWrapper;first | (rw [aP (by decide+kernel)];kernel_rfl) | (rw [aG (by decide+kernel)];exact ⟨rfl,rfl⟩))
  (fun os started H enc _ F=>by rw [OpenClaim.pre_eq_preRow];exact lifted os started H enc F)
theorem plain (f:FuncId) (fn:Func) (e:Tryz.pinned.checked.prog.funcNamed "verger/vergerlaw14.SearchParts"=some f) (a:Tryz.pinned.checked.prog.funcs[f]?=some fn):
  true=Tryz.pinned.checked.prog.looks []/\∀(j:Nat) t,fn.params[j]?=some t->Tryz.pinned.checked.prog.wantsStandIn t=false:=by
 obtain rfl:f=6:=aU ((show prog.funcNamed "verger/vergerlaw14.SearchParts"=some 6 by kernel_rfl).symm.trans e) |>.symm
 obtain rfl:fn=Tryz.f6:=(aU (func6.symm.trans a)).symm;refine ⟨VQ,fun j t c=>?_⟩;rw [params6] at c;have d:=Array.mem_of_getElem? c;have b:t=22\/t=28:=by simpa [or_assoc] using d
 rcases b with rfl | rfl
 · exact (show prog.wantsStandIn 22=false by kernel_rfl)
 · exact (show prog.wantsStandIn 28=false by kernel_rfl)
theorem card:Rows.SearchPartsUptoCardSaid:=
 Claim7.holds_tied_plain_at .later [] _ _ _ _ said (fun _ h=>by cases h) (by kernel_rfl) (fun _ h=>by cases h) searchPartsUpto_row_tie rfl ⟨rfl,rfl⟩ (by kernel_rfl) rfl plain AaP
end Go.Proofs.YtgngjfjaelgaeaaGreatDoor.lSearchParts
