/- A filter that comes in, opened, however deep it is. Conditions: as stated. -/
import Derived.Test.YtgngjfjaelgaeaaGreatDoorZVir
set_option maxRecDepth 100000
namespace Go.Proofs.YtgngjfjaelgaeaaGreatDoor
open Go.Proofs.Tryz
variable {v:Value} {w:World}
section
open Go.ChangeShapes Go.WideShapes Go.ChangeAt Go.RowKit Go.Deep Go.Joins
open FiS (Fi)
section
variable {H:Type} {enc:TypeId×Value->H}
theorem OX{α:Type}{base:Nat}{held:Bool}{sp:Nat->Bool}{t e:TypeId}{k fuel:Nat}{d:DataW H}{ps:List MemPlace}
  (M:prog.underlying t=some (.slice e))(hk:prog.cellsOf e=k)(u:0<k)(El:World->Nat->Nat->α->Prop)
  (N:DataW.trod enc prog w base sp held fuel t [v]=some (d,ps))
  (each:∀(g o:Nat) (cs:List Value) (B:Nat) (D:DataW H) (Pl:List MemPlace),(∀j,j<k->w.cell? ⟨g,o+j,none⟩=cs[j]?)->cs.length=k->DataW.trod enc prog w base sp held B e cs=some (D,Pl)->SizeOf.sizeOf D<SizeOf.sizeOf d->∃x,El w g o x):
  ∃xs:List α,Ad k El (λ_=>True) w v xs:=by
 rcases open_slice M N with⟨h0,Q⟩|⟨a,n,c,F,B,D,Pl,y,K,J,G,E,hx,h⟩
 ·simp only[cG,dh] at h0;subst h0;exact⟨[],Ad.nil _ _⟩
 simp only[cG,dh] at y;subst y;have m:=congrArg Prod.fst hx;simp only at m;have I:n<=F:=by rw[E];split<;>omega
 rw[hk] at h;obtain⟨g,o,s⟩:=a;rcases bU n with h0|p
 ·subst h0;exact⟨[],Ad.nil _ _⟩
 have L:s=none:=by
  obtain⟨cs,h1,h2⟩:=h 0 (by omega);obtain⟨_,hlen,hc⟩:=World.cells?_some h1;have c0:=hc 0 u;rw[cN] at c0;have l:0<cs.length:=by omega
  rw[aK l] at c0;have O:((⟨g,o,s⟩:Addr).add 0).add 0=⟨g,o,s⟩:=by unfold Addr.add;simp
  rw[O] at c0;exact cell_spot c0
 subst L;have b:∀i,i<n->∃x:α,El w g (o+i*k) x:=λi P=>by
  obtain⟨cs,h1,h2⟩:=h i (by omega);obtain⟨_,hlen,hc⟩:=World.cells?_some h1;refine each g (o+i*k) cs B (D i) (Pl i) (λj f=>?_) hlen h2 ?_
  ·have:=hc j f;rw[add_add] at this;exact this
  ·have h3:=gP (bG.2 ⟨i,dU.2 P,rfl⟩:D i∈(List.range n).map D);rw[m,DataW.slice.sizeOf_spec];omega
 have A:g<w.heap.size:=by
  obtain⟨cs,h1,h2⟩:=h 0 (by omega);obtain⟨_,hlen,hc⟩:=World.cells?_some h1;have c0:=hc 0 u;have l:0<cs.length:=by omega
  rw[aK l,add_add] at c0;exact cell_lt c0
 haveI:Inhabited α:=⟨(b 0 p).choose⟩
 obtain⟨S,hS⟩:=choose_lt b;refine⟨(List.range n).map S,⟨some ⟨g,o,none⟩,c,by simp,by simp;omega,.inr ⟨g,o,rfl,A,trivial,λj q f=>?_⟩⟩⟩;rw[ba] at f;cases z:(List.range n)[j]? with
 |none=>rw[z] at f;cases f
 |some x=>rw[z] at f;have r:=(ak.1 z).1;have C:=(ak.1 z).2;rw[eN] at C;simp only[fQ] at r;have f:=aU f;subst C;subst f;exact hS j r
theorem AaC{base:Nat}{held:Bool}{sp:Nat->Bool}{fuel:Nat}{d:DataW H}{ps:List MemPlace}
  (b:DataW.trod enc prog w base sp held fuel 23 [v]=some (d,ps)):∃xs:List iK,Am (λ_=>True) w v xs:=by
 refine OX underlying23 (by kernel_rfl) (by decide) UI b (λg o cs c D Pl hc hlen a _=>?_)
 match cs,hlen with
 |[x],_=>obtain⟨s,e,_,_⟩:=DataW.trod_string underlying9 a;simp only[cG,dh] at e;have c0:=hc 0 (by decide);simp only[Nat.add_zero,aH] at c0;subst e;rw[EG] at c0;exact⟨s.data.toList,c0⟩
theorem NH{P:Program}{base:Nat}{spare:Nat->Bool}{held:Bool}{t:TypeId}{f f1 f2 d f4 f5 f6:Field}{fuel:Nat}{cs:List Value}{x:DataW H×List MemPlace}(i:P.underlying t=some (.struct #[f,f1,f2,d,f4,f5,f6]))(h:DataW.trod enc P w base spare held fuel t cs=some x):
  ∃c e g y3 y4 b y6 n,x=(.agg [c.1,e.1,g.1,y3.1,y4.1,b.1,y6.1],c.2++(e.2++(g.2++(y3.2++(y4.2++(b.2++y6.2))))))/\cs.length=P.cellsOf t/\DataW.trod enc P w base spare held n f.type ((cs.drop f.offset).take (P.cellsOf f.type))=some c/\
   DataW.trod enc P w base spare held n f1.type ((cs.drop f1.offset).take (P.cellsOf f1.type))=some e/\DataW.trod enc P w base spare held n f2.type ((cs.drop f2.offset).take (P.cellsOf f2.type))=some g/\
   DataW.trod enc P w base spare held n d.type ((cs.drop d.offset).take (P.cellsOf d.type))=some y3/\DataW.trod enc P w base spare held n f4.type ((cs.drop f4.offset).take (P.cellsOf f4.type))=some y4/\
   DataW.trod enc P w base spare held n f5.type ((cs.drop f5.offset).take (P.cellsOf f5.type))=some b/\DataW.trod enc P w base spare held n f6.type ((cs.drop f6.offset).take (P.cellsOf f6.type))=some y6:=by
 obtain⟨xs,n,_,rfl,j,hlen,a⟩:=DataW.trod_struct i h
 match xs,hlen with
 |[c,e,g,y3,y4,b,y6],_=>exact⟨c,e,g,y3,y4,b,y6,n,by simp,j,by simpa using a 0 f rfl,by simpa using a 1 f1 rfl,by simpa using a 2 f2 rfl,by simpa using a 3 d rfl,by simpa using a 4 f4 rfl,by simpa using a 5 f5 rfl,by simpa using a 6 f6 rfl⟩
theorem Tz{base:Nat}{held:Bool}{sp:Nat->Bool}{fuel m:Nat}{cs:List Value}{d:DataW H}{ps:List MemPlace}(hlen:cs.length=7)
  (I:∀(F:Nat) (v:Value) (D:DataW H) (Pl:List MemPlace),SizeOf.sizeOf D<SizeOf.sizeOf d->DataW.trod enc prog w base sp held F 24 [v]=some (D,Pl)->∃xs,Bl m (λ_=>True) w v xs)
  (h:DataW.trod enc prog w base sp held fuel 26 cs=some (d,ps)):
  ∃(x:Fi) (q up:Value),cs=[.int .i64 x.kind,Ac x.attr,Ac x.value,Ac x.first,Ac x.last,q,up]/\Am (λ_=>True) w q x.any/\Bl m (λ_=>True) w up x.parts:=by
 have l:prog.cellsOf 3=1:=by kernel_rfl
 have n:prog.cellsOf 9=1:=by kernel_rfl
 have j:prog.cellsOf 23=1:=by kernel_rfl
 have k:prog.cellsOf 24=1:=by kernel_rfl
 match cs,hlen with
 |[c0,c1,c2,c3,c4,c5,c6],_=>
  obtain⟨G,A,E,y3,y4,g,y6,B,e,_,t0,r,t2,t3,t4,t5,p⟩:=NH underlying26 h;simp only[l,n,j,k,bI,List.take_succ_cons,List.take_zero,bW] at t0 r t2 t3 t4 t5 p;have t:=congrArg Prod.fst e;simp only at t;obtain⟨n0,s,_,_⟩:=DataW.trod_int underlying3 t0;obtain⟨u,f,_,_⟩:=DataW.trod_string underlying9 r;obtain⟨J,b,_,_⟩:=DataW.trod_string underlying9 t2;obtain⟨y,c,_,_⟩:=DataW.trod_string underlying9 t3;obtain⟨z,a,_,_⟩:=DataW.trod_string underlying9 t4;simp only[cG,dh] at s f b c a;subst s f b c a;obtain⟨xs,o⟩:=AaC (d:=g.1) (ps:=g.2) t5;obtain⟨C,i⟩:=I B c6 y6.1 y6.2 (by
   rw[t,DataW.agg.sizeOf_spec];have:=gP (show y6.1∈[G.1,A.1,E.1,y3.1,y4.1,g.1,y6.1] by simp);omega) p
  exact⟨.mk n0 u.data.toList J.data.toList y.data.toList z.data.toList xs C,c5,c6,by rw[EG,EG,EG,EG];rfl,o,i⟩
theorem AaD{base:Nat}{held:Bool}{sp:Nat->Bool}:∀(m:Nat) {fuel:Nat} {v:Value} {d:DataW H} {ps:List MemPlace},SizeOf.sizeOf d<=m->
  DataW.trod enc prog w base sp held fuel 24 [v]=some (d,ps)->∃xs,Bl m (λ_=>True) w v xs:=by
 intro m
 induction m with
 |zero=>
  intro fuel v d ps hd h;have:0<SizeOf.sizeOf d:=by cases d<;>simp<;>omega
  omega
 |succ m e=>intro fuel v d ps hd h;refine OX underlying24 (by kernel_rfl) (by decide) (Jn (m+1) (λ_=>True)) h (λg o cs f D Pl hc hlen c i=>?_);obtain⟨x,b,up,rfl,h1,h2⟩:=Tz (m:=m) hlen (λf v D' Pl' hs hf=>e (by omega) hf) c;have k:=λj a=>hc j a;exact⟨x,b,up,⟨k 0 (by decide),k 1 (by decide),k 2 (by decide),k 3 (by decide),k 4 (by decide),k 5 (by decide),k 6 (by decide)⟩,h1,h2⟩
end
end
section
open Go.ChangeShapes Go.WideShapes Go.ChangeAt Go.RowKit Go.Deep Go.Joins
open FiS (Fi)
section
variable {H:Type} {enc:TypeId×Value->H}
theorem AfO{α:Type}{cs:Array α}(h:cs.size=13):∃c0 c1 c2 c3 c4 c5 d e c c9 b a c12,cs=#[c0,c1,c2,c3,c4,c5,d,e,c,c9,b,a,c12]:=by
 obtain⟨l⟩:=cs
 match l,h with
 |[c0,c1,c2,c3,c4,c5,d,e,c,c9,b,a,c12],_=>exact⟨c0,c1,c2,c3,c4,c5,d,e,c,c9,b,a,c12,rfl⟩
theorem Ae1{base:Nat}{held:Bool}{r:Reach}{X:Nat}{d:DataW H}{ps:List MemPlace}{sp:Nat->Bool}{N:Nat}
  (i:Value.okWide prog w r X 28 v)(hd:DataW.Trod enc prog w base sp held 28 v d ps)(hb:Rows.uptoBulk d<=N):
  ∃(q:SeS.Rq) (n:Nat),FI n w v q/\q.base.length<=N/\q.attrs.length<=N/\∀s∈q.attrs,s.length<=N:=by
 have t:prog.cellsOf 3=1:=by kernel_rfl
 have I:prog.cellsOf 9=1:=by kernel_rfl
 have z:prog.cellsOf 23=1:=by kernel_rfl
 have p:prog.cellsOf 4=1:=by kernel_rfl
 have B:prog.cellsOf 26=7:=by kernel_rfl
 obtain⟨cs,rfl,hsz⟩:=okWide_struct underlying28 i;obtain⟨c0,c1,c2,c3,c4,c5,K,O,L,c9,F,o,c12,rfl⟩:=AfO (hsz.trans (by kernel_rfl));obtain⟨fuel,E⟩:=hd;have E:DataW.trod enc prog w base sp held fuel 28 [c0,c1,c2,c3,c4,c5,K,O,L,c9,F,o,c12]=some (d,ps):=by simpa[Value.cells] using E
 obtain⟨U,y1,y2,y3,y4,Z,y6,Y,e,_,t0,M,t2,t3,t4,t5,J⟩:=NH underlying28 E;simp only[t,I,z,p,B,bI,List.take_succ_cons,List.take_zero,bW] at t0 M t2 t3 t4 t5 J;have c:=congrArg Prod.fst e;simp only at c;rw[c] at hb;have A:=aX (PV _) hb;simp only[Rows.uptoBulkAll] at A;have j:Rows.uptoBulk U.1<=N:=by omega
 have G:Rows.uptoBulk y4.1<=N:=by omega
 obtain⟨P,f,u,_⟩:=DataW.trod_string underlying9 t0;obtain⟨Q,b,_,_⟩:=DataW.trod_int underlying3 M;obtain⟨T,k,_,_⟩:=DataW.trod_int underlying3 t2;obtain⟨x,ua,up,ex,h1,h2⟩:=Tz (m:=SizeOf.sizeOf y3.1) (cs:=[c3,c4,c5,K,O,L,c9]) (d:=y3.1) (ps:=y3.2) rfl (λfu v D Pl hs h=>AaD _ (dF hs) h) t3;obtain⟨xs,l,hx1,y,_⟩:=open_strs (d:=y4.1) (ps:=y4.2) t4 G;rw[u] at j;have C:=Me j;obtain⟨b5,g,_⟩:=DataW.trod_bool underlying4 t5;obtain⟨n6,a,_,_⟩:=DataW.trod_int underlying3 J;simp only[cG,dh] at f b k ex g a;obtain⟨rfl,rfl,rfl,rfl,rfl,rfl,rfl⟩:=ex;subst f b k g a;obtain⟨a5,S,rfl,_⟩:=Ad.form h1;obtain⟨V,W,rfl,_⟩:=Ad.form h2;obtain⟨R,ka,rfl,_⟩:=Ad.form l;refine⟨⟨P.data.toList,Q,T,x,xs,b5,n6⟩,_,⟨a5,V,R,S,W,ka,?_,⟨_,_,rfl,h1,h2⟩,l.strs⟩,C,hx1,y⟩;show _=Value.agg #[Ac P.data.toList,_,_,_,_,_,_,_,_,_,_,_,_]
 rw[EG];rfl
end
end
