/- Filters in memory, each block of which has a property. Conditions: as stated. -/
import Derived.Test.YtgngjfjaelgaeaaGreatDoorZGro
set_option maxRecDepth 100000
set_option maxHeartbeats 2000000
namespace Go.Proofs.YtgngjfjaelgaeaaGreatDoor
open Go.Proofs.Tryz
variable {x:FiS.Fi} {xs:List FiS.Fi} {s:iK} {n:Nat} {ok:Nat->Prop} {v:Value} {w w':World}
section
open Go.RowKit
open FiS (Fi)
def Jn:Nat->(Nat->Prop)->World->Nat->Nat->Fi->Prop
 |0,_,_,_,_,_=>False
 |n+1,ok,w,g,o,x=>∃a up,(w.cell? ⟨g,o,none⟩=some (.int .i64 x.kind)/\w.cell? ⟨g,o+1,none⟩=some (Ac x.attr)/\w.cell? ⟨g,o+2,none⟩=some (Ac x.value)/\w.cell? ⟨g,o+3,none⟩=some (Ac x.first)/\w.cell? ⟨g,o+4,none⟩=some (Ac x.last)/\w.cell? ⟨g,o+5,none⟩=some a/\w.cell? ⟨g,o+6,none⟩=some up)/\Am ok w a x.any/\Ad 7 (Jn n ok) ok w up x.parts
def Bl(n:Nat)(ok:Nat->Prop)(w:World)(v:Value)(xs:List Fi):Prop:=Ad 7 (Jn n ok) ok w v xs
theorem Jn.keep{ok':Nat->Prop}(d:w.heap.size<=w'.heap.size)(hb:∀g,g<w.heap.size->ok g->w'.heap[g]?=w.heap[g]?)(hk:∀g,g<w.heap.size->ok g->ok' g):
  ∀{n:Nat} {g o:Nat} {x:Fi},Jn n ok w g o x->w'.heap[g]?=w.heap[g]?->Jn n ok' w' g o x:=by
 intro n
 induction n with
 |zero=>intro g o x h _;cases h
 |succ n j=>intro g o x h b;obtain⟨e,up,⟨h0,h1,h2,h3,h4,h5,h6⟩,f,hp⟩:=h;have hc:=λi=>World.cell?_of_block (a:=⟨g,i,none⟩) b;exact⟨e,up,⟨(hc _).trans h0,(hc _).trans h1,(hc _).trans h2,(hc _).trans h3,(hc _).trans h4,(hc _).trans h5,(hc _).trans h6⟩,Am.keep f d hb hk,Ad.imp hp d hk λg o x b c hx=>j hx (hb g b c)⟩
theorem Bl.keep{ok':Nat->Prop}(h:Bl n ok w v xs)(b:w.heap.size<=w'.heap.size)(hb:∀g,g<w.heap.size->ok g->w'.heap[g]?=w.heap[g]?)(hk:∀g,g<w.heap.size->ok g->ok' g):Bl n ok' w' v xs:=
 Ad.imp h b hk λg _ _ c a hx=>Jn.keep b hb hk hx (hb g c a)
theorem Bl.call(h:Bl n ok w v xs)(hb:Below w.heap.size w w'):Bl n ok w' v xs:=h.keep hb.size (λg a _=>hb.block g a) (λ_ _ h=>h)
theorem Jn.mono:∀{m:Nat} {ok:Nat->Prop} {w:World} {g o:Nat} {x:Fi},Jn m ok w g o x->Jn (m+n) ok w g o x:=by
 intro m
 induction m with
 |zero=>intro ok w g o x h;cases h
 |succ m c=>intro ok w g o x h;rw[Nat.succ_add];obtain⟨a,up,hc,b,hp⟩:=h;exact⟨a,up,hc,b,Ad.imp hp (aA _) (λ_ _ h=>h) λ_ _ _ _ _ hx=>c hx⟩
theorem Bl.mono{m:Nat}(a:m<=n)(h:Bl m ok w v xs):Bl n ok w v xs:=by
 obtain⟨d,rfl⟩:∃d,n=m+d:=⟨n-m,by omega⟩
 exact Ad.imp h (aA _) (λ_ _ h=>h) λ_ _ _ _ _ hx=>Jn.mono hx
def FiV(n:Nat)(ok:Nat->Prop)(w:World)(v:Value)(x:Fi):Prop:=∃a up,v=.agg #[x.kind,x.attr,x.value,x.first,x.last,a,up]/\Am ok w a x.any/\Bl n ok w up x.parts
theorem FiV.keep{ok':Nat->Prop}(h:FiV n ok w v x)(a:w.heap.size<=w'.heap.size)(hb:∀g,g<w.heap.size->ok g->w'.heap[g]?=w.heap[g]?)(hk:∀g,g<w.heap.size->ok g->ok' g):FiV n ok' w' v x:=by obtain⟨b,up,rfl,h1,h2⟩:=h;exact⟨b,up,rfl,h1.keep a hb hk,h2.keep a hb hk⟩
theorem FiV.call(h:FiV n ok w v x)(hb:Below w.heap.size w w'):FiV n ok w' v x:=h.keep hb.size (λg a _=>hb.block g a) (λ_ _ h=>h)
abbrev BF(n:Nat):World->Value->Fi->Prop:=FiV n (λ_=>True)
theorem FiV.ins(h:FiV n ok w v x):BF n w v x:=h.keep (aA _) (λ_ _ _=>rfl) (λ_ _ _=>trivial)
theorem FiV.parts(h:BF n w v x):∃a5 c5 b a,v=.agg #[x.kind,x.attr,x.value,x.first,x.last,.slice a5 x.any.length c5,.slice b x.parts.length a]/\Ah w (.slice a5 x.any.length c5) x.any/\x.parts.length<=a/\Bl n (λ_=>True) w (.slice b x.parts.length a) x.parts:=by obtain⟨c,up,rfl,h1,h2⟩:=h;obtain⟨a5,c5,rfl,_⟩:=Ad.form h1;obtain⟨b,a,rfl,hc⟩:=Ad.form h2;exact⟨a5,c5,b,a,rfl,h1.strs,hc,h2⟩
theorem Bl.at{n:Nat}{w:World}{a:Option Addr}{m c:Nat}{xs:List Fi}(h:Bl n (λ_=>True) w (.slice a m c) xs):∀j (b:j<xs.length),∃d,n=d+1/\∃g o,a=some ⟨g,o,none⟩/\g<w.heap.size/\∃a5 c5 f i,BF d w (.agg #[.int .i64 (xs[j]'b).kind,.string ⟨(xs[j]'b).attr.toArray⟩,.string ⟨(xs[j]'b).value.toArray⟩,.string ⟨(xs[j]'b).first.toArray⟩,.string ⟨(xs[j]'b).last.toArray⟩,.slice a5 (xs[j]'b).any.length c5,.slice f (xs[j]'b).parts.length i]) (xs[j]'b)/\
  w.cell? ⟨g,o+j*7,none⟩=some (.int .i64 (xs[j]'b).kind)/\w.cell? ⟨g,o+j*7+1,none⟩=some (.string ⟨(xs[j]'b).attr.toArray⟩)/\w.cell? ⟨g,o+j*7+2,none⟩=some (.string ⟨(xs[j]'b).value.toArray⟩)/\w.cell? ⟨g,o+j*7+3,none⟩=some (.string ⟨(xs[j]'b).first.toArray⟩)/\w.cell? ⟨g,o+j*7+4,none⟩=some (.string ⟨(xs[j]'b).last.toArray⟩)/\
  w.cell? ⟨g,o+j*7+5,none⟩=some (.slice a5 (xs[j]'b).any.length c5)/\w.cell? ⟨g,o+j*7+6,none⟩=some (.slice f (xs[j]'b).parts.length i):=by
 intro j b;obtain⟨u,z,e,hc,k⟩:=Ad.at h;injection e with e1 e2 e3;subst e1;obtain⟨g,o,r,t,_,hx⟩:=k j b;generalize xs[j]=x at*;cases n with
 |zero=>cases hx
 |succ d=>obtain⟨y,up,⟨h0,h1,h2,h3,h4,h5,h6⟩,q,hp⟩:=hx;have l:=q;have p:=hp;obtain⟨a5,c5,rfl,_⟩:=Ad.form q;obtain⟨f,i,rfl,_⟩:=Ad.form hp;exact⟨d,rfl,g,o,r,t,a5,c5,f,i,⟨_,_,rfl,l,p⟩,h0,h1,h2,h3,h4,h5,h6⟩
theorem Whole.seven{g:Nat}{t:TypeId}{a0 a1 a2 a3 a4 a5 a:Value}(h:Whole w g t #[a0,a1,a2,a3,a4,a5,a]):w.cell? ⟨g,0,none⟩=some a0/\w.cell? ⟨g,1,none⟩=some a1/\w.cell? ⟨g,2,none⟩=some a2/\w.cell? ⟨g,3,none⟩=some a3/\w.cell? ⟨g,4,none⟩=some a4/\w.cell? ⟨g,5,none⟩=some a5/\w.cell? ⟨g,6,none⟩=some a:=
 ⟨h.cell 0,h.cell 1,h.cell 2,h.cell 3,h.cell 4,h.cell 5,h.cell 6⟩
theorem EU{P:Nat->Prop}(h:∀n,(∀m,n=m+1->P m)->P n):∀n,P n:=by
 intro n
 induction n with
 |zero=>exact h 0 (λm e=>by omega)
 |succ n a=>exact h (n+1) (λm e=>by cases e;exact a)
end
section
namespace FiS
theorem Ik:∀{ps:List Fi} {j:Nat} (a:j<ps.length),Bi (ps.take (j+1))=Bi (ps.take j)+nodes (ps[j]'a)
 |[],j,a=>by simp at a
 |p :: r,0,_=>by
  show nodes p+Bi (r.take 0)=Bi []+nodes p
  simp[Bi]
 |p :: r,j+1,a=>by
  have b:=Ik (ps:=r) (j:=j) (by simpa using a);show nodes p+Bi (r.take (j+1))=nodes p+Bi (r.take j)+nodes (r[j]'(by simpa using a))
  omega
theorem MQ:∀(ps:List Fi) (j:Nat),Bi (ps.take j)<=Bi ps
 |[],j=>by simp
 |p :: r,0=>by simp[Bi]
 |p :: r,j+1=>by
  have:=MQ r j;show nodes p+Bi (r.take j)<=nodes p+Bi r
  omega
theorem MR:∀(ps:List Fi),ps.length<=Bi ps
 |[]=>aR _
 |p :: r=>by
  have h1:=MR r;have h2:1<=nodes p:=by cases p;rw[nodes];omega
  show r.length+1<=nodes p+Bi r
  omega
theorem MS{ps:List Fi}{j:Nat}(h:j<=ps.length):j<=Bi (ps.take j):=by have:=MR (ps.take j);rw[ar] at this;omega
theorem Ss(x:Fi):1<=nodes x:=by cases x;rw[nodes];omega
theorem Il:∀{ps:List Fi} {j:Nat} (a:j<ps.length),BL (ps.take (j+1))=max (BL (ps.take j)) (depth (ps[j]'a))
 |[],j,a=>by simp at a
 |p :: r,0,_=>by
  show max (depth p) (BL (r.take 0))=max (BL []) (depth p)
  simp[BL]
 |p :: r,j+1,a=>by
  have b:=Il (ps:=r) (j:=j) (by simpa using a);show max (depth p) (BL (r.take (j+1)))=max (max (depth p) (BL (r.take j))) (depth (r[j]'(by simpa using a)))
  omega
end FiS
open Go.RowKit
open FiS (Fi)
attribute [local go_sem ↓] Go.wp_at_zero Go.wp_at_succ
def Agr(n:Nat):Prop:=∀(x:Fi) (v:Value) (w:World),BF n w v x->Calls prog 88 #[v] w λe w'=>e=.returned (.int .i64 ((min (FiS.nodes x) 41:Nat):Int))/\Below w.heap.size w w'
theorem Afo:∀n,Agr n:=EU (λn IH=>by
 intro x v w h;obtain⟨kd,l,vl,Z,ls,O,ps⟩:=x;obtain⟨a5,c5,Y,I,hv,q,z,b⟩:=FiV.parts h;have hv:v=.agg #[kd,l,vl,Z,ls,.slice a5 O.length c5,.slice Y ps.length I]:=hv;subst hv;have q:Ah w (.slice a5 O.length c5) O:=q;have z:ps.length<=I:=z;have b:Bl n (λ_=>True) w (.slice Y ps.length I) ps:=b;have HT:=hZ9 (λj (G:j<ps.length)=>FiS.Ik G);have A:=hZ9 (λj=>FiS.MQ ps j);have E:=hZ9 (λj (G:j<=ps.length)=>FiS.MS G);have t:Hid (ps.take ps.length=ps):=hZ9 (bA);have hN:FiS.nodes (.mk kd l vl Z ls O ps)=1+FiS.Bi ps:=by rw[FiS.nodes]
 rw[hN];clear hN;obtain⟨R,hR⟩:∃r,min (1+FiS.Bi ps) 41=r:=⟨_,rfl⟩
 have HR:=hZ9 hR;rw[hR];clear hR;obtain⟨AL,f⟩:∃m,O.length=m:=⟨_,rfl⟩
 obtain⟨C,c⟩:∃m,ps.length=m:=⟨_,rfl⟩
 have A2:=hZ9 f;have A4:=hZ9 c;rw[f] at q;rw[c] at z b
 try rw[f]
 try rw[c]
 have J:=Af w (.cells #[kd,l,vl,Z,ls,.slice a5 AL c5,.slice Y C I] 36);have P:=Whole.made w 36 #[kd,l,vl,Z,ls,.slice a5 AL c5,.slice Y C I];have B:=hZ9 (λj (G:j<ps.length)=>Bl.at b j G);rw[c] at t;obtain⟨q0,q1,q2,q3,q4,q5,q6⟩:=P.seven;clear h q b f c A2;go_enter func88,ntmps88;go_wp2_with fail;go_loopw [3,9] (λnv i wr=>∃j N:Nat,j<=C/\i=.int .i64 j/\nv=.int .i64 (N:Int)/\Hid (N=1+FiS.Bi (ps.take j))/\N<=40/\Below w.heap.size w wr) (λ_ i _=>C-(intOf i).toNat)
 case atStart=>exact⟨0,1,aR _,rfl,rfl,hZ9 ((by simp[FiS.Bi])),by omega,J⟩
 case round=>
  obtain⟨j,N,G,rfl,rfl,L,H,hb⟩:=hrel;clear P J q0 q1 q2 q3 q4 q5 q6;by_cases A5:j<C
  ·have a:j<ps.length:=by rw[A4.out];exact A5
   have ht:=HT.out j a;have A9:=E.out j (dF a);have K:N<=40->j<=40:=λh=>by have:=L.out;omega
   have B4:=A.out (j+1);obtain⟨d,rfl,g,o,rfl,y,b5,d5,b6,d6,k,y0,y1,y2,y3,y4,y5,y6⟩:=B.out j a;have k:=k.call hb;have y0:=(hb.cell (p:=⟨g,o+j*7,none⟩) y).trans y0;have y1:=(hb.cell (p:=⟨g,o+j*7+1,none⟩) y).trans y1;have y2:=(hb.cell (p:=⟨g,o+j*7+2,none⟩) y).trans y2;have y3:=(hb.cell (p:=⟨g,o+j*7+3,none⟩) y).trans y3;have y4:=(hb.cell (p:=⟨g,o+j*7+4,none⟩) y).trans y4;have y5:=(hb.cell (p:=⟨g,o+j*7+5,none⟩) y).trans y5;have y6:=(hb.cell (p:=⟨g,o+j*7+6,none⟩) y).trans y6;have u:=λv W h=>IH d rfl (ps[j]'a) v W h;have V:=FiS.Ss (ps[j]'a);clear IH B HT A E;generalize ps[j]=p at*;generalize p.any.length=PA at*;generalize p.parts.length=PP at*;have B2:(0:Int)<=(j:Int):=by omega
   have B1:(j:Int)<(C:Int):=by omega
   have Q:=Af wr (.cells #[p.kind,p.attr,p.value,p.first,p.last,.slice b5 PA d5,.slice b6 PP d6] 36);have X:=Whole.made wr 36 #[p.kind,p.attr,p.value,p.first,p.last,.slice b5 PA d5,.slice b6 PP d6];obtain⟨x0,x1,x2,x3,x4,x5,x6⟩:=X.seven;have S:=hb.trans (Q.mono hb.size);have hc:=u _ _ (k.call Q);clear u k X;obtain⟨M,hM⟩:∃m,FiS.nodes p=m:=⟨_,rfl⟩
   rw[hM] at hc ht V;clear hM;obtain⟨M2,F⟩:∃m,min M 41=m:=⟨_,rfl⟩
   rw[F] at hc;have B0:M2<=41/\(M2=M\/(M2=41/\41<M)):=by omega
   have B3:=hZ9 F;clear F;go_wp2_with fail;refine hc.mono ?_;rintro e w2 ⟨rfl,A3⟩;have U:=S.trans (A3.mono S.size);clear hc;by_cases T:40<N+M2
   ·have A1:decide ((40:Int)<(N:Int)+(M2:Int))=true:=aI (by omega);have hR:R=41:=by have:=L.out;have:=HR.out;omega
    clear T;go_wp2_with fail;go_ret;exact⟨by rw[hR];rfl,U⟩
   ·have A1:decide ((40:Int)<(N:Int)+(M2:Int))=false:=aB (by omega);have A8:=K H;have A7:Hid (N+M2=1+FiS.Bi (ps.take (j+1))):=hZ9 (by have:=L.out;omega);have A0:N+M2<=40:=by omega
    go_wp2_with fail;go_roundw
    case rel=>exact⟨j+1,N+M2,by omega,by go_num,by go_num,A7,A0,U⟩
    case measure=>simp[intOf];omega
  ·have A6:j=C:=by omega
   subst A6;have hR:R=N:=by have:=L.out;rw[t.out] at this;have:=HR.out;omega
   clear IH B HT A L E;go_wp2_with fail;go_ret;subst hR;exact⟨rfl,hb⟩)
def Abo(n:Nat):Prop:=∀(x:Fi) (v:Value) (w:World),BF n w v x->Calls prog 19 #[v] w λe w'=>e=.returned (.int .i64 ((min (FiS.nodes x) 41:Nat):Int))/\Below w.heap.size w w'
theorem ZI:∀n,Abo n:=EU (λn IH=>by
 intro x v w h;obtain⟨kd,f,U,T,ls,L,ps⟩:=x;obtain⟨a5,c5,O,H,hv,u,B,b⟩:=FiV.parts h;have hv:v=.agg #[kd,f,U,T,ls,.slice a5 L.length c5,.slice O ps.length H]:=hv;subst hv;have u:Ah w (.slice a5 L.length c5) L:=u;have B:ps.length<=H:=B;have b:Bl n (λ_=>True) w (.slice O ps.length H) ps:=b;have HT:=hZ9 (λj (G:j<ps.length)=>FiS.Ik G);have q:=hZ9 (λj=>FiS.MQ ps j);have F:=hZ9 (λj (G:j<=ps.length)=>FiS.MS G);have y:Hid (ps.take ps.length=ps):=hZ9 (bA);have hN:FiS.nodes (.mk kd f U T ls L ps)=1+FiS.Bi ps:=by rw[FiS.nodes]
 rw[hN];clear hN;obtain⟨R,hR⟩:∃r,min (1+FiS.Bi ps) 41=r:=⟨_,rfl⟩
 have HR:=hZ9 hR;rw[hR];clear hR;obtain⟨AL,t⟩:∃m,L.length=m:=⟨_,rfl⟩
 obtain⟨z,k⟩:∃m,ps.length=m:=⟨_,rfl⟩
 have A0:=hZ9 t;have A1:=hZ9 k;rw[t] at u;rw[k] at B b
 try rw[t]
 try rw[k]
 have I:=Af w (.cells #[kd,f,U,T,ls,.slice a5 AL c5,.slice O z H] 26);have E:=Whole.made w 26 #[kd,f,U,T,ls,.slice a5 AL c5,.slice O z H];have C:=hZ9 (λj (G:j<ps.length)=>Bl.at b j G);rw[k] at y;obtain⟨q0,q1,q2,q3,q4,q5,q6⟩:=E.seven;clear h u b t k A0;go_enter func19,ntmps19;go_wp2_with fail;go_loopw [3,8] (λnv i wr=>∃j N:Nat,j<=z/\i=.int .i64 j/\nv=.int .i64 (N:Int)/\Hid (N=1+FiS.Bi (ps.take j)\/(40<N/\N<=81/\40<1+FiS.Bi (ps.take j)))/\N<=81/\Whole wr w.heap.size 26 #[kd,f,U,T,ls,.slice a5 AL c5,.slice O z H]/\Below w.heap.size w wr) (λ_ i _=>z-(intOf i).toNat)
 case atStart=>exact⟨0,1,aR _,rfl,rfl,hZ9 (.inl (by simp[FiS.Bi])),by omega,E,I⟩
 case round=>
  obtain⟨j,N,G,rfl,rfl,K,A7,hw,hb⟩:=hrel;clear E I q0 q1 q2 q3 q4 q5 q6;by_cases A2:j<z
  ·have a:j<ps.length:=by rw[A1.out];exact A2
   have ht:=HT.out j a;have B0:=F.out j (dF a);have J:N<=40->j<=40:=λh=>by have:=K.out;omega
   have B5:=q.out (j+1);have P:=hZ9 q.out;obtain⟨d,rfl,g,o,rfl,A,b5,d5,b6,d6,c,y0,y1,y2,y3,y4,y5,y6⟩:=C.out j a;have c:=c.call hb;have y0:=(hb.cell (p:=⟨g,o+j*7,none⟩) A).trans y0;have y1:=(hb.cell (p:=⟨g,o+j*7+1,none⟩) A).trans y1;have y2:=(hb.cell (p:=⟨g,o+j*7+2,none⟩) A).trans y2;have y3:=(hb.cell (p:=⟨g,o+j*7+3,none⟩) A).trans y3;have y4:=(hb.cell (p:=⟨g,o+j*7+4,none⟩) A).trans y4;have y5:=(hb.cell (p:=⟨g,o+j*7+5,none⟩) A).trans y5;have y6:=(hb.cell (p:=⟨g,o+j*7+6,none⟩) A).trans y6;have l:=λv W h=>IH d rfl (ps[j]'a) v W h;have V:=FiS.Ss (ps[j]'a);clear IH C HT q F;generalize ps[j]=p at*;generalize p.any.length=PA at*;generalize p.parts.length=PP at*;have B4:(0:Int)<=(j:Int):=by omega
   have B3:(j:Int)<(z:Int):=by omega
   by_cases A9:40<N
   ·have Z:decide ((40:Int)<(N:Int))=true:=aI (by omega);have hR:R=41:=by have:=K.out;have:=P.out j;have:=HR.out;omega
    have B1:min (N:Int) 41=41:=by omega
    clear l c;go_wp2_with fail;go_ret;exact⟨by rw[hR];rfl,hb⟩
   have Z:decide ((40:Int)<(N:Int))=false:=aB (by omega);have hc:=l _ _ c;clear l c;obtain⟨q0,q1,q2,q3,q4,q5,q6⟩:=hw.seven;obtain⟨M,hM⟩:∃m,FiS.nodes p=m:=⟨_,rfl⟩
   rw[hM] at hc ht V;clear hM;obtain⟨M2,X⟩:∃m,min M 41=m:=⟨_,rfl⟩
   rw[X] at hc;have B2:M2<=41/\(M2=M\/(M2=41/\41<M)):=by omega
   clear X;go_wp2_with fail;refine hc.mono ?_;rintro e w2 ⟨rfl,S⟩;have A3:=hb.trans (S.mono hb.size);have A5:=hw.call S;clear hc q0 q1 q2 q3 q4 q5 q6;have A8:=J (by omega);have A6:Hid (N+M2=1+FiS.Bi (ps.take (j+1))\/(40<N+M2/\N+M2<=81/\40<1+FiS.Bi (ps.take (j+1)))):=hZ9 (by have:=K.out;omega);have Y:N+M2<=81:=by omega
   go_wp2_with fail;go_roundw
   case rel=>exact⟨j+1,N+M2,by omega,by go_num,by go_num,A6,Y,A5,A3⟩
   case measure=>simp[intOf];omega
  ·have A4:j=z:=by omega
   subst A4;have Q:min (N:Int) 41=(R:Int):=by have:=K.out;rw[y.out] at this;have:=HR.out;omega
   clear IH C HT q K F;go_wp2_with fail;go_ret
   first|exact⟨rfl,hb⟩|exact⟨by rw[Q],hb⟩|exact⟨by rw[<-Q],hb⟩)
end
section
namespace FiS
def okI(i:Nat)(c:UInt8):Bool:=if i=0 then AZ c else Hn c
theorem Vj{i:Nat}(b:i<s.length)(h:okI i (s[i]'b)=false):GF s=false:=by
 cases s with
 |nil=>rfl
 |cons c r=>
  show (AZ c&&r.all Hn&&decide ((c :: r).length<=40))=false
  cases i with
  |zero=>have h:AZ c=false:=h;rw[h];rfl
  |succ i=>
   have h:Hn (r[i]'(by simpa using b))=false:=h;have a:r.all Hn=false:=by rw[fN];exact⟨_,aZ (by simpa using b),by rw[h];simp⟩
   rw[a];simp
theorem Su(h:∀i (a:i<s.length),okI i (s[i]'a)=true):GF s=(!s.isEmpty&&decide (s.length<=40)):=by
 cases s with
 |nil=>rfl
 |cons c r=>
  have h0:AZ c=true:=h 0 (by simp);have h1:r.all Hn=true:=by rw[List.all_eq_true];intro x hx;obtain⟨i,a,rfl⟩:=bc.1 hx;exact h (i+1) (by simpa using a)
  show (AZ c&&r.all Hn&&decide ((c :: r).length<=40))=_
  rw[h0,h1];rfl
theorem Yz{j:Nat}(b:j<s.length)(h:∀i (a:i<s.length),i<j->okI i (s[i]'a)=true)(h2:okI j (s[j]'b)=true):∀i (a:i<s.length),i<j+1->okI i (s[i]'a)=true:=λi a c=>by
 by_cases e:i=j
 ·subst e;exact h2
 ·exact h i a (by omega)
theorem Abp:∀n:Fin 256,(decide ((97:Int)<=(((UInt8.ofNat n.val)|||32).toNat:Int))&&decide ((((UInt8.ofNat n.val)|||32).toNat:Int)<=122))=AZ (UInt8.ofNat n.val):=by decide+kernel
theorem XA(c:UInt8):(decide ((97:Int)<=((c|||32).toNat:Int))&&decide (((c|||32).toNat:Int)<=122))=AZ c:=by
 have:=Abp ⟨c.toNat,c.toNat_lt⟩
 simpa only[dB] using this
theorem AgN:∀n:Fin 256,bits .or .u8 ((UInt8.ofNat n.val).toNat:Int) 32=(((UInt8.ofNat n.val)|||32).toNat:Int):=by decide+kernel
theorem Afp(c:UInt8):bits .or .u8 (c.toNat:Int) 32=((c|||32).toNat:Int):=by
 have:=AgN ⟨c.toNat,c.toNat_lt⟩
 simpa only[dB] using this
end FiS
open Go.RowKit
open FiS (Fi)
attribute [local go_sem ↓] Go.wp_at_zero Go.wp_at_succ
theorem letter_c(c:UInt8)(w:World):Calls prog 167 #[.int .u8 (c.toNat:Int)] w λe w'=>e=.returned (.bool (FiS.AZ c))/\w=w':=by
 have HR:Hid (FiS.AZ c=(decide (65<=c.toNat/\c.toNat<=90)||decide (97<=c.toNat/\c.toNat<=122))):=hZ9 rfl;generalize FiS.AZ c=R at*;have hc:(97<=c.toNat/\c.toNat<=122/\R=true)\/(97<=c.toNat/\122<c.toNat/\R=false)\/(c.toNat<65/\R=false)\/(65<=c.toNat/\c.toNat<=90/\R=true)\/(90<c.toNat/\c.toNat<97/\R=false):=by
  have h:=HR.out;have e:(decide (65<=c.toNat/\c.toNat<=90)||decide (97<=c.toNat/\c.toNat<=122))=decide ((65<=c.toNat/\c.toNat<=90)\/(97<=c.toNat/\c.toNat<=122)):=by rw[Bool.decide_or]
  rw[e] at h;by_cases h1:97<=c.toNat
  ·by_cases h2:c.toNat<=122
   ·exact .inl ⟨h1,h2,by rw[h];exact aI (.inr ⟨h1,h2⟩)⟩
   ·exact .inr (.inl ⟨h1,by omega,by rw[h];exact aB (by omega)⟩)
  ·by_cases h2:c.toNat<65
   ·exact .inr (.inr (.inl ⟨h2,by rw[h];exact aB (by omega)⟩))
   ·by_cases h3:c.toNat<=90
    ·exact .inr (.inr (.inr (.inl ⟨by omega,h3,by rw[h];exact aI (.inl ⟨by omega,h3⟩)⟩)))
    ·exact .inr (.inr (.inr (.inr ⟨by omega,by omega,by rw[h];exact aB (by omega)⟩)))
 clear HR;rcases hc with⟨h1,h2,rfl⟩|⟨h1,h2,rfl⟩|⟨h1,rfl⟩|⟨h1,h2,rfl⟩|⟨h1,h2,rfl⟩
 all_goals
  first|have g1:decide ((97:Int)<=(c.toNat:Int))=true:=aI (by omega)|have g1:decide ((97:Int)<=(c.toNat:Int))=false:=aB (by omega)
  first|have g2:decide ((c.toNat:Int)<=122)=true:=aI (by omega)|have g2:decide ((c.toNat:Int)<=122)=false:=aB (by omega)
  first|have g3:decide ((65:Int)<=(c.toNat:Int))=true:=aI (by omega)|have g3:decide ((65:Int)<=(c.toNat:Int))=false:=aB (by omega)
  first|have g4:decide ((c.toNat:Int)<=90)=true:=aI (by omega)|have g4:decide ((c.toNat:Int)<=90)=false:=aB (by omega)
  go_enter func167,ntmps167;go_wp2_with fail;go_ret;exact⟨rfl,rfl⟩
theorem Abq(s:iK)(w:World):Calls prog 154 #[s] w λe w'=>e=.returned (.bool (FiS.BP s))/\w=w':=by
 cases s with
 |nil=>go_enter func154,ntmps154;go_wp2_with fail;go_ret;exact⟨rfl,rfl⟩
 |cons c r=>
  have HR:Hid (FiS.BP (c :: r)=decide ((c :: r).length<=200)):=hZ9 rfl;generalize FiS.BP (c :: r)=R at*;generalize a:c :: r=s at*;have h1:s.isEmpty=false:=by subst a;rfl
  have h2:(s==[])=false:=by subst a;rfl
  have h3:¬s=[]:=by subst a;simp
  clear a;go_enter func154,ntmps154;go_wp2_with fail;go_ret;refine⟨?_,rfl⟩;rw[HR.out]
  first|rfl|(rw[show decide ((s.length:Int)<=200)=decide (s.length<=200) from bM.2 (by omega)];rfl)
theorem Sv(s:iK)(w:World):Calls prog 138 #[s] w λe w'=>e=.returned (.bool (FiS.BP s))/\w=w':=by
 have HR:Hid (FiS.BP s=(decide (1<=s.length)&&decide (s.length<=200))):=hZ9 (by
  unfold FiS.BP;cases s<;>simp)
 generalize FiS.BP s=R at*;by_cases h1:1<=s.length
 ·have g1:decide ((1:Int)<=(s.length:Int))=true:=aI (by omega);go_enter func138,ntmps138;go_wp2_with fail;go_ret;refine⟨?_,rfl⟩;rw[HR.out,aI h1,cy]
  first|rfl|(rw[show decide ((s.length:Int)<=200)=decide (s.length<=200) from bM.2 (by omega)];rfl)
 ·have g1:decide ((1:Int)<=(s.length:Int))=false:=aB (by omega);have a:R=false:=by rw[HR.out,aB h1];rfl
  subst a;go_enter func138,ntmps138;go_wp2_with fail;go_ret;exact⟨rfl,rfl⟩
theorem Ad7(s:iK)(w:World):Calls prog 156 #[s] w λe w'=>e=.returned (.bool (!FiS.BP s))/\w=w':=by have hc:=Abq s w;generalize FiS.BP s=R at*;go_enter func156,ntmps156;go_wp2_with fail;refine hc.mono ?_;rintro e w1 ⟨rfl,rfl⟩;go_wp2_with fail;go_ret;exact⟨rfl,rfl⟩
theorem XB(s:iK)(W:s.length<=20000)(w:World):Calls prog 153 #[s] w λe w'=>e=.returned (.bool (FiS.GF s))/\Below w.heap.size w w':=by
 have o:=λw=>Lib.run_convert_string_bytes (P:=prog) w 9 157 5 ⟨s.toArray⟩ underlying9 underlying157 underlying5;have I:(⟨s.toArray⟩:ByteArray).size<=grownCap w (⟨s.toArray⟩:ByteArray).size 0 5:=grownCap_ge _ _ _ _;have hb0:=BytesIn.conv w 5 ⟨s.toArray⟩;have H:=Lib.bytesWorld_below w 5 ⟨s.toArray⟩;have hsz:(⟨s.toArray⟩:ByteArray).size=s.length:=by show s.toArray.size=_;simp
 have G:(⟨s.toArray⟩:ByteArray).data.toList=s:=by simp
 rw[G] at hb0;rw[hsz] at o I;have l:=hZ9 (λj (K:j<s.length) h=>FiS.Vj K h);have f:=hZ9 (λh=>FiS.Su (s:=s) h);have k:=hZ9 (λj (K:j<s.length) h h2=>FiS.Yz K h h2);obtain⟨R,hR⟩:∃r,FiS.GF s=r:=⟨_,rfl⟩
 rw[hR] at l f⊢;clear hR G;obtain⟨n,T⟩:∃n,s.length=n:=⟨_,rfl⟩
 go_enter func153,ntmps153;go_wp2_with fail;clear o;generalize grownCap w n 0 5=cap at*;generalize Lib.bytesWorld w 5 ⟨s.toArray⟩=w0 at*;go_loopw [9] (λi wr=>∃j:Nat,j<=n/\i=.int .i64 j/\Hid (∀i (L:i<s.length),i<j->FiS.okI i (s[i]'L)=true)/\BytesIn wr w.heap.size s/\Below w.heap.size w wr) (λi _=>n-(intOf i).toNat)
 case atStart=>exact⟨0,aR _,rfl,hZ9 (λi L h=>by omega),hb0,H⟩
 case round=>
  obtain⟨j,K,rfl,M,A,hb⟩:=hrel;clear hb0 H;by_cases O:j<n
  ·have p:j<s.length:=by omega
   have hc:=A.cell p;have d:=hZ9 (λh=>l.out j p h);have g:=hZ9 (λh=>k.out j p M.out h);clear l k f;generalize s[j]=c at*;have S:=FiS.Afp c;have m:=FiS.XA c;have E:Hid (FiS.Hn c=(FiS.AZ c||FiS.isDig c||c==45)):=hZ9 rfl;have V:(0:Int)<=(j:Int):=by omega
   have U:(j:Int)<(n:Int):=by omega
   generalize ((c|||32).toNat:Int)=z at*;have Q:(FiS.AZ c=true/\decide ((97:Int)<=z)=true/\decide (z<=122)=true)\/(FiS.AZ c=false/\decide ((97:Int)<=z)=false)\/(FiS.AZ c=false/\decide ((97:Int)<=z)=true/\decide (z<=122)=false):=by
    cases h1:decide ((97:Int)<=z)<;>cases h2:decide (z<=122)<;>rw[h1,h2] at m
    ·exact .inr (.inl ⟨m.symm,rfl⟩)
    ·exact .inr (.inl ⟨m.symm,rfl⟩)
    ·exact .inr (.inr ⟨m.symm,rfl,rfl⟩)
    ·exact .inl ⟨m.symm,rfl,rfl⟩
   clear m;have C:FiS.AZ c=true->FiS.okI j c=true:=λh=>by
    unfold FiS.okI;split
    ·exact h
    ·rw[E.out,h];rfl
   have y:=hZ9 C;have B:FiS.AZ c=false->FiS.okI j c=(decide (j≠0)&&(FiS.isDig c||c==45)):=λh=>by
    unfold FiS.okI;split
    ·rename_i h0;rw[h];simp[h0]
    ·rename_i h0;rw[E.out,h];simp[h0]
   have q:=hZ9 B;clear C B E;have a:FiS.AZ c=false->∀(P:Prop),((j=0->P)/\(j≠0->c.toNat=45->P)/\(j≠0->c.toNat≠45->c.toNat<48->P)/\(j≠0->c.toNat≠45->48<=c.toNat->57<c.toNat->P)/\(j≠0->c.toNat≠45->48<=c.toNat->c.toNat<=57->P))->P:=λ_ P ⟨p1,p2,p3,p4,p5⟩=>by
    by_cases h0:j=0
    ·exact p1 h0
    ·by_cases h1:c.toNat=45
     ·exact p2 h0 h1
     ·by_cases h2:c.toNat<48
      ·exact p3 h0 h1 h2
      ·by_cases h3:c.toNat<=57
       ·exact p5 h0 h1 (by omega) h3
       ·exact p4 h0 h1 (by omega) (by omega)
   have N:∀{c:UInt8},c.toNat=45->c=45:=λh=>cd.1 (by rw[h];rfl);rcases Q with⟨J,z1,z2⟩|⟨J,z1⟩|⟨J,z1,z2⟩
   ·have t:=hZ9 (g.out (y.out J));clear g d y q a;go_wp2_with fail;go_roundw
    case rel=>exact⟨j+1,by omega,by go_num,t,A,hb⟩
    case measure=>simp[intOf];omega
   all_goals
    have b:=hZ9 (q.out J);clear y q;refine a J _ ⟨λh0=>?_,λh0 h1=>?_,λh0 h1 h2=>?_,λh0 h1 h2 h3=>?_,λh0 h1 h2 h3=>?_⟩
    ·have hR:=d.out (by rw[b.out];simp[h0]);subst h0;clear d g b a;go_wp2_with fail;go_ret;exact⟨by rw[hR];rfl,hb⟩
    ·have t:=hZ9 (g.out (by rw[b.out,N h1];simp[h0]));have g0:((j:Int)==0)=false:=by simpa using h0
     have g1:((c.toNat:Int) !=45)=false:=by simp;omega
     clear d g b a;go_wp2_with fail;go_roundw
     case rel=>exact⟨j+1,by omega,by go_num,t,A,hb⟩
     case measure=>simp[intOf];omega
    ·have F:(c==45)=false:=by
      cases h:c==45
      ·rfl
      ·have:=eq_of_beq h;subst this;exact absurd rfl h1
     have hR:=d.out (by rw[b.out,F];simp[FiS.isDig];omega);have g0:((j:Int)==0)=false:=by simpa using h0
     have g1:((c.toNat:Int) !=45)=true:=by simp;omega
     have g2:decide ((c.toNat:Int)<48)=true:=aI (by omega);clear d g b a;go_wp2_with fail;go_ret;exact⟨by rw[hR];rfl,hb⟩
    ·have F:(c==45)=false:=by
      cases h:c==45
      ·rfl
      ·have:=eq_of_beq h;subst this;exact absurd rfl h1
     have hR:=d.out (by rw[b.out,F];simp[FiS.isDig];omega);have g0:((j:Int)==0)=false:=by simpa using h0
     have g1:((c.toNat:Int) !=45)=true:=by simp;omega
     have g2:decide ((c.toNat:Int)<48)=false:=aB (by omega);have g3:decide ((57:Int)<(c.toNat:Int))=true:=aI (by omega);clear d g b a;go_wp2_with fail;go_ret;exact⟨by rw[hR];rfl,hb⟩
    ·have t:=hZ9 (g.out (by rw[b.out];simp[FiS.isDig,h0];omega));have g0:((j:Int)==0)=false:=by simpa using h0
     have g1:((c.toNat:Int) !=45)=true:=by simp;omega
     have g2:decide ((c.toNat:Int)<48)=false:=aB (by omega);have g3:decide ((57:Int)<(c.toNat:Int))=false:=aB (by omega);clear d g b a;go_wp2_with fail;go_roundw
     case rel=>exact⟨j+1,by omega,by go_num,t,A,hb⟩
     case measure=>simp[intOf];omega
  ·have hR:=f.out (λi L=>M.out i L (by omega));clear l k f M;cases u:s.isEmpty with
   |true=>have h2:s=[]:=dD.1 u;rw[u] at hR;have hR:R=false:=hR;subst h2;go_wp2_with fail;go_ret;exact⟨by rw[hR];rfl,hb⟩
   |false=>
    have h2:(s==[])=false:=by cases s<;>simp_all
    have h3:¬s=[]:=λh=>by rw[h] at u;cases u
    rw[u,T] at hR;have hR:R=decide (n<=40):=hR;have e:decide ((n:Int)<=40)=decide (n<=40):=bM.2 (by omega);rw[<-e] at hR;clear e;go_wp2_with fail;go_ret;exact⟨by rw[hR];rfl,hb⟩
theorem Abr(s:iK)(w:World):Calls prog 137 #[s] w λe w'=>e=.returned (.bool (FiS.GF s))/\w=w':=by
 by_cases t:s=[]
 ·subst t;go_enter func137,ntmps137;go_wp2_with fail;go_ret;exact⟨rfl,rfl⟩
 have l:0<s.length:=cY.2 t;have g1:decide ((s.length:Int)<1)=false:=aB (by omega);by_cases h40:40<s.length
 ·have g2:decide ((40:Int)<(s.length:Int))=true:=aI (by omega);have HR:FiS.GF s=false:=by
   cases s with
   |nil=>rfl
   |cons c r=>
    show (FiS.AZ c&&r.all FiS.Hn&&decide ((c :: r).length<=40))=false
    rw[aB (by omega),bY]
  rw[HR];clear HR;go_enter func137,ntmps137;go_wp2_with fail;go_ret;exact⟨rfl,rfl⟩
 have g2:decide ((40:Int)<(s.length:Int))=false:=aB (by omega);have f:=hZ9 (λj (F:j<s.length) h=>FiS.Vj F h);have a:=hZ9 (λh=>FiS.Su (s:=s) h);have g:=hZ9 (λj (F:j<s.length) h h2=>FiS.Yz F h h2);have K:=λ(c:UInt8) w=>letter_c c w;obtain⟨R,hR⟩:∃r,FiS.GF s=r:=⟨_,rfl⟩
 rw[hR] at f a⊢;have P:Hid (s.isEmpty=false):=hZ9 (by cases s<;>simp_all);have E:Hid (s.length<=40):=hZ9 (by omega);clear hR t h40;have H0:Hid (FiS.okI 0 (s[0]'l)=FiS.AZ (s[0]'l)):=hZ9 rfl;obtain⟨c0,H⟩:∃c,s[0]'l=c:=⟨_,rfl⟩
 have A:=hZ9 H;have S:∀h,(⟨s.toArray⟩:ByteArray)[0]'h=c0:=λ_=>H;clear H;have z:=K c0 w;obtain⟨b0,hb0⟩:∃b,FiS.AZ c0=b:=⟨_,rfl⟩
 rw[hb0] at z;obtain⟨n,U⟩:∃n,s.length=n:=⟨_,rfl⟩
 have Z:=hZ9 U;rw[U] at g1 g2 l;have A0:(0:Int)<(n:Int):=by omega
 have hsz:(⟨s.toArray⟩:ByteArray).size=n:=by show s.toArray.size=_;simpa using U
 cases b0 with
 |false=>have hR:=f.out 0 (by omega) (by rw[H0.out,A.out];exact hb0);clear f a g hb0 H0 A;go_enter func137,ntmps137;go_wp2_with fail;refine z.mono ?_;rintro e w1 ⟨rfl,rfl⟩;go_wp2_with fail;go_ret;exact⟨by rw[hR];rfl,rfl⟩
 |true=>
  have G:Hid (∀(j:Nat) (F:j<s.length),j=0->FiS.AZ (s[j]'F)=true):=hZ9 (λj F e=>by subst e;rw[A.out];exact hb0);clear hb0 H0 A;go_enter func137,ntmps137;go_wp2_with fail;refine z.mono ?_;rintro e w1 ⟨rfl,rfl⟩;go_wp2_with fail;clear z S;go_loopw [3] (λi wr=>∃j:Nat,j<=n/\i=.int .i64 j/\Hid (∀i (N:i<s.length),i<j->FiS.okI i (s[i]'N)=true)/\w=wr) (λi _=>n-(intOf i).toNat)
  case atStart=>exact⟨0,aR _,rfl,hZ9 (λi N h=>by omega),rfl⟩
  case round=>
   obtain⟨j,F,rfl,O,rfl⟩:=hrel;by_cases W:j<n
   ·have q:j<s.length:=by rw[Z.out];exact W
    have p:=hZ9 (λh=>f.out j q h);have k:=hZ9 (λh=>g.out j q O.out h);have Y:j<=40:=by have:=E.out;omega
    have HF:=hZ9 (G.out j q);clear f g a G;generalize J:s[j]=c at*;have A1:∀h,(⟨s.toArray⟩:ByteArray)[j]'h=c:=λ_=>J;clear J;have u:=K c w;have C:Hid (FiS.Hn c=(FiS.AZ c||FiS.isDig c||c==45)):=hZ9 rfl;have B:Hid (FiS.okI j c=if j=0 then FiS.AZ c else FiS.Hn c):=hZ9 rfl;have z:(0:Int)<=(j:Int):=by omega
    have A2:(j:Int)<(n:Int):=by omega
    obtain⟨L,X⟩:∃b,FiS.AZ c=b:=⟨_,rfl⟩
    have I:=hZ9 X;rw[X] at u;clear X;have T:∀{c:UInt8},c.toNat=45->c=45:=λh=>cd.1 (by rw[h];rfl);cases L with
    |true=>
     have y:=hZ9 (k.out (by rw[B.out];split;exact I.out;rw[C.out,I.out];rfl));clear k p B C I;go_wp2_with fail;refine u.mono ?_;rintro e w1 ⟨rfl,rfl⟩;go_wp2_with fail;go_roundw
     case rel=>exact⟨j+1,by omega,by go_num,y,by trivial⟩
     case measure=>simp[intOf];omega
    |false=>
     have V:j≠0:=λe=>by have:=HF.out e;rw[I.out] at this;cases this
     have d:Hid (FiS.okI j c=(FiS.isDig c||c==45)):=hZ9 (by rw[B.out,aG V,C.out,I.out];rfl);clear B C I HF;by_cases hd:48<=c.toNat/\c.toNat<=57
     ·have y:=hZ9 (k.out (by rw[d.out];simp[FiS.isDig];omega));have g3:decide ((48:Int)<=(c.toNat:Int))=true:=aI (by omega);have g4:decide ((c.toNat:Int)<=57)=true:=aI (by omega);clear k p d hd;go_wp2_with fail;refine u.mono ?_;rintro e w1 ⟨rfl,rfl⟩;go_wp2_with fail;go_roundw
      case rel=>exact⟨j+1,by omega,by go_num,y,by trivial⟩
      case measure=>simp[intOf];omega
     ·have o:FiS.isDig c=false:=aB hd;have m:(decide ((48:Int)<=(c.toNat:Int))=false)\/(decide ((48:Int)<=(c.toNat:Int))=true/\decide ((c.toNat:Int)<=57)=false):=by
       by_cases h:48<=c.toNat
       ·exact .inr ⟨aI (by omega),aB (by omega)⟩
       ·exact .inl (aB (by omega))
      by_cases h45:c.toNat=45
      ·have y:=hZ9 (k.out (by rw[d.out,T h45];simp));have g5:((c.toNat:Int) !=45)=false:=by simp;omega
       clear k p d hd o h45;rcases m with g3|⟨g3,g4⟩
       all_goals
        go_wp2_with fail;refine u.mono ?_;rintro e w1 ⟨rfl,rfl⟩;go_wp2_with fail;go_roundw
        case rel=>exact⟨j+1,by omega,by go_num,y,by trivial⟩
        case measure=>simp[intOf];omega
      ·have M:(c==45)=false:=by
        cases h:c==45
        ·rfl
        ·have:=eq_of_beq h;subst this;exact absurd rfl h45
       have hR:=p.out (by rw[d.out,M,o];rfl);have g5:((c.toNat:Int) !=45)=true:=by simp;omega
       clear k p d hd o M h45;rcases m with g3|⟨g3,g4⟩
       all_goals
        go_wp2_with fail;refine u.mono ?_;rintro e w1 ⟨rfl,rfl⟩;go_wp2_with fail;go_ret;exact⟨by rw[hR];rfl,by trivial⟩
   ·have hR:=a.out (λi N=>O.out i N (by have:=Z.out;omega));have Q:R=true:=by rw[hR,P.out,aI E.out];rfl
    clear f g a O G;go_wp2_with fail;go_ret;exact⟨by rw[Q];rfl,by trivial⟩
end
