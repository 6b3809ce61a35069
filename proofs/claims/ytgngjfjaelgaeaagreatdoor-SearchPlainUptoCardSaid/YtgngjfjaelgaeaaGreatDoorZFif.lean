/- The walks of Small, and of what makes a filter formed (the program's, the document's). Conditions: as stated. -/
import Derived.Test.YtgngjfjaelgaeaaGreatDoorZFid
set_option maxRecDepth 100000
set_option maxHeartbeats 2000000
namespace Go.Proofs.YtgngjfjaelgaeaaGreatDoor
open Go.Proofs.Tryz
section
namespace FiS
mutual
def wdF(n:Nat):Fi->Prop
 | .mk _ a v f l s ps=>(a.length<=n/\v.length<=n/\f.length<=n/\l.length<=n)/\s.length<=n/\(∀t∈s,t.length<=n)/\ps.length<=n/\wdL n ps
def wdL(n:Nat):List Fi->Prop
 |[]=>True
 |p :: r=>wdF n p/\wdL n r
end
mutual
theorem Jo{n m:Nat}(b:n<=m):∀x:Fi,wdF n x->wdF m x
 | .mk k a v f l s ps,h=>by rw[wdF] at h⊢;obtain⟨⟨h1,h2,h3,h4⟩,h5,h6,h7,h8⟩:=h;exact⟨⟨by omega,by omega,by omega,by omega⟩,by omega,λt c=>aX (h6 t c) b,by omega,Vk b ps h8⟩
theorem Vk{n m:Nat}(a:n<=m):∀l:List Fi,wdL n l->wdL m l
 |[],_=>by rw[wdL];trivial
 |p :: r,h=>by rw[wdL] at h⊢;exact⟨Jo a p h.1,Vk a r h.2⟩
end
theorem GX{n:Nat}:∀{l:List Fi},wdL n l↔∀j (a:j<l.length),wdF n (l[j]'a)
 |[]=>⟨λ_ j a=>by simp at a,λ_=>by rw[wdL];trivial⟩
 |p :: r=>by
  rw[wdL,GX (l:=r)];constructor
  ·rintro⟨h1,h2⟩ j a;cases j with
   |zero=>exact h1
   |succ j=>exact h2 j (by simpa using a)
  ·intro h;exact⟨h 0 (by simp),λj a=>h (j+1) (by simpa using a)⟩
theorem MU:∀{ps:List Fi} {j:Nat} (a:j<ps.length),allL (ps.take (j+1))=(allL (ps.take j)&&Dm (ps[j]'a))
 |[],j,a=>by simp at a
 |p :: r,0,_=>by
  show (Dm p&&allL (r.take 0))=(allL []&&Dm p)
  simp[allL]
 |p :: r,j+1,a=>by
  have b:=MU (ps:=r) (j:=j) (by simpa using a);show (Dm p&&allL (r.take (j+1)))=(Dm p&&allL (r.take j)&&Dm (r[j]'(by simpa using a)))
  rw[b,Bool.and_assoc]
theorem Pj:∀{ps:List Fi} {j:Nat} (a:j<ps.length),Dm (ps[j]'a)=false->allL ps=false
 |[],j,a,_=>by simp at a
 |p :: r,0,_,h=>by
  show (Dm p&&allL r)=false
  rw[show Dm p=false from h];rfl
 |p :: r,j+1,a,h=>by
  show (Dm p&&allL r)=false
  rw[Pj (ps:=r) (j:=j) (by simpa using a) h,bY]
theorem Sz:∀{ps:List Fi} {j:Nat} (a:j<ps.length),depth (ps[j]'a)<=BL ps
 |[],j,a=>by simp at a
 |p :: r,0,_=>by show depth p<=max (depth p) (BL r);omega
 |p :: r,j+1,a=>by
  have:=Sz (ps:=r) (j:=j) (by simpa using a);show depth (r[j]'(by simpa using a))<=max (depth p) (BL r)
  omega
def EK(d:Nat)(x:Fi):Bool:=decide (d+depth x<=21)&&Dm x
theorem AdD{d:Nat}{k:Int}{a v f l:iK}{s:List iK}{ps:List Fi}:EK d (.mk k a v f l s ps)=(decide (d<=20/\d+1+BL ps<=21)&&(Ho (.mk k a v f l s ps)&&allL ps)):=by unfold EK;rw[depth,Dm];congr 1;exact bM.2 ⟨λh=>by omega,λh=>by omega⟩
theorem Abv(x:Fi):formedS x=(decide (nodes x<=40)&&EK 1 x):=by unfold formedS EK;congr 2;exact bM.2 ⟨λh=>by omega,λh=>by omega⟩
theorem Abw{d:Nat}{ps:List Fi}{j:Nat}(a:j<ps.length)(h:EK (d+1) (ps[j]'a)=false):(decide (d<=20/\d+1+BL ps<=21)&&allL ps)=false:=by
 unfold EK at h;have hd:=Sz a;cases b:Dm (ps[j]'a) with
 |false=>rw[Pj a b,bY]
 |true=>rw[b,Bool.and_true,bg] at h;rw[aB (by omega),cM]
def NV(d:Nat)(ps:List Fi):Prop:=d+1+BL ps<=21/\allL ps=true
theorem Abx{d:Nat}(h:d<=20):NV d []:=⟨by simp[BL];omega,rfl⟩
theorem ZJ{d:Nat}{ps:List Fi}{j:Nat}(a:j<ps.length)(h:EK (d+1) (ps[j]'a)=true)(b:NV d (ps.take j)):NV d (ps.take (j+1)):=by unfold EK at h;rw[bC,az] at h;refine⟨?_,by rw[MU a,b.2,h.2];rfl⟩;rw[Il a];have:=b.1;omega
end FiS
open Go.RowKit
open FiS (Fi)
attribute [local go_sem ↓] Go.wp_at_zero Go.wp_at_succ
def YB(n:Nat):Prop:=∀(x:Fi) (v:Value) (w:World) (d:Nat) (a:Int),BF n w v x->FiS.wdF 20000 x->d<=21->a=(d:Int)->Calls prog 89 #[v,a] w (AP (FiS.EK d x) w)
theorem ZK:∀n,YB n:=EU (λn IH=>by
 unfold YB AP at*;intro x v w D di h Y hD A0;have B2:0<=di/\di<=21:=by omega
 have a:=λw h ha hs=>AgO n x v w h ha hs;unfold AP at a;obtain⟨kd,f,F,E,ls,z,ps⟩:=x;obtain⟨a5,c5,a6,V,hv,G,P,t⟩:=FiV.parts h;have hv:v=.agg #[kd,f,F,E,ls,.slice a5 z.length c5,.slice a6 ps.length V]:=hv;subst hv;have G:Ah w (.slice a5 z.length c5) z:=G;have P:ps.length<=V:=P;have t:Bl n (λ_=>True) w (.slice a6 ps.length V) ps:=t;rw[FiS.wdF] at Y;obtain⟨⟨ha,_⟩,hs,_,B4,Z⟩:=Y;have Q:=hZ9 (FiS.GX.1 Z);clear Z;have a:=λw h=>a w h ha (by show z.length<=_;omega);have y:=hZ9 (λj (H:j<ps.length) (h:FiS.EK (D+1) (ps[j]'H)=false)=>FiS.Abw H h);have q:=hZ9 (λj (H:j<ps.length) (h:FiS.EK (D+1) (ps[j]'H)=true) (ht:FiS.NV D (ps.take j))=>FiS.ZJ H h ht);have K:=hZ9 (λh:D<=20=>FiS.Abx h);have I:Hid (ps.take ps.length=ps):=hZ9 (bA);have X:Hid (FiS.NV D ps->D+1+FiS.BL ps<=21/\FiS.allL ps=true):=hZ9 (λh=>h);have c:Hid (FiS.EK D (.mk kd f F E ls z ps)=(decide (D<=20/\D+1+FiS.BL ps<=21)&&(FiS.Ho (.mk kd f F E ls z ps)&&FiS.allL ps))):=hZ9 FiS.AdD;obtain⟨AL,u⟩:∃m,z.length=m:=⟨_,rfl⟩
 obtain⟨L,s⟩:∃m,ps.length=m:=⟨_,rfl⟩
 have A7:=hZ9 u;have A4:=hZ9 s;rw[u] at G;rw[s] at P t;obtain⟨R,hR⟩:∃b,FiS.EK D (.mk kd f F E ls z ps)=b:=⟨_,rfl⟩
 obtain⟨B,hB⟩:∃b,FiS.Ho (.mk kd f F E ls z ps)=b:=⟨_,rfl⟩
 rw[hR,hB] at c;rw[hR];rw[hB] at a;clear hB hR;have r:=Af w (.cells #[kd,f,F,E,ls,.slice a5 AL c5,.slice a6 L V] 36);have T:=Whole.made w 36 #[kd,f,F,E,ls,.slice a5 AL c5,.slice a6 L V];have A1:BF n w (.agg #[kd,f,F,E,ls,.slice a5 AL c5,.slice a6 L V]) (.mk kd f F E ls z ps):=by rw[u,s] at h;exact h
 rw[u,s] at a⊢;have a:=a _ (A1.call r);have S:=hZ9 (λj (H:j<ps.length)=>Bl.at t j H);rw[s] at I;obtain⟨q0,q1,q2,q3,q4,q5,q6⟩:=T.seven;have N:=hZ9 T;clear h G t u s A7 A1 T;have M:decide ((20:Int)<di)=decide (20<D):=bM.2 (by omega);have A8:=hZ9 A0;clear A0;by_cases hd:20<D
 ·rw[aI hd] at M;have HR:Hid (R=false):=hZ9 (by rw[c.out,aB (by omega),cM]);clear c a IH;go_enter func89,ntmps89;go_wp2_with fail;go_ret;exact⟨by(rw[HR.out])<;>rfl,r⟩
 rw[aB hd] at M;cases B with
 |false=>have HR:Hid (R=false):=hZ9 (by rw[c.out];simp);clear c IH;go_enter func89,ntmps89;go_wp2_with fail;refine a.mono ?_;rintro e w2 ⟨rfl,k⟩;go_wp2_with fail;go_ret;exact⟨by(rw[HR.out])<;>rfl,r.trans (k.mono r.size)⟩
 |true=>
  go_enter func89,ntmps89;go_wp2_with fail;refine a.mono ?_;rintro e w2 ⟨rfl,k⟩;have A5:=r.trans (k.mono r.size);clear q0 q1 q2 q3 q4 q5 q6;obtain⟨q0,q1,q2,q3,q4,q5,q6⟩:=(N.out.call k).seven;clear a;go_wp2_with fail;go_loopw [17] (λi wr=>∃j:Nat,j<=L/\i=.int .i64 j/\Hid (FiS.NV D (ps.take j))/\Below w.heap.size w wr) (λi _=>L-(intOf i).toNat)
  case atStart=>exact⟨0,aR _,rfl,hZ9 (K.out (by omega)),A5⟩
  case round=>
   obtain⟨j,H,rfl,HA,hb⟩:=hrel;clear r A5 k q0 q1 q2 q3 q4 q5 q6 N;by_cases A9:j<L
   ·have l:j<ps.length:=by rw[A4.out];exact A9
    have B1:j<=20000:=by have:=A4.out;omega
    have HB:=hZ9 (λh=>y.out j l h);have HS:=hZ9 (λh=>q.out j l h HA.out);have A2:=Q.out j l;obtain⟨d,rfl,g,o,rfl,O,b5,d5,b6,d6,A,y0,y1,y2,y3,y4,y5,y6⟩:=S.out j l;have A:=A.call hb;have y0:=(hb.cell (p:=⟨g,o+j*7,none⟩) O).trans y0;have y1:=(hb.cell (p:=⟨g,o+j*7+1,none⟩) O).trans y1;have y2:=(hb.cell (p:=⟨g,o+j*7+2,none⟩) O).trans y2;have y3:=(hb.cell (p:=⟨g,o+j*7+3,none⟩) O).trans y3;have y4:=(hb.cell (p:=⟨g,o+j*7+4,none⟩) O).trans y4;have y5:=(hb.cell (p:=⟨g,o+j*7+5,none⟩) O).trans y5;have y6:=(hb.cell (p:=⟨g,o+j*7+6,none⟩) O).trans y6;have J:=λv W h=>IH d rfl (ps[j]'l) v W (D+1) (di+1) h A2 (by omega) (by have:=A8.out;omega);clear IH S y q Q;generalize ps[j]=p at*;generalize p.any.length=PA at*;generalize p.parts.length=PP at*;have B5:(0:Int)<=(j:Int):=by omega
    have B3:(j:Int)<(L:Int):=by omega
    have A3:=Af wr (.cells #[p.kind,p.attr,p.value,p.first,p.last,.slice b5 PA d5,.slice b6 PP d6] 36);have A6:=Whole.made wr 36 #[p.kind,p.attr,p.value,p.first,p.last,.slice b5 PA d5,.slice b6 PP d6];obtain⟨x0,x1,x2,x3,x4,x5,x6⟩:=A6.seven;have C:=hb.trans (A3.mono hb.size);have hc:=J _ _ (A.call A3);clear J A A6 A2;cases U:FiS.EK (D+1) p with
    |true=>
     have B0:=hZ9 (HS.out U);rw[U] at hc;clear U HS HB HA;go_wp2_with fail;refine hc.mono ?_;rintro e w2 ⟨rfl,k⟩;go_wp2_with fail;go_roundw
     case rel=>exact⟨j+1,by omega,by go_num,B0,C.trans (k.mono C.size)⟩
     case measure=>simp[intOf];omega
    |false=>have HR:Hid (R=false):=hZ9 (by rw[c.out,cy];exact HB.out U);rw[U] at hc;clear U HS HB HA c;go_wp2_with fail;refine hc.mono ?_;rintro e w2 ⟨rfl,k⟩;go_wp2_with fail;go_ret;exact⟨by(rw[HR.out])<;>rfl,C.trans (k.mono C.size)⟩
   ·have HR:Hid (R=true):=hZ9 (by
     have h1:=HA.out;rw[show j=L by omega,I.out] at h1;obtain⟨h2,h3⟩:=X.out h1;rw[c.out,aI ⟨by omega,h2⟩,h3];rfl)
    clear IH S y q Q HA c X K;go_wp2_with fail;go_ret;exact⟨by(rw[HR.out])<;>rfl,hb⟩)
theorem Ql(n:Nat)(x:Fi)(v:Value)(w:World)(h:BF n w v x)(k:FiS.wdF 20000 x):Calls prog 56 #[v] w (AP (FiS.formedS x) w):=by
 have z:=λW h=>Afo n x v W h;have C:=λW h=>ZK n x v W 1 1 h k (by omega) rfl;unfold AP at*;have HR:Hid (FiS.formedS x=(decide (FiS.nodes x<=40)&&FiS.EK 1 x)):=hZ9 (FiS.Abv x);generalize FiS.formedS x=R at*;generalize FiS.nodes x=N at*;generalize FiS.EK 1 x=B at*;obtain⟨a5,c5,F,q,H,p,G,i⟩:=FiV.parts h;generalize x.any.length=AL at*;generalize x.parts.length=PL at*;generalize x.kind=kd at*;generalize x.attr=at0 at*;generalize x.value=vl at*;generalize x.first=fs at*;generalize x.last=ls at*;subst H;have c:=Af w (.cells #[kd,at0,vl,fs,ls,.slice a5 AL c5,.slice F PL q] 36);have f:=Whole.made w 36 #[kd,at0,vl,fs,ls,.slice a5 AL c5,.slice F PL q];obtain⟨A,y,s,t,r,E,u⟩:=f.seven;have b:=z _ (h.call c);obtain⟨M,j⟩:∃m,min N 41=m:=⟨_,rfl⟩
 rw[j] at b;clear p i z;go_enter func56,ntmps56;go_wp2_with fail;refine b.mono ?_;rintro e w2 ⟨rfl,g⟩;have a:=c.trans (g.mono c.size);have o:=C _ (h.call a);clear A y s t r E u b h C;obtain⟨A,y,s,t,r,E,u⟩:=(f.call g).seven;clear f;by_cases J:M<=40
 ·have I:decide ((M:Int)<=40)=true:=aI (by omega);have d:Hid (R=B):=hZ9 (by rw[HR.out,aI (by omega),cy]);clear HR j;go_wp2_with fail;refine o.mono ?_;rintro e w3 ⟨rfl,l⟩;go_wp2_with fail;go_ret;exact⟨by(rw[d.out])<;>rfl,a.trans (l.mono a.size)⟩
 ·have I:decide ((M:Int)<=40)=false:=aB (by omega);have d:Hid (R=false):=hZ9 (by rw[HR.out,aB (by omega),cM]);clear HR j;go_wp2_with fail;go_ret;exact⟨by(rw[d.out])<;>rfl,a⟩
end
section
open Go.RowKit
open FiS (Fi)
attribute [local go_sem ↓] Go.wp_at_zero Go.wp_at_succ
def AeY(n:Nat):Prop:=∀(x:Fi) (v:Value) (w:World) (lf:Nat) (a:Int),BF n w v x->FiS.wdF 20000 x->lf<=20->a=(lf:Int)->Calls prog 68 #[v,a] w λe w'=>e=.returned (.int .i64 ((min (FiS.depth x) (lf+1):Nat):Int))/\Below w.heap.size w w'
theorem Agt:∀n,AeY n:=EU (λn T=>by
 unfold AeY at*;intro x v w lf U h I B7 F;obtain⟨kd,c,Q,P,ls,K,ps⟩:=x;obtain⟨a5,c5,L,G,hv,t,B,b⟩:=FiV.parts h;have hv:v=.agg #[kd,c,Q,P,ls,.slice a5 K.length c5,.slice L ps.length G]:=hv;subst hv;have t:Ah w (.slice a5 K.length c5) K:=t;have B:ps.length<=G:=B;have b:Bl n (λ_=>True) w (.slice L ps.length G) ps:=b;rw[FiS.wdF] at I;obtain⟨_,_,_,A3,J⟩:=I;have k:=hZ9 (FiS.GX.1 J);clear J;have V:=hZ9 (λj (S:j<ps.length)=>FiS.Il S);have H0:Hid (FiS.BL (ps.take 0)=0):=hZ9 (by simp[FiS.BL]);have u:Hid (ps.take ps.length=ps):=hZ9 (bA);have hN:FiS.depth (.mk kd c Q P ls K ps)=1+FiS.BL ps:=by rw[FiS.depth]
 rw[hN];clear hN;obtain⟨R,hR⟩:∃r,min (1+FiS.BL ps) (lf+1)=r:=⟨_,rfl⟩
 have HR:=hZ9 hR;rw[hR];clear hR;obtain⟨AL,l⟩:∃m,K.length=m:=⟨_,rfl⟩
 obtain⟨z,f⟩:∃m,ps.length=m:=⟨_,rfl⟩
 have A1:=hZ9 l;have A4:=hZ9 f;rw[l] at t;rw[f] at B b
 try rw[l]
 try rw[f]
 have C:=Af w (.cells #[kd,c,Q,P,ls,.slice a5 AL c5,.slice L z G] 26);have E:=Whole.made w 26 #[kd,c,Q,P,ls,.slice a5 AL c5,.slice L z G];have s:=hZ9 (λj (S:j<ps.length)=>Bl.at b j S);rw[f] at u A3;obtain⟨q0,q1,Y,q3,X,q5,Z⟩:=E.seven;clear h t b l f A1;by_cases h0:lf=0
 ·subst h0;subst F;have hR:R=1:=by have:=HR.out;omega
  clear T s V k;go_enter func68,ntmps68;go_wp2_with fail;go_ret;exact⟨by(rw[hR])<;>rfl,C⟩
 have B1:(U==0)=false:=by simp;omega
 have B0:0<=U/\U<=20:=by omega
 have A0:=hZ9 F;clear F;go_enter func68,ntmps68;go_wp2_with fail;go_loopw [5,12] (λmv i wr=>∃j M:Nat,j<=z/\i=.int .i64 j/\mv=.int .i64 (M:Int)/\Hid (M=min (FiS.BL (ps.take j)) lf)/\Whole wr w.heap.size 26 #[kd,c,Q,P,ls,.slice a5 AL c5,.slice L z G]/\Below w.heap.size w wr) (λ_ i _=>z-(intOf i).toNat)
 case atStart=>exact⟨0,0,aR _,rfl,rfl,hZ9 (by rw[H0.out];omega),E,C⟩
 case round=>
  obtain⟨j,M,S,rfl,rfl,H,hw,hb⟩:=hrel;clear E C q0 q1 Y q3 X q5 Z;have B2:M<=20:=by have:=H.out;omega
  by_cases A5:j<z
  ·have a:j<ps.length:=by rw[A4.out];exact A5
   have ht:=V.out j a;have B3:j<=20000:=by omega
   have N:=k.out j a;obtain⟨d,rfl,g,o,rfl,A,b5,d5,b6,d6,q,y0,y1,y2,y3,y4,y5,y6⟩:=s.out j a;have q:=q.call hb;have y0:=(hb.cell (p:=⟨g,o+j*7,none⟩) A).trans y0;have y1:=(hb.cell (p:=⟨g,o+j*7+1,none⟩) A).trans y1;have y2:=(hb.cell (p:=⟨g,o+j*7+2,none⟩) A).trans y2;have y3:=(hb.cell (p:=⟨g,o+j*7+3,none⟩) A).trans y3;have y4:=(hb.cell (p:=⟨g,o+j*7+4,none⟩) A).trans y4;have y5:=(hb.cell (p:=⟨g,o+j*7+5,none⟩) A).trans y5;have y6:=(hb.cell (p:=⟨g,o+j*7+6,none⟩) A).trans y6;have y:=λv W h=>T d rfl (ps[j]'a) v W (lf-1) (U-1) h N (by omega) (by have:=A0.out;omega);clear T s V k;generalize ps[j]=p at*;generalize p.any.length=PA at*;generalize p.parts.length=PP at*;have B6:(0:Int)<=(j:Int):=by omega
   have B5:(j:Int)<(z:Int):=by omega
   have hc:=y _ _ q;clear y q N;obtain⟨q0,q1,Y,q3,X,q5,Z⟩:=hw.seven;obtain⟨D,hD⟩:∃m,min (FiS.depth p) (lf-1+1)=m:=⟨_,rfl⟩
   rw[hD] at hc;have A9:Hid (max M D=min (FiS.BL (ps.take (j+1))) lf):=hZ9 (by have:=H.out;omega);have B4:D<=20:=by omega
   have A2:max (M:Int) (D:Int)=((max M D:Nat):Int):=by omega
   clear hD ht H;go_wp2_with fail;refine hc.mono ?_;rintro e w2 ⟨rfl,O⟩;have A6:=hb.trans (O.mono hb.size);have A8:=hw.call O;clear hc q0 q1 Y q3 X q5 Z;go_wp2_with fail;go_roundw
   case rel=>exact⟨j+1,max M D,by omega,by go_num,by first|rfl|(rw[A2])|(congr 1),A9,A8,A6⟩
   case measure=>simp[intOf];omega
  ·have A7:j=z:=by omega
   subst A7;have hR:R=M+1:=by have:=H.out;rw[u.out] at this;have:=HR.out;omega
   clear T s V k H;go_wp2_with fail;go_ret;subst hR;exact⟨by first|rfl|(congr 2),hb⟩)
def Agu(n:Nat):Prop:=∀(x:Fi) (v:Value) (w:World),BF n w v x->FiS.wdF 20000 x->Calls prog 69 #[v] w (AP (FiS.Dm x) w)
theorem AgP:∀n,Agu n:=EU (λn IH=>by
 unfold Agu AP at*;intro x v w h X;have a:=λw h hs=>Ags n x v w h hs;unfold AP at a;obtain⟨kd,c,A,z,ls,y,ps⟩:=x;obtain⟨a5,c5,S,L,hv,F,M,s⟩:=FiV.parts h;have hv:v=.agg #[kd,c,A,z,ls,.slice a5 y.length c5,.slice S ps.length L]:=hv;subst hv;have F:Ah w (.slice a5 y.length c5) y:=F;have M:ps.length<=L:=M;have s:Bl n (λ_=>True) w (.slice S ps.length L) ps:=s;rw[FiS.wdF] at X;obtain⟨_,hs,_,A9,Z⟩:=X;have N:=hZ9 (FiS.GX.1 Z);clear Z;have a:=λw h=>a w h (by show y.length<=_;omega);have HT:=hZ9 (λj (J:j<ps.length)=>FiS.MU J);have HN:=hZ9 (λj (J:j<ps.length) (h:FiS.Dm (ps[j]'J)=false)=>FiS.Pj J h);have G:Hid (ps.take ps.length=ps):=hZ9 (bA);have l:Hid (FiS.Dm (.mk kd c A z ls y ps)=(FiS.Ho (.mk kd c A z ls y ps)&&FiS.allL ps)):=hZ9 (by rw[FiS.Dm]);obtain⟨AL,t⟩:∃m,y.length=m:=⟨_,rfl⟩
 obtain⟨E,r⟩:∃m,ps.length=m:=⟨_,rfl⟩
 have A4:=hZ9 t;have A2:=hZ9 r;rw[t] at F;rw[r] at M s;obtain⟨R,hR⟩:∃b,FiS.Dm (.mk kd c A z ls y ps)=b:=⟨_,rfl⟩
 obtain⟨B,hB⟩:∃b,FiS.Ho (.mk kd c A z ls y ps)=b:=⟨_,rfl⟩
 rw[hR,hB] at l;rw[hR];rw[hB] at a;clear hB hR;have q:=Af w (.cells #[kd,c,A,z,ls,.slice a5 AL c5,.slice S E L] 26);have P:=Whole.made w 26 #[kd,c,A,z,ls,.slice a5 AL c5,.slice S E L];have A0:BF n w (.agg #[kd,c,A,z,ls,.slice a5 AL c5,.slice S E L]) (.mk kd c A z ls y ps):=by rw[t,r] at h;exact h
 rw[t,r] at a⊢;have a:=a _ (A0.call q);have O:=hZ9 (λj (J:j<ps.length)=>Bl.at s j J);rw[r] at G;obtain⟨Y,q1,U,q3,T,q5,V⟩:=P.seven;have I:=hZ9 P;clear h F s t r A4 A0 P;cases B with
 |false=>have HR:Hid (R=false):=hZ9 (by rw[l.out];simp);clear l IH;go_enter func69,ntmps69;go_wp2_with fail;refine a.mono ?_;rintro e w2 ⟨rfl,f⟩;go_wp2_with fail;go_ret;exact⟨by(rw[HR.out])<;>rfl,q.trans (f.mono q.size)⟩
 |true=>
  go_enter func69,ntmps69;go_wp2_with fail;refine a.mono ?_;rintro e w2 ⟨rfl,f⟩;have A3:=q.trans (f.mono q.size);clear Y q1 U q3 T q5 V;have u:=I.out.call f;obtain⟨Y,q1,U,q3,T,q5,V⟩:=u.seven;clear a;go_wp2_with fail;go_loopw [10] (λi wr=>∃j:Nat,j<=E/\i=.int .i64 j/\Hid (FiS.allL (ps.take j)=true)/\Whole wr w.heap.size 26 #[kd,c,A,z,ls,.slice a5 AL c5,.slice S E L]/\Below w.heap.size w wr) (λi _=>E-(intOf i).toNat)
  case atStart=>exact⟨0,aR _,rfl,hZ9 (by simp[FiS.allL]),u,A3⟩
  case round=>
   obtain⟨j,J,rfl,HA,hw,hb⟩:=hrel;clear q A3 f u Y q1 U q3 T q5 V I;by_cases A5:j<E
   ·have k:j<ps.length:=by rw[A2.out];exact A5
    have A7:j<=20000:=by have:=A2.out;omega
    have HB:=hZ9 (λh=>HN.out j k h);have HS:=hZ9 (HT.out j k);have A1:=N.out j k;obtain⟨d,rfl,g,o,rfl,K,b5,d5,b6,d6,C,y0,y1,y2,y3,y4,y5,y6⟩:=O.out j k;have C:=C.call hb;have y0:=(hb.cell (p:=⟨g,o+j*7,none⟩) K).trans y0;have y1:=(hb.cell (p:=⟨g,o+j*7+1,none⟩) K).trans y1;have y2:=(hb.cell (p:=⟨g,o+j*7+2,none⟩) K).trans y2;have y3:=(hb.cell (p:=⟨g,o+j*7+3,none⟩) K).trans y3;have y4:=(hb.cell (p:=⟨g,o+j*7+4,none⟩) K).trans y4;have y5:=(hb.cell (p:=⟨g,o+j*7+5,none⟩) K).trans y5;have y6:=(hb.cell (p:=⟨g,o+j*7+6,none⟩) K).trans y6;have H:=λv W h=>IH d rfl (ps[j]'k) v W h A1;clear IH O HN HT N;generalize ps[j]=p at*;generalize p.any.length=PA at*;generalize p.parts.length=PP at*;have B0:(0:Int)<=(j:Int):=by omega
    have A8:(j:Int)<(E:Int):=by omega
    have hc:=H _ _ C;clear H C A1;obtain⟨Y,q1,U,q3,T,q5,V⟩:=hw.seven;cases Q:FiS.Dm p with
    |true=>
     have A6:Hid (FiS.allL (ps.take (j+1))=true):=hZ9 (by rw[HS.out,HA.out,Q];rfl);rw[Q] at hc;clear Q HS HB HA;go_wp2_with fail;refine hc.mono ?_;rintro e w2 ⟨rfl,f⟩;have u:=hw.call f;clear Y q1 U q3 T q5 V;go_wp2_with fail;go_roundw
     case rel=>exact⟨j+1,by omega,by go_num,A6,u,hb.trans (f.mono hb.size)⟩
     case measure=>simp[intOf];omega
    |false=>have HR:Hid (R=false):=hZ9 (by rw[l.out,cy];exact HB.out Q);rw[Q] at hc;clear Q HS HB HA l;go_wp2_with fail;refine hc.mono ?_;rintro e w2 ⟨rfl,f⟩;go_wp2_with fail;go_ret;exact⟨by(rw[HR.out])<;>rfl,hb.trans (f.mono hb.size)⟩
   ·have HR:Hid (R=true):=hZ9 (by
     have h1:=HA.out;rw[show j=E by omega,G.out] at h1;rw[l.out,h1];rfl)
    clear IH O HN HT N HA l;go_wp2_with fail;go_ret;exact⟨by(rw[HR.out])<;>rfl,hb⟩)
theorem MB(n:Nat)(x:Fi)(v:Value)(w:World)(h:BF n w v x)(l:FiS.wdF 20000 x):Calls prog 36 #[v] w (AP (FiS.formedS x) w):=by
 have P:=λW h=>ZI n x v W h;have hd:=λW h=>Agt n x v W 20 20 h l (by omega) rfl;have O:=λW h=>AgP n x v W h l;unfold AP at*;have HR:Hid (FiS.formedS x=(decide (FiS.nodes x<=40)&&(decide (FiS.depth x<=20)&&FiS.Dm x))):=hZ9 rfl;generalize FiS.formedS x=R at*;generalize FiS.nodes x=N at*;generalize FiS.depth x=D at*;generalize FiS.Dm x=B at*;obtain⟨a5,c5,Q,L,T,K,S,C⟩:=FiV.parts h;generalize x.any.length=AL at*;generalize x.parts.length=PL at*;generalize x.kind=kd at*;generalize x.attr=at0 at*;generalize x.value=vl at*;generalize x.first=fs at*;generalize x.last=ls at*;subst T;have f:=Af w (.cells #[kd,at0,vl,fs,ls,.slice a5 AL c5,.slice Q PL L] 26);have g:=Whole.made w 26 #[kd,at0,vl,fs,ls,.slice a5 AL c5,.slice Q PL L];obtain⟨z,y,s,t,r,A,u⟩:=g.seven;have d:=P _ (h.call f);obtain⟨M,G⟩:∃m,min N 41=m:=⟨_,rfl⟩
 rw[G] at d;obtain⟨E,hE⟩:∃m,min D (20+1)=m:=⟨_,rfl⟩
 rw[hE] at hd;clear K C P;go_enter func36,ntmps36;go_wp2_with fail;refine d.mono ?_;rintro e w2 ⟨rfl,j⟩;have b:=f.trans (j.mono f.size);have k:=hd _ (h.call b);clear z y s t r A u d hd;have o:=g.call j;obtain⟨z,y,s,t,r,A,u⟩:=o.seven;clear g;by_cases V:M<=40
 ·have U:decide ((M:Int)<=40)=true:=aI (by omega);have a:Hid (R=(decide (D<=20)&&B)):=hZ9 (by rw[HR.out,aI (p:=N<=40) (by omega),cy]);clear HR G;go_wp2_with fail;refine k.mono ?_;rintro e w3 ⟨rfl,q⟩;have c:=b.trans (q.mono b.size);have I:=O _ (h.call c);clear z y s t r A u k O h;have J:=o.call q;obtain⟨z,y,s,t,r,A,u⟩:=J.seven;by_cases X:E<=20
  ·have H:decide ((E:Int)<=20)=true:=aI (by omega);have i:Hid (R=B):=hZ9 (by rw[a.out,aI (by omega),cy]);clear a hE;go_wp2_with fail;refine I.mono ?_;rintro e w4 ⟨rfl,F⟩;go_wp2_with fail;go_ret;exact⟨by(rw[i.out])<;>rfl,c.trans (F.mono c.size)⟩
  ·have H:decide ((E:Int)<=20)=false:=aB (by omega);have i:Hid (R=false):=hZ9 (by rw[a.out,aB (by omega),cM]);clear a hE;go_wp2_with fail;go_ret;exact⟨by(rw[i.out])<;>rfl,c⟩
 ·have U:decide ((M:Int)<=40)=false:=aB (by omega);have a:Hid (R=false):=hZ9 (by rw[HR.out,aB (p:=N<=40) (by omega),cM]);clear HR G hE;go_wp2_with fail;go_ret;exact⟨by(rw[a.out])<;>rfl,b⟩
def Pm(x:Fi)(d lf:Nat)(w:World)(e:Ending)(w':World):Prop:=∃r:Int,e=.returned r/\-1<=r/\r<=60/\Hid (0<=r->FiS.wdF 2000 x/\d+FiS.depth x<=41/\r+FiS.nodes x=lf)/\Below w.heap.size w w'
def Vl(n:Nat):Prop:=∀(x:Fi) (v:Value) (w:World) (d lf:Nat) (b a:Int),BF n w v x->d<=41->lf<=60->b=(d:Int)->a=(lf:Int)->Calls prog 87 #[v,b,a] w (Pm x d lf w)
def SmT(ps:List Fi)(d lf j:Nat)(r:Int):Prop:=0<=r->(∀i (hi:i<ps.length),i<j->FiS.wdF 2000 (ps[i]'hi))/\d+1+FiS.BL (ps.take j)<=41/\r+1+FiS.Bi (ps.take j)=lf
theorem SmT.step{ps:List Fi}{d lf j m:Nat}{r r2:Int}(a:j<ps.length)(g:(m:Int)=r)(h:SmT ps d lf j r)(h2:0<=r2->FiS.wdF 2000 (ps[j]'a)/\d+1+FiS.depth (ps[j]'a)<=41/\r2+FiS.nodes (ps[j]'a)=m):SmT ps d lf (j+1) r2:=by
 intro b;obtain⟨h3,h4,h5⟩:=h2 b;obtain⟨h6,h7,h8⟩:=h (by omega);refine⟨λi c f=>?_,?_,?_⟩
 ·by_cases e:i=j
  ·subst e;exact h3
  ·exact h6 i c (by omega)
 ·rw[FiS.Il a];omega
 ·rw[FiS.Ik a];omega
theorem Aby:∀n,Vl n:=EU (λn M=>by
 unfold Vl Pm at*;intro x v w D lf di li h hD D3 A6 A9;obtain⟨kd,b,z,y,ls,k,ps⟩:=x;obtain⟨a5,c5,U,Q,hv,P,Z,J⟩:=FiV.parts h;have hv:v=.agg #[kd,b,z,y,ls,.slice a5 k.length c5,.slice U ps.length Q]:=hv;subst hv;have P:Ah w (.slice a5 k.length c5) k:=P;have Z:ps.length<=Q:=Z;have J:Bl n (λ_=>True) w (.slice U ps.length Q) ps:=J;have a:=hZ9 (λj (Y:j<ps.length) (m:Nat) (r r2:Int) (hm:(m:Int)=r) (h:SmT ps D lf j r) h2=>SmT.step (r2:=r2) Y hm h h2);have c:Hid (∀r:Int,D<=40->r+1=lf->SmT ps D lf 0 r):=hZ9 (λr h1 h2 h3=>⟨λi F h=>by omega,by simp[FiS.BL];omega,by simp[FiS.Bi];omega⟩);have A4:=hZ9 (λj (Y:j<=ps.length)=>FiS.MS Y);have A5:Hid (ps.take ps.length=ps):=hZ9 (bA);have B7:Hid (ps.length<=FiS.Bi ps):=hZ9 (FiS.MR ps);have B:Hid (∀r:Int,SmT ps D lf ps.length r->(b.length<=2000/\z.length<=2000/\y.length<=2000/\ls.length<=2000)->k.length<=2000->(∀t∈k,t.length<=2000)->0<=r->FiS.wdF 2000 (.mk kd b z y ls k ps)/\D+FiS.depth (.mk kd b z y ls k ps)<=41/\r+FiS.nodes (.mk kd b z y ls k ps)=lf):=hZ9 (λr h1 h2 h3 h4 h5=>by
  obtain⟨h6,h7,h8⟩:=h1 h5;rw[A5.out] at h7 h8;rw[FiS.wdF,FiS.depth,FiS.nodes];have:=B7.out;exact⟨⟨h2,h3,h4,by omega,FiS.GX.2 (λi F=>h6 i F F)⟩,by omega,by omega⟩)
 obtain⟨H,K⟩:∃m,k.length=m:=⟨_,rfl⟩
 obtain⟨I,O⟩:∃m,ps.length=m:=⟨_,rfl⟩
 have A0:=hZ9 K;have C0:=hZ9 O;rw[K] at P;rw[O] at Z J
 try rw[K]
 try rw[O]
 have u:=Af w (.cells #[kd,b,z,y,ls,.slice a5 H c5,.slice U I Q] 26);have A1:=Whole.made w 26 #[kd,b,z,y,ls,.slice a5 H c5,.slice U I Q];have q:=hZ9 (λj (Y:j<ps.length)=>Bl.at J j Y);obtain⟨a',c',e,B5,A2⟩:=Ad.at (P.strsP (λ_=>True) (λ_ _=>trivial));injection e with e1 e2 e3;rw[<-e1] at A2;have A:=hZ9 A2;clear A2 P e1 e2 e3 B5;obtain⟨E,hG⟩:∃G:Int->Prop,G=λr:Int=>0<=r->FiS.wdF 2000 (.mk kd b z y ls k ps)/\D+FiS.depth (.mk kd b z y ls k ps)<=41/\r+FiS.nodes (.mk kd b z y ls k ps)=lf:=⟨_,rfl⟩
 have C:Hid (∀r:Int,(0<=r->FiS.wdF 2000 (.mk kd b z y ls k ps)/\D+FiS.depth (.mk kd b z y ls k ps)<=41/\r+FiS.nodes (.mk kd b z y ls k ps)=lf)->E r):=hZ9 (λr h=>by rw[hG];exact h);have f:Hid (E (-1)):=hZ9 (by rw[hG];intro h;omega)
 suffices hS:Calls prog 87 #[.agg #[kd,b,z,y,ls,.slice a5 H c5,.slice U I Q],di,li] w λe w'=>∃r:Int,e=.returned (.int .i64 r)/\-1<=r/\r<=60/\Hid (E r)/\Below w.heap.size w w' by rw[hG] at hS;exact hS
 clear hG;rw[K,O] at B;obtain⟨q0,q1,q2,q3,q4,q5,q6⟩:=A1.seven;clear h J K O;have g1:decide ((40:Int)<di)=decide (40<D):=bM.2 (by omega);have D2:0<=di/\di<=41/\0<=li/\li<=60:=by omega
 have C1:=hZ9 A6;have B3:=hZ9 A9;clear A6 A9;by_cases k0:40<D
 ·rw[aI k0] at g1;clear M q A B a c C;go_enter func87,ntmps87;go_wp2_with fail;go_ret;exact⟨-1,by rfl,by omega,by omega,f,u⟩
 rw[aB k0] at g1;have g2:decide ((100:Int)<(H:Int))=decide (100<H):=bM.2 (by omega);by_cases k1:100<H
 ·rw[aI k1] at g2;clear M q A B a c C;go_enter func87,ntmps87;go_wp2_with fail;go_ret;exact⟨-1,by rfl,by omega,by omega,f,u⟩
 rw[aB k1] at g2;have g3:decide ((2000:Int)<(z.length:Int))=decide (2000<z.length):=bM.2 (by omega);by_cases k2:2000<z.length
 ·rw[aI k2] at g3;clear M q A B a c C;go_enter func87,ntmps87;go_wp2_with fail;go_ret;exact⟨-1,by rfl,by omega,by omega,f,u⟩
 rw[aB k2] at g3;have g4:decide ((2000:Int)<(b.length:Int))=decide (2000<b.length):=bM.2 (by omega);by_cases k3:2000<b.length
 ·rw[aI k3] at g4;clear M q A B a c C;go_enter func87,ntmps87;go_wp2_with fail;go_ret;exact⟨-1,by rfl,by omega,by omega,f,u⟩
 rw[aB k3] at g4;have g5:decide ((2000:Int)<(y.length:Int))=decide (2000<y.length):=bM.2 (by omega);by_cases k4:2000<y.length
 ·rw[aI k4] at g5;clear M q A B a c C;go_enter func87,ntmps87;go_wp2_with fail;go_ret;exact⟨-1,by rfl,by omega,by omega,f,u⟩
 rw[aB k4] at g5;have g6:decide ((2000:Int)<(ls.length:Int))=decide (2000<ls.length):=bM.2 (by omega);by_cases k5:2000<ls.length
 ·rw[aI k5] at g6;clear M q A B a c C;go_enter func87,ntmps87;go_wp2_with fail;go_ret;exact⟨-1,by rfl,by omega,by omega,f,u⟩
 rw[aB k5] at g6;have N:Hid (∀r:Int,SmT ps D lf I r->(∀t∈k,t.length<=2000)->E r):=hZ9 (λr h1 h2=>C.out r (B.out r h1 ⟨by omega,by omega,by omega,by omega⟩ (by omega) h2));clear B C;go_enter func87,ntmps87;go_wp2_with fail;clear g1 g2 g3 g4 g5 g6;go_loopw [44] (λi wr=>∃j:Nat,j<=H/\i=.int .i64 j/\Hid (∀i (F:i<k.length),i<j->(k[i]'F).length<=2000)/\w.alloc (.cells #[kd,b,z,y,ls,.slice a5 H c5,.slice U I Q] 26)=wr) (λi _=>H-(intOf i).toNat)
 case atStart=>exact⟨0,aR _,rfl,hZ9 (λi F h=>by omega),rfl⟩
 case round=>
  obtain⟨j,Y,rfl,HA,rfl⟩:=hrel;by_cases A3:j<H
  ·have l:j<k.length:=by rw[A0.out];exact A3
   have B1:=hZ9 HA.out;obtain⟨g,o,B2,T,_,hra⟩:=A.out j l;have B8:(w.alloc (.cells #[kd,b,z,y,ls,.slice a5 H c5,.slice U I Q] 26)).cell? ⟨g,o+j,none⟩=some (Ac k[j]):=by have:w.cell? ⟨g,o+j*1,none⟩=some (Ac k[j]):=hra;rw[bp] at this;exact Ab this u
   clear hra A M q a c N;subst B2;have A7:Hid ((k[j]'l).length<=2000->∀i (F:i<k.length),i<j+1->(k[i]'F).length<=2000):=hZ9 (λh i F D1=>by
    by_cases e:i=j
    ·subst e;exact h
    ·exact HA.out i F (by omega))
   generalize k[j]=s at*;unfold Ac at B8;have B6:(0:Int)<=(j:Int):=by omega
   have B4:(j:Int)<(H:Int):=by omega
   by_cases hs:2000<s.length
   ·have g1:decide ((2000:Int)<(s.length:Int))=true:=aI (by omega);go_wp2_with fail;go_ret;exact⟨-1,by rfl,by omega,by omega,f,u⟩
   ·have g1:decide ((2000:Int)<(s.length:Int))=false:=aB (by omega);have C3:=hZ9 (A7.out (by omega));clear A7 HA B1;go_wp2_with fail;go_roundw
    case rel=>exact⟨j+1,by omega,by go_num,C3,by first|rfl|trivial⟩
    case measure=>simp[intOf];omega
  ·have L:Hid (∀r:Int,SmT ps D lf I r->E r):=hZ9 (λr h=>N.out r h (λt ht=>by
    obtain⟨i,F,rfl⟩:=gZ ht;exact HA.out i F (by rw[A0.out] at F;omega)))
   clear N HA A A0;go_wp2_with fail;go_loopw [2,60] (λlv i wr=>∃(j:Nat) (r:Int),j<=I/\i=.int .i64 j/\lv=.int .i64 r/\-1<=r/\r<=60/\Hid (SmT ps D lf j r)/\Whole wr w.heap.size 26 #[kd,b,z,y,ls,.slice a5 H c5,.slice U I Q]/\Below w.heap.size w wr) (λ_ i _=>I-(intOf i).toNat)
   case atStart=>exact⟨0,li-1,aR _,rfl,by first|rfl|go_num,by omega,by omega,hZ9 (c.out _ (by omega) (by have:=B3.out;omega)),A1,u⟩
   case round=>
    obtain⟨j,r,Y,rfl,rfl,C2,B9,HM,hw,hb⟩:=hrel;clear A1 u q0 q1 q2 q3 q4 q5 q6;by_cases A3:j<I
    ·by_cases X:r<0
     ·have g1:decide (r<0)=true:=aI X;clear M q a c L HM;go_wp2_with fail;go_ret;exact⟨-1,by rfl,by omega,by omega,f,hb⟩
     have g1:decide (r<0)=false:=aB X;have l:j<ps.length:=by rw[C0.out];exact A3
     have B0:=A4.out j (dF l);have D0:j<=60:=by have:=(HM.out (by omega)).2.2;omega
     obtain⟨m,hm⟩:∃m:Nat,(m:Int)=r:=⟨r.toNat,by omega⟩
     have HS:=hZ9 (λr2 h2=>a.out j l m r r2 hm HM.out h2);clear B0 A4;obtain⟨d,rfl,g,o,rfl,T,b5,d5,b6,d6,R,y0,y1,y2,y3,y4,y5,y6⟩:=q.out j l;have R:=R.call hb;have y0:=(hb.cell (p:=⟨g,o+j*7,none⟩) T).trans y0;have y1:=(hb.cell (p:=⟨g,o+j*7+1,none⟩) T).trans y1;have y2:=(hb.cell (p:=⟨g,o+j*7+2,none⟩) T).trans y2;have y3:=(hb.cell (p:=⟨g,o+j*7+3,none⟩) T).trans y3;have y4:=(hb.cell (p:=⟨g,o+j*7+4,none⟩) T).trans y4;have y5:=(hb.cell (p:=⟨g,o+j*7+5,none⟩) T).trans y5;have y6:=(hb.cell (p:=⟨g,o+j*7+6,none⟩) T).trans y6;have V:=λv W h=>M d rfl (ps[j]'l) v W (D+1) m (di+1) r h (by omega) (by omega) (by have:=C1.out;omega) hm.symm;clear M q a c HM;clear hm;generalize ps[j]=p at*;generalize p.any.length=PA at*;generalize p.parts.length=PP at*;have B6:(0:Int)<=(j:Int):=by omega
     have B4:(j:Int)<(I:Int):=by omega
     have hc:=V _ _ R;clear V R;obtain⟨q0,q1,q2,q3,q4,q5,q6⟩:=hw.seven;go_wp2_with fail;refine hc.mono ?_;rintro e w2 ⟨r2,rfl,C7,C9,S,A8⟩;have C4:=hb.trans (A8.mono hb.size);have C6:=hw.call A8;have C8:=hZ9 (HS.out r2 S.out);clear hc q0 q1 q2 q3 q4 q5 q6 HS S;go_wp2_with fail;go_roundw
     case rel=>exact⟨j+1,r2,by omega,by go_num,rfl,C7,C9,C8,C6,C4⟩
     case measure=>simp[intOf];omega
    ·have C5:j=I:=by omega
     subst C5;have S:=hZ9 (L.out r HM.out);clear M q a c L HM A4;go_wp2_with fail;go_ret;exact⟨r,rfl,C2,B9,S,hb⟩)
theorem Abz(n:Nat)(x:Fi)(v:Value)(w:World)(h:BF n w v x):Calls prog 54 #[v] w λe w'=>∃b,e=.returned (.bool b)/\Hid (b=true->FiS.wdF 2000 x/\FiS.depth x<=41/\FiS.nodes x<=60)/\Below w.heap.size w w':=by
 have m:=λW h=>Aby n x v W 0 60 0 60 h (by omega) (by omega) rfl rfl;unfold Pm at*;have HR:Hid (∀r:Int,(0<=r->FiS.wdF 2000 x/\0+FiS.depth x<=41/\r+FiS.nodes x=(60:Nat))->decide (0<=r)=true->FiS.wdF 2000 x/\FiS.depth x<=41/\FiS.nodes x<=60):=hZ9 (λr h h2=>by
  obtain⟨h3,h4,h5⟩:=h (b7 h2);have:=b7 h2;exact⟨h3,by omega,by omega⟩)
 obtain⟨a5,c5,o,l,u,k,q,f⟩:=FiV.parts h;generalize x.any.length=AL at*;generalize x.parts.length=PL at*;generalize x.kind=kd at*;generalize x.attr=at0 at*;generalize x.value=vl at*;generalize x.first=fs at*;generalize x.last=ls at*;subst u;have a:=Af w (.cells #[kd,at0,vl,fs,ls,.slice a5 AL c5,.slice o PL l] 26);have j:=Whole.made w 26 #[kd,at0,vl,fs,ls,.slice a5 AL c5,.slice o PL l];obtain⟨E,C,z,A,y,F,B⟩:=j.seven;have c:=m _ (h.call a);clear k f m;go_enter func54,ntmps54;go_wp2_with fail;refine c.mono ?_;rintro e w2 ⟨r,rfl,s,p,d,g⟩;have i:=a.trans (g.mono a.size);have t:=hZ9 (HR.out r d.out);clear HR d c;go_wp2_with fail;go_ret;exact⟨_,rfl,t,i⟩
end
