/- The walks of what belongs to a filter's kind: own (the program's), bare (the document's). Conditions: as stated. -/
import Derived.Test.YtgngjfjaelgaeaaGreatDoorZFic
set_option maxRecDepth 100000
set_option maxHeartbeats 2000000
namespace Go.Proofs.YtgngjfjaelgaeaaGreatDoor
open Go.Proofs.Tryz
namespace FiS
theorem emp(s:iK):s=[]\/(s.isEmpty=false/\(s==[])=false/\(s !=[])=true/\¬s=[]):=by
 cases s with
 |nil=>exact .inl rfl
 |cons c r=>exact .inr ⟨rfl,rfl,rfl,by simp⟩
def Ha(s:iK):Bool:=!BP s
theorem Abs(l:List iK):l.any Ha=!l.all BP:=by unfold Ha;rw[List.any_eq_not_all_not];congr 2;funext s;simp
def Ar(k:Int)(E V P:Bool)(L F:Bool)(a b A:Bool)(O:Bool):Bool:=
 if k=0\/k=1 then E&&V&&!P
 else if k=2 then E&&V&&!P&&O
 else if k=3\/k=5\/k=6\/k=8 then L&&F&&!P
 else if k=7 then L&&V&&!P
 else if k=4 then L&&V&&P&&a&&b&&A
 else false
theorem YA(k:Int)(a v f l:iK)(s:List iK)(n:Nat):Ob k a v f l s n=Ar k a.isEmpty v.isEmpty (Gv f l s) (Kp a n) (BP v) (decide (f.length<=200)) (decide (l.length<=200)) (s.all BP) (decide (n=1)):=rfl
theorem Ad8{α:Type}{p:α->Bool}{l:List α}{j:Nat}(a:j<l.length):(l.take (j+1)).all p=((l.take j).all p&&p (l[j]'a)):=by rw[aW a,dL];simp
theorem all_not{α:Type}{p:α->Bool}{l:List α}{j:Nat}(a:j<l.length)(h:p (l[j]'a)=false):l.all p=false:=by rw[fN];exact⟨_,aZ a,by rw[h];simp⟩
def UF(o:Option Nat):Int:=match o with|some i=>(i:Int)|none=>-1
theorem Qk{α:Type}{p:α->Bool}:∀{xs:List α} {k:Nat} (hk:k<xs.length),(∀x∈xs.take k,p x=false)->p xs[k]=true->xs.findIdx? p=some k
 |[],k,hk,_,_=>by simp at hk
 |x :: xs,0,_,_,hp=>by rw[eH,aJ (show p x=true from hp)]
 |x :: xs,k+1,hk,h,hp=>by rw[eH,aG (by rw[h x (by simp)];simp),Qk (k:=k) (by simpa using hk) (λy a=>h y (by simp[a])) (by simpa using hp)];rfl
theorem Abt{α:Type}{p:α->Bool}{xs:List α}(h:∀x∈xs,p x=false):xs.findIdx? p=none:=by rw[fS];exact h
theorem Abu{α:Type}{p:α->Bool}{xs:List α}{k:Nat}(hk:k<xs.length)(h:∀x∈xs.take k,p x=false)(hp:p xs[k]=false):∀x∈xs.take (k+1),p x=false:=λx hx=>by
 rw[aW hk] at hx;rcases bB.1 hx with hx|hx
 ·exact h x hx
 ·have:=aj.1 hx;subst this;exact hp
theorem Ad9(o:Option Nat):decide (0<=UF o)=o.isSome:=by
 cases o with
 |none=>rfl
 |some i=>simp[UF]
theorem AdA{α:Type}(p:α->Bool)(l:List α):(l.findIdx? p).isSome=l.any p:=by rw[ei]
end FiS
open Go.RowKit
def AP(b:Bool)(w:World)(e:Ending)(w':World):Prop:=e=.returned b/\Below w.heap.size w w'
def AeX(o:Option Nat)(w:World)(e:Ending)(w':World):Prop:=e=.returned (.int .i64 (FiS.UF o))/\Below w.heap.size w w'
open FiS (Fi)
theorem AdB(v:Value)(xs:List iK)(w:World)(h:Ah w v xs)(G:xs.length<=1048576):
  Calls prog 157 #[v,.func (.func 156) #[] #[]] w (AeX (xs.findIdx? FiS.Ha) w):=by
 obtain⟨a,c,rfl,hc,n⟩:=Ad.at (h.strsP (λ_=>True) (λ_ _=>trivial));have B:=hZ9 n;have F:=λx w=>Ad7 x w;have f:=hZ9 (λk (hk:k<xs.length)=>FiS.Qk (p:=FiS.Ha) hk);have j:=hZ9 (FiS.Abt (p:=FiS.Ha) (xs:=xs));have r:=hZ9 (λk (hk:k<xs.length)=>FiS.Abu (p:=FiS.Ha) hk);generalize xs.findIdx? FiS.Ha=R at*;have HP:Hid (∀s,FiS.Ha s=!FiS.BP s):=hZ9 (λ_=>rfl);generalize FiS.Ha=p at*;clear n h;generalize u:xs.length=m at hc G⊢;have E:=hZ9 u;clear u;go_enter func157,ntmps157;go_wp2_with fail;go_loopw [8] (λi wr=>∃k:Nat,k<=m/\i=.int .i64 k/\Hid (∀x∈xs.take k,p x=false)/\Below w.heap.size w wr) (λi _=>m-(intOf i).toNat)
 case atStart=>exact⟨0,aR _,rfl,hZ9 (λx hx=>by cases hx),Below.refl _ _⟩
 case round=>
  obtain⟨k,hk,rfl,y,hb⟩:=hrel;by_cases z:k<m
  ·have b:k<xs.length:=by rw[E.out];exact z
   obtain⟨g,o,rfl,H,_,hra⟩:=B.out k b;have c0:wr.cell? ⟨g,o+k,none⟩=some (Ac xs[k]):=by have:w.cell? ⟨g,o+k*1,none⟩=some (Ac xs[k]):=hra;rw[bp] at this;exact Ab this hb
   have A:=hZ9 (f.out k b y.out);have C:=hZ9 (r.out k b y.out);have q:=hZ9 (HP.out xs[k]);generalize xs[k]=x at*;unfold Ac at c0;have d:=F x wr;clear hra b f j r;cases l:p x with
   |true=>have HR:=hZ9 (A.out l);rw[<-q.out,l] at d;clear l A C;go_wp2_with fail;refine d.mono ?_;rintro e w1 ⟨rfl,rfl⟩;go_wp2_with fail;go_ret;exact⟨by rw[HR.out];rfl,hb⟩
   |false=>
    have HR:=hZ9 (C.out l);rw[<-q.out,l] at d;clear l A C;go_wp2_with fail;refine d.mono ?_;rintro e w1 ⟨rfl,rfl⟩;go_wp2_with fail;go_roundw
    case rel=>exact⟨k+1,by omega,by go_num,HR,hb⟩
    case measure=>simp[intOf];omega
  ·have t:Hid (R=none):=hZ9 (j.out (by have:=y.out;rwa [af (by rw[E.out];omega)] at this));go_wp2_with fail;go_ret;exact⟨by rw[t.out];rfl,hb⟩
theorem AdC(v:Value)(xs:List iK)(w:World)(h:Ah w v xs)(g:xs.length<=1048576):
  Calls prog 155 #[v,.func (.func 156) #[] #[]] w (AP (!xs.all FiS.BP) w):=by
 have d:=AdB v xs w h g;unfold AeX at d;have HR:Hid ((!xs.all FiS.BP)=(xs.findIdx? FiS.Ha).isSome):=hZ9 (by rw[FiS.AdA,FiS.Abs]);generalize (!xs.all FiS.BP)=R at*;generalize xs.findIdx? FiS.Ha=I at*;have f:=hZ9 (FiS.Ad9 I);generalize FiS.UF I=z at*;obtain⟨a,c,rfl⟩:=h.form;go_enter func155,ntmps155;go_wp2_with fail;refine d.mono ?_;rintro e w1 ⟨rfl,b⟩;go_wp2_with fail;go_ret;exact⟨by rw[HR.out,<-f.out];rfl,b⟩
theorem AgO(n:Nat)(x:Fi)(v:Value)(w:World)(h:BF n w v x)(u:x.attr.length<=20000)(r:x.any.length<=1048576):Calls prog 124 #[v] w (AP (FiS.Ho x) w):=by
 unfold AP;obtain⟨kd,c,g,j,ls,q,ps⟩:=x;obtain⟨a5,c5,U,J,hv,I,B,A⟩:=FiV.parts h;have hv:v=.agg #[kd,c,g,j,ls,.slice a5 q.length c5,.slice U ps.length J]:=hv;subst hv;have I:Ah w (.slice a5 q.length c5) q:=I;have B:ps.length<=J:=B;have A:Bl n (λ_=>True) w (.slice U ps.length J) ps:=A;have u:c.length<=20000:=u;have r:q.length<=1048576:=r;have hN:FiS.Ho (.mk kd c g j ls q ps)=FiS.Ob kd c g j ls q ps.length:=rfl;rw[hN];clear hN;obtain⟨z,E⟩:∃m,q.length=m:=⟨_,rfl⟩
 obtain⟨l,F⟩:∃m,ps.length=m:=⟨_,rfl⟩
 have B1:=hZ9 E;have B3:=hZ9 F;rw[E] at I;rw[F] at B A
 try rw[E]
 try rw[F]
 rw[FiS.YA];have A1:=Af w (.cells #[kd,c,g,j,ls,.slice a5 z c5,.slice U l J] 36);have T:=Whole.made w 36 #[kd,c,g,j,ls,.slice a5 z c5,.slice U l J];have k:=λw=>XB c u w;have d:=λw=>Abq g w;have f:Hid (FiS.Gv j ls q=(!j.isEmpty||!ls.isEmpty||decide (0<z))):=hZ9 (by rw[<-B1.out];rfl);have i:Hid (FiS.Kp c l=(decide (l=0)&&FiS.GF c)):=hZ9 rfl;obtain⟨P,hP⟩:∃b,FiS.Gv j ls q=b:=⟨_,rfl⟩
 obtain⟨L,hL⟩:∃b,FiS.Kp c l=b:=⟨_,rfl⟩
 obtain⟨AT,A7⟩:∃b,FiS.GF c=b:=⟨_,rfl⟩
 obtain⟨FT,Z⟩:∃b,FiS.BP g=b:=⟨_,rfl⟩
 obtain⟨AA,K⟩:∃b,q.all FiS.BP=b:=⟨_,rfl⟩
 rw[hP] at f⊢;rw[hL] at i⊢;rw[A7] at i k;rw[Z] at d⊢;rw[K];have B2:=hZ9 K;clear hP hL A7 Z K;have t:∀s:iK,decide ((s.length:Int)<=200)=decide (s.length<=200):=λs=>bM.2 (by omega);obtain⟨F2,Q⟩:∃b,decide (j.length<=200)=b:=⟨_,rfl⟩
 obtain⟨L2,Y⟩:∃b,decide (ls.length<=200)=b:=⟨_,rfl⟩
 have A9:decide ((j.length:Int)<=200)=F2:=(t j).trans Q;have A0:decide ((ls.length:Int)<=200)=L2:=(t ls).trans Y;rw[Q,Y];clear Q Y t;obtain⟨O,hO⟩:∃b,decide (l=1)=b:=⟨_,rfl⟩
 have B0:((l:Int)==1)=O:=by rw[<-hO];by_cases h:l=1<;>simp[h]<;>omega
 rw[hO];clear hO;obtain⟨q0,q1,q2,q3,q4,q5,q6⟩:=T.seven;have p:=λW (hb:Below w.heap.size w W)=>AdC (.slice a5 z c5) q W (I.call hb (aA _)) r;unfold AP at p;have y:∀W,Below w.heap.size w W->Calls prog 155 #[.slice a5 z c5,.func (.func 156) #[] #[]] W λe w'=>e=.returned (.bool (!AA))/\Below W.heap.size W w':=λW hb=>by have:=p W hb;rwa [B2.out] at this
 clear p;obtain⟨R,M⟩:∃b,FiS.Ar kd c.isEmpty g.isEmpty P L FT F2 L2 AA O=b:=⟨_,rfl⟩
 rw[M];have a:=hZ9 M;clear M h A E F B;have HW:=hZ9 T;clear T;go_enter func124,ntmps124;go_upto_region 1 with fail;go_cut [3] (λb wd=>b=.bool P/\wd=(w.alloc (.cells #[kd,c,g,j,ls,.slice a5 z c5,.slice U l J] 36)))
 case first=>
  clear k d A9 A0 B0;rcases FiS.emp j with rfl|⟨f1,f2,f3,f4⟩
  ·rcases FiS.emp ls with rfl|⟨l1,l2,l3,l4⟩
   ·have o:Hid (P=decide ((0:Int)<(z:Int))):=hZ9 (by rw[f.out];show (false||false||decide (0<z))=_;simp);clear f;go_wp2_with fail;go_meet;exact⟨by rw[o.out];first|rfl|simp,rfl⟩
   ·have o:Hid (P=true):=hZ9 (by rw[f.out,l1];simp);clear f;go_wp2_with fail;go_meet;exact⟨by rw[o.out],rfl⟩
  ·have o:Hid (P=true):=hZ9 (by rw[f.out,f1];simp);clear f;go_wp2_with fail;go_meet;exact⟨by rw[o.out],rfl⟩
 case rest=>
  obtain⟨rfl,rfl⟩:=hcut;have C:=A1;clear f A1;go_upto_region 2 with fail;go_cut [4] (λb wd=>b=.bool L/\Whole wd w.heap.size 36 #[kd,c,g,j,ls,.slice a5 z c5,.slice U l J]/\Below w.heap.size w wd)
  case first=>
   clear d A9 A0 B0 y;by_cases h0:l=0
   ·have N:Hid (L=AT):=hZ9 (by rw[i.out,aI h0,cy]);subst h0;clear i;have hc:=k (w.alloc (.cells #[kd,c,g,j,ls,.slice a5 z c5,.slice U 0 J] 36));go_wp2_with fail;refine hc.mono ?_;rintro e w2 ⟨rfl,G⟩;go_wp2_with fail;go_meet;exact⟨by rw[N.out],HW.out.call G,C.trans (G.mono C.size)⟩
   ·have N:Hid (L=false):=hZ9 (by rw[i.out,aB h0,cM]);have h00:((l:Int)==0)=false:=by simp;omega
    clear i;go_wp2_with fail;go_meet;exact⟨by rw[N.out],HW.out,C⟩
  case rest=>
   obtain⟨rfl,hw,hb⟩:=hcut;clear C i HW q0 q1 q2 q3 q4 q5 q6 k;obtain⟨q0,q1,q2,q3,q4,q5,q6⟩:=hw.seven;by_cases A4:kd=0
   ·subst A4;rcases FiS.emp c with rfl|⟨x1,x2,x3,x4⟩
    ·rcases FiS.emp g with rfl|⟨H,y2,y3,y4⟩
     ·cases P
      ·have HR:Hid (R=true):=hZ9 (by rw[<-a.out];simp[FiS.Ar]);clear a;go_wp2_with fail;go_ret;exact⟨by(rw[HR.out])<;>rfl,hb⟩
      ·have HR:Hid (R=false):=hZ9 (by rw[<-a.out];simp[FiS.Ar]);clear a;go_wp2_with fail;go_ret;exact⟨by(rw[HR.out])<;>rfl,hb⟩
     ·have HR:Hid (R=false):=hZ9 (by rw[<-a.out];simp[FiS.Ar,H]);clear a;go_wp2_with fail;go_ret;exact⟨by(rw[HR.out])<;>rfl,hb⟩
    ·have HR:Hid (R=false):=hZ9 (by rw[<-a.out];simp[FiS.Ar,x1]);clear a;go_wp2_with fail;go_ret;exact⟨by(rw[HR.out])<;>rfl,hb⟩
   by_cases A3:kd=1
   ·subst A3;rcases FiS.emp c with rfl|⟨x1,x2,x3,x4⟩
    ·rcases FiS.emp g with rfl|⟨H,y2,y3,y4⟩
     ·cases P
      ·have HR:Hid (R=true):=hZ9 (by rw[<-a.out];simp[FiS.Ar]);clear a;go_wp2_with fail;go_ret;exact⟨by(rw[HR.out])<;>rfl,hb⟩
      ·have HR:Hid (R=false):=hZ9 (by rw[<-a.out];simp[FiS.Ar]);clear a;go_wp2_with fail;go_ret;exact⟨by(rw[HR.out])<;>rfl,hb⟩
     ·have HR:Hid (R=false):=hZ9 (by rw[<-a.out];simp[FiS.Ar,H]);clear a;go_wp2_with fail;go_ret;exact⟨by(rw[HR.out])<;>rfl,hb⟩
    ·have HR:Hid (R=false):=hZ9 (by rw[<-a.out];simp[FiS.Ar,x1]);clear a;go_wp2_with fail;go_ret;exact⟨by(rw[HR.out])<;>rfl,hb⟩
   by_cases V:kd=2
   ·subst V;rcases FiS.emp c with rfl|⟨x1,x2,x3,x4⟩
    ·rcases FiS.emp g with rfl|⟨H,y2,y3,y4⟩
     ·cases P
      ·have HR:Hid (R=O):=hZ9 (by rw[<-a.out];simp[FiS.Ar]);clear a;go_wp2_with fail;go_ret;exact⟨by(rw[HR.out])<;>rfl,hb⟩
      ·have HR:Hid (R=false):=hZ9 (by rw[<-a.out];simp[FiS.Ar]);clear a;go_wp2_with fail;go_ret;exact⟨by(rw[HR.out])<;>rfl,hb⟩
     ·have HR:Hid (R=false):=hZ9 (by rw[<-a.out];simp[FiS.Ar,H]);clear a;go_wp2_with fail;go_ret;exact⟨by(rw[HR.out])<;>rfl,hb⟩
    ·have HR:Hid (R=false):=hZ9 (by rw[<-a.out];simp[FiS.Ar,x1]);clear a;go_wp2_with fail;go_ret;exact⟨by(rw[HR.out])<;>rfl,hb⟩
   by_cases A8:kd=3
   ·subst A8;have hc:=d wc;cases L with
    |true=>
     cases FT with
     |true=>have HR:Hid (R=!P):=hZ9 (by rw[<-a.out];simp[FiS.Ar]);clear a;go_wp2_with fail;refine hc.mono ?_;rintro e w2 ⟨rfl,rfl⟩;go_wp2_with fail;go_ret;exact⟨by(rw[HR.out])<;>rfl,hb⟩
     |false=>have HR:Hid (R=false):=hZ9 (by rw[<-a.out];simp[FiS.Ar]);clear a;go_wp2_with fail;refine hc.mono ?_;rintro e w2 ⟨rfl,rfl⟩;go_wp2_with fail;go_ret;exact⟨by(rw[HR.out])<;>rfl,hb⟩
    |false=>have HR:Hid (R=false):=hZ9 (by rw[<-a.out];simp[FiS.Ar]);clear a;go_wp2_with fail;go_ret;exact⟨by(rw[HR.out])<;>rfl,hb⟩
   by_cases A5:kd=5
   ·subst A5;have hc:=d wc;cases L with
    |true=>
     cases FT with
     |true=>have HR:Hid (R=!P):=hZ9 (by rw[<-a.out];simp[FiS.Ar]);clear a;go_wp2_with fail;refine hc.mono ?_;rintro e w2 ⟨rfl,rfl⟩;go_wp2_with fail;go_ret;exact⟨by(rw[HR.out])<;>rfl,hb⟩
     |false=>have HR:Hid (R=false):=hZ9 (by rw[<-a.out];simp[FiS.Ar]);clear a;go_wp2_with fail;refine hc.mono ?_;rintro e w2 ⟨rfl,rfl⟩;go_wp2_with fail;go_ret;exact⟨by(rw[HR.out])<;>rfl,hb⟩
    |false=>have HR:Hid (R=false):=hZ9 (by rw[<-a.out];simp[FiS.Ar]);clear a;go_wp2_with fail;go_ret;exact⟨by(rw[HR.out])<;>rfl,hb⟩
   by_cases A6:kd=6
   ·subst A6;have hc:=d wc;cases L with
    |true=>
     cases FT with
     |true=>have HR:Hid (R=!P):=hZ9 (by rw[<-a.out];simp[FiS.Ar]);clear a;go_wp2_with fail;refine hc.mono ?_;rintro e w2 ⟨rfl,rfl⟩;go_wp2_with fail;go_ret;exact⟨by(rw[HR.out])<;>rfl,hb⟩
     |false=>have HR:Hid (R=false):=hZ9 (by rw[<-a.out];simp[FiS.Ar]);clear a;go_wp2_with fail;refine hc.mono ?_;rintro e w2 ⟨rfl,rfl⟩;go_wp2_with fail;go_ret;exact⟨by(rw[HR.out])<;>rfl,hb⟩
    |false=>have HR:Hid (R=false):=hZ9 (by rw[<-a.out];simp[FiS.Ar]);clear a;go_wp2_with fail;go_ret;exact⟨by(rw[HR.out])<;>rfl,hb⟩
   by_cases A2:kd=8
   ·subst A2;have hc:=d wc;cases L with
    |true=>
     cases FT with
     |true=>have HR:Hid (R=!P):=hZ9 (by rw[<-a.out];simp[FiS.Ar]);clear a;go_wp2_with fail;refine hc.mono ?_;rintro e w2 ⟨rfl,rfl⟩;go_wp2_with fail;go_ret;exact⟨by(rw[HR.out])<;>rfl,hb⟩
     |false=>have HR:Hid (R=false):=hZ9 (by rw[<-a.out];simp[FiS.Ar]);clear a;go_wp2_with fail;refine hc.mono ?_;rintro e w2 ⟨rfl,rfl⟩;go_wp2_with fail;go_ret;exact⟨by(rw[HR.out])<;>rfl,hb⟩
    |false=>have HR:Hid (R=false):=hZ9 (by rw[<-a.out];simp[FiS.Ar]);clear a;go_wp2_with fail;go_ret;exact⟨by(rw[HR.out])<;>rfl,hb⟩
   by_cases S:kd=7
   ·subst S;cases L with
    |true=>
     rcases FiS.emp g with rfl|⟨H,y2,y3,y4⟩
     ·have HR:Hid (R=!P):=hZ9 (by rw[<-a.out];simp[FiS.Ar]);clear a;go_wp2_with fail;go_ret;exact⟨by(rw[HR.out])<;>rfl,hb⟩
     ·have HR:Hid (R=false):=hZ9 (by rw[<-a.out];simp[FiS.Ar,H]);clear a;go_wp2_with fail;go_ret;exact⟨by(rw[HR.out])<;>rfl,hb⟩
    |false=>have HR:Hid (R=false):=hZ9 (by rw[<-a.out];simp[FiS.Ar]);clear a;go_wp2_with fail;go_ret;exact⟨by(rw[HR.out])<;>rfl,hb⟩
   by_cases X:kd=4
   ·subst X;have hc:=y wc hb;cases L with
    |true=>
     rcases FiS.emp g with rfl|⟨H,y2,y3,y4⟩
     ·cases P with
      |false=>have HR:Hid (R=false):=hZ9 (by rw[<-a.out];simp[FiS.Ar]);clear a;go_wp2_with fail;go_ret;exact⟨by(rw[HR.out])<;>rfl,hb⟩
      |true=>
       cases F2 with
       |false=>have HR:Hid (R=false):=hZ9 (by rw[<-a.out];simp[FiS.Ar]);clear a;go_wp2_with fail;go_ret;exact⟨by(rw[HR.out])<;>rfl,hb⟩
       |true=>
        cases L2 with
        |false=>have HR:Hid (R=false):=hZ9 (by rw[<-a.out];simp[FiS.Ar]);clear a;go_wp2_with fail;go_ret;exact⟨by(rw[HR.out])<;>rfl,hb⟩
        |true=>have HR:Hid (R=AA):=hZ9 (by rw[<-a.out];simp[FiS.Ar]);clear a;go_wp2_with fail;refine hc.mono ?_;rintro e w2 ⟨rfl,G⟩;go_wp2_with fail;go_ret;exact⟨by rw[HR.out];(try rw[Bool.not_not])<;>rfl,hb.trans (G.mono hb.size)⟩
     ·have HR:Hid (R=false):=hZ9 (by rw[<-a.out];simp[FiS.Ar,H]);clear a;go_wp2_with fail;go_ret;exact⟨by(rw[HR.out])<;>rfl,hb⟩
    |false=>have HR:Hid (R=false):=hZ9 (by rw[<-a.out];simp[FiS.Ar]);clear a;go_wp2_with fail;go_ret;exact⟨by(rw[HR.out])<;>rfl,hb⟩
   have HR:Hid (R=false):=hZ9 (by rw[<-a.out];unfold FiS.Ar;rw[aG (by omega),aG V,aG (by omega),aG S,aG X]);clear a;have k0:(kd==0)=false:=by simpa using A4
   have k1:(kd==1)=false:=by simpa using A3
   have k2:(kd==2)=false:=by simpa using V
   have k3:(kd==3)=false:=by simpa using A8
   have k4:(kd==4)=false:=by simpa using X
   have k5:(kd==5)=false:=by simpa using A5
   have k6:(kd==6)=false:=by simpa using A6
   have k7:(kd==7)=false:=by simpa using S
   have k8:(kd==8)=false:=by simpa using A2
   go_wp2_with fail;go_ret;exact⟨by(rw[HR.out])<;>rfl,hb⟩
theorem Ags(n:Nat)(x:Fi)(v:Value)(w:World)(h:BF n w v x)(S:x.any.length<=1048576):Calls prog 105 #[v] w (AP (FiS.Ho x) w):=by
 unfold AP;obtain⟨kd,d,q,k,ls,y,ps⟩:=x;obtain⟨a5,c5,u,t,hv,H,J,I⟩:=FiV.parts h;have hv:v=.agg #[kd,d,q,k,ls,.slice a5 y.length c5,.slice u ps.length t]:=hv;subst hv;have H:Ah w (.slice a5 y.length c5) y:=H;have J:ps.length<=t:=J;have I:Bl n (λ_=>True) w (.slice u ps.length t) ps:=I;have S:y.length<=1048576:=S;have hN:FiS.Ho (.mk kd d q k ls y ps)=FiS.Ob kd d q k ls y ps.length:=rfl;rw[hN];clear hN;obtain⟨r,K⟩:∃m,y.length=m:=⟨_,rfl⟩
 obtain⟨l,M⟩:∃m,ps.length=m:=⟨_,rfl⟩
 have W:=hZ9 K;have C9:=hZ9 M;rw[K] at H;rw[M] at J I
 try rw[K]
 try rw[M]
 rw[FiS.YA];have A8:=Af w (.cells #[kd,d,q,k,ls,.slice a5 r c5,.slice u l t] 26);have Y:=Whole.made w 26 #[kd,d,q,k,ls,.slice a5 r c5,.slice u l t];have f:=λw=>Abr d w;have z:=λw=>Sv q w;have A:Hid (FiS.Gv k ls y=(!k.isEmpty||!ls.isEmpty||decide (0<r))):=hZ9 (by rw[<-W.out];rfl);have F:Hid (FiS.Kp d l=(decide (l=0)&&FiS.GF d)):=hZ9 rfl;obtain⟨P,hP⟩:∃b,FiS.Gv k ls y=b:=⟨_,rfl⟩
 obtain⟨L,hL⟩:∃b,FiS.Kp d l=b:=⟨_,rfl⟩
 obtain⟨AT,B5⟩:∃b,FiS.GF d=b:=⟨_,rfl⟩
 obtain⟨FT,A7⟩:∃b,FiS.BP q=b:=⟨_,rfl⟩
 obtain⟨AA,B⟩:∃b,y.all FiS.BP=b:=⟨_,rfl⟩
 rw[hP] at A⊢;rw[hL] at F⊢;rw[B5] at F f;rw[A7] at z⊢;rw[B];have B6:=hZ9 B;clear hP hL B5 A7 B;have G:∀s:iK,decide ((s.length:Int)<=200)=decide (s.length<=200):=λs=>bM.2 (by omega);obtain⟨F2,U⟩:∃b,decide (k.length<=200)=b:=⟨_,rfl⟩
 obtain⟨L2,A5⟩:∃b,decide (ls.length<=200)=b:=⟨_,rfl⟩
 have C5:decide ((k.length:Int)<=200)=F2:=(G k).trans U;have B8:decide ((ls.length:Int)<=200)=L2:=(G ls).trans A5;rw[U,A5];clear U A5 G;obtain⟨O,hO⟩:∃b,decide (l=1)=b:=⟨_,rfl⟩
 have C6:((l:Int)==1)=O:=by rw[<-hO];by_cases h:l=1<;>simp[h]<;>omega
 rw[hO];clear hO;obtain⟨q0,q1,q2,q3,q4,q5,q6⟩:=Y.seven;obtain⟨R,T⟩:∃b,FiS.Ar kd d.isEmpty q.isEmpty P L FT F2 L2 AA O=b:=⟨_,rfl⟩
 rw[T];have a:=hZ9 T;clear T h I K M J;have HW:=hZ9 Y;clear Y;go_enter func105,ntmps105;go_upto_region 1 with fail;go_cut [3] (λb wd=>b=.bool P/\wd=(w.alloc (.cells #[kd,d,q,k,ls,.slice a5 r c5,.slice u l t] 26)))
 case first=>
  clear f z C5 B8 C6;rcases FiS.emp k with rfl|⟨f1,f2,f3,f4⟩
  ·rcases FiS.emp ls with rfl|⟨l1,l2,l3,l4⟩
   ·have C:Hid (P=decide ((0:Int)<(r:Int))):=hZ9 (by rw[A.out];show (false||false||decide (0<r))=_;simp);clear A;go_wp2_with fail;go_meet;exact⟨by rw[C.out];first|rfl|simp,rfl⟩
   ·have C:Hid (P=true):=hZ9 (by rw[A.out,l1];simp);clear A;go_wp2_with fail;go_meet;exact⟨by rw[C.out],rfl⟩
  ·have C:Hid (P=true):=hZ9 (by rw[A.out,f1];simp);clear A;go_wp2_with fail;go_meet;exact⟨by rw[C.out],rfl⟩
 case rest=>
  obtain⟨rfl,rfl⟩:=hcut;have B0:=A8;clear A A8;have hb:=B0;clear B0;by_cases B2:kd=0
  ·subst B2;rcases FiS.emp d with rfl|⟨x1,x2,x3,x4⟩
   ·rcases FiS.emp q with rfl|⟨N,y2,y3,y4⟩
    ·cases P
     ·have HR:Hid (R=true):=hZ9 (by rw[<-a.out];simp[FiS.Ar]);clear a;go_wp2_with fail;go_ret;exact⟨by(rw[HR.out])<;>rfl,hb⟩
     ·have HR:Hid (R=false):=hZ9 (by rw[<-a.out];simp[FiS.Ar]);clear a;go_wp2_with fail;go_ret;exact⟨by(rw[HR.out])<;>rfl,hb⟩
    ·have HR:Hid (R=false):=hZ9 (by rw[<-a.out];simp[FiS.Ar,N]);clear a;go_wp2_with fail;go_ret;exact⟨by(rw[HR.out])<;>rfl,hb⟩
   ·have HR:Hid (R=false):=hZ9 (by rw[<-a.out];simp[FiS.Ar,x1]);clear a;go_wp2_with fail;go_ret;exact⟨by(rw[HR.out])<;>rfl,hb⟩
  by_cases B1:kd=1
  ·subst B1;rcases FiS.emp d with rfl|⟨x1,x2,x3,x4⟩
   ·rcases FiS.emp q with rfl|⟨N,y2,y3,y4⟩
    ·cases P
     ·have HR:Hid (R=true):=hZ9 (by rw[<-a.out];simp[FiS.Ar]);clear a;go_wp2_with fail;go_ret;exact⟨by(rw[HR.out])<;>rfl,hb⟩
     ·have HR:Hid (R=false):=hZ9 (by rw[<-a.out];simp[FiS.Ar]);clear a;go_wp2_with fail;go_ret;exact⟨by(rw[HR.out])<;>rfl,hb⟩
    ·have HR:Hid (R=false):=hZ9 (by rw[<-a.out];simp[FiS.Ar,N]);clear a;go_wp2_with fail;go_ret;exact⟨by(rw[HR.out])<;>rfl,hb⟩
   ·have HR:Hid (R=false):=hZ9 (by rw[<-a.out];simp[FiS.Ar,x1]);clear a;go_wp2_with fail;go_ret;exact⟨by(rw[HR.out])<;>rfl,hb⟩
  by_cases A0:kd=2
  ·subst A0;rcases FiS.emp d with rfl|⟨x1,x2,x3,x4⟩
   ·rcases FiS.emp q with rfl|⟨N,y2,y3,y4⟩
    ·cases P
     ·have HR:Hid (R=O):=hZ9 (by rw[<-a.out];simp[FiS.Ar]);clear a;go_wp2_with fail;go_ret;exact⟨by(rw[HR.out])<;>rfl,hb⟩
     ·have HR:Hid (R=false):=hZ9 (by rw[<-a.out];simp[FiS.Ar]);clear a;go_wp2_with fail;go_ret;exact⟨by(rw[HR.out])<;>rfl,hb⟩
    ·have HR:Hid (R=false):=hZ9 (by rw[<-a.out];simp[FiS.Ar,N]);clear a;go_wp2_with fail;go_ret;exact⟨by(rw[HR.out])<;>rfl,hb⟩
   ·have HR:Hid (R=false):=hZ9 (by rw[<-a.out];simp[FiS.Ar,x1]);clear a;go_wp2_with fail;go_ret;exact⟨by(rw[HR.out])<;>rfl,hb⟩
  have A6:((l:Int)==0)=decide (l=0):=by by_cases h:l=0<;>simp[h]<;>omega
  obtain⟨Z,hZ⟩:∃b,decide (l=0)=b:=⟨_,rfl⟩
  rw[hZ] at A6 F;have HL:=F.out;subst HL;clear hZ F;by_cases B7:kd=3
  ·subst B7;have hc:=z (w.alloc (.cells #[.int .i64 3,d,q,k,ls,.slice a5 r c5,.slice u l t] 26));have c:=f (w.alloc (.cells #[.int .i64 3,d,q,k,ls,.slice a5 r c5,.slice u l t] 26));cases AT with
   |false=>have HR:Hid (R=false):=hZ9 (by rw[<-a.out];simp[FiS.Ar]);clear a;go_wp2_with fail;refine c.mono ?_;rintro e w2 ⟨rfl,rfl⟩;go_wp2_with fail;go_ret;exact⟨by(rw[HR.out])<;>rfl,hb⟩
   |true=>
    cases FT with
    |false=>have HR:Hid (R=false):=hZ9 (by rw[<-a.out];simp[FiS.Ar]);clear a;go_wp2_with fail;refine c.mono ?_;rintro e w2 ⟨rfl,rfl⟩;go_wp2_with fail;refine hc.mono ?_;rintro e w2 ⟨rfl,rfl⟩;go_wp2_with fail;go_ret;exact⟨by(rw[HR.out])<;>rfl,hb⟩
    |true=>
     cases P with
     |true=>have HR:Hid (R=false):=hZ9 (by rw[<-a.out];simp[FiS.Ar]);clear a;go_wp2_with fail;refine c.mono ?_;rintro e w2 ⟨rfl,rfl⟩;go_wp2_with fail;refine hc.mono ?_;rintro e w2 ⟨rfl,rfl⟩;go_wp2_with fail;go_ret;exact⟨by(rw[HR.out])<;>rfl,hb⟩
     |false=>have HR:Hid (R=Z):=hZ9 (by rw[<-a.out];simp[FiS.Ar]);clear a;go_wp2_with fail;refine c.mono ?_;rintro e w2 ⟨rfl,rfl⟩;go_wp2_with fail;refine hc.mono ?_;rintro e w2 ⟨rfl,rfl⟩;go_wp2_with fail;go_ret;exact⟨by(rw[HR.out])<;>rfl,hb⟩
  by_cases B3:kd=5
  ·subst B3;have hc:=z (w.alloc (.cells #[.int .i64 5,d,q,k,ls,.slice a5 r c5,.slice u l t] 26));have c:=f (w.alloc (.cells #[.int .i64 5,d,q,k,ls,.slice a5 r c5,.slice u l t] 26));cases AT with
   |false=>have HR:Hid (R=false):=hZ9 (by rw[<-a.out];simp[FiS.Ar]);clear a;go_wp2_with fail;refine c.mono ?_;rintro e w2 ⟨rfl,rfl⟩;go_wp2_with fail;go_ret;exact⟨by(rw[HR.out])<;>rfl,hb⟩
   |true=>
    cases FT with
    |false=>have HR:Hid (R=false):=hZ9 (by rw[<-a.out];simp[FiS.Ar]);clear a;go_wp2_with fail;refine c.mono ?_;rintro e w2 ⟨rfl,rfl⟩;go_wp2_with fail;refine hc.mono ?_;rintro e w2 ⟨rfl,rfl⟩;go_wp2_with fail;go_ret;exact⟨by(rw[HR.out])<;>rfl,hb⟩
    |true=>
     cases P with
     |true=>have HR:Hid (R=false):=hZ9 (by rw[<-a.out];simp[FiS.Ar]);clear a;go_wp2_with fail;refine c.mono ?_;rintro e w2 ⟨rfl,rfl⟩;go_wp2_with fail;refine hc.mono ?_;rintro e w2 ⟨rfl,rfl⟩;go_wp2_with fail;go_ret;exact⟨by(rw[HR.out])<;>rfl,hb⟩
     |false=>have HR:Hid (R=Z):=hZ9 (by rw[<-a.out];simp[FiS.Ar]);clear a;go_wp2_with fail;refine c.mono ?_;rintro e w2 ⟨rfl,rfl⟩;go_wp2_with fail;refine hc.mono ?_;rintro e w2 ⟨rfl,rfl⟩;go_wp2_with fail;go_ret;exact⟨by(rw[HR.out])<;>rfl,hb⟩
  by_cases B4:kd=6
  ·subst B4;have hc:=z (w.alloc (.cells #[.int .i64 6,d,q,k,ls,.slice a5 r c5,.slice u l t] 26));have c:=f (w.alloc (.cells #[.int .i64 6,d,q,k,ls,.slice a5 r c5,.slice u l t] 26));cases AT with
   |false=>have HR:Hid (R=false):=hZ9 (by rw[<-a.out];simp[FiS.Ar]);clear a;go_wp2_with fail;refine c.mono ?_;rintro e w2 ⟨rfl,rfl⟩;go_wp2_with fail;go_ret;exact⟨by(rw[HR.out])<;>rfl,hb⟩
   |true=>
    cases FT with
    |false=>have HR:Hid (R=false):=hZ9 (by rw[<-a.out];simp[FiS.Ar]);clear a;go_wp2_with fail;refine c.mono ?_;rintro e w2 ⟨rfl,rfl⟩;go_wp2_with fail;refine hc.mono ?_;rintro e w2 ⟨rfl,rfl⟩;go_wp2_with fail;go_ret;exact⟨by(rw[HR.out])<;>rfl,hb⟩
    |true=>
     cases P with
     |true=>have HR:Hid (R=false):=hZ9 (by rw[<-a.out];simp[FiS.Ar]);clear a;go_wp2_with fail;refine c.mono ?_;rintro e w2 ⟨rfl,rfl⟩;go_wp2_with fail;refine hc.mono ?_;rintro e w2 ⟨rfl,rfl⟩;go_wp2_with fail;go_ret;exact⟨by(rw[HR.out])<;>rfl,hb⟩
     |false=>have HR:Hid (R=Z):=hZ9 (by rw[<-a.out];simp[FiS.Ar]);clear a;go_wp2_with fail;refine c.mono ?_;rintro e w2 ⟨rfl,rfl⟩;go_wp2_with fail;refine hc.mono ?_;rintro e w2 ⟨rfl,rfl⟩;go_wp2_with fail;go_ret;exact⟨by(rw[HR.out])<;>rfl,hb⟩
  by_cases A9:kd=8
  ·subst A9;have hc:=z (w.alloc (.cells #[.int .i64 8,d,q,k,ls,.slice a5 r c5,.slice u l t] 26));have c:=f (w.alloc (.cells #[.int .i64 8,d,q,k,ls,.slice a5 r c5,.slice u l t] 26));cases AT with
   |false=>have HR:Hid (R=false):=hZ9 (by rw[<-a.out];simp[FiS.Ar]);clear a;go_wp2_with fail;refine c.mono ?_;rintro e w2 ⟨rfl,rfl⟩;go_wp2_with fail;go_ret;exact⟨by(rw[HR.out])<;>rfl,hb⟩
   |true=>
    cases FT with
    |false=>have HR:Hid (R=false):=hZ9 (by rw[<-a.out];simp[FiS.Ar]);clear a;go_wp2_with fail;refine c.mono ?_;rintro e w2 ⟨rfl,rfl⟩;go_wp2_with fail;refine hc.mono ?_;rintro e w2 ⟨rfl,rfl⟩;go_wp2_with fail;go_ret;exact⟨by(rw[HR.out])<;>rfl,hb⟩
    |true=>
     cases P with
     |true=>have HR:Hid (R=false):=hZ9 (by rw[<-a.out];simp[FiS.Ar]);clear a;go_wp2_with fail;refine c.mono ?_;rintro e w2 ⟨rfl,rfl⟩;go_wp2_with fail;refine hc.mono ?_;rintro e w2 ⟨rfl,rfl⟩;go_wp2_with fail;go_ret;exact⟨by(rw[HR.out])<;>rfl,hb⟩
     |false=>have HR:Hid (R=Z):=hZ9 (by rw[<-a.out];simp[FiS.Ar]);clear a;go_wp2_with fail;refine c.mono ?_;rintro e w2 ⟨rfl,rfl⟩;go_wp2_with fail;refine hc.mono ?_;rintro e w2 ⟨rfl,rfl⟩;go_wp2_with fail;go_ret;exact⟨by(rw[HR.out])<;>rfl,hb⟩
  by_cases X:kd=7
  ·subst X;cases AT with
   |false=>have c:=f (w.alloc (.cells #[.int .i64 7,d,q,k,ls,.slice a5 r c5,.slice u l t] 26));have HR:Hid (R=false):=hZ9 (by rw[<-a.out];simp[FiS.Ar]);clear a;go_wp2_with fail;refine c.mono ?_;rintro e w2 ⟨rfl,rfl⟩;go_wp2_with fail;go_ret;exact⟨by(rw[HR.out])<;>rfl,hb⟩
   |true=>
    rcases FiS.emp q with rfl|⟨N,y2,y3,y4⟩
    ·cases P with
     |true=>have c:=f (w.alloc (.cells #[.int .i64 7,d,.string ⟨([]:iK).toArray⟩,k,ls,.slice a5 r c5,.slice u l t] 26));have HR:Hid (R=false):=hZ9 (by rw[<-a.out];simp[FiS.Ar]);clear a;go_wp2_with fail;refine c.mono ?_;rintro e w2 ⟨rfl,rfl⟩;go_wp2_with fail;go_ret;exact⟨by(rw[HR.out])<;>rfl,hb⟩
     |false=>have c:=f (w.alloc (.cells #[.int .i64 7,d,.string ⟨([]:iK).toArray⟩,k,ls,.slice a5 r c5,.slice u l t] 26));have HR:Hid (R=Z):=hZ9 (by rw[<-a.out];simp[FiS.Ar]);clear a;go_wp2_with fail;refine c.mono ?_;rintro e w2 ⟨rfl,rfl⟩;go_wp2_with fail;go_ret;exact⟨by(rw[HR.out])<;>rfl,hb⟩
    ·have c:=f (w.alloc (.cells #[.int .i64 7,d,q,k,ls,.slice a5 r c5,.slice u l t] 26));have HR:Hid (R=false):=hZ9 (by rw[<-a.out];simp[FiS.Ar,N]);clear a;go_wp2_with fail;refine c.mono ?_;rintro e w2 ⟨rfl,rfl⟩;go_wp2_with fail;go_ret;exact⟨by(rw[HR.out])<;>rfl,hb⟩
  by_cases A4:kd=4
  ·subst A4;have V:=hZ9 (λj (hj:j<y.length)=>FiS.Ad8 (p:=FiS.BP) hj);have A3:=hZ9 (λj (hj:j<y.length) (h:FiS.BP y[j]=false)=>FiS.all_not (p:=FiS.BP) hj h);obtain⟨a',c',e,C1,A2⟩:=Ad.at (H.strsP (λ_=>True) (λ_ _=>trivial));injection e with e1 e2 e3;rw[<-e1] at A2;have A1:=hZ9 A2;have B9:=λs w=>Sv s w;clear A2 H e1 e2 e3 C1;go_wp2_with fail;go_loopw [104] (λi wr=>∃j:Nat,j<=r/\i=.int .i64 j/\Hid ((y.take j).all FiS.BP=true)/\(w.alloc (.cells #[.int .i64 4,d,q,k,ls,.slice a5 r c5,.slice u l t] 26))=wr) (λi _=>r-(intOf i).toNat)
   case atStart=>exact⟨0,aR _,rfl,hZ9 rfl,rfl⟩
   case round=>
    obtain⟨j,hj,rfl,HA,rfl⟩:=hrel;by_cases C3:j<r
    ·have E:j<y.length:=by rw[W.out];exact C3
     have HT:=hZ9 (V.out j E);have HN:=hZ9 (A3.out j E);obtain⟨g,o,C0,hg,_,hra⟩:=A1.out j E;have C2:((w.alloc (.cells #[.int .i64 4,d,q,k,ls,.slice a5 r c5,.slice u l t] 26))).cell? ⟨g,o+j,none⟩=some (Ac y[j]):=by have:w.cell? ⟨g,o+j*1,none⟩=some (Ac y[j]):=hra;rw[bp] at this;exact Ab this hb
     clear hra;clear V A3 A1;generalize y[j]=s at*;unfold Ac at C2;have Q:=B9 s (w.alloc (.cells #[.int .i64 4,d,q,k,ls,.slice a5 r c5,.slice u l t] 26));subst C0;have C8:(0:Int)<=(j:Int):=by omega
     have C7:(j:Int)<(r:Int):=by omega
     cases hq:FiS.BP s with
     |true=>
      have C4:Hid ((y.take (j+1)).all FiS.BP=true):=hZ9 (by rw[HT.out,HA.out,hq];rfl);rw[hq] at Q;clear hq HT HN HA;go_wp2_with fail;refine Q.mono ?_;rintro e w2 ⟨rfl,rfl⟩;go_wp2_with fail;go_roundw
      case rel=>exact⟨j+1,by omega,by go_num,C4,by first|rfl|trivial⟩
      case measure=>simp[intOf];omega
     |false=>have HR:Hid (R=false):=hZ9 (by rw[<-a.out,<-B6.out,HN.out hq];simp[FiS.Ar]);rw[hq] at Q;clear hq HT HN HA a;go_wp2_with fail;refine Q.mono ?_;rintro e w2 ⟨rfl,rfl⟩;go_wp2_with fail;go_ret;exact⟨by(rw[HR.out])<;>rfl,hb⟩
    ·have hA:y.all FiS.BP=true:=by have:=HA.out;rwa [af (by rw[W.out];omega)] at this
     have B:AA=true:=by rw[<-B6.out];exact hA
     subst B;have c:=f (w.alloc (.cells #[.int .i64 4,d,q,k,ls,.slice a5 r c5,.slice u l t] 26));clear HA hA V A3 A1;cases AT with
     |false=>have HR:Hid (R=false):=hZ9 (by rw[<-a.out];simp[FiS.Ar]);clear a;go_wp2_with fail;refine c.mono ?_;rintro e w2 ⟨rfl,rfl⟩;go_wp2_with fail;go_ret;exact⟨by(rw[HR.out])<;>rfl,hb⟩
     |true=>
      rcases FiS.emp q with rfl|⟨N,y2,y3,y4⟩
      ·cases P with
       |false=>have HR:Hid (R=false):=hZ9 (by rw[<-a.out];simp[FiS.Ar]);clear a;go_wp2_with fail;refine c.mono ?_;rintro e w2 ⟨rfl,rfl⟩;go_wp2_with fail;go_ret;exact⟨by(rw[HR.out])<;>rfl,hb⟩
       |true=>
        cases Z with
        |false=>have HR:Hid (R=false):=hZ9 (by rw[<-a.out];simp[FiS.Ar]);clear a;go_wp2_with fail;refine c.mono ?_;rintro e w2 ⟨rfl,rfl⟩;go_wp2_with fail;go_ret;exact⟨by(rw[HR.out])<;>rfl,hb⟩
        |true=>
         cases F2 with
         |false=>have HR:Hid (R=false):=hZ9 (by rw[<-a.out];simp[FiS.Ar]);clear a;go_wp2_with fail;refine c.mono ?_;rintro e w2 ⟨rfl,rfl⟩;go_wp2_with fail;go_ret;exact⟨by(rw[HR.out])<;>rfl,hb⟩
         |true=>have HR:Hid (R=L2):=hZ9 (by rw[<-a.out];simp[FiS.Ar]);clear a;go_wp2_with fail;refine c.mono ?_;rintro e w2 ⟨rfl,rfl⟩;go_wp2_with fail;go_ret;exact⟨by(rw[HR.out])<;>rfl,hb⟩
      ·have HR:Hid (R=false):=hZ9 (by rw[<-a.out];simp[FiS.Ar,N]);clear a;go_wp2_with fail;refine c.mono ?_;rintro e w2 ⟨rfl,rfl⟩;go_wp2_with fail;go_ret;exact⟨by(rw[HR.out])<;>rfl,hb⟩
  have HR:Hid (R=false):=hZ9 (by rw[<-a.out];unfold FiS.Ar;rw[aG (by omega),aG A0,aG (by omega),aG X,aG A4]);clear a;have k0:(kd==0)=false:=by simpa using B2
  have k1:(kd==1)=false:=by simpa using B1
  have k2:(kd==2)=false:=by simpa using A0
  have k3:(kd==3)=false:=by simpa using B7
  have k4:(kd==4)=false:=by simpa using A4
  have k5:(kd==5)=false:=by simpa using B3
  have k6:(kd==6)=false:=by simpa using B4
  have k7:(kd==7)=false:=by simpa using X
  have k8:(kd==8)=false:=by simpa using A9
  go_wp2_with fail;go_ret;exact⟨by(rw[HR.out])<;>rfl,hb⟩
