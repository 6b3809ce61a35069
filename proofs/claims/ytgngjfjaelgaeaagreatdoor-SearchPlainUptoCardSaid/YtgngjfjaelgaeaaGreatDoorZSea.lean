/- The walks of slices.stableCmpFunc and SortStableFunc at entries, and of tree.Sort: the row is sorted by names. Conditions: as stated. -/
import Derived.Test.YtgngjfjaelgaeaaGreatDoorZSoc
import Derived.Test.YtgngjfjaelgaeaaGreatDoorZSel
import Derived.Test.YtgngjfjaelgaeaaGreatDoorZFiv
set_option maxRecDepth 1000000
set_option maxHeartbeats 8000000
namespace Go.Proofs.YtgngjfjaelgaeaaGreatDoor
open Go.Proofs.Tryz
variable {R zs:List EnS.En} {xs:List SeS.Pl} {B C:Nat} {T:TypeId} {v:Value} {w w':World}
section
open Go.RowKit
attribute [local go_sem ↓] Go.wp_at_zero Go.wp_at_succ
def Blk(f:Nat->Cel)(s n a:Nat):Prop:=∀q,a<=q*s->SoS.Srt ltC f (q*s) (min (q*s+s) n)
theorem WX{h h2:Nat->Cel}{t n a q:Nat}(c:a=q*t)(hd:∀p,p<q->SoS.Srt ltC h (p*t) (p*t+t))(b:∀k,k<a->h2 k=h k)(d:SoS.Srt ltC h2 a n)(e:n<=a+t):Blk h2 t n 0:=λp _=>by
 rcases fP p q with h3|h3|h3
 ·have h6:p*t+t<=q*t:=by
   have:=bu t (show p+1<=q by omega);rw[dJ,eV] at this;exact this
  exact((hd p h3).congr (g:=h2) (λk _ hk=>b k (by omega))).sub (aA _) (Nat.min_le_left _ _)
 ·subst h3;rw[<-c];exact d.sub (aA _) (Nat.min_le_right _ _)
 ·refine λi j f i2 i3=>?_;have h6:q*t+t<=p*t:=by
   have:=bu t (show q+1<=p by omega);rw[dJ,eV] at this;exact this
  have:=Nat.min_le_right (p*t+t) n;omega
theorem Ae4(w0:World)(g n sz cap:Nat)(hsz:n<1000000000)(HE:∀w,w0.grownBy w (some g)->Env w)(f:Nat->Cel)(y:∀k,k<n->OkC (f k))(w:World)(Q:Ce w0 g n sz f w):
  Calls prog 129 #[.slice (some ⟨g,0,none⟩) n cap,n,Ff] w (FH w0 g n sz (λf'=>SoS.Sw 0 n f f'/\SoS.Srt ltC f' 0 n)):=by
 have O:=λa b h1 h2 f y w Q=>Adp w0 g n sz cap hsz HE a b h1 h2 f y w Q;have K:=λa m b h1 h2 h3 f y A9 A4 w Q=>AaQ w0 g n sz cap hsz HE (b-a) a m b (aA _) h1 h2 h3 f y A9 A4 w Q;unfold FH Ff at*;have L:=hZ9 O;have N:=hZ9 K;have HW:=hZ9 Q;have J:=hZ9 y;clear O K Q y HE;go_enter func129,ntmps129
 go_wp2
 go_loopg [7,8] n (λg1 Z vb wr=>∃(q:Nat) (a b:Nat) (h:Nat->Cel),Z=.int .i64 a/\vb=.int .i64 b/\b=a+20/\a<=n/\n-a<=g1/\Hid (a=q*20)/\Hid (SoS.Sw 0 n f h)/\Hid (∀p,p<q->SoS.Srt ltC h (p*20) (p*20+20))/\Hid (Ce w0 g n sz h wr))
 case atStart=>exact⟨0,0,20,f,rfl,rfl,rfl,aR _,by omega,hZ9 (by omega),hZ9 .refl,hZ9 (λp hp=>by omega),HW⟩
 case round=>
  obtain⟨q,a,b,h,rfl,rfl,hb,A3,A6,z,i,l,H⟩:=hrel;have B4:a<=b:=by omega
  have B6:b<=a+20:=by omega
  have B9:a<b:=by omega
  have Y:Hid (b=a+20):=hZ9 hb;clear hb HW;by_cases X:b<=n
  ·have hz:(b:Int)<=(n:Int):=by omega
   obtain⟨A,A1⟩:∃A:Nat,(b:Int)+20=(A:Int):=⟨b+20,by omega⟩
   have A7:IntKind.i64.wrap (A:Int)=(A:Int):=by rw[IntKind.wrap_i64];omega
   go_wp2_with fail;refine(L.out a b (by omega) (by omega) h (i.out.all (aA _) J.out) _ H.out).mono ?_;rintro e w1 ⟨rfl,h2,⟨c,d⟩,r⟩;have o:Hid (SoS.Sw 0 n f h2):=hZ9 (i.out.trans (c.mono (aR _) X));have j:Hid (∀p,p<q+1->SoS.Srt ltC h2 (p*20) (p*20+20)):=hZ9 (λp hp=>by
    rcases bV (bX hp) with h3|rfl
    ·exact(l.out p h3).congr (λk _ hk=>c.out k (.inl (by have:=z.out;omega)))
    ·rw[<-z.out,<-Y.out];exact d)
   have I:=hZ9 r;have G:Hid (b=(q+1)*20):=hZ9 (by rw[Y.out,z.out];omega);clear c d r i l H
   go_wp2
   go_roundg (n-b)
   case measure=>omega
   case rel=>exact⟨q+1,b,A,h2,rfl,rfl,by omega,X,aA _,G,o,j,I⟩
  ·have hz:¬(b:Int)<=(n:Int):=by omega
   go_wp2_with fail;refine(L.out a n (by omega) (by omega) h (i.out.all (aA _) J.out) _ H.out).mono ?_;rintro e w1 ⟨rfl,h2,⟨c,d⟩,r⟩;have o:Hid (SoS.Sw 0 n f h2):=hZ9 (i.out.trans (c.mono (aR _) (aA _)));have j:Hid (Blk h2 20 n 0):=hZ9 (WX (h:=h) (a:=a) (q:=q) z.out (λp hp=>l.out p hp) (λk hk=>c.out k (.inl hk)) d (by omega));have I:=hZ9 r;clear c d r i l H z Y
   go_wp2
   go_loopg [6,7,8,9] n (λg1 vs Z vb vm wr=>∃(s:Nat) (h:Nat->Cel),vs=.int .i64 s/\1<=s/\s<=2000000000/\n-s<=g1/\Hid (SoS.Sw 0 n f h)/\Hid (Blk h s n 0)/\Hid (Ce w0 g n sz h wr))
   case atStart=>exact⟨20,h2,rfl,by omega,by omega,by omega,o,j,I⟩
   case round=>
    obtain⟨s,h,rfl,r,B5,B2,i,l,W⟩:=hrel;clear o j I;by_cases B0:s<n
    ·have A8:(s:Int)<(n:Int):=by omega
     obtain⟨t,ht⟩:∃t:Nat,(2:Int)*(s:Int)=(t:Int):=⟨2*s,by omega⟩
     have B7:(s:Int)*2=(t:Int):=by omega
     have wt:IntKind.i64.wrap (t:Int)=(t:Int):=by rw[IntKind.wrap_i64];omega
     have HT:Hid (t=s+s):=hZ9 (by omega)
     go_wp2
     go_loopg [7,8] n (λg1 Z vb wr=>∃(q a b:Nat) (h:Nat->Cel),Z=.int .i64 a/\vb=.int .i64 b/\b<=a+t/\a+t<=b/\a<=n/\n-a<=g1/\Hid (a=q*t)/\Hid (SoS.Sw 0 n f h)/\Hid (∀p,p<q->SoS.Srt ltC h (p*t) (p*t+t))/\Hid (Blk h s n a)/\Hid (Ce w0 g n sz h wr))
     case atStart=>exact⟨0,0,t,h,rfl,rfl,by omega,by omega,aR _,by omega,hZ9 (by omega),i,hZ9 (λp hp=>by omega),l,W⟩
     case round=>
      obtain⟨q,a,b,h,rfl,rfl,B3,B8,A3,A6,z,i,u,l,H⟩:=hrel;obtain⟨m,hm⟩:∃m:Nat,(a:Int)+(s:Int)=(m:Int):=⟨a+s,by omega⟩
      have wm:IntKind.i64.wrap (m:Int)=(m:Int):=by rw[IntKind.wrap_i64];omega
      have HM:Hid (m=a+s):=hZ9 (by omega);have Y:Hid (b=m+s):=hZ9 (by have:=HT.out;omega);have G:Hid (a=(q+q)*s):=hZ9 (by rw[z.out,HT.out,Nat.mul_add,dJ]);have U:Hid (m=(q+q+1)*s):=hZ9 (by rw[HM.out,G.out,dJ (q+q) 1,eV]);have x:Hid (SoS.Srt ltC h a (min m n)):=hZ9 (by
       have h5:=l.out (q+q) (by rw[<-G.out];exact aA _);rw[<-G.out,<-HM.out] at h5;exact h5)
      have F:Hid (SoS.Srt ltC h m (min b n)):=hZ9 (by
       have h5:=l.out (q+q+1) (by rw[<-U.out];omega);rw[<-U.out,<-Y.out] at h5;exact h5)
      by_cases M:b<=n
      ·have A5:(b:Int)<=(n:Int):=by omega
       obtain⟨A,A1⟩:∃A:Nat,(b:Int)+(t:Int)=(A:Int):=⟨b+t,by omega⟩
       have A7:IntKind.i64.wrap (A:Int)=(A:Int):=by rw[IntKind.wrap_i64];omega
       go_wp2_with fail;refine(N.out a m b (by omega) (by omega) (by omega) h (i.out.all (aA _) J.out) (x.out.sub (aA _) (fA.2 ⟨aA _,by omega⟩)) (F.out.sub (aA _) (fA.2 ⟨aA _,by omega⟩)) _ H.out).mono ?_;rintro e w1 ⟨rfl,h2,⟨c,d⟩,E⟩;have o:Hid (SoS.Sw 0 n f h2):=hZ9 (i.out.trans (c.mono (aR _) M));have S:Hid (∀p,p<q+1->SoS.Srt ltC h2 (p*t) (p*t+t)):=hZ9 (λp hp=>by
        rcases bV (bX hp) with h3|rfl
        ·refine(u.out p h3).congr (λk _ hk=>c.out k (.inl ?_));have h6:p*t+t<=q*t:=by
          have:=bu t (show p+1<=q by omega);rw[dJ,eV] at this;exact this
         have:=z.out;omega
        ·rw[<-z.out];exact d.sub (aA _) (by omega))
       have j:Hid (Blk h2 s n b):=hZ9 (λp hp=>(l.out p (by omega)).congr (λk hk _=>c.out k (.inr (by omega))));have P:=hZ9 E;have A2:Hid (b=(q+1)*t):=hZ9 (by rw[dJ,eV,<-z.out];omega);clear c d E x F l u i H
       go_wp2
       go_roundg (n-b)
       case measure=>omega
       case rel=>exact⟨q+1,b,A,h2,rfl,rfl,by omega,by omega,M,aA _,A2,o,S,j,P⟩
      ·have A5:¬(b:Int)<=(n:Int):=by omega
       by_cases B1:m<n
       ·have A0:(m:Int)<(n:Int):=by omega
        go_wp2_with fail;refine(N.out a m n (by omega) (by omega) (by omega) h (i.out.all (aA _) J.out) (x.out.sub (aA _) (fA.2 ⟨aA _,by omega⟩)) (F.out.sub (aA _) (fA.2 ⟨by omega,aA _⟩)) _ H.out).mono ?_;rintro e w1 ⟨rfl,h2,⟨c,d⟩,E⟩;have o:Hid (SoS.Sw 0 n f h2):=hZ9 (i.out.trans (c.mono (aR _) (aA _)));have j:Hid (Blk h2 t n 0):=hZ9 (WX (h:=h) (a:=a) (q:=q) z.out (λp hp=>u.out p hp) (λk hk=>c.out k (.inl hk)) d (by omega));have P:=hZ9 E;clear c d E x F l u i H
        go_wp2
        go_roundg (n-t)
        case measure=>omega
        case rel=>exact⟨t,h2,by go_num,by omega,by omega,aA _,o,j,P⟩
       ·have A0:¬(m:Int)<(n:Int):=by omega
        have j:Hid (Blk h t n 0):=hZ9 (WX (h:=h) (a:=a) (q:=q) z.out (λp hp=>u.out p hp) (λk hk=>rfl) (x.out.sub (aA _) (fA.2 ⟨by omega,aA _⟩)) (by omega));clear x F l u
        go_wp2
        go_roundg (n-t)
        case measure=>omega
        case rel=>exact⟨t,h,by go_num,by omega,by omega,aA _,i,j,H⟩
    ·have A8:¬(s:Int)<(n:Int):=by omega
     have V:Hid (SoS.Srt ltC h 0 n):=hZ9 (by
      have h5:=l.out 0 (aR _);rw[cN,bv] at h5;exact h5.sub (aA _) (fA.2 ⟨by omega,aA _⟩))
     go_wp2
     go_end0
     exact⟨rfl,h,⟨i.out,V.out⟩,W.out⟩
theorem WY(w0:World)(g n sz cap:Nat)(hsz:n<1000000000)(h:∀w,w0.grownBy w (some g)->Env w)(f:Nat->Cel)(a:∀k,k<n->OkC (f k))(w:World)(d:Ce w0 g n sz f w):
  Calls prog 94 #[.slice (some ⟨g,0,none⟩) n cap,Ff] w (FH w0 g n sz (λc=>SoS.Sw 0 n f c/\SoS.Srt ltC c 0 n)):=by
 have b:=Ae4 w0 g n sz cap hsz h f a w d;unfold FH Ff at*;clear d a h;go_enter func94,ntmps94;go_wp2_with fail;refine b.mono ?_;rintro e w1 ⟨rfl,i⟩
 go_wp2
 go_end0
 exact⟨rfl,i⟩
theorem AaI(w0:World)(g n sz cap:Nat)(hsz:n<1000000000)(h:∀w,w0.grownBy w (some g)->Env w)(f:Nat->Cel)(a:∀k,k<n->OkC (f k))(w:World)(d:Ce w0 g n sz f w):
  Calls prog 60 #[.slice (some ⟨g,0,none⟩) n cap] w (FH w0 g n sz (λc=>SoS.Sw 0 n f c/\SoS.Srt ltC c 0 n)):=by
 have b:=WY w0 g n sz cap hsz h f a w d;unfold FH Ff at*;clear d a h;go_enter func60,ntmps60;go_wp2_with fail;refine b.mono ?_;rintro e w1 ⟨rfl,i⟩
 go_wp2
 go_end0
 exact⟨rfl,i⟩
end
section
open Go.RowKit
attribute [local go_sem ↓] Go.wp_at_zero Go.wp_at_succ
theorem AfS{α β:Type}{φ:β->α}{a b:Nat}{h:Nat->β}{d:Nat->α}(x:SoS.Sw a b (λk=>φ (h k)) d):∃c,SoS.Sw a b h c/\d=λk=>φ (c k):=by
 induction x with
 |refl=>exact⟨h,.refl,rfl⟩
 |swp _ h1 h2 h3 h4 ih=>
  obtain⟨c,e,rfl⟩:=ih;refine⟨_,.swp e h1 h2 h3 h4,?_⟩;funext k;unfold SoS.Dv;split
  ·rfl
  ·split<;>rfl
def NP(x:EnS.En×Value):Cel:=match x.2 with
 | .slice a m c=>(x.1.name,a,m,c)
 |_=>(x.1.name,none,0,0)
theorem IG(x:EnS.En×Value):(NP x).1=x.1.name:=by unfold NP;split<;>rfl
theorem WZ{x:EnS.En×Value}{a:Option Addr}{m c:Nat}(h:x.2=.slice a m c):AaO (NP x)=x.2:=by unfold NP AaO;rw[h]
theorem Ade{cur:Array Value}{ys:List EnS.En}{a:List Value}(hu:a.length=ys.length)(hc:∀k (hk:k<ys.length),cur[k*2]?=some (Ac (ys[k]'hk).name)/\cur[k*2+1]?=a[k]?):cur.toList.take (ys.length*2)=flatK enK ys a:=by
 refine List.ext_getElem? λi=>?_;by_cases c:i<ys.length*2
 ·rw[fx c,gQ];have hk:i / 2<ys.length:=by omega
  have b:i / 2<a.length:=by omega
  obtain⟨d,f1⟩:=GI enK ys a (i / 2) _ _ (aK hk) (aK b);obtain⟨c0,c1⟩:=hc (i / 2) hk;rcases eB i with h|h
  ·rw[show i=i / 2*2 by omega,d];exact c0
  ·rw[show i=i / 2*2+1 by omega,f1,c1,aK b]
 ·rw[dE (by rw[ar];omega),dE (by rw[Iw enK ys a hu];omega)]
theorem Adf{α:Type}{xs:List α}{f:Nat->α}(h:∀k (hk:k<xs.length),f k=xs[k]'hk):(List.range xs.length).map f=xs:=by refine fq (by simp) λi h1 h2=>?_;rw[fg,eN];exact h i h2
def Zk(C B:Nat)(v:Value)(xs:List EnS.En)(w:World)(e:Ending)(w':World):Prop:=e=.returned (.tuple #[])/\∃ys,Ao enK 52 [9,56] C w' B v ys/\ys.Perm xs/\ys.Pairwise (λa b=>¬DnS.Aq b.name a.name<0)/\Below B w w'
theorem AaJ{g cap:Nat}{cur:Array Value}{xs:List EnS.En}{Q:List Value}(hC:C<=B)(U:B<=g)(t:xs.length<=cap)(K:cap<=maxLen)(P:w.heap[g]?=some (.cells cur 52 (0,0)))
  (F:∀(i:Nat) (u:Value) (x:EnS.En),Q[i]?=some u->xs[i]?=some x->Aw (okT [9,56] C w) w u x.attrs){h:Nat->EnS.En×Value}(hx:∀k (hk:k<xs.length),(h k).1=xs[k]'hk)(r:∀k,k<xs.length->Q[k]?=some (h k).2)
  {I:Nat->Cel}(hp:SoS.Sw 0 xs.length (λk=>NP (h k)) I/\SoS.Srt ltC I 0 xs.length)(s:Ce w g xs.length (cap*2) I w'):
  ∃ys,Ao enK 52 [9,56] C w' B (.slice (some ⟨g,0,none⟩) xs.length cap) ys/\ys.Perm xs/\ys.Pairwise (λa b=>¬DnS.Aq b.name a.name<0)/\Below B w w':=by
 obtain⟨M,N⟩:=hp;obtain⟨H,n,rfl⟩:=AfS M;obtain⟨A,c1,c2,c3,c4⟩:=s;have hlen:((List.range xs.length).map (λk=>(H k).1)).length=xs.length:=by simp
 have o:((List.range xs.length).map (λk=>(H k).1)).Perm xs:=by have h1:=(n.perm (aA _)).map Prod.fst;rw[ck,ck] at h1;have h2:(List.range xs.length).map (Prod.fst∘h)=xs:=Adf (λk hk=>hx k hk);rw[h2] at h1;exact h1
 have L:∀k,k<xs.length->∃a m c,(h k).2=.slice a m c:=λk hk=>by obtain⟨a,c,e,_⟩:=Ad.form (F k _ _ (r k hk) (aK hk));exact⟨a,_,c,e⟩
 have y:=n.all (aA _) (p:=λz=>∃a m c,z.2=.slice a m c) L;have W:g<w.heap.size:=(ah.1 P).1;have E:=n.all (aA _) (p:=λz=>Aw (okT [9,56] C w) w z.2 z.1.attrs) (λk hk=>F k _ _ (r k hk) (by rw[aK hk,hx k hk]));have f:∀{u:Value} {q:List EnS.At},Aw (okT [9,56] C w) w u q->Aw (okT [9,56] C w') w' u q:=λh=>by
  have hb:∀k,k<w.heap.size->okT [9,56] C w k->w'.heap[k]?=w.heap[k]?:=λk hk d=>c4.block k hk (λe=>by
   have e:=aU e;subst e;rcases d with d|⟨cs,T,fz,hc,V⟩
   ·omega
   ·rw[P] at hc;cases hc
    revert V
    decide)
  exact h.keep c4.size hb (λk hk d=>d.same (hb k hk d))
 refine⟨(List.range xs.length).map (λk=>(H k).1),⟨(List.range xs.length).map (λk=>(H k).2),?_,by simp,λi u x G hx=>?_⟩,o,?_,?_⟩
 ·refine⟨by rw[Iw _ _ _ (by simp)],.inr ⟨g,cap,A,by rw[hlen],U,c1,by rw[hlen];exact t,K,c2,?_⟩⟩;refine Ade (by simp) (λk hk=>?_);have l:k<xs.length:=by rw[hlen] at hk;exact hk
  obtain⟨O,d1⟩:=c3 k l;obtain⟨a,m,c,e⟩:=y k l;rw[IG] at O;rw[WZ e] at d1;rw[fg,eN,ba,List.getElem?_range l];exact⟨O,d1⟩
 ·rw[ba] at G hx;cases s:(List.range xs.length)[i]? with
  |none=>rw[s] at G;cases G
  |some j=>
   rw[s] at G hx;cases G;cases hx;have S:j<xs.length:=by
    have:=List.mem_of_getElem? s
    simpa using this
   exact f (E j S)
 ·rw[eQ];have J:(List.range xs.length).Pairwise (· <·):=List.pairwise_lt_range;refine fw (λ{a b} ha hb hab=>?_) J;have h1:=N a b (aR _) hab (by simpa using hb);unfold ltC at h1;rw[IG,IG,bg] at h1;exact h1
 ·exact⟨c4.os,c4.tape,c4.output,c4.size,λk hk=>c4.block k (by omega) (λe=>by have e:=aU e;omega)⟩
theorem Adg(w:World):Calls prog 161 #[.slice none 0 0,.int .i64 0,.int .i64 0,Ff] w λe w'=>e=.returned (.tuple #[])/\w'=w:=by
 unfold Ff;go_enter func161,ntmps161
 go_wp2
 refine wp_loop_rounds 1 ?_;rw[rounds_succ]
 go_wp2
 go_end0
 exact⟨rfl,rfl⟩
theorem Ae5(w:World):Calls prog 129 #[.slice none 0 0,.int .i64 0,Ff] w λe w'=>e=.returned (.tuple #[])/\w'=w:=by
 have a:=Adg w;unfold Ff at*;go_enter func129,ntmps129
 go_wp2
 refine wp_loop_rounds 1 ?_;rw[rounds_succ];go_wp2_with fail;refine a.mono ?_;rintro e w1 ⟨rfl,rfl⟩
 go_wp2
 refine wp_loop_rounds 1 ?_;rw[rounds_succ]
 go_wp2
 go_end0
 exact⟨rfl,rfl⟩
theorem AaK(w:World):Calls prog 60 #[.slice none 0 0] w λe w'=>e=.returned (.tuple #[])/\w'=w:=by
 have b:=Ae5 w;have a:Calls prog 94 #[.slice none 0 0,Ff] w λe w'=>e=.returned (.tuple #[])/\w'=w:=by
  unfold Ff at*;go_enter func94,ntmps94;go_wp2_with fail;refine b.mono ?_;rintro e w1 ⟨rfl,rfl⟩
  go_wp2
  go_end0
  exact⟨rfl,rfl⟩
 clear b;unfold Ff at a;go_enter func60,ntmps60;go_wp2_with fail;refine a.mono ?_;rintro e w1 ⟨rfl,rfl⟩
 go_wp2
 go_end0
 exact⟨rfl,rfl⟩
theorem Ae6{xs:List EnS.En}(hC:C<=B)(hB:B<=w.heap.size)(h:Ao enK 52 [9,56] C w B v xs)(hE:∀W,Below B w W->Env W)(ok:∀e∈xs,SeS.GM e.name/\e.name.length<=1000000)(z:xs.length<1000000000):
  Calls prog 60 #[v] w (Zk C B v xs w):=by
 obtain⟨m,h1,h2,h3⟩:=h;obtain⟨x,f⟩:=h1;rcases f with⟨rfl,u⟩|⟨g,cap,cur,rfl,s,o,j,n,hsz,p⟩
 ·have hx:=aY u;subst hx;refine(AaK w).mono ?_;rintro e w1 ⟨rfl,rfl⟩;exact⟨rfl,[],Ao.empty _ _ _ _ _ _,dw _,eP,Below.refl _ _⟩
 ·have y:g<w.heap.size:=(ah.1 o).1
  let h:Nat->EnS.En×Value:=λk=>if hk:k<xs.length then(xs[k]'hk,m[k]'(by omega)) else(⟨[],[]⟩,.slice none 0 0)
  have hx:∀k (hk:k<xs.length),(h k).1=xs[k]'hk:=λk hk=>by show (if hk:k<xs.length then _ else _:EnS.En×Value).1=_;rw[gw hk]
  have i:∀k,k<xs.length->m[k]?=some (h k).2:=λk hk=>by
   show _=some (if hk:k<xs.length then _ else _:EnS.En×Value).2
   rw[gw hk,aK (by omega)]
  have l:∀k,k<xs.length->cur[k*2]?=some (.string ⟨(NP (h k)).1.toArray⟩)/\cur[k*2+1]?=some (AaO (NP (h k))):=λk hk=>by
   have b:k<m.length:=by omega
   obtain⟨q,f1⟩:=GI enK xs m k _ _ (aK hk) (aK b);rw[<-p,fx (by omega),gQ] at q f1;obtain⟨a,c,e,_⟩:=Ad.form (h3 k _ _ (aK b) (aK hk));have r:(h k).2=m[k]'b:=by have:=i k hk;rw[aK b] at this;exact(aU this).symm
   rw[IG,hx k hk,WZ (r.trans e),r];exact⟨q,f1⟩
  have d:=AaI w g xs.length (cap*2) cap z (λW hW=>hE W ⟨hW.os,hW.tape,hW.output,hW.size,λk hk=>hW.block k (by omega) (λe=>by have e:=aU e;omega)⟩) (λk=>NP (h k)) (λk hk=>by
   unfold OkC;rw[IG,hx k hk];exact ok _ (aZ hk)) w ⟨cur,o,hsz,l,⟨rfl,rfl,rfl,aA _,λ_ _ _=>rfl⟩⟩
  refine d.mono ?_;rintro e w1 ⟨rfl,A,hp,t⟩;exact⟨rfl,AaJ hC s j n o h3 hx i hp t⟩
end
section
open Go.RowKit
attribute [local go_sem ↓] Go.wp_at_zero Go.wp_at_succ
theorem Whole.grownN{g:Nat}{cs:Array Value}(h:Whole w g T cs){row:Option Nat}(b:w.grownBy w' row)(a:some g≠row):Whole w' g T cs:=(b.block g h.lt a).trans h
theorem Ao.grownN{α:Type}{L:KLay α}{Ts:List TypeId}{xs:List α}(h:Ao L T Ts C w B v xs){r:Nat}(c:w.grownBy w' (some r))(d:∀cs f fz,w.heap[r]?≠some (.cells cs f fz))(hC:C<=r):Ao L T Ts C w' B v xs:=by
 obtain⟨j,h1,h2,h3⟩:=h;have l:v.ownBlock=none\/v.ownBlock≠some r:=by
  rcases h1.2 with⟨rfl,_⟩|⟨g,cap,cur,rfl,_,k,_⟩
  ·exact .inl rfl
  ·refine .inr (λe=>?_);have e:=aU e;subst e;exact d _ _ _ k
 refine⟨j,h1.kept c l,h2,λi u x hu hx=>?_⟩;refine L.keep (h3 i u x hu hx) c.size (λg b a=>c.block g b (λe=>?_)) (λg b a=>a.same (c.block g b (λe=>?_)))
 all_goals
  have e:=aU e;subst e;rcases a with a|⟨cs,f,fz,hc,_⟩
  ·omega
  ·exact d _ _ _ hc
theorem Xa{P:Program}{k:TypeId}{b r n:Nat}{f:iK->Option Value}{todo:iK->Bool}{cnt:Nat}(h:Ef P k w b r n f todo cnt):(∀cs T fz,w.heap[r]?≠some (.cells cs T fz))/\∀cs T fz,w.heap[b]?≠some (.cells cs T fz):=by obtain⟨D,left,h1,_⟩:=h;obtain⟨es,clock,since,seen,c0,a,_,_,_,c,_⟩:=h1;exact⟨λcs T fz hc=>(by rw[c] at hc;cases hc),λcs T fz hc=>(by rw[a] at hc;cases hc)⟩
structure GoneS (C:Nat) (R:List EnS.En) (f:iK->Option Value) (zs:List EnS.En) (todo:iK->Bool):Prop where
 nodup:(zs.map EnS.En.name).Nodup
 sub:∀e∈zs,e∈R
 all:∀s,(f s).isSome=true->todo s=true\/∃e∈zs,e.name=s
 done:∀e∈zs,todo e.name=false
theorem GoneS.more{f:iK->Option Value}{todo:iK->Bool}(h:GoneS C R f zs todo){x:EnS.En}(hx:x∈R)(j:todo x.name=true):GoneS C R f (zs++[x]) (λs=>todo s&&decide (s≠x.name)) where
 nodup:=by rw[bQ,iD];refine⟨h.nodup,by simp,λa k b hb e=>?_⟩;simp only[cT,fh,aj] at hb;subst hb;subst e;obtain⟨y,l,i⟩:=bG.1 k;have:=h.done y l;rw[i,j] at this;cases this
 sub e c:=by
  rcases bB.1 c with c|c
  ·exact h.sub e c
  ·rw[aj] at c;subst c;exact hx
 all s hs:=by
  rcases h.all s hs with g|⟨e,c,i⟩
  ·by_cases d:s=x.name
   ·exact .inr ⟨x,dM _ (aj.2 rfl),d.symm⟩
   ·exact .inl (by simp[g,d])
  ·exact .inr ⟨e,bw _ c,i⟩
 done e c:=by
  rcases bB.1 c with c|c
  ·simp[h.done e c]
  ·rw[aj] at c;subst c;simp
theorem GoneS.end_{f:iK->Option Value}{todo:iK->Bool}(h:GoneS C R f zs todo)(d:∀s,todo s=false)(h1:SeS.CL R)(g:∀e∈R,(f e.name).isSome=true):∀e,e∈zs↔e∈R:=λe=>by
 refine⟨h.sub e,λa=>?_⟩;rcases h.all e.name (g e a) with b|⟨y,c,i⟩
 ·rw[d] at b;cases b
 ·rw[<-h1 y (h.sub y c) e a i];exact c
theorem GoneS.len{f:iK->Option Value}{todo:iK->Bool}(h:GoneS C R f zs todo):zs.length<=R.length:=by
 have h2:=SeS.Oi (U:=R.map EnS.En.name) h.nodup (λs b=>by
  obtain⟨e,c,a⟩:=bG.1 b;exact bG.2 ⟨e,h.sub e c,a⟩)
 simpa using h2
theorem AfT(C:Nat)(n:Nat)(q:SeS.Rq)(rv:Value)(fb b N:Nat)(R:List EnS.En)(w:World)(hC:C<=w.heap.size)(hW:Whole w fb 63 #[.map (some b)])(hk:Bt C w (some b) N R)(hq:FI n w rv q)(D7:q.attrs.length<=1048576/\∀s∈q.attrs,s.length<=1048576)(hf:Eo R)(E0:∀e∈R,KC e.attrs)(ho:SeS.BU R)(h1:SeS.CL R)(hE:Env w):
  Calls prog 29 #[.pointer (some ⟨fb,0,none⟩),rv] w (λe w'=>∃v,e=.returned v/\Ao enK 52 [9,56] C w' w.heap.size v ((SeS.BM R).map (SeS.DN q.attrs q.tonly))/\Below w.heap.size w w'):=by
 obtain⟨f,hm,V,D0⟩:∃f,Dt prog 9 w b N f/\(∀s,(f s).isSome=true↔∃e∈R,e.name=s)/\∀e∈R,∃u,f e.name=some (.agg #[.string ⟨e.name.toArray⟩,u])/\AV C (okA C w) w u e.attrs:=by
  rcases hk with⟨e,_⟩|⟨b',f,e,_,h2,h3,h4⟩
  ·cases e
  ·cases e;exact⟨f,h2,h3,h4⟩
 have P:Hid (∀s v,f s=some v->∃e∈R,e.name=s/\∃a c,v=.agg #[.string ⟨e.name.toArray⟩,.slice a e.attrs.length c]/\AV C (okA C w) w (.slice a e.attrs.length c) e.attrs):=hZ9 (λs v hs=>by
  obtain⟨e,i,hn⟩:=(V s).1 (by rw[hs];rfl);obtain⟨u,hu,ha⟩:=D0 e i;obtain⟨a,c,rfl,_⟩:=Ad.form ha;rw[hn,hs] at hu;refine⟨e,i,hn,a,c,?_,ha⟩;rw[hn];exact aU hu)
 have A4:Hid (∀e∈R,(f e.name).isSome=true):=hZ9 (λe i=>(V _).2 ⟨e,i,rfl⟩);have l:=hZ9 (λname xs u W hC h hf ht hq=>Rf n q rv C name xs u W hC h hf ht hq D7);have HQ:=hZ9 (λW (hb:Below w.heap.size w W)=>hq.call hb);have D9:=hZ9 (λW (hb:Below w.heap.size w W)=>hE.below hb);have HF:=hZ9 (λe (i:e∈R)=>hf.2 e i);have B5:=hZ9 (λe (i:e∈R)=>(E0 e i).2);have F6:Hid (R.length<=1048576):=hZ9 hf.1;have J:=hZ9 (λzs ys (h:GoneS C R f zs (λ_=>false)) hp hs=>SeS.Adb (R:=R) (zs:=zs) (ys:=ys) (f:=SeS.DN q.attrs q.tonly) (SeS.AdR _ _) ho h1 h.nodup (h.end_ (λ_=>rfl) h1 (λe i=>(V _).2 ⟨e,i,rfl⟩)) hp hs);have B2:Hid (∀e∈R,SeS.GM (SeS.DN q.attrs q.tonly e).name/\(SeS.DN q.attrs q.tonly e).name.length<=1000000):=hZ9 (λe i=>⟨ho e i,(hf.2 e i).1⟩);clear V D0 hk hf E0 ho h1 D7 hE;have C8:Hid (∀e,(SeS.DN q.attrs q.tonly e).name=e.name):=hZ9 (λ_=>rfl);obtain⟨a5,a6,aa,c5,c6,ca,rfl,_,_⟩:=hq;generalize SeS.DN q.attrs q.tonly=sel at*;obtain⟨bs,sc,dr,x,at_,tn,sz⟩:=q;simp only at l HQ⊢;unfold Jj at l;generalize at_.length=QL at*;generalize x.any.length=XL at*;generalize x.parts.length=PL at*;generalize x.kind=kd at*;generalize x.attr=at0 at*;generalize x.value=vl at*;generalize x.first=fs at*;generalize x.last=ls at*;have Q:=Af w (.cells #[bs,sc,dr,kd,at0,vl,fs,ls,.slice a5 XL c5,.slice a6 PL c6,.slice aa QL ca,tn,sz] 38);have C6:=Whole.made w 38 #[bs,sc,dr,kd,at0,vl,fs,ls,.slice a5 XL c5,.slice a6 PL c6,.slice aa QL ca,tn,sz];have s1:(w.alloc (.cells #[bs,sc,dr,kd,at0,vl,fs,ls,.slice a5 XL c5,.slice a6 PL c6,.slice aa QL ca,tn,sz] 38)).heap.size=w.heap.size+1:=by show (w.heap.push _).size=_;exact br _
 have C0:=hW.call Q;have B9:=C0.cell 0;simp only[aO,aH] at B9;obtain⟨W2,A0,⟨B7,K⟩,B0,_⟩:=(hm.kept (Bc Q) (by simp)).range (t:=61) underlying9 underlying61;have C3:=Q.grown B0 Q.size (λk e=>by cases e);have C2:=C6.grownN B0 (by simp);rw[s1] at A0 K;obtain⟨i0,hi,E5,F4,G1⟩:=info_parts II;have HI:=hZ9 hi;have A1:GoneS C R f [] (λs=>(f s).isSome):=⟨by simp,λe i=>(by cases i),λs hs=>.inl hs,λe i=>(by cases i)⟩
 clear hi hm hW Q B0 C6 C0;go_enter func29,ntmps29;go_wp2_with fail;go_loopw [5] (λout wr=>∃(zs:List EnS.En) (todo:iK->Bool) (cnt:Nat),Ao enK 52 [9,56] C wr w.heap.size out (zs.map sel)/\Ef prog 9 wr b (w.heap.size+1) N f todo cnt/\GoneS C R f zs todo/\Whole wr w.heap.size 38 #[bs,sc,dr,kd,at0,vl,fs,ls,.slice a5 XL c5,.slice a6 PL c6,.slice aa QL ca,tn,sz]/\Below w.heap.size w wr) (λ_ wr=>wr.rangeLeft b (w.heap.size+1))
 case atStart=>exact⟨[],_,B7,Ao.empty _ _ _ _ _ _,K,A1,C2,C3⟩
 case round=>
  obtain⟨zs,todo,cnt,r,L,z,hr,hb⟩:=hrel;clear K A1 C2 C3 A0 B9;obtain⟨oa,oc,rfl⟩:=r.form;have E7:=z.len;have G3:(zs.map sel).length<=1048576:=by rw[b9];exact aX E7 F6.out
  generalize D4:(zs.map sel).length=ZL at*;rcases L.next underlying9 0 with⟨S,D5⟩|⟨s,v,w4,cnt4,G7,E3,E2,D5,F,F1,X,_,G0⟩
  ·obtain rfl:todo=λ_=>false:=funext S;have E:=Ae6 hC hb.size r (λW hW=>D9.out W (hb.trans hW)) (λe i=>by
    obtain⟨y,hy,rfl⟩:=bG.1 i;exact B2.out y (z.sub y hy)) (by rw[D4];omega)
   unfold Zk at E;have F7:=hZ9 (λys hp hs=>J.out zs ys z hp hs);clear P A4 l HQ D9 HF B5 J B2 C8 HI z L S;generalize (zs.map sel)=ZS at*;go_wp2_with fail;refine E.mono ?_;rintro e w5 ⟨rfl,ys,g,F2,F9,m⟩;have F5:=F7.out ys F2 F9;rw[F5] at g;go_wp2_with fail;go_ret;exact⟨_,rfl,g,hb.trans m⟩
  ·obtain⟨e,i,hn,a,c,rfl,B4⟩:=P.out s v E2;have D2:=HF.out e i;have A6:=B5.out e i;have M:=z.more i (by rw[hn];exact E3);rw[hn] at M;have C4:=C8.out e;have p:=λu W hC h hf ht hq=>l.out e.name e.attrs u W hC h hf ht hq;have C9:=Xa L;have I:=r.grownN X C9.1 (by omega);have E4:=hr.grownN X (λe=>by have e:=aU e;omega);have A8:=hb.grown X hb.size (λk e=>by have e:=aU e;omega);subst hn;have F8:Hid ((zs++[e]).map sel=zs.map sel++[sel e]):=hZ9 (by rw[bQ];rfl);have G5:=hZ9 (show ∀w7 G4,wr.rangeLeft b (w.heap.size+1)=cnt->cnt4<cnt->w7=cnt4->w7<cnt from λ_ _ _ h1 h2=>by omega);have G2:=L.left_eq;generalize E9:sel e=se at*;have F0:=hZ9 E9;obtain⟨name,D8⟩:=e;simp only at D2 A6 C4 p B4 D5 G0 E2 E3 F M;generalize G6:D8.length=AL at*;have U:=Af w4 (.cells #[.string ⟨name.toArray⟩,.slice a AL c] 52);have m:=A8.trans (U.mono A8.size);have B1:=Whole.made w4 52 #[.string ⟨name.toArray⟩,.slice a AL c];have g:=I.call U;have d:=E4.call U;have Z:=F.kept (Bc U) (by simp) (by simp);have x0:=B1.cell 0;have x1:=B1.cell 1;have r0:=d.cell 0;have r1:=d.cell 1;have r2:=d.cell 2;have r3:=d.cell 3;have r4:=d.cell 4;have r5:=d.cell 5;have r6:=d.cell 6;have r7:=d.cell 7;have r8:=d.cell 8;have r9:=d.cell 9;have E1:=d.cell 10;have D3:=d.cell 11;have C7:=d.cell 12;simp only[aO,aH,aP] at x0 x1 r0 r1 r2 r3 r4 r5 r6 r7 r8 r9 E1 D3 C7;have H:=p (.slice a AL c) _ (aX hC m.size) (AV.e (AV.callT B4 m)) D2.2 A6 (HQ.out _ m)
   (try rw[F0.out] at H)
   clear p l HQ P A4 HF B5 J B2 r L z hr hb I E4 A8 F B1 X B4 C9;go_wp2_with fail;refine H.mono ?_;rintro e w6 ⟨u6,rfl,o,O⟩;have A2:=o.attrsB (Ts':=[9,56]) (by simp) (by simp);obtain⟨ya,yc,rfl⟩:=o.form;generalize se.attrs.length=SL at*;have G:=g.call O;have Y:=Z.kept (Bc O) (by simp) (by simp);have D6:=d.call O;have B3:=m.trans (O.mono m.size);have A:=Af w6 (.cells #[.string ⟨name.toArray⟩,.slice ya SL yc] 52);have A9:=Whole.made w6 52 #[.string ⟨name.toArray⟩,.slice ya SL yc];have j:=G.call A;have A5:=Y.kept (Bc A) (by simp) (by simp);have F3:=D6.call A;have C5:=B3.trans (A.mono B3.size);have B6:=Aw.callT A2 A;have b0:=A9.cell 0;have b1:=A9.cell 1;simp only[aO,aH,aP] at b0 b1;have b2:_=some (Ac (enK.key se)):=b0.trans (by show _=some (Ac se.name);rw[C4];rfl);have B8:=C5.size;clear g Z d m G Y D6 B3 A2 o H x0 x1 r0 r1 r2 r3 r4 r5 r6 r7 r8 r9 E1 D3 C7 O A A9;go_wp2_with (at_builtin;refine NE enK 52 22 [9,56] (by decide) underlying22 HI.out E5 F4 G1 (by rfl) (by rfl) _ _ (by rfl) w.heap.size hC _ (zs.map sel) (by rfl) j w6.heap.size (by rfl) se _ b2 b1 B6 (by rw[D4];omega) B8 ?_)
   intro v9 w9 A7 E8 D1;have C1:=Xa A5;have A3:=A5.kept D1 (λe=>by obtain⟨cur,hc⟩:=j.cells e;exact C1.2 _ _ _ hc) (λe=>by obtain⟨cur,hc⟩:=j.cells e;exact C1.1 _ _ _ hc);have E6:=F3.grown j (by decide) D1;go_wp2_with fail;go_roundw
   case rel=>exact⟨zs++[⟨name,D8⟩],_,cnt4,by rw[F8.out];exact A7,A3,M,E6,C5.trans E8⟩
   case measure=>rw[A3.left_eq,G2];exact F1
end
section
open Go.RowKit
def Kt(w:World)(v:Value)(xs:List SeS.Pl):Prop:=
 ∃a c,v=.slice a xs.length c/\xs.length<=c/\(xs=[]\/∃g o,a=some ⟨g,o,none⟩/\g<w.heap.size/\
  ∀(j:Nat) (p:SeS.Pl),xs[j]?=some p->w.cell? ⟨g,o+j*2,none⟩=some (Ac p.1)/\w.cell? ⟨g,o+j*2+1,none⟩=some (.int .i64 p.2))
theorem Kt.call(h:Kt w v xs)(hb:Below B w w')(hB:w.heap.size<=B):Kt w' v xs:=by
 obtain⟨a,c,rfl,hc,h⟩:=h;refine⟨a,c,rfl,hc,?_⟩;rcases h with h|⟨g,o,rfl,b,h⟩
 ·exact .inl h
 ·refine .inr ⟨g,o,rfl,ae b hb.size,λj p d=>⟨?_,?_⟩⟩
  ·exact(hb.cell (p:=⟨g,o+j*2,none⟩) (ae b hB)).trans (h j p d).1
  ·exact(hb.cell (p:=⟨g,o+j*2+1,none⟩) (ae b hB)).trans (h j p d).2
theorem Kt.empty(w:World):Kt w (.slice none 0 0) []:=⟨Option.none,0,rfl,aA _,.inl rfl⟩
def plC(xs:List SeS.Pl):List Value:=xs.flatMap λp=>[Ac p.1,.int .i64 p.2]
theorem AaL(xs ys:List SeS.Pl):plC (xs++ys)=plC xs++plC ys:=by unfold plC;rw[gY]
theorem Xb:∀(xs:List SeS.Pl) (j:Nat) (p:SeS.Pl),xs[j]?=some p->(plC xs)[j*2]?=some (Ac p.1)/\(plC xs)[j*2+1]?=some (.int .i64 p.2)
 |[],j,p,h=>by simp at h
 |q :: xs,0,p,h=>by have:=aU h;subst this;exact⟨rfl,rfl⟩
 |q :: xs,j+1,p,h=>by have:=Xb xs j p (by simpa using h);have e:plC (q :: xs)=Ac q.1 :: .int .i64 q.2 :: plC xs:=rfl;rw[e,show (j+1)*2=j*2+1+1 from by omega];exact this
def BN(T:TypeId)(w:World)(B:Nat)(v:Value)(xs:List SeS.Pl):Prop:=w.ownsRow B T 2 v xs.length (plC xs)
theorem BN.empty(T:TypeId)(w:World)(B:Nat):BN T w B (.slice none 0 0) []:=World.ownsRow_nil w B _ 2
theorem BN.form(h:BN T w B v xs):∃a c,v=.slice a xs.length c:=by
 rcases h.2 with⟨rfl,b⟩|⟨g,cap,cur,rfl,_⟩
 ·exact⟨_,_,by rw[b]⟩
 ·exact⟨_,_,rfl⟩
theorem BN.call(h:BN T w B v xs)(hb:Below w.heap.size w w'):BN T w' B v xs:=
 World.ownsRow.kept h (Bc hb) (by cases v.ownBlock<;>simp)
theorem BN.alloc(h:BN T w B v xs)(o:Obj):BN T (w.alloc o) B v xs:=World.ownsRow.alloc h o
theorem BN.pls(h:BN T w B v xs):Kt w v xs:=by
 rcases h.2 with⟨rfl,b⟩|⟨g,cap,cur,rfl,f,d,b,i,hsz,e⟩
 ·exact⟨Option.none,0,by rw[b],by omega,.inl (aY b)⟩
 ·refine⟨some ⟨g,0,Option.none⟩,cap,rfl,b,.inr ⟨g,0,rfl,(ah.1 d).1,λj p c=>?_⟩⟩;have h2:=Xb xs j p c;have a:∀k,(⟨g,0,Option.none⟩:Addr).add k=⟨g,0+k,Option.none⟩:=λk=>by unfold Addr.add;split<;>simp_all
  have c1:=World.ownsRow.cells h (g:=g) rfl _ _ h2.1;have c2:=World.ownsRow.cells h (g:=g) rfl _ _ h2.2;rw[a] at c1 c2;exact⟨c1,by rw[cQ];exact c2⟩
theorem Adh(g k:Nat):(⟨g,0,Option.none⟩:Addr).add k=⟨g,k,Option.none⟩:=by unfold Addr.add;split<;>simp_all
theorem BN.slice(h:BN T w B v xs)(d:0<xs.length):∃g cap,v=.slice (some ⟨g,0,Option.none⟩) xs.length cap/\xs.length<=cap/\B<=g/\(∃cur,w.heap[g]?=some (.cells cur T (0,0)))/\∀(j:Nat) (p:SeS.Pl),xs[j]?=some p->w.cell? ⟨g,j*2,Option.none⟩=some (Ac p.1)/\w.cell? ⟨g,j*2+1,Option.none⟩=some (.int .i64 p.2):=by
 rcases h.2 with⟨_,h0⟩|⟨g,cap,cur,rfl,c,b,hc,_⟩
 ·omega
 ·refine⟨g,cap,rfl,hc,c,⟨cur,b⟩,λj p a=>?_⟩;have h2:=Xb xs j p a;have c1:=World.ownsRow.cells h (g:=g) rfl _ _ h2.1;have c2:=World.ownsRow.cells h (g:=g) rfl _ _ h2.2;rw[Adh] at c1 c2;exact⟨c1,c2⟩
theorem BN.made(hB:B<=w.heap.size)(n:iK)(s:Int):BN T (w.alloc (.cells #[n,s] T)) B (.slice (some ⟨w.heap.size,0,Option.none⟩) 1 1) [(n,s)]:=
 ⟨rfl,.inr ⟨w.heap.size,1,#[n,s],rfl,hB,Whole.made w T _,aA _,by unfold maxLen;omega,rfl,rfl⟩⟩
theorem BN.lt(h:BN T w B v xs){k:Nat}(hk:v.ownBlock=some k):B<=k/\k<w.heap.size/\∃cur,w.heap[k]?=some (.cells cur T (0,0)):=by
 refine⟨(World.ownsRow.lt h k hk).1,(World.ownsRow.lt h k hk).2,?_⟩;rcases h.2 with⟨rfl,_⟩|⟨g,cap,cur,rfl,_,a,_⟩
 ·cases hk
 ·cases hk;exact⟨cur,a⟩
theorem AfU{ops:Array Oper}{rest:List Oper}{o:Oper}{a:Act}{Q:Exit->Act->World->Prop}(T l:TypeId)(q:prog.underlying l=some (.slice T)){i0:TypeInfo}{z:Value}
  (F:prog.info? T=some i0)(y:i0.zero=some z)(d:i0.size=2)(t:i0.bytes=24)(i:z.cells.size=2)(n:o.guard=none)(s x:Operand)
  (E:o.op=.call { callee:=.builtin .append,args:=#[s,x],argTypes:=#[l,l] })
  (B:Nat)(v:Value)(xs:List SeS.Pl)(A:a.eval s=v)(b:BN T w B v xs)(g:Nat)(hx:a.eval x=.slice (some ⟨g,0,Option.none⟩) 1 1)
  (p:SeS.Pl)(m:w.cell? ⟨g,0,Option.none⟩=some (Ac p.1))(r:w.cell? ⟨g,1,Option.none⟩=some (.int .i64 p.2))(G:xs.length<=1000000000)(hB:B<=w.heap.size)
  (h:∀f w',BN T w' B f (xs++[p])->Below B w w'->w.grownBy w' v.ownBlock->wpList prog ops Q rest (a.put o.dst f) w'):wpList prog ops Q (o :: rest) a w:=by
 refine wpList_append_own w n s x _ E B T i0 z 2 24 q F y d t i (by decide) v xs.length (plC xs) A b ⟨g,0,Option.none⟩ 1 1 [Ac p.1,.int .i64 p.2] hx rfl
  (λj u e=>?_) (λu hu=>?_) (by unfold maxLen;omega) (by omega) hB (λf w' h1 h2 _=>h f w' ?_ ?_ h2)
 ·have c:∀k,(⟨g,0,Option.none⟩:Addr).add k=⟨g,k,Option.none⟩:=λk=>by unfold Addr.add;split<;>simp_all
  rw[c]
  match j,e with
  |0,e=>rw[m];simpa using e
  |1,e=>rw[r];simpa using e
 ·simp only[ay,dX,fZ] at hu;rcases hu with rfl|rfl<;>rfl
 ·unfold BN;rw[AaL,aT];exact h1
 ·exact(Below.refl B w).grown h2 hB (λk hk=>(World.ownsRow.lt b k hk).1)
theorem Yh(T:TypeId)(a:(prog.fieldsOf T).toList.map (λf=>(f.name== "_",f.type,f.offset))=[(false,9,0),(false,3,1)])(i:prog.underlying T=some (.struct (prog.fieldsOf T)))(hp:prog.stoodInHeld T=false)
  (b t2:iK)(u1 u2:Int)(w:World):(Op.equalIn 10000 T (.agg #[b,u1]) (.agg #[t2,u2])).run prog w=.ok (b==t2&&u1==u2) w:=by
 rw[run_equalIn_struct w 9999 T _ _ i hp];generalize (prog.fieldsOf T).toList=e at a;rcases e with _|⟨k,_|⟨f1,_|⟨f2,e⟩⟩⟩
 ·simp at a
 ·simp at a
 ·simp only[cT,fh,cG,bT,dh] at a;obtain⟨⟨n0,a0,g⟩,⟨h,a1,j⟩⟩:=a;have c:k.name≠ "_":=by simpa using n0
  have d:f1.name≠ "_":=by simpa using h
  cases h1:(b==t2)<;>cases h2:(u1==u2)<;>simp[Op.eqFields,c,d,a0,a1,g,j,go_sem,underlying9,underlying3,h1,h2,part]
 ·simp at a
end
section
open Go.RowKit
attribute [local go_sem ↓] Go.wp_at_zero Go.wp_at_succ
theorem Ae7(sc:Int)(w:World):Calls prog 26 #[sc] w λe w'=>e=.returned (.int .i64 (SeS.Ie sc))/\w=w':=by
 have a:Hid (SeS.Ie sc=if sc=2 then 2 else 0):=hZ9 rfl;generalize SeS.Ie sc=B at*;by_cases h:sc=2
 ·have e:(sc==2)=true:=by simpa using h
  have HR:Hid (B=2):=hZ9 (by rw[a.out,aJ h]);clear a;go_enter func26,ntmps26;go_wp2_with fail;go_ret;exact⟨by(rw[HR.out])<;>rfl,by first|rfl|trivial⟩
 ·have e:(sc==2)=false:=by simpa using h
  have HR:Hid (B=0):=hZ9 (by rw[a.out,aG h]);clear a;go_enter func26,ntmps26;go_wp2_with fail;go_ret;exact⟨by(rw[HR.out])<;>rfl,by first|rfl|trivial⟩
theorem AfV{ps:List SeS.Pl}{p:SeS.Pl}{j:Nat}(a:j<ps.length)(h:(ps[j]'a==p)=true):ps.contains p=true:=by
 rw[cg];have:ps[j]'a=p:=by simpa using h
 exact this▸aZ a
theorem AfW{ps:List SeS.Pl}{p:SeS.Pl}(h:∀j (a:j<ps.length),(ps[j]'a==p)=false):ps.contains p=false:=by
 rw[gA,fO];intro x hx;obtain⟨j,a,rfl⟩:=bc.1 hx;have h1:=h j a;intro h2;have e:ps[j]=p:=by
  have h3:(p==ps[j])=true:=h2
  simpa using (eq_of_beq h3).symm
 rw[e] at h1;simp at h1
theorem AgZ(a b:iK)(x y:Int):(((a,x):SeS.Pl)==(b,y))=(a==b&&x==y):=rfl
theorem TJ(v:Value)(ps:List SeS.Pl)(f:iK)(d:Int)(w:World)(h:Kt w v ps)(hl:ps.length<=1048576):Calls prog 59 #[v,.agg #[f,d]] w λe w'=>(∃r:Int,e=.returned r/\ps.contains ((f,d):SeS.Pl)=decide (0<=r))/\Below w.heap.size w w':=by
 have l:=hZ9 (λj (z:j<ps.length) h=>AfV (p:=(f,d)) z h);have s:=hZ9 (λh=>@AfW ps (f,d) h);obtain⟨a,c,rfl,hc,q⟩:=h;have F:Hid (∀j (z:j<ps.length),∃g o,a=some ⟨g,o,none⟩/\g<w.heap.size/\w.cell? ⟨g,o+j*2,none⟩=some (Ac (ps[j]'z).1)/\w.cell? ⟨g,o+j*2+1,none⟩=some (.int .i64 (ps[j]'z).2)):=hZ9 (λj z=>by
  rcases q with rfl|⟨g,o,rfl,M,X⟩
  ·simp at z
  ·exact⟨g,o,rfl,M,X j _ (aK z)⟩)
 clear q;obtain⟨L,Y⟩:∃m,ps.length=m:=⟨_,rfl⟩
 have HL:=hZ9 Y;rw[Y] at hc hl⊢;clear Y;obtain⟨Z,J⟩:∃b,ps.contains ((f,d):SeS.Pl)=b:=⟨_,rfl⟩
 rw[J] at l s⊢;clear J;have I:=Af w (.cells #[f,d] 65);have K:=Whole.made w 65 #[f,d];go_enter func59,ntmps59;go_wp2_with fail;go_loopw [8] (λi wr=>∃j:Nat,j<=L/\i=.int .i64 j/\Whole wr w.heap.size 65 #[f,d]/\Below w.heap.size w wr/\Hid (∀k (hk:k<ps.length),k<j->(ps[k]'hk==((f,d):SeS.Pl))=false)) (λi _=>L-(intOf i).toNat)
 case atStart=>exact⟨0,aR _,rfl,K,I,hZ9 (λk hk h=>absurd h (bj _))⟩
 case round=>
  obtain⟨j,z,rfl,O,hb,N⟩:=hrel;clear K I;by_cases P:j<L
  case neg=>
   have W:j=L:=by omega
   have HR:Hid (Z=false):=hZ9 (s.out (λk hk=>N.out k hk (by rw[HL.out] at hk;omega)));subst W;clear l s F N;go_wp2_with fail;go_ret;exact⟨⟨-1,by first|rfl|trivial,by rw[HR.out];rfl⟩,hb⟩
  have n:j<ps.length:=by rw[HL.out];exact P
  obtain⟨g,o,S,M,d0,d1⟩:=F.out j n;subst S;have y0:wr.cell? ⟨g,o+j*2,none⟩=_:=(hb.cell (p:=⟨g,o+j*2,none⟩) M).trans d0;have y1:wr.cell? ⟨g,o+j*2+1,none⟩=_:=(hb.cell (p:=⟨g,o+j*2+1,none⟩) M).trans d1;have x0:=O.cell 0;have x1:=O.cell 1;simp only[aO,aH,aP] at x0 x1;have Q:=hZ9 (l.out j n);have A:Hid ((ps[j]'n==((f,d):SeS.Pl))=false->∀k (hk:k<ps.length),k<j+1->(ps[k]'hk==((f,d):SeS.Pl))=false):=hZ9 (λh k hk U=>by
   rcases bV (bX U) with h2|rfl
   ·exact N.out k hk h2
   ·exact h)
  clear d0 d1 l s F N;generalize ps[j]=t at*;obtain⟨E,ts⟩:=t;unfold Ac at y0;have A2:(0:Int)<=(j:Int):=by omega
  have A1:(j:Int)<(L:Int):=by omega
  have A0:∀x y w,(eqGuard .eql 65 x y (.agg #[f,d]) (.agg #[E,ts])).run prog w=.ok () w:=λx y w=>run_eqGuard_agg w .eql _ x y _ _ (by kernel_rfl);have H:∀w,(binOp .eql 65 (.agg #[f,d]) (.agg #[E,ts])).run prog w=.ok (.bool (f==E&&d==ts)) w:=λw=>by rw[run_eql_struct,Yh 65 (by kernel_rfl) (by kernel_rfl) (by kernel_rfl)];rfl
  have u:Hid (((((E,ts):SeS.Pl))==(f,d))=(f==E&&d==ts)):=hZ9 (by rw[AgZ,BEq.comm (a:=E),BEq.comm (a:=ts)]);cases G:(f==E&&d==ts) with
  |true=>
   rw[G] at H;have HR:Hid (Z=true):=hZ9 (Q.out (by rw[u.out,G]));clear Q A u G;go_wp2_with fail
   go_quiet (fail)
   go_wp2_with fail;go_ret;exact⟨⟨(j:Int),by first|rfl|trivial,by rw[HR.out];simp⟩,hb.trans ((below_drewN wr _).mono hb.size)⟩
  |false=>
   rw[G] at H;have V:=hZ9 (A.out (by rw[u.out,G]));clear Q A u G;have A3:=O.call (below_drewN wr 1);go_wp2_with fail
   go_quiet (fail)
   go_wp2_with fail;go_roundw
   case rel=>exact⟨j+1,by omega,by go_num,O.call (below_drewN wr _),hb.trans ((below_drewN wr _).mono hb.size),V⟩
   case measure=>simp[intOf];omega
theorem Xc(v:Value)(ps:List SeS.Pl)(i:iK)(d:Int)(w:World)(h:Kt w v ps)(o:ps.length<=1048576):Calls prog 27 #[v,.agg #[i,d]] w λe w'=>e=.returned (.bool (ps.contains ((i,d):SeS.Pl)))/\Below w.heap.size w w':=by
 have g:=Af w (.cells #[i,d] 65);have n:=TJ v ps i d w h o;have j:=TJ v ps i d _ (h.call g (aA _)) o;obtain⟨a,c,rfl,_⟩:=h;obtain⟨p,k⟩:∃b,ps.contains ((i,d):SeS.Pl)=b:=⟨_,rfl⟩
 rw[k] at n j⊢;clear k;generalize ps.length=L at*;go_enter func27,ntmps27;go_wp2_with fail
 first
 |(refine n.mono ?_;rintro e w1 ⟨⟨r,rfl,m⟩,f⟩
   subst m;go_wp2_with fail;go_ret;exact⟨by first|rfl|trivial,f⟩)
 |(refine j.mono ?_;rintro e w1 ⟨⟨r,rfl,m⟩,f⟩
   have l:=g.trans (f.mono g.size);subst m;go_wp2_with fail;go_ret;exact⟨by first|rfl|trivial,l⟩)
end
