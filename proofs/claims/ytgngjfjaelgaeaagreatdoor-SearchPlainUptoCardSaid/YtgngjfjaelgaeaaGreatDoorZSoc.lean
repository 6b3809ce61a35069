/- The walk of slices.symMergeCmpFunc at entries: two sorted parts become one. Conditions: as stated. -/
import Derived.Test.YtgngjfjaelgaeaaGreatDoorZSob
set_option maxRecDepth 1000000
set_option maxHeartbeats 16000000
namespace Go.Proofs.YtgngjfjaelgaeaaGreatDoor
open Go.Proofs.Tryz
open Go.RowKit
attribute [local go_sem ↓] Go.wp_at_zero Go.wp_at_succ
theorem AaQ(w0:World)(g n sz cap:Nat)(hsz:n<1000000000)(HE:∀w,w0.grownBy w (some g)->Env w):∀(N a m b:Nat),b-a<=N->a<m->m<b->b<=n->∀(f:Nat->Cel),(∀k,k<n->OkC (f k))->SoS.Srt ltC f a m->SoS.Srt ltC f m b->∀w,Ce w0 g n sz f w->
  Calls prog 162 #[.slice (some ⟨g,0,none⟩) n cap,.int .i64 a,.int .i64 m,.int .i64 b,Ff] w (FH w0 g n sz (λf'=>SoS.Sw a b f f'/\SoS.Srt ltC f' a b)):=by
 have C7:=λa m b h1 h2 h3 f w hw=>AeL w0 g n sz cap hsz a m b h1 h2 h3 f w hw;unfold FH Ff at*;have C8:=hZ9 C7;have D0:=hZ9 HE;clear C7 HE;intro N
 induction N with
 |zero=>intro a m b h1 h2 h3;omega
 |succ N ih=>
  intro a m b hN H4 H8 hb f E8 F0 E7 w hw;have IH:=hZ9 ih;have HW:=hZ9 hw;have E:=hZ9 E8;have C6:=hZ9 F0;have C4:=hZ9 E7;clear ih hw E8 F0 E7;by_cases h1:m=a+1
  ·have E9:(m:Int)-(a:Int)=1:=by omega
   have G5:m<=a+1:=by omega
   have HM:Hid (m=a+1):=hZ9 h1;clear h1;go_enter func162,ntmps162
   go_wp2
   go_loopg [10,11] (b-m) (λg1 vi vj wr=>∃(i j:Nat),vi=.int .i64 i/\vj=.int .i64 j/\m<=i/\i<=j/\j<=b/\j-i<=g1/\Hid (∀k,m<=k->k<i->ltC (f k) (f a)=true)/\Hid (∀k,j<=k->k<b->ltC (f k) (f a)=false)/\Hid (Ce w0 g n sz f wr))
   case atStart=>exact⟨m,b,rfl,rfl,aA _,by omega,aA _,aA _,hZ9 (λk h1 h2=>by omega),hZ9 (λk h1 h2=>by omega),HW⟩
   case round=>
    obtain⟨i,j,rfl,rfl,C9,F3,D9,E0,O,B0,I⟩:=hrel;by_cases D6:i<j
    ·have hz:(i:Int)<(j:Int):=by omega
     obtain⟨h,hh⟩:∃h:Nat,((i:Int)+(j:Int)) / 2=(h:Int):=⟨(i+j) / 2,by omega⟩
     have D4:i<=h:=by omega
     have G1:h<j:=by omega
     obtain⟨A,x,xa,xm,xc,hA,K,cA,v⟩:=I.out.drew.read h (by omega);obtain⟨B,y,ya,ym,yc,hB,L,R,z⟩:=I.out.drew.read a (by omega);have F:=(E.out h (by omega)).2;have G:=(E.out a (by omega)).2;rw[K] at F;rw[L] at G;have u:Hid (ltC (f h) (f a)=decide (DnS.Aq x y<0)):=hZ9 (by rw[K,L];rfl);have o:=NR x y xa xm xc ya ym yc wr.drew (D0.out _ I.out.drew.grown) F G;have E3:(h:Int)<(n:Int):=by omega
     have D1:(a:Int)<(n:Int):=by omega
     clear K L F G;obtain⟨CB,U⟩:∃c,DnS.Aq x y=c:=⟨_,rfl⟩
     rw[U] at u o;clear U;cases H:decide (CB<0) with
     |true=>
      have B2:CB<0:=b7 H;rw[H] at u;go_wp2_with fail
      go_region_held3 (λW=>W.cell? ⟨g,A,none⟩=some (.string ⟨x.toArray⟩)/\W.cell? ⟨g,A+1,none⟩=some (.slice xa xm xc)/\W.cell? ⟨g,B,none⟩=some (.string ⟨y.toArray⟩)/\W.cell? ⟨g,B+1,none⟩=some (.slice ya ym yc)) (first|exact⟨cA,v,R,z⟩|exact⟨Ab cA d,Ab v d,Ab R d,Ab z d⟩)
       (first|(go_at_call 95;(with_reducible refine o.mono ?_);rintro e w5 ⟨rfl,d⟩))
      all_goals(
       have J:=hZ9 (I.out.drew.call d);clear cA v R z o d hA hB)
      have E2:Hid (∀k,m<=k->k<h+1->ltC (f k) (f a)=true):=hZ9 (λk h1 h2=>SoS.AeI Ih C4.out (λk hk=>E.out k (by omega)) (E.out a (by omega)) (by omega) (by omega) u.out k h1 (by omega));clear O u I
      go_wp2
      go_roundg (j-(h+1))
      case measure=>omega
      case rel=>exact⟨h+1,j,by go_num,rfl,by omega,by omega,D9,aA _,E2,B0,J⟩
     |false=>
      have B2:¬CB<0:=bf H;rw[H] at u;go_wp2_with fail
      go_region_held3 (λW=>W.cell? ⟨g,A,none⟩=some (.string ⟨x.toArray⟩)/\W.cell? ⟨g,A+1,none⟩=some (.slice xa xm xc)/\W.cell? ⟨g,B,none⟩=some (.string ⟨y.toArray⟩)/\W.cell? ⟨g,B+1,none⟩=some (.slice ya ym yc)) (first|exact⟨cA,v,R,z⟩|exact⟨Ab cA d,Ab v d,Ab R d,Ab z d⟩)
       (first|(go_at_call 95;(with_reducible refine o.mono ?_);rintro e w5 ⟨rfl,d⟩))
      all_goals(
       have J:=hZ9 (I.out.drew.call d);clear cA v R z o d hA hB)
      have D7:Hid (∀k,h<=k->k<b->ltC (f k) (f a)=false):=hZ9 (λk h1 h2=>SoS.Agd Ih C4.out (λk hk=>E.out k (by omega)) (E.out a (by omega)) (by omega) (by omega) u.out k h1 h2);clear B0 u I
      go_wp2
      go_roundg (h-i)
      case measure=>omega
      case rel=>exact⟨i,h,rfl,rfl,C9,D4,by omega,aA _,O,D7,J⟩
    ·have hz:¬(i:Int)<(j:Int):=by omega
     have C0:Hid (SoS.Srt ltC (SoS.Ba f a (a+1) i) a b):=hZ9 (SoS.Yi Ih (by rw[<-HM.out];exact C4.out) (by omega) (by omega) (λk h1 h2=>O.out k (by omega) h2) (λk h1 h2=>B0.out k (by omega) h2));clear O B0;obtain⟨ip,H2⟩:∃ip:Nat,(i:Int)-1=(ip:Int):=⟨i-1,by omega⟩
     have G9:IntKind.i64.wrap (ip:Int)=(ip:Int):=by rw[IntKind.wrap_i64];omega
     have F4:Hid (i=ip+1):=hZ9 (by omega)
     go_wp2
     go_loopg [13] (ip-a) (λg1 vk wr=>∃(k:Nat),vk=.int .i64 k/\a<=k/\k<=ip/\ip-k<=g1/\Hid (SoS.Sw a b f (SoS.Ba f a (a+1) (k+1)))/\Hid (Ce w0 g n sz (SoS.Ba f a (a+1) (k+1)) wr))
     case atStart=>exact⟨a,rfl,aA _,by omega,aA _,hZ9 (by rw[SoS.TQ];exact .refl),hZ9 (by rw[SoS.TQ];exact I.out)⟩
     case round=>
      obtain⟨k,rfl,D2,G0,F7,B5,T⟩:=hrel;clear I;by_cases E5:k<ip
      ·have E1:(k:Int)<(ip:Int):=by omega
       obtain⟨A,B,x1,xa,xm,xc,y1,ya,ym,yc,⟨hA,hB⟩,⟨n1,n2,n3,n4,n5,n6⟩,⟨c1,c2,c3,c4⟩,⟨f1,f2,f3,f4⟩,Z⟩:=T.out.exch k (k+1) (by omega) (by omega) (by omega);rw[SoS.Xj f D2] at Z;have C1:=hZ9 Z;have C:Hid (SoS.Sw a b f (SoS.Ba f a (a+1) (k+1+1))):=hZ9 (by rw[<-SoS.Xj f D2];exact .swp B5.out (by omega) (by omega) (by omega) (by omega));clear Z B5 T;have jk:(k:Int)<(n:Int):=by omega
       have G4:(k:Int)+1<(n:Int):=by omega
       have ek:((k:Int)+1).toNat=k+1:=by omega
       have j0:(0:Int)<=(k:Int)+1:=by omega
       go_wp2
       go_region
       all_goals go_wp2
       go_roundg (ip-(k+1))
       case measure=>omega
       case rel=>exact⟨k+1,by go_num,by omega,by omega,aA _,C,C1⟩
      ·have E1:¬(k:Int)<(ip:Int):=by omega
       have HK:Hid (k+1=i):=hZ9 (by rw[F4.out];omega)
       go_wp2
       (try simp only[Exit.inBlock,Exit.then])
       refine bodyPost_ret (results_none rfl _ _ _) rfl ?_;exact⟨rfl,_,⟨B5.out,by rw[HK.out];exact C0.out⟩,T.out⟩
  ·have E9:∃q:Nat,(m:Int)-(a:Int)=(q:Int)/\2<=q:=⟨m-a,by omega,by omega⟩
   obtain⟨q,hq,H7⟩:=E9;have G8:((q:Int)==1)=false:=by rw[aV];omega
   have wq:IntKind.i64.wrap (q:Int)=(q:Int):=by rw[IntKind.wrap_i64];omega
   by_cases h2:b=m+1
   ·have E6:(b:Int)-(m:Int)=1:=by omega
    have G7:b<=m+1:=by omega
    have HB:Hid (b=m+1):=hZ9 h2;clear h2;go_enter func162,ntmps162
    go_wp2
    go_loopg [14,15] (m-a) (λg1 vi vj wr=>∃(i j:Nat),vi=.int .i64 i/\vj=.int .i64 j/\a<=i/\i<=j/\j<=m/\j-i<=g1/\Hid (∀k,a<=k->k<i->ltC (f m) (f k)=false)/\Hid (∀k,j<=k->k<m->ltC (f m) (f k)=true)/\Hid (Ce w0 g n sz f wr))
    case atStart=>exact⟨a,m,rfl,rfl,aA _,by omega,aA _,aA _,hZ9 (λk h1 h2=>by omega),hZ9 (λk h1 h2=>by omega),HW⟩
    case round=>
     obtain⟨i,j,rfl,rfl,C9,F3,D9,E0,B0,O,I⟩:=hrel;by_cases D6:i<j
     ·have hz:(i:Int)<(j:Int):=by omega
      obtain⟨h,hh⟩:∃h:Nat,((i:Int)+(j:Int)) / 2=(h:Int):=⟨(i+j) / 2,by omega⟩
      have D4:i<=h:=by omega
      have G1:h<j:=by omega
      obtain⟨A,x,xa,xm,xc,hA,K,cA,v⟩:=I.out.drew.read m (by omega);obtain⟨B,y,ya,ym,yc,hB,L,R,z⟩:=I.out.drew.read h (by omega);have F:=(E.out m (by omega)).2;have G:=(E.out h (by omega)).2;rw[K] at F;rw[L] at G;have u:Hid (ltC (f m) (f h)=decide (DnS.Aq x y<0)):=hZ9 (by rw[K,L];rfl);have o:=NR x y xa xm xc ya ym yc wr.drew (D0.out _ I.out.drew.grown) F G;have E3:(m:Int)<(n:Int):=by omega
      have D1:(h:Int)<(n:Int):=by omega
      clear K L F G;obtain⟨CB,U⟩:∃c,DnS.Aq x y=c:=⟨_,rfl⟩
      rw[U] at u o;clear U;cases H:decide (CB<0) with
      |true=>
       have B2:CB<0:=b7 H;rw[H] at u;go_wp2_with fail
       go_region_held3 (λW=>W.cell? ⟨g,A,none⟩=some (.string ⟨x.toArray⟩)/\W.cell? ⟨g,A+1,none⟩=some (.slice xa xm xc)/\W.cell? ⟨g,B,none⟩=some (.string ⟨y.toArray⟩)/\W.cell? ⟨g,B+1,none⟩=some (.slice ya ym yc)) (first|exact⟨cA,v,R,z⟩|exact⟨Ab cA d,Ab v d,Ab R d,Ab z d⟩)
        (first|(go_at_call 95;(with_reducible refine o.mono ?_);rintro e w5 ⟨rfl,d⟩))
       all_goals(
        have J:=hZ9 (I.out.drew.call d);clear cA v R z o d hA hB)
       have E2:Hid (∀k,h<=k->k<m->ltC (f m) (f k)=true):=hZ9 (λk h1 h2=>SoS.Adn Ih C6.out (λk hk=>E.out k (by omega)) (E.out m (by omega)) (by omega) (by omega) u.out k h1 h2);clear O u I
       go_wp2
       go_roundg (h-i)
       case measure=>omega
       case rel=>exact⟨i,h,rfl,rfl,C9,D4,by omega,aA _,B0,E2,J⟩
      |false=>
       have B2:¬CB<0:=bf H;rw[H] at u;go_wp2_with fail
       go_region_held3 (λW=>W.cell? ⟨g,A,none⟩=some (.string ⟨x.toArray⟩)/\W.cell? ⟨g,A+1,none⟩=some (.slice xa xm xc)/\W.cell? ⟨g,B,none⟩=some (.string ⟨y.toArray⟩)/\W.cell? ⟨g,B+1,none⟩=some (.slice ya ym yc)) (first|exact⟨cA,v,R,z⟩|exact⟨Ab cA d,Ab v d,Ab R d,Ab z d⟩)
        (first|(go_at_call 95;(with_reducible refine o.mono ?_);rintro e w5 ⟨rfl,d⟩))
       all_goals(
        have J:=hZ9 (I.out.drew.call d);clear cA v R z o d hA hB)
       have D7:Hid (∀k,a<=k->k<h+1->ltC (f m) (f k)=false):=hZ9 (λk h1 h2=>SoS.AeJ Ih C6.out (λk hk=>E.out k (by omega)) (E.out m (by omega)) (by omega) (by omega) u.out k h1 (by omega));clear B0 u I
       go_wp2
       go_roundg (j-(h+1))
       case measure=>omega
       case rel=>exact⟨h+1,j,by go_num,rfl,by omega,by omega,D9,aA _,D7,O,J⟩
     ·have hz:¬(i:Int)<(j:Int):=by omega
      have C0:Hid (SoS.Srt ltC (SoS.Ba f i m (m+1)) a (m+1)):=hZ9 (SoS.AaN Ih C6.out C9 (by omega) (λk h1 h2=>B0.out k h1 h2) (λk h1 h2=>O.out k (by omega) h2));clear O B0
      go_wp2
      go_loopg [17] (m-i) (λg1 vk wr=>∃(k:Nat),vk=.int .i64 k/\i<=k/\k<=m/\k-i<=g1/\Hid (SoS.Sw a b f (SoS.Ba f k m (m+1)))/\Hid (Ce w0 g n sz (SoS.Ba f k m (m+1)) wr))
      case atStart=>exact⟨m,rfl,by omega,aA _,aA _,hZ9 (by rw[SoS.Rh];exact .refl),hZ9 (by rw[SoS.Rh];exact I.out)⟩
      case round=>
       obtain⟨k,rfl,D2,G0,F7,B5,T⟩:=hrel;clear I;by_cases E5:i<k
       ·have E1:(i:Int)<(k:Int):=by omega
        obtain⟨kp,H6⟩:∃kp:Nat,(k:Int)-1=(kp:Int):=⟨k-1,by omega⟩
        have H1:IntKind.i64.wrap (kp:Int)=(kp:Int):=by rw[IntKind.wrap_i64];omega
        have F6:Hid (k=kp+1):=hZ9 (by omega);obtain⟨A,B,x1,xa,xm,xc,y1,ya,ym,yc,⟨hA,hB⟩,⟨n1,n2,n3,n4,n5,n6⟩,⟨c1,c2,c3,c4⟩,⟨f1,f2,f3,f4⟩,Z⟩:=T.out.exch k kp (by omega) (by omega) (by omega);have A2:SoS.Dv (SoS.Ba f k m (m+1)) k kp=SoS.Ba f kp m (m+1):=by rw[F6.out];exact SoS.Adm f (by omega)
        have C:Hid (SoS.Sw a b f (SoS.Ba f kp m (m+1))):=hZ9 (by rw[<-A2];exact .swp B5.out (by omega) (by omega) (by omega) (by omega));rw[A2] at Z;have C1:=hZ9 Z;clear Z B5 T A2;have jk:(k:Int)<(n:Int):=by omega
        have G4:(kp:Int)<(n:Int):=by omega
        go_wp2
        go_region
        all_goals go_wp2
        go_roundg (kp-i)
        case measure=>omega
        case rel=>exact⟨kp,rfl,by omega,by omega,aA _,C,C1⟩
       ·have E1:¬(i:Int)<(k:Int):=by omega
        have HK:Hid (k=i):=hZ9 (by omega)
        go_wp2
        (try simp only[Exit.inBlock,Exit.then])
        refine bodyPost_ret (results_none rfl _ _ _) rfl ?_;exact⟨rfl,_,⟨B5.out,by rw[HB.out,HK.out];exact C0.out⟩,T.out⟩
   ·have E6:∃q:Nat,(b:Int)-(m:Int)=(q:Int)/\2<=q:=⟨b-m,by omega,by omega⟩
    obtain⟨r,hr,A3⟩:=E6;have M:((r:Int)==1)=false:=by rw[aV];omega
    have H0:IntKind.i64.wrap (r:Int)=(r:Int):=by rw[IntKind.wrap_i64];omega
    obtain⟨mid,G6⟩:∃mid:Nat,((a:Int)+(b:Int)) / 2=(mid:Int):=⟨(a+b) / 2,by omega⟩
    have F1:a<mid:=by omega
    have F2:mid<b:=by omega
    obtain⟨t,ht⟩:∃t:Nat,(mid:Int)+(m:Int)=(t:Int):=⟨mid+m,by omega⟩
    have wt:IntKind.i64.wrap (t:Int)=(t:Int):=by rw[IntKind.wrap_i64];omega
    obtain⟨p,hp⟩:∃p:Nat,(t:Int)-1=(p:Int):=⟨t-1,by omega⟩
    have wp:IntKind.i64.wrap (p:Int)=(p:Int):=by rw[IntKind.wrap_i64];omega
    by_cases H3:mid<m
    ·have G3:(mid:Int)<(m:Int):=by omega
     obtain⟨s0,H9⟩:∃s0:Nat,(t:Int)-(b:Int)=(s0:Int):=⟨t-b,by omega⟩
     have H5:IntKind.i64.wrap (s0:Int)=(s0:Int):=by rw[IntKind.wrap_i64];omega
     go_enter func162,ntmps162
     go_wp2
     go_loopg [20,21] (mid-s0) (λg1 vi vj wr=>∃(s r:Nat),vi=.int .i64 s/\vj=.int .i64 r/\s0<=s/\s<=r/\r<=mid/\r-s<=g1/\Hid (s=s0\/ltC (f (p-(s-1))) (f (s-1))=false)/\Hid (r=mid\/ltC (f (p-r)) (f r)=true)/\Hid (Ce w0 g n sz f wr))
     case atStart=>exact⟨s0,mid,rfl,rfl,aA _,by omega,aA _,aA _,hZ9 (.inl rfl),hZ9 (.inl rfl),HW⟩
     case round=>
      obtain⟨s,r,rfl,rfl,D3,F5,M,E0,A4,A9,I⟩:=hrel;by_cases D6:s<r
      ·have hz:(s:Int)<(r:Int):=by omega
       obtain⟨c,hc⟩:∃c:Nat,((s:Int)+(r:Int)) / 2=(c:Int):=⟨(s+r) / 2,by omega⟩
       have D5:s<=c:=by omega
       have F8:c<r:=by omega
       obtain⟨pc,G2⟩:∃pc:Nat,(p:Int)-(c:Int)=(pc:Int):=⟨p-c,by omega⟩
       have F9:IntKind.i64.wrap (pc:Int)=(pc:Int):=by rw[IntKind.wrap_i64];omega
       have A5:Hid (p-c=pc):=hZ9 (by omega);obtain⟨A,x,xa,xm,xc,hA,K,cA,v⟩:=I.out.drew.read pc (by omega);obtain⟨B,y,ya,ym,yc,hB,L,R,z⟩:=I.out.drew.read c (by omega);have F:=(E.out pc (by omega)).2;have G:=(E.out c (by omega)).2;rw[K] at F;rw[L] at G;have u:Hid (ltC (f pc) (f c)=decide (DnS.Aq x y<0)):=hZ9 (by rw[K,L];rfl);have o:=NR x y xa xm xc ya ym yc wr.drew (D0.out _ I.out.drew.grown) F G;have E3:(pc:Int)<(n:Int):=by omega
       have D1:(c:Int)<(n:Int):=by omega
       clear K L F G;obtain⟨CB,U⟩:∃c,DnS.Aq x y=c:=⟨_,rfl⟩
       rw[U] at u o;clear U;cases H:decide (CB<0) with
       |true=>
        have B2:CB<0:=b7 H;rw[H] at u;go_wp2_with fail
        go_region_held3 (λW=>W.cell? ⟨g,A,none⟩=some (.string ⟨x.toArray⟩)/\W.cell? ⟨g,A+1,none⟩=some (.slice xa xm xc)/\W.cell? ⟨g,B,none⟩=some (.string ⟨y.toArray⟩)/\W.cell? ⟨g,B+1,none⟩=some (.slice ya ym yc)) (first|exact⟨cA,v,R,z⟩|exact⟨Ab cA d,Ab v d,Ab R d,Ab z d⟩)
         (first|(go_at_call 95;(with_reducible refine o.mono ?_);rintro e w5 ⟨rfl,d⟩))
        all_goals(
         have J:=hZ9 (I.out.drew.call d);clear cA v R z o d hA hB)
        have C2:Hid (c=mid\/ltC (f (p-c)) (f c)=true):=hZ9 (.inr (by rw[A5.out];exact u.out));clear A9 u I A5
        go_wp2
        go_roundg (c-s)
        case measure=>omega
        case rel=>exact⟨s,c,rfl,rfl,D3,D5,by omega,aA _,A4,C2,J⟩
       |false=>
        have B2:¬CB<0:=bf H;rw[H] at u;go_wp2_with fail
        go_region_held3 (λW=>W.cell? ⟨g,A,none⟩=some (.string ⟨x.toArray⟩)/\W.cell? ⟨g,A+1,none⟩=some (.slice xa xm xc)/\W.cell? ⟨g,B,none⟩=some (.string ⟨y.toArray⟩)/\W.cell? ⟨g,B+1,none⟩=some (.slice ya ym yc)) (first|exact⟨cA,v,R,z⟩|exact⟨Ab cA d,Ab v d,Ab R d,Ab z d⟩)
         (first|(go_at_call 95;(with_reducible refine o.mono ?_);rintro e w5 ⟨rfl,d⟩))
        all_goals(
         have J:=hZ9 (I.out.drew.call d);clear cA v R z o d hA hB)
        have B9:Hid (c+1=s0\/ltC (f (p-(c+1-1))) (f (c+1-1))=false):=hZ9 (.inr (by rw[dZ,A5.out];exact u.out));clear A4 u I A5
        go_wp2
        go_roundg (r-(c+1))
        case measure=>omega
        case rel=>exact⟨c+1,r,by go_num,rfl,by omega,by omega,M,aA _,B9,A9,J⟩
      ·have hz:¬(s:Int)<(r:Int):=by omega
       have A0:s=r:=by omega
       obtain⟨e,he⟩:∃e:Nat,(t:Int)-(s:Int)=(e:Int):=⟨t-s,by omega⟩
       have we:IntKind.i64.wrap (e:Int)=(e:Int):=by rw[IntKind.wrap_i64];omega
       have l:=hZ9 (SoS.Pg Ih C6.out C4.out (λk hk=>E.out k (by omega)) (s:=s) (e:=e) (mid:=mid) (by omega) (by omega) (by omega) (by omega) (by omega)
        (by
          by_cases c1:s=a
          ·exact .inl c1
          by_cases c2:e=b
          ·exact .inr (.inl c2)
          rcases A4.out with h|h
          ·omega
          ·have X:p-(s-1)=e:=by omega
           rw[X] at h;exact .inr (.inr h))
        (by
          by_cases c1:e=m
          ·exact .inl c1
          by_cases c2:s=m
          ·exact .inr (.inl c2)
          rcases A9.out with h|h
          ·omega
          ·have X:p-r=e-1:=by omega
           rw[X,<-A0] at h;exact .inr (.inr (Ih.asym _ _ h))))
       have E4:Hid (∀f1,SoS.Sw a b f f1->∀k,k<n->OkC (f1 k)):=hZ9 (λf1 h=>h.all hb E.out);clear A4 A9 A0;by_cases k1:s<m<;>by_cases k2:s<mid<;>by_cases k3:a<s<;>by_cases k4:e<b
       all_goals first|(exfalso;omega)|skip
       all_goals(
        first|have z1:decide ((s:Int)<(m:Int))=true:=aI (by omega)|have z1:decide ((s:Int)<(m:Int))=false:=aB (by omega)
        first|have z2:decide ((s:Int)<(mid:Int))=true:=aI (by omega)|have z2:decide ((s:Int)<(mid:Int))=false:=aB (by omega)
        first|have z3:decide ((a:Int)<(s:Int))=true:=aI (by omega)|have z3:decide ((a:Int)<(s:Int))=false:=aB (by omega)
        first|have z4:decide ((e:Int)<(b:Int))=true:=aI (by omega)|have z4:decide ((e:Int)<(b:Int))=false:=aB (by omega)
        first|have z5:decide ((m:Int)<(e:Int))=true:=aI (by omega)|have z5:decide ((m:Int)<(e:Int))=false:=aB (by omega)
        first|have z6:decide ((mid:Int)<(e:Int))=true:=aI (by omega)|have z6:decide ((mid:Int)<(e:Int))=false:=aB (by omega)
        first
        |(have hc:s<m/\s<mid:=⟨by omega,by omega⟩
          clear hc;go_wp2_with fail;refine(C8.out s m e (by omega) (by omega) (by omega) f _ I.out).mono ?_;rintro en w1 ⟨rfl,f1,⟨S,V⟩,M⟩;rw[<-S] at l)
        |(obtain⟨f1,S⟩:∃f1,f1=SoS.Ba f s m e:=⟨_,rfl⟩
          have V:SoS.Sw s e f f1:=by rw[S,SoS.LX f (by omega)];exact .refl
          have M:=I.out;rw[<-SoS.LX f (show s=m\/e=m by omega),<-S] at M;rw[<-S] at l)
        have P:Hid (SoS.Sw a b f f1):=hZ9 (V.mono (by omega) (by omega));have B3:=hZ9 M;clear S V M
        first
        |(have hc:a<s/\s<mid:=⟨by omega,by omega⟩
          clear hc;have C5:=λw hw=>IH.out a s mid (by omega) (by omega) (by omega) (by omega) f1 (P.out.all hb E.out) l.out.1 l.out.2.1 w hw;go_wp2_with fail;refine(C5 _ B3.out).mono ?_;rintro en w2 ⟨rfl,f2,⟨Y,B7⟩,A3⟩;clear C5)
        |(obtain⟨f2,A7⟩:∃f2,f2=f1:=⟨_,rfl⟩
          have Y:SoS.Sw a mid f1 f2:=by rw[A7];exact .refl
          have B7:SoS.Srt ltC f2 a mid:=by
           rw[A7]
           first
           |(have X:a=s:=by omega
             rw[X];exact l.out.2.1)
           |(have X:mid=s:=by omega
             rw[X];exact l.out.1)
          have A3:=B3.out;rw[<-A7] at A3;clear A7)
        have T:=hZ9 B7;have C:=hZ9 Y;have B6:=hZ9 A3;have B4:Hid (SoS.Srt ltC f2 mid e):=hZ9 (l.out.2.2.1.congr (λk hk _=>C.out.out k (.inr hk)));have B8:Hid (SoS.Srt ltC f2 e b):=hZ9 (l.out.2.2.2.1.congr (λk hk _=>C.out.out k (.inr (by omega))));clear B7 Y A3
        first
        |(have hc:mid<e/\e<b:=⟨by omega,by omega⟩
          clear hc;have C3:=λw hw=>IH.out mid e b (by omega) (by omega) (by omega) (by omega) f2 ((P.out.trans (C.out.mono (aA _) (by omega))).all hb E.out) B4.out B8.out w hw;go_wp2_with fail;refine(C3 _ B6.out).mono ?_;rintro en w3 ⟨rfl,f3,⟨Q,B1⟩,A6⟩;clear C3)
        |(obtain⟨f3,A8⟩:∃f3,f3=f2:=⟨_,rfl⟩
          have Q:SoS.Sw mid b f2 f3:=by rw[A8];exact .refl
          have B1:SoS.Srt ltC f3 mid b:=by
           rw[A8]
           first
           |(have X:mid=e:=by omega
             rw[X];exact B8.out)
           |(have X:b=e:=by omega
             rw[X];exact B4.out)
          have A6:=B6.out;rw[<-A8] at A6;clear A8)
        have A1:Hid (SoS.Sw a b f f3/\SoS.Srt ltC f3 a b):=hZ9 ⟨(P.out.trans (C.out.mono (aA _) (by omega))).trans (Q.mono (by omega) (aA _)),SoS.TU l.out.2.2.2.2 C.out Q T.out B1⟩;have D8:=hZ9 A6;clear Q B1 A6 B4 B8 T C l P B3 B6
        go_wp2
        go_end0
        exact⟨rfl,f3,A1.out,D8.out⟩)
    ·have G3:¬(mid:Int)<(m:Int):=by omega
     go_enter func162,ntmps162
     go_wp2
     go_loopg [20,21] (m-a) (λg1 vi vj wr=>∃(s r:Nat),vi=.int .i64 s/\vj=.int .i64 r/\a<=s/\s<=r/\r<=m/\r-s<=g1/\Hid (s=a\/ltC (f (p-(s-1))) (f (s-1))=false)/\Hid (r=m\/ltC (f (p-r)) (f r)=true)/\Hid (Ce w0 g n sz f wr))
     case atStart=>exact⟨a,m,rfl,rfl,aA _,by omega,aA _,aA _,hZ9 (.inl rfl),hZ9 (.inl rfl),HW⟩
     case round=>
      obtain⟨s,r,rfl,rfl,D3,F5,M,E0,A4,A9,I⟩:=hrel;by_cases D6:s<r
      ·have hz:(s:Int)<(r:Int):=by omega
       obtain⟨c,hc⟩:∃c:Nat,((s:Int)+(r:Int)) / 2=(c:Int):=⟨(s+r) / 2,by omega⟩
       have D5:s<=c:=by omega
       have F8:c<r:=by omega
       obtain⟨pc,G2⟩:∃pc:Nat,(p:Int)-(c:Int)=(pc:Int):=⟨p-c,by omega⟩
       have F9:IntKind.i64.wrap (pc:Int)=(pc:Int):=by rw[IntKind.wrap_i64];omega
       have A5:Hid (p-c=pc):=hZ9 (by omega);obtain⟨A,x,xa,xm,xc,hA,K,cA,v⟩:=I.out.drew.read pc (by omega);obtain⟨B,y,ya,ym,yc,hB,L,R,z⟩:=I.out.drew.read c (by omega);have F:=(E.out pc (by omega)).2;have G:=(E.out c (by omega)).2;rw[K] at F;rw[L] at G;have u:Hid (ltC (f pc) (f c)=decide (DnS.Aq x y<0)):=hZ9 (by rw[K,L];rfl);have o:=NR x y xa xm xc ya ym yc wr.drew (D0.out _ I.out.drew.grown) F G;have E3:(pc:Int)<(n:Int):=by omega
       have D1:(c:Int)<(n:Int):=by omega
       clear K L F G;obtain⟨CB,U⟩:∃c,DnS.Aq x y=c:=⟨_,rfl⟩
       rw[U] at u o;clear U;cases H:decide (CB<0) with
       |true=>
        have B2:CB<0:=b7 H;rw[H] at u;go_wp2_with fail
        go_region_held3 (λW=>W.cell? ⟨g,A,none⟩=some (.string ⟨x.toArray⟩)/\W.cell? ⟨g,A+1,none⟩=some (.slice xa xm xc)/\W.cell? ⟨g,B,none⟩=some (.string ⟨y.toArray⟩)/\W.cell? ⟨g,B+1,none⟩=some (.slice ya ym yc)) (first|exact⟨cA,v,R,z⟩|exact⟨Ab cA d,Ab v d,Ab R d,Ab z d⟩)
         (first|(go_at_call 95;(with_reducible refine o.mono ?_);rintro e w5 ⟨rfl,d⟩))
        all_goals(
         have J:=hZ9 (I.out.drew.call d);clear cA v R z o d hA hB)
        have C2:Hid (c=m\/ltC (f (p-c)) (f c)=true):=hZ9 (.inr (by rw[A5.out];exact u.out));clear A9 u I A5
        go_wp2
        go_roundg (c-s)
        case measure=>omega
        case rel=>exact⟨s,c,rfl,rfl,D3,D5,by omega,aA _,A4,C2,J⟩
       |false=>
        have B2:¬CB<0:=bf H;rw[H] at u;go_wp2_with fail
        go_region_held3 (λW=>W.cell? ⟨g,A,none⟩=some (.string ⟨x.toArray⟩)/\W.cell? ⟨g,A+1,none⟩=some (.slice xa xm xc)/\W.cell? ⟨g,B,none⟩=some (.string ⟨y.toArray⟩)/\W.cell? ⟨g,B+1,none⟩=some (.slice ya ym yc)) (first|exact⟨cA,v,R,z⟩|exact⟨Ab cA d,Ab v d,Ab R d,Ab z d⟩)
         (first|(go_at_call 95;(with_reducible refine o.mono ?_);rintro e w5 ⟨rfl,d⟩))
        all_goals(
         have J:=hZ9 (I.out.drew.call d);clear cA v R z o d hA hB)
        have B9:Hid (c+1=a\/ltC (f (p-(c+1-1))) (f (c+1-1))=false):=hZ9 (.inr (by rw[dZ,A5.out];exact u.out));clear A4 u I A5
        go_wp2
        go_roundg (r-(c+1))
        case measure=>omega
        case rel=>exact⟨c+1,r,by go_num,rfl,by omega,by omega,M,aA _,B9,A9,J⟩
      ·have hz:¬(s:Int)<(r:Int):=by omega
       have A0:s=r:=by omega
       obtain⟨e,he⟩:∃e:Nat,(t:Int)-(s:Int)=(e:Int):=⟨t-s,by omega⟩
       have we:IntKind.i64.wrap (e:Int)=(e:Int):=by rw[IntKind.wrap_i64];omega
       have l:=hZ9 (SoS.Pg Ih C6.out C4.out (λk hk=>E.out k (by omega)) (s:=s) (e:=e) (mid:=mid) (by omega) (by omega) (by omega) (by omega) (by omega)
        (by
          by_cases c1:s=a
          ·exact .inl c1
          by_cases c2:e=b
          ·exact .inr (.inl c2)
          rcases A4.out with h|h
          ·omega
          ·have X:p-(s-1)=e:=by omega
           rw[X] at h;exact .inr (.inr h))
        (by
          by_cases c1:e=m
          ·exact .inl c1
          by_cases c2:s=m
          ·exact .inr (.inl c2)
          rcases A9.out with h|h
          ·omega
          ·have X:p-r=e-1:=by omega
           rw[X,<-A0] at h;exact .inr (.inr (Ih.asym _ _ h))))
       have E4:Hid (∀f1,SoS.Sw a b f f1->∀k,k<n->OkC (f1 k)):=hZ9 (λf1 h=>h.all hb E.out);clear A4 A9 A0;by_cases k1:s<m<;>by_cases k2:s<mid<;>by_cases k3:a<s<;>by_cases k4:e<b
       all_goals first|(exfalso;omega)|skip
       all_goals(
        first|have z1:decide ((s:Int)<(m:Int))=true:=aI (by omega)|have z1:decide ((s:Int)<(m:Int))=false:=aB (by omega)
        first|have z2:decide ((s:Int)<(mid:Int))=true:=aI (by omega)|have z2:decide ((s:Int)<(mid:Int))=false:=aB (by omega)
        first|have z3:decide ((a:Int)<(s:Int))=true:=aI (by omega)|have z3:decide ((a:Int)<(s:Int))=false:=aB (by omega)
        first|have z4:decide ((e:Int)<(b:Int))=true:=aI (by omega)|have z4:decide ((e:Int)<(b:Int))=false:=aB (by omega)
        first|have z5:decide ((m:Int)<(e:Int))=true:=aI (by omega)|have z5:decide ((m:Int)<(e:Int))=false:=aB (by omega)
        first|have z6:decide ((mid:Int)<(e:Int))=true:=aI (by omega)|have z6:decide ((mid:Int)<(e:Int))=false:=aB (by omega)
        first
        |(have hc:s<m/\s<mid:=⟨by omega,by omega⟩
          clear hc;go_wp2_with fail;refine(C8.out s m e (by omega) (by omega) (by omega) f _ I.out).mono ?_;rintro en w1 ⟨rfl,f1,⟨S,V⟩,M⟩;rw[<-S] at l)
        |(obtain⟨f1,S⟩:∃f1,f1=SoS.Ba f s m e:=⟨_,rfl⟩
          have V:SoS.Sw s e f f1:=by rw[S,SoS.LX f (by omega)];exact .refl
          have M:=I.out;rw[<-SoS.LX f (show s=m\/e=m by omega),<-S] at M;rw[<-S] at l)
        have P:Hid (SoS.Sw a b f f1):=hZ9 (V.mono (by omega) (by omega));have B3:=hZ9 M;clear S V M
        first
        |(have hc:a<s/\s<mid:=⟨by omega,by omega⟩
          clear hc;have C5:=λw hw=>IH.out a s mid (by omega) (by omega) (by omega) (by omega) f1 (P.out.all hb E.out) l.out.1 l.out.2.1 w hw;go_wp2_with fail;refine(C5 _ B3.out).mono ?_;rintro en w2 ⟨rfl,f2,⟨Y,B7⟩,A3⟩;clear C5)
        |(obtain⟨f2,A7⟩:∃f2,f2=f1:=⟨_,rfl⟩
          have Y:SoS.Sw a mid f1 f2:=by rw[A7];exact .refl
          have B7:SoS.Srt ltC f2 a mid:=by
           rw[A7]
           first
           |(have X:a=s:=by omega
             rw[X];exact l.out.2.1)
           |(have X:mid=s:=by omega
             rw[X];exact l.out.1)
          have A3:=B3.out;rw[<-A7] at A3;clear A7)
        have T:=hZ9 B7;have C:=hZ9 Y;have B6:=hZ9 A3;have B4:Hid (SoS.Srt ltC f2 mid e):=hZ9 (l.out.2.2.1.congr (λk hk _=>C.out.out k (.inr hk)));have B8:Hid (SoS.Srt ltC f2 e b):=hZ9 (l.out.2.2.2.1.congr (λk hk _=>C.out.out k (.inr (by omega))));clear B7 Y A3
        first
        |(have hc:mid<e/\e<b:=⟨by omega,by omega⟩
          clear hc;have C3:=λw hw=>IH.out mid e b (by omega) (by omega) (by omega) (by omega) f2 ((P.out.trans (C.out.mono (aA _) (by omega))).all hb E.out) B4.out B8.out w hw;go_wp2_with fail;refine(C3 _ B6.out).mono ?_;rintro en w3 ⟨rfl,f3,⟨Q,B1⟩,A6⟩;clear C3)
        |(obtain⟨f3,A8⟩:∃f3,f3=f2:=⟨_,rfl⟩
          have Q:SoS.Sw mid b f2 f3:=by rw[A8];exact .refl
          have B1:SoS.Srt ltC f3 mid b:=by
           rw[A8]
           first
           |(have X:mid=e:=by omega
             rw[X];exact B8.out)
           |(have X:b=e:=by omega
             rw[X];exact B4.out)
          have A6:=B6.out;rw[<-A8] at A6;clear A8)
        have A1:Hid (SoS.Sw a b f f3/\SoS.Srt ltC f3 a b):=hZ9 ⟨(P.out.trans (C.out.mono (aA _) (by omega))).trans (Q.mono (by omega) (aA _)),SoS.TU l.out.2.2.2.2 C.out Q T.out B1⟩;have D8:=hZ9 A6;clear Q B1 A6 B4 B8 T C l P B3 B6
        go_wp2
        go_end0
        exact⟨rfl,f3,A1.out,D8.out⟩)
