/- The walk of slices.symMergeCmpFunc at entries: two sorted parts become one. Conditions: as stated. -/
import Derived.Test.YtgngjfjaelgaeaaGreatDoorJSob
set_option maxRecDepth 1000000
set_option maxHeartbeats 16000000
namespace Go.Proofs.YtgngjfjaelgaeaaGreatDoor
open Go.Proofs.Tryz
open Go.RowKit
attribute [local go_sem ↓] Go.wp_at_zero Go.wp_at_succ
theorem Aal (w0:World) (g n sz cap:Nat) (hsz:n<1000000000) (HE:∀w,w0.grownBy w (some g)->Env w):∀(N a m b:Nat),b - a<=N->a<m->m<b->b<=n->∀(f:Nat->Cel),(∀k,k<n->OkC (f k))->SoS.Srt ltC f a m->SoS.Srt ltC f m b->∀w,BW w0 g n sz f w->
  Calls prog 162 #[.slice (some ⟨g,0,none⟩) n cap,.int .i64 a,.int .i64 m,.int .i64 b,ET] w (Fb w0 g n sz (fun f'=>SoS.Sw a b f f'/\SoS.Srt ltC f' a b)):=by
 have C7:=fun a m b h1 h2 h3 f w hw=>Aee w0 g n sz cap hsz a m b h1 h2 h3 f w hw;unfold Fb ET at*;have C8:=hZ9 C7;have D0:=hZ9 HE;clear C7 HE;intro N
 induction N with
 | zero=>intro a m b h1 h2 h3;omega
 | succ N ih=>
  intro a m b hN H9 H7 hb f E8 E9 F0 w hw;have IH:=hZ9 ih;have HW:=hZ9 hw;have E:=hZ9 E8;have C3:=hZ9 E9;have C6:=hZ9 F0;clear ih hw E8 E9 F0;by_cases h1:m=a+1
  · have E6:(m:Int) - (a:Int)=1:=by omega
    have G6:m<=a+1:=by omega
    have HM:Hid (m=a+1):=hZ9 h1;clear h1;go_enter func162,ntmps162
    go_wp2
    go_loopg [10,11] (b - m) (fun g1 vi vj wr=>∃(i j:Nat),vi=.int .i64 i/\vj=.int .i64 j/\m<=i/\i<=j/\j<=b/\j - i<=g1/\Hid (∀k,m<=k->k<i->ltC (f k) (f a)=true)/\Hid (∀k,j<=k->k<b->ltC (f k) (f a)=false)/\Hid (BW w0 g n sz f wr))
    case atStart=>exact ⟨m,b,rfl,rfl,aA _,by omega,aA _,aA _,hZ9 (fun k h1 h2=>by omega),hZ9 (fun k h1 h2=>by omega),HW⟩
    case round=>
     obtain ⟨i,j,rfl,rfl,C9,F6,E1,D2,O,A7,H⟩:=hrel;by_cases D8:i<j
     · have hz:(i:Int)<(j:Int):=by omega
       obtain ⟨h,hh⟩:∃h:Nat,((i:Int)+(j:Int)) / 2=(h:Int):=⟨(i+j) / 2,by omega⟩
       have D7:i<=h:=by omega
       have F8:h<j:=by omega
       obtain ⟨A,x,xa,xm,xc,hA,J,cA,v⟩:=H.out.drew.read h (by omega);obtain ⟨B,y,ya,ym,yc,hB,L,S,z⟩:=H.out.drew.read a (by omega);have G:=(E.out h (by omega)).2;have F:=(E.out a (by omega)).2;rw [J] at G;rw [L] at F;have u:Hid (ltC (f h) (f a)=decide (DnS.Am x y<0)):=hZ9 (by rw [J,L];rfl);have o:=Np x y xa xm xc ya ym yc wr.drew (D0.out _ H.out.drew.grown) G F;have D9:(h:Int)<(n:Int):=by omega
       have D5:(a:Int)<(n:Int):=by omega
       clear J L G F;obtain ⟨CB,U⟩:∃c,DnS.Am x y=c:=⟨_,rfl⟩
       rw [U] at u o;clear U;cases I:decide (CB<0) with
       | true=>
        have B6:CB<0:=bB I;rw [I] at u;go_wp2_with fail
        go_region_held3 (fun W=>W.cell? ⟨g,A,none⟩=some (.string ⟨x.toArray⟩)/\W.cell? ⟨g,A+1,none⟩=some (.slice xa xm xc)/\W.cell? ⟨g,B,none⟩=some (.string ⟨y.toArray⟩)/\W.cell? ⟨g,B+1,none⟩=some (.slice ya ym yc)) (first | exact ⟨cA,v,S,z⟩ | exact ⟨Ab cA d,Ab v d,Ab S d,Ab z d⟩)
         (first | (go_at_call 95;(with_reducible refine o.mono ?_);rintro e w5 ⟨rfl,d⟩))
        all_goals (
         have K:=hZ9 (H.out.drew.call d);clear cA v S z o d hA hB)
        have E3:Hid (∀k,m<=k->k<h+1->ltC (f k) (f a)=true):=hZ9 (fun k h1 h2=>SoS.Aeb Ia C6.out (fun k hk=>E.out k (by omega)) (E.out a (by omega)) (by omega) (by omega) u.out k h1 (by omega));clear O u H
        go_wp2
        go_roundg (j - (h+1))
        case measure=>omega
        case rel=>exact ⟨h+1,j,by go_num,rfl,by omega,by omega,E1,aA _,E3,A7,K⟩
       | false=>
        have B6:¬CB<0:=ba I;rw [I] at u;go_wp2_with fail
        go_region_held3 (fun W=>W.cell? ⟨g,A,none⟩=some (.string ⟨x.toArray⟩)/\W.cell? ⟨g,A+1,none⟩=some (.slice xa xm xc)/\W.cell? ⟨g,B,none⟩=some (.string ⟨y.toArray⟩)/\W.cell? ⟨g,B+1,none⟩=some (.slice ya ym yc)) (first | exact ⟨cA,v,S,z⟩ | exact ⟨Ab cA d,Ab v d,Ab S d,Ab z d⟩)
         (first | (go_at_call 95;(with_reducible refine o.mono ?_);rintro e w5 ⟨rfl,d⟩))
        all_goals (
         have K:=hZ9 (H.out.drew.call d);clear cA v S z o d hA hB)
        have D6:Hid (∀k,h<=k->k<b->ltC (f k) (f a)=false):=hZ9 (fun k h1 h2=>SoS.Afw Ia C6.out (fun k hk=>E.out k (by omega)) (E.out a (by omega)) (by omega) (by omega) u.out k h1 h2);clear A7 u H
        go_wp2
        go_roundg (h - i)
        case measure=>omega
        case rel=>exact ⟨i,h,rfl,rfl,C9,D7,by omega,aA _,O,D6,K⟩
     · have hz:¬(i:Int)<(j:Int):=by omega
       have B9:Hid (SoS.Srt ltC (SoS.AZ f a (a+1) i) a b):=hZ9 (SoS.Xy Ia (by rw [<-HM.out];exact C6.out) (by omega) (by omega) (fun k h1 h2=>O.out k (by omega) h2) (fun k h1 h2=>A7.out k (by omega) h2));clear O A7;obtain ⟨ip,H5⟩:∃ip:Nat,(i:Int) - 1=(ip:Int):=⟨i - 1,by omega⟩
       have H8:IntKind.i64.wrap (ip:Int)=(ip:Int):=by rw [IntKind.wrap_i64];omega
       have F5:Hid (i=ip+1):=hZ9 (by omega)
       go_wp2
       go_loopg [13] (ip - a) (fun g1 vk wr=>∃(k:Nat),vk=.int .i64 k/\a<=k/\k<=ip/\ip - k<=g1/\Hid (SoS.Sw a b f (SoS.AZ f a (a+1) (k+1)))/\Hid (BW w0 g n sz (SoS.AZ f a (a+1) (k+1)) wr))
       case atStart=>exact ⟨a,rfl,aA _,by omega,aA _,hZ9 (by rw [SoS.SU];exact .refl),hZ9 (by rw [SoS.SU];exact H.out)⟩
       case round=>
        obtain ⟨k,rfl,E2,F7,G2,B1,T⟩:=hrel;clear H;by_cases E5:k<ip
        · have D1:(k:Int)<(ip:Int):=by omega
          obtain ⟨A,B,x1,xa,xm,xc,y1,ya,ym,yc,⟨hA,hB⟩,⟨n1,n2,n3,n4,n5,n6⟩,⟨c1,c2,c3,c4⟩,⟨f1,f2,f3,f4⟩,Y⟩:=T.out.exch k (k+1) (by omega) (by omega) (by omega);rw [SoS.Wy f E2] at Y;have C0:=hZ9 Y;have C:Hid (SoS.Sw a b f (SoS.AZ f a (a+1) (k+1+1))):=hZ9 (by rw [<-SoS.Wy f E2];exact .swp B1.out (by omega) (by omega) (by omega) (by omega));clear Y B1 T;have jk:(k:Int)<(n:Int):=by omega
          have G4:(k:Int)+1<(n:Int):=by omega
          have ek:((k:Int)+1).toNat=k+1:=by omega
          have j0:(0:Int)<=(k:Int)+1:=by omega
          go_wp2
          go_region
          all_goals go_wp2
          go_roundg (ip - (k+1))
          case measure=>omega
          case rel=>exact ⟨k+1,by go_num,by omega,by omega,aA _,C,C0⟩
        · have D1:¬(k:Int)<(ip:Int):=by omega
          have HK:Hid (k+1=i):=hZ9 (by rw [F5.out];omega)
          go_wp2
          (try simp only [Exit.inBlock,Exit.then])
          refine bodyPost_ret (results_none rfl _ _ _) rfl ?_;exact ⟨rfl,_,⟨B1.out,by rw [HK.out];exact B9.out⟩,T.out⟩
  · have E6:∃q:Nat,(m:Int) - (a:Int)=(q:Int)/\2<=q:=⟨m - a,by omega,by omega⟩
    obtain ⟨q,hq,G9⟩:=E6;have H2:((q:Int)==1)=false:=by rw [aV];omega
    have wq:IntKind.i64.wrap (q:Int)=(q:Int):=by rw [IntKind.wrap_i64];omega
    by_cases h2:b=m+1
    · have E7:(b:Int) - (m:Int)=1:=by omega
      have G5:b<=m+1:=by omega
      have HB:Hid (b=m+1):=hZ9 h2;clear h2;go_enter func162,ntmps162
      go_wp2
      go_loopg [14,15] (m - a) (fun g1 vi vj wr=>∃(i j:Nat),vi=.int .i64 i/\vj=.int .i64 j/\a<=i/\i<=j/\j<=m/\j - i<=g1/\Hid (∀k,a<=k->k<i->ltC (f m) (f k)=false)/\Hid (∀k,j<=k->k<m->ltC (f m) (f k)=true)/\Hid (BW w0 g n sz f wr))
      case atStart=>exact ⟨a,m,rfl,rfl,aA _,by omega,aA _,aA _,hZ9 (fun k h1 h2=>by omega),hZ9 (fun k h1 h2=>by omega),HW⟩
      case round=>
       obtain ⟨i,j,rfl,rfl,C9,F6,E1,D2,A7,O,H⟩:=hrel;by_cases D8:i<j
       · have hz:(i:Int)<(j:Int):=by omega
         obtain ⟨h,hh⟩:∃h:Nat,((i:Int)+(j:Int)) / 2=(h:Int):=⟨(i+j) / 2,by omega⟩
         have D7:i<=h:=by omega
         have F8:h<j:=by omega
         obtain ⟨A,x,xa,xm,xc,hA,J,cA,v⟩:=H.out.drew.read m (by omega);obtain ⟨B,y,ya,ym,yc,hB,L,S,z⟩:=H.out.drew.read h (by omega);have G:=(E.out m (by omega)).2;have F:=(E.out h (by omega)).2;rw [J] at G;rw [L] at F;have u:Hid (ltC (f m) (f h)=decide (DnS.Am x y<0)):=hZ9 (by rw [J,L];rfl);have o:=Np x y xa xm xc ya ym yc wr.drew (D0.out _ H.out.drew.grown) G F;have D9:(m:Int)<(n:Int):=by omega
         have D5:(h:Int)<(n:Int):=by omega
         clear J L G F;obtain ⟨CB,U⟩:∃c,DnS.Am x y=c:=⟨_,rfl⟩
         rw [U] at u o;clear U;cases I:decide (CB<0) with
         | true=>
          have B6:CB<0:=bB I;rw [I] at u;go_wp2_with fail
          go_region_held3 (fun W=>W.cell? ⟨g,A,none⟩=some (.string ⟨x.toArray⟩)/\W.cell? ⟨g,A+1,none⟩=some (.slice xa xm xc)/\W.cell? ⟨g,B,none⟩=some (.string ⟨y.toArray⟩)/\W.cell? ⟨g,B+1,none⟩=some (.slice ya ym yc)) (first | exact ⟨cA,v,S,z⟩ | exact ⟨Ab cA d,Ab v d,Ab S d,Ab z d⟩)
           (first | (go_at_call 95;(with_reducible refine o.mono ?_);rintro e w5 ⟨rfl,d⟩))
          all_goals (
           have K:=hZ9 (H.out.drew.call d);clear cA v S z o d hA hB)
          have E3:Hid (∀k,h<=k->k<m->ltC (f m) (f k)=true):=hZ9 (fun k h1 h2=>SoS.Ac6 Ia C3.out (fun k hk=>E.out k (by omega)) (E.out m (by omega)) (by omega) (by omega) u.out k h1 h2);clear O u H
          go_wp2
          go_roundg (h - i)
          case measure=>omega
          case rel=>exact ⟨i,h,rfl,rfl,C9,D7,by omega,aA _,A7,E3,K⟩
         | false=>
          have B6:¬CB<0:=ba I;rw [I] at u;go_wp2_with fail
          go_region_held3 (fun W=>W.cell? ⟨g,A,none⟩=some (.string ⟨x.toArray⟩)/\W.cell? ⟨g,A+1,none⟩=some (.slice xa xm xc)/\W.cell? ⟨g,B,none⟩=some (.string ⟨y.toArray⟩)/\W.cell? ⟨g,B+1,none⟩=some (.slice ya ym yc)) (first | exact ⟨cA,v,S,z⟩ | exact ⟨Ab cA d,Ab v d,Ab S d,Ab z d⟩)
           (first | (go_at_call 95;(with_reducible refine o.mono ?_);rintro e w5 ⟨rfl,d⟩))
          all_goals (
           have K:=hZ9 (H.out.drew.call d);clear cA v S z o d hA hB)
          have D6:Hid (∀k,a<=k->k<h+1->ltC (f m) (f k)=false):=hZ9 (fun k h1 h2=>SoS.Aec Ia C3.out (fun k hk=>E.out k (by omega)) (E.out m (by omega)) (by omega) (by omega) u.out k h1 (by omega));clear A7 u H
          go_wp2
          go_roundg (j - (h+1))
          case measure=>omega
          case rel=>exact ⟨h+1,j,by go_num,rfl,by omega,by omega,E1,aA _,D6,O,K⟩
       · have hz:¬(i:Int)<(j:Int):=by omega
         have B9:Hid (SoS.Srt ltC (SoS.AZ f i m (m+1)) a (m+1)):=hZ9 (SoS.Aai Ia C3.out C9 (by omega) (fun k h1 h2=>A7.out k h1 h2) (fun k h1 h2=>O.out k (by omega) h2));clear O A7
         go_wp2
         go_loopg [17] (m - i) (fun g1 vk wr=>∃(k:Nat),vk=.int .i64 k/\i<=k/\k<=m/\k - i<=g1/\Hid (SoS.Sw a b f (SoS.AZ f k m (m+1)))/\Hid (BW w0 g n sz (SoS.AZ f k m (m+1)) wr))
         case atStart=>exact ⟨m,rfl,by omega,aA _,aA _,hZ9 (by rw [SoS.Qy];exact .refl),hZ9 (by rw [SoS.Qy];exact H.out)⟩
         case round=>
          obtain ⟨k,rfl,E2,F7,G2,B1,T⟩:=hrel;clear H;by_cases E5:i<k
          · have D1:(i:Int)<(k:Int):=by omega
            obtain ⟨kp,H3⟩:∃kp:Nat,(k:Int) - 1=(kp:Int):=⟨k - 1,by omega⟩
            have H1:IntKind.i64.wrap (kp:Int)=(kp:Int):=by rw [IntKind.wrap_i64];omega
            have G1:Hid (k=kp+1):=hZ9 (by omega);obtain ⟨A,B,x1,xa,xm,xc,y1,ya,ym,yc,⟨hA,hB⟩,⟨n1,n2,n3,n4,n5,n6⟩,⟨c1,c2,c3,c4⟩,⟨f1,f2,f3,f4⟩,Y⟩:=T.out.exch k kp (by omega) (by omega) (by omega);have A1:SoS.Dq (SoS.AZ f k m (m+1)) k kp=SoS.AZ f kp m (m+1):=by rw [G1.out];exact SoS.Ac5 f (by omega)
            have C:Hid (SoS.Sw a b f (SoS.AZ f kp m (m+1))):=hZ9 (by rw [<-A1];exact .swp B1.out (by omega) (by omega) (by omega) (by omega));rw [A1] at Y;have C0:=hZ9 Y;clear Y B1 T A1;have jk:(k:Int)<(n:Int):=by omega
            have G4:(kp:Int)<(n:Int):=by omega
            go_wp2
            go_region
            all_goals go_wp2
            go_roundg (kp - i)
            case measure=>omega
            case rel=>exact ⟨kp,rfl,by omega,by omega,aA _,C,C0⟩
          · have D1:¬(i:Int)<(k:Int):=by omega
            have HK:Hid (k=i):=hZ9 (by omega)
            go_wp2
            (try simp only [Exit.inBlock,Exit.then])
            refine bodyPost_ret (results_none rfl _ _ _) rfl ?_;exact ⟨rfl,_,⟨B1.out,by rw [HB.out,HK.out];exact B9.out⟩,T.out⟩
    · have E7:∃q:Nat,(b:Int) - (m:Int)=(q:Int)/\2<=q:=⟨b - m,by omega,by omega⟩
      obtain ⟨r,hr,A3⟩:=E7;have P:((r:Int)==1)=false:=by rw [aV];omega
      have G8:IntKind.i64.wrap (r:Int)=(r:Int):=by rw [IntKind.wrap_i64];omega
      obtain ⟨mid,G7⟩:∃mid:Nat,((a:Int)+(b:Int)) / 2=(mid:Int):=⟨(a+b) / 2,by omega⟩
      have F1:a<mid:=by omega
      have F2:mid<b:=by omega
      obtain ⟨t,ht⟩:∃t:Nat,(mid:Int)+(m:Int)=(t:Int):=⟨mid+m,by omega⟩
      have wt:IntKind.i64.wrap (t:Int)=(t:Int):=by rw [IntKind.wrap_i64];omega
      obtain ⟨p,hp⟩:∃p:Nat,(t:Int) - 1=(p:Int):=⟨t - 1,by omega⟩
      have wp:IntKind.i64.wrap (p:Int)=(p:Int):=by rw [IntKind.wrap_i64];omega
      by_cases H6:mid<m
      · have G0:(mid:Int)<(m:Int):=by omega
        obtain ⟨s0,H4⟩:∃s0:Nat,(t:Int) - (b:Int)=(s0:Int):=⟨t - b,by omega⟩
        have H0:IntKind.i64.wrap (s0:Int)=(s0:Int):=by rw [IntKind.wrap_i64];omega
        go_enter func162,ntmps162
        go_wp2
        go_loopg [20,21] (mid - s0) (fun g1 vi vj wr=>∃(s r:Nat),vi=.int .i64 s/\vj=.int .i64 r/\s0<=s/\s<=r/\r<=mid/\r - s<=g1/\Hid (s=s0\/ltC (f (p - (s - 1))) (f (s - 1))=false)/\Hid (r=mid\/ltC (f (p - r)) (f r)=true)/\Hid (BW w0 g n sz f wr))
        case atStart=>exact ⟨s0,mid,rfl,rfl,aA _,by omega,aA _,aA _,hZ9 (.inl rfl),hZ9 (.inl rfl),HW⟩
        case round=>
         obtain ⟨s,r,rfl,rfl,E0,F9,P,D2,B0,A8,H⟩:=hrel;by_cases D8:s<r
         · have hz:(s:Int)<(r:Int):=by omega
           obtain ⟨c,hc⟩:∃c:Nat,((s:Int)+(r:Int)) / 2=(c:Int):=⟨(s+r) / 2,by omega⟩
           have D4:s<=c:=by omega
           have F3:c<r:=by omega
           obtain ⟨pc,F4⟩:∃pc:Nat,(p:Int) - (c:Int)=(pc:Int):=⟨p - c,by omega⟩
           have G3:IntKind.i64.wrap (pc:Int)=(pc:Int):=by rw [IntKind.wrap_i64];omega
           have A5:Hid (p - c=pc):=hZ9 (by omega);obtain ⟨A,x,xa,xm,xc,hA,J,cA,v⟩:=H.out.drew.read pc (by omega);obtain ⟨B,y,ya,ym,yc,hB,L,S,z⟩:=H.out.drew.read c (by omega);have G:=(E.out pc (by omega)).2;have F:=(E.out c (by omega)).2;rw [J] at G;rw [L] at F;have u:Hid (ltC (f pc) (f c)=decide (DnS.Am x y<0)):=hZ9 (by rw [J,L];rfl);have o:=Np x y xa xm xc ya ym yc wr.drew (D0.out _ H.out.drew.grown) G F;have D9:(pc:Int)<(n:Int):=by omega
           have D5:(c:Int)<(n:Int):=by omega
           clear J L G F;obtain ⟨CB,U⟩:∃c,DnS.Am x y=c:=⟨_,rfl⟩
           rw [U] at u o;clear U;cases I:decide (CB<0) with
           | true=>
            have B6:CB<0:=bB I;rw [I] at u;go_wp2_with fail
            go_region_held3 (fun W=>W.cell? ⟨g,A,none⟩=some (.string ⟨x.toArray⟩)/\W.cell? ⟨g,A+1,none⟩=some (.slice xa xm xc)/\W.cell? ⟨g,B,none⟩=some (.string ⟨y.toArray⟩)/\W.cell? ⟨g,B+1,none⟩=some (.slice ya ym yc)) (first | exact ⟨cA,v,S,z⟩ | exact ⟨Ab cA d,Ab v d,Ab S d,Ab z d⟩)
             (first | (go_at_call 95;(with_reducible refine o.mono ?_);rintro e w5 ⟨rfl,d⟩))
            all_goals (
             have K:=hZ9 (H.out.drew.call d);clear cA v S z o d hA hB)
            have C1:Hid (c=mid\/ltC (f (p - c)) (f c)=true):=hZ9 (.inr (by rw [A5.out];exact u.out));clear A8 u H A5
            go_wp2
            go_roundg (c - s)
            case measure=>omega
            case rel=>exact ⟨s,c,rfl,rfl,E0,D4,by omega,aA _,B0,C1,K⟩
           | false=>
            have B6:¬CB<0:=ba I;rw [I] at u;go_wp2_with fail
            go_region_held3 (fun W=>W.cell? ⟨g,A,none⟩=some (.string ⟨x.toArray⟩)/\W.cell? ⟨g,A+1,none⟩=some (.slice xa xm xc)/\W.cell? ⟨g,B,none⟩=some (.string ⟨y.toArray⟩)/\W.cell? ⟨g,B+1,none⟩=some (.slice ya ym yc)) (first | exact ⟨cA,v,S,z⟩ | exact ⟨Ab cA d,Ab v d,Ab S d,Ab z d⟩)
             (first | (go_at_call 95;(with_reducible refine o.mono ?_);rintro e w5 ⟨rfl,d⟩))
            all_goals (
             have K:=hZ9 (H.out.drew.call d);clear cA v S z o d hA hB)
            have C2:Hid (c+1=s0\/ltC (f (p - (c+1 - 1))) (f (c+1 - 1))=false):=hZ9 (.inr (by rw [eB,A5.out];exact u.out));clear B0 u H A5
            go_wp2
            go_roundg (r - (c+1))
            case measure=>omega
            case rel=>exact ⟨c+1,r,by go_num,rfl,by omega,by omega,P,aA _,C2,A8,K⟩
         · have hz:¬(s:Int)<(r:Int):=by omega
           have A0:s=r:=by omega
           obtain ⟨e,he⟩:∃e:Nat,(t:Int) - (s:Int)=(e:Int):=⟨t - s,by omega⟩
           have we:IntKind.i64.wrap (e:Int)=(e:Int):=by rw [IntKind.wrap_i64];omega
           have l:=hZ9 (SoS.Ov Ia C3.out C6.out (fun k hk=>E.out k (by omega)) (s:=s) (e:=e) (mid:=mid) (by omega) (by omega) (by omega) (by omega) (by omega)
            (by
              by_cases c1:s=a
              · exact .inl c1
              by_cases c2:e=b
              · exact .inr (.inl c2)
              rcases B0.out with h | h
              · omega
              · have V:p - (s - 1)=e:=by omega
                rw [V] at h;exact .inr (.inr h))
            (by
              by_cases c1:e=m
              · exact .inl c1
              by_cases c2:s=m
              · exact .inr (.inl c2)
              rcases A8.out with h | h
              · omega
              · have V:p - r=e - 1:=by omega
                rw [V,<-A0] at h;exact .inr (.inr (Ia.asym _ _ h))))
           have E4:Hid (∀f1,SoS.Sw a b f f1->∀k,k<n->OkC (f1 k)):=hZ9 (fun f1 h=>h.all hb E.out);clear B0 A8 A0;by_cases k1:s<m <;> by_cases k2:s<mid <;> by_cases k3:a<s <;> by_cases k4:e<b
           all_goals first | (exfalso;omega) | skip
           all_goals (
            first | have z1:decide ((s:Int)<(m:Int))=true:=aL (by omega) | have z1:decide ((s:Int)<(m:Int))=false:=aC (by omega)
            first | have z2:decide ((s:Int)<(mid:Int))=true:=aL (by omega) | have z2:decide ((s:Int)<(mid:Int))=false:=aC (by omega)
            first | have z3:decide ((a:Int)<(s:Int))=true:=aL (by omega) | have z3:decide ((a:Int)<(s:Int))=false:=aC (by omega)
            first | have z4:decide ((e:Int)<(b:Int))=true:=aL (by omega) | have z4:decide ((e:Int)<(b:Int))=false:=aC (by omega)
            first | have z5:decide ((m:Int)<(e:Int))=true:=aL (by omega) | have z5:decide ((m:Int)<(e:Int))=false:=aC (by omega)
            first | have z6:decide ((mid:Int)<(e:Int))=true:=aL (by omega) | have z6:decide ((mid:Int)<(e:Int))=false:=aC (by omega)
            first
            | (have hc:s<m/\s<mid:=⟨by omega,by omega⟩
               clear hc;go_wp2_with fail;refine (C8.out s m e (by omega) (by omega) (by omega) f _ H.out).mono ?_;rintro en w1 ⟨rfl,f1,⟨R,X⟩,P⟩;rw [<-R] at l)
            | (obtain ⟨f1,R⟩:∃f1,f1=SoS.AZ f s m e:=⟨_,rfl⟩
               have X:SoS.Sw s e f f1:=by rw [R,SoS.Ls f (by omega)];exact .refl
               have P:=H.out;rw [<-SoS.Ls f (show s=m\/e=m by omega),<-R] at P;rw [<-R] at l)
            have Q:Hid (SoS.Sw a b f f1):=hZ9 (X.mono (by omega) (by omega));have B8:=hZ9 P;clear R X P
            first
            | (have hc:a<s/\s<mid:=⟨by omega,by omega⟩
               clear hc;have C5:=fun w hw=>IH.out a s mid (by omega) (by omega) (by omega) (by omega) f1 (Q.out.all hb E.out) l.out.1 l.out.2.1 w hw;go_wp2_with fail;refine (C5 _ B8.out).mono ?_;rintro en w2 ⟨rfl,f2,⟨Z,B3⟩,A3⟩;clear C5)
            | (obtain ⟨f2,A9⟩:∃f2,f2=f1:=⟨_,rfl⟩
               have Z:SoS.Sw a mid f1 f2:=by rw [A9];exact .refl
               have B3:SoS.Srt ltC f2 a mid:=by
                rw [A9]
                first
                | (have V:a=s:=by omega
                   rw [V];exact l.out.2.1)
                | (have V:mid=s:=by omega
                   rw [V];exact l.out.1)
               have A3:=B8.out;rw [<-A9] at A3;clear A9)
            have T:=hZ9 B3;have C:=hZ9 Z;have B7:=hZ9 A3;have B5:Hid (SoS.Srt ltC f2 mid e):=hZ9 (l.out.2.2.1.congr (fun k hk _=>C.out.out k (.inr hk)));have B4:Hid (SoS.Srt ltC f2 e b):=hZ9 (l.out.2.2.2.1.congr (fun k hk _=>C.out.out k (.inr (by omega))));clear B3 Z A3
            first
            | (have hc:mid<e/\e<b:=⟨by omega,by omega⟩
               clear hc;have C4:=fun w hw=>IH.out mid e b (by omega) (by omega) (by omega) (by omega) f2 ((Q.out.trans (C.out.mono (aA _) (by omega))).all hb E.out) B5.out B4.out w hw;go_wp2_with fail;refine (C4 _ B7.out).mono ?_;rintro en w3 ⟨rfl,f3,⟨M,B2⟩,A4⟩;clear C4)
            | (obtain ⟨f3,A6⟩:∃f3,f3=f2:=⟨_,rfl⟩
               have M:SoS.Sw mid b f2 f3:=by rw [A6];exact .refl
               have B2:SoS.Srt ltC f3 mid b:=by
                rw [A6]
                first
                | (have V:mid=e:=by omega
                   rw [V];exact B4.out)
                | (have V:b=e:=by omega
                   rw [V];exact B5.out)
               have A4:=B7.out;rw [<-A6] at A4;clear A6)
            have A2:Hid (SoS.Sw a b f f3/\SoS.Srt ltC f3 a b):=hZ9 ⟨(Q.out.trans (C.out.mono (aA _) (by omega))).trans (M.mono (by omega) (aA _)),SoS.SX l.out.2.2.2.2 C.out M T.out B2⟩;have D3:=hZ9 A4;clear M B2 A4 B5 B4 T C l Q B8 B7
            go_wp2
            go_end0
            exact ⟨rfl,f3,A2.out,D3.out⟩)
      · have G0:¬(mid:Int)<(m:Int):=by omega
        go_enter func162,ntmps162
        go_wp2
        go_loopg [20,21] (m - a) (fun g1 vi vj wr=>∃(s r:Nat),vi=.int .i64 s/\vj=.int .i64 r/\a<=s/\s<=r/\r<=m/\r - s<=g1/\Hid (s=a\/ltC (f (p - (s - 1))) (f (s - 1))=false)/\Hid (r=m\/ltC (f (p - r)) (f r)=true)/\Hid (BW w0 g n sz f wr))
        case atStart=>exact ⟨a,m,rfl,rfl,aA _,by omega,aA _,aA _,hZ9 (.inl rfl),hZ9 (.inl rfl),HW⟩
        case round=>
         obtain ⟨s,r,rfl,rfl,E0,F9,P,D2,B0,A8,H⟩:=hrel;by_cases D8:s<r
         · have hz:(s:Int)<(r:Int):=by omega
           obtain ⟨c,hc⟩:∃c:Nat,((s:Int)+(r:Int)) / 2=(c:Int):=⟨(s+r) / 2,by omega⟩
           have D4:s<=c:=by omega
           have F3:c<r:=by omega
           obtain ⟨pc,F4⟩:∃pc:Nat,(p:Int) - (c:Int)=(pc:Int):=⟨p - c,by omega⟩
           have G3:IntKind.i64.wrap (pc:Int)=(pc:Int):=by rw [IntKind.wrap_i64];omega
           have A5:Hid (p - c=pc):=hZ9 (by omega);obtain ⟨A,x,xa,xm,xc,hA,J,cA,v⟩:=H.out.drew.read pc (by omega);obtain ⟨B,y,ya,ym,yc,hB,L,S,z⟩:=H.out.drew.read c (by omega);have G:=(E.out pc (by omega)).2;have F:=(E.out c (by omega)).2;rw [J] at G;rw [L] at F;have u:Hid (ltC (f pc) (f c)=decide (DnS.Am x y<0)):=hZ9 (by rw [J,L];rfl);have o:=Np x y xa xm xc ya ym yc wr.drew (D0.out _ H.out.drew.grown) G F;have D9:(pc:Int)<(n:Int):=by omega
           have D5:(c:Int)<(n:Int):=by omega
           clear J L G F;obtain ⟨CB,U⟩:∃c,DnS.Am x y=c:=⟨_,rfl⟩
           rw [U] at u o;clear U;cases I:decide (CB<0) with
           | true=>
            have B6:CB<0:=bB I;rw [I] at u;go_wp2_with fail
            go_region_held3 (fun W=>W.cell? ⟨g,A,none⟩=some (.string ⟨x.toArray⟩)/\W.cell? ⟨g,A+1,none⟩=some (.slice xa xm xc)/\W.cell? ⟨g,B,none⟩=some (.string ⟨y.toArray⟩)/\W.cell? ⟨g,B+1,none⟩=some (.slice ya ym yc)) (first | exact ⟨cA,v,S,z⟩ | exact ⟨Ab cA d,Ab v d,Ab S d,Ab z d⟩)
             (first | (go_at_call 95;(with_reducible refine o.mono ?_);rintro e w5 ⟨rfl,d⟩))
            all_goals (
             have K:=hZ9 (H.out.drew.call d);clear cA v S z o d hA hB)
            have C1:Hid (c=m\/ltC (f (p - c)) (f c)=true):=hZ9 (.inr (by rw [A5.out];exact u.out));clear A8 u H A5
            go_wp2
            go_roundg (c - s)
            case measure=>omega
            case rel=>exact ⟨s,c,rfl,rfl,E0,D4,by omega,aA _,B0,C1,K⟩
           | false=>
            have B6:¬CB<0:=ba I;rw [I] at u;go_wp2_with fail
            go_region_held3 (fun W=>W.cell? ⟨g,A,none⟩=some (.string ⟨x.toArray⟩)/\W.cell? ⟨g,A+1,none⟩=some (.slice xa xm xc)/\W.cell? ⟨g,B,none⟩=some (.string ⟨y.toArray⟩)/\W.cell? ⟨g,B+1,none⟩=some (.slice ya ym yc)) (first | exact ⟨cA,v,S,z⟩ | exact ⟨Ab cA d,Ab v d,Ab S d,Ab z d⟩)
             (first | (go_at_call 95;(with_reducible refine o.mono ?_);rintro e w5 ⟨rfl,d⟩))
            all_goals (
             have K:=hZ9 (H.out.drew.call d);clear cA v S z o d hA hB)
            have C2:Hid (c+1=a\/ltC (f (p - (c+1 - 1))) (f (c+1 - 1))=false):=hZ9 (.inr (by rw [eB,A5.out];exact u.out));clear B0 u H A5
            go_wp2
            go_roundg (r - (c+1))
            case measure=>omega
            case rel=>exact ⟨c+1,r,by go_num,rfl,by omega,by omega,P,aA _,C2,A8,K⟩
         · have hz:¬(s:Int)<(r:Int):=by omega
           have A0:s=r:=by omega
           obtain ⟨e,he⟩:∃e:Nat,(t:Int) - (s:Int)=(e:Int):=⟨t - s,by omega⟩
           have we:IntKind.i64.wrap (e:Int)=(e:Int):=by rw [IntKind.wrap_i64];omega
           have l:=hZ9 (SoS.Ov Ia C3.out C6.out (fun k hk=>E.out k (by omega)) (s:=s) (e:=e) (mid:=mid) (by omega) (by omega) (by omega) (by omega) (by omega)
            (by
              by_cases c1:s=a
              · exact .inl c1
              by_cases c2:e=b
              · exact .inr (.inl c2)
              rcases B0.out with h | h
              · omega
              · have V:p - (s - 1)=e:=by omega
                rw [V] at h;exact .inr (.inr h))
            (by
              by_cases c1:e=m
              · exact .inl c1
              by_cases c2:s=m
              · exact .inr (.inl c2)
              rcases A8.out with h | h
              · omega
              · have V:p - r=e - 1:=by omega
                rw [V,<-A0] at h;exact .inr (.inr (Ia.asym _ _ h))))
           have E4:Hid (∀f1,SoS.Sw a b f f1->∀k,k<n->OkC (f1 k)):=hZ9 (fun f1 h=>h.all hb E.out);clear B0 A8 A0;by_cases k1:s<m <;> by_cases k2:s<mid <;> by_cases k3:a<s <;> by_cases k4:e<b
           all_goals first | (exfalso;omega) | skip
           all_goals (
            first | have z1:decide ((s:Int)<(m:Int))=true:=aL (by omega) | have z1:decide ((s:Int)<(m:Int))=false:=aC (by omega)
            first | have z2:decide ((s:Int)<(mid:Int))=true:=aL (by omega) | have z2:decide ((s:Int)<(mid:Int))=false:=aC (by omega)
            first | have z3:decide ((a:Int)<(s:Int))=true:=aL (by omega) | have z3:decide ((a:Int)<(s:Int))=false:=aC (by omega)
            first | have z4:decide ((e:Int)<(b:Int))=true:=aL (by omega) | have z4:decide ((e:Int)<(b:Int))=false:=aC (by omega)
            first | have z5:decide ((m:Int)<(e:Int))=true:=aL (by omega) | have z5:decide ((m:Int)<(e:Int))=false:=aC (by omega)
            first | have z6:decide ((mid:Int)<(e:Int))=true:=aL (by omega) | have z6:decide ((mid:Int)<(e:Int))=false:=aC (by omega)
            first
            | (have hc:s<m/\s<mid:=⟨by omega,by omega⟩
               clear hc;go_wp2_with fail;refine (C8.out s m e (by omega) (by omega) (by omega) f _ H.out).mono ?_;rintro en w1 ⟨rfl,f1,⟨R,X⟩,P⟩;rw [<-R] at l)
            | (obtain ⟨f1,R⟩:∃f1,f1=SoS.AZ f s m e:=⟨_,rfl⟩
               have X:SoS.Sw s e f f1:=by rw [R,SoS.Ls f (by omega)];exact .refl
               have P:=H.out;rw [<-SoS.Ls f (show s=m\/e=m by omega),<-R] at P;rw [<-R] at l)
            have Q:Hid (SoS.Sw a b f f1):=hZ9 (X.mono (by omega) (by omega));have B8:=hZ9 P;clear R X P
            first
            | (have hc:a<s/\s<mid:=⟨by omega,by omega⟩
               clear hc;have C5:=fun w hw=>IH.out a s mid (by omega) (by omega) (by omega) (by omega) f1 (Q.out.all hb E.out) l.out.1 l.out.2.1 w hw;go_wp2_with fail;refine (C5 _ B8.out).mono ?_;rintro en w2 ⟨rfl,f2,⟨Z,B3⟩,A3⟩;clear C5)
            | (obtain ⟨f2,A9⟩:∃f2,f2=f1:=⟨_,rfl⟩
               have Z:SoS.Sw a mid f1 f2:=by rw [A9];exact .refl
               have B3:SoS.Srt ltC f2 a mid:=by
                rw [A9]
                first
                | (have V:a=s:=by omega
                   rw [V];exact l.out.2.1)
                | (have V:mid=s:=by omega
                   rw [V];exact l.out.1)
               have A3:=B8.out;rw [<-A9] at A3;clear A9)
            have T:=hZ9 B3;have C:=hZ9 Z;have B7:=hZ9 A3;have B5:Hid (SoS.Srt ltC f2 mid e):=hZ9 (l.out.2.2.1.congr (fun k hk _=>C.out.out k (.inr hk)));have B4:Hid (SoS.Srt ltC f2 e b):=hZ9 (l.out.2.2.2.1.congr (fun k hk _=>C.out.out k (.inr (by omega))));clear B3 Z A3
            first
            | (have hc:mid<e/\e<b:=⟨by omega,by omega⟩
               clear hc;have C4:=fun w hw=>IH.out mid e b (by omega) (by omega) (by omega) (by omega) f2 ((Q.out.trans (C.out.mono (aA _) (by omega))).all hb E.out) B5.out B4.out w hw;go_wp2_with fail;refine (C4 _ B7.out).mono ?_;rintro en w3 ⟨rfl,f3,⟨M,B2⟩,A4⟩;clear C4)
            | (obtain ⟨f3,A6⟩:∃f3,f3=f2:=⟨_,rfl⟩
               have M:SoS.Sw mid b f2 f3:=by rw [A6];exact .refl
               have B2:SoS.Srt ltC f3 mid b:=by
                rw [A6]
                first
                | (have V:mid=e:=by omega
                   rw [V];exact B4.out)
                | (have V:b=e:=by omega
                   rw [V];exact B5.out)
               have A4:=B7.out;rw [<-A6] at A4;clear A6)
            have A2:Hid (SoS.Sw a b f f3/\SoS.Srt ltC f3 a b):=hZ9 ⟨(Q.out.trans (C.out.mono (aA _) (by omega))).trans (M.mono (by omega) (aA _)),SoS.SX l.out.2.2.2.2 C.out M T.out B2⟩;have D3:=hZ9 A4;clear M B2 A4 B5 B4 T C l Q B8 B7
            go_wp2
            go_end0
            exact ⟨rfl,f3,A2.out,D3.out⟩)
end Go.Proofs.YtgngjfjaelgaeaaGreatDoor
