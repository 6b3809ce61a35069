/- The walk of slices.symMergeCmpFunc at entries: two sorted parts become one. Conditions: as stated. -/
import Derived.Test.YtgngjfjaelgaeaaGreatDoorKSob
set_option maxRecDepth 1000000
set_option maxHeartbeats 16000000
namespace Go.Proofs.YtgngjfjaelgaeaaGreatDoor
open Go.RowKit
attribute [local go_sem ↓] Go.wp_at_zero Go.wp_at_succ
theorem Zu (w0:World) (g n sz cap:Nat) (hsz:n<1000000000) (HE:∀w,w0.grownBy w (some g)->Env w):∀(N a m b:Nat),b - a<=N->a<m->m<b->b<=n->∀(f:Nat->Cel),(∀k,k<n->OkC (f k))->SoS.Srt ltC f a m->SoS.Srt ltC f m b->∀w,BI w0 g n sz f w->
  Calls Tryz.prog 162 #[.slice (some ⟨g,0,none⟩) n cap,.int .i64 a,.int .i64 m,.int .i64 b,EA] w (EJ w0 g n sz (fun f'=>SoS.Sw a b f f'/\SoS.Srt ltC f' a b)):=by
 have F1:=fun a m b h1 h2 h3 f w hw=>Adt w0 g n sz cap hsz a m b h1 h2 h3 f w hw
 unfold EJ EA at*
 have E7:=hZ9 F1
 have F4:=hZ9 HE
 clear F1 HE
 intro N
 induction N with
 | zero=>intro a m b h1 h2 h3;omega
 | succ N ih=>
  intro a m b hN J9 J4 hb f H5 H4 H6 w hw
  have IH:=hZ9 ih
  have HW:=hZ9 hw
  have A9:=hZ9 H5
  have F2:=hZ9 H4
  have F0:=hZ9 H6
  clear ih hw H5 H4 H6
  by_cases h1:m=a+1
  · have H0:(m:Int) - (a:Int)=1:=by omega
    have H9:m<=a+1:=by omega
    have HM:Hid (m=a+1):=hZ9 h1
    clear h1
    go_enter Tryz.func162,Tryz.ntmps162
    go_wp2
    go_loopg [10,11] (b - m) (fun g1 vi vj wr=>∃(i j:Nat),vi=.int .i64 i/\vj=.int .i64 j/\m<=i/\i<=j/\j<=b/\j - i<=g1/\Hid (∀k,m<=k->k<i->ltC (f k) (f a)=true)/\Hid (∀k,j<=k->k<b->ltC (f k) (f a)=false)/\Hid (BI w0 g n sz f wr))
    case atStart=>exact ⟨m,b,rfl,rfl,Nat.le_refl _,by omega,Nat.le_refl _,Nat.le_refl _,hZ9 (fun k h1 h2=>by omega),hZ9 (fun k h1 h2=>by omega),HW⟩
    case round=>
     obtain ⟨i,j,rfl,rfl,F3,J1,G7,G9,B0,D2,HS⟩:=hrel
     by_cases F6:i<j
     · have hz:(i:Int)<(j:Int):=by omega
       obtain ⟨h,hh⟩:∃h:Nat,((i:Int)+(j:Int)) / 2=(h:Int):=⟨(i+j) / 2,by omega⟩
       have G8:i<=h:=by omega
       have H7:h<j:=by omega
       obtain ⟨A,x,xa,xm,xc,hA,B6,cA,A8⟩:=HS.out.drew.read h (by omega)
       obtain ⟨B,y,ya,ym,yc,hB,B5,cB,A7⟩:=HS.out.drew.read a (by omega)
       have A6:=(A9.out h (by omega)).2
       have A5:=(A9.out a (by omega)).2
       rw [B6] at A6
       rw [B5] at A5
       have A4:Hid (ltC (f h) (f a)=decide (DnS.Aw x y<0)):=hZ9 (by rw [B6,B5];rfl)
       have A2:=ML x y xa xm xc ya ym yc wr.drew (F4.out _ HS.out.drew.grown) A6 A5
       have G3:(h:Int)<(n:Int):=by omega
       have G5:(a:Int)<(n:Int):=by omega
       clear B6 B5 A6 A5
       obtain ⟨CB,C5⟩:∃c,DnS.Aw x y=c:=⟨_,rfl⟩
       rw [C5] at A4 A2
       clear C5
       cases B2:decide (CB<0) with
       | true=>
        have D7:CB<0:=of_decide_eq_true B2
        rw [B2] at A4
        go_wp2_with fail
        go_region_held3 (fun W=>W.cell? ⟨g,A,none⟩=some (.string ⟨x.toArray⟩)/\W.cell? ⟨g,A+1,none⟩=some (.slice xa xm xc)/\W.cell? ⟨g,B,none⟩=some (.string ⟨y.toArray⟩)/\W.cell? ⟨g,B+1,none⟩=some (.slice ya ym yc)) (first | exact ⟨cA,A8,cB,A7⟩ | exact ⟨Ab cA A1,Ab A8 A1,Ab cB A1,Ab A7 A1⟩)
         (first | (go_at_call 95;(with_reducible refine A2.mono ?_);rintro e w5 ⟨rfl,A1⟩))
        all_goals (
         have B7:=hZ9 (HS.out.drew.call A1)
         clear cA A8 cB A7 A2 A1 hA hB)
        have F5:Hid (∀k,m<=k->k<h+1->ltC (f k) (f a)=true):=hZ9 (fun k h1 h2=>SoS.Acb GM F0.out (fun k hk=>A9.out k (by omega)) (A9.out a (by omega)) (by omega) (by omega) A4.out k h1 (by omega))
        clear B0 A4 HS
        go_wp2
        go_roundg (j - (h+1))
        case measure=>omega
        case rel=>exact ⟨h+1,j,by go_num,rfl,by omega,by omega,G7,Nat.le_refl _,F5,D2,B7⟩
       | false=>
        have D7:¬CB<0:=of_decide_eq_false B2
        rw [B2] at A4
        go_wp2_with fail
        go_region_held3 (fun W=>W.cell? ⟨g,A,none⟩=some (.string ⟨x.toArray⟩)/\W.cell? ⟨g,A+1,none⟩=some (.slice xa xm xc)/\W.cell? ⟨g,B,none⟩=some (.string ⟨y.toArray⟩)/\W.cell? ⟨g,B+1,none⟩=some (.slice ya ym yc)) (first | exact ⟨cA,A8,cB,A7⟩ | exact ⟨Ab cA A1,Ab A8 A1,Ab cB A1,Ab A7 A1⟩)
         (first | (go_at_call 95;(with_reducible refine A2.mono ?_);rintro e w5 ⟨rfl,A1⟩))
        all_goals (
         have B7:=hZ9 (HS.out.drew.call A1)
         clear cA A8 cB A7 A2 A1 hA hB)
        have F7:Hid (∀k,h<=k->k<b->ltC (f k) (f a)=false):=hZ9 (fun k h1 h2=>SoS.AdF GM F0.out (fun k hk=>A9.out k (by omega)) (A9.out a (by omega)) (by omega) (by omega) A4.out k h1 h2)
        clear D2 A4 HS
        go_wp2
        go_roundg (h - i)
        case measure=>omega
        case rel=>exact ⟨i,h,rfl,rfl,F3,G8,by omega,Nat.le_refl _,B0,F7,B7⟩
     · have hz:¬(i:Int)<(j:Int):=by omega
       have E3:Hid (SoS.Srt ltC (SoS.AO f a (a+1) i) a b):=hZ9 (SoS.VF GM (by rw [<-HM.out];exact F0.out) (by omega) (by omega) (fun k h1 h2=>B0.out k (by omega) h2) (fun k h1 h2=>D2.out k (by omega) h2))
       clear B0 D2
       obtain ⟨ip,J2⟩:∃ip:Nat,(i:Int) - 1=(ip:Int):=⟨i - 1,by omega⟩
       have K3:IntKind.i64.wrap (ip:Int)=(ip:Int):=by rw [IntKind.wrap_i64];omega
       have I3:Hid (i=ip+1):=hZ9 (by omega)
       go_wp2
       go_loopg [13] (ip - a) (fun g1 vk wr=>∃(k:Nat),vk=.int .i64 k/\a<=k/\k<=ip/\ip - k<=g1/\Hid (SoS.Sw a b f (SoS.AO f a (a+1) (k+1)))/\Hid (BI w0 g n sz (SoS.AO f a (a+1) (k+1)) wr))
       case atStart=>exact ⟨a,rfl,Nat.le_refl _,by omega,Nat.le_refl _,hZ9 (by rw [SoS.QF];exact .refl),hZ9 (by rw [SoS.QF];exact HS.out)⟩
       case round=>
        obtain ⟨k,rfl,G6,I8,I4,E4,C2⟩:=hrel
        clear HS
        by_cases G1:k<ip
        · have G2:(k:Int)<(ip:Int):=by omega
          obtain ⟨A,B,x1,xa,xm,xc,y1,ya,ym,yc,⟨hA,hB⟩,⟨n1,n2,n3,n4,n5,n6⟩,⟨c1,c2,c3,c4⟩,⟨f1,f2,f3,f4⟩,B4⟩:=C2.out.exch k (k+1) (by omega) (by omega) (by omega)
          rw [SoS.TB f G6] at B4
          have E1:=hZ9 B4
          have A3:Hid (SoS.Sw a b f (SoS.AO f a (a+1) (k+1+1))):=hZ9 (by rw [<-SoS.TB f G6];exact .swp E4.out (by omega) (by omega) (by omega) (by omega))
          clear B4 E4 C2
          have jk:(k:Int)<(n:Int):=by omega
          have I7:(k:Int)+1<(n:Int):=by omega
          have ek:((k:Int)+1).toNat=k+1:=by omega
          have j0:(0:Int)<=(k:Int)+1:=by omega
          go_wp2
          go_region
          all_goals go_wp2
          go_roundg (ip - (k+1))
          case measure=>omega
          case rel=>exact ⟨k+1,by go_num,by omega,by omega,Nat.le_refl _,A3,E1⟩
        · have G2:¬(k:Int)<(ip:Int):=by omega
          have HK:Hid (k+1=i):=hZ9 (by rw [I3.out];omega)
          go_wp2
          (try simp only [Exit.inBlock,Exit.then])
          refine bodyPost_ret (results_none rfl _ _ _) rfl ?_
          exact ⟨rfl,_,⟨E4.out,by rw [HK.out];exact E3.out⟩,C2.out⟩
  · have H0:∃q:Nat,(m:Int) - (a:Int)=(q:Int)/\2<=q:=⟨m - a,by omega,by omega⟩
    obtain ⟨q,hq,J6⟩:=H0
    have J5:((q:Int)==1)=false:=by rw [beq_eq_false_iff_ne];omega
    have wq:IntKind.i64.wrap (q:Int)=(q:Int):=by rw [IntKind.wrap_i64];omega
    by_cases h2:b=m+1
    · have H2:(b:Int) - (m:Int)=1:=by omega
      have I6:b<=m+1:=by omega
      have HB:Hid (b=m+1):=hZ9 h2
      clear h2
      go_enter Tryz.func162,Tryz.ntmps162
      go_wp2
      go_loopg [14,15] (m - a) (fun g1 vi vj wr=>∃(i j:Nat),vi=.int .i64 i/\vj=.int .i64 j/\a<=i/\i<=j/\j<=m/\j - i<=g1/\Hid (∀k,a<=k->k<i->ltC (f m) (f k)=false)/\Hid (∀k,j<=k->k<m->ltC (f m) (f k)=true)/\Hid (BI w0 g n sz f wr))
      case atStart=>exact ⟨a,m,rfl,rfl,Nat.le_refl _,by omega,Nat.le_refl _,Nat.le_refl _,hZ9 (fun k h1 h2=>by omega),hZ9 (fun k h1 h2=>by omega),HW⟩
      case round=>
       obtain ⟨i,j,rfl,rfl,F3,J1,G7,G9,D2,B0,HS⟩:=hrel
       by_cases F6:i<j
       · have hz:(i:Int)<(j:Int):=by omega
         obtain ⟨h,hh⟩:∃h:Nat,((i:Int)+(j:Int)) / 2=(h:Int):=⟨(i+j) / 2,by omega⟩
         have G8:i<=h:=by omega
         have H7:h<j:=by omega
         obtain ⟨A,x,xa,xm,xc,hA,B6,cA,A8⟩:=HS.out.drew.read m (by omega)
         obtain ⟨B,y,ya,ym,yc,hB,B5,cB,A7⟩:=HS.out.drew.read h (by omega)
         have A6:=(A9.out m (by omega)).2
         have A5:=(A9.out h (by omega)).2
         rw [B6] at A6
         rw [B5] at A5
         have A4:Hid (ltC (f m) (f h)=decide (DnS.Aw x y<0)):=hZ9 (by rw [B6,B5];rfl)
         have A2:=ML x y xa xm xc ya ym yc wr.drew (F4.out _ HS.out.drew.grown) A6 A5
         have G3:(m:Int)<(n:Int):=by omega
         have G5:(h:Int)<(n:Int):=by omega
         clear B6 B5 A6 A5
         obtain ⟨CB,C5⟩:∃c,DnS.Aw x y=c:=⟨_,rfl⟩
         rw [C5] at A4 A2
         clear C5
         cases B2:decide (CB<0) with
         | true=>
          have D7:CB<0:=of_decide_eq_true B2
          rw [B2] at A4
          go_wp2_with fail
          go_region_held3 (fun W=>W.cell? ⟨g,A,none⟩=some (.string ⟨x.toArray⟩)/\W.cell? ⟨g,A+1,none⟩=some (.slice xa xm xc)/\W.cell? ⟨g,B,none⟩=some (.string ⟨y.toArray⟩)/\W.cell? ⟨g,B+1,none⟩=some (.slice ya ym yc)) (first | exact ⟨cA,A8,cB,A7⟩ | exact ⟨Ab cA A1,Ab A8 A1,Ab cB A1,Ab A7 A1⟩)
           (first | (go_at_call 95;(with_reducible refine A2.mono ?_);rintro e w5 ⟨rfl,A1⟩))
          all_goals (
           have B7:=hZ9 (HS.out.drew.call A1)
           clear cA A8 cB A7 A2 A1 hA hB)
          have F5:Hid (∀k,h<=k->k<m->ltC (f m) (f k)=true):=hZ9 (fun k h1 h2=>SoS.ZG GM F2.out (fun k hk=>A9.out k (by omega)) (A9.out m (by omega)) (by omega) (by omega) A4.out k h1 h2)
          clear B0 A4 HS
          go_wp2
          go_roundg (h - i)
          case measure=>omega
          case rel=>exact ⟨i,h,rfl,rfl,F3,G8,by omega,Nat.le_refl _,D2,F5,B7⟩
         | false=>
          have D7:¬CB<0:=of_decide_eq_false B2
          rw [B2] at A4
          go_wp2_with fail
          go_region_held3 (fun W=>W.cell? ⟨g,A,none⟩=some (.string ⟨x.toArray⟩)/\W.cell? ⟨g,A+1,none⟩=some (.slice xa xm xc)/\W.cell? ⟨g,B,none⟩=some (.string ⟨y.toArray⟩)/\W.cell? ⟨g,B+1,none⟩=some (.slice ya ym yc)) (first | exact ⟨cA,A8,cB,A7⟩ | exact ⟨Ab cA A1,Ab A8 A1,Ab cB A1,Ab A7 A1⟩)
           (first | (go_at_call 95;(with_reducible refine A2.mono ?_);rintro e w5 ⟨rfl,A1⟩))
          all_goals (
           have B7:=hZ9 (HS.out.drew.call A1)
           clear cA A8 cB A7 A2 A1 hA hB)
          have F7:Hid (∀k,a<=k->k<h+1->ltC (f m) (f k)=false):=hZ9 (fun k h1 h2=>SoS.Acd GM F2.out (fun k hk=>A9.out k (by omega)) (A9.out m (by omega)) (by omega) (by omega) A4.out k h1 (by omega))
          clear D2 A4 HS
          go_wp2
          go_roundg (j - (h+1))
          case measure=>omega
          case rel=>exact ⟨h+1,j,by go_num,rfl,by omega,by omega,G7,Nat.le_refl _,F7,B0,B7⟩
       · have hz:¬(i:Int)<(j:Int):=by omega
         have E3:Hid (SoS.Srt ltC (SoS.AO f i m (m+1)) a (m+1)):=hZ9 (SoS.XJ GM F2.out F3 (by omega) (fun k h1 h2=>D2.out k h1 h2) (fun k h1 h2=>B0.out k (by omega) h2))
         clear B0 D2
         go_wp2
         go_loopg [17] (m - i) (fun g1 vk wr=>∃(k:Nat),vk=.int .i64 k/\i<=k/\k<=m/\k - i<=g1/\Hid (SoS.Sw a b f (SoS.AO f k m (m+1)))/\Hid (BI w0 g n sz (SoS.AO f k m (m+1)) wr))
         case atStart=>exact ⟨m,rfl,by omega,Nat.le_refl _,Nat.le_refl _,hZ9 (by rw [SoS.OB];exact .refl),hZ9 (by rw [SoS.OB];exact HS.out)⟩
         case round=>
          obtain ⟨k,rfl,G6,I8,I4,E4,C2⟩:=hrel
          clear HS
          by_cases G1:i<k
          · have G2:(i:Int)<(k:Int):=by omega
            obtain ⟨kp,J3⟩:∃kp:Nat,(k:Int) - 1=(kp:Int):=⟨k - 1,by omega⟩
            have J7:IntKind.i64.wrap (kp:Int)=(kp:Int):=by rw [IntKind.wrap_i64];omega
            have J0:Hid (k=kp+1):=hZ9 (by omega)
            obtain ⟨A,B,x1,xa,xm,xc,y1,ya,ym,yc,⟨hA,hB⟩,⟨n1,n2,n3,n4,n5,n6⟩,⟨c1,c2,c3,c4⟩,⟨f1,f2,f3,f4⟩,B4⟩:=C2.out.exch k kp (by omega) (by omega) (by omega)
            have C4:SoS.Dc (SoS.AO f k m (m+1)) k kp=SoS.AO f kp m (m+1):=by
             rw [J0.out]
             exact SoS.ZF f (by omega)
            have A3:Hid (SoS.Sw a b f (SoS.AO f kp m (m+1))):=hZ9 (by rw [<-C4];exact .swp E4.out (by omega) (by omega) (by omega) (by omega))
            rw [C4] at B4
            have E1:=hZ9 B4
            clear B4 E4 C2 C4
            have jk:(k:Int)<(n:Int):=by omega
            have I7:(kp:Int)<(n:Int):=by omega
            go_wp2
            go_region
            all_goals go_wp2
            go_roundg (kp - i)
            case measure=>omega
            case rel=>exact ⟨kp,rfl,by omega,by omega,Nat.le_refl _,A3,E1⟩
          · have G2:¬(i:Int)<(k:Int):=by omega
            have HK:Hid (k=i):=hZ9 (by omega)
            go_wp2
            (try simp only [Exit.inBlock,Exit.then])
            refine bodyPost_ret (results_none rfl _ _ _) rfl ?_
            exact ⟨rfl,_,⟨E4.out,by rw [HB.out,HK.out];exact E3.out⟩,C2.out⟩
    · have H2:∃q:Nat,(b:Int) - (m:Int)=(q:Int)/\2<=q:=⟨b - m,by omega,by omega⟩
      obtain ⟨r,hr,C7⟩:=H2
      have C0:((r:Int)==1)=false:=by rw [beq_eq_false_iff_ne];omega
      have K1:IntKind.i64.wrap (r:Int)=(r:Int):=by rw [IntKind.wrap_i64];omega
      obtain ⟨mid,I1⟩:∃mid:Nat,((a:Int)+(b:Int)) / 2=(mid:Int):=⟨(a+b) / 2,by omega⟩
      have H1:a<mid:=by omega
      have H3:mid<b:=by omega
      obtain ⟨t,ht⟩:∃t:Nat,(mid:Int)+(m:Int)=(t:Int):=⟨mid+m,by omega⟩
      have wt:IntKind.i64.wrap (t:Int)=(t:Int):=by rw [IntKind.wrap_i64];omega
      obtain ⟨p,hp⟩:∃p:Nat,(t:Int) - 1=(p:Int):=⟨t - 1,by omega⟩
      have wp:IntKind.i64.wrap (p:Int)=(p:Int):=by rw [IntKind.wrap_i64];omega
      by_cases K2:mid<m
      · have I0:(mid:Int)<(m:Int):=by omega
        obtain ⟨s0,J8⟩:∃s0:Nat,(t:Int) - (b:Int)=(s0:Int):=⟨t - b,by omega⟩
        have K0:IntKind.i64.wrap (s0:Int)=(s0:Int):=by rw [IntKind.wrap_i64];omega
        go_enter Tryz.func162,Tryz.ntmps162
        go_wp2
        go_loopg [20,21] (mid - s0) (fun g1 vi vj wr=>∃(s r:Nat),vi=.int .i64 s/\vj=.int .i64 r/\s0<=s/\s<=r/\r<=mid/\r - s<=g1/\Hid (s=s0\/ltC (f (p - (s - 1))) (f (s - 1))=false)/\Hid (r=mid\/ltC (f (p - r)) (f r)=true)/\Hid (BI w0 g n sz f wr))
        case atStart=>exact ⟨s0,mid,rfl,rfl,Nat.le_refl _,by omega,Nat.le_refl _,Nat.le_refl _,hZ9 (.inl rfl),hZ9 (.inl rfl),HW⟩
        case round=>
         obtain ⟨s,r,rfl,rfl,G0,H8,C0,G9,C8,D3,HS⟩:=hrel
         by_cases F6:s<r
         · have hz:(s:Int)<(r:Int):=by omega
           obtain ⟨c,hc⟩:∃c:Nat,((s:Int)+(r:Int)) / 2=(c:Int):=⟨(s+r) / 2,by omega⟩
           have F9:s<=c:=by omega
           have I9:c<r:=by omega
           obtain ⟨pc,I5⟩:∃pc:Nat,(p:Int) - (c:Int)=(pc:Int):=⟨p - c,by omega⟩
           have I2:IntKind.i64.wrap (pc:Int)=(pc:Int):=by rw [IntKind.wrap_i64];omega
           have D1:Hid (p - c=pc):=hZ9 (by omega)
           obtain ⟨A,x,xa,xm,xc,hA,B6,cA,A8⟩:=HS.out.drew.read pc (by omega)
           obtain ⟨B,y,ya,ym,yc,hB,B5,cB,A7⟩:=HS.out.drew.read c (by omega)
           have A6:=(A9.out pc (by omega)).2
           have A5:=(A9.out c (by omega)).2
           rw [B6] at A6
           rw [B5] at A5
           have A4:Hid (ltC (f pc) (f c)=decide (DnS.Aw x y<0)):=hZ9 (by rw [B6,B5];rfl)
           have A2:=ML x y xa xm xc ya ym yc wr.drew (F4.out _ HS.out.drew.grown) A6 A5
           have G3:(pc:Int)<(n:Int):=by omega
           have G5:(c:Int)<(n:Int):=by omega
           clear B6 B5 A6 A5
           obtain ⟨CB,C5⟩:∃c,DnS.Aw x y=c:=⟨_,rfl⟩
           rw [C5] at A4 A2
           clear C5
           cases B2:decide (CB<0) with
           | true=>
            have D7:CB<0:=of_decide_eq_true B2
            rw [B2] at A4
            go_wp2_with fail
            go_region_held3 (fun W=>W.cell? ⟨g,A,none⟩=some (.string ⟨x.toArray⟩)/\W.cell? ⟨g,A+1,none⟩=some (.slice xa xm xc)/\W.cell? ⟨g,B,none⟩=some (.string ⟨y.toArray⟩)/\W.cell? ⟨g,B+1,none⟩=some (.slice ya ym yc)) (first | exact ⟨cA,A8,cB,A7⟩ | exact ⟨Ab cA A1,Ab A8 A1,Ab cB A1,Ab A7 A1⟩)
             (first | (go_at_call 95;(with_reducible refine A2.mono ?_);rintro e w5 ⟨rfl,A1⟩))
            all_goals (
             have B7:=hZ9 (HS.out.drew.call A1)
             clear cA A8 cB A7 A2 A1 hA hB)
            have E6:Hid (c=mid\/ltC (f (p - c)) (f c)=true):=hZ9 (.inr (by rw [D1.out];exact A4.out))
            clear D3 A4 HS D1
            go_wp2
            go_roundg (c - s)
            case measure=>omega
            case rel=>exact ⟨s,c,rfl,rfl,G0,F9,by omega,Nat.le_refl _,C8,E6,B7⟩
           | false=>
            have D7:¬CB<0:=of_decide_eq_false B2
            rw [B2] at A4
            go_wp2_with fail
            go_region_held3 (fun W=>W.cell? ⟨g,A,none⟩=some (.string ⟨x.toArray⟩)/\W.cell? ⟨g,A+1,none⟩=some (.slice xa xm xc)/\W.cell? ⟨g,B,none⟩=some (.string ⟨y.toArray⟩)/\W.cell? ⟨g,B+1,none⟩=some (.slice ya ym yc)) (first | exact ⟨cA,A8,cB,A7⟩ | exact ⟨Ab cA A1,Ab A8 A1,Ab cB A1,Ab A7 A1⟩)
             (first | (go_at_call 95;(with_reducible refine A2.mono ?_);rintro e w5 ⟨rfl,A1⟩))
            all_goals (
             have B7:=hZ9 (HS.out.drew.call A1)
             clear cA A8 cB A7 A2 A1 hA hB)
            have E0:Hid (c+1=s0\/ltC (f (p - (c+1 - 1))) (f (c+1 - 1))=false):=hZ9 (.inr (by rw [Nat.add_sub_cancel,D1.out];exact A4.out))
            clear C8 A4 HS D1
            go_wp2
            go_roundg (r - (c+1))
            case measure=>omega
            case rel=>exact ⟨c+1,r,by go_num,rfl,by omega,by omega,C0,Nat.le_refl _,E0,D3,B7⟩
         · have hz:¬(s:Int)<(r:Int):=by omega
           have C6:s=r:=by omega
           obtain ⟨e,he⟩:∃e:Nat,(t:Int) - (s:Int)=(e:Int):=⟨t - s,by omega⟩
           have we:IntKind.i64.wrap (e:Int)=(e:Int):=by rw [IntKind.wrap_i64];omega
           have A0:=hZ9 (SoS.Nj GM F2.out F0.out (fun k hk=>A9.out k (by omega)) (s:=s) (e:=e) (mid:=mid) (by omega) (by omega) (by omega) (by omega) (by omega)
            (by
              by_cases c1:s=a
              · exact .inl c1
              by_cases c2:e=b
              · exact .inr (.inl c2)
              rcases C8.out with h | h
              · omega
              · have e1:p - (s - 1)=e:=by omega
                rw [e1] at h
                exact .inr (.inr h))
            (by
              by_cases c1:e=m
              · exact .inl c1
              by_cases c2:s=m
              · exact .inr (.inl c2)
              rcases D3.out with h | h
              · omega
              · have e1:p - r=e - 1:=by omega
                rw [e1,<-C6] at h
                exact .inr (.inr (GM.asym _ _ h))))
           have F8:Hid (∀f1,SoS.Sw a b f f1->∀k,k<n->OkC (f1 k)):=hZ9 (fun f1 h=>h.all hb A9.out)
           clear C8 D3 C6
           by_cases k1:s<m <;> by_cases k2:s<mid <;> by_cases k3:a<s <;> by_cases k4:e<b
           all_goals first | (exfalso;omega) | skip
           all_goals (
            first | have z1:decide ((s:Int)<(m:Int))=true:=decide_eq_true (by omega) | have z1:decide ((s:Int)<(m:Int))=false:=decide_eq_false (by omega)
            first | have z2:decide ((s:Int)<(mid:Int))=true:=decide_eq_true (by omega) | have z2:decide ((s:Int)<(mid:Int))=false:=decide_eq_false (by omega)
            first | have z3:decide ((a:Int)<(s:Int))=true:=decide_eq_true (by omega) | have z3:decide ((a:Int)<(s:Int))=false:=decide_eq_false (by omega)
            first | have z4:decide ((e:Int)<(b:Int))=true:=decide_eq_true (by omega) | have z4:decide ((e:Int)<(b:Int))=false:=decide_eq_false (by omega)
            first | have z5:decide ((m:Int)<(e:Int))=true:=decide_eq_true (by omega) | have z5:decide ((m:Int)<(e:Int))=false:=decide_eq_false (by omega)
            first | have z6:decide ((mid:Int)<(e:Int))=true:=decide_eq_true (by omega) | have z6:decide ((mid:Int)<(e:Int))=false:=decide_eq_false (by omega)
            first
            | (have hc:s<m/\s<mid:=⟨by omega,by omega⟩
               clear hc
               go_wp2_with fail
               refine (E7.out s m e (by omega) (by omega) (by omega) f _ HS.out).mono ?_;rintro en w1 ⟨rfl,f1,⟨C1,B8⟩,C0⟩
               rw [<-C1] at A0)
            | (obtain ⟨f1,C1⟩:∃f1,f1=SoS.AO f s m e:=⟨_,rfl⟩
               have B8:SoS.Sw s e f f1:=by rw [C1,SoS.Ko f (by omega)];exact .refl
               have C0:=HS.out
               rw [<-SoS.Ko f (show s=m\/e=m by omega),<-C1] at C0
               rw [<-C1] at A0)
            have B3:Hid (SoS.Sw a b f f1):=hZ9 (B8.mono (by omega) (by omega))
            have E2:=hZ9 C0
            clear C1 B8 C0
            first
            | (have hc:a<s/\s<mid:=⟨by omega,by omega⟩
               clear hc
               have E8:=fun w hw=>IH.out a s mid (by omega) (by omega) (by omega) (by omega) f1 (B3.out.all hb A9.out) A0.out.1 A0.out.2.1 w hw
               go_wp2_with fail
               refine (E8 _ E2.out).mono ?_;rintro en w2 ⟨rfl,f2,⟨B9,D5⟩,C7⟩
               clear E8)
            | (obtain ⟨f2,D4⟩:∃f2,f2=f1:=⟨_,rfl⟩
               have B9:SoS.Sw a mid f1 f2:=by rw [D4];exact .refl
               have D5:SoS.Srt ltC f2 a mid:=by
                rw [D4]
                first
                | (have e1:a=s:=by omega
                   rw [e1];exact A0.out.2.1)
                | (have e1:mid=s:=by omega
                   rw [e1];exact A0.out.1)
               have C7:=E2.out
               rw [<-D4] at C7
               clear D4)
            have C2:=hZ9 D5
            have A3:=hZ9 B9
            have D8:=hZ9 C7
            have E5:Hid (SoS.Srt ltC f2 mid e):=hZ9 (A0.out.2.2.1.congr (fun k hk _=>A3.out.out k (.inr hk)))
            have D6:Hid (SoS.Srt ltC f2 e b):=hZ9 (A0.out.2.2.2.1.congr (fun k hk _=>A3.out.out k (.inr (by omega))))
            clear D5 B9 C7
            first
            | (have hc:mid<e/\e<b:=⟨by omega,by omega⟩
               clear hc
               have E9:=fun w hw=>IH.out mid e b (by omega) (by omega) (by omega) (by omega) f2 ((B3.out.trans (A3.out.mono (Nat.le_refl _) (by omega))).all hb A9.out) E5.out D6.out w hw
               go_wp2_with fail
               refine (E9 _ D8.out).mono ?_;rintro en w3 ⟨rfl,f3,⟨B1,D9⟩,C9⟩
               clear E9)
            | (obtain ⟨f3,D0⟩:∃f3,f3=f2:=⟨_,rfl⟩
               have B1:SoS.Sw mid b f2 f3:=by rw [D0];exact .refl
               have D9:SoS.Srt ltC f3 mid b:=by
                rw [D0]
                first
                | (have e1:mid=e:=by omega
                   rw [e1];exact D6.out)
                | (have e1:b=e:=by omega
                   rw [e1];exact E5.out)
               have C9:=D8.out
               rw [<-D0] at C9
               clear D0)
            have C3:Hid (SoS.Sw a b f f3/\SoS.Srt ltC f3 a b):=hZ9 ⟨(B3.out.trans (A3.out.mono (Nat.le_refl _) (by omega))).trans (B1.mono (by omega) (Nat.le_refl _)),SoS.QG A0.out.2.2.2.2 A3.out B1 C2.out D9⟩
            have G4:=hZ9 C9
            clear B1 D9 C9 E5 D6 C2 A3 A0 B3 E2 D8
            go_wp2
            go_end0
            exact ⟨rfl,f3,C3.out,G4.out⟩)
      · have I0:¬(mid:Int)<(m:Int):=by omega
        go_enter Tryz.func162,Tryz.ntmps162
        go_wp2
        go_loopg [20,21] (m - a) (fun g1 vi vj wr=>∃(s r:Nat),vi=.int .i64 s/\vj=.int .i64 r/\a<=s/\s<=r/\r<=m/\r - s<=g1/\Hid (s=a\/ltC (f (p - (s - 1))) (f (s - 1))=false)/\Hid (r=m\/ltC (f (p - r)) (f r)=true)/\Hid (BI w0 g n sz f wr))
        case atStart=>exact ⟨a,m,rfl,rfl,Nat.le_refl _,by omega,Nat.le_refl _,Nat.le_refl _,hZ9 (.inl rfl),hZ9 (.inl rfl),HW⟩
        case round=>
         obtain ⟨s,r,rfl,rfl,G0,H8,C0,G9,C8,D3,HS⟩:=hrel
         by_cases F6:s<r
         · have hz:(s:Int)<(r:Int):=by omega
           obtain ⟨c,hc⟩:∃c:Nat,((s:Int)+(r:Int)) / 2=(c:Int):=⟨(s+r) / 2,by omega⟩
           have F9:s<=c:=by omega
           have I9:c<r:=by omega
           obtain ⟨pc,I5⟩:∃pc:Nat,(p:Int) - (c:Int)=(pc:Int):=⟨p - c,by omega⟩
           have I2:IntKind.i64.wrap (pc:Int)=(pc:Int):=by rw [IntKind.wrap_i64];omega
           have D1:Hid (p - c=pc):=hZ9 (by omega)
           obtain ⟨A,x,xa,xm,xc,hA,B6,cA,A8⟩:=HS.out.drew.read pc (by omega)
           obtain ⟨B,y,ya,ym,yc,hB,B5,cB,A7⟩:=HS.out.drew.read c (by omega)
           have A6:=(A9.out pc (by omega)).2
           have A5:=(A9.out c (by omega)).2
           rw [B6] at A6
           rw [B5] at A5
           have A4:Hid (ltC (f pc) (f c)=decide (DnS.Aw x y<0)):=hZ9 (by rw [B6,B5];rfl)
           have A2:=ML x y xa xm xc ya ym yc wr.drew (F4.out _ HS.out.drew.grown) A6 A5
           have G3:(pc:Int)<(n:Int):=by omega
           have G5:(c:Int)<(n:Int):=by omega
           clear B6 B5 A6 A5
           obtain ⟨CB,C5⟩:∃c,DnS.Aw x y=c:=⟨_,rfl⟩
           rw [C5] at A4 A2
           clear C5
           cases B2:decide (CB<0) with
           | true=>
            have D7:CB<0:=of_decide_eq_true B2
            rw [B2] at A4
            go_wp2_with fail
            go_region_held3 (fun W=>W.cell? ⟨g,A,none⟩=some (.string ⟨x.toArray⟩)/\W.cell? ⟨g,A+1,none⟩=some (.slice xa xm xc)/\W.cell? ⟨g,B,none⟩=some (.string ⟨y.toArray⟩)/\W.cell? ⟨g,B+1,none⟩=some (.slice ya ym yc)) (first | exact ⟨cA,A8,cB,A7⟩ | exact ⟨Ab cA A1,Ab A8 A1,Ab cB A1,Ab A7 A1⟩)
             (first | (go_at_call 95;(with_reducible refine A2.mono ?_);rintro e w5 ⟨rfl,A1⟩))
            all_goals (
             have B7:=hZ9 (HS.out.drew.call A1)
             clear cA A8 cB A7 A2 A1 hA hB)
            have E6:Hid (c=m\/ltC (f (p - c)) (f c)=true):=hZ9 (.inr (by rw [D1.out];exact A4.out))
            clear D3 A4 HS D1
            go_wp2
            go_roundg (c - s)
            case measure=>omega
            case rel=>exact ⟨s,c,rfl,rfl,G0,F9,by omega,Nat.le_refl _,C8,E6,B7⟩
           | false=>
            have D7:¬CB<0:=of_decide_eq_false B2
            rw [B2] at A4
            go_wp2_with fail
            go_region_held3 (fun W=>W.cell? ⟨g,A,none⟩=some (.string ⟨x.toArray⟩)/\W.cell? ⟨g,A+1,none⟩=some (.slice xa xm xc)/\W.cell? ⟨g,B,none⟩=some (.string ⟨y.toArray⟩)/\W.cell? ⟨g,B+1,none⟩=some (.slice ya ym yc)) (first | exact ⟨cA,A8,cB,A7⟩ | exact ⟨Ab cA A1,Ab A8 A1,Ab cB A1,Ab A7 A1⟩)
             (first | (go_at_call 95;(with_reducible refine A2.mono ?_);rintro e w5 ⟨rfl,A1⟩))
            all_goals (
             have B7:=hZ9 (HS.out.drew.call A1)
             clear cA A8 cB A7 A2 A1 hA hB)
            have E0:Hid (c+1=a\/ltC (f (p - (c+1 - 1))) (f (c+1 - 1))=false):=hZ9 (.inr (by rw [Nat.add_sub_cancel,D1.out];exact A4.out))
            clear C8 A4 HS D1
            go_wp2
            go_roundg (r - (c+1))
            case measure=>omega
            case rel=>exact ⟨c+1,r,by go_num,rfl,by omega,by omega,C0,Nat.le_refl _,E0,D3,B7⟩
         · have hz:¬(s:Int)<(r:Int):=by omega
           have C6:s=r:=by omega
           obtain ⟨e,he⟩:∃e:Nat,(t:Int) - (s:Int)=(e:Int):=⟨t - s,by omega⟩
           have we:IntKind.i64.wrap (e:Int)=(e:Int):=by rw [IntKind.wrap_i64];omega
           have A0:=hZ9 (SoS.Nj GM F2.out F0.out (fun k hk=>A9.out k (by omega)) (s:=s) (e:=e) (mid:=mid) (by omega) (by omega) (by omega) (by omega) (by omega)
            (by
              by_cases c1:s=a
              · exact .inl c1
              by_cases c2:e=b
              · exact .inr (.inl c2)
              rcases C8.out with h | h
              · omega
              · have e1:p - (s - 1)=e:=by omega
                rw [e1] at h
                exact .inr (.inr h))
            (by
              by_cases c1:e=m
              · exact .inl c1
              by_cases c2:s=m
              · exact .inr (.inl c2)
              rcases D3.out with h | h
              · omega
              · have e1:p - r=e - 1:=by omega
                rw [e1,<-C6] at h
                exact .inr (.inr (GM.asym _ _ h))))
           have F8:Hid (∀f1,SoS.Sw a b f f1->∀k,k<n->OkC (f1 k)):=hZ9 (fun f1 h=>h.all hb A9.out)
           clear C8 D3 C6
           by_cases k1:s<m <;> by_cases k2:s<mid <;> by_cases k3:a<s <;> by_cases k4:e<b
           all_goals first | (exfalso;omega) | skip
           all_goals (
            first | have z1:decide ((s:Int)<(m:Int))=true:=decide_eq_true (by omega) | have z1:decide ((s:Int)<(m:Int))=false:=decide_eq_false (by omega)
            first | have z2:decide ((s:Int)<(mid:Int))=true:=decide_eq_true (by omega) | have z2:decide ((s:Int)<(mid:Int))=false:=decide_eq_false (by omega)
            first | have z3:decide ((a:Int)<(s:Int))=true:=decide_eq_true (by omega) | have z3:decide ((a:Int)<(s:Int))=false:=decide_eq_false (by omega)
            first | have z4:decide ((e:Int)<(b:Int))=true:=decide_eq_true (by omega) | have z4:decide ((e:Int)<(b:Int))=false:=decide_eq_false (by omega)
            first | have z5:decide ((m:Int)<(e:Int))=true:=decide_eq_true (by omega) | have z5:decide ((m:Int)<(e:Int))=false:=decide_eq_false (by omega)
            first | have z6:decide ((mid:Int)<(e:Int))=true:=decide_eq_true (by omega) | have z6:decide ((mid:Int)<(e:Int))=false:=decide_eq_false (by omega)
            first
            | (have hc:s<m/\s<mid:=⟨by omega,by omega⟩
               clear hc
               go_wp2_with fail
               refine (E7.out s m e (by omega) (by omega) (by omega) f _ HS.out).mono ?_;rintro en w1 ⟨rfl,f1,⟨C1,B8⟩,C0⟩
               rw [<-C1] at A0)
            | (obtain ⟨f1,C1⟩:∃f1,f1=SoS.AO f s m e:=⟨_,rfl⟩
               have B8:SoS.Sw s e f f1:=by rw [C1,SoS.Ko f (by omega)];exact .refl
               have C0:=HS.out
               rw [<-SoS.Ko f (show s=m\/e=m by omega),<-C1] at C0
               rw [<-C1] at A0)
            have B3:Hid (SoS.Sw a b f f1):=hZ9 (B8.mono (by omega) (by omega))
            have E2:=hZ9 C0
            clear C1 B8 C0
            first
            | (have hc:a<s/\s<mid:=⟨by omega,by omega⟩
               clear hc
               have E8:=fun w hw=>IH.out a s mid (by omega) (by omega) (by omega) (by omega) f1 (B3.out.all hb A9.out) A0.out.1 A0.out.2.1 w hw
               go_wp2_with fail
               refine (E8 _ E2.out).mono ?_;rintro en w2 ⟨rfl,f2,⟨B9,D5⟩,C7⟩
               clear E8)
            | (obtain ⟨f2,D4⟩:∃f2,f2=f1:=⟨_,rfl⟩
               have B9:SoS.Sw a mid f1 f2:=by rw [D4];exact .refl
               have D5:SoS.Srt ltC f2 a mid:=by
                rw [D4]
                first
                | (have e1:a=s:=by omega
                   rw [e1];exact A0.out.2.1)
                | (have e1:mid=s:=by omega
                   rw [e1];exact A0.out.1)
               have C7:=E2.out
               rw [<-D4] at C7
               clear D4)
            have C2:=hZ9 D5
            have A3:=hZ9 B9
            have D8:=hZ9 C7
            have E5:Hid (SoS.Srt ltC f2 mid e):=hZ9 (A0.out.2.2.1.congr (fun k hk _=>A3.out.out k (.inr hk)))
            have D6:Hid (SoS.Srt ltC f2 e b):=hZ9 (A0.out.2.2.2.1.congr (fun k hk _=>A3.out.out k (.inr (by omega))))
            clear D5 B9 C7
            first
            | (have hc:mid<e/\e<b:=⟨by omega,by omega⟩
               clear hc
               have E9:=fun w hw=>IH.out mid e b (by omega) (by omega) (by omega) (by omega) f2 ((B3.out.trans (A3.out.mono (Nat.le_refl _) (by omega))).all hb A9.out) E5.out D6.out w hw
               go_wp2_with fail
               refine (E9 _ D8.out).mono ?_;rintro en w3 ⟨rfl,f3,⟨B1,D9⟩,C9⟩
               clear E9)
            | (obtain ⟨f3,D0⟩:∃f3,f3=f2:=⟨_,rfl⟩
               have B1:SoS.Sw mid b f2 f3:=by rw [D0];exact .refl
               have D9:SoS.Srt ltC f3 mid b:=by
                rw [D0]
                first
                | (have e1:mid=e:=by omega
                   rw [e1];exact D6.out)
                | (have e1:b=e:=by omega
                   rw [e1];exact E5.out)
               have C9:=D8.out
               rw [<-D0] at C9
               clear D0)
            have C3:Hid (SoS.Sw a b f f3/\SoS.Srt ltC f3 a b):=hZ9 ⟨(B3.out.trans (A3.out.mono (Nat.le_refl _) (by omega))).trans (B1.mono (by omega) (Nat.le_refl _)),SoS.QG A0.out.2.2.2.2 A3.out B1 C2.out D9⟩
            have G4:=hZ9 C9
            clear B1 D9 C9 E5 D6 C2 A3 A0 B3 E2 D8
            go_wp2
            go_end0
            exact ⟨rfl,f3,C3.out,G4.out⟩)
end Go.Proofs.YtgngjfjaelgaeaaGreatDoor
