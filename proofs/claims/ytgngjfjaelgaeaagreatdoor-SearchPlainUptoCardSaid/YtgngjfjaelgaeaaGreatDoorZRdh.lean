/- The walk of slices.symMergeCmpFunc at pairs, of which only this is said: the row keeps its length. Conditions: as stated. -/
import Derived.Test.YtgngjfjaelgaeaaGreatDoorZSrt
set_option maxRecDepth 1000000
set_option maxHeartbeats 16000000
namespace Go.Proofs.YtgngjfjaelgaeaaGreatDoor
open Go.Proofs.Tryz
variable {l:iK} {g n:Nat} {T:TypeId} {w w' w0:World}
section
open Go.Shelf Go.RowKit Go.Lib Go.Sort Go.Proofs
theorem SW.grown{blk off:Nat}(h:SW w0 blk off n w)(q:Nat)(os:Array Obj):SW w0 blk off n (grow (w.drewN q) os):=by obtain⟨m,a,o,b,rfl⟩:=h;exact⟨m+q,a,o++os,b,sortWorldK_grown_c AU 2 w0 blk off m q a o os⟩
theorem SW.lt{blk off:Nat}(h:SW w0 blk off n w)(hblk:blk<w0.heap.size):blk<w.heap.size:=by obtain⟨m,a,o,b,rfl⟩:=h;exact ae hblk (size_sortWorldK_c AU 2 w0 blk off m a o)
theorem SW.read{blk off:Nat}{d:Array RdS.Pr}(hH:HoldsK AU 2 w0 blk off d)(hblk:blk<w0.heap.size)(h:SW w0 blk off d.size w)(i:Nat)(k:i<d.size):
  ∃(A:Nat) (x:RdS.Pr),off+i*2=A/\(∀q os,(grow (w.drewN q) os).cell? ⟨blk,A,none⟩=some (.string ⟨x.1.toArray⟩))/\(∀q os,(grow (w.drewN q) os).cell? ⟨blk,A+1,none⟩=some (.string ⟨x.2.toArray⟩)):=by
 have b:=h.lt hblk;obtain⟨m,e,o,j,rfl⟩:=h;have a:HoldsK AU 2 (sortWorldK AU 2 w0 blk off m e o) blk off e:=holdsK_sortWorldK_c AU 2 w0 blk off d e m o hH hblk j;have ci:=a.cell (i:=i) (by omega) (c:=0) (by decide);have f:=a.cell (i:=i) (by omega) (c:=1) (by decide);exact⟨off+i*2,e[i]!,rfl,λq os=>cell_grown b ci.1 q os,λq os=>cell_grown b f.1 q os⟩
theorem SW.exch{blk off:Nat}{d:Array RdS.Pr}(hH:HoldsK AU 2 w0 blk off d)(hblk:blk<w0.heap.size)(h:SW w0 blk off d.size w)(i j:Nat)(r:i<d.size)(q:j<d.size)(f:i≠j):
  ∃(A B:Nat) (c b a e:iK),(off+i*2=A/\off+j*2=B)/\(¬A=B/\¬B=A/\¬A+1=B/\¬A=B+1/\¬B=A+1/\¬B+1=A)/\
   (w.cell? ⟨blk,A,none⟩=some (.string ⟨c.toArray⟩)/\w.cell? ⟨blk,A+1,none⟩=some (.string ⟨b.toArray⟩)/\w.cell? ⟨blk,B,none⟩=some (.string ⟨a.toArray⟩)/\w.cell? ⟨blk,B+1,none⟩=some (.string ⟨e.toArray⟩))/\
   (w.frozen? ⟨blk,A,none⟩=false/\w.frozen? ⟨blk,A+1,none⟩=false/\w.frozen? ⟨blk,B,none⟩=false/\w.frozen? ⟨blk,B+1,none⟩=false)/\
   SW w0 blk off d.size ((((w.drew.setCell ⟨blk,A,none⟩ (.string ⟨a.toArray⟩)).setCell ⟨blk,A+1,none⟩ (.string ⟨e.toArray⟩)).setCell ⟨blk,B,none⟩ (.string ⟨c.toArray⟩)).setCell ⟨blk,B+1,none⟩ (.string ⟨b.toArray⟩)):=by
 obtain⟨m,p,o,k,rfl⟩:=h;obtain⟨A,B,c,b,a,e,h1,h2,h3,h4,h5⟩:=Go.Proofs.YtgngjfjaelgaeaaGreatDoor.exch w0 blk off d hH hblk m p o k i j (by omega) (by omega) f;exact⟨A,B,c,b,a,e,h1,h2,h3,h4,m+1,swp p i j,o,by rw[size_swp];exact k,h5⟩
theorem Aai(w0:World)(blk off cap:Nat)(d:Array RdS.Pr)(hH:HoldsK AU 2 w0 blk off d)(hblk:blk<w0.heap.size)(hsz:d.size<1000000000):∀(N a m b:Nat),b-a<=N->a<m->m<b->b<=d.size->∀w,SW w0 blk off d.size w->
  Calls prog 219 #[.slice (some ⟨blk,off,none⟩) d.size cap,.int .i64 a,.int .i64 m,.int .i64 b,Hu] w (Swp w0 blk off d.size):=by
 have K:=λa m b h1 h2 h3 w hw=>AeP w0 blk off cap d hH hblk hsz a m b h1 h2 h3 w hw;have H:=λw h i hi=>SW.read (w:=w) hH hblk h i hi;have z:=λw h i j hi hj P=>SW.exch (w:=w) hH hblk h i j hi hj P;have L:=Afh;have mixed:prog.follows .mixedOrders=true:=Zq.mixed;unfold Swp Hu at*;have J:=hZ9 K;have f:=hZ9 H;have G:=hZ9 z;have o:=hZ9 L;clear K H z L hH;generalize d.size=sz at*;intro N
 induction N with
 |zero=>intro a m b h1 h2 h3;omega
 |succ N ih=>
  intro a m b hN C4 D2 hb w hw;have IH:=hZ9 ih;have HW:=hZ9 hw;clear ih hw;by_cases h1:m=a+1
  ·have A3:(m:Int)-(a:Int)=1:=by omega
   have C1:m<=a+1:=by omega
   clear h1;go_enter func219,ntmps219
   go_wp2
   go_loopg [10,11] (b-m) (λg1 S Q wr=>∃(i j:Nat),S=.int .i64 i/\Q=.int .i64 j/\m<=i/\i<=j/\j<=b/\j-i<=g1/\Hid (SW w0 blk off sz wr))
   case atStart=>exact⟨m,b,rfl,rfl,aA _,by omega,aA _,aA _,HW⟩
   case round=>
    obtain⟨i,j,rfl,rfl,A1,P,R,Z,t⟩:=hrel;by_cases X:i<j
    ·have Y:(i:Int)<(j:Int):=by omega
     obtain⟨h,hh⟩:∃h:Nat,((i:Int)+(j:Int)) / 2=(h:Int):=⟨(i+j) / 2,by omega⟩
     have U:i<=h:=by omega
     have B6:h<j:=by omega
     obtain⟨A,x,hA,cA,O⟩:=f.out _ t.out h (by omega);obtain⟨B,y,hB,cB,V⟩:=f.out _ t.out a (by omega);have jh:(h:Int)<(sz:Int):=by omega
     have ja:(a:Int)<(sz:Int):=by omega
     by_cases v:cfP x y<0
     ·go_wp2_with fail
      go_quiet_grown (first|(go_at_call 171;refine Calls.grown_of (o.out x y _)))
      go_wp2
      go_roundg (j-(h+1))
      case measure=>omega
      case rel=>exact⟨h+1,j,by go_num,rfl,by omega,by omega,R,aA _,hZ9 (t.out.grown nq osq)⟩
     ·go_wp2_with fail
      go_quiet_grown (first|(go_at_call 171;refine Calls.grown_of (o.out x y _)))
      go_wp2
      go_roundg (h-i)
      case measure=>omega
      case rel=>exact⟨i,h,rfl,rfl,A1,U,by omega,aA _,hZ9 (t.out.grown nq osq)⟩
    ·have Y:¬(i:Int)<(j:Int):=by omega
     obtain⟨ip,D1⟩:∃ip:Nat,(i:Int)-1=(ip:Int):=⟨i-1,by omega⟩
     have C5:IntKind.i64.wrap (ip:Int)=(ip:Int):=by rw[IntKind.wrap_i64];omega
     go_wp2
     go_loopg [13] (ip-a) (λg1 vk wr=>∃(k:Nat),vk=.int .i64 k/\a<=k/\k<=ip/\ip-k<=g1/\Hid (SW w0 blk off sz wr))
     case atStart=>exact⟨a,rfl,aA _,by omega,aA _,t⟩
     case round=>
      obtain⟨k,rfl,B2,B5,A9,C⟩:=hrel;by_cases A2:k<ip
      ·have A0:(k:Int)<(ip:Int):=by omega
       obtain⟨A,B,x1,x2,y1,y2,⟨hA,hB⟩,⟨n1,n2,n3,n4,n5,n6⟩,⟨c1,c2,c3,c4⟩,⟨f1,f2,f3,f4⟩,u⟩:=G.out _ C.out k (k+1) (by omega) (by omega) (by omega);have E:=hZ9 u;clear u;have jk:(k:Int)<(sz:Int):=by omega
       have B9:(k:Int)+1<(sz:Int):=by omega
       have ek:((k:Int)+1).toNat=k+1:=by omega
       have j0:(0:Int)<=(k:Int)+1:=by omega
       go_wp2
       go_region
       all_goals go_wp2
       go_roundg (ip-(k+1))
       case measure=>omega
       case rel=>exact⟨k+1,by go_num,by omega,by omega,aA _,E⟩
      ·have A0:¬(k:Int)<(ip:Int):=by omega
       go_wp2
       (try simp only[Exit.inBlock,Exit.then])
       refine bodyPost_ret (results_none rfl _ _ _) rfl ?_;exact⟨rfl,C.out⟩
  ·have A3:∃q:Nat,(m:Int)-(a:Int)=(q:Int)/\2<=q:=⟨m-a,by omega,by omega⟩
   obtain⟨q,hq,C9⟩:=A3;have C3:((q:Int)==1)=false:=by rw[aV];omega
   have wq:IntKind.i64.wrap (q:Int)=(q:Int):=by rw[IntKind.wrap_i64];omega
   by_cases h2:b=m+1
   ·have A4:(b:Int)-(m:Int)=1:=by omega
    have C2:b<=m+1:=by omega
    clear h2;go_enter func219,ntmps219
    go_wp2
    go_loopg [14,15] (m-a) (λg1 S Q wr=>∃(i j:Nat),S=.int .i64 i/\Q=.int .i64 j/\a<=i/\i<=j/\j<=m/\j-i<=g1/\Hid (SW w0 blk off sz wr))
    case atStart=>exact⟨a,m,rfl,rfl,aA _,by omega,aA _,aA _,HW⟩
    case round=>
     obtain⟨i,j,rfl,rfl,A1,P,R,Z,t⟩:=hrel;by_cases X:i<j
     ·have Y:(i:Int)<(j:Int):=by omega
      obtain⟨h,hh⟩:∃h:Nat,((i:Int)+(j:Int)) / 2=(h:Int):=⟨(i+j) / 2,by omega⟩
      have U:i<=h:=by omega
      have B6:h<j:=by omega
      obtain⟨A,x,hA,cA,O⟩:=f.out _ t.out m (by omega);obtain⟨B,y,hB,cB,V⟩:=f.out _ t.out h (by omega);have jh:(h:Int)<(sz:Int):=by omega
      have ja:(m:Int)<(sz:Int):=by omega
      by_cases v:cfP x y<0
      ·go_wp2_with fail
       go_quiet_grown (first|(go_at_call 171;refine Calls.grown_of (o.out x y _)))
       go_wp2
       go_roundg (h-i)
       case measure=>omega
       case rel=>exact⟨i,h,rfl,rfl,A1,U,by omega,aA _,hZ9 (t.out.grown nq osq)⟩
      ·have A5:decide (cfP x y<0)=false:=aB v;go_wp2_with fail
       go_quiet_grown (first|(go_at_call 171;refine Calls.grown_of (o.out x y _)))
       go_wp2
       go_roundg (j-(h+1))
       case measure=>omega
       case rel=>exact⟨h+1,j,by go_num,rfl,by omega,by omega,R,aA _,hZ9 (t.out.grown nq osq)⟩
     ·have Y:¬(i:Int)<(j:Int):=by omega
      go_wp2
      go_loopg [17] (m-i) (λg1 vk wr=>∃(k:Nat),vk=.int .i64 k/\i<=k/\k<=m/\k-i<=g1/\Hid (SW w0 blk off sz wr))
      case atStart=>exact⟨m,rfl,by omega,aA _,aA _,t⟩
      case round=>
       obtain⟨k,rfl,B2,B5,A9,C⟩:=hrel;by_cases A2:i<k
       ·have A0:(i:Int)<(k:Int):=by omega
        obtain⟨M,C7⟩:∃M:Nat,(k:Int)-1=(M:Int):=⟨k-1,by omega⟩
        have D0:IntKind.i64.wrap (M:Int)=(M:Int):=by rw[IntKind.wrap_i64];omega
        obtain⟨A,B,x1,x2,y1,y2,⟨hA,hB⟩,⟨n1,n2,n3,n4,n5,n6⟩,⟨c1,c2,c3,c4⟩,⟨f1,f2,f3,f4⟩,u⟩:=G.out _ C.out k M (by omega) (by omega) (by omega);have E:=hZ9 u;clear u;have jk:(k:Int)<(sz:Int):=by omega
        have B9:(M:Int)<(sz:Int):=by omega
        go_wp2
        go_region
        all_goals go_wp2
        go_roundg (M-i)
        case measure=>omega
        case rel=>exact⟨M,rfl,by omega,by omega,aA _,E⟩
       ·have A0:¬(i:Int)<(k:Int):=by omega
        go_wp2
        (try simp only[Exit.inBlock,Exit.then])
        refine bodyPost_ret (results_none rfl _ _ _) rfl ?_;exact⟨rfl,C.out⟩
   ·have A4:∃q:Nat,(b:Int)-(m:Int)=(q:Int)/\2<=q:=⟨b-m,by omega,by omega⟩
    obtain⟨r,hr,C8⟩:=A4;have I:((r:Int)==1)=false:=by rw[aV];omega
    have wr:IntKind.i64.wrap (r:Int)=(r:Int):=by rw[IntKind.wrap_i64];omega
    obtain⟨mid,C0⟩:∃mid:Nat,((a:Int)+(b:Int)) / 2=(mid:Int):=⟨(a+b) / 2,by omega⟩
    have A7:a<mid:=by omega
    have A8:mid<b:=by omega
    obtain⟨n,hn⟩:∃n:Nat,(mid:Int)+(m:Int)=(n:Int):=⟨mid+m,by omega⟩
    have wn:IntKind.i64.wrap (n:Int)=(n:Int):=by rw[IntKind.wrap_i64];omega
    obtain⟨p,hp⟩:∃p:Nat,(n:Int)-1=(p:Int):=⟨n-1,by omega⟩
    have wp:IntKind.i64.wrap (p:Int)=(p:Int):=by rw[IntKind.wrap_i64];omega
    by_cases D3:mid<m
    ·have B8:(mid:Int)<(m:Int):=by omega
     obtain⟨s0,A6⟩:∃s0:Nat,(n:Int)-(b:Int)=(s0:Int):=⟨n-b,by omega⟩
     have C6:IntKind.i64.wrap (s0:Int)=(s0:Int):=by rw[IntKind.wrap_i64];omega
     go_enter func219,ntmps219
     go_wp2
     go_loopg [20,21] (mid-s0) (λg1 S Q wr=>∃(s r:Nat),S=.int .i64 s/\Q=.int .i64 r/\s0<=s/\s<=r/\r<=mid/\r-s<=g1/\Hid (SW w0 blk off sz wr))
     case atStart=>exact⟨s0,mid,rfl,rfl,aA _,by omega,aA _,aA _,HW⟩
     case round=>
      obtain⟨s,r,rfl,rfl,F,B4,I,Z,t⟩:=hrel;by_cases X:s<r
      ·have Y:(s:Int)<(r:Int):=by omega
       obtain⟨c,hc⟩:∃c:Nat,((s:Int)+(r:Int)) / 2=(c:Int):=⟨(s+r) / 2,by omega⟩
       have W:s<=c:=by omega
       have B0:c<r:=by omega
       obtain⟨pc,B7⟩:∃pc:Nat,(p:Int)-(c:Int)=(pc:Int):=⟨p-c,by omega⟩
       have B1:IntKind.i64.wrap (pc:Int)=(pc:Int):=by rw[IntKind.wrap_i64];omega
       obtain⟨A,x,hA,cA,O⟩:=f.out _ t.out pc (by omega);obtain⟨B,y,hB,cB,V⟩:=f.out _ t.out c (by omega);have jp:(pc:Int)<(sz:Int):=by omega
       have jc:(c:Int)<(sz:Int):=by omega
       by_cases v:cfP x y<0
       ·go_wp2_with fail
        go_quiet_grown (first|(go_at_call 171;refine Calls.grown_of (o.out x y _)))
        go_wp2
        go_roundg (c-s)
        case measure=>omega
        case rel=>exact⟨s,c,rfl,rfl,F,W,by omega,aA _,hZ9 (t.out.grown nq osq)⟩
       ·have A5:decide (cfP x y<0)=false:=aB v;go_wp2_with fail
        go_quiet_grown (first|(go_at_call 171;refine Calls.grown_of (o.out x y _)))
        go_wp2
        go_roundg (r-(c+1))
        case measure=>omega
        case rel=>exact⟨c+1,r,by go_num,rfl,by omega,by omega,I,aA _,hZ9 (t.out.grown nq osq)⟩
      ·have Y:¬(s:Int)<(r:Int):=by omega
       obtain⟨e,he⟩:∃e:Nat,(n:Int)-(s:Int)=(e:Int):=⟨n-s,by omega⟩
       have we:IntKind.i64.wrap (e:Int)=(e:Int):=by rw[IntKind.wrap_i64];omega
       have A6:=t.out;by_cases k1:s<m<;>by_cases k2:s<mid<;>by_cases k3:a<s<;>by_cases k4:e<b
       all_goals
        first|have z1:decide ((s:Int)<(m:Int))=true:=aI (by omega)|have z1:decide ((s:Int)<(m:Int))=false:=aB (by omega)
        first|have z2:decide ((s:Int)<(mid:Int))=true:=aI (by omega)|have z2:decide ((s:Int)<(mid:Int))=false:=aB (by omega)
        first|have z3:decide ((a:Int)<(s:Int))=true:=aI (by omega)|have z3:decide ((a:Int)<(s:Int))=false:=aB (by omega)
        first|have z4:decide ((e:Int)<(b:Int))=true:=aI (by omega)|have z4:decide ((e:Int)<(b:Int))=false:=aB (by omega)
        first|have z5:decide ((m:Int)<(e:Int))=true:=aI (by omega)|have z5:decide ((m:Int)<(e:Int))=false:=aB (by omega)
        first|have z6:decide ((mid:Int)<(e:Int))=true:=aI (by omega)|have z6:decide ((mid:Int)<(e:Int))=false:=aB (by omega)
        go_wp2_with (first
         |(go_at_call 249;refine(J.out _ _ _ (by omega) (by omega) (by omega) _ (by assumption)).mono ?_;rintro en w1 ⟨rfl,F⟩)
         |(go_at_call 219;refine(IH.out _ _ _ (by omega) (by omega) (by omega) (by omega) _ (by assumption)).mono ?_;rintro en w2 ⟨rfl,B3⟩))
        all_goals(go_end0;exact⟨rfl,by assumption⟩)
    ·have B8:¬(mid:Int)<(m:Int):=by omega
     go_enter func219,ntmps219
     go_wp2
     go_loopg [20,21] (m-a) (λg1 S Q wr=>∃(s r:Nat),S=.int .i64 s/\Q=.int .i64 r/\a<=s/\s<=r/\r<=m/\r-s<=g1/\Hid (SW w0 blk off sz wr))
     case atStart=>exact⟨a,m,rfl,rfl,aA _,by omega,aA _,aA _,HW⟩
     case round=>
      obtain⟨s,r,rfl,rfl,F,B4,I,Z,t⟩:=hrel;by_cases X:s<r
      ·have Y:(s:Int)<(r:Int):=by omega
       obtain⟨c,hc⟩:∃c:Nat,((s:Int)+(r:Int)) / 2=(c:Int):=⟨(s+r) / 2,by omega⟩
       have W:s<=c:=by omega
       have B0:c<r:=by omega
       obtain⟨pc,B7⟩:∃pc:Nat,(p:Int)-(c:Int)=(pc:Int):=⟨p-c,by omega⟩
       have B1:IntKind.i64.wrap (pc:Int)=(pc:Int):=by rw[IntKind.wrap_i64];omega
       obtain⟨A,x,hA,cA,O⟩:=f.out _ t.out pc (by omega);obtain⟨B,y,hB,cB,V⟩:=f.out _ t.out c (by omega);have jp:(pc:Int)<(sz:Int):=by omega
       have jc:(c:Int)<(sz:Int):=by omega
       by_cases v:cfP x y<0
       ·go_wp2_with fail
        go_quiet_grown (first|(go_at_call 171;refine Calls.grown_of (o.out x y _)))
        go_wp2
        go_roundg (c-s)
        case measure=>omega
        case rel=>exact⟨s,c,rfl,rfl,F,W,by omega,aA _,hZ9 (t.out.grown nq osq)⟩
       ·have A5:decide (cfP x y<0)=false:=aB v;go_wp2_with fail
        go_quiet_grown (first|(go_at_call 171;refine Calls.grown_of (o.out x y _)))
        go_wp2
        go_roundg (r-(c+1))
        case measure=>omega
        case rel=>exact⟨c+1,r,by go_num,rfl,by omega,by omega,I,aA _,hZ9 (t.out.grown nq osq)⟩
      ·have Y:¬(s:Int)<(r:Int):=by omega
       obtain⟨e,he⟩:∃e:Nat,(n:Int)-(s:Int)=(e:Int):=⟨n-s,by omega⟩
       have we:IntKind.i64.wrap (e:Int)=(e:Int):=by rw[IntKind.wrap_i64];omega
       have A6:=t.out;by_cases k1:s<m<;>by_cases k2:s<mid<;>by_cases k3:a<s<;>by_cases k4:e<b
       all_goals
        first|have z1:decide ((s:Int)<(m:Int))=true:=aI (by omega)|have z1:decide ((s:Int)<(m:Int))=false:=aB (by omega)
        first|have z2:decide ((s:Int)<(mid:Int))=true:=aI (by omega)|have z2:decide ((s:Int)<(mid:Int))=false:=aB (by omega)
        first|have z3:decide ((a:Int)<(s:Int))=true:=aI (by omega)|have z3:decide ((a:Int)<(s:Int))=false:=aB (by omega)
        first|have z4:decide ((e:Int)<(b:Int))=true:=aI (by omega)|have z4:decide ((e:Int)<(b:Int))=false:=aB (by omega)
        first|have z5:decide ((m:Int)<(e:Int))=true:=aI (by omega)|have z5:decide ((m:Int)<(e:Int))=false:=aB (by omega)
        first|have z6:decide ((mid:Int)<(e:Int))=true:=aI (by omega)|have z6:decide ((mid:Int)<(e:Int))=false:=aB (by omega)
        go_wp2_with (first
         |(go_at_call 249;refine(J.out _ _ _ (by omega) (by omega) (by omega) _ (by assumption)).mono ?_;rintro en w1 ⟨rfl,F⟩)
         |(go_at_call 219;refine(IH.out _ _ _ (by omega) (by omega) (by omega) (by omega) _ (by assumption)).mono ?_;rintro en w2 ⟨rfl,B3⟩))
        all_goals(go_end0;exact⟨rfl,by assumption⟩)
end
section
open Go.Shelf Go.RowKit Go.Lib Go.Sort Go.Proofs
theorem LP(x y:RdS.Pr):ltOf cfP x y=Op.bytesLess x.1 y.1:=by unfold ltOf cfP;rw[RuS.less_iff];have:=RuS.compare_range x.1 y.1;exact bM.2 ⟨λh=>by omega,λh=>by omega⟩
theorem YU:SWO (ltOf cfP) where
 irrefl x:=by rw[LP,RuS.less_iff,RuS.compare_self];rfl
 trans x y z h1 h2:=by rw[LP] at*;exact RdS.LK h1 h2
 ntrans x y z h1 h2:=by rw[LP] at*;exact RdS.SZ (a:=z) (b:=y) (c:=x) h2 h1
theorem Aaj(blk off cap:Nat)(d:Array RdS.Pr)(w:World)(hH:HoldsK AU 2 w blk off d)(hblk:blk<w.heap.size)(hsz:d.size<20):
  Calls prog 170 #[.slice (some ⟨blk,off,none⟩) d.size cap,Hu] w λe w'=>e=.returned (.tuple #[])/\∃n os,w'=sortWorldK AU 2 w blk off n (Sort.insertionSort (ltOf cfP) d 0 d.size) os:=by
 have a:=TX blk off cap 0 d.size d w hH hblk (aR _) (aA _) (by omega);generalize Sort.insertionSort (ltOf cfP) d 0 d.size=res at*;generalize d.size=sz at*;unfold Hu at*;clear hH;have b:Calls prog 196 #[.slice (some ⟨blk,off,none⟩) sz cap,sz,.func (.func 171) #[] #[]] w λe w'=>e=.returned (.tuple #[])/\∃n os,w'=sortWorldK AU 2 w blk off n res os:=by
  have h20:¬(20:Int)<=(sz:Int):=by omega
  have h21:¬(20:Int)<(sz:Int):=by omega
  go_enter func196,ntmps196
  go_wp2
  refine wp_loop_rounds 1 ?_;rw[rounds_succ];go_wp2_with (go_at_call 218;refine a.mono ?_;rintro e w1 ⟨rfl,n,os,rfl⟩)
  generalize c:sortWorldK AU 2 w blk off n res os=w1 at*;refine wp_loop_rounds 1 ?_;rw[rounds_succ]
  go_wp2
  go_end0
  exact⟨rfl,n,os,c.symm⟩
 go_enter func170,ntmps170;go_wp2_with (go_at_call 196;refine b.mono ?_;rintro e w1 ⟨rfl,f⟩)
 go_end0
 exact⟨rfl,f⟩
theorem We(w0:World)(blk off cap:Nat)(d:Array RdS.Pr)(hH:HoldsK AU 2 w0 blk off d)(hblk:blk<w0.heap.size)(hsz:d.size<1000000000)(a b:Nat)(f:a<=b)(hb:b<=d.size)(w:World)(k:SW w0 blk off d.size w):
  Calls prog 218 #[.slice (some ⟨blk,off,none⟩) d.size cap,a,b,Hu] w (Swp w0 blk off d.size):=by
 obtain⟨m,c,o,i,rfl⟩:=k;have j:HoldsK AU 2 (sortWorldK AU 2 w0 blk off m c o) blk off c:=holdsK_sortWorldK_c AU 2 w0 blk off d c m o hH hblk i;have h:=TX blk off cap a b c (sortWorldK AU 2 w0 blk off m c o) j (ae hblk (size_sortWorldK_c AU 2 w0 blk off m c o)) f (by omega) (by omega);rw[i] at h;refine h.mono ?_;rintro e w' ⟨rfl,n,os,rfl⟩;have hp:=(insertionSort_holds YU c a b f (by omega)).1.1;refine⟨rfl,m+n,Sort.insertionSort (ltOf cfP) c a b,o++os,by rw[<-i];exact hp,?_⟩;exact grow_step_growK AU 2 w0 o os m n blk off c _ hblk hp
theorem XT(w0:World)(blk off cap:Nat)(d:Array RdS.Pr)(hH:HoldsK AU 2 w0 blk off d)(hblk:blk<w0.heap.size)(hsz:d.size<1000000000)(w:World)(q:SW w0 blk off d.size w):
  Calls prog 196 #[.slice (some ⟨blk,off,none⟩) d.size cap,d.size,Hu] w (Swp w0 blk off d.size):=by
 have k:=λa b h1 h2 w q=>We w0 blk off cap d hH hblk hsz a b h1 h2 w q;have i:=λa m b h1 h2 h3 w q=>Aai w0 blk off cap d hH hblk hsz (b-a) a m b (aA _) h1 h2 h3 w q;unfold Swp Hu at*;have h:=hZ9 k;have j:=hZ9 i;have P:=hZ9 q;clear k i hH q;generalize d.size=n at*;go_enter func196,ntmps196
 go_wp2
 go_loopg [7,8] n (λg1 v x wr=>∃(a b:Nat),v=.int .i64 a/\x=.int .i64 b/\b=a+20/\a<=n/\n-a<=g1/\Hid (SW w0 blk off n wr))
 case atStart=>exact⟨0,20,rfl,rfl,rfl,aR _,by omega,P⟩
 case round=>
  obtain⟨a,b,rfl,rfl,hb,B,C,p⟩:=hrel;have R:a<=b:=by omega
  have K:b<=a+20:=by omega
  have Q:a<b:=by omega
  clear hb;by_cases A:b<=n
  ·have M:(b:Int)<=(n:Int):=by omega
   obtain⟨c,z⟩:∃c:Nat,(b:Int)+20=(c:Int):=⟨b+20,by omega⟩
   have E:IntKind.i64.wrap (c:Int)=(c:Int):=by rw[IntKind.wrap_i64];omega
   go_wp2_with (go_at_call 218;refine(h.out a b (by omega) (by omega) _ p.out).mono ?_;rintro e w1 ⟨rfl,f⟩)
   go_roundg (n-b)
   case measure=>omega
   case rel=>exact⟨b,c,rfl,rfl,by omega,A,aA _,hZ9 f⟩
  ·have M:¬(b:Int)<=(n:Int):=by omega
   go_wp2_with (go_at_call 218;refine(h.out a n (by omega) (by omega) _ p.out).mono ?_;rintro e w1 ⟨rfl,f⟩)
   go_loopg [6,7,8,9] n (λg1 vs v x V wr=>∃(s:Nat),vs=.int .i64 s/\1<=s/\s<=2000000000/\n-s<=g1/\Hid (SW w0 blk off n wr))
   case atStart=>exact⟨20,rfl,by omega,by omega,by omega,hZ9 f⟩
   case round=>
    obtain⟨s,rfl,f,S,J,u⟩:=hrel;by_cases H:s<n
    ·have F:(s:Int)<(n:Int):=by omega
     obtain⟨t,X⟩:∃t:Nat,(2:Int)*(s:Int)=(t:Int):=⟨2*s,by omega⟩
     have N:(s:Int)*2=(t:Int):=by omega
     have W:IntKind.i64.wrap (t:Int)=(t:Int):=by rw[IntKind.wrap_i64];omega
     go_wp2
     go_loopg [7,8] n (λg1 v x wr=>∃(a b:Nat),v=.int .i64 a/\x=.int .i64 b/\b<=a+t/\a+t<=b/\a<=n/\n-a<=g1/\Hid (SW w0 blk off n wr))
     case atStart=>exact⟨0,t,rfl,rfl,by omega,by omega,aR _,by omega,u⟩
     case round=>
      obtain⟨a,b,rfl,rfl,L,O,B,C,p⟩:=hrel;obtain⟨m,U⟩:∃m:Nat,(a:Int)+(s:Int)=(m:Int):=⟨a+s,by omega⟩
      have Y:IntKind.i64.wrap (m:Int)=(m:Int):=by rw[IntKind.wrap_i64];omega
      by_cases r:b<=n
      ·have G:(b:Int)<=(n:Int):=by omega
       obtain⟨c,z⟩:∃c:Nat,(b:Int)+(t:Int)=(c:Int):=⟨b+t,by omega⟩
       have E:IntKind.i64.wrap (c:Int)=(c:Int):=by rw[IntKind.wrap_i64];omega
       go_wp2_with (go_at_call 219;refine(j.out a m b (by omega) (by omega) (by omega) _ p.out).mono ?_;rintro e w1 ⟨rfl,o⟩)
       go_roundg (n-b)
       case measure=>omega
       case rel=>exact⟨b,c,rfl,rfl,by omega,by omega,r,aA _,hZ9 o⟩
      ·have G:¬(b:Int)<=(n:Int):=by omega
       by_cases I:m<n
       ·have y:(m:Int)<(n:Int):=by omega
        go_wp2_with (go_at_call 219;refine(j.out a m n (by omega) (by omega) (by omega) _ p.out).mono ?_;rintro e w1 ⟨rfl,o⟩)
        go_roundg (n-t)
        case measure=>omega
        case rel=>exact⟨t,rfl,by omega,by omega,aA _,hZ9 o⟩
       ·have y:¬(m:Int)<(n:Int):=by omega
        go_wp2
        go_roundg (n-t)
        case measure=>omega
        case rel=>exact⟨t,rfl,by omega,by omega,aA _,p⟩
    ·have F:¬(s:Int)<(n:Int):=by omega
     go_wp2
     go_end0
     exact⟨rfl,u.out⟩
theorem Acr(w0:World)(blk off cap:Nat)(d:Array RdS.Pr)(hH:HoldsK AU 2 w0 blk off d)(hblk:blk<w0.heap.size)(hsz:d.size<1000000000):
  Calls prog 170 #[.slice (some ⟨blk,off,none⟩) d.size cap,Hu] w0 (Swp w0 blk off d.size):=by
 have a:=XT w0 blk off cap d hH hblk hsz w0 ⟨0,d,#[],rfl,by unfold sortWorldK;rw[grow_empty];exact(putRowK_self AU 2 w0 blk off d hH).symm⟩;unfold Swp Hu at*;clear hH;generalize d.size=n at*;go_enter func170,ntmps170;go_wp2_with (go_at_call 196;refine a.mono ?_;rintro e w1 ⟨rfl,b⟩)
 go_end0
 exact⟨rfl,b⟩
end
section
open Go.Shelf Go.Lib Go.Sort Go.Proofs
theorem JY(B:Nat)(w:World)(g:Nat)(c:B<=g)(b:g<w.heap.size)(m:Nat)(a:Array RdS.Pr)(os:Array Obj):Go.RowKit.Below B w (sortWorldK AU 2 w g 0 m a os):=by
 refine⟨rfl,rfl,rfl,?_,λk hk=>?_⟩
 ·unfold sortWorldK;rw[size_grow,size_putRowK];exact Nat.le_add_right _ _
 ·unfold sortWorldK;rw[heap_grow_old _ _ (by rw[size_putRowK];show k<w.heap.size;omega)];show (w.heap.modify g _)[k]?=w.heap[k]?
  rw[dK,aG (by omega)]
theorem Acs{B cap:Nat}{xs:List RdS.Pr}(h:Bg 190 w B (.slice (some ⟨g,0,none⟩) n cap) xs)(m:n=xs.length):HoldsK AU 2 w g 0 xs.toArray:=by
 intro j i;rw[size_flatK,bS] at i;have f:=World.ownsRow.frozenAt (m▸h) j;have d:j / 2<xs.length:=by omega
 have b:=Ji xs (j / 2) xs[j / 2] (aK d);have a:∀k,(⟨g,0,none⟩:Addr).add k=⟨g,0+k,none⟩:=λk=>by unfold Addr.add;split<;>simp_all
 rw[get_flatK _ _ _ _ (by rw[bS];exact i)];have e:xs.toArray[j / 2]! =xs[j / 2]:=by simp[d]
 rw[e];refine⟨?_,by rw[bv];exact f⟩;rcases eB j with h0|h1
 ·have c:=World.ownsRow.cells h (g:=g) rfl _ _ b.1;rw[a,show j / 2*2=j from by omega] at c;rw[c,h0];rfl
 ·have c:=World.ownsRow.cells h (g:=g) rfl _ _ b.2;rw[a,show j / 2*2+1=j from by omega] at c;rw[c,h1];rfl
theorem QR{cap:Nat}{d:Array RdS.Pr}(h:HoldsK AU 2 w g 0 d)(f:n=d.size)(hc:n<=cap)(i:g<w.heap.size):AY w (.slice (some ⟨g,0,none⟩) n cap) d.toList:=by
 refine⟨some ⟨g,0,none⟩,cap,by rw[f];simp,by simp;omega,.inr ⟨g,0,rfl,i,λj p b=>?_⟩⟩;have a:j<d.size:=by
  have:=(ak.1 b).1
  simpa using this
 have e:d[j]! =p:=by
  have:=(ak.1 b).2;rw[gq d j a]
  simpa using this
 have c0:=h.cell a (c:=0) (by decide);have c1:=h.cell a (c:=1) (by decide);rw[e] at c0 c1;exact⟨c0.1,c1.1⟩
theorem XU{d a:Array RdS.Pr}(hp:PermIn 0 d.size d a)(f:SortedIn (ltOf cfP) 0 d.size a):a.toList.Perm d.toList/\a.toList.Pairwise RdS.le2:=by
 have hsz:=hp.1;refine⟨?_,?_⟩
 ·have h:=hp.2.2;rw[gu,<-hsz,gu] at h;exact h
 ·rw[List.pairwise_iff_getElem];intro i j e b c;have h:=f i j (aR _) c (by simpa[hsz] using b);rw[LP] at h;simp only[Array.length_toList] at e b;rw[gq a i e,gq a j b] at h
  simpa[RdS.le2] using h
def Tag(T:TypeId)(w:World)(v:Value):Prop:=∀g,v.ownBlock=some g->∃cs fz,w.heap[g]?=some (.cells cs T fz)
theorem Tag.call{v:Value}(h:Tag T w v)(hb:Go.RowKit.Below w.heap.size w w'):Tag T w' v:=λg a=>by obtain⟨cs,fz,e⟩:=h g a;exact⟨cs,fz,(hb.block g (ah.1 e).1).trans e⟩
theorem Tag.nil(T:TypeId)(w:World)(n c:Nat):Tag T w (.slice none n c):=λg h=>by cases h
theorem Tag.own{B:Nat}{a:Option Addr}{c:Nat}{xs:List RdS.Pr}(h:Bg T w B (.slice a n c) xs)(m:Nat):Tag T w (.slice a m c):=λg b=>by
 rcases h.2 with⟨e,_⟩|⟨f,cap,cur,e,_,d,_⟩
 ·cases e;cases b
 ·cases e;cases b;exact⟨_,_,d⟩
theorem Ux{cr:Array Value}{fz:Nat×Nat}(h:w.heap[g]?=some (.cells cr T fz))(m:Nat)(b:Array RdS.Pr)(os:Array Obj):∃cs,(sortWorldK AU 2 w g 0 m b os).heap[g]?=some (.cells cs T fz):=by
 have a:=(ah.1 h).1;unfold sortWorldK;rw[heap_grow_old _ _ (by rw[size_putRowK];exact a)];show ∃cs,(w.heap.modify g _)[g]?=_
 rw[dK,aJ rfl,h];exact⟨_,rfl⟩
def YV(B:Nat)(v:Value)(xs:List RdS.Pr)(w:World)(e:Ending)(w':World):Prop:=
 e=.returned (.tuple #[])/\Go.RowKit.Below B w w'/\∃ys:List RdS.Pr,ys.length=xs.length/\AY w' v ys/\(xs.length<20->ys.Perm xs/\ys.Pairwise RdS.le2)/\Tag 190 w' v
theorem sort_c(B:Nat)(v:Value)(xs:List RdS.Pr)(w:World)(h:Bg 190 w B v xs)(h0:xs≠[])(y:xs.length<=1000000):
  Calls prog 170 #[v,.func (.func 171) #[] #[]] w (YV B v xs w):=by
 have o:0<xs.length:=cY.2 h0;obtain⟨g,cap,rfl,r,a⟩:=World.ownsRow.form h o;have b:xs.length<=cap/\∃cr,w.heap[g]?=some (.cells cr 190 (0,0)):=by
  rcases h.2 with⟨e,_⟩|⟨t,s,cr,e,_,x,u,_⟩
  ·cases e
  ·cases e;exact⟨u,cr,x⟩
 obtain⟨b,cr,k⟩:=b;have f:∀m p os,Tag 190 (sortWorldK AU 2 w g 0 m p os) (.slice (some ⟨g,0,none⟩) xs.length cap):=λm p os t q=>by cases q;obtain⟨cs,e⟩:=Ux k m p os;exact⟨cs,_,e⟩
 have hH:=Acs h rfl;have hsz:xs.toArray.size=xs.length:=bS ..;by_cases h20:xs.length<20
 ·have hc:=Aaj g 0 cap xs.toArray w hH a (by omega);have j:=insertionSort_holds YU xs.toArray 0 xs.toArray.size (aR _) (aA _);have hp:=XU j.1 j.2;have d:=j.1.1;generalize Sort.insertionSort (ltOf cfP) xs.toArray 0 xs.toArray.size=c at*;rw[hsz] at hc;refine hc.mono ?_;rintro e w' ⟨rfl,n,os,rfl⟩;have i:=holdsK_sortWorldK_c AU 2 w g 0 xs.toArray c n os hH a d;refine⟨rfl,JY B w g r a n c os,c.toList,by simp[d],QR i (by omega) b (ae a (size_sortWorldK_c AU 2 w g 0 n c os)),λ_=>?_,f _ _ _⟩
  simpa using hp
 ·have hc:=Acr w g 0 cap xs.toArray hH a (by omega);rw[hsz] at hc;refine hc.mono ?_;rintro e w' ⟨rfl,n,c,os,d,rfl⟩;have i:=holdsK_sortWorldK_c AU 2 w g 0 xs.toArray c n os hH a (by omega);exact⟨rfl,JY B w g r a n c os,c.toList,by simp[d],QR i (by omega) b (ae a (size_sortWorldK_c AU 2 w g 0 n c os)),(λh=>absurd h h20),f _ _ _⟩
end
section
open Go.RowKit
namespace RdS
theorem LQ:∀p:iK,(p.contains 61=true->Lib.index p [61]=((nameOf p).length:Int))/\(p.contains 61=false->Lib.index p [61]=-1)
 |[]=>⟨λh=>by simp at h,λ_=>by decide⟩
 |b :: p=>by
  have a:=LQ p;by_cases hb:b=61
  ·subst hb;exact⟨λ_=>by rw[RuS.index_cons_eq];simp[nameOf],λh=>by simp at h⟩
  ·have hc:(b :: p).contains 61=p.contains 61:=by
    rw[fH];have:((61:UInt8)==b)=false:=by simpa using λe=>hb e.symm
    rw[this,fK]
   have c:nameOf (b :: p)=b :: nameOf p:=by unfold nameOf;rw[cZ,aJ (by simpa using hb)]
   rw[hc,c,RuS.index_cons_ne hb];refine⟨λh=>?_,λh=>?_⟩
   ·rw[a.1 h,aG (by rw[ag];omega)];simp
   ·rw[a.2 h];rfl
theorem OO(p:iK):p.take (nameOf p).length=nameOf p:=by
 have h:=List.takeWhile_append_dropWhile (p:=λb:UInt8=>b !=61) (l:=p);have h2:p=nameOf p++p.dropWhile (λb:UInt8=>b !=61):=h.symm
 conv=>lhs;rw[h2]
 rw[fB (cu (by congr 1;rw[<-h2]))];rw[<-h2];exact bA
theorem Af9{p:iK}(h:p.contains 61=true):Lib.cut p [61]=(nameOf p,p.drop ((nameOf p).length+1),true):=by have a:=(LQ p).1 h;unfold Lib.cut;rw[a,aJ (by omega),Int.toNat_natCast,OO];rfl
theorem Ag7{p:iK}(h:p.contains 61=false):Lib.cut p [61]=(p,[],false):=by have a:=(LQ p).2 h;unfold Lib.cut;rw[a,aG (by decide)]
theorem Aak(p:iK):(nameOf p).length<=p.length:=by have:=congrArg List.length (OO p);rw[ar] at this;omega
theorem Acu:∀(l:iK) (f:Bool) (v:iK),AG f l=some v->v.length<=l.length:=by
 intro l
 induction h:l.length using Nat.strongRecOn generalizing l with
 |_ n ih=>
  intro f v a
  match l,h,a with
  |[],h,a=>cases a;simp
  |[c],h,a=>
   unfold AG at a;split at a
   ·cases a
   ·cases a;simp at h;simp;omega
  |c :: d :: r,h,a=>
   have hd:(d :: r).length<n:=by rw[<-h];simp
   have b:r.length<n:=by rw[<-h];simp;omega
   by_cases hc:c=92
   ·subst hc;cases hb:Em d with
    |true=>rw[EL f hb] at a;obtain⟨u,hu,rfl⟩:=bF.1 a;have:=ih _ b r rfl false u hu;simp only[aN] at h⊢;omega
    |false=>
     match r,b,h,a with
     |[],b,h,a=>rw[FV f hb] at a;cases a
     |e :: r,b,h,a=>
      cases h1:hexOf d with
      |none=>rw[Df f hb (.inl h1)] at a;cases a
      |some x=>
       cases h2:hexOf e with
       |none=>rw[Df f hb (.inr h2)] at a;cases a
       |some y=>
        rw[EZ f hb h1 h2] at a;obtain⟨u,hu,rfl⟩:=bF.1 a;have i:r.length<n:=by rw[<-h];simp;omega
        have:=ih _ i r rfl false u hu;simp only[aN] at h⊢;omega
   ·cases hb:Dq f (d :: r).isEmpty c with
    |true=>rw[JW hc hb] at a;cases a
    |false=>rw[Ir hc hb] at a;obtain⟨u,hu,rfl⟩:=bF.1 a;have:=ih _ hd (d :: r) rfl false u hu;simp only[aN] at h this⊢;omega
theorem readS_len{v:iK}(h:readS l=some v):v.length<=l.length:=Acu l true v h
end RdS
def RL(l:iK)(w:World)(e:Ending)(w':World):Prop:=∃v,e=.returned (.tuple #[v,.int .i64 (RdS.Bh l).2])/\AY w' v (RdS.Bh l).1/\Below w.heap.size w w'
theorem RL.none{l:iK}{w w':World}(h:RdS.Bh l=([],2))(hb:Below w.heap.size w w'):RL l w (.returned (.tuple #[.slice none 0 0,.int .i64 2])) w':=by
 refine⟨.slice Option.none 0 0,?_,?_,hb⟩
 ·rw[h]
 ·rw[h];exact AY.empty w'
def CQ(T:TypeId)(l:iK)(w:World)(e:Ending)(w':World):Prop:=∃v,e=.returned (.tuple #[v,.int .i64 (RdS.Bh l).2])/\AY w' v (RdS.Bh l).1/\Below w.heap.size w w'/\Tag T w' v
theorem CQ.plain{e:Ending}(h:CQ T l w e w'):RL l w e w':=by obtain⟨v,h1,h2,h3,_⟩:=h;exact⟨v,h1,h2,h3⟩
theorem CQ.none(h:RdS.Bh l=([],2))(hb:Below w.heap.size w w'):CQ T l w (.returned (.tuple #[.slice Option.none 0 0,.int .i64 2])) w':=by
 refine⟨.slice Option.none 0 0,?_,?_,hb,Tag.nil _ _ _ _⟩
 ·rw[h]
 ·rw[h];exact AY.empty w'
def Acv(ps:List iK)(w0:World)(out i:Value)(wr:World):Prop:=
 ∃(k:Nat) (a:List RdS.Pr),k<=ps.length/\i=.int .i64 k/\Bg 190 wr w0.heap.size out a/\a.length=k/\RdS.CZ (ps.take k)=some a/\(∀q∈a,q.1.length<=17/\q.2.length<=1000000)/\Below w0.heap.size w0 wr
theorem OQ{ps:List iK}{k:Nat}(h:k<ps.length){b:List RdS.Pr}(d:RdS.CZ (ps.take k)=some b){a:RdS.Pr}(c:RdS.CJ ps[k]=some a):RdS.CZ (ps.take (k+1))=some (b++[a]):=by rw[aW h,RdS.OJ,d,c]
theorem QS{k:Nat}{ps:List iK}(a:RdS.Ap 43 l=ps)(h:k<ps.length)(b:RdS.CJ ps[k]=none):RdS.Bh l=([],2):=by unfold RdS.Bh;rw[a,RdS.OL (aZ h) b]
theorem YW:(prog.info? 190).map (λi=>(i.zero,i.size,i.bytes))=some (some (.agg #[.string ⟨#[]⟩,.string ⟨#[]⟩]),2,32):=by kernel_rfl
theorem XV(a:Option Addr)(n c:Nat)(w:World)(d:3<n)(h:n<=1000000):Calls prog 141 #[.slice a n c] w λe w'=>e=.returned false/\w=w':=by
 have f:((n:Int)==0)=false:=aV.2 (by omega);have b:(3:Int)<(n:Int):=by omega
 go_enter func141,ntmps141;go_wp2_with fail;go_ret;exact⟨rfl,rfl⟩
theorem Acw(l:iK)(hl:l.length<=100000)(w:World)(hE:Env w):Calls prog 140 #[l] w (CQ 190 l w):=by
 have J:=RY l 43 (by omega) (by decide) w;unfold Hv at J;have D0:=RdS.Jg (sep:=43) l;have Z:=RdS.EO (sep:=43) l;obtain⟨p0,E1,B1⟩:=RdS.CS 43 l;have X:Hid (1<=(RdS.Ap 43 l).length):=hZ9 (by rw[B1];simp);clear B1;obtain⟨ps,O⟩:∃ps,RdS.Ap 43 l=ps:=⟨_,rfl⟩
 rw[O] at J D0 Z X;have A8:=hZ9 O;have D3:=hZ9 Z;clear O Z;go_enter func140,ntmps140;go_wp2_with fail;refine J.mono ?_;rintro e w0 ⟨v,rfl,hv,hb0⟩;obtain⟨a,c,rfl,hc,W⟩:=hv;generalize hn:ps.length=n at*;have HN:=hZ9 hn;have E0:=hE.below hb0;rcases W with rfl|⟨g,o,rfl,hg,hcell⟩
 ·simp at hn;exact absurd X.out (by rw[<-hn];simp)
 have R:=hZ9 hcell;clear hn hcell J;go_wp2_with fail;go_loopw [4,17] (λout i wr=>Acv ps w0 out i wr) (λ_ i _=>n-(intOf i).toNat)
 case atStart=>exact⟨0,[],aR _,rfl,Bg.empty _ _ _,rfl,rfl,by simp,Below.refl _ _⟩
 case round=>
  obtain⟨k,K,hk,rfl,r,G,z,I,hb⟩:=hrel;rw[HN.out] at hk;have hsz:=hb.size;have f:Below w.heap.size w wr:=hb0.trans (hb.mono hb0.size);have C4:=hE.below f;by_cases C6:k<n
  ·have s:k<ps.length:=by rw[HN.out];exact C6
   have C7:wr.cell? ⟨g,o+k,none⟩=some (Ac ps[k]):=(hb.cell (p:=⟨g,o+k,none⟩) hg).trans (R.out k _ (aK s));have D8:=D3.out ps[k] (aZ s);have B:=hZ9 (QS A8.out s);have E:=hZ9 (λ(a:RdS.Pr)=>OQ s z (a:=a));have Q:=hZ9 I;generalize ps[k]=p at*;unfold Ac at C7;clear z s I;obtain⟨m,hm⟩:=C4.maxLen;have hcut:=strings_Cut ⟨p.toArray⟩ ⟨#[61]⟩ m wr (by show p.toArray.size<_;rw[bS];omega) hm;have dp:(⟨p.toArray⟩:ByteArray).data.toList=p:=rfl;have A5:(⟨#[61]⟩:ByteArray).data.toList=[61]:=rfl;rw[dp,A5] at hcut;clear dp A5 hm;have C:=λ(nm:iK) (h:nm.length<=1000000) w=>Gx ⟨nm.toArray⟩ (by show nm.toArray.size<=_;rw[bS];omega) w;unfold Ak at C;cases h61:p.contains 61 with
   |false=>rw[RdS.Ag7 h61] at hcut;have F:Hid (RdS.Bh l=([],2)):=hZ9 (B.out (by unfold RdS.CJ;rw[h61];rfl));clear h61 B;have V:=λw=>C p (by omega) w;clear C;generalize RuS.typeOf (⟨p.toArray⟩:ByteArray).data.toList=ty at*;have j:=λw=>Zp [] (by simp) w;unfold Cc at j;go_wp2_with fail;refine hcut.mono ?_;rintro e w1 ⟨rfl,nd,rfl⟩;go_wp2_with fail;refine(V _).mono ?_;rintro e w2 ⟨rfl,b⟩;go_wp2_with fail;refine(j _).mono ?_;rintro e w3 ⟨rfl,d⟩;go_wp2_with fail;go_ret2;exact CQ.none F.out (f.trans ((Aa (below_drewN wr nd) (Aa b d)).mono f.size))
   |true=>
    rw[RdS.Af9 h61] at hcut;have HP:Hid (RdS.CJ p=if(RuS.typeOf (RdS.nameOf p)).1=[] then none else(RdS.readS (p.drop ((RdS.nameOf p).length+1))).map ((RuS.typeOf (RdS.nameOf p)).1,·)):=hZ9 (by unfold RdS.CJ;rw[h61];rfl);have B8:=RdS.Aak p;have A6:(p.drop ((RdS.nameOf p).length+1)).length<=p.length:=by rw[bD];omega
    have V:=λw=>C (RdS.nameOf p) (by omega) w;have dn:(⟨(RdS.nameOf p).toArray⟩:ByteArray).data.toList=RdS.nameOf p:=rfl;rw[dn] at V;have B3:=RuS.typeM_all (RuS.lower (RdS.nameOf p));have L:(RuS.typeOf (RdS.nameOf p)).1.length<=17:=by
     rcases B3 with e|e
     ·have:RuS.typeOf (RdS.nameOf p)=([],0):=e;rw[this];simp
     ·exact e.2.2.2
    have j:=λw=>Zp (p.drop ((RdS.nameOf p).length+1)) (by omega) w;have B2:=λv=>RdS.readS_len (l:=p.drop ((RdS.nameOf p).length+1)) (v:=v);clear h61 dn B3 C B8;unfold Cc at j;generalize p.drop ((RdS.nameOf p).length+1)=rest at*;generalize RuS.typeOf (RdS.nameOf p)=ty at*;generalize RdS.nameOf p=nm at*;obtain⟨t,sy⟩:=ty;simp only at V L;have C0:=hZ9 A6;have D4:=hZ9 B2;clear A6 B2;cases P:RdS.readS rest with
    |none=>rw[P] at j;have F:Hid (RdS.Bh l=([],2)):=hZ9 (B.out (by rw[HP.out,P];split<;>rfl));clear P B E;go_wp2_with fail;refine hcut.mono ?_;rintro e w1 ⟨rfl,nd,rfl⟩;go_wp2_with fail;refine(V _).mono ?_;rintro e w2 ⟨rfl,b⟩;go_wp2_with fail;refine(j _).mono ?_;rintro e w3 ⟨rfl,d⟩;go_wp2_with fail;go_ret2;exact CQ.none F.out (f.trans ((Aa (below_drewN wr nd) (Aa b d)).mono f.size))
    |some v=>
     rw[P] at j;have B5:=D4.out v P;have HR:=hZ9 P;have C1:v.length<=1000000:=by have:=C0.out;omega
     clear P;cases A1:t.isEmpty with
     |true=>have F:Hid (RdS.Bh l=([],2)):=hZ9 (B.out (by rw[HP.out,aJ (by simpa using A1)]));have D7:=hZ9 A1;go_wp2_with fail;refine hcut.mono ?_;rintro e w1 ⟨rfl,nd,rfl⟩;go_wp2_with fail;refine(V _).mono ?_;rintro e w2 ⟨rfl,b⟩;go_wp2_with fail;refine(j _).mono ?_;rintro e w3 ⟨rfl,d⟩;go_wp2_with fail;go_ret2;exact CQ.none F.out (f.trans ((Aa (below_drewN wr nd) (Aa b d)).mono f.size))
     |false=>
      have C9:=hZ9 (E.out (t,v) (by rw[HP.out,aG (by simpa using A1),HR.out];rfl));obtain⟨i0,hi,B7,B9,C8⟩:=info_parts YW;have HI:=hZ9 hi;have A3:=hZ9 r;have D6:K.length<=1000001:=by omega
      clear B E hi r;go_wp2_with fail;refine hcut.mono ?_;rintro e w1 ⟨rfl,nd,rfl⟩;go_wp2_with fail;refine(V _).mono ?_;rintro e w2 ⟨rfl,b⟩;go_wp2_with fail;refine(j _).mono ?_;rintro e w3 ⟨rfl,d⟩;have Y:Below wr.heap.size wr w3:=Aa (below_drewN wr nd) (Aa b d);have D5:=Y.size;go_wp2_with (at_builtin;refine Jm 190 151 underlying151 HI.out B7 B9 C8 (by rfl) (by rfl) _ _ (by rfl) w0.heap.size _ K (by rfl) ((A3.out.call Y).alloc _) w3.heap.size (by rfl) (t,v) ?e1 ?e2 ?e3 ?e4 ?_)
      case e1=>simp[go_sem,Ac]
      case e2=>simp[go_sem,Ac]
      case e3=>omega
      case e4=>simp;omega
      intro v' w4 S B6;go_wp2_with fail;go_roundw
      case rel=>
       refine⟨k+1,K++[(t,v)],by rw[HN.out];omega,by go_num,S,by simp[G],C9.out,?_,(hb.trans (Y.mono hsz)).alloc (by omega) _ |>.trans B6⟩;intro q z;rcases bB.1 z with z|z
       ·exact Q.out q z
       ·have:=aj.1 z;subst this;exact⟨L,C1⟩
      case measure=>simp[intOf];omega
  ·have C2:k=n:=by omega
   subst C2;have M:ps.take k=ps:=af (by rw[HN.out];omega);rw[M] at z;have U:Hid (RdS.Bh l=if RdS.formedS (RdS.CH K) then(RdS.CH K,0) else([],2)):=hZ9 (by unfold RdS.Bh;rw[A8.out,z]);have A4:K≠[]:=by intro h;have:=X.out;rw[<-G,h] at this;simp at this
   have x:=sort_c w0.heap.size _ K wr r A4 (by omega);unfold YV at x;obtain⟨a,cp,rfl⟩:=r.form;rw[G] at x;have Q:=hZ9 I;clear M z r I;go_wp2_with fail;refine x.mono ?_;rintro e w1 ⟨rfl,C3,ys,D9,H,A9,A7⟩;have D1:=hZ9 A7;clear A7;have b:Below w.heap.size w w1:=f.trans (C3.mono hb0.size);have C5:=hZ9 A9;clear A9 x;by_cases h20:k<20
   ·obtain⟨A0,B0⟩:=C5.out h20;have B4:=RdS.sort_same A0 B0;have N:Fb ys:=λq z=>by
     have:=Q.out q (A0.mem_iff.1 z);omega
    have u:=LO _ ys w1 H N (hE.below b);unfold JX at u;have A2:=hZ9 B4;have D2:=hZ9 H;clear A0 B0 B4 N H;cases A:RdS.formedS ys with
    |true=>
     have y:=hZ9 A;rw[A] at u;clear A;go_wp2_with fail;refine u.mono ?_;rintro e w2 ⟨rfl,d⟩;go_wp2_with fail;go_ret2;have e1:RdS.Bh l=(ys,0):=by rw[U.out,<-A2.out.1,aJ y.out,A2.out.2 y.out]
     exact⟨_,by rw[e1];rfl,by rw[e1];exact D2.out.call d (aA _),b.trans (d.mono b.size),D1.out.call d⟩
    |false=>have y:=hZ9 A;rw[A] at u;clear A;go_wp2_with fail;refine u.mono ?_;rintro e w2 ⟨rfl,d⟩;go_wp2_with fail;go_ret2;exact CQ.none (by rw[U.out,<-A2.out.1,aG (by rw[y.out];decide)]) (b.trans (d.mono b.size))
   ·have u:=XV a k cp w1 (by omega) (by omega);have y:Hid (RdS.formedS (RdS.CH K)=false):=hZ9 (by
     unfold RdS.formedS;rw[RdS.JC,G,aB (show ¬k<=3 by omega)];simp)
    clear H;go_wp2_with fail;refine u.mono ?_;rintro e w2 ⟨rfl,rfl⟩;go_wp2_with fail;go_ret2;exact CQ.none (by rw[U.out,aG (by rw[y.out];decide)]) b
end
