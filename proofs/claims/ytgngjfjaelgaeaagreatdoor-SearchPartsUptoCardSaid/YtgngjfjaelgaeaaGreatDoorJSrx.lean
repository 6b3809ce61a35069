/- The walk of slices.symMergeCmpFunc at pairs, of which only this is said: the row keeps its length. Conditions: as stated. -/
import Derived.Test.YtgngjfjaelgaeaaGreatDoorJSrt
set_option maxRecDepth 1000000
set_option maxHeartbeats 16000000
namespace Go.Proofs.YtgngjfjaelgaeaaGreatDoor
open Go.Proofs.Tryz
section
open Go.Shelf Go.RowKit Go.Lib Go.Sort Go.Proofs
theorem SW.grown {w0:World} {blk off n:Nat} {w:World} (h:SW w0 blk off n w) (q:Nat) (os:Array Obj):SW w0 blk off n (grow (w.drewN q) os):=by obtain ⟨m,a,o,b,rfl⟩:=h;exact ⟨m+q,a,o++os,b,sortWorldK_grown_c AO 2 w0 blk off m q a o os⟩
theorem SW.lt {w0:World} {blk off n:Nat} {w:World} (h:SW w0 blk off n w) (hblk:blk<w0.heap.size):blk<w.heap.size:=by obtain ⟨m,a,o,b,rfl⟩:=h;exact ae hblk (size_sortWorldK_c AO 2 w0 blk off m a o)
theorem SW.read {w0:World} {blk off:Nat} {d:Array RdS.Pr} (hH:HoldsK AO 2 w0 blk off d) (hblk:blk<w0.heap.size) {w:World} (h:SW w0 blk off d.size w) (i:Nat) (j:i<d.size):
  ∃(A:Nat) (x:RdS.Pr),off+i*2=A/\(∀q os,(grow (w.drewN q) os).cell? ⟨blk,A,none⟩=some (.string ⟨x.1.toArray⟩))/\(∀q os,(grow (w.drewN q) os).cell? ⟨blk,A+1,none⟩=some (.string ⟨x.2.toArray⟩)):=by
 have a:=h.lt hblk;obtain ⟨m,e,o,g,rfl⟩:=h;have b:HoldsK AO 2 (sortWorldK AO 2 w0 blk off m e o) blk off e:=holdsK_sortWorldK_c AO 2 w0 blk off d e m o hH hblk g;have ci:=b.cell (i:=i) (by omega) (c:=0) (by decide);have f:=b.cell (i:=i) (by omega) (c:=1) (by decide);exact ⟨off+i*2,e[i]!,rfl,fun q os=>cell_grown a ci.1 q os,fun q os=>cell_grown a f.1 q os⟩
theorem SW.exch {w0:World} {blk off:Nat} {d:Array RdS.Pr} (hH:HoldsK AO 2 w0 blk off d) (hblk:blk<w0.heap.size) {w:World} (h:SW w0 blk off d.size w) (i j:Nat) (g:i<d.size) (k:j<d.size) (c:i≠j):
  ∃(A B:Nat) (b a y1 y2:List UInt8),(off+i*2=A/\off+j*2=B)/\(¬A=B/\¬B=A/\¬A+1=B/\¬A=B+1/\¬B=A+1/\¬B+1=A)/\
   (w.cell? ⟨blk,A,none⟩=some (.string ⟨b.toArray⟩)/\w.cell? ⟨blk,A+1,none⟩=some (.string ⟨a.toArray⟩)/\w.cell? ⟨blk,B,none⟩=some (.string ⟨y1.toArray⟩)/\w.cell? ⟨blk,B+1,none⟩=some (.string ⟨y2.toArray⟩))/\
   (w.frozen? ⟨blk,A,none⟩=false/\w.frozen? ⟨blk,A+1,none⟩=false/\w.frozen? ⟨blk,B,none⟩=false/\w.frozen? ⟨blk,B+1,none⟩=false)/\
   SW w0 blk off d.size ((((w.drew.setCell ⟨blk,A,none⟩ (.string ⟨y1.toArray⟩)).setCell ⟨blk,A+1,none⟩ (.string ⟨y2.toArray⟩)).setCell ⟨blk,B,none⟩ (.string ⟨b.toArray⟩)).setCell ⟨blk,B+1,none⟩ (.string ⟨a.toArray⟩)):=by
 obtain ⟨m,e,o,f,rfl⟩:=h;obtain ⟨A,B,b,a,y1,y2,h1,h2,h3,h4,h5⟩:=Go.Proofs.YtgngjfjaelgaeaaGreatDoor.exch w0 blk off d hH hblk m e o f i j (by omega) (by omega) c;exact ⟨A,B,b,a,y1,y2,h1,h2,h3,h4,m+1,swp e i j,o,by rw [size_swp];exact f,h5⟩
theorem Aas (w0:World) (blk off cap:Nat) (d:Array RdS.Pr) (hH:HoldsK AO 2 w0 blk off d) (hblk:blk<w0.heap.size) (hsz:d.size<1000000000):∀(N a m b:Nat),b - a<=N->a<m->m<b->b<=d.size->∀w,SW w0 blk off d.size w->
  Calls prog 219 #[.slice (some ⟨blk,off,none⟩) d.size cap,.int .i64 a,.int .i64 m,.int .i64 b,Hm] w (Swp w0 blk off d.size):=by
 have J:=fun a m b h1 h2 h3 w hw=>Ael w0 blk off cap d hH hblk hsz a m b h1 h2 h3 w hw;have z:=fun w h i hi=>SW.read (w:=w) hH hblk h i hi;have C:=fun w h i j hi hj U=>SW.exch (w:=w) hH hblk h i j hi hj U;have H:=Ae0;have mixed:prog.follows .mixedOrders=true:=YA.mixed;unfold Swp Hm at*;have K:=hZ9 J;have f:=hZ9 z;have F:=hZ9 C;have g:=hZ9 H;clear J z C H hH;generalize d.size=sz at*;intro N
 induction N with
 | zero=>intro a m b h1 h2 h3;omega
 | succ N ih=>
  intro a m b hN C9 C6 hb w hw;have IH:=hZ9 ih;have HW:=hZ9 hw;clear ih hw;by_cases h1:m=a+1
  · have A4:(m:Int) - (a:Int)=1:=by omega
    have C0:m<=a+1:=by omega
    clear h1;go_enter func219,ntmps219
    go_wp2
    go_loopg [10,11] (b - m) (fun g1 M S wr=>∃(i j:Nat),M=.int .i64 i/\S=.int .i64 j/\m<=i/\i<=j/\j<=b/\j - i<=g1/\Hid (SW w0 blk off sz wr))
    case atStart=>exact ⟨m,b,rfl,rfl,aA _,by omega,aA _,aA _,HW⟩
    case round=>
     obtain ⟨i,j,rfl,rfl,O,U,W,L,l⟩:=hrel;by_cases R:i<j
     · have T:(i:Int)<(j:Int):=by omega
       obtain ⟨h,hh⟩:∃h:Nat,((i:Int)+(j:Int)) / 2=(h:Int):=⟨(i+j) / 2,by omega⟩
       have Q:i<=h:=by omega
       have B5:h<j:=by omega
       obtain ⟨A,x,hA,cA,Z⟩:=f.out _ l.out h (by omega);obtain ⟨B,y,hB,cB,X⟩:=f.out _ l.out a (by omega);have jh:(h:Int)<(sz:Int):=by omega
       have ja:(a:Int)<(sz:Int):=by omega
       by_cases t:cfP x y<0
       · go_wp2_with fail
         go_quiet_grown (first | (go_at_call 171;refine Calls.grown_of (g.out x y _)))
         go_wp2
         go_roundg (j - (h+1))
         case measure=>omega
         case rel=>exact ⟨h+1,j,by go_num,rfl,by omega,by omega,W,aA _,hZ9 (l.out.grown nq osq)⟩
       · go_wp2_with fail
         go_quiet_grown (first | (go_at_call 171;refine Calls.grown_of (g.out x y _)))
         go_wp2
         go_roundg (h - i)
         case measure=>omega
         case rel=>exact ⟨i,h,rfl,rfl,O,Q,by omega,aA _,hZ9 (l.out.grown nq osq)⟩
     · have T:¬(i:Int)<(j:Int):=by omega
       obtain ⟨ip,C3⟩:∃ip:Nat,(i:Int) - 1=(ip:Int):=⟨i - 1,by omega⟩
       have C7:IntKind.i64.wrap (ip:Int)=(ip:Int):=by rw [IntKind.wrap_i64];omega
       go_wp2
       go_loopg [13] (ip - a) (fun g1 vk wr=>∃(k:Nat),vk=.int .i64 k/\a<=k/\k<=ip/\ip - k<=g1/\Hid (SW w0 blk off sz wr))
       case atStart=>exact ⟨a,rfl,aA _,by omega,aA _,l⟩
       case round=>
        obtain ⟨k,rfl,B3,B2,B1,E⟩:=hrel;by_cases A0:k<ip
        · have V:(k:Int)<(ip:Int):=by omega
          obtain ⟨A,B,x1,x2,y1,y2,⟨hA,hB⟩,⟨n1,n2,n3,n4,n5,n6⟩,⟨c1,c2,c3,c4⟩,⟨f1,f2,f3,f4⟩,o⟩:=F.out _ E.out k (k+1) (by omega) (by omega) (by omega);have u:=hZ9 o;clear o;have jk:(k:Int)<(sz:Int):=by omega
          have B7:(k:Int)+1<(sz:Int):=by omega
          have ek:((k:Int)+1).toNat=k+1:=by omega
          have j0:(0:Int)<=(k:Int)+1:=by omega
          go_wp2
          go_region
          all_goals go_wp2
          go_roundg (ip - (k+1))
          case measure=>omega
          case rel=>exact ⟨k+1,by go_num,by omega,by omega,aA _,u⟩
        · have V:¬(k:Int)<(ip:Int):=by omega
          go_wp2
          (try simp only [Exit.inBlock,Exit.then])
          refine bodyPost_ret (results_none rfl _ _ _) rfl ?_;exact ⟨rfl,E.out⟩
  · have A4:∃q:Nat,(m:Int) - (a:Int)=(q:Int)/\2<=q:=⟨m - a,by omega,by omega⟩
    obtain ⟨q,hq,C2⟩:=A4;have D0:((q:Int)==1)=false:=by rw [aV];omega
    have wq:IntKind.i64.wrap (q:Int)=(q:Int):=by rw [IntKind.wrap_i64];omega
    by_cases h2:b=m+1
    · have A2:(b:Int) - (m:Int)=1:=by omega
      have B8:b<=m+1:=by omega
      clear h2;go_enter func219,ntmps219
      go_wp2
      go_loopg [14,15] (m - a) (fun g1 M S wr=>∃(i j:Nat),M=.int .i64 i/\S=.int .i64 j/\a<=i/\i<=j/\j<=m/\j - i<=g1/\Hid (SW w0 blk off sz wr))
      case atStart=>exact ⟨a,m,rfl,rfl,aA _,by omega,aA _,aA _,HW⟩
      case round=>
       obtain ⟨i,j,rfl,rfl,O,U,W,L,l⟩:=hrel;by_cases R:i<j
       · have T:(i:Int)<(j:Int):=by omega
         obtain ⟨h,hh⟩:∃h:Nat,((i:Int)+(j:Int)) / 2=(h:Int):=⟨(i+j) / 2,by omega⟩
         have Q:i<=h:=by omega
         have B5:h<j:=by omega
         obtain ⟨A,x,hA,cA,Z⟩:=f.out _ l.out m (by omega);obtain ⟨B,y,hB,cB,X⟩:=f.out _ l.out h (by omega);have jh:(h:Int)<(sz:Int):=by omega
         have ja:(m:Int)<(sz:Int):=by omega
         by_cases t:cfP x y<0
         · go_wp2_with fail
           go_quiet_grown (first | (go_at_call 171;refine Calls.grown_of (g.out x y _)))
           go_wp2
           go_roundg (h - i)
           case measure=>omega
           case rel=>exact ⟨i,h,rfl,rfl,O,Q,by omega,aA _,hZ9 (l.out.grown nq osq)⟩
         · have A3:decide (cfP x y<0)=false:=aC t;go_wp2_with fail
           go_quiet_grown (first | (go_at_call 171;refine Calls.grown_of (g.out x y _)))
           go_wp2
           go_roundg (j - (h+1))
           case measure=>omega
           case rel=>exact ⟨h+1,j,by go_num,rfl,by omega,by omega,W,aA _,hZ9 (l.out.grown nq osq)⟩
       · have T:¬(i:Int)<(j:Int):=by omega
         go_wp2
         go_loopg [17] (m - i) (fun g1 vk wr=>∃(k:Nat),vk=.int .i64 k/\i<=k/\k<=m/\k - i<=g1/\Hid (SW w0 blk off sz wr))
         case atStart=>exact ⟨m,rfl,by omega,aA _,aA _,l⟩
         case round=>
          obtain ⟨k,rfl,B3,B2,B1,E⟩:=hrel;by_cases A0:i<k
          · have V:(i:Int)<(k:Int):=by omega
            obtain ⟨I,D1⟩:∃I:Nat,(k:Int) - 1=(I:Int):=⟨k - 1,by omega⟩
            have C8:IntKind.i64.wrap (I:Int)=(I:Int):=by rw [IntKind.wrap_i64];omega
            obtain ⟨A,B,x1,x2,y1,y2,⟨hA,hB⟩,⟨n1,n2,n3,n4,n5,n6⟩,⟨c1,c2,c3,c4⟩,⟨f1,f2,f3,f4⟩,o⟩:=F.out _ E.out k I (by omega) (by omega) (by omega);have u:=hZ9 o;clear o;have jk:(k:Int)<(sz:Int):=by omega
            have B7:(I:Int)<(sz:Int):=by omega
            go_wp2
            go_region
            all_goals go_wp2
            go_roundg (I - i)
            case measure=>omega
            case rel=>exact ⟨I,rfl,by omega,by omega,aA _,u⟩
          · have V:¬(i:Int)<(k:Int):=by omega
            go_wp2
            (try simp only [Exit.inBlock,Exit.then])
            refine bodyPost_ret (results_none rfl _ _ _) rfl ?_;exact ⟨rfl,E.out⟩
    · have A2:∃q:Nat,(b:Int) - (m:Int)=(q:Int)/\2<=q:=⟨b - m,by omega,by omega⟩
      obtain ⟨r,hr,C1⟩:=A2;have G:((r:Int)==1)=false:=by rw [aV];omega
      have wr:IntKind.i64.wrap (r:Int)=(r:Int):=by rw [IntKind.wrap_i64];omega
      obtain ⟨mid,B9⟩:∃mid:Nat,((a:Int)+(b:Int)) / 2=(mid:Int):=⟨(a+b) / 2,by omega⟩
      have A5:a<mid:=by omega
      have A6:mid<b:=by omega
      obtain ⟨n,hn⟩:∃n:Nat,(mid:Int)+(m:Int)=(n:Int):=⟨mid+m,by omega⟩
      have wn:IntKind.i64.wrap (n:Int)=(n:Int):=by rw [IntKind.wrap_i64];omega
      obtain ⟨p,hp⟩:∃p:Nat,(n:Int) - 1=(p:Int):=⟨n - 1,by omega⟩
      have wp:IntKind.i64.wrap (p:Int)=(p:Int):=by rw [IntKind.wrap_i64];omega
      by_cases C4:mid<m
      · have A7:(mid:Int)<(m:Int):=by omega
        obtain ⟨Y,A1⟩:∃Y:Nat,(n:Int) - (b:Int)=(Y:Int):=⟨n - b,by omega⟩
        have C5:IntKind.i64.wrap (Y:Int)=(Y:Int):=by rw [IntKind.wrap_i64];omega
        go_enter func219,ntmps219
        go_wp2
        go_loopg [20,21] (mid - Y) (fun g1 M S wr=>∃(s r:Nat),M=.int .i64 s/\S=.int .i64 r/\Y<=s/\s<=r/\r<=mid/\r - s<=g1/\Hid (SW w0 blk off sz wr))
        case atStart=>exact ⟨Y,mid,rfl,rfl,aA _,by omega,aA _,aA _,HW⟩
        case round=>
         obtain ⟨s,r,rfl,rfl,v,B6,G,L,l⟩:=hrel;by_cases R:s<r
         · have T:(s:Int)<(r:Int):=by omega
           obtain ⟨c,hc⟩:∃c:Nat,((s:Int)+(r:Int)) / 2=(c:Int):=⟨(s+r) / 2,by omega⟩
           have P:s<=c:=by omega
           have A8:c<r:=by omega
           obtain ⟨pc,A9⟩:∃pc:Nat,(p:Int) - (c:Int)=(pc:Int):=⟨p - c,by omega⟩
           have B4:IntKind.i64.wrap (pc:Int)=(pc:Int):=by rw [IntKind.wrap_i64];omega
           obtain ⟨A,x,hA,cA,Z⟩:=f.out _ l.out pc (by omega);obtain ⟨B,y,hB,cB,X⟩:=f.out _ l.out c (by omega);have jp:(pc:Int)<(sz:Int):=by omega
           have jc:(c:Int)<(sz:Int):=by omega
           by_cases t:cfP x y<0
           · go_wp2_with fail
             go_quiet_grown (first | (go_at_call 171;refine Calls.grown_of (g.out x y _)))
             go_wp2
             go_roundg (c - s)
             case measure=>omega
             case rel=>exact ⟨s,c,rfl,rfl,v,P,by omega,aA _,hZ9 (l.out.grown nq osq)⟩
           · have A3:decide (cfP x y<0)=false:=aC t;go_wp2_with fail
             go_quiet_grown (first | (go_at_call 171;refine Calls.grown_of (g.out x y _)))
             go_wp2
             go_roundg (r - (c+1))
             case measure=>omega
             case rel=>exact ⟨c+1,r,by go_num,rfl,by omega,by omega,G,aA _,hZ9 (l.out.grown nq osq)⟩
         · have T:¬(s:Int)<(r:Int):=by omega
           obtain ⟨e,he⟩:∃e:Nat,(n:Int) - (s:Int)=(e:Int):=⟨n - s,by omega⟩
           have we:IntKind.i64.wrap (e:Int)=(e:Int):=by rw [IntKind.wrap_i64];omega
           have A1:=l.out;by_cases k1:s<m <;> by_cases k2:s<mid <;> by_cases k3:a<s <;> by_cases k4:e<b
           all_goals
            first | have z1:decide ((s:Int)<(m:Int))=true:=aL (by omega) | have z1:decide ((s:Int)<(m:Int))=false:=aC (by omega)
            first | have z2:decide ((s:Int)<(mid:Int))=true:=aL (by omega) | have z2:decide ((s:Int)<(mid:Int))=false:=aC (by omega)
            first | have z3:decide ((a:Int)<(s:Int))=true:=aL (by omega) | have z3:decide ((a:Int)<(s:Int))=false:=aC (by omega)
            first | have z4:decide ((e:Int)<(b:Int))=true:=aL (by omega) | have z4:decide ((e:Int)<(b:Int))=false:=aC (by omega)
            first | have z5:decide ((m:Int)<(e:Int))=true:=aL (by omega) | have z5:decide ((m:Int)<(e:Int))=false:=aC (by omega)
            first | have z6:decide ((mid:Int)<(e:Int))=true:=aL (by omega) | have z6:decide ((mid:Int)<(e:Int))=false:=aC (by omega)
            go_wp2_with (first
             | (go_at_call 249;refine (K.out _ _ _ (by omega) (by omega) (by omega) _ (by assumption)).mono ?_;rintro en w1 ⟨rfl,v⟩)
             | (go_at_call 219;refine (IH.out _ _ _ (by omega) (by omega) (by omega) (by omega) _ (by assumption)).mono ?_;rintro en w2 ⟨rfl,B0⟩))
            all_goals (go_end0;exact ⟨rfl,by assumption⟩)
      · have A7:¬(mid:Int)<(m:Int):=by omega
        go_enter func219,ntmps219
        go_wp2
        go_loopg [20,21] (m - a) (fun g1 M S wr=>∃(s r:Nat),M=.int .i64 s/\S=.int .i64 r/\a<=s/\s<=r/\r<=m/\r - s<=g1/\Hid (SW w0 blk off sz wr))
        case atStart=>exact ⟨a,m,rfl,rfl,aA _,by omega,aA _,aA _,HW⟩
        case round=>
         obtain ⟨s,r,rfl,rfl,v,B6,G,L,l⟩:=hrel;by_cases R:s<r
         · have T:(s:Int)<(r:Int):=by omega
           obtain ⟨c,hc⟩:∃c:Nat,((s:Int)+(r:Int)) / 2=(c:Int):=⟨(s+r) / 2,by omega⟩
           have P:s<=c:=by omega
           have A8:c<r:=by omega
           obtain ⟨pc,A9⟩:∃pc:Nat,(p:Int) - (c:Int)=(pc:Int):=⟨p - c,by omega⟩
           have B4:IntKind.i64.wrap (pc:Int)=(pc:Int):=by rw [IntKind.wrap_i64];omega
           obtain ⟨A,x,hA,cA,Z⟩:=f.out _ l.out pc (by omega);obtain ⟨B,y,hB,cB,X⟩:=f.out _ l.out c (by omega);have jp:(pc:Int)<(sz:Int):=by omega
           have jc:(c:Int)<(sz:Int):=by omega
           by_cases t:cfP x y<0
           · go_wp2_with fail
             go_quiet_grown (first | (go_at_call 171;refine Calls.grown_of (g.out x y _)))
             go_wp2
             go_roundg (c - s)
             case measure=>omega
             case rel=>exact ⟨s,c,rfl,rfl,v,P,by omega,aA _,hZ9 (l.out.grown nq osq)⟩
           · have A3:decide (cfP x y<0)=false:=aC t;go_wp2_with fail
             go_quiet_grown (first | (go_at_call 171;refine Calls.grown_of (g.out x y _)))
             go_wp2
             go_roundg (r - (c+1))
             case measure=>omega
             case rel=>exact ⟨c+1,r,by go_num,rfl,by omega,by omega,G,aA _,hZ9 (l.out.grown nq osq)⟩
         · have T:¬(s:Int)<(r:Int):=by omega
           obtain ⟨e,he⟩:∃e:Nat,(n:Int) - (s:Int)=(e:Int):=⟨n - s,by omega⟩
           have we:IntKind.i64.wrap (e:Int)=(e:Int):=by rw [IntKind.wrap_i64];omega
           have A1:=l.out;by_cases k1:s<m <;> by_cases k2:s<mid <;> by_cases k3:a<s <;> by_cases k4:e<b
           all_goals
            first | have z1:decide ((s:Int)<(m:Int))=true:=aL (by omega) | have z1:decide ((s:Int)<(m:Int))=false:=aC (by omega)
            first | have z2:decide ((s:Int)<(mid:Int))=true:=aL (by omega) | have z2:decide ((s:Int)<(mid:Int))=false:=aC (by omega)
            first | have z3:decide ((a:Int)<(s:Int))=true:=aL (by omega) | have z3:decide ((a:Int)<(s:Int))=false:=aC (by omega)
            first | have z4:decide ((e:Int)<(b:Int))=true:=aL (by omega) | have z4:decide ((e:Int)<(b:Int))=false:=aC (by omega)
            first | have z5:decide ((m:Int)<(e:Int))=true:=aL (by omega) | have z5:decide ((m:Int)<(e:Int))=false:=aC (by omega)
            first | have z6:decide ((mid:Int)<(e:Int))=true:=aL (by omega) | have z6:decide ((mid:Int)<(e:Int))=false:=aC (by omega)
            go_wp2_with (first
             | (go_at_call 249;refine (K.out _ _ _ (by omega) (by omega) (by omega) _ (by assumption)).mono ?_;rintro en w1 ⟨rfl,v⟩)
             | (go_at_call 219;refine (IH.out _ _ _ (by omega) (by omega) (by omega) (by omega) _ (by assumption)).mono ?_;rintro en w2 ⟨rfl,B0⟩))
            all_goals (go_end0;exact ⟨rfl,by assumption⟩)
end
section
open Go.Shelf Go.RowKit Go.Lib Go.Sort Go.Proofs
theorem LD (x y:RdS.Pr):ltOf cfP x y=Op.bytesLess x.1 y.1:=by unfold ltOf cfP;rw [RuS.less_iff];have:=RuS.compare_range x.1 y.1;exact bO.2 ⟨fun h=>by omega,fun h=>by omega⟩
theorem YD:SWO (ltOf cfP) where
 irrefl x:=by rw [LD,RuS.less_iff,RuS.compare_self];rfl
 trans x y z h1 h2:=by rw [LD] at*;exact RdS.KZ h1 h2
 ntrans x y z h1 h2:=by rw [LD] at*;exact RdS.RV (a:=z) (b:=y) (c:=x) h2 h1
theorem Aat (blk off cap:Nat) (d:Array RdS.Pr) (w:World) (hH:HoldsK AO 2 w blk off d) (hblk:blk<w.heap.size) (hsz:d.size<20):
  Calls prog 170 #[.slice (some ⟨blk,off,none⟩) d.size cap,Hm] w fun e w'=>e=.returned (.tuple #[])/\∃n os,w'=sortWorldK AO 2 w blk off n (Sort.insertionSort (ltOf cfP) d 0 d.size) os:=by
 have a:=Ta blk off cap 0 d.size d w hH hblk (aR _) (aA _) (by omega);generalize Sort.insertionSort (ltOf cfP) d 0 d.size=res at*;generalize d.size=sz at*;unfold Hm at*;clear hH;have b:Calls prog 196 #[.slice (some ⟨blk,off,none⟩) sz cap,.int .i64 sz,.func (.func 171) #[] #[]] w fun e w'=>e=.returned (.tuple #[])/\∃n os,w'=sortWorldK AO 2 w blk off n res os:=by
  have h20:¬(20:Int)<=(sz:Int):=by omega
  have h21:¬(20:Int)<(sz:Int):=by omega
  go_enter func196,ntmps196
  go_wp2
  refine wp_loop_rounds 1 ?_;rw [rounds_succ];go_wp2_with (go_at_call 218;refine a.mono ?_;rintro e w1 ⟨rfl,n,os,rfl⟩)
  generalize c:sortWorldK AO 2 w blk off n res os=w1 at*;refine wp_loop_rounds 1 ?_;rw [rounds_succ]
  go_wp2
  go_end0
  exact ⟨rfl,n,os,c.symm⟩
 go_enter func170,ntmps170;go_wp2_with (go_at_call 196;refine b.mono ?_;rintro e w1 ⟨rfl,f⟩)
 go_end0
 exact ⟨rfl,f⟩
theorem WH (w0:World) (blk off cap:Nat) (d:Array RdS.Pr) (hH:HoldsK AO 2 w0 blk off d) (hblk:blk<w0.heap.size) (hsz:d.size<1000000000) (a b:Nat) (f:a<=b) (hb:b<=d.size) (w:World) (j:SW w0 blk off d.size w):
  Calls prog 218 #[.slice (some ⟨blk,off,none⟩) d.size cap,.int .i64 a,.int .i64 b,Hm] w (Swp w0 blk off d.size):=by
 obtain ⟨m,c,o,g,rfl⟩:=j;have i:HoldsK AO 2 (sortWorldK AO 2 w0 blk off m c o) blk off c:=holdsK_sortWorldK_c AO 2 w0 blk off d c m o hH hblk g;have h:=Ta blk off cap a b c (sortWorldK AO 2 w0 blk off m c o) i (ae hblk (size_sortWorldK_c AO 2 w0 blk off m c o)) f (by omega) (by omega);rw [g] at h;refine h.mono ?_;rintro e w' ⟨rfl,n,os,rfl⟩;have hp:=(insertionSort_holds YD c a b f (by omega)).1.1;refine ⟨rfl,m+n,Sort.insertionSort (ltOf cfP) c a b,o++os,by rw [<-g];exact hp,?_⟩;exact grow_step_growK AO 2 w0 o os m n blk off c _ hblk hp
theorem XF (w0:World) (blk off cap:Nat) (d:Array RdS.Pr) (hH:HoldsK AO 2 w0 blk off d) (hblk:blk<w0.heap.size) (hsz:d.size<1000000000) (w:World) (l:SW w0 blk off d.size w):
  Calls prog 196 #[.slice (some ⟨blk,off,none⟩) d.size cap,.int .i64 d.size,Hm] w (Swp w0 blk off d.size):=by
 have h:=fun a b h1 h2 w l=>WH w0 blk off cap d hH hblk hsz a b h1 h2 w l;have j:=fun a m b h1 h2 h3 w l=>Aas w0 blk off cap d hH hblk hsz (b - a) a m b (aA _) h1 h2 h3 w l;unfold Swp Hm at*;have g:=hZ9 h;have i:=hZ9 j;have O:=hZ9 l;clear h j hH l;generalize d.size=n at*;go_enter func196,ntmps196
 go_wp2
 go_loopg [7,8] n (fun g1 r u wr=>∃(a b:Nat),r=.int .i64 a/\u=.int .i64 b/\b=a+20/\a<=n/\n - a<=g1/\Hid (SW w0 blk off n wr))
 case atStart=>exact ⟨0,20,rfl,rfl,rfl,aR _,by omega,O⟩
 case round=>
  obtain ⟨a,b,rfl,rfl,hb,y,x,o⟩:=hrel;have J:a<=b:=by omega
  have K:b<=a+20:=by omega
  have M:a<b:=by omega
  clear hb;by_cases C:b<=n
  · have H:(b:Int)<=(n:Int):=by omega
    obtain ⟨c,v⟩:∃c:Nat,(b:Int)+20=(c:Int):=⟨b+20,by omega⟩
    have B:IntKind.i64.wrap (c:Int)=(c:Int):=by rw [IntKind.wrap_i64];omega
    go_wp2_with (go_at_call 218;refine (g.out a b (by omega) (by omega) _ o.out).mono ?_;rintro e w1 ⟨rfl,f⟩)
    go_roundg (n - b)
    case measure=>omega
    case rel=>exact ⟨b,c,rfl,rfl,by omega,C,aA _,hZ9 f⟩
  · have H:¬(b:Int)<=(n:Int):=by omega
    go_wp2_with (go_at_call 218;refine (g.out a n (by omega) (by omega) _ o.out).mono ?_;rintro e w1 ⟨rfl,f⟩)
    go_loopg [6,7,8,9] n (fun g1 vs r u R wr=>∃(s:Nat),vs=.int .i64 s/\1<=s/\s<=2000000000/\n - s<=g1/\Hid (SW w0 blk off n wr))
    case atStart=>exact ⟨20,rfl,by omega,by omega,by omega,hZ9 f⟩
    case round=>
     obtain ⟨s,rfl,f,I,L,p⟩:=hrel;by_cases G:s<n
     · have z:(s:Int)<(n:Int):=by omega
       obtain ⟨t,U⟩:∃t:Nat,(2:Int)*(s:Int)=(t:Int):=⟨2*s,by omega⟩
       have P:(s:Int)*2=(t:Int):=by omega
       have T:IntKind.i64.wrap (t:Int)=(t:Int):=by rw [IntKind.wrap_i64];omega
       go_wp2
       go_loopg [7,8] n (fun g1 r u wr=>∃(a b:Nat),r=.int .i64 a/\u=.int .i64 b/\b<=a+t/\a+t<=b/\a<=n/\n - a<=g1/\Hid (SW w0 blk off n wr))
       case atStart=>exact ⟨0,t,rfl,rfl,by omega,by omega,aR _,by omega,p⟩
       case round=>
        obtain ⟨a,b,rfl,rfl,N,Q,y,x,o⟩:=hrel;obtain ⟨m,V⟩:∃m:Nat,(a:Int)+(s:Int)=(m:Int):=⟨a+s,by omega⟩
        have S:IntKind.i64.wrap (m:Int)=(m:Int):=by rw [IntKind.wrap_i64];omega
        by_cases q:b<=n
        · have A:(b:Int)<=(n:Int):=by omega
          obtain ⟨c,v⟩:∃c:Nat,(b:Int)+(t:Int)=(c:Int):=⟨b+t,by omega⟩
          have B:IntKind.i64.wrap (c:Int)=(c:Int):=by rw [IntKind.wrap_i64];omega
          go_wp2_with (go_at_call 219;refine (i.out a m b (by omega) (by omega) (by omega) _ o.out).mono ?_;rintro e w1 ⟨rfl,k⟩)
          go_roundg (n - b)
          case measure=>omega
          case rel=>exact ⟨b,c,rfl,rfl,by omega,by omega,q,aA _,hZ9 k⟩
        · have A:¬(b:Int)<=(n:Int):=by omega
          by_cases F:m<n
          · have E:(m:Int)<(n:Int):=by omega
            go_wp2_with (go_at_call 219;refine (i.out a m n (by omega) (by omega) (by omega) _ o.out).mono ?_;rintro e w1 ⟨rfl,k⟩)
            go_roundg (n - t)
            case measure=>omega
            case rel=>exact ⟨t,rfl,by omega,by omega,aA _,hZ9 k⟩
          · have E:¬(m:Int)<(n:Int):=by omega
            go_wp2
            go_roundg (n - t)
            case measure=>omega
            case rel=>exact ⟨t,rfl,by omega,by omega,aA _,o⟩
     · have z:¬(s:Int)<(n:Int):=by omega
       go_wp2
       go_end0
       exact ⟨rfl,p.out⟩
theorem AcI (w0:World) (blk off cap:Nat) (d:Array RdS.Pr) (hH:HoldsK AO 2 w0 blk off d) (hblk:blk<w0.heap.size) (hsz:d.size<1000000000):
  Calls prog 170 #[.slice (some ⟨blk,off,none⟩) d.size cap,Hm] w0 (Swp w0 blk off d.size):=by
 have a:=XF w0 blk off cap d hH hblk hsz w0 ⟨0,d,#[],rfl,by unfold sortWorldK;rw [grow_empty];exact (putRowK_self AO 2 w0 blk off d hH).symm⟩;unfold Swp Hm at*;clear hH;generalize d.size=n at*;go_enter func170,ntmps170;go_wp2_with (go_at_call 196;refine a.mono ?_;rintro e w1 ⟨rfl,b⟩)
 go_end0
 exact ⟨rfl,b⟩
end
section
open Go.Shelf Go.Lib Go.Sort Go.Proofs
theorem JL (B:Nat) (w:World) (g:Nat) (c:B<=g) (b:g<w.heap.size) (m:Nat) (a:Array RdS.Pr) (os:Array Obj):Go.RowKit.Below B w (sortWorldK AO 2 w g 0 m a os):=by
 refine ⟨rfl,rfl,rfl,?_,fun k hk=>?_⟩
 · unfold sortWorldK;rw [size_grow,size_putRowK];exact Nat.le_add_right _ _
 · unfold sortWorldK;rw [heap_grow_old _ _ (by rw [size_putRowK];show k<w.heap.size;omega)];show (w.heap.modify g _)[k]?=w.heap[k]?
   rw [dK,aG (by omega)]
theorem AcJ {w:World} {B g n cap:Nat} {xs:List RdS.Pr} (h:Bg 190 w B (.slice (some ⟨g,0,none⟩) n cap) xs) (l:n=xs.length):HoldsK AO 2 w g 0 xs.toArray:=by
 intro j i;rw [size_flatK,bV] at i;have f:=World.ownsRow.frozenAt (l ▸ h) j;have d:j / 2<xs.length:=by omega
 have b:=IR xs (j / 2) xs[j / 2] (aJ d);have a:∀k,(⟨g,0,none⟩:Addr).add k=⟨g,0+k,none⟩:=fun k=>by unfold Addr.add;split <;> simp_all
 rw [get_flatK _ _ _ _ (by rw [bV];exact i)];have e:xs.toArray[j / 2]! =xs[j / 2]:=by simp [d]
 rw [e];refine ⟨?_,by rw [bi];exact f⟩;rcases df j with h0 | h1
 · have c:=World.ownsRow.cells h (g:=g) rfl _ _ b.1;rw [a,show j / 2*2=j from by omega] at c;rw [c,h0];rfl
 · have c:=World.ownsRow.cells h (g:=g) rfl _ _ b.2;rw [a,show j / 2*2+1=j from by omega] at c;rw [c,h1];rfl
theorem QA {w:World} {g n cap:Nat} {d:Array RdS.Pr} (h:HoldsK AO 2 w g 0 d) (f:n=d.size) (hc:n<=cap) (i:g<w.heap.size):AX w (.slice (some ⟨g,0,none⟩) n cap) d.toList:=by
 refine ⟨some ⟨g,0,none⟩,cap,by rw [f];simp,by simp;omega,.inr ⟨g,0,rfl,i,fun j p b=>?_⟩⟩;have a:j<d.size:=by
  have:=(aj.1 b).1
  simpa using this
 have e:d[j]! =p:=by
  have:=(aj.1 b).2;rw [gi d j a]
  simpa using this
 have c0:=h.cell a (c:=0) (by decide);have c1:=h.cell a (c:=1) (by decide);rw [e] at c0 c1;exact ⟨c0.1,c1.1⟩
theorem XG {d a:Array RdS.Pr} (hp:PermIn 0 d.size d a) (f:SortedIn (ltOf cfP) 0 d.size a):a.toList.Perm d.toList/\a.toList.Pairwise RdS.le2:=by
 have hsz:=hp.1;refine ⟨?_,?_⟩
 · have h:=hp.2.2;rw [gj,<-hsz,gj] at h;exact h
 · rw [List.pairwise_iff_getElem];intro i j e b c;have h:=f i j (aR _) c (by simpa [hsz] using b);rw [LD] at h;simp only [Array.length_toList] at e b;rw [gi a i e,gi a j b] at h
   simpa [RdS.le2] using h
def Tag (T:TypeId) (w:World) (v:Value):Prop:=∀g,v.ownBlock=some g->∃cs fz,w.heap[g]?=some (.cells cs T fz)
theorem Tag.call {T:TypeId} {w w':World} {v:Value} (h:Tag T w v) (hb:Go.RowKit.Below w.heap.size w w'):Tag T w' v:=fun g a=>by obtain ⟨cs,fz,e⟩:=h g a;exact ⟨cs,fz,(hb.block g (ah.1 e).1).trans e⟩
theorem Tag.nil (T:TypeId) (w:World) (n c:Nat):Tag T w (.slice none n c):=fun g h=>by cases h
theorem Tag.own {T:TypeId} {w:World} {B:Nat} {a:Option Addr} {n c:Nat} {xs:List RdS.Pr} (h:Bg T w B (.slice a n c) xs) (m:Nat):Tag T w (.slice a m c):=fun g b=>by
 rcases h.2 with ⟨e,_⟩ | ⟨f,cap,cur,e,_,d,_⟩
 · cases e;cases b
 · cases e;cases b;exact ⟨_,_,d⟩
theorem TV {w:World} {g:Nat} {cr:Array Value} {T:TypeId} {fz:Nat × Nat} (h:w.heap[g]?=some (.cells cr T fz)) (m:Nat) (b:Array RdS.Pr) (os:Array Obj):∃cs,(sortWorldK AO 2 w g 0 m b os).heap[g]?=some (.cells cs T fz):=by
 have a:=(ah.1 h).1;unfold sortWorldK;rw [heap_grow_old _ _ (by rw [size_putRowK];exact a)];show ∃cs,(w.heap.modify g _)[g]?=_
 rw [dK,aP rfl,h];exact ⟨_,rfl⟩
def YE (B:Nat) (v:Value) (xs:List RdS.Pr) (w:World) (e:Ending) (w':World):Prop:=
 e=.returned (.tuple #[])/\Go.RowKit.Below B w w'/\∃ys:List RdS.Pr,ys.length=xs.length/\AX w' v ys/\(xs.length<20->ys.Perm xs/\ys.Pairwise RdS.le2)/\Tag 190 w' v
theorem sort_c (B:Nat) (v:Value) (xs:List RdS.Pr) (w:World) (h:Bg 190 w B v xs) (h0:xs≠[]) (x:xs.length<=1000000):
  Calls prog 170 #[v,.func (.func 171) #[] #[]] w (YE B v xs w):=by
 have k:0<xs.length:=cT.2 h0;obtain ⟨g,cap,rfl,r,a⟩:=World.ownsRow.form h k;have b:xs.length<=cap/\∃cr,w.heap[g]?=some (.cells cr 190 (0,0)):=by
  rcases h.2 with ⟨e,_⟩ | ⟨u,q,cr,e,_,s,t,_⟩
  · cases e
  · cases e;exact ⟨t,cr,s⟩
 obtain ⟨b,cr,l⟩:=b;have f:∀m o os,Tag 190 (sortWorldK AO 2 w g 0 m o os) (.slice (some ⟨g,0,none⟩) xs.length cap):=fun m o os u p=>by cases p;obtain ⟨cs,e⟩:=TV l m o os;exact ⟨cs,_,e⟩
 have hH:=AcJ h rfl;have hsz:xs.toArray.size=xs.length:=bV ..;by_cases h20:xs.length<20
 · have hc:=Aat g 0 cap xs.toArray w hH a (by omega);have i:=insertionSort_holds YD xs.toArray 0 xs.toArray.size (aR _) (aA _);have hp:=XG i.1 i.2;have c:=i.1.1;generalize Sort.insertionSort (ltOf cfP) xs.toArray 0 xs.toArray.size=d at*;rw [hsz] at hc;refine hc.mono ?_;rintro e w' ⟨rfl,n,os,rfl⟩;have j:=holdsK_sortWorldK_c AO 2 w g 0 xs.toArray d n os hH a c;refine ⟨rfl,JL B w g r a n d os,d.toList,by simp [c],QA j (by omega) b (ae a (size_sortWorldK_c AO 2 w g 0 n d os)),fun _=>?_,f _ _ _⟩
   simpa using hp
 · have hc:=AcI w g 0 cap xs.toArray hH a (by omega);rw [hsz] at hc;refine hc.mono ?_;rintro e w' ⟨rfl,n,d,os,c,rfl⟩;have j:=holdsK_sortWorldK_c AO 2 w g 0 xs.toArray d n os hH a (by omega);exact ⟨rfl,JL B w g r a n d os,d.toList,by simp [c],QA j (by omega) b (ae a (size_sortWorldK_c AO 2 w g 0 n d os)),(fun h=>absurd h h20),f _ _ _⟩
end
end Go.Proofs.YtgngjfjaelgaeaaGreatDoor
