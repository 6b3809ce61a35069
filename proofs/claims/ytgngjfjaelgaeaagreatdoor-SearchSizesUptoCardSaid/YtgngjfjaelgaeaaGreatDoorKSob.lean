/- The walks of the comparison of entries by their names, and of slices.insertionSortCmpFunc, swapRangeCmpFunc, rotateCmpFunc at entries. Conditions: as stated. -/
import Derived.Test.YtgngjfjaelgaeaaGreatDoorKDnk
set_option maxRecDepth 1000000
set_option maxHeartbeats 4000000
namespace Go.Proofs.YtgngjfjaelgaeaaGreatDoor
open Go.RowKit
attribute [local go_sem ↓] Go.wp_at_zero Go.wp_at_succ
def EA:Value:=.func (.func 95) #[] #[]
theorem ML (x y:List UInt8) (xa:Option Addr) (xm xc:Nat) (ya:Option Addr) (ym yc:Nat) (W:World) (hE:Env W) (hx:x.length<=1000000) (hy:y.length<=1000000):
  Calls Tryz.prog 95 #[.agg #[.string ⟨x.toArray⟩,.slice xa xm xc],.agg #[.string ⟨y.toArray⟩,.slice ya ym yc]] W fun e w'=>e=.returned (.int .i64 (DnS.Aw x y))/\Below W.heap.size W w':=by
 have A1:=Af W (.cells #[.string ⟨x.toArray⟩,.slice xa xm xc] 52)
 have A0:=Af (W.alloc (.cells #[.string ⟨x.toArray⟩,.slice xa xm xc] 52)) (.cells #[.string ⟨y.toArray⟩,.slice ya ym yc] 52)
 have hz:=Aa A1 A0
 have hc:=VG x y hx hy _ (hE.below hz)
 unfold SJ at hc
 clear A1 A0
 go_enter Tryz.func95,Tryz.ntmps95
 go_wp2_with fail
 refine hc.mono ?_;rintro e w1 ⟨rfl,A2⟩
 have A3:=Aa hz A2
 go_wp2_with fail
 go_ret
 exact ⟨rfl,A3⟩
def EJ (w0:World) (g n sz:Nat) (P:(Nat->Cel)->Prop) (e:Ending) (w:World):Prop:=e=.returned (.tuple #[])/\∃f,P f/\BI w0 g n sz f w
theorem AbO (w0:World) (g n sz cap:Nat) (hsz:n<1000000000) (HE:∀w,w0.grownBy w (some g)->Env w) (a b:Nat) (E5:a<=b) (hb:b<=n) (f:Nat->Cel) (C5:∀k,k<n->OkC (f k)) (w:World) (hw:BI w0 g n sz f w):
  Calls Tryz.prog 161 #[.slice (some ⟨g,0,none⟩) n cap,.int .i64 a,.int .i64 b,EA] w (EJ w0 g n sz (fun f'=>SoS.Sw a b f f'/\SoS.Srt ltC f' a b)):=by
 unfold EA EJ
 have B3:=hZ9 C5
 have HW:=hZ9 hw
 have D0:=hZ9 HE
 clear C5 hw HE
 obtain ⟨a1,D8⟩:∃a1:Nat,(a:Int)+1=(a1:Int):=⟨a+1,by omega⟩
 have D9:IntKind.i64.wrap (a1:Int)=(a1:Int):=by rw [IntKind.wrap_i64];omega
 go_enter Tryz.func161,Tryz.ntmps161
 go_wp2
 go_loopg [8] n (fun g1 vi wr=>∃(i:Nat) (f':Nat->Cel),vi=.int .i64 i/\a+1<=i/\i<=b+1/\n+1 - i<=g1/\Hid (SoS.Sw a b f f')/\Hid (SoS.Srt ltC f' a i)/\Hid (BI w0 g n sz f' wr))
 case atStart=>exact ⟨a1,f,rfl,by omega,by omega,by omega,hZ9 .refl,hZ9 (SoS.AdE _ _ (by omega)),HW⟩
 case round=>
  obtain ⟨i,f',rfl,E4,E9,F2,B9,C2,HR⟩:=hrel
  by_cases D5:i<b
  · have hz:(i:Int)<(b:Int):=by omega
    obtain ⟨i2,D7⟩:∃i2:Nat,(i:Int)+1=(i2:Int):=⟨i+1,by omega⟩
    have F0:IntKind.i64.wrap (i2:Int)=(i2:Int):=by rw [IntKind.wrap_i64];omega
    go_wp2
    go_loopg [9] i (fun g2 vj wr=>∃(j:Nat) (h:Nat->Cel),vj=.int .i64 j/\a<=j/\j<=i/\j<=g2/\Hid (SoS.Sw a b f h)/\Hid (SoS.Kp ltC h a i j)/\Hid (BI w0 g n sz h wr))
    case atStart=>exact ⟨i,f',rfl,by omega,Nat.le_refl _,Nat.le_refl _,B9,hZ9 C2.out.hole,HR⟩
    case round=>
     obtain ⟨j,h,rfl,E6,C8,E1,A0,B6,A4⟩:=hrel
     clear B9 C2 HR
     by_cases D3:a<j
     · have D1:(a:Int)<(j:Int):=by omega
       obtain ⟨jp,E2⟩:∃jp:Nat,(j:Int) - 1=(jp:Int):=⟨j - 1,by omega⟩
       have E7:IntKind.i64.wrap (jp:Int)=(jp:Int):=by rw [IntKind.wrap_i64];omega
       have C7:j=jp+1:=by omega
       have B4:=hZ9 C7
       clear C7
       obtain ⟨A,x,xa,xm,xc,hA,C3,cA,B0⟩:=A4.out.drew.read j (by omega)
       obtain ⟨B,y,ya,ym,yc,hB,C1,cB,A9⟩:=A4.out.drew.read jp (by omega)
       have A6:=(A0.out.all hb B3.out j (by omega)).2
       have A5:=(A0.out.all hb B3.out jp (by omega)).2
       rw [C3] at A6
       rw [C1] at A5
       have A7:Hid (ltC (h (jp+1)) (h jp)=decide (DnS.Aw x y<0)):=hZ9 (by rw [<-B4.out,C3,C1];rfl)
       have A3:=ML x y xa xm xc ya ym yc wr.drew (D0.out _ A4.out.drew.grown) A6 A5
       have jj:(j:Int)<(n:Int):=by omega
       have D6:(jp:Int)<(n:Int):=by omega
       clear C3 C1 A6 A5
       obtain ⟨CB,C6⟩:∃c,DnS.Aw x y=c:=⟨_,rfl⟩
       rw [C6] at A7 A3
       clear C6
       cases B5:decide (CB<0) with
       | true=>
        have C9:CB<0:=of_decide_eq_true B5
        rw [B5] at A7
        go_wp2_with fail
        go_region_held3 (fun W=>W.cell? ⟨g,A,none⟩=some (.string ⟨x.toArray⟩)/\W.cell? ⟨g,A+1,none⟩=some (.slice xa xm xc)/\W.cell? ⟨g,B,none⟩=some (.string ⟨y.toArray⟩)/\W.cell? ⟨g,B+1,none⟩=some (.slice ya ym yc)) (first | exact ⟨cA,B0,cB,A9⟩ | exact ⟨Ab cA A1,Ab B0 A1,Ab cB A1,Ab A9 A1⟩)
         (first | (go_at_call 95;(with_reducible refine A3.mono ?_);rintro e w5 ⟨rfl,A1⟩))
        all_goals (
         have A8:=hZ9 (A4.out.drew.call A1)
         clear cA B0 cB A9 A3 A1 hA hB A4)
        obtain ⟨A2,B2,x1,E8,E0,D4,y1,D2,F1,E3,⟨hA2,F3⟩,⟨n1,n2,n3,n4,n5,n6⟩,⟨c1,c2,c3,c4⟩,⟨f1,f2,f3,f4⟩,B1⟩:=A8.out.exch j jp (by omega) (by omega) (by omega)
        have B8:=hZ9 B1
        have B7:Hid (SoS.Sw a b f (SoS.Dc h j jp)):=hZ9 (.swp A0.out (by omega) (by omega) (by omega) (by omega))
        have C0:Hid (SoS.Kp ltC (SoS.Dc h j jp) a i jp):=hZ9 (by
         have e:=B4.out
         have ho:=B6.out
         rw [e] at ho⊢
         exact SoS.Kp.step GM ho (by omega) A7.out)
        clear B1 A0 B6 A7 A8
        generalize SoS.Dc h j jp=h6 at*
        go_wp2
        go_region
        all_goals go_wp2
        go_roundg jp
        case measure=>omega
        case rel=>exact ⟨jp,h6,by go_num,by omega,by omega,Nat.le_refl _,B7,C0,B8⟩
       | false=>
        have C9:¬CB<0:=of_decide_eq_false B5
        rw [B5] at A7
        have C4:Hid (SoS.Srt ltC h a (i+1)):=hZ9 (B6.out.done GM C8 (fun k hk=>A0.out.all hb B3.out k (by omega)) (.inr ⟨jp,B4.out,by rw [B4.out];exact A7.out⟩))
        go_wp2_with fail
        go_region_held3 (fun W=>W.cell? ⟨g,A,none⟩=some (.string ⟨x.toArray⟩)/\W.cell? ⟨g,A+1,none⟩=some (.slice xa xm xc)/\W.cell? ⟨g,B,none⟩=some (.string ⟨y.toArray⟩)/\W.cell? ⟨g,B+1,none⟩=some (.slice ya ym yc)) (first | exact ⟨cA,B0,cB,A9⟩ | exact ⟨Ab cA A1,Ab B0 A1,Ab cB A1,Ab A9 A1⟩)
         (first | (go_at_call 95;(with_reducible refine A3.mono ?_);rintro e w5 ⟨rfl,A1⟩))
        all_goals (
         have A8:=hZ9 (A4.out.drew.call A1)
         clear cA B0 cB A9 A3 A1 hA hB A4)
        go_wp2
        go_roundg (n+1 - i2)
        case measure=>omega
        case rel=>exact ⟨i2,h,by go_num,by omega,by omega,Nat.le_refl _,A0,by (have e:i2=i+1:=by omega);rw [e];exact C4,A8⟩
     · have D1:¬(a:Int)<(j:Int):=by omega
       have C4:Hid (SoS.Srt ltC h a (i+1)):=hZ9 (B6.out.done GM C8 (fun k hk=>A0.out.all hb B3.out k (by omega)) (.inl (by omega)))
       go_wp2_with fail
       go_quiet (fail)
       have A8:=hZ9 (A4.out.call (below_drewN wr nq))
       go_wp2
       go_roundg (n+1 - i2)
       case measure=>omega
       case rel=>exact ⟨i2,h,by go_num,by omega,by omega,Nat.le_refl _,A0,by (have e:i2=i+1:=by omega);rw [e];exact C4,A8⟩
  · have hz:¬(i:Int)<(b:Int):=by omega
    go_wp2
    go_end0
    exact ⟨rfl,f',⟨B9.out,C2.out.sub (Nat.le_refl _) (by omega)⟩,HR.out⟩
theorem WM (w0:World) (g n sz cap:Nat) (hsz:n<1000000000) (a b m:Nat) (ha:a+m<=b) (hb:b+m<=n) (f:Nat->Cel) (w:World) (hw:BI w0 g n sz f w):
  Calls Tryz.prog 216 #[.slice (some ⟨g,0,none⟩) n cap,.int .i64 a,.int .i64 b,.int .i64 m,EA] w (EJ w0 g n sz (fun f'=>f'=SoS.FZ f a b m)):=by
 unfold EJ
 have HW:Hid (BI w0 g n sz (SoS.FZ f a b 0) w):=hZ9 (by rw [SoS.Tz];exact hw)
 clear hw
 go_enter Tryz.func216,Tryz.ntmps216
 go_wp2
 go_loopg [10] m (fun g1 vi wr=>∃(i:Nat),vi=.int .i64 i/\i<=m/\m - i<=g1/\Hid (BI w0 g n sz (SoS.FZ f a b i) wr))
 case atStart=>exact ⟨0,rfl,Nat.zero_le _,by omega,HW⟩
 case round=>
  obtain ⟨i,rfl,A7,A8,HR⟩:=hrel
  by_cases A4:i<m
  · have A2:(i:Int)<(m:Int):=by omega
    obtain ⟨A,B,x1,xa,xm,xc,y1,ya,ym,yc,⟨hA,hB⟩,⟨n1,n2,n3,n4,n5,n6⟩,⟨c1,c2,c3,c4⟩,⟨f1,f2,f3,f4⟩,A0⟩:=HR.out.exch (a+i) (b+i) (by omega) (by omega) (by omega)
    have wa:IntKind.i64.wrap ((a:Int)+(i:Int))=(a:Int)+(i:Int):=by rw [IntKind.wrap_i64];omega
    have wb:IntKind.i64.wrap ((b:Int)+(i:Int))=(b:Int)+(i:Int):=by rw [IntKind.wrap_i64];omega
    have ea:((a:Int)+(i:Int)).toNat=a+i:=by omega
    have eb:((b:Int)+(i:Int)).toNat=b+i:=by omega
    have ja:(a:Int)+(i:Int)<(n:Int):=by omega
    have jb:(b:Int)+(i:Int)<(n:Int):=by omega
    have A6:(0:Int)<=(a:Int)+(i:Int):=by omega
    have A5:(0:Int)<=(b:Int)+(i:Int):=by omega
    rw [SoS.TA f (by omega)] at A0
    have A1:=hZ9 A0
    clear A0 HR
    go_wp2
    go_region
    all_goals go_wp2
    go_roundg (m - (i+1))
    case measure=>omega
    case rel=>exact ⟨i+1,by go_num,A4,Nat.le_refl _,A1⟩
  · have A2:¬(i:Int)<(m:Int):=by omega
    have A3:i=m:=by omega
    subst A3
    go_wp2
    go_end0
    first | exact ⟨rfl,HR.out⟩ | exact ⟨rfl,_,rfl,HR.out⟩
theorem Qa (f:Nat->Cel) {a b m lo hi:Nat} (ha:a+m<=b) (hl:lo<=a) (hh:b+m<=hi):∀i,i<=m->SoS.Sw lo hi f (SoS.FZ f a b i)
 | 0,_=>by rw [SoS.Tz];exact .refl
 | i+1,h=>by
  rw [<-SoS.TA f (by omega)]
  exact .swp (Qa f ha hl hh i (by omega)) (by omega) (by omega) (by omega) (by omega)
theorem Adt (w0:World) (g n sz cap:Nat) (hsz:n<1000000000) (a m b:Nat) (B4:a<m) (B9:m<b) (hb:b<=n) (f:Nat->Cel) (w:World) (hw:BI w0 g n sz f w):
  Calls Tryz.prog 191 #[.slice (some ⟨g,0,none⟩) n cap,.int .i64 a,.int .i64 m,.int .i64 b,EA] w (EJ w0 g n sz (fun f'=>f'=SoS.AO f a m b/\SoS.Sw a b f f')):=by
 have A4:=fun a b m h1 h2 f w hw=>WM w0 g n sz cap hsz a b m h1 h2 f w hw
 unfold EJ EA at*
 have A3:=hZ9 A4
 have HW:=hZ9 hw
 clear A4 hw
 obtain ⟨i0,B7⟩:∃i0:Nat,(m:Int) - (a:Int)=(i0:Int):=⟨m - a,by omega⟩
 obtain ⟨j0,B3⟩:∃j0:Nat,(b:Int) - (m:Int)=(j0:Int):=⟨b - m,by omega⟩
 have B6:IntKind.i64.wrap (i0:Int)=(i0:Int):=by rw [IntKind.wrap_i64];omega
 have B5:IntKind.i64.wrap (j0:Int)=(j0:Int):=by rw [IntKind.wrap_i64];omega
 go_enter Tryz.func191,Tryz.ntmps191
 go_wp2
 go_loopg [10,11] (i0+j0) (fun g1 vi vj wr=>∃(i j:Nat) (f':Nat->Cel),vi=.int .i64 i/\vj=.int .i64 j/\1<=i/\1<=j/\i+a<=m/\m+j<=b/\i+j<=g1/\Hid (SoS.AO f' (m - i) m (m+j)=SoS.AO f a m b)/\Hid (SoS.Sw a b f f')/\Hid (BI w0 g n sz f' wr))
 case atStart=>exact ⟨i0,j0,f,rfl,rfl,by omega,by omega,by omega,by omega,Nat.le_refl _,hZ9 (by (have e1:m - i0=a:=by omega);(have e2:m+j0=b:=by omega);rw [e1,e2]),hZ9 .refl,HW⟩
 case round=>
  obtain ⟨i,j,f',rfl,rfl,A7,A8,A9,B1,B8,A0,A1,HS⟩:=hrel
  clear HW
  obtain ⟨p,hp⟩:∃p:Nat,(m:Int) - (i:Int)=(p:Int):=⟨m - i,by omega⟩
  have wp:IntKind.i64.wrap (p:Int)=(p:Int):=by rw [IntKind.wrap_i64];omega
  have HP:Hid (m - i=p):=hZ9 (by omega)
  by_cases B2:i=j
  · subst B2
    have A6:((i:Int) !=(i:Int))=false:=by simp
    go_wp2_with (go_at_call 216;refine (A3.out p m i (by omega) (by omega) f' _ HS.out).mono ?_;rintro e w1 ⟨rfl,f2,rfl,A2⟩)
    go_end0
    exact ⟨rfl,_,⟨by rw [<-A0.out,<-HP.out];exact SoS.Aca f' (by omega),A1.out.trans (Qa f' (by omega) (by omega) (by omega) i (Nat.le_refl _))⟩,A2⟩
  · have A6:((i:Int) !=(j:Int))=true:=by simp;omega
    by_cases A5:j<i
    · have hz:(j:Int)<(i:Int):=by omega
      obtain ⟨q,hq⟩:∃q:Nat,(i:Int) - (j:Int)=(q:Int):=⟨i - j,by omega⟩
      have wq:IntKind.i64.wrap (q:Int)=(q:Int):=by rw [IntKind.wrap_i64];omega
      go_wp2_with (go_at_call 216;refine (A3.out p m j (by omega) (by omega) f' _ HS.out).mono ?_;rintro e w1 ⟨rfl,f2,rfl,A2⟩)
      go_roundg (q+j)
      case measure=>omega
      case rel=>exact ⟨q,j,_,rfl,rfl,by omega,A8,by omega,B1,Nat.le_refl _,hZ9 (by (have e1:m - q=m - (i - j):=by omega);rw [e1,<-HP.out,SoS.AbY f' (by omega) A5];exact A0.out),hZ9 (A1.out.trans (Qa f' (by omega) (by omega) (by omega) j (Nat.le_refl _))),hZ9 A2⟩
    · have hz:¬(j:Int)<(i:Int):=by omega
      obtain ⟨q,hq⟩:∃q:Nat,(j:Int) - (i:Int)=(q:Int):=⟨j - i,by omega⟩
      have wq:IntKind.i64.wrap (q:Int)=(q:Int):=by rw [IntKind.wrap_i64];omega
      obtain ⟨s,hs⟩:∃s:Nat,(m:Int)+(j:Int)=(s:Int):=⟨m+j,by omega⟩
      have ws:IntKind.i64.wrap (s:Int)=(s:Int):=by rw [IntKind.wrap_i64];omega
      obtain ⟨r,hr⟩:∃r:Nat,(s:Int) - (i:Int)=(r:Int):=⟨s - i,by omega⟩
      have wr:IntKind.i64.wrap (r:Int)=(r:Int):=by rw [IntKind.wrap_i64];omega
      have B0:Hid (m+j - i=r):=hZ9 (by omega)
      go_wp2_with (go_at_call 216;refine (A3.out p r i (by omega) (by omega) f' _ HS.out).mono ?_;rintro e w1 ⟨rfl,f2,rfl,A2⟩)
      go_roundg (i+q)
      case measure=>omega
      case rel=>exact ⟨i,q,_,rfl,rfl,A7,by omega,A9,by omega,Nat.le_refl _,hZ9 (by (have e1:m+q=m+(j - i):=by omega);rw [e1,<-HP.out,<-B0.out,SoS.AbZ f' (by omega) (by omega)];exact A0.out),hZ9 (A1.out.trans (Qa f' (by omega) (by omega) (by omega) i (Nat.le_refl _))),hZ9 A2⟩
end Go.Proofs.YtgngjfjaelgaeaaGreatDoor
