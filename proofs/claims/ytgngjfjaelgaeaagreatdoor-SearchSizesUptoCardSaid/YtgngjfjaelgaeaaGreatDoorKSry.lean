/- The walks of slices.SortStableFunc at pairs: the row keeps its pairs; up to 20 of them are sorted. Conditions: as stated. -/
import Derived.Shelf.SlSortCmp.InsertionK
import Derived.Test.YtgngjfjaelgaeaaGreatDoorKAva
set_option maxRecDepth 1000000
set_option maxHeartbeats 16000000
namespace Go.Proofs.YtgngjfjaelgaeaaGreatDoor
section
open Go.Shelf Go.RowKit Go.Lib Go.Sort Go.Proofs
def ren:Ren:={ f:=fun x=>if x=20 then 218 else x,t:=fun x=>match x with | 0=>0 | 3=>3 | 4=>4 | 22=>151 | 24=>190 | 25=>215 | x=>x,g:=fun x=>x }
theorem Adw:Bears Tryz.prog (ren.f 20) (SlBodyF.n20 ren):=⟨"slices.insertionSortCmpFunc[verger/rdn.AVA]",by kernel_rfl,by kernel_rfl⟩
theorem XG:SlLaysF0.n20 Tryz.prog ren where
 mixed:=by kernel_rfl
 f20:=Adw
 t0:=Tryz.underlying0
 a0:=fun w=>by kernel_rfl
 z0:=fun w=>by kernel_rfl
 v0:=fun w=>by kernel_rfl
 t3:=Tryz.underlying3
 a3:=fun w=>by kernel_rfl
 z3:=fun w=>by kernel_rfl
 v3:=fun w=>by kernel_rfl
 t4:=Tryz.underlying4
 a4:=fun w=>by kernel_rfl
 z4:=fun w=>by kernel_rfl
 v4:=fun w=>by kernel_rfl
 t22:=Tryz.underlying151
 a22:=fun w=>by kernel_rfl
 z22:=fun w=>by kernel_rfl
 v22:=fun w=>by kernel_rfl
 t25:=Tryz.underlying215
 a25:=fun w=>by kernel_rfl
 z25:=fun w=>by kernel_rfl
 v25:=fun w=>by kernel_rfl
def AE (p:RdS.Pr):List Value:=[Ac p.1,Ac p.2]
theorem VC (p:RdS.Pr):(AE p).length=2:=rfl
theorem Adx (p:RdS.Pr):∀v ∈ AE p,v.oneCell'=true:=by
 intro v hv
 simp only [AE,List.mem_cons,List.not_mem_nil,or_false] at hv
 rcases hv with rfl | rfl <;> rfl
def cfP (x y:RdS.Pr):Int:=Lib.compareBytes x.1 y.1
theorem AdA (x y:RdS.Pr) (W:World):Calls Tryz.prog 171 #[.agg #[.string ⟨x.1.toArray⟩,.string ⟨x.2.toArray⟩],.agg #[.string ⟨y.1.toArray⟩,.string ⟨y.2.toArray⟩]] W fun e w'=>e=.returned (.int .i64 (cfP x y))/\∃q A1,w'=grow (W.drewN q) A1:=by
 have A0:=fun W'=>Tryz.strings_Compare ⟨x.1.toArray⟩ ⟨y.1.toArray⟩ W'
 change ∀W,Calls Tryz.prog 172 _ W (fun e w2=>e=.returned (.int .i64 (cfP x y))/\w2=W) at A0
 generalize cfP x y=r at*
 go_enter Tryz.func171,Tryz.ntmps171
 go_wp2_with (go_at_call 172;refine (A0 _).mono ?_;rintro e w1 ⟨rfl,rfl⟩)
 go_ret
 exact ⟨rfl,0,_,by rw [alloc_eq_grow,alloc_eq_grow,grow_grow];rfl⟩
theorem Ae4 (blk off size:Nat) (w:World):CmpLays Tryz.prog 171 #[] AE 2 cfP blk off size w:=fun _ _ _ _ x y=>AdA x y _
theorem AbT:∀args w,(callFunc 171 args).run Tryz.prog w=.ok (.enter 171 args) w:=enters_of Tryz.func171 (by kernel_rfl) rfl
def GH:Value:=.func (.func 171) #[] #[]
theorem RN (blk off cap a b:Nat) (d:Array RdS.Pr) (w:World) (hH:HoldsK AE 2 w blk off d) (hblk:blk<w.heap.size) (A0:a<=b) (hb:b<=d.size) (hsz:d.size<1000000000):
  Calls Tryz.prog 218 #[.slice (some ⟨blk,off,none⟩) d.size cap,.int .i64 a,.int .i64 b,GH] w fun e w'=>
   e=.returned (.tuple #[])/\∃n os,w'=sortWorldK AE 2 w blk off n (Sort.insertionSort (ltOf cfP) d a b) os:=
 AnyQ.insertionSortCmpFunc XG 2 Tryz.isAgg190 Tryz.sizeOf190 AE VC Adx cfP 171 #[] blk off cap a b d w AbT (Ae4 blk off d.size w) hH hblk A0 hb (by omega)
end
section
open Go.Shelf Go.RowKit Go.Lib Go.Sort Go.Proofs
def SW (w0:World) (blk off n:Nat) (w:World):Prop:=∃(m:Nat) (dk:Array RdS.Pr) (os:Array Obj),dk.size=n/\w=sortWorldK AE 2 w0 blk off m dk os
def Swp (w0:World) (blk off n:Nat) (e:Ending) (w:World):Prop:=e=.returned (.tuple #[])/\SW w0 blk off n w
theorem exch (w0:World) (blk off:Nat) (d:Array RdS.Pr) (hH:HoldsK AE 2 w0 blk off d) (hblk:blk<w0.heap.size) (m:Nat) (dk:Array RdS.Pr) (os:Array Obj) (hs:dk.size=d.size) (i j:Nat) (hi:i<dk.size) (hj:j<dk.size) (A3:i≠j):
  ∃(A B:Nat) (x1 x2 y1 y2:List UInt8),(off+i*2=A/\off+j*2=B)/\(¬A=B/\¬B=A/\¬A+1=B/\¬A=B+1/\¬B=A+1/\¬B+1=A)/\
   ((sortWorldK AE 2 w0 blk off m dk os).cell? ⟨blk,A,none⟩=some (.string ⟨x1.toArray⟩)/\(sortWorldK AE 2 w0 blk off m dk os).cell? ⟨blk,A+1,none⟩=some (.string ⟨x2.toArray⟩)/\
    (sortWorldK AE 2 w0 blk off m dk os).cell? ⟨blk,B,none⟩=some (.string ⟨y1.toArray⟩)/\(sortWorldK AE 2 w0 blk off m dk os).cell? ⟨blk,B+1,none⟩=some (.string ⟨y2.toArray⟩))/\
   ((sortWorldK AE 2 w0 blk off m dk os).frozen? ⟨blk,A,none⟩=false/\(sortWorldK AE 2 w0 blk off m dk os).frozen? ⟨blk,A+1,none⟩=false/\
    (sortWorldK AE 2 w0 blk off m dk os).frozen? ⟨blk,B,none⟩=false/\(sortWorldK AE 2 w0 blk off m dk os).frozen? ⟨blk,B+1,none⟩=false)/\
   (((((sortWorldK AE 2 w0 blk off m dk os).drew.setCell ⟨blk,A,none⟩ (.string ⟨y1.toArray⟩)).setCell ⟨blk,A+1,none⟩ (.string ⟨y2.toArray⟩)).setCell ⟨blk,B,none⟩ (.string ⟨x1.toArray⟩)).setCell ⟨blk,B+1,none⟩ (.string ⟨x2.toArray⟩))=sortWorldK AE 2 w0 blk off (m+1) (swp dk i j) os:=by
 have A0:HoldsK AE 2 (sortWorldK AE 2 w0 blk off m dk os) blk off dk:=holdsK_sortWorldK_c AE 2 w0 blk off d dk m os hH hblk hs
 have ci:=A0.cell hi (c:=0) (by decide)
 have A1:=A0.cell hi (c:=1) (by decide)
 have cj:=A0.cell hj (c:=0) (by decide)
 have A2:=A0.cell hj (c:=1) (by decide)
 exact ⟨off+i*2,off+j*2,dk[i]!.1,dk[i]!.2,dk[j]!.1,dk[j]!.2,⟨rfl,rfl⟩,by omega,⟨ci.1,A1.1,cj.1,A2.1⟩,⟨ci.2,A1.2,cj.2,A2.2⟩,
  sortWorldK_swp_c AE 2 w0 blk off VC m dk os hblk i j hi hj⟩
theorem WN (w0:World) (blk off cap:Nat) (d:Array RdS.Pr) (hH:HoldsK AE 2 w0 blk off d) (hblk:blk<w0.heap.size) (hsz:d.size<1000000000) (a b n:Nat) (ha:a+n<=b) (hb:b+n<=d.size) (w:World) (hw:SW w0 blk off d.size w):
  Calls Tryz.prog 270 #[.slice (some ⟨blk,off,none⟩) d.size cap,.int .i64 a,.int .i64 b,.int .i64 n,GH] w (Swp w0 blk off d.size):=by
 obtain ⟨m0,A5,os0,A7,rfl⟩:=hw
 have hex:=exch w0 blk off d hH hblk
 have A8:=hZ9 hex
 clear hex hH
 generalize hn:d.size=sz at*
 have HN:=hZ9 hn
 clear hn
 go_enter Tryz.func270,Tryz.ntmps270
 go_wp2
 go_loopg [10] n (fun g1 vi wr=>∃(i m:Nat) (dk:Array RdS.Pr) (os:Array Obj),vi=.int .i64 i/\i<=n/\n - i<=g1/\dk.size=sz/\wr=sortWorldK AE 2 w0 blk off m dk os)
 case atStart=>exact ⟨0,m0,A5,os0,rfl,Nat.zero_le _,by omega,A7,rfl⟩
 case round=>
  obtain ⟨i,m,dk,os,rfl,B1,B2,A1,rfl⟩:=hrel
  by_cases A6:i<n
  · have A4:(i:Int)<(n:Int):=by omega
    obtain ⟨A,B,x1,x2,y1,y2,⟨hA,hB⟩,⟨n1,n2,n3,n4,n5,n6⟩,⟨c1,c2,c3,c4⟩,⟨f1,f2,f3,f4⟩,A0⟩:=A8.out m dk os A1 (a+i) (b+i) (by omega) (by omega) (by omega)
    have wa:IntKind.i64.wrap ((a:Int)+(i:Int))=(a:Int)+(i:Int):=by rw [IntKind.wrap_i64];omega
    have wb:IntKind.i64.wrap ((b:Int)+(i:Int))=(b:Int)+(i:Int):=by rw [IntKind.wrap_i64];omega
    have ea:((a:Int)+(i:Int)).toNat=a+i:=by omega
    have eb:((b:Int)+(i:Int)).toNat=b+i:=by omega
    have ja:(a:Int)+(i:Int)<(sz:Int):=by omega
    have jb:(b:Int)+(i:Int)<(sz:Int):=by omega
    have B0:(0:Int)<=(a:Int)+(i:Int):=by omega
    have A9:(0:Int)<=(b:Int)+(i:Int):=by omega
    have A3:=hZ9 A0
    clear A0
    have A2:Hid ((swp dk (a+i) (b+i)).size=sz):=hZ9 (by rw [size_swp];exact A1)
    generalize swp dk (a+i) (b+i)=dk2 at*
    generalize sortWorldK AE 2 w0 blk off m dk os=wq at*
    go_wp2
    go_region
    all_goals go_wp2
    go_roundg (n - (i+1))
    case measure=>omega
    case rel=>exact ⟨i+1,m+1,dk2,os,by go_num,A6,by omega,A2.out,A3.out⟩
  · have A4:¬(i:Int)<(n:Int):=by omega
    go_wp2
    go_end0
    exact ⟨rfl,m,dk,os,A1,rfl⟩
theorem Ady (w0:World) (blk off cap:Nat) (d:Array RdS.Pr) (hH:HoldsK AE 2 w0 blk off d) (hblk:blk<w0.heap.size) (hsz:d.size<1000000000) (a m b:Nat) (B0:a<m) (B5:m<b) (hb:b<=d.size) (w:World) (hw:SW w0 blk off d.size w):
  Calls Tryz.prog 249 #[.slice (some ⟨blk,off,none⟩) d.size cap,.int .i64 a,.int .i64 m,.int .i64 b,GH] w (Swp w0 blk off d.size):=by
 have A1:=fun a b n h1 h2 w hw=>WN w0 blk off cap d hH hblk hsz a b n h1 h2 w hw
 unfold Swp GH at A1
 have A2:=hZ9 A1
 clear A1 hH
 generalize hn:d.size=sz at*
 clear hn
 have HW:=hZ9 hw
 clear hw
 obtain ⟨i0,B2⟩:∃i0:Nat,(m:Int) - (a:Int)=(i0:Int):=⟨m - a,by omega⟩
 obtain ⟨j0,A9⟩:∃j0:Nat,(b:Int) - (m:Int)=(j0:Int):=⟨b - m,by omega⟩
 have B1:IntKind.i64.wrap (i0:Int)=(i0:Int):=by rw [IntKind.wrap_i64];omega
 have B6:IntKind.i64.wrap (j0:Int)=(j0:Int):=by rw [IntKind.wrap_i64];omega
 unfold GH
 go_enter Tryz.func249,Tryz.ntmps249
 go_wp2
 go_loopg [10,11] (i0+j0) (fun g1 vi vj wr=>∃(i j:Nat),vi=.int .i64 i/\vj=.int .i64 j/\1<=i/\1<=j/\i<=m/\m+j<=sz/\i+j<=g1/\Hid (SW w0 blk off sz wr))
 case atStart=>exact ⟨i0,j0,rfl,rfl,by omega,by omega,by omega,by omega,Nat.le_refl _,HW⟩
 case round=>
  obtain ⟨i,j,rfl,rfl,A8,A3,A4,A5,B4,HS⟩:=hrel
  obtain ⟨p,hp⟩:∃p:Nat,(m:Int) - (i:Int)=(p:Int):=⟨m - i,by omega⟩
  have wp:IntKind.i64.wrap (p:Int)=(p:Int):=by rw [IntKind.wrap_i64];omega
  by_cases A7:i=j
  · subst A7
    have A6:((i:Int) !=(i:Int))=false:=by simp
    go_wp2_with (go_at_call 270;refine (A2.out p m i (by omega) (by omega) _ HS.out).mono ?_;rintro e w1 ⟨rfl,A0⟩)
    go_end0
    exact ⟨rfl,A0⟩
  · have A6:((i:Int) !=(j:Int))=true:=by simp;omega
    by_cases B3:j<i
    · have hz:(j:Int)<(i:Int):=by omega
      obtain ⟨q,hq⟩:∃q:Nat,(i:Int) - (j:Int)=(q:Int):=⟨i - j,by omega⟩
      have wq:IntKind.i64.wrap (q:Int)=(q:Int):=by rw [IntKind.wrap_i64];omega
      go_wp2_with (go_at_call 270;refine (A2.out p m j (by omega) (by omega) _ HS.out).mono ?_;rintro e w1 ⟨rfl,A0⟩)
      go_roundg (q+j)
      case measure=>omega
      case rel=>exact ⟨q,j,rfl,rfl,by omega,A3,by omega,A5,Nat.le_refl _,hZ9 A0⟩
    · have hz:¬(j:Int)<(i:Int):=by omega
      obtain ⟨q,hq⟩:∃q:Nat,(j:Int) - (i:Int)=(q:Int):=⟨j - i,by omega⟩
      have wq:IntKind.i64.wrap (q:Int)=(q:Int):=by rw [IntKind.wrap_i64];omega
      obtain ⟨s,hs⟩:∃s:Nat,(m:Int)+(j:Int)=(s:Int):=⟨m+j,by omega⟩
      have ws:IntKind.i64.wrap (s:Int)=(s:Int):=by rw [IntKind.wrap_i64];omega
      obtain ⟨r,hr⟩:∃r:Nat,(s:Int) - (i:Int)=(r:Int):=⟨s - i,by omega⟩
      have wr:IntKind.i64.wrap (r:Int)=(r:Int):=by rw [IntKind.wrap_i64];omega
      go_wp2_with (go_at_call 270;refine (A2.out p r i (by omega) (by omega) _ HS.out).mono ?_;rintro e w1 ⟨rfl,A0⟩)
      go_roundg (i+q)
      case measure=>omega
      case rel=>exact ⟨i,q,rfl,rfl,A8,by omega,A4,by omega,Nat.le_refl _,hZ9 A0⟩
end
section
open Go.Shelf Go.RowKit Go.Lib Go.Sort Go.Proofs
theorem SW.grown {w0:World} {blk off n:Nat} {w:World} (h:SW w0 blk off n w) (q:Nat) (os:Array Obj):SW w0 blk off n (grow (w.drewN q) os):=by
 obtain ⟨m,dk,o,hs,rfl⟩:=h
 exact ⟨m+q,dk,o++os,hs,sortWorldK_grown_c AE 2 w0 blk off m q dk o os⟩
theorem SW.lt {w0:World} {blk off n:Nat} {w:World} (h:SW w0 blk off n w) (hblk:blk<w0.heap.size):blk<w.heap.size:=by
 obtain ⟨m,dk,o,hs,rfl⟩:=h
 exact Nat.lt_of_lt_of_le hblk (size_sortWorldK_c AE 2 w0 blk off m dk o)
theorem SW.read {w0:World} {blk off:Nat} {d:Array RdS.Pr} (hH:HoldsK AE 2 w0 blk off d) (hblk:blk<w0.heap.size) {w:World} (h:SW w0 blk off d.size w) (i:Nat) (hi:i<d.size):
  ∃(A:Nat) (x:RdS.Pr),off+i*2=A/\(∀q os,(grow (w.drewN q) os).cell? ⟨blk,A,none⟩=some (.string ⟨x.1.toArray⟩))/\(∀q os,(grow (w.drewN q) os).cell? ⟨blk,A+1,none⟩=some (.string ⟨x.2.toArray⟩)):=by
 have A1:=h.lt hblk
 obtain ⟨m,dk,o,hs,rfl⟩:=h
 have A0:HoldsK AE 2 (sortWorldK AE 2 w0 blk off m dk o) blk off dk:=holdsK_sortWorldK_c AE 2 w0 blk off d dk m o hH hblk hs
 have ci:=A0.cell (i:=i) (by omega) (c:=0) (by decide)
 have A2:=A0.cell (i:=i) (by omega) (c:=1) (by decide)
 exact ⟨off+i*2,dk[i]!,rfl,fun q os=>cell_grown A1 ci.1 q os,fun q os=>cell_grown A1 A2.1 q os⟩
theorem SW.exch {w0:World} {blk off:Nat} {d:Array RdS.Pr} (hH:HoldsK AE 2 w0 blk off d) (hblk:blk<w0.heap.size) {w:World} (h:SW w0 blk off d.size w) (i j:Nat) (hi:i<d.size) (hj:j<d.size) (A0:i≠j):
  ∃(A B:Nat) (x1 x2 y1 y2:List UInt8),(off+i*2=A/\off+j*2=B)/\(¬A=B/\¬B=A/\¬A+1=B/\¬A=B+1/\¬B=A+1/\¬B+1=A)/\
   (w.cell? ⟨blk,A,none⟩=some (.string ⟨x1.toArray⟩)/\w.cell? ⟨blk,A+1,none⟩=some (.string ⟨x2.toArray⟩)/\w.cell? ⟨blk,B,none⟩=some (.string ⟨y1.toArray⟩)/\w.cell? ⟨blk,B+1,none⟩=some (.string ⟨y2.toArray⟩))/\
   (w.frozen? ⟨blk,A,none⟩=false/\w.frozen? ⟨blk,A+1,none⟩=false/\w.frozen? ⟨blk,B,none⟩=false/\w.frozen? ⟨blk,B+1,none⟩=false)/\
   SW w0 blk off d.size ((((w.drew.setCell ⟨blk,A,none⟩ (.string ⟨y1.toArray⟩)).setCell ⟨blk,A+1,none⟩ (.string ⟨y2.toArray⟩)).setCell ⟨blk,B,none⟩ (.string ⟨x1.toArray⟩)).setCell ⟨blk,B+1,none⟩ (.string ⟨x2.toArray⟩)):=by
 obtain ⟨m,dk,o,hs,rfl⟩:=h
 obtain ⟨A,B,x1,x2,y1,y2,h1,h2,h3,h4,h5⟩:=Go.Proofs.YtgngjfjaelgaeaaGreatDoor.exch w0 blk off d hH hblk m dk o hs i j (by omega) (by omega) A0
 exact ⟨A,B,x1,x2,y1,y2,h1,h2,h3,h4,m+1,swp dk i j,o,by rw [size_swp];exact hs,h5⟩
theorem Zw (w0:World) (blk off cap:Nat) (d:Array RdS.Pr) (hH:HoldsK AE 2 w0 blk off d) (hblk:blk<w0.heap.size) (hsz:d.size<1000000000):∀(N a m b:Nat),b - a<=N->a<m->m<b->b<=d.size->∀w,SW w0 blk off d.size w->
  Calls Tryz.prog 219 #[.slice (some ⟨blk,off,none⟩) d.size cap,.int .i64 a,.int .i64 m,.int .i64 b,GH] w (Swp w0 blk off d.size):=by
 have B1:=fun a m b h1 h2 h3 w hw=>Ady w0 blk off cap d hH hblk hsz a m b h1 h2 h3 w hw
 have A5:=fun w h i hi=>SW.read (w:=w) hH hblk h i hi
 have A4:=fun w h i j hi hj C4=>SW.exch (w:=w) hH hblk h i j hi hj C4
 have A8:=AdA
 have mixed:Tryz.prog.follows .mixedOrders=true:=XG.mixed
 unfold Swp GH at*
 have B2:=hZ9 B1
 have A0:=hZ9 A5
 have A3:=hZ9 A4
 have A1:=hZ9 A8
 clear B1 A5 A4 A8 hH
 generalize d.size=sz at*
 intro N
 induction N with
 | zero=>intro a m b h1 h2 h3;omega
 | succ N ih=>
  intro a m b hN E7 F4 hb w hw
  have IH:=hZ9 ih
  have HW:=hZ9 hw
  clear ih hw
  by_cases h1:m=a+1
  · have C6:(m:Int) - (a:Int)=1:=by omega
    have E1:m<=a+1:=by omega
    clear h1
    go_enter Tryz.func219,Tryz.ntmps219
    go_wp2
    go_loopg [10,11] (b - m) (fun g1 vi vj wr=>∃(i j:Nat),vi=.int .i64 i/\vj=.int .i64 j/\m<=i/\i<=j/\j<=b/\j - i<=g1/\Hid (SW w0 blk off sz wr))
    case atStart=>exact ⟨m,b,rfl,rfl,Nat.le_refl _,by omega,Nat.le_refl _,Nat.le_refl _,HW⟩
    case round=>
     obtain ⟨i,j,rfl,rfl,B6,C4,B7,C3,HS⟩:=hrel
     by_cases B4:i<j
     · have hz:(i:Int)<(j:Int):=by omega
       obtain ⟨h,hh⟩:∃h:Nat,((i:Int)+(j:Int)) / 2=(h:Int):=⟨(i+j) / 2,by omega⟩
       have C1:i<=h:=by omega
       have D3:h<j:=by omega
       obtain ⟨A,x,hA,cA,C0⟩:=A0.out _ HS.out h (by omega)
       obtain ⟨B,y,hB,cB,B9⟩:=A0.out _ HS.out a (by omega)
       have jh:(h:Int)<(sz:Int):=by omega
       have ja:(a:Int)<(sz:Int):=by omega
       by_cases A7:cfP x y<0
       · go_wp2_with fail
         go_quiet_grown (first | (go_at_call 171;refine Calls.grown_of (A1.out x y _)))
         go_wp2
         go_roundg (j - (h+1))
         case measure=>omega
         case rel=>exact ⟨h+1,j,by go_num,rfl,by omega,by omega,B7,Nat.le_refl _,hZ9 (HS.out.grown nq osq)⟩
       · go_wp2_with fail
         go_quiet_grown (first | (go_at_call 171;refine Calls.grown_of (A1.out x y _)))
         go_wp2
         go_roundg (h - i)
         case measure=>omega
         case rel=>exact ⟨i,h,rfl,rfl,B6,C1,by omega,Nat.le_refl _,hZ9 (HS.out.grown nq osq)⟩
     · have hz:¬(i:Int)<(j:Int):=by omega
       obtain ⟨ip,E9⟩:∃ip:Nat,(i:Int) - 1=(ip:Int):=⟨i - 1,by omega⟩
       have F2:IntKind.i64.wrap (ip:Int)=(ip:Int):=by rw [IntKind.wrap_i64];omega
       go_wp2
       go_loopg [13] (ip - a) (fun g1 vk wr=>∃(k:Nat),vk=.int .i64 k/\a<=k/\k<=ip/\ip - k<=g1/\Hid (SW w0 blk off sz wr))
       case atStart=>exact ⟨a,rfl,Nat.le_refl _,by omega,Nat.le_refl _,HS⟩
       case round=>
        obtain ⟨k,rfl,D8,E2,D5,B0⟩:=hrel
        by_cases B8:k<ip
        · have C2:(k:Int)<(ip:Int):=by omega
          obtain ⟨A,B,x1,x2,y1,y2,⟨hA,hB⟩,⟨n1,n2,n3,n4,n5,n6⟩,⟨c1,c2,c3,c4⟩,⟨f1,f2,f3,f4⟩,A2⟩:=A3.out _ B0.out k (k+1) (by omega) (by omega) (by omega)
          have A6:=hZ9 A2
          clear A2
          have jk:(k:Int)<(sz:Int):=by omega
          have E0:(k:Int)+1<(sz:Int):=by omega
          have ek:((k:Int)+1).toNat=k+1:=by omega
          have j0:(0:Int)<=(k:Int)+1:=by omega
          go_wp2
          go_region
          all_goals go_wp2
          go_roundg (ip - (k+1))
          case measure=>omega
          case rel=>exact ⟨k+1,by go_num,by omega,by omega,Nat.le_refl _,A6⟩
        · have C2:¬(k:Int)<(ip:Int):=by omega
          go_wp2
          (try simp only [Exit.inBlock,Exit.then])
          refine bodyPost_ret (results_none rfl _ _ _) rfl ?_
          exact ⟨rfl,B0.out⟩
  · have C6:∃q:Nat,(m:Int) - (a:Int)=(q:Int)/\2<=q:=⟨m - a,by omega,by omega⟩
    obtain ⟨q,hq,E5⟩:=C6
    have F3:((q:Int)==1)=false:=by rw [beq_eq_false_iff_ne];omega
    have wq:IntKind.i64.wrap (q:Int)=(q:Int):=by rw [IntKind.wrap_i64];omega
    by_cases h2:b=m+1
    · have C8:(b:Int) - (m:Int)=1:=by omega
      have D9:b<=m+1:=by omega
      clear h2
      go_enter Tryz.func219,Tryz.ntmps219
      go_wp2
      go_loopg [14,15] (m - a) (fun g1 vi vj wr=>∃(i j:Nat),vi=.int .i64 i/\vj=.int .i64 j/\a<=i/\i<=j/\j<=m/\j - i<=g1/\Hid (SW w0 blk off sz wr))
      case atStart=>exact ⟨a,m,rfl,rfl,Nat.le_refl _,by omega,Nat.le_refl _,Nat.le_refl _,HW⟩
      case round=>
       obtain ⟨i,j,rfl,rfl,B6,C4,B7,C3,HS⟩:=hrel
       by_cases B4:i<j
       · have hz:(i:Int)<(j:Int):=by omega
         obtain ⟨h,hh⟩:∃h:Nat,((i:Int)+(j:Int)) / 2=(h:Int):=⟨(i+j) / 2,by omega⟩
         have C1:i<=h:=by omega
         have D3:h<j:=by omega
         obtain ⟨A,x,hA,cA,C0⟩:=A0.out _ HS.out m (by omega)
         obtain ⟨B,y,hB,cB,B9⟩:=A0.out _ HS.out h (by omega)
         have jh:(h:Int)<(sz:Int):=by omega
         have ja:(m:Int)<(sz:Int):=by omega
         by_cases A7:cfP x y<0
         · go_wp2_with fail
           go_quiet_grown (first | (go_at_call 171;refine Calls.grown_of (A1.out x y _)))
           go_wp2
           go_roundg (h - i)
           case measure=>omega
           case rel=>exact ⟨i,h,rfl,rfl,B6,C1,by omega,Nat.le_refl _,hZ9 (HS.out.grown nq osq)⟩
         · have D0:decide (cfP x y<0)=false:=decide_eq_false A7
           go_wp2_with fail
           go_quiet_grown (first | (go_at_call 171;refine Calls.grown_of (A1.out x y _)))
           go_wp2
           go_roundg (j - (h+1))
           case measure=>omega
           case rel=>exact ⟨h+1,j,by go_num,rfl,by omega,by omega,B7,Nat.le_refl _,hZ9 (HS.out.grown nq osq)⟩
       · have hz:¬(i:Int)<(j:Int):=by omega
         go_wp2
         go_loopg [17] (m - i) (fun g1 vk wr=>∃(k:Nat),vk=.int .i64 k/\i<=k/\k<=m/\k - i<=g1/\Hid (SW w0 blk off sz wr))
         case atStart=>exact ⟨m,rfl,by omega,Nat.le_refl _,Nat.le_refl _,HS⟩
         case round=>
          obtain ⟨k,rfl,D8,E2,D5,B0⟩:=hrel
          by_cases B8:i<k
          · have C2:(i:Int)<(k:Int):=by omega
            obtain ⟨kp,F0⟩:∃kp:Nat,(k:Int) - 1=(kp:Int):=⟨k - 1,by omega⟩
            have E6:IntKind.i64.wrap (kp:Int)=(kp:Int):=by rw [IntKind.wrap_i64];omega
            obtain ⟨A,B,x1,x2,y1,y2,⟨hA,hB⟩,⟨n1,n2,n3,n4,n5,n6⟩,⟨c1,c2,c3,c4⟩,⟨f1,f2,f3,f4⟩,A2⟩:=A3.out _ B0.out k kp (by omega) (by omega) (by omega)
            have A6:=hZ9 A2
            clear A2
            have jk:(k:Int)<(sz:Int):=by omega
            have E0:(kp:Int)<(sz:Int):=by omega
            go_wp2
            go_region
            all_goals go_wp2
            go_roundg (kp - i)
            case measure=>omega
            case rel=>exact ⟨kp,rfl,by omega,by omega,Nat.le_refl _,A6⟩
          · have C2:¬(i:Int)<(k:Int):=by omega
            go_wp2
            (try simp only [Exit.inBlock,Exit.then])
            refine bodyPost_ret (results_none rfl _ _ _) rfl ?_
            exact ⟨rfl,B0.out⟩
    · have C8:∃q:Nat,(b:Int) - (m:Int)=(q:Int)/\2<=q:=⟨b - m,by omega,by omega⟩
      obtain ⟨r,hr,F5⟩:=C8
      have B3:((r:Int)==1)=false:=by rw [beq_eq_false_iff_ne];omega
      have wr:IntKind.i64.wrap (r:Int)=(r:Int):=by rw [IntKind.wrap_i64];omega
      obtain ⟨mid,D1⟩:∃mid:Nat,((a:Int)+(b:Int)) / 2=(mid:Int):=⟨(a+b) / 2,by omega⟩
      have C7:a<mid:=by omega
      have C9:mid<b:=by omega
      obtain ⟨n,hn⟩:∃n:Nat,(mid:Int)+(m:Int)=(n:Int):=⟨mid+m,by omega⟩
      have wn:IntKind.i64.wrap (n:Int)=(n:Int):=by rw [IntKind.wrap_i64];omega
      obtain ⟨p,hp⟩:∃p:Nat,(n:Int) - 1=(p:Int):=⟨n - 1,by omega⟩
      have wp:IntKind.i64.wrap (p:Int)=(p:Int):=by rw [IntKind.wrap_i64];omega
      by_cases F1:mid<m
      · have E4:(mid:Int)<(m:Int):=by omega
        obtain ⟨s0,C5⟩:∃s0:Nat,(n:Int) - (b:Int)=(s0:Int):=⟨n - b,by omega⟩
        have E8:IntKind.i64.wrap (s0:Int)=(s0:Int):=by rw [IntKind.wrap_i64];omega
        go_enter Tryz.func219,Tryz.ntmps219
        go_wp2
        go_loopg [20,21] (mid - s0) (fun g1 vi vj wr=>∃(s r:Nat),vi=.int .i64 s/\vj=.int .i64 r/\s0<=s/\s<=r/\r<=mid/\r - s<=g1/\Hid (SW w0 blk off sz wr))
        case atStart=>exact ⟨s0,mid,rfl,rfl,Nat.le_refl _,by omega,Nat.le_refl _,Nat.le_refl _,HW⟩
        case round=>
         obtain ⟨s,r,rfl,rfl,A9,D7,B3,C3,HS⟩:=hrel
         by_cases B4:s<r
         · have hz:(s:Int)<(r:Int):=by omega
           obtain ⟨c,hc⟩:∃c:Nat,((s:Int)+(r:Int)) / 2=(c:Int):=⟨(s+r) / 2,by omega⟩
           have B5:s<=c:=by omega
           have E3:c<r:=by omega
           obtain ⟨pc,D6⟩:∃pc:Nat,(p:Int) - (c:Int)=(pc:Int):=⟨p - c,by omega⟩
           have D4:IntKind.i64.wrap (pc:Int)=(pc:Int):=by rw [IntKind.wrap_i64];omega
           obtain ⟨A,x,hA,cA,C0⟩:=A0.out _ HS.out pc (by omega)
           obtain ⟨B,y,hB,cB,B9⟩:=A0.out _ HS.out c (by omega)
           have jp:(pc:Int)<(sz:Int):=by omega
           have jc:(c:Int)<(sz:Int):=by omega
           by_cases A7:cfP x y<0
           · go_wp2_with fail
             go_quiet_grown (first | (go_at_call 171;refine Calls.grown_of (A1.out x y _)))
             go_wp2
             go_roundg (c - s)
             case measure=>omega
             case rel=>exact ⟨s,c,rfl,rfl,A9,B5,by omega,Nat.le_refl _,hZ9 (HS.out.grown nq osq)⟩
           · have D0:decide (cfP x y<0)=false:=decide_eq_false A7
             go_wp2_with fail
             go_quiet_grown (first | (go_at_call 171;refine Calls.grown_of (A1.out x y _)))
             go_wp2
             go_roundg (r - (c+1))
             case measure=>omega
             case rel=>exact ⟨c+1,r,by go_num,rfl,by omega,by omega,B3,Nat.le_refl _,hZ9 (HS.out.grown nq osq)⟩
         · have hz:¬(s:Int)<(r:Int):=by omega
           obtain ⟨e,he⟩:∃e:Nat,(n:Int) - (s:Int)=(e:Int):=⟨n - s,by omega⟩
           have we:IntKind.i64.wrap (e:Int)=(e:Int):=by rw [IntKind.wrap_i64];omega
           have C5:=HS.out
           by_cases k1:s<m <;> by_cases k2:s<mid <;> by_cases k3:a<s <;> by_cases k4:e<b
           all_goals
            first | have z1:decide ((s:Int)<(m:Int))=true:=decide_eq_true (by omega) | have z1:decide ((s:Int)<(m:Int))=false:=decide_eq_false (by omega)
            first | have z2:decide ((s:Int)<(mid:Int))=true:=decide_eq_true (by omega) | have z2:decide ((s:Int)<(mid:Int))=false:=decide_eq_false (by omega)
            first | have z3:decide ((a:Int)<(s:Int))=true:=decide_eq_true (by omega) | have z3:decide ((a:Int)<(s:Int))=false:=decide_eq_false (by omega)
            first | have z4:decide ((e:Int)<(b:Int))=true:=decide_eq_true (by omega) | have z4:decide ((e:Int)<(b:Int))=false:=decide_eq_false (by omega)
            first | have z5:decide ((m:Int)<(e:Int))=true:=decide_eq_true (by omega) | have z5:decide ((m:Int)<(e:Int))=false:=decide_eq_false (by omega)
            first | have z6:decide ((mid:Int)<(e:Int))=true:=decide_eq_true (by omega) | have z6:decide ((mid:Int)<(e:Int))=false:=decide_eq_false (by omega)
            go_wp2_with (first
             | (go_at_call 249;refine (B2.out _ _ _ (by omega) (by omega) (by omega) _ (by assumption)).mono ?_;rintro en w1 ⟨rfl,A9⟩)
             | (go_at_call 219;refine (IH.out _ _ _ (by omega) (by omega) (by omega) (by omega) _ (by assumption)).mono ?_;rintro en w2 ⟨rfl,D2⟩))
            all_goals (go_end0;exact ⟨rfl,by assumption⟩)
      · have E4:¬(mid:Int)<(m:Int):=by omega
        go_enter Tryz.func219,Tryz.ntmps219
        go_wp2
        go_loopg [20,21] (m - a) (fun g1 vi vj wr=>∃(s r:Nat),vi=.int .i64 s/\vj=.int .i64 r/\a<=s/\s<=r/\r<=m/\r - s<=g1/\Hid (SW w0 blk off sz wr))
        case atStart=>exact ⟨a,m,rfl,rfl,Nat.le_refl _,by omega,Nat.le_refl _,Nat.le_refl _,HW⟩
        case round=>
         obtain ⟨s,r,rfl,rfl,A9,D7,B3,C3,HS⟩:=hrel
         by_cases B4:s<r
         · have hz:(s:Int)<(r:Int):=by omega
           obtain ⟨c,hc⟩:∃c:Nat,((s:Int)+(r:Int)) / 2=(c:Int):=⟨(s+r) / 2,by omega⟩
           have B5:s<=c:=by omega
           have E3:c<r:=by omega
           obtain ⟨pc,D6⟩:∃pc:Nat,(p:Int) - (c:Int)=(pc:Int):=⟨p - c,by omega⟩
           have D4:IntKind.i64.wrap (pc:Int)=(pc:Int):=by rw [IntKind.wrap_i64];omega
           obtain ⟨A,x,hA,cA,C0⟩:=A0.out _ HS.out pc (by omega)
           obtain ⟨B,y,hB,cB,B9⟩:=A0.out _ HS.out c (by omega)
           have jp:(pc:Int)<(sz:Int):=by omega
           have jc:(c:Int)<(sz:Int):=by omega
           by_cases A7:cfP x y<0
           · go_wp2_with fail
             go_quiet_grown (first | (go_at_call 171;refine Calls.grown_of (A1.out x y _)))
             go_wp2
             go_roundg (c - s)
             case measure=>omega
             case rel=>exact ⟨s,c,rfl,rfl,A9,B5,by omega,Nat.le_refl _,hZ9 (HS.out.grown nq osq)⟩
           · have D0:decide (cfP x y<0)=false:=decide_eq_false A7
             go_wp2_with fail
             go_quiet_grown (first | (go_at_call 171;refine Calls.grown_of (A1.out x y _)))
             go_wp2
             go_roundg (r - (c+1))
             case measure=>omega
             case rel=>exact ⟨c+1,r,by go_num,rfl,by omega,by omega,B3,Nat.le_refl _,hZ9 (HS.out.grown nq osq)⟩
         · have hz:¬(s:Int)<(r:Int):=by omega
           obtain ⟨e,he⟩:∃e:Nat,(n:Int) - (s:Int)=(e:Int):=⟨n - s,by omega⟩
           have we:IntKind.i64.wrap (e:Int)=(e:Int):=by rw [IntKind.wrap_i64];omega
           have C5:=HS.out
           by_cases k1:s<m <;> by_cases k2:s<mid <;> by_cases k3:a<s <;> by_cases k4:e<b
           all_goals
            first | have z1:decide ((s:Int)<(m:Int))=true:=decide_eq_true (by omega) | have z1:decide ((s:Int)<(m:Int))=false:=decide_eq_false (by omega)
            first | have z2:decide ((s:Int)<(mid:Int))=true:=decide_eq_true (by omega) | have z2:decide ((s:Int)<(mid:Int))=false:=decide_eq_false (by omega)
            first | have z3:decide ((a:Int)<(s:Int))=true:=decide_eq_true (by omega) | have z3:decide ((a:Int)<(s:Int))=false:=decide_eq_false (by omega)
            first | have z4:decide ((e:Int)<(b:Int))=true:=decide_eq_true (by omega) | have z4:decide ((e:Int)<(b:Int))=false:=decide_eq_false (by omega)
            first | have z5:decide ((m:Int)<(e:Int))=true:=decide_eq_true (by omega) | have z5:decide ((m:Int)<(e:Int))=false:=decide_eq_false (by omega)
            first | have z6:decide ((mid:Int)<(e:Int))=true:=decide_eq_true (by omega) | have z6:decide ((mid:Int)<(e:Int))=false:=decide_eq_false (by omega)
            go_wp2_with (first
             | (go_at_call 249;refine (B2.out _ _ _ (by omega) (by omega) (by omega) _ (by assumption)).mono ?_;rintro en w1 ⟨rfl,A9⟩)
             | (go_at_call 219;refine (IH.out _ _ _ (by omega) (by omega) (by omega) (by omega) _ (by assumption)).mono ?_;rintro en w2 ⟨rfl,D2⟩))
            all_goals (go_end0;exact ⟨rfl,by assumption⟩)
end
end Go.Proofs.YtgngjfjaelgaeaaGreatDoor
