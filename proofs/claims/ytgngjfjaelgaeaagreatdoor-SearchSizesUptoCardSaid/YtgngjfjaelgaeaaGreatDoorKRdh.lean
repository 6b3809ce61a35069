/- The walk of slices.SortStableFunc at pairs: up to 20 of them are sorted; more of them stay as many. Conditions: as stated. -/
import Derived.Test.YtgngjfjaelgaeaaGreatDoorKSry
import Derived.Test.YtgngjfjaelgaeaaGreatDoorKFin
set_option maxRecDepth 1000000
set_option maxHeartbeats 8000000
namespace Go.Proofs.YtgngjfjaelgaeaaGreatDoor
section
open Go.Shelf Go.RowKit Go.Lib Go.Sort Go.Proofs
theorem KQ (x y:RdS.Pr):ltOf cfP x y=Op.bytesLess x.1 y.1:=by
 unfold ltOf cfP
 rw [RuS.less_iff]
 have:=RuS.compare_range x.1 y.1
 exact decide_eq_decide.2 ⟨fun h=>by omega,fun h=>by omega⟩
theorem Xj:SWO (ltOf cfP) where
 irrefl x:=by rw [KQ,RuS.less_iff,RuS.compare_self];rfl
 trans x y z h1 h2:=by rw [KQ] at*;exact RdS.KL h1 h2
 ntrans x y z h1 h2:=by rw [KQ] at*;exact RdS.Rk (a:=z) (b:=y) (c:=x) h2 h1
theorem Yq (blk off cap:Nat) (d:Array RdS.Pr) (w:World) (hH:HoldsK AE 2 w blk off d) (hblk:blk<w.heap.size) (hsz:d.size<20):
  Calls Tryz.prog 170 #[.slice (some ⟨blk,off,none⟩) d.size cap,GH] w fun e w'=>e=.returned (.tuple #[])/\∃n os,w'=sortWorldK AE 2 w blk off n (Sort.insertionSort (ltOf cfP) d 0 d.size) os:=by
 have A0:=RN blk off cap 0 d.size d w hH hblk (Nat.zero_le _) (Nat.le_refl _) (by omega)
 generalize Sort.insertionSort (ltOf cfP) d 0 d.size=res at*
 generalize d.size=sz at*
 unfold GH at*
 clear hH
 have A2:Calls Tryz.prog 196 #[.slice (some ⟨blk,off,none⟩) sz cap,.int .i64 sz,.func (.func 171) #[] #[]] w fun e w'=>e=.returned (.tuple #[])/\∃n os,w'=sortWorldK AE 2 w blk off n res os:=by
  have h20:¬(20:Int)<=(sz:Int):=by omega
  have h21:¬(20:Int)<(sz:Int):=by omega
  go_enter Tryz.func196,Tryz.ntmps196
  go_wp2
  refine wp_loop_rounds 1 ?_
  rw [rounds_succ]
  go_wp2_with (go_at_call 218;refine A0.mono ?_;rintro e w1 ⟨rfl,n,os,rfl⟩)
  generalize A1:sortWorldK AE 2 w blk off n res os=w1 at*
  refine wp_loop_rounds 1 ?_
  rw [rounds_succ]
  go_wp2
  go_end0
  exact ⟨rfl,n,os,A1.symm⟩
 go_enter Tryz.func170,Tryz.ntmps170
 go_wp2_with (go_at_call 196;refine A2.mono ?_;rintro e w1 ⟨rfl,hs⟩)
 go_end0
 exact ⟨rfl,hs⟩
theorem UD (w0:World) (blk off cap:Nat) (d:Array RdS.Pr) (hH:HoldsK AE 2 w0 blk off d) (hblk:blk<w0.heap.size) (hsz:d.size<1000000000) (a b:Nat) (A0:a<=b) (hb:b<=d.size) (w:World) (hw:SW w0 blk off d.size w):
  Calls Tryz.prog 218 #[.slice (some ⟨blk,off,none⟩) d.size cap,.int .i64 a,.int .i64 b,GH] w (Swp w0 blk off d.size):=by
 obtain ⟨m,dk,o,hs,rfl⟩:=hw
 have A1:HoldsK AE 2 (sortWorldK AE 2 w0 blk off m dk o) blk off dk:=holdsK_sortWorldK_c AE 2 w0 blk off d dk m o hH hblk hs
 have h:=RN blk off cap a b dk (sortWorldK AE 2 w0 blk off m dk o) A1 (Nat.lt_of_lt_of_le hblk (size_sortWorldK_c AE 2 w0 blk off m dk o)) A0 (by omega) (by omega)
 rw [hs] at h
 refine h.mono ?_
 rintro e w' ⟨rfl,n,os,rfl⟩
 have hp:=(insertionSort_holds Xj dk a b A0 (by omega)).1.1
 refine ⟨rfl,m+n,Sort.insertionSort (ltOf cfP) dk a b,o++os,by rw [<-hs];exact hp,?_⟩
 exact grow_step_growK AE 2 w0 o os m n blk off dk _ hblk hp
theorem Wm (w0:World) (blk off cap:Nat) (d:Array RdS.Pr) (hH:HoldsK AE 2 w0 blk off d) (hblk:blk<w0.heap.size) (hsz:d.size<1000000000) (w:World) (hw:SW w0 blk off d.size w):
  Calls Tryz.prog 196 #[.slice (some ⟨blk,off,none⟩) d.size cap,.int .i64 d.size,GH] w (Swp w0 blk off d.size):=by
 have A3:=fun a b h1 h2 w hw=>UD w0 blk off cap d hH hblk hsz a b h1 h2 w hw
 have A0:=fun a m b h1 h2 h3 w hw=>Zw w0 blk off cap d hH hblk hsz (b - a) a m b (Nat.le_refl _) h1 h2 h3 w hw
 unfold Swp GH at*
 have A2:=hZ9 A3
 have A1:=hZ9 A0
 have HW:=hZ9 hw
 clear A3 A0 hH hw
 generalize d.size=n at*
 go_enter Tryz.func196,Tryz.ntmps196
 go_wp2
 go_loopg [7,8] n (fun g1 va vb wr=>∃(a b:Nat),va=.int .i64 a/\vb=.int .i64 b/\b=a+20/\a<=n/\n - a<=g1/\Hid (SW w0 blk off n wr))
 case atStart=>exact ⟨0,20,rfl,rfl,rfl,Nat.zero_le _,by omega,HW⟩
 case round=>
  obtain ⟨a,b,rfl,rfl,hb,B4,B6,HS⟩:=hrel
  have C2:a<=b:=by omega
  have B9:b<=a+20:=by omega
  have C3:a<b:=by omega
  clear hb
  by_cases B0:b<=n
  · have hz:(b:Int)<=(n:Int):=by omega
    obtain ⟨b2,A8⟩:∃b2:Nat,(b:Int)+20=(b2:Int):=⟨b+20,by omega⟩
    have A9:IntKind.i64.wrap (b2:Int)=(b2:Int):=by rw [IntKind.wrap_i64];omega
    go_wp2_with (go_at_call 218;refine (A2.out a b (by omega) (by omega) _ HS.out).mono ?_;rintro e w1 ⟨rfl,A4⟩)
    go_roundg (n - b)
    case measure=>omega
    case rel=>exact ⟨b,b2,rfl,rfl,by omega,B0,Nat.le_refl _,hZ9 A4⟩
  · have hz:¬(b:Int)<=(n:Int):=by omega
    go_wp2_with (go_at_call 218;refine (A2.out a n (by omega) (by omega) _ HS.out).mono ?_;rintro e w1 ⟨rfl,A4⟩)
    go_loopg [6,7,8,9] n (fun g1 vs va vb vm wr=>∃(s:Nat),vs=.int .i64 s/\1<=s/\s<=2000000000/\n - s<=g1/\Hid (SW w0 blk off n wr))
    case atStart=>exact ⟨20,rfl,by omega,by omega,by omega,hZ9 A4⟩
    case round=>
     obtain ⟨s,rfl,A4,B8,C1,A7⟩:=hrel
     by_cases B3:s<n
     · have B5:(s:Int)<(n:Int):=by omega
       obtain ⟨t,ht⟩:∃t:Nat,(2:Int)*(s:Int)=(t:Int):=⟨2*s,by omega⟩
       have C5:(s:Int)*2=(t:Int):=by omega
       have wt:IntKind.i64.wrap (t:Int)=(t:Int):=by rw [IntKind.wrap_i64];omega
       go_wp2
       go_loopg [7,8] n (fun g1 va vb wr=>∃(a b:Nat),va=.int .i64 a/\vb=.int .i64 b/\b<=a+t/\a+t<=b/\a<=n/\n - a<=g1/\Hid (SW w0 blk off n wr))
       case atStart=>exact ⟨0,t,rfl,rfl,by omega,by omega,Nat.zero_le _,by omega,A7⟩
       case round=>
        obtain ⟨a,b,rfl,rfl,C0,C4,B4,B6,HS⟩:=hrel
        obtain ⟨m,hm⟩:∃m:Nat,(a:Int)+(s:Int)=(m:Int):=⟨a+s,by omega⟩
        have wm:IntKind.i64.wrap (m:Int)=(m:Int):=by rw [IntKind.wrap_i64];omega
        by_cases A5:b<=n
        · have B2:(b:Int)<=(n:Int):=by omega
          obtain ⟨b2,A8⟩:∃b2:Nat,(b:Int)+(t:Int)=(b2:Int):=⟨b+t,by omega⟩
          have A9:IntKind.i64.wrap (b2:Int)=(b2:Int):=by rw [IntKind.wrap_i64];omega
          go_wp2_with (go_at_call 219;refine (A1.out a m b (by omega) (by omega) (by omega) _ HS.out).mono ?_;rintro e w1 ⟨rfl,A6⟩)
          go_roundg (n - b)
          case measure=>omega
          case rel=>exact ⟨b,b2,rfl,rfl,by omega,by omega,A5,Nat.le_refl _,hZ9 A6⟩
        · have B2:¬(b:Int)<=(n:Int):=by omega
          by_cases B1:m<n
          · have B7:(m:Int)<(n:Int):=by omega
            go_wp2_with (go_at_call 219;refine (A1.out a m n (by omega) (by omega) (by omega) _ HS.out).mono ?_;rintro e w1 ⟨rfl,A6⟩)
            go_roundg (n - t)
            case measure=>omega
            case rel=>exact ⟨t,rfl,by omega,by omega,Nat.le_refl _,hZ9 A6⟩
          · have B7:¬(m:Int)<(n:Int):=by omega
            go_wp2
            go_roundg (n - t)
            case measure=>omega
            case rel=>exact ⟨t,rfl,by omega,by omega,Nat.le_refl _,HS⟩
     · have B5:¬(s:Int)<(n:Int):=by omega
       go_wp2
       go_end0
       exact ⟨rfl,A7.out⟩
theorem AaI (w0:World) (blk off cap:Nat) (d:Array RdS.Pr) (hH:HoldsK AE 2 w0 blk off d) (hblk:blk<w0.heap.size) (hsz:d.size<1000000000):
  Calls Tryz.prog 170 #[.slice (some ⟨blk,off,none⟩) d.size cap,GH] w0 (Swp w0 blk off d.size):=by
 have A0:=Wm w0 blk off cap d hH hblk hsz w0 ⟨0,d,#[],rfl,by unfold sortWorldK;rw [grow_empty];exact (putRowK_self AE 2 w0 blk off d hH).symm⟩
 unfold Swp GH at*
 clear hH
 generalize d.size=n at*
 go_enter Tryz.func170,Tryz.ntmps170
 go_wp2_with (go_at_call 196;refine A0.mono ?_;rintro e w1 ⟨rfl,hs⟩)
 go_end0
 exact ⟨rfl,hs⟩
end
section
open Go.Shelf Go.Lib Go.Sort Go.Proofs
theorem Jj (B:Nat) (w:World) (g:Nat) (hg:B<=g) (A0:g<w.heap.size) (m:Nat) (dk:Array RdS.Pr) (os:Array Obj):Go.RowKit.Below B w (sortWorldK AE 2 w g 0 m dk os):=by
 refine ⟨rfl,rfl,rfl,?_,fun k hk=>?_⟩
 · unfold sortWorldK
   rw [size_grow,size_putRowK]
   exact Nat.le_add_right _ _
 · unfold sortWorldK
   rw [heap_grow_old _ _ (by rw [size_putRowK];show k<w.heap.size;omega)]
   show (w.heap.modify g _)[k]?=w.heap[k]?
   rw [Array.getElem?_modify,if_neg (by omega)]
theorem AaJ {w:World} {B g n cap:Nat} {xs:List RdS.Pr} (h:AW 190 w B (.slice (some ⟨g,0,none⟩) n cap) xs) (hn:n=xs.length):HoldsK AE 2 w g 0 xs.toArray:=by
 intro j hj
 rw [size_flatK,List.size_toArray] at hj
 have A3:=World.ownsRow.frozenAt (hn ▸ h) j
 have A2:j / 2<xs.length:=by omega
 have A1:=Ir xs (j / 2) xs[j / 2] (List.getElem?_eq_getElem A2)
 have A0:∀k,(⟨g,0,none⟩:Addr).add k=⟨g,0+k,none⟩:=fun k=>by unfold Addr.add;split <;> simp_all
 rw [get_flatK _ _ _ _ (by rw [List.size_toArray];exact hj)]
 have e:xs.toArray[j / 2]! =xs[j / 2]:=by simp [A2]
 rw [e]
 refine ⟨?_,by rw [Nat.zero_add];exact A3⟩
 rcases Nat.mod_two_eq_zero_or_one j with h0 | h1
 · have c:=World.ownsRow.cells h (g:=g) rfl _ _ A1.1
   rw [A0,show j / 2*2=j from by omega] at c
   rw [c,h0];rfl
 · have c:=World.ownsRow.cells h (g:=g) rfl _ _ A1.2
   rw [A0,show j / 2*2+1=j from by omega] at c
   rw [c,h1];rfl
theorem PE {w:World} {g n cap:Nat} {d:Array RdS.Pr} (h:HoldsK AE 2 w g 0 d) (hn:n=d.size) (hc:n<=cap) (hg:g<w.heap.size):AK w (.slice (some ⟨g,0,none⟩) n cap) d.toList:=by
 refine ⟨some ⟨g,0,none⟩,cap,by rw [hn];simp,by simp;omega,.inr ⟨g,0,rfl,hg,fun j p hj=>?_⟩⟩
 have A0:j<d.size:=by
  have:=(List.getElem?_eq_some_iff.1 hj).1
  simpa using this
 have e:d[j]! =p:=by
  have:=(List.getElem?_eq_some_iff.1 hj).2
  rw [getElem!_pos d j A0]
  simpa using this
 have c0:=h.cell A0 (c:=0) (by decide)
 have c1:=h.cell A0 (c:=1) (by decide)
 rw [e] at c0 c1
 exact ⟨c0.1,c1.1⟩
theorem Wn {d d':Array RdS.Pr} (hp:PermIn 0 d.size d d') (hs:SortedIn (ltOf cfP) 0 d.size d'):d'.toList.Perm d.toList/\d'.toList.Pairwise RdS.le2:=by
 have hsz:=hp.1
 refine ⟨?_,?_⟩
 · have h:=hp.2.2
   rw [Array.extract_size,<-hsz,Array.extract_size] at h
   exact h
 · rw [List.pairwise_iff_getElem]
   intro i j hi hj A0
   have h:=hs i j (Nat.zero_le _) A0 (by simpa [hsz] using hj)
   rw [KQ] at h
   simp only [Array.length_toList] at hi hj
   rw [getElem!_pos d' i hi,getElem!_pos d' j hj] at h
   simpa [RdS.le2] using h
def Tag (T:TypeId) (w:World) (v:Value):Prop:=∀g,v.ownBlock=some g->∃cs fz,w.heap[g]?=some (.cells cs T fz)
theorem Tag.call {T:TypeId} {w w':World} {v:Value} (h:Tag T w v) (hb:Go.RowKit.Below w.heap.size w w'):Tag T w' v:=fun g hg=>by
 obtain ⟨cs,fz,e⟩:=h g hg
 exact ⟨cs,fz,(hb.block g (Array.getElem?_eq_some_iff.1 e).1).trans e⟩
theorem Tag.nil (T:TypeId) (w:World) (n c:Nat):Tag T w (.slice none n c):=fun g h=>by cases h
theorem Tag.own {T:TypeId} {w:World} {B:Nat} {a:Option Addr} {n c:Nat} {xs:List RdS.Pr} (h:AW T w B (.slice a n c) xs) (m:Nat):Tag T w (.slice a m c):=fun g hg=>by
 rcases h.2 with ⟨e,_⟩ | ⟨g',cap,cur,e,_,hh,_⟩
 · cases e;cases hg
 · cases e;cases hg;exact ⟨_,_,hh⟩
theorem SB {w:World} {g:Nat} {cr:Array Value} {T:TypeId} {fz:Nat × Nat} (h:w.heap[g]?=some (.cells cr T fz)) (m:Nat) (dk:Array RdS.Pr) (os:Array Obj):∃cs,(sortWorldK AE 2 w g 0 m dk os).heap[g]?=some (.cells cs T fz):=by
 have A0:=(Array.getElem?_eq_some_iff.1 h).1
 unfold sortWorldK
 rw [heap_grow_old _ _ (by rw [size_putRowK];exact A0)]
 show ∃cs,(w.heap.modify g _)[g]?=_
 rw [Array.getElem?_modify,if_pos rfl,h]
 exact ⟨_,rfl⟩
def Xk (B:Nat) (v:Value) (xs:List RdS.Pr) (w:World) (e:Ending) (w':World):Prop:=
 e=.returned (.tuple #[])/\Go.RowKit.Below B w w'/\∃ys:List RdS.Pr,ys.length=xs.length/\AK w' v ys/\(xs.length<20->ys.Perm xs/\ys.Pairwise RdS.le2)/\Tag 190 w' v
theorem sort_c (B:Nat) (v:Value) (xs:List RdS.Pr) (w:World) (h:AW 190 w B v xs) (h0:xs≠[]) (hl:xs.length<=1000000):
  Calls Tryz.prog 170 #[v,.func (.func 171) #[] #[]] w (Xk B v xs w):=by
 have A6:0<xs.length:=List.length_pos_iff.2 h0
 obtain ⟨g,cap,rfl,hg,A1⟩:=World.ownsRow.form h A6
 have A0:xs.length<=cap/\∃cr,w.heap[g]?=some (.cells cr 190 (0,0)):=by
  rcases h.2 with ⟨e,_⟩ | ⟨g',A8,cr,e,_,hh,hn,_⟩
  · cases e
  · cases e;exact ⟨hn,cr,hh⟩
 obtain ⟨A0,cr,A5⟩:=A0
 have A2:∀m dk os,Tag 190 (sortWorldK AE 2 w g 0 m dk os) (.slice (some ⟨g,0,none⟩) xs.length cap):=fun m dk os g' A9=>by
  cases A9
  obtain ⟨cs,e⟩:=SB A5 m dk os
  exact ⟨cs,_,e⟩
 have hH:=AaJ h rfl
 have hsz:xs.toArray.size=xs.length:=List.size_toArray ..
 by_cases h20:xs.length<20
 · have hc:=Yq g 0 cap xs.toArray w hH A1 (by omega)
   have A4:=insertionSort_holds Xj xs.toArray 0 xs.toArray.size (Nat.zero_le _) (Nat.le_refl _)
   have hp:=Wn A4.1 A4.2
   have A3:=A4.1.1
   generalize Sort.insertionSort (ltOf cfP) xs.toArray 0 xs.toArray.size=d' at*
   rw [hsz] at hc
   refine hc.mono ?_
   rintro e w' ⟨rfl,n,os,rfl⟩
   have A7:=holdsK_sortWorldK_c AE 2 w g 0 xs.toArray d' n os hH A1 A3
   refine ⟨rfl,Jj B w g hg A1 n d' os,d'.toList,by simp [A3],PE A7 (by omega) A0 (Nat.lt_of_lt_of_le A1 (size_sortWorldK_c AE 2 w g 0 n d' os)),fun _=>?_,A2 _ _ _⟩
   simpa using hp
 · have hc:=AaI w g 0 cap xs.toArray hH A1 (by omega)
   rw [hsz] at hc
   refine hc.mono ?_
   rintro e w' ⟨rfl,n,d',os,A3,rfl⟩
   have A7:=holdsK_sortWorldK_c AE 2 w g 0 xs.toArray d' n os hH A1 (by omega)
   exact ⟨rfl,Jj B w g hg A1 n d' os,d'.toList,by simp [A3],PE A7 (by omega) A0 (Nat.lt_of_lt_of_le A1 (size_sortWorldK_c AE 2 w g 0 n d' os)),(fun h=>absurd h h20),A2 _ _ _⟩
end
section
open Go.RowKit
namespace RdS
theorem KR:∀p:List UInt8,(p.contains 61=true->Lib.index p [61]=((nameOf p).length:Int))/\(p.contains 61=false->Lib.index p [61]=-1)
 | []=>⟨fun h=>by simp at h,fun _=>by decide⟩
 | b :: p=>by
  have ih:=KR p
  by_cases hb:b=61
  · subst hb
    exact ⟨fun _=>by rw [RuS.index_cons_eq];simp [nameOf],fun h=>by simp at h⟩
  · have hc:(b :: p).contains 61=p.contains 61:=by
     rw [List.contains_cons]
     have:((61:UInt8)==b)=false:=by simpa using fun e=>hb e.symm
     rw [this,Bool.false_or]
    have hn:nameOf (b :: p)=b :: nameOf p:=by unfold nameOf;rw [List.takeWhile_cons,if_pos (by simpa using hb)]
    rw [hc,hn,RuS.index_cons_ne hb]
    refine ⟨fun h=>?_,fun h=>?_⟩
    · rw [ih.1 h,if_neg (by rw [beq_iff_eq];omega)];simp
    · rw [ih.2 h];rfl
theorem ND (p:List UInt8):p.take (nameOf p).length=nameOf p:=by
 have h:=List.takeWhile_append_dropWhile (p:=fun b:UInt8=>b !=61) (l:=p)
 have h2:p=nameOf p++p.dropWhile (fun b:UInt8=>b !=61):=h.symm
 conv=>lhs;rw [h2]
 rw [List.take_append_of_le_length (Nat.le_of_eq (by congr 1;rw [<-h2]))]
 rw [<-h2];exact List.take_length
theorem Aec {p:List UInt8} (h:p.contains 61=true):Lib.cut p [61]=(nameOf p,p.drop ((nameOf p).length+1),true):=by
 have hi:=(KR p).1 h
 unfold Lib.cut
 rw [hi,if_pos (by omega),Int.toNat_natCast,ND];rfl
theorem AeR {p:List UInt8} (h:p.contains 61=false):Lib.cut p [61]=(p,[],false):=by
 have hi:=(KR p).2 h
 unfold Lib.cut
 rw [hi,if_neg (by decide)]
theorem Yr (p:List UInt8):(nameOf p).length<=p.length:=by
 have:=congrArg List.length (ND p)
 rw [List.length_take] at this;omega
theorem AaK:∀(l:List UInt8) (f:Bool) (v:List UInt8),Az f l=some v->v.length<=l.length:=by
 intro l
 induction h:l.length using Nat.strongRecOn generalizing l with
 | _ n ih=>
  intro f v hv
  match l,h,hv with
  | [],h,hv=>cases hv;simp
  | [c],h,hv=>
   unfold Az at hv
   split at hv
   · cases hv
   · cases hv;simp at h;simp;omega
  | c :: d :: r,h,hv=>
   have hd:(d :: r).length<n:=by rw [<-h];simp
   have hr:r.length<n:=by rw [<-h];simp;omega
   by_cases hc:c=92
   · subst hc
     cases hb:DD d with
     | true=>
      rw [Ee f hb] at hv
      obtain ⟨u,hu,rfl⟩:=Option.map_eq_some_iff.1 hv
      have:=ih _ hr r rfl false u hu
      simp only [List.length_cons] at h⊢;omega
     | false=>
      match r,hr,h,hv with
      | [],hr,h,hv=>rw [ER f hb] at hv;cases hv
      | e :: r,hr,h,hv=>
       cases h1:hexOf d with
       | none=>rw [CP f hb (.inl h1)] at hv;cases hv
       | some x=>
        cases h2:hexOf e with
        | none=>rw [CP f hb (.inr h2)] at hv;cases hv
        | some y=>
         rw [Eo f hb h1 h2] at hv
         obtain ⟨u,hu,rfl⟩:=Option.map_eq_some_iff.1 hv
         have A0:r.length<n:=by rw [<-h];simp;omega
         have:=ih _ A0 r rfl false u hu
         simp only [List.length_cons] at h⊢;omega
   · cases hb:CY f (d :: r).isEmpty c with
     | true=>rw [Jh hc hb] at hv;cases hv
     | false=>
      rw [Hj hc hb] at hv
      obtain ⟨u,hu,rfl⟩:=Option.map_eq_some_iff.1 hv
      have:=ih _ hd (d :: r) rfl false u hu
      simp only [List.length_cons] at h this⊢;omega
theorem readS_len {l v:List UInt8} (h:readS l=some v):v.length<=l.length:=AaK l true v h
end RdS
def Qv (l:List UInt8) (w:World) (e:Ending) (w':World):Prop:=∃v,e=.returned (.tuple #[v,.int .i64 (RdS.AY l).2])/\AK w' v (RdS.AY l).1/\Below w.heap.size w w'
theorem Qv.none {l:List UInt8} {w w':World} (h:RdS.AY l=([],2)) (hb:Below w.heap.size w w'):Qv l w (.returned (.tuple #[.slice none 0 0,.int .i64 2])) w':=by
 refine ⟨.slice Option.none 0 0,?_,?_,hb⟩
 · rw [h]
 · rw [h];exact AK.empty w'
def Ci (T:TypeId) (l:List UInt8) (w:World) (e:Ending) (w':World):Prop:=∃v,e=.returned (.tuple #[v,.int .i64 (RdS.AY l).2])/\AK w' v (RdS.AY l).1/\Below w.heap.size w w'/\Tag T w' v
theorem Ci.plain {l:List UInt8} {w w':World} {e:Ending} {T:TypeId} (h:Ci T l w e w'):Qv l w e w':=by
 obtain ⟨v,h1,h2,h3,_⟩:=h;exact ⟨v,h1,h2,h3⟩
theorem Ci.none {T:TypeId} {l:List UInt8} {w w':World} (h:RdS.AY l=([],2)) (hb:Below w.heap.size w w'):Ci T l w (.returned (.tuple #[.slice Option.none 0 0,.int .i64 2])) w':=by
 refine ⟨.slice Option.none 0 0,?_,?_,hb,Tag.nil _ _ _ _⟩
 · rw [h]
 · rw [h];exact AK.empty w'
def AaL (ps:List (List UInt8)) (w0:World) (out i:Value) (wr:World):Prop:=
 ∃(k:Nat) (qs:List RdS.Pr),k<=ps.length/\i=.int .i64 k/\AW 190 wr w0.heap.size out qs/\qs.length=k/\RdS.CG (ps.take k)=some qs/\(∀q ∈ qs,q.1.length<=17/\q.2.length<=1000000)/\Below w0.heap.size w0 wr
theorem NE {ps:List (List UInt8)} {k:Nat} (h:k<ps.length) {qs:List RdS.Pr} (hq:RdS.CG (ps.take k)=some qs) {a:RdS.Pr} (ha:RdS.BV ps[k]=some a):RdS.CG (ps.take (k+1))=some (qs++[a]):=by
 rw [List.take_succ_eq_append_getElem h,RdS.Ny,hq,ha]
theorem PG {l:List UInt8} {k:Nat} {ps:List (List UInt8)} (A0:RdS.Aj 43 l=ps) (h:k<ps.length) (ha:RdS.BV ps[k]=none):RdS.AY l=([],2):=by
 unfold RdS.AY
 rw [A0,RdS.Nz (List.getElem_mem h) ha]
theorem Xl:(Tryz.prog.info? 190).map (fun i=>(i.zero,i.size,i.bytes))=some (some (.agg #[.string ⟨#[]⟩,.string ⟨#[]⟩]),2,32):=by kernel_rfl
theorem Wp (a:Option Addr) (n c:Nat) (w:World) (hn:3<n) (hl:n<=1000000):Calls Tryz.prog 141 #[.slice a n c] w fun e w'=>e=.returned (.bool false)/\w=w':=by
 have hz:((n:Int)==0)=false:=beq_eq_false_iff_ne.2 (by omega)
 have A0:(3:Int)<(n:Int):=by omega
 go_enter Tryz.func141,Tryz.ntmps141
 go_wp2_with fail
 go_ret
 exact ⟨rfl,rfl⟩
theorem AaM (l:List UInt8) (hl:l.length<=100000) (w:World) (hE:Env w):Calls Tryz.prog 140 #[.string ⟨l.toArray⟩] w (Ci 190 l w):=by
 have C2:=QC l 43 (by omega) (by decide) w
 unfold GI at C2
 have F5:=RdS.Iq (sep:=43) l
 have D3:=RdS.Ei (sep:=43) l
 obtain ⟨p0,G7,D9⟩:=RdS.Cm 43 l
 have C7:Hid (1<=(RdS.Aj 43 l).length):=hZ9 (by rw [D9];simp)
 clear D9
 obtain ⟨ps,D1⟩:∃ps,RdS.Aj 43 l=ps:=⟨_,rfl⟩
 rw [D1] at C2 F5 D3 C7
 have E3:=hZ9 D1
 have F3:=hZ9 D3
 clear D1 D3
 go_enter Tryz.func140,Tryz.ntmps140
 go_wp2_with fail
 refine C2.mono ?_
 rintro e w0 ⟨v,rfl,hv,hb0⟩
 obtain ⟨a,c,rfl,hc,B3⟩:=hv
 generalize hn:ps.length=n at*
 have HN:=hZ9 hn
 have G6:=hE.below hb0
 rcases B3 with rfl | ⟨g,o,rfl,hg,hcell⟩
 · simp at hn;exact absurd C7.out (by rw [<-hn];simp)
 have B9:=hZ9 hcell
 clear hn hcell C2
 go_wp2_with fail
 go_loopw [4,17] (fun out i wr=>AaL ps w0 out i wr) (fun _ i _=>n - (intOf i).toNat)
 case atStart=>exact ⟨0,[],Nat.zero_le _,rfl,AW.empty _ _ _,rfl,rfl,by simp,Below.refl _ _⟩
 case round=>
  obtain ⟨k,qs,hk,rfl,A3,C1,hq,C0,hb⟩:=hrel
  rw [HN.out] at hk
  have hsz:=hb.size
  have A0:Below w.heap.size w wr:=hb0.trans (hb.mono hb0.size)
  have G3:=hE.below A0
  by_cases E9:k<n
  · have A4:k<ps.length:=by rw [HN.out];exact E9
    have G0:wr.cell? ⟨g,o+k,none⟩=some (Ac ps[k]):=(hb.cell (p:=⟨g,o+k,none⟩) hg).trans (B9.out k _ (List.getElem?_eq_getElem A4))
    have H0:=F3.out ps[k] (List.getElem_mem A4)
    have B1:=hZ9 (PG E3.out A4)
    have A8:=hZ9 (fun (a:RdS.Pr)=>NE A4 hq (a:=a))
    have C9:=hZ9 C0
    generalize ps[k]=p at*
    unfold Ac at G0
    clear hq A4 C0
    obtain ⟨m,hm⟩:=G3.maxLen
    have hcut:=Tryz.strings_Cut ⟨p.toArray⟩ ⟨#[61]⟩ m wr (by show p.toArray.size<_;rw [List.size_toArray];omega) hm
    have dp:(⟨p.toArray⟩:ByteArray).data.toList=p:=rfl
    have E4:(⟨#[61]⟩:ByteArray).data.toList=[61]:=rfl
    rw [dp,E4] at hcut
    clear dp E4 hm
    have B4:=fun (nm:List UInt8) (h:nm.length<=1000000) w=>FW ⟨nm.toArray⟩ (by show nm.toArray.size<=_;rw [List.size_toArray];omega) w
    unfold Am at B4
    cases h61:p.contains 61 with
    | false=>
     rw [RdS.AeR h61] at hcut
     have B5:Hid (RdS.AY l=([],2)):=hZ9 (B1.out (by unfold RdS.BV;rw [h61];rfl))
     clear h61 B1
     have ht:=fun w=>B4 p (by omega) w
     clear B4
     generalize RuS.typeOf (⟨p.toArray⟩:ByteArray).data.toList=ty at*
     have A6:=fun w=>WV [] (by simp) w
     unfold BH at A6
     go_wp2_with fail
     refine hcut.mono ?_;rintro e w1 ⟨rfl,nd,rfl⟩
     go_wp2_with fail
     refine (ht _).mono ?_;rintro e w2 ⟨rfl,A1⟩
     go_wp2_with fail
     refine (A6 _).mono ?_;rintro e w3 ⟨rfl,A2⟩
     go_wp2_with fail
     go_ret2
     exact Ci.none B5.out (A0.trans ((Aa (below_drewN wr nd) (Aa A1 A2)).mono A0.size))
    | true=>
     rw [RdS.Aec h61] at hcut
     have HP:Hid (RdS.BV p=if (RuS.typeOf (RdS.nameOf p)).1=[] then none else (RdS.readS (p.drop ((RdS.nameOf p).length+1))).map ((RuS.typeOf (RdS.nameOf p)).1,·)):=hZ9 (by unfold RdS.BV;rw [h61];rfl)
     have F6:=RdS.Yr p
     have E2:(p.drop ((RdS.nameOf p).length+1)).length<=p.length:=by rw [List.length_drop];omega
     have ht:=fun w=>B4 (RdS.nameOf p) (by omega) w
     have dn:(⟨(RdS.nameOf p).toArray⟩:ByteArray).data.toList=RdS.nameOf p:=rfl
     rw [dn] at ht
     have D6:=RuS.typeM_all (RuS.lower (RdS.nameOf p))
     have B2:(RuS.typeOf (RdS.nameOf p)).1.length<=17:=by
      rcases D6 with e | e
      · have:RuS.typeOf (RdS.nameOf p)=([],0):=e
        rw [this];simp
      · exact e.2.2.2
     have A6:=fun w=>WV (p.drop ((RdS.nameOf p).length+1)) (by omega) w
     have D7:=fun v=>RdS.readS_len (l:=p.drop ((RdS.nameOf p).length+1)) (v:=v)
     clear h61 dn D6 B4 F6
     unfold BH at A6
     generalize p.drop ((RdS.nameOf p).length+1)=rest at*
     generalize RuS.typeOf (RdS.nameOf p)=ty at*
     generalize RdS.nameOf p=nm at*
     obtain ⟨t,sy⟩:=ty
     simp only at ht B2
     have G2:=hZ9 E2
     have G4:=hZ9 D7
     clear E2 D7
     cases hr:RdS.readS rest with
     | none=>
      rw [hr] at A6
      have B5:Hid (RdS.AY l=([],2)):=hZ9 (B1.out (by rw [HP.out,hr];split <;> rfl))
      clear hr B1 A8
      go_wp2_with fail
      refine hcut.mono ?_;rintro e w1 ⟨rfl,nd,rfl⟩
      go_wp2_with fail
      refine (ht _).mono ?_;rintro e w2 ⟨rfl,A1⟩
      go_wp2_with fail
      refine (A6 _).mono ?_;rintro e w3 ⟨rfl,A2⟩
      go_wp2_with fail
      go_ret2
      exact Ci.none B5.out (A0.trans ((Aa (below_drewN wr nd) (Aa A1 A2)).mono A0.size))
     | some v=>
      rw [hr] at A6
      have D5:=G4.out v hr
      have HR:=hZ9 hr
      have F0:v.length<=1000000:=by have:=G2.out;omega
      clear hr
      cases D2:t.isEmpty with
      | true=>
       have B5:Hid (RdS.AY l=([],2)):=hZ9 (B1.out (by rw [HP.out,if_pos (by simpa using D2)]))
       have G8:=hZ9 D2
       go_wp2_with fail
       refine hcut.mono ?_;rintro e w1 ⟨rfl,nd,rfl⟩
       go_wp2_with fail
       refine (ht _).mono ?_;rintro e w2 ⟨rfl,A1⟩
       go_wp2_with fail
       refine (A6 _).mono ?_;rintro e w3 ⟨rfl,A2⟩
       go_wp2_with fail
       go_ret2
       exact Ci.none B5.out (A0.trans ((Aa (below_drewN wr nd) (Aa A1 A2)).mono A0.size))
      | false=>
       have E6:=hZ9 (A8.out (t,v) (by rw [HP.out,if_neg (by simpa using D2),HR.out];rfl))
       obtain ⟨i0,hi,E8,F1,G1⟩:=info_parts Xl
       have HI:=hZ9 hi
       have D0:=hZ9 A3
       have H1:qs.length<=1000001:=by omega
       clear B1 A8 hi A3
       go_wp2_with fail
       refine hcut.mono ?_;rintro e w1 ⟨rfl,nd,rfl⟩
       go_wp2_with fail
       refine (ht _).mono ?_;rintro e w2 ⟨rfl,A1⟩
       go_wp2_with fail
       refine (A6 _).mono ?_;rintro e w3 ⟨rfl,A2⟩
       have C8:Below wr.heap.size wr w3:=Aa (below_drewN wr nd) (Aa A1 A2)
       have F9:=C8.size
       go_wp2_with (at_builtin;refine Ix 190 151 Tryz.underlying151 HI.out E8 F1 G1 (by rfl) (by rfl) _ _ (by rfl) w0.heap.size _ qs (by rfl) ((D0.out.call C8).alloc _) w3.heap.size (by rfl) (t,v) ?e1 ?e2 ?e3 ?e4 ?_)
       case e1=>simp [go_sem,Ac]
       case e2=>simp [go_sem,Ac]
       case e3=>omega
       case e4=>simp;omega
       intro v' w4 B8 E7
       go_wp2_with fail
       go_roundw
       case rel=>
        refine ⟨k+1,qs++[(t,v)],by rw [HN.out];omega,by go_num,B8,by simp [C1],E6.out,?_,(hb.trans (C8.mono hsz)).alloc (by omega) _ |>.trans E7⟩
        intro q hq
        rcases List.mem_append.1 hq with hq | hq
        · exact C9.out q hq
        · have:=List.mem_singleton.1 hq;subst this;exact ⟨B2,F0⟩
       case measure=>simp [intOf];omega
  · have F8:k=n:=by omega
    subst F8
    have B6:ps.take k=ps:=List.take_of_length_le (by rw [HN.out];omega)
    rw [B6] at hq
    have C6:Hid (RdS.AY l=if RdS.formedS (RdS.BU qs) then (RdS.BU qs,0) else ([],2)):=hZ9 (by unfold RdS.AY;rw [E3.out,hq])
    have D4:qs≠[]:=by intro h;have:=C7.out;rw [<-C1,h] at this;simp at this
    have A5:=sort_c w0.heap.size _ qs wr A3 D4 (by omega)
    unfold Xk at A5
    obtain ⟨a,cp,rfl⟩:=A3.form
    rw [C1] at A5
    have C9:=hZ9 C0
    clear B6 hq A3 C0
    go_wp2_with fail
    refine A5.mono ?_
    rintro e w1 ⟨rfl,F4,ys,G9,C3,D8,E0⟩
    have G5:=hZ9 E0
    clear E0
    have A1:Below w.heap.size w w1:=A0.trans (F4.mono hb0.size)
    have F2:=hZ9 D8
    clear D8 A5
    by_cases h20:k<20
    · obtain ⟨C5,E5⟩:=F2.out h20
      have E1:=RdS.sort_same C5 E5
      have B7:Es ys:=fun q hq=>by
       have:=C9.out q (C5.mem_iff.1 hq)
       omega
      have A7:=KP _ ys w1 C3 B7 (hE.below A1)
      unfold Ji at A7
      have C4:=hZ9 E1
      have F7:=hZ9 C3
      clear C5 E5 E1 B7 C3
      cases A9:RdS.formedS ys with
      | true=>
       have B0:=hZ9 A9
       rw [A9] at A7
       clear A9
       go_wp2_with fail
       refine A7.mono ?_;rintro e w2 ⟨rfl,A2⟩
       go_wp2_with fail
       go_ret2
       have e1:RdS.AY l=(ys,0):=by rw [C6.out,<-C4.out.1,if_pos B0.out,C4.out.2 B0.out]
       exact ⟨_,by rw [e1];rfl,by rw [e1];exact F7.out.call A2 (Nat.le_refl _),A1.trans (A2.mono A1.size),G5.out.call A2⟩
      | false=>
       have B0:=hZ9 A9
       rw [A9] at A7
       clear A9
       go_wp2_with fail
       refine A7.mono ?_;rintro e w2 ⟨rfl,A2⟩
       go_wp2_with fail
       go_ret2
       exact Ci.none (by rw [C6.out,<-C4.out.1,if_neg (by rw [B0.out];decide)]) (A1.trans (A2.mono A1.size))
    · have A7:=Wp a k cp w1 (by omega) (by omega)
      have B0:Hid (RdS.formedS (RdS.BU qs)=false):=hZ9 (by
       unfold RdS.formedS;rw [RdS.IK,C1,decide_eq_false (show ¬k<=3 by omega)];simp)
      clear C3
      go_wp2_with fail
      refine A7.mono ?_;rintro e w2 ⟨rfl,rfl⟩
      go_wp2_with fail
      go_ret2
      exact Ci.none (by rw [C6.out,if_neg (by rw [B0.out];decide)]) A1
end
end Go.Proofs.YtgngjfjaelgaeaaGreatDoor
