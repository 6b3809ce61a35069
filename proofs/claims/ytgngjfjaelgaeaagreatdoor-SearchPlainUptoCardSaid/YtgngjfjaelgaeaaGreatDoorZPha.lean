/- The walk of the library's LastIndexAny at the two signs: where the last of them stands in any text, whatever its bytes. Conditions: as stated. -/
import Derived.Lib.SpaceUEq
import Derived.Test.YtgngjfjaelgaeaaGreatDoorZMem
set_option maxRecDepth 100000
set_option maxHeartbeats 1000000
namespace Go.Proofs.YtgngjfjaelgaeaaGreatDoor
open Go.Proofs.Tryz
variable {a c r:Int} {x:Nat}
section
open Go.RowKit
theorem AbR{P:Program}{f:FuncId}{args:Array Value}{w:World}{a n:Nat}{v:Value}
  (h:Calls P f args (w.drewN (a+n)) λe w'=>e=.returned v/\w'=w.drewN (a+n)):
  Calls P f args (w.drewN (a+n)) λe b=>e=.returned v/\∃m,b=w.drewN (a+m):=
 h.mono λ_ _ ⟨g,d⟩=>⟨g,n,d⟩
theorem MD(w:World):
  Calls prog 234 #[.string ⟨#[43,45]⟩,.int .i32 65533] w λe w'=>e=.returned (.int .i64 (-1))/\Below w.heap.size w w':=by
 have n0:=run_next_ascii (P:=prog) w ⟨#[43,45]⟩ 0 0 (by decide) (by decide);have d:=run_next_ascii (P:=prog) w ⟨#[43,45]⟩ 1 0 (by decide) (by decide);have b:=run_next_end (P:=prog) w ⟨#[43,45]⟩ 2 0 (by decide);go_enter func234,ntmps234;go_wp2_with fail;refine wp_loop_rounds 4 ?_
 repeat any_goals(rw[rounds_succ];go_wp2_with fail)
 go_ret;exact⟨rfl,(Below.refl _ _).alloc (aA _) _⟩
theorem Uo(r:Int)(c0 c1:UInt8)(h1:128<=r)(h2:r<=2047)(b:Utf8.encode r=⟨#[c0,c1]⟩)(hc:128<=c1.toNat)(w:World):
  Calls prog 234 #[.string ⟨#[43,45]⟩,.int .i32 r] w λe w'=>e=.returned (.int .i64 (-1))/\Below w.heap.size w w':=by
 have h3:(r==65533)=false:=by simp;omega
 have g:Lib.validRune r=true:=aI (by omega);have d:((((⟨#[43,45]⟩:ByteArray)[1]'(by decide)).toNat:Int) !=(((⟨#[c0,c1]⟩:ByteArray)[1]'(by exact fc 1)).toNat:Int))=true:=by
  have:((45:Int) !=(c1.toNat:Int))=true:=by rw[fR];omega
  exact this
 go_enter func234,ntmps234;go_wp2_with fail;refine(utf8_ValidRune r _).mono ?_;rintro e w1 ⟨rfl,rfl⟩;go_wp2_with fail
 go_step3
 go_wp2_with fail;refine wp_loop_rounds 1 ?_;rw[rounds_succ];go_wp2_with fail
 go_step3
 go_wp2_with fail
 go_quiet (fail)
 go_wp2_with fail
 go_quiet ((go_at_call 173;exact AbR (strings_IndexByte _ _ _)))
 have f:∀c,Lib.indexByte [] c=-1:=λ_=>rfl;go_wp2_with fail;simp only[Exit.noGoto_ret,Exit.inBlock,Exit.then];go_ret;exact⟨rfl,below_drewN _ _⟩
theorem Qv(r:Int)(c0 c1 c2:UInt8)(h1:128<=r)(h3:(r==65533)=false)(d:Lib.validRune r=true)(b:Utf8.encode r=⟨#[c0,c1,c2]⟩)(w:World):
  Calls prog 234 #[.string ⟨#[43,45]⟩,.int .i32 r] w λe w'=>e=.returned (.int .i64 (-1))/\Below w.heap.size w w':=by
 go_enter func234,ntmps234;go_wp2_with fail;refine(utf8_ValidRune r _).mono ?_;rintro e w1 ⟨rfl,rfl⟩;go_wp2_with fail
 go_step3
 go_wp2_with fail;refine wp_loop_rounds 1 ?_;rw[rounds_succ];go_wp2_with fail;rw[Exit.noGoto_ret];go_ret;exact⟨rfl,Below.refl _ _⟩
theorem Rx(r:Int)(c0 c1 c2 c3:UInt8)(h1:128<=r)(h3:(r==65533)=false)(d:Lib.validRune r=true)(b:Utf8.encode r=⟨#[c0,c1,c2,c3]⟩)(w:World):
  Calls prog 234 #[.string ⟨#[43,45]⟩,.int .i32 r] w λe w'=>e=.returned (.int .i64 (-1))/\Below w.heap.size w w':=by
 go_enter func234,ntmps234;go_wp2_with fail;refine(utf8_ValidRune r _).mono ?_;rintro e w1 ⟨rfl,rfl⟩;go_wp2_with fail
 go_step3
 go_wp2_with fail;refine wp_loop_rounds 1 ?_;rw[rounds_succ];go_wp2_with fail;rw[Exit.noGoto_ret];go_ret;exact⟨rfl,Below.refl _ _⟩
theorem Ur(r:Int)(h1:128<=r)(h3:(r==65533)=false)(b:Lib.validRune r=false)(w:World):
  Calls prog 234 #[.string ⟨#[43,45]⟩,.int .i32 r] w λe w'=>e=.returned (.int .i64 (-1))/\Below w.heap.size w w':=by
 go_enter func234,ntmps234;go_wp2_with fail;refine(utf8_ValidRune r _).mono ?_;rintro e w1 ⟨rfl,rfl⟩;go_wp2_with fail;go_ret;exact⟨rfl,Below.refl _ _⟩
theorem ZX(h1:128<=r)(h2:r<=2047):∃c0 c1,Utf8.encode r=⟨#[c0,c1]⟩/\128<=c1.toNat:=by
 have b:Utf8.valid r=true:=by unfold Utf8.valid;simp;omega
 refine⟨UInt8.ofNat (0xC0+r.toNat / 64),UInt8.ofNat (0x80+r.toNat % 64),?_,?_⟩
 ·unfold Utf8.encode;simp only[b,bZ];rw[aG (by omega),aJ (by omega)]
 ·rw[bz];omega
theorem VF(h1:2048<=r)(h2:r<=65535)(b:Lib.validRune r=true):∃c0 c1 c2,Utf8.encode r=⟨#[c0,c1,c2]⟩:=by
 have d:=b7 b;have b:Utf8.valid r=true:=by unfold Utf8.valid;simp;omega
 unfold Utf8.encode;simp only[b,bZ];rw[aG (by omega),aG (by omega),aJ (by omega)];exact⟨_,_,_,rfl⟩
theorem XG(h1:65536<=r)(b:Lib.validRune r=true):∃c0 c1 c2 c3,Utf8.encode r=⟨#[c0,c1,c2,c3]⟩:=by
 have d:=b7 b;have b:Utf8.valid r=true:=by unfold Utf8.valid;simp;omega
 unfold Utf8.encode;simp only[b,bZ];rw[aG (by omega),aG (by omega),aG (by omega)];exact⟨_,_,_,_,rfl⟩
theorem Ry(r:Int)(h1:128<=r)(w:World):
  Calls prog 234 #[.string ⟨#[43,45]⟩,.int .i32 r] w λe w'=>e=.returned (.int .i64 (-1))/\Below w.heap.size w w':=by
 by_cases f:r=65533
 ·subst f;exact MD w
 have h3:(r==65533)=false:=aV.2 f;cases d:Lib.validRune r with
 |false=>exact Ur r h1 h3 d w
 |true=>
  by_cases h2:r<=2047
  ·obtain⟨c0,c1,b,hc⟩:=ZX h1 h2;exact Uo r c0 c1 h1 h2 b hc w
  ·by_cases h4:r<=65535
   ·obtain⟨c0,c1,c2,b⟩:=VF (by omega) h4 d;exact Qv r c0 c1 c2 h1 h3 d b w
   ·obtain⟨c0,c1,c2,c3,b⟩:=XG (by omega) d;exact Rx r c0 c1 c2 c3 h1 h3 d b w
theorem KT(c:UInt8)(w:World):
  Calls prog 234 #[.string ⟨#[43,45]⟩,.int .i32 (if c.toNat<128 then c.toNat else 65533)] w λe w'=>(∃n:Int,e=.returned n/\(PhS.isSign c=true->0<=n)/\(PhS.isSign c=false->n<0))/\Below w.heap.size w w':=by
 by_cases hc:c.toNat<128
 ·rw[aJ hc];refine(strings_IndexRune_ascii ⟨#[43,45]⟩ c.toNat w (by omega) (by omega)).mono ?_;rintro e w' ⟨rfl,rfl⟩;refine⟨⟨_,rfl,?_,?_⟩,Below.refl _ _⟩
  ·intro h;unfold PhS.isSign at h;simp only[Int.toNat_natCast];rw[dc,ag,ag] at h;rcases h with rfl|rfl
   ·decide
   ·decide
  ·intro h;unfold PhS.isSign at h;rw[cz,aV,aV] at h;simp only[Int.toNat_natCast];have e:c.toNat.toUInt8=c:=by simp
   have d:((43:UInt8)==c)=false:=aV.2 (λb=>h.1 b.symm);have f:((45:UInt8)==c)=false:=aV.2 (λb=>h.2 b.symm);rw[e];simp[Lib.indexByte,d,f]
 ·rw[aG hc];refine(MD w).mono ?_;rintro e w' ⟨rfl,hb⟩;refine⟨⟨_,rfl,?_,λ_=>by decide⟩,hb⟩;intro h;exfalso;unfold PhS.isSign at h;rw[dc,ag,ag] at h;rcases h with rfl|rfl
  ·exact hc (by decide)
  ·exact hc (by decide)
theorem OB(n e b d b3:Nat)(h:128<=e):128<=(Lib.decodeN n e b d b3).1/\
  ((Lib.decodeN n e b d b3).2=1\/((Lib.decodeN n e b d b3).2=2/\128<=b)\/((Lib.decodeN n e b d b3).2=3/\128<=b/\128<=d)\/((Lib.decodeN n e b d b3).2=4/\128<=b/\128<=d/\128<=b3)):=by
 unfold Lib.decodeN
 repeat' split
 all_goals first|(exfalso;omega)|skip
 all_goals
  refine⟨by show 128<=_;first|omega|decide,?_⟩
  first
   |(left;rfl)
   |(right;left;exact⟨rfl,by omega⟩)
   |(right;right;left;exact⟨rfl,by omega,by omega⟩)
   |(right;right;right;exact⟨rfl,by omega,by omega,by omega⟩)
def Ag2(l:iK):Prop:=∀c∈l,128<=c.toNat
theorem VG{l:iK}(h:∀j,j<l.length->128<=(l.getD j 0).toNat):Ag2 l:=by
 intro c hc;obtain⟨j,b,rfl⟩:=gZ hc;have:=h j b
 rwa [dC,aK b,Option.getD_some] at this
theorem AbS{c:UInt8}(h:128<=c.toNat):PhS.isSign c=false:=by unfold PhS.isSign;rw[cz,aV,aV];exact⟨λe=>by subst e;revert h;decide,λe=>by subst e;revert h;decide⟩
theorem AbT(l:iK)(h:l≠[]):
  (∃c,l.getLast?=some c/\c.toNat<128/\Lib.decodeLastL l=(c.toNat,1))\/
  (128<=(Lib.decodeLastL l).1/\1<=(Lib.decodeLastL l).2/\(Lib.decodeLastL l).2<=l.length/\Ag2 (l.drop (l.length-(Lib.decodeLastL l).2))):=by
 have k:0<l.length:=cY.2 h;have m:l.getLast?=some (l.getD (l.length-1) 0):=by rw[fU,aK (by omega),dC,aK (by omega)];rfl
 by_cases hc:(l.getD (l.length-1) 0).toNat<128
 ·left;refine⟨_,m,hc,?_⟩;unfold Lib.decodeLastL;rw[aG h,aJ hc]
 ·right;have i:=Lib.decodeLastL_width l k;refine⟨?_,i.1,i.2,?_⟩
  all_goals
   unfold Lib.decodeLastL;rw[aG h,aG hc];simp only;have p:=Lib.lastStart_lt' l h;generalize f:l.drop (Lib.lastStart l)=t;have o:t.length=l.length-Lib.lastStart l:=by rw[<-f,bD]
   have d:t.getD (t.length-1) 0=l.getD (l.length-1) 0:=by rw[<-f,Lib.getD_dropU];congr 1;rw[bD];omega
   rw[Lib.decodeL_N];split
  ·rename_i b;by_cases h0:128<=(t.getD 0 0).toNat
   ·exact(OB _ _ _ _ _ h0).1
   ·exfalso;rw[Lib.decodeN_ascii _ _ _ _ _ (by omega)] at b;have:t.length=1:=by simp only at b;omega
    rw[this] at d;rw[d] at h0;omega
  ·show 128<=Utf8.runeError
   decide
  ·rename_i b;by_cases h0:128<=(t.getD 0 0).toNat
   ·have hd:=(OB t.length _ (t.getD 1 0).toNat (t.getD 2 0).toNat (t.getD 3 0).toNat h0).2;have e:l.length-(Lib.decodeN t.length (t.getD 0 0).toNat (t.getD 1 0).toNat (t.getD 2 0).toNat (t.getD 3 0).toNat).2=Lib.lastStart l:=by omega
    rw[e,f];refine VG λj q=>?_;have n:j<(Lib.decodeN t.length (t.getD 0 0).toNat (t.getD 1 0).toNat (t.getD 2 0).toNat (t.getD 3 0).toNat).2:=by omega
    rcases hd with hd|⟨hd,d1⟩|⟨hd,d1,d2⟩|⟨hd,d1,d2,d3⟩
    ·obtain rfl:j=0:=by omega
     exact h0
    ·obtain rfl|rfl:j=0\/j=1:=by omega
     ·exact h0
     ·exact d1
    ·obtain rfl|rfl|rfl:j=0\/j=1\/j=2:=by omega
     ·exact h0
     ·exact d1
     ·exact d2
    ·obtain rfl|rfl|rfl|rfl:j=0\/j=1\/j=2\/j=3:=by omega
     ·exact h0
     ·exact d1
     ·exact d2
     ·exact d3
   ·exfalso;rw[Lib.decodeN_ascii _ _ _ _ _ (by omega)] at b;have:t.length=1:=by simp only at b;omega
    rw[this] at d;rw[d] at h0;omega
  ·rw[Lib.drop_last1 l k];intro c g;have:c=l.getD (l.length-1) 0:=by simpa using g
   subst this;omega
theorem ZY(l:iK)(h:l≠[]):1<=(Lib.decodeLastL l).2/\(Lib.decodeLastL l).2<=l.length/\
  ((∃c:UInt8,Lib.decodeLastL l=(c.toNat,1)/\c.toNat<128/\PhS.lastW PhS.isSign l=if PhS.isSign c then((l.length-1:Nat):Int) else PhS.lastW PhS.isSign (l.take (l.length-1)))\/
   (128<=(Lib.decodeLastL l).1/\PhS.lastW PhS.isSign l=PhS.lastW PhS.isSign (l.take (l.length-(Lib.decodeLastL l).2)))):=by
 rcases AbT l h with⟨c,d,hc,hd⟩|⟨h1,h2,h3,h4⟩
 ·have b:0<l.length:=cY.2 h;refine⟨by rw[hd];exact aA _,by rw[hd];exact b,.inl ⟨c,hd,hc,?_⟩⟩;obtain⟨ys,rfl⟩:=eG.1 d;rw[PhS.lastW_snoc];simp
 ·refine⟨h2,h3,.inr ⟨h1,?_⟩⟩
  conv=>lhs;rw[<-cK (l.length-(Lib.decodeLastL l).2) l]
  exact PhS.lastW_append_none _ _ _ λc hc=>AbS (h4 c hc)
end
section
open Go.RowKit
def Nn(s:ByteArray)(w:World)(e:Ending)(w':World):Prop:=e=.returned (.int .i64 (PhS.lastW PhS.isSign s.data.toList))/\Below w.heap.size w w'
theorem AbU(s:ByteArray)(h:s.size=1)(h0:0<s.size):PhS.lastW PhS.isSign s.data.toList=if PhS.isSign s[0] then 0 else -1:=by
 have b:s.data.toList=[s[0]]:=by
  apply fq
  ·simpa using h
  ·intro i h1 h2;have:i=0:=by simp at h2;exact h2
   subst this;rfl
 rw[b];unfold PhS.lastW;simp[PhS.lastW]
theorem Af0(s:ByteArray)(h:s.size=1)(w:World):
  Calls prog 207 #[.string s,.string ⟨#[43,45]⟩] w (Nn s w):=by
 have h0:0<s.size:=by omega
 have i:=hZ9 (AbU s h h0);have hb:=KT s[0];have h256:s[0].toNat<256:=UInt8.toNat_lt _;by_cases hc:s[0].toNat<128
 all_goals
  first|simp only[aJ hc] at hb|simp only[aG hc] at hb
  go_enter func207,ntmps207;go_wp2_with fail;refine(hb _).mono ?_;rintro e w1 ⟨⟨n,rfl,d,b⟩,f⟩;by_cases g:PhS.isSign s[0]=true
  ·have j:=d g;clear d b;go_wp2_with fail;go_ret;exact⟨by rw[i.out,aJ g];rfl,f⟩
  ·have j:=b (by simpa using g);clear d b;go_wp2_with fail;go_ret;exact⟨by rw[i.out,aG g];rfl,f⟩
def Af1(s:ByteArray)(w:World)(i:Value)(w':World):Prop:=
 ∃k:Nat,k<=s.size/\i=.int .i64 k/\Env w'/\Below w.heap.size w w'/\Hid (PhS.lastW PhS.isSign (s.data.toList.take k)=PhS.lastW PhS.isSign s.data.toList)
theorem Af2(s:ByteArray)(h:¬s.size=1)(h8:s.size<=8)(w:World)(hE:Env w):
  Calls prog 207 #[.string s,.string ⟨#[43,45]⟩] w (Nn s w):=by
 have H:¬8<s.size:=by omega
 go_enter func207,ntmps207;go_wp2_with fail;refine(strings_shouldUseASCIISet _ _).mono ?_;rintro e w1 ⟨rfl,E⟩;subst E;go_wp2_with fail;go_loopw [13] (λi w'=>Af1 s w1 i w') (λi _=>(intOf i).toNat)
 case atStart=>exact⟨s.size,aA _,rfl,hE,Below.refl _ _,hZ9 (by rw[af (by simp)])⟩
 case round=>
  obtain⟨k,hk,rfl,o,l,z⟩:=hrel;by_cases N:0<k
  ·have b:=ZY (s.extract 0 k).data.toList (by intro J;have:=congrArg List.length J;rw[aS,Array.length_toList,ByteArray.size_data,df] at this;omega);have v:(s.extract 0 k).size<=9223372036854775807:=by simp;omega
   have f:=utf8_DecodeLastRuneInString (s.extract 0 k) wr v o.utf;have t:(s.extract 0 k).data.toList=s.data.toList.take k:=by simp
   rw[t] at b f;have hlen:(s.data.toList.take k).length=k:=by simp;omega
   rw[hlen] at b;generalize Lib.decodeLastL (s.data.toList.take k)=d at b f;obtain⟨r,n⟩:=d;simp only at b f;obtain⟨G,K,b⟩:=b;have p:∀m,m<=k->(s.data.toList.take k).take m=s.data.toList.take m:=λm q=>by rw[List.take_take,cO q]
   rw[p _ (by omega),p _ (by omega)] at b;have C:=hZ9 b;clear b hlen t p v;have F:IntKind.i64.wrap ((k:Int)-n)=(k:Int)-n:=Go.IntWalk.i64_in _ (by omega);go_wp2_with fail;refine f.mono ?_;rintro e w2 ⟨rfl,j⟩;rcases C.out with⟨c,hd,hc,y⟩|⟨I,y⟩
   ·have A:=hZ9 y;clear y;simp only[bT] at hd;obtain⟨rfl,rfl⟩:=hd;have hb:=KT c;simp only[aJ hc] at hb;go_wp2_with fail;refine(hb _).mono ?_;rintro e w3 ⟨⟨n,rfl,hp,q⟩,g⟩;by_cases B:PhS.isSign c=true
    ·have L:=hp B;clear hp q;go_wp2_with fail;go_ret;refine⟨?_,Aa l (Aa j g)⟩;rw[<-z.out,A.out,aJ B];rw[show ((k-1:Nat):Int)=(k:Int)-1 by omega];rfl
    ·have L:=q (by simpa using B);clear hp q;go_wp2_with fail;go_roundw
     case rel=>refine⟨k-1,by omega,by rw[show ((k-1:Nat):Int)=(k:Int)-1 by omega],(o.below j).below g,Aa l (Aa j g),hZ9 ?_⟩;rw[<-z.out,A.out,aG B]
     case measure=>simp[intOf];omega
   ·have A:=hZ9 y;clear y;go_wp2_with fail;refine(Ry _ (by exact_mod_cast I) _).mono ?_;rintro e w3 ⟨rfl,g⟩;go_wp2_with fail;go_roundw
    case rel=>refine⟨k-n,by omega,by rw[show ((k-n:Nat):Int)=(k:Int)-n by omega],(o.below j).below g,Aa l (Aa j g),hZ9 ?_⟩;rw[<-z.out,A.out]
    case measure=>simp[intOf];omega
  ·have u:k=0:=by omega
   subst u;have M:Hid (PhS.lastW PhS.isSign s.data.toList=-1):=hZ9 (by rw[<-z.out];rfl);go_wp2_with fail;go_ret;exact⟨by rw[M.out];rfl,l⟩
def Af3(s:ByteArray)(i:Value):Prop:=
 ∃k:Nat,k<=s.size/\i=.int .i64 ((k:Int)-1)/\Hid (PhS.lastW PhS.isSign (s.data.toList.take k)=PhS.lastW PhS.isSign s.data.toList)
theorem Us(c:UInt8):([43,45]:iK).contains c=PhS.isSign c:=by unfold PhS.isSign;rw[fH,fH,List.contains_nil,fJ]
theorem YI:(prog.info? 267).map (λi=>(i.zero,i.size))=some (some (.agg (Array.replicate 256 (.bool false))),256):=by kernel_rfl
theorem OC(w:World)(a b:Obj):Below w.heap.size w ((w.alloc a).alloc b):=((Below.refl _ _).alloc (aA _) _).alloc (aX (aA _) ((Below.refl _ _).alloc (aA _) _).size) _
theorem AdY(s:ByteArray)(h8:8<s.size)(hsz:s.size<=281474976710656)(w:World):
  Calls prog 207 #[.string s,.string ⟨#[43,45]⟩] w (Nn s w):=by
 have h1:¬s.size=1:=by omega
 have f:Hid (∀x:UInt8,(Lib.setCells [43,45])[x.toNat]?=some (.bool (PhS.isSign x))):=hZ9 λx=>by rw[Lib.setCells_at,Us]
 go_enter func207,ntmps207;go_wp2_with fail;refine(strings_shouldUseASCIISet _ _).mono ?_;rintro e w1 ⟨rfl,q⟩;subst q;have g:=strings_makeASCIISet (zero_of_info YI).1 ⟨#[43,45]⟩ w1 (by decide) (by
  intro j b h
  match j with
  |0=>simp at h;subst h;decide
  |1=>simp at h;subst h;decide
  |j+2=>simp at h)
 have m:(storeCells ⟨w1.heap.size+1,0,none⟩ (Lib.setCells [43,45]).toList 0).run prog ((w1.alloc (.cells (Lib.setCells [43,45]) 267)).alloc (.cells (Array.replicate 256 (.bool false)) 267))=.ok () ((w1.alloc (.cells (Lib.setCells [43,45]) 267)).alloc (.cells (Lib.setCells [43,45]) 267)):=by
  have:=run_storeCells_new (P:=prog) (w1.alloc (.cells (Lib.setCells [43,45]) 267)) 267 (Array.replicate 256 (.bool false)) (Lib.setCells [43,45]) (by rw[Lib.setCells_size];exact(zero_of_info YI).2) (by rw[Lib.setCells_size,Array.size_replicate]) (Lib.setCells_one _)
  simpa using this
 have hcell:∀x:UInt8,((w1.alloc (.cells (Lib.setCells [43,45]) 267)).alloc (.cells (Lib.setCells [43,45]) 267)).cell? ⟨w1.heap.size+1,x.toNat,none⟩=some (.bool (PhS.isSign x)):=λx=>by rw[World.cell?_alloc_at _ _ _ _ (by simp)];exact f.out x
 have B:=hZ9 hcell;clear hcell f;go_wp2_with fail;refine g.mono ?_;rintro e w2 ⟨rfl,t⟩;subst t;go_wp2_with fail;rw[show zeroCells267=Array.replicate 256 (Value.bool false) by kernel_rfl];simp only[m,Result.andThen];rw[Oper.upon_skip];clear m g;go_wp2_with fail;go_loop [8] (λi=>Af3 s i) (λi=>(intOf i+1).toNat)
 case atStart=>exact⟨s.size,aA _,rfl,hZ9 (by rw[af (by simp)])⟩
 case round=>
  obtain⟨k,hk,rfl,n⟩:=hrel;by_cases z:0<k
  ·have y:0<=(k:Int)-1:=by omega
   have d:=asciiSet_contains (w1.heap.size+1) s[k-1] (PhS.isSign s[k-1]) _ (B.out _);have v:((k:Int)-1).toNat=k-1:=by omega
   have p:Hid (PhS.lastW PhS.isSign (s.data.toList.take k)=if PhS.isSign s[k-1] then((k-1:Nat):Int) else PhS.lastW PhS.isSign (s.data.toList.take (k-1))):=hZ9 (by
    have:=PhS.take_snoc s (k-1) (by omega);rw[show k-1+1=k by omega] at this;rw[this,PhS.lastW_snoc,ar,Array.length_toList,ByteArray.size_data,cO (by omega)])
   generalize o:PhS.isSign s[k-1]=sg at d p;clear o;go_wp2_with fail;refine d.mono ?_;rintro e w3 ⟨rfl,u⟩;subst u;cases sg with
   |true=>go_wp2_with fail;go_ret;refine⟨?_,OC _ _ _⟩;rw[<-n.out,p.out,show ((k-1:Nat):Int)=(k:Int)-1 by omega];simp only[bZ];rfl
   |false=>
    go_wp2_with fail;go_round
    case rel=>exact⟨k-1,by omega,by rw[show ((k-1:Nat):Int)=(k:Int)-1 by omega],hZ9 (by rw[<-n.out,p.out];rfl)⟩
    case measure=>simp[intOf];omega
  ·have l:k=0:=by omega
   subst l;have A:Hid (PhS.lastW PhS.isSign s.data.toList=-1):=hZ9 (by rw[<-n.out];rfl);go_wp2_with fail;go_ret;exact⟨by rw[A.out];rfl,OC _ _ _⟩
theorem VH(s:ByteArray)(hsz:s.size<=281474976710656)(w:World)(hE:Env w):
  Calls prog 207 #[.string s,.string ⟨#[43,45]⟩] w (Nn s w):=by
 by_cases h1:s.size=1
 ·exact Af0 s h1 w
 ·by_cases h8:8<s.size
  ·exact AdY s h8 hsz w
  ·exact Af2 s h1 (by omega) w hE
end
section
open Go.RowKit
def Wd(x:Nat):Prop:=x<2 ^ 64
def neg(x:Nat):Bool:=decide (2 ^ 63<=x)
def GH(x:Nat):Nat:=x % 2 ^ 63
theorem AdZ(x:Nat)(w:World):∃y w',(callFunc 280 #[.float .f64 x]).run prog w=.ok (.value (.float .f64 y)) w'/\Below w.heap.size w w'/\(FloatKind.f64.format.order x y==some .eq)=Fl.whole x:=by
 have h:=run_callFunc_extern (P:=prog) (f:=280) func280 (by kernel_rfl) rfl (by kernel_rfl) (e:=Extern.MathFloor.toIntegral "math.archTrunc" .zero) (by kernel_rfl) #[.float .f64 x] w
 rw[h];have key:Extern.MathFloor.toIntegral "math.archTrunc" .zero #[.float .f64 x]=(match Ieee.double.read x with
  | .nan s t=>
   if FloatKind.f64.format.quiet t=t then pure (.float .f64 x) else do
   let kept<-choose (.extern "math.Floor,Ceil,Trunc,RoundToEven.signallingNaN kept" 2)
   pure (.float .f64 (if kept==1 then x else FloatKind.f64.encode (.nan s (FloatKind.f64.format.quiet t))))
  |d=>pure (.float .f64 (FloatKind.f64.encode (d.integral .zero)))):=rfl
 rw[key];unfold Fl.whole;cases g:Ieee.double.read x with
 |nan s t=>
  have b:∀y,(FloatKind.f64.format.order x y==some Ordering.eq)=false:=by
   intro y;show (Ieee.double.order x y==some Ordering.eq)=false
   unfold Ieee.Format.order;rw[g];rfl
  simp only;split
  ·exact⟨x,w,rfl,Below.refl _ _,b x⟩
  ·exact⟨_,_,rfl,(Below.refl _ _).drew,b _⟩
 |infinity s=>exact⟨_,w,rfl,Below.refl _ _,rfl⟩
 |number s m e=>exact⟨_,w,rfl,Below.refl _ _,rfl⟩
theorem VI(x:Nat)(w:World):(callFunc 283 #[.float .f64 x]).run prog w=.ok (.value (.int .u64 x)) w:=by rw[run_callFunc_extern (P:=prog) (f:=283) func283 (by kernel_rfl) rfl (by kernel_rfl) (e:=Extern.MathFloatBits.float64bits) (by kernel_rfl) #[.float .f64 x] w];rfl
theorem Aea(x:Int)(w:World):(callFunc 282 #[.int .u64 x]).run prog w=.ok (.value (.float .f64 x.toNat)) w:=by rw[run_callFunc_extern (P:=prog) (f:=282) func282 (by kernel_rfl) rfl (by kernel_rfl) (e:=Extern.MathFloatBits.float64frombits) (by kernel_rfl) #[.int .u64 x] w];rfl
theorem Aeb(hx:Wd x):decide (wrap64 (x:Int)<0)=neg x:=by unfold Wd at hx;unfold neg wrap64;rw[bM];omega
theorem Aec(hx:Wd x):(bits BinOp.andNot IntKind.u64 (x:Int) 9223372036854775808).toNat=GH x:=by
 unfold Wd at hx;unfold GH;rw[u64_andNot _ _ (by omega) (by omega) (by omega) (by omega)];have e:(18446744073709551615-(9223372036854775808:Int).toNat)=2 ^ 63-1:=by decide
 rw[e,Int.toNat_natCast,Int.toNat_natCast,Nat.and_two_pow_sub_one_eq_mod]
theorem SK(x:Nat)(hx:Wd x)(w:World):
  Calls prog 279 #[.float .f64 x] w λe w'=>e=.returned (.bool (neg x))/\w=w':=by
 have h:=VI x w;go_enter func279,ntmps279
 go_wp2
 go_ret;exact⟨congrArg (λb=>Ending.returned (.bool b)) (Aeb hx),rfl⟩
theorem UJ(x:Nat)(hx:Wd x)(w:World):
  Calls prog 278 #[.float .f64 x] w λe w'=>e=.returned (.float .f64 (GH x))/\w=w':=by
 have h:=VI x w;have h2:=λy=>Aea y w;go_enter func278,ntmps278
 go_wp2
 go_ret;exact⟨congrArg (λb=>Ending.returned (.float .f64 b)) (Aec hx),rfl⟩
theorem KU(x:Nat)(w:World):
  Calls prog 277 #[.float .f64 x] w λe w'=>∃y,e=.returned (.float .f64 y)/\Below w.heap.size w w'/\(FloatKind.f64.format.order x y==some .eq)=Fl.whole x:=by
 obtain⟨y,w1,h,hb,b⟩:=AdZ x w;go_enter func277,ntmps277
 go_wp2
 go_ret;exact⟨y,rfl,hb,b⟩
def okB(x:Nat):Bool:=(Fl.numOf x).isSome
theorem YJ(hx:Wd x)(g:Fl.whole x=true)(f:FloatKind.f64.format.order (GH x) 4696837146684686336=some .lt\/FloatKind.f64.format.order (GH x) 4696837146684686336=some .eq)
  (e:FloatKind.f64.format.order x 0≠some .eq\/neg x=false):okB x=true:=by
 have d:Fl.dbl.order x 0≠some .eq\/x<2 ^ 63:=by
  rcases e with h|h
  ·exact .inl h
  ·right;unfold neg at h;have:=bf h;omega
 obtain⟨n,i⟩:=Fl.part_yes (b:=x) hx g (by rw[Fl.D_million];exact f) d;unfold okB;rw[i];rfl
theorem VJ(h:Fl.whole x=false\/(FloatKind.f64.format.order (GH x) 4696837146684686336≠some .lt/\FloatKind.f64.format.order (GH x) 4696837146684686336≠some .eq)\/(FloatKind.f64.format.order x 0=some .eq/\neg x=true)):okB x=false:=by
 cases b:okB x with
 |false=>rfl
 |true=>
  exfalso;unfold okB at b;obtain⟨n,d⟩:=ft.1 b;obtain⟨h1,rfl⟩:=Fl.numOf_some d;obtain⟨p1,p2,p3⟩:=Fl.part_num h1;rw[Fl.D_million] at p2;rcases h with h|h|h
  ·rw[p1] at h;cases h
  ·rcases p2 with p2|p2
   ·exact h.1 p2
   ·exact h.2 p2
  ·rcases p3 with p3|p3
   ·exact p3 h.1
   ·have:=h.2;unfold neg at this;have:=b7 this;omega
theorem Rz{a b:Bool}(h:a=b):Ending.returned a=Ending.returned b:=by rw[h]
theorem VK(x:Nat)(hx:Wd x)(w:World):
  Calls prog 267 #[.float .f64 x] w λe w'=>e=.returned (.bool (okB x))/\Below w.heap.size w w':=by
 cases l:Fl.whole x with
 |false=>
  have i:=VJ (.inl l);go_enter func267,ntmps267;go_wp2_with (first
   |(go_at_call 277;refine(KU x _).mono ?_;rintro e w1 ⟨y,rfl,b,k⟩))
  go_ret;exact⟨Rz i.symm,b⟩
 |true=>
  by_cases f:FloatKind.f64.format.order (GH x) 4696837146684686336=some .lt\/FloatKind.f64.format.order (GH x) 4696837146684686336=some .eq
  ·have m:(FloatKind.f64.format.order (GH x) 4696837146684686336==some .lt||FloatKind.f64.format.order (GH x) 4696837146684686336==some .eq)=true:=by
    rcases f with h|h<;>rw[h]<;>rfl
   cases n:(FloatKind.f64.format.order x 0 !=some .eq) with
   |true=>
    have d:=YJ hx l f (.inl (by simpa using n));clear f;go_enter func267,ntmps267;go_wp2_with (first
     |(go_at_call 277;refine(KU x _).mono ?_;rintro e w1 ⟨y,rfl,b,k⟩)
     |(go_at_call 278;refine(UJ x hx _).mono ?_;rintro e w2 ⟨rfl,rfl⟩))
    go_ret;exact⟨Rz d.symm,b⟩
   |false=>
    have j:FloatKind.f64.format.order x 0=some .eq:=by simpa using n
    cases o:neg x with
    |false=>
     have d:=YJ hx l f (.inr o);clear f j;go_enter func267,ntmps267;go_wp2_with (first
      |(go_at_call 277;refine(KU x _).mono ?_;rintro e w1 ⟨y,rfl,b,k⟩)
      |(go_at_call 278;refine(UJ x hx _).mono ?_;rintro e w2 ⟨rfl,rfl⟩)
      |(go_at_call 279;refine(SK x hx _).mono ?_;rintro e w3 ⟨rfl,rfl⟩))
     go_ret;exact⟨Rz d.symm,b⟩
    |true=>
     have d:=VJ (.inr (.inr ⟨j,o⟩));clear f j;go_enter func267,ntmps267;go_wp2_with (first
      |(go_at_call 277;refine(KU x _).mono ?_;rintro e w1 ⟨y,rfl,b,k⟩)
      |(go_at_call 278;refine(UJ x hx _).mono ?_;rintro e w2 ⟨rfl,rfl⟩)
      |(go_at_call 279;refine(SK x hx _).mono ?_;rintro e w3 ⟨rfl,rfl⟩))
     go_ret;exact⟨Rz d.symm,b⟩
  ·have g:FloatKind.f64.format.order (GH x) 4696837146684686336≠some .lt/\FloatKind.f64.format.order (GH x) 4696837146684686336≠some .eq:=⟨λh=>f (.inl h),λh=>f (.inr h)⟩
   have m:(FloatKind.f64.format.order (GH x) 4696837146684686336==some .lt||FloatKind.f64.format.order (GH x) 4696837146684686336==some .eq)=false:=by simp[g.1,g.2]
   have i:=VJ (.inr (.inl g));clear f g;go_enter func267,ntmps267;go_wp2_with (first
    |(go_at_call 277;refine(KU x _).mono ?_;rintro e w1 ⟨y,rfl,b,k⟩)
    |(go_at_call 278;refine(UJ x hx _).mono ?_;rintro e w2 ⟨rfl,rfl⟩))
   go_ret;exact⟨Rz i.symm,b⟩
end
section
open Go.RowKit
theorem ZZ(b:a.natAbs<=1000000)(hc:c.natAbs<=1000000):FloatKind.f64.format.order (Fl.D a) (Fl.D c)=some (compare a c):=Fl.order_W (Fl.isW_D a) (Fl.isW_D c) (by omega) (by omega)
theorem Qw(b:a.natAbs<=1000000)(hc:c.natAbs<=1000000):(FloatKind.f64.format.order (Fl.D a) (Fl.D c)==some .eq)=decide (a=c):=by
 rw[ZZ b hc];by_cases h:a=c
 ·subst h;rw[Fl.compare_self'];simp
 ·have:compare a c≠.eq:=λe=>h (Fl.compare_eq e);simp[h,this]
theorem Afb(b:a.natAbs<=1000000)(hc:c.natAbs<=1000000):(FloatKind.f64.format.order (Fl.D a) (Fl.D c)==some .gt)=decide (c<a):=by
 rw[ZZ b hc];rcases cJ a c with h|h|h
 ·rw[Fl.cmp_lt h];simp;omega
 ·subst h;rw[Fl.compare_self'];simp
 ·rw[Fl.cmp_gt h];simp[h]
theorem Ek(b:a.natAbs<=1000000):okB (Fl.D a)=true:=by unfold okB;rw[Fl.numOf_D b];rfl
theorem DX(b:a.natAbs<2 ^ 53):Wd (Fl.D a):=Fl.D_lt a b
theorem RA(e:a.natAbs<=1000000):floatToIntVal .f64 (Fl.D a) .i64=some a:=by unfold floatToIntVal;have h:(FloatKind.f64.decode (Fl.D a)).toInt .zero=some a:=Fl.toInt_val (Fl.read_D a (by omega)).val;rw[h];have b:IntKind.i64.min=-9223372036854775808:=rfl;have d:IntKind.i64.max=9223372036854775807:=rfl;simp only;rw[b,d,aJ (by omega)]
theorem DR(a b:Nat)(g:Wd a)(hb:Wd b)(w:World):
  Calls prog 239 #[.complex .f64 a b] w λe w'=>e=.returned (.bool (okB a&&okB b))/\Below w.heap.size w w':=by
 cases h1:okB a with
 |false=>
  go_enter func239,ntmps239;go_wp2_with (first
   |(go_at_call 267;refine(VK a g _).mono ?_;rintro e w1 ⟨rfl,d⟩))
  go_ret;exact⟨rfl,d⟩
 |true=>go_enter func239,ntmps239;go_wp2_with fail;refine(VK a g _).mono ?_;rintro e w1 ⟨rfl,d⟩;go_wp2_with fail;refine(VK b hb _).mono ?_;rintro e w2 ⟨rfl,f⟩;go_wp2_with fail;go_ret;exact⟨rfl,Aa d f⟩
theorem DZ(n:Int)(d:n.natAbs<=1000000)(w:World)(hE:Env w):
  Calls prog 240 #[.float .f64 (Fl.D n)] w λe w'=>e=.returned (.string ⟨(Lib.itoa n).toArray⟩)/\Below w.heap.size w w':=by
 have f:=λw=>run_convert_float_int (P:=prog) w 241 2 .f64 .i64 (Fl.D n) n (by kernel_rfl) underlying2 (RA d);go_enter func240,ntmps240;go_wp2_with (first
  |(go_at_call 184;refine(KO n (by omega) (by omega) _ hE).mono ?_;rintro e w1 ⟨rfl,b⟩))
 go_ret;exact⟨rfl,b⟩
theorem Aed(a b:Nat)(f:Wd a)(hb:Wd b)(h:(okB a&&okB b)=false)(w:World):
  Calls prog 209 #[.complex .f64 a b] w λe w'=>e=.returned (.tuple #[.string ⟨#[]⟩,.int .i64 1])/\Below w.heap.size w w':=by
 go_enter func209,ntmps209;go_wp2_with (first
  |(go_at_call 239;refine(DR a b f hb _).mono ?_;rintro e w1 ⟨rfl,d⟩))
 go_ret2;exact⟨rfl,d⟩
theorem Aaa(a:Int)(f:a.natAbs<=1000000)(w:World)(hE:Env w):
  Calls prog 209 #[.complex .f64 (Fl.D a) (Fl.D 0)] w λe w'=>e=.returned (.tuple #[.string ⟨(PhS.text a 0).toArray⟩,.int .i64 0])/\Below w.heap.size w w':=by
 have g:=Ek f;have h:okB (Fl.D 0)=true:=Ek (by decide);have h0:(FloatKind.f64.format.order (Fl.D 0) 0==some .eq)=true:=by have:=Qw (a:=0) (c:=0) (by decide) (by decide);rw[Fl.D_zero] at this⊢;exact this
 go_enter func209,ntmps209;go_wp2_with (first
  |(go_at_call 239;refine(DR _ _ (DX (by omega)) (DX (by decide)) _).mono ?_;rintro e w1 ⟨rfl,b⟩)
  |(go_at_call 240;refine(DZ a f _ (hE.below b)).mono ?_;rintro e w2 ⟨rfl,d⟩))
 go_ret2;exact⟨rfl,Aa b d⟩
theorem BV(l r:iK):(⟨l.toArray⟩++⟨r.toArray⟩:ByteArray)=⟨(l++r).toArray⟩:=by apply eW;simp
theorem str_eq{l r:iK}(h:l=r):(⟨l.toArray⟩:ByteArray)=⟨r.toArray⟩:=by rw[h]
theorem OD(w:World)(hE:Env w):
  Calls prog 240 #[.float .f64 (Fl.D 1)] w λe w'=>e=.returned (.string ⟨#[49]⟩)/\Below w.heap.size w w':=by
 refine(DZ 1 (by decide) w hE).mono ?_;rintro e w' ⟨rfl,hb⟩;exact⟨by rw[PhS.itoa_one],hb⟩
theorem ME(w:World)(hE:Env w):
  Calls prog 240 #[.float .f64 (Fl.D (-1))] w λe w'=>e=.returned (.string ⟨#[45,49]⟩)/\Below w.heap.size w w':=by
 refine(DZ (-1) (by decide) w hE).mono ?_;rintro e w' ⟨rfl,hb⟩;exact⟨by rw[PhS.itoa_none],hb⟩
theorem OE(w:World)(hE:Env w):
  Calls prog 241 #[.string (⟨#[49]⟩++⟨#[105]⟩),.string ⟨#[49]⟩,.string ⟨#[]⟩,.int .i64 1] w λe w'=>e=.returned (.string ⟨#[105]⟩)/\Below w.heap.size w w':=by
 obtain⟨m,b⟩:=hE.maxLen;have e:(⟨#[49]⟩++⟨#[105]⟩:ByteArray)=⟨#[49,105]⟩:=by decide+kernel
 rw[e];refine(strings_Replace _ _ _ 1 m w (by decide) b (by decide) (by show 2+_*0<=_;omega)).mono ?_;rintro e w' ⟨rfl,hb⟩;exact⟨congrArg (λl:iK=>Ending.returned l) (by decide+kernel),hb⟩
theorem MF(w:World)(hE:Env w):
  Calls prog 241 #[.string (⟨#[45,49]⟩++⟨#[105]⟩),.string ⟨#[49]⟩,.string ⟨#[]⟩,.int .i64 1] w λe w'=>e=.returned (.string ⟨#[45,105]⟩)/\Below w.heap.size w w':=by
 obtain⟨m,b⟩:=hE.maxLen;have e:(⟨#[45,49]⟩++⟨#[105]⟩:ByteArray)=⟨#[45,49,105]⟩:=by decide+kernel
 rw[e];refine(strings_Replace _ _ _ 1 m w (by decide) b (by decide) (by show 3+_*0<=_;omega)).mono ?_;rintro e w' ⟨rfl,hb⟩;exact⟨congrArg (λl:iK=>Ending.returned l) (by decide+kernel),hb⟩
theorem fz(b:a.natAbs<=1000000):(FloatKind.f64.format.order (Fl.D a) 0==some .eq)=decide (a=0):=by have:=Qw (a:=a) (c:=0) b (by decide);rw[Fl.D_zero] at this;exact this
theorem Py(b:a.natAbs<=1000000):(FloatKind.f64.format.order (Fl.D a) 4607182418800017408==some .eq)=decide (a=1):=by have:=Qw (a:=a) (c:=1) b (by decide);rw[Fl.D_one] at this;exact this
theorem Np(b:a.natAbs<=1000000):(FloatKind.f64.format.order (Fl.D a) 13830554455654793216==some .eq)=decide (a=-1):=by have:=Qw (a:=a) (c:=-1) b (by decide);rw[Fl.D_minus] at this;exact this
theorem Aab(b:a.natAbs<=1000000):(FloatKind.f64.format.order (Fl.D a) 0==some .gt)=decide (0<a):=by have:=Afb (a:=a) (c:=0) b (by decide);rw[Fl.D_zero] at this;exact this
def Dc(a b:Int)(w:World)(e:Ending)(w':World):Prop:=e=.returned (.tuple #[.string ⟨(PhS.text a b).toArray⟩,.int .i64 0])/\Below w.heap.size w w'
theorem Dc.mk{b:Int}{w w':World}{s:ByteArray}(h:s=⟨(PhS.text a b).toArray⟩)(hb:Below w.heap.size w w'):Dc a b w (.returned (.tuple #[.string s,.int .i64 0])) w':=⟨by rw[h],hb⟩
theorem Pz(w:World)(hE:Env w):
  Calls prog 209 #[.complex .f64 (Fl.D 0) (Fl.D 1)] w (Dc 0 1 w):=by
 have g:=Ek (a:=0) (by decide);have h:=Ek (a:=1) (by decide);have f1:(FloatKind.f64.format.order (Fl.D 1) 0==some .eq)=false:=fz (by decide);have f2:(FloatKind.f64.format.order (Fl.D 1) 4607182418800017408==some .eq)=true:=Py (by decide);have i:(FloatKind.f64.format.order (Fl.D 0) 0==some .eq)=true:=fz (by decide);go_enter func209,ntmps209;go_wp2_with (first
  |(go_at_call 239;refine(DR _ _ (DX (by decide)) (DX (by decide)) _).mono ?_;rintro e w1 ⟨rfl,b⟩)
  |(go_at_call 240;refine(OD _ (hE.below b)).mono ?_;rintro e w2 ⟨rfl,d⟩)
  |(go_at_call 241;refine(OE _ ((hE.below b).below d)).mono ?_;rintro e w3 ⟨rfl,f⟩))
 go_ret2;exact Dc.mk (str_eq (by decide+kernel)) (Aa (Aa b d) f)
theorem Nq(w:World)(hE:Env w):
  Calls prog 209 #[.complex .f64 (Fl.D 0) (Fl.D (-1))] w (Dc 0 (-1) w):=by
 have g:=Ek (a:=0) (by decide);have h:=Ek (a:=-1) (by decide);have f1:(FloatKind.f64.format.order (Fl.D (-1)) 0==some .eq)=false:=fz (by decide);have f2:(FloatKind.f64.format.order (Fl.D (-1)) 4607182418800017408==some .eq)=false:=Py (by decide);have f4:(FloatKind.f64.format.order (Fl.D (-1)) 13830554455654793216==some .eq)=true:=Np (by decide);have i:(FloatKind.f64.format.order (Fl.D 0) 0==some .eq)=true:=fz (by decide);go_enter func209,ntmps209;go_wp2_with (first
  |(go_at_call 239;refine(DR _ _ (DX (by decide)) (DX (by decide)) _).mono ?_;rintro e w1 ⟨rfl,b⟩)
  |(go_at_call 240;refine(ME _ (hE.below b)).mono ?_;rintro e w2 ⟨rfl,d⟩)
  |(go_at_call 241;refine(MF _ ((hE.below b).below d)).mono ?_;rintro e w3 ⟨rfl,f⟩))
 go_ret2;exact Dc.mk (str_eq (by decide+kernel)) (Aa (Aa b d) f)
theorem AbV(a:Int)(h:a.natAbs<=1000000)(h0:a≠0)(w:World)(hE:Env w):
  Calls prog 209 #[.complex .f64 (Fl.D a) (Fl.D 1)] w (Dc a 1 w):=by
 have o:=PhS.itoa_len (n:=a) (by omega);have k:=Ek h;have l:=Ek (a:=1) (by decide);have f1:(FloatKind.f64.format.order (Fl.D 1) 0==some .eq)=false:=fz (by decide);have f2:(FloatKind.f64.format.order (Fl.D 1) 4607182418800017408==some .eq)=true:=Py (by decide);have m:(FloatKind.f64.format.order (Fl.D a) 0==some .eq)=false:=by rw[fz h];simpa using h0
 have f5:(FloatKind.f64.format.order (Fl.D 1) 0==some .gt)=true:=Aab (by decide);have d:PhS.text a 1=Lib.itoa a++([43]++[105]):=by unfold PhS.text PhS.sec;rw[aG (by decide),aG h0];rfl
 have j:=hZ9 d;clear d;go_enter func209,ntmps209;go_wp2_with fail;refine(DR _ _ (DX (by omega)) (DX (by decide)) _).mono ?_;rintro e w1 ⟨rfl,b⟩;go_wp2_with fail;refine(OD _ (hE.below b)).mono ?_;rintro e w2 ⟨rfl,f⟩;go_wp2_with fail;refine(OE _ ((hE.below b).below f)).mono ?_;rintro e w3 ⟨rfl,g⟩;go_wp2_with fail;refine(DZ a h _ (((hE.below b).below f).below g)).mono ?_;rintro e w4 ⟨rfl,i⟩;go_wp2_with fail;go_ret2;refine Dc.mk ?_ (Aa (Aa (Aa b f) g) i);rw[j.out,<-BV,<-BV]
theorem XH(a:Int)(h:a.natAbs<=1000000)(h0:a≠0)(w:World)(hE:Env w):
  Calls prog 209 #[.complex .f64 (Fl.D a) (Fl.D (-1))] w (Dc a (-1) w):=by
 have o:=PhS.itoa_len (n:=a) (by omega);have k:=Ek h;have l:=Ek (a:=-1) (by decide);have f1:(FloatKind.f64.format.order (Fl.D (-1)) 0==some .eq)=false:=fz (by decide);have f2:(FloatKind.f64.format.order (Fl.D (-1)) 4607182418800017408==some .eq)=false:=Py (by decide);have f4:(FloatKind.f64.format.order (Fl.D (-1)) 13830554455654793216==some .eq)=true:=Np (by decide);have m:(FloatKind.f64.format.order (Fl.D a) 0==some .eq)=false:=by rw[fz h];simpa using h0
 have f5:(FloatKind.f64.format.order (Fl.D (-1)) 0==some .gt)=false:=Aab (by decide);have d:PhS.text a (-1)=Lib.itoa a++[45,105]:=by unfold PhS.text PhS.sec;rw[aG (by decide),aG h0];rfl
 have j:=hZ9 d;clear d;go_enter func209,ntmps209;go_wp2_with fail;refine(DR _ _ (DX (by omega)) (DX (by decide)) _).mono ?_;rintro e w1 ⟨rfl,b⟩;go_wp2_with fail;refine(ME _ (hE.below b)).mono ?_;rintro e w2 ⟨rfl,f⟩;go_wp2_with fail;refine(MF _ ((hE.below b).below f)).mono ?_;rintro e w3 ⟨rfl,g⟩;go_wp2_with fail;refine(DZ a h _ (((hE.below b).below f).below g)).mono ?_;rintro e w4 ⟨rfl,i⟩;go_wp2_with fail;go_ret2;refine Dc.mk ?_ (Aa (Aa (Aa b f) g) i);rw[j.out,<-BV]
theorem VM(b:Int)(hb:b.natAbs<=1000000)(h0:b≠0)(h1:b≠1)(h2:b≠-1)(w:World)(hE:Env w):
  Calls prog 209 #[.complex .f64 (Fl.D 0) (Fl.D b)] w (Dc 0 b w):=by
 have l:=PhS.itoa_len (n:=b) (by omega);have i:=Ek (a:=0) (by decide);have j:=Ek hb;have f1:(FloatKind.f64.format.order (Fl.D b) 0==some .eq)=false:=by rw[fz hb];simpa using h0
 have f2:(FloatKind.f64.format.order (Fl.D b) 4607182418800017408==some .eq)=false:=by rw[Py hb];simpa using h1
 have f4:(FloatKind.f64.format.order (Fl.D b) 13830554455654793216==some .eq)=false:=by rw[Np hb];simpa using h2
 have k:(FloatKind.f64.format.order (Fl.D 0) 0==some .eq)=true:=fz (by decide);have d:PhS.text 0 b=Lib.itoa b++[105]:=by unfold PhS.text PhS.sec;rw[aG h0,aJ rfl,aG h1,aG h2]
 have h:=hZ9 d;clear d h0 h1 h2;go_enter func209,ntmps209;go_wp2_with fail;refine(DR _ _ (DX (by decide)) (DX (by omega)) _).mono ?_;rintro e w1 ⟨rfl,f⟩;go_wp2_with fail;refine(DZ b hb _ (hE.below f)).mono ?_;rintro e w2 ⟨rfl,g⟩;go_wp2_with fail;go_ret2;refine Dc.mk ?_ (Aa f g);rw[h.out,<-BV]
theorem AbW(a b:Int)(i:a.natAbs<=1000000)(hb:b.natAbs<=1000000)(f:a≠0)(h0:0<b)(h1:b≠1)(w:World)(hE:Env w):
  Calls prog 209 #[.complex .f64 (Fl.D a) (Fl.D b)] w (Dc a b w):=by
 have q:=PhS.itoa_len (n:=b) (by omega);have k:=PhS.itoa_len (n:=a) (by omega);have m:=Ek i;have o:=Ek hb;have f1:(FloatKind.f64.format.order (Fl.D b) 0==some .eq)=false:=by rw[fz hb];simp;omega
 have f2:(FloatKind.f64.format.order (Fl.D b) 4607182418800017408==some .eq)=false:=by rw[Py hb];simpa using h1
 have f4:(FloatKind.f64.format.order (Fl.D b) 13830554455654793216==some .eq)=false:=by rw[Np hb];simp;omega
 have p:(FloatKind.f64.format.order (Fl.D a) 0==some .eq)=false:=by rw[fz i];simpa using f
 have f5:(FloatKind.f64.format.order (Fl.D b) 0==some .gt)=true:=by rw[Aab hb];simpa using h0
 have d:PhS.text a b=Lib.itoa a++([43]++(Lib.itoa b++[105])):=by unfold PhS.text PhS.sec;rw[aG (by omega),aG f,aJ h0,aG h1,aG (by omega)];rfl
 have l:=hZ9 d;clear d f h1;go_enter func209,ntmps209;go_wp2_with fail;refine(DR _ _ (DX (by omega)) (DX (by omega)) _).mono ?_;rintro e w1 ⟨rfl,g⟩;go_wp2_with fail;refine(DZ b hb _ (hE.below g)).mono ?_;rintro e w2 ⟨rfl,h⟩;go_wp2_with fail;refine(DZ a i _ ((hE.below g).below h)).mono ?_;rintro e w3 ⟨rfl,j⟩;go_wp2_with fail;go_ret2;refine Dc.mk ?_ (Aa (Aa g h) j);rw[l.out,<-BV,<-BV,<-BV]
theorem AbX(a b:Int)(i:a.natAbs<=1000000)(hb:b.natAbs<=1000000)(f:a≠0)(h0:b<0)(h1:b≠-1)(w:World)(hE:Env w):
  Calls prog 209 #[.complex .f64 (Fl.D a) (Fl.D b)] w (Dc a b w):=by
 have q:=PhS.itoa_len (n:=b) (by omega);have k:=PhS.itoa_len (n:=a) (by omega);have m:=Ek i;have o:=Ek hb;have f1:(FloatKind.f64.format.order (Fl.D b) 0==some .eq)=false:=by rw[fz hb];simp;omega
 have f2:(FloatKind.f64.format.order (Fl.D b) 4607182418800017408==some .eq)=false:=by rw[Py hb];simp;omega
 have f4:(FloatKind.f64.format.order (Fl.D b) 13830554455654793216==some .eq)=false:=by rw[Np hb];simpa using h1
 have p:(FloatKind.f64.format.order (Fl.D a) 0==some .eq)=false:=by rw[fz i];simpa using f
 have f5:(FloatKind.f64.format.order (Fl.D b) 0==some .gt)=false:=by rw[Aab hb];simp;omega
 have d:PhS.text a b=Lib.itoa a++(Lib.itoa b++[105]):=by unfold PhS.text PhS.sec;rw[aG (by omega),aG f,aG (by omega),aG (by omega),aG h1]
 have l:=hZ9 d;clear d f h1;go_enter func209,ntmps209;go_wp2_with fail;refine(DR _ _ (DX (by omega)) (DX (by omega)) _).mono ?_;rintro e w1 ⟨rfl,g⟩;go_wp2_with fail;refine(DZ b hb _ (hE.below g)).mono ?_;rintro e w2 ⟨rfl,h⟩;go_wp2_with fail;refine(DZ a i _ ((hE.below g).below h)).mono ?_;rintro e w3 ⟨rfl,j⟩;go_wp2_with fail;go_ret2;refine Dc.mk ?_ (Aa (Aa g h) j);rw[l.out,<-BV,<-BV]
theorem AbY(a b:Int)(h:PhS.inR a b=true)(w:World)(hE:Env w):
  Calls prog 209 #[.complex .f64 (Fl.D a) (Fl.D b)] w (Dc a b w):=by
 have i:a.natAbs<=1000000/\b.natAbs<=1000000:=b7 h;obtain⟨d,hb⟩:=i;by_cases g:b=0
 ·subst g;exact Aaa a d w hE
 by_cases e:b=1
 ·subst e;by_cases a0:a=0
  ·subst a0;exact Pz w hE
  ·exact AbV a d a0 w hE
 by_cases f:b=-1
 ·subst f;by_cases a0:a=0
  ·subst a0;exact Nq w hE
  ·exact XH a d a0 w hE
 by_cases a0:a=0
 ·subst a0;exact VM b hb g e f w hE
 by_cases hp:0<b
 ·exact AbW a b d hb a0 hp e w hE
 ·exact AbX a b d hb a0 (by omega) f w hE
end
