/- The walk of the library's LastIndexAny at the two signs: where the last of them stands in any text, whatever its bytes. Conditions: as stated. -/
import Derived.Lib.SpaceUEq
import Derived.Test.YtgngjfjaelgaeaaGreatDoorJMem
set_option maxRecDepth 100000
namespace Go.Proofs.YtgngjfjaelgaeaaGreatDoor
open Go.Proofs.Tryz
section
open Go.RowKit
theorem Aba {P:Program} {f:FuncId} {args:Array Value} {w:World} {a n:Nat} {v:Value}
  (h:Calls P f args (w.drewN (a+n)) fun e w'=>e=.returned v/\w'=w.drewN (a+n)):
  Calls P f args (w.drewN (a+n)) fun e b=>e=.returned v/\∃m,b=w.drewN (a+m):=
 h.mono fun _ _ ⟨c,d⟩=>⟨c,n,d⟩
theorem LH (w:World):
  Calls prog 234 #[.string ⟨#[43,45]⟩,.int .i32 65533] w fun e w'=>e=.returned (.int .i64 (-1))/\Below w.heap.size w w':=by
 have n0:=run_next_ascii (P:=prog) w ⟨#[43,45]⟩ 0 0 (by decide) (by decide);have b:=run_next_ascii (P:=prog) w ⟨#[43,45]⟩ 1 0 (by decide) (by decide);have a:=run_next_end (P:=prog) w ⟨#[43,45]⟩ 2 0 (by decide);go_enter func234,ntmps234;go_wp2_with fail;refine wp_loop_rounds 4 ?_
 repeat any_goals (rw [rounds_succ];go_wp2_with fail)
 go_ret;exact ⟨rfl,(Below.refl _ _).alloc (aA _) _⟩
theorem TB (r:Int) (c0 c1:UInt8) (h1:128<=r) (h2:r<=2047) (b:Utf8.encode r=⟨#[c0,c1]⟩) (hc:128<=c1.toNat) (w:World):
  Calls prog 234 #[.string ⟨#[43,45]⟩,.int .i32 r] w fun e w'=>e=.returned (.int .i64 (-1))/\Below w.heap.size w w':=by
 have h3:(r==65533)=false:=by simp;omega
 have f:Lib.validRune r=true:=aL (by omega);have a:((((⟨#[43,45]⟩:ByteArray)[1]'(by decide)).toNat:Int) !=(((⟨#[c0,c1]⟩:ByteArray)[1]'(by exact fY 1)).toNat:Int))=true:=by
  have:((45:Int) !=(c1.toNat:Int))=true:=by rw [fK];omega
  exact this
 go_enter func234,ntmps234;go_wp2_with fail;refine (utf8_ValidRune r _).mono ?_;rintro e w1 ⟨rfl,rfl⟩;go_wp2_with fail
 go_step3
 go_wp2_with fail;refine wp_loop_rounds 1 ?_;rw [rounds_succ];go_wp2_with fail
 go_step3
 go_wp2_with fail
 go_quiet (fail)
 go_wp2_with fail
 go_quiet ((go_at_call 173;exact Aba (strings_IndexByte _ _ _)))
 have d:∀c,Lib.indexByte [] c=-1:=fun _=>rfl;go_wp2_with fail;simp only [Exit.noGoto_ret,Exit.inBlock,Exit.then];go_ret;exact ⟨rfl,below_drewN _ _⟩
theorem PY (r:Int) (c0 c1 c2:UInt8) (h1:128<=r) (h3:(r==65533)=false) (b:Lib.validRune r=true) (a:Utf8.encode r=⟨#[c0,c1,c2]⟩) (w:World):
  Calls prog 234 #[.string ⟨#[43,45]⟩,.int .i32 r] w fun e w'=>e=.returned (.int .i64 (-1))/\Below w.heap.size w w':=by
 go_enter func234,ntmps234;go_wp2_with fail;refine (utf8_ValidRune r _).mono ?_;rintro e w1 ⟨rfl,rfl⟩;go_wp2_with fail
 go_step3
 go_wp2_with fail;refine wp_loop_rounds 1 ?_;rw [rounds_succ];go_wp2_with fail;rw [Exit.noGoto_ret];go_ret;exact ⟨rfl,Below.refl _ _⟩
theorem QO (r:Int) (c0 c1 c2 c3:UInt8) (h1:128<=r) (h3:(r==65533)=false) (b:Lib.validRune r=true) (a:Utf8.encode r=⟨#[c0,c1,c2,c3]⟩) (w:World):
  Calls prog 234 #[.string ⟨#[43,45]⟩,.int .i32 r] w fun e w'=>e=.returned (.int .i64 (-1))/\Below w.heap.size w w':=by
 go_enter func234,ntmps234;go_wp2_with fail;refine (utf8_ValidRune r _).mono ?_;rintro e w1 ⟨rfl,rfl⟩;go_wp2_with fail
 go_step3
 go_wp2_with fail;refine wp_loop_rounds 1 ?_;rw [rounds_succ];go_wp2_with fail;rw [Exit.noGoto_ret];go_ret;exact ⟨rfl,Below.refl _ _⟩
theorem TD (r:Int) (h1:128<=r) (h3:(r==65533)=false) (a:Lib.validRune r=false) (w:World):
  Calls prog 234 #[.string ⟨#[43,45]⟩,.int .i32 r] w fun e w'=>e=.returned (.int .i64 (-1))/\Below w.heap.size w w':=by
 go_enter func234,ntmps234;go_wp2_with fail;refine (utf8_ValidRune r _).mono ?_;rintro e w1 ⟨rfl,rfl⟩;go_wp2_with fail;go_ret;exact ⟨rfl,Below.refl _ _⟩
theorem Zb {r:Int} (h1:128<=r) (h2:r<=2047):∃c0 c1,Utf8.encode r=⟨#[c0,c1]⟩/\128<=c1.toNat:=by
 have a:Utf8.valid r=true:=by unfold Utf8.valid;simp;omega
 refine ⟨UInt8.ofNat (0xC0+r.toNat / 64),UInt8.ofNat (0x80+r.toNat % 64),?_,?_⟩
 · unfold Utf8.encode;simp only [a,bY];rw [aG (by omega),aP (by omega)]
 · rw [bu];omega
theorem UW {r:Int} (h1:2048<=r) (h2:r<=65535) (a:Lib.validRune r=true):∃c0 c1 c2,Utf8.encode r=⟨#[c0,c1,c2]⟩:=by
 have b:=bB a;have a:Utf8.valid r=true:=by unfold Utf8.valid;simp;omega
 unfold Utf8.encode;simp only [a,bY];rw [aG (by omega),aG (by omega),aP (by omega)];exact ⟨_,_,_,rfl⟩
theorem WX {r:Int} (h1:65536<=r) (a:Lib.validRune r=true):∃c0 c1 c2 c3,Utf8.encode r=⟨#[c0,c1,c2,c3]⟩:=by
 have b:=bB a;have a:Utf8.valid r=true:=by unfold Utf8.valid;simp;omega
 unfold Utf8.encode;simp only [a,bY];rw [aG (by omega),aG (by omega),aG (by omega)];exact ⟨_,_,_,_,rfl⟩
theorem QP (r:Int) (h1:128<=r) (w:World):
  Calls prog 234 #[.string ⟨#[43,45]⟩,.int .i32 r] w fun e w'=>e=.returned (.int .i64 (-1))/\Below w.heap.size w w':=by
 by_cases c:r=65533
 · subst c;exact LH w
 have h3:(r==65533)=false:=aV.2 c;cases b:Lib.validRune r with
 | false=>exact TD r h1 h3 b w
 | true=>
  by_cases h2:r<=2047
  · obtain ⟨c0,c1,a,hc⟩:=Zb h1 h2;exact TB r c0 c1 h1 h2 a hc w
  · by_cases h4:r<=65535
    · obtain ⟨c0,c1,c2,a⟩:=UW (by omega) h4 b;exact PY r c0 c1 c2 h1 h3 b a w
    · obtain ⟨c0,c1,c2,c3,a⟩:=WX (by omega) b;exact QO r c0 c1 c2 c3 h1 h3 b a w
theorem Kr (c:UInt8) (w:World):
  Calls prog 234 #[.string ⟨#[43,45]⟩,.int .i32 (if c.toNat<128 then c.toNat else 65533)] w fun e w'=>(∃n:Int,e=.returned (.int .i64 n)/\(PhS.isSign c=true->0<=n)/\(PhS.isSign c=false->n<0))/\Below w.heap.size w w':=by
 by_cases hc:c.toNat<128
 · rw [aP hc];refine (strings_IndexRune_ascii ⟨#[43,45]⟩ c.toNat w (by omega) (by omega)).mono ?_;rintro e w' ⟨rfl,rfl⟩;refine ⟨⟨_,rfl,?_,?_⟩,Below.refl _ _⟩
   · intro h;unfold PhS.isSign at h;simp only [Int.toNat_natCast];rw [dV,af,af] at h;rcases h with rfl | rfl
     · decide
     · decide
   · intro h;unfold PhS.isSign at h;rw [cg,aV,aV] at h;simp only [Int.toNat_natCast];have e:c.toNat.toUInt8=c:=by simp
     have b:((43:UInt8)==c)=false:=aV.2 (fun a=>h.1 a.symm);have d:((45:UInt8)==c)=false:=aV.2 (fun a=>h.2 a.symm);rw [e];simp [Lib.indexByte,b,d]
 · rw [aG hc];refine (LH w).mono ?_;rintro e w' ⟨rfl,hb⟩;refine ⟨⟨_,rfl,?_,fun _=>by decide⟩,hb⟩;intro h;exfalso;unfold PhS.isSign at h;rw [dV,af,af] at h;rcases h with rfl | rfl
   · exact hc (by decide)
   · exact hc (by decide)
theorem NQ (n c a b b3:Nat) (h:128<=c):128<=(Lib.decodeN n c a b b3).1/\
  ((Lib.decodeN n c a b b3).2=1\/((Lib.decodeN n c a b b3).2=2/\128<=a)\/((Lib.decodeN n c a b b3).2=3/\128<=a/\128<=b)\/((Lib.decodeN n c a b b3).2=4/\128<=a/\128<=b/\128<=b3)):=by
 unfold Lib.decodeN
 repeat' split
 all_goals first | (exfalso;omega) | skip
 all_goals
  refine ⟨by show 128<=_;first | omega | decide,?_⟩
  first
   | (left;rfl)
   | (right;left;exact ⟨rfl,by omega⟩)
   | (right;right;left;exact ⟨rfl,by omega,by omega⟩)
   | (right;right;right;exact ⟨rfl,by omega,by omega,by omega⟩)
def AfL (l:List UInt8):Prop:=∀c ∈ l,128<=c.toNat
theorem UX {l:List UInt8} (h:∀j,j<l.length->128<=(l.getD j 0).toNat):AfL l:=by
 intro c hc;obtain ⟨j,a,rfl⟩:=gW hc;have:=h j a
 rwa [cy,aJ a,Option.getD_some] at this
theorem Abb {c:UInt8} (h:128<=c.toNat):PhS.isSign c=false:=by unfold PhS.isSign;rw [cg,aV,aV];exact ⟨fun e=>by subst e;revert h;decide,fun e=>by subst e;revert h;decide⟩
theorem Abc (l:List UInt8) (h:l≠[]):
  (∃c,l.getLast?=some c/\c.toNat<128/\Lib.decodeLastL l=(c.toNat,1))\/
  (128<=(Lib.decodeLastL l).1/\1<=(Lib.decodeLastL l).2/\(Lib.decodeLastL l).2<=l.length/\AfL (l.drop (l.length - (Lib.decodeLastL l).2))):=by
 have g:0<l.length:=cT.2 h;have n:l.getLast?=some (l.getD (l.length - 1) 0):=by rw [fM,aJ (by omega),cy,aJ (by omega)];rfl
 by_cases hc:(l.getD (l.length - 1) 0).toNat<128
 · left;refine ⟨_,n,hc,?_⟩;unfold Lib.decodeLastL;rw [aG h,aP hc]
 · right;have i:=Lib.decodeLastL_width l g;refine ⟨?_,i.1,i.2,?_⟩
   all_goals
    unfold Lib.decodeLastL;rw [aG h,aG hc];simp only;have p:=Lib.lastStart_lt' l h;generalize d:l.drop (Lib.lastStart l)=t;have m:t.length=l.length - Lib.lastStart l:=by rw [<-d,bI]
    have b:t.getD (t.length - 1) 0=l.getD (l.length - 1) 0:=by rw [<-d,Lib.getD_dropU];congr 1;rw [bI];omega
    rw [Lib.decodeL_N];split
   · rename_i a;by_cases h0:128<=(t.getD 0 0).toNat
     · exact (NQ _ _ _ _ _ h0).1
     · exfalso;rw [Lib.decodeN_ascii _ _ _ _ _ (by omega)] at a;have:t.length=1:=by simp only at a;omega
       rw [this] at b;rw [b] at h0;omega
   · show 128<=Utf8.runeError
     decide
   · rename_i a;by_cases h0:128<=(t.getD 0 0).toNat
     · have hd:=(NQ t.length _ (t.getD 1 0).toNat (t.getD 2 0).toNat (t.getD 3 0).toNat h0).2;have e:l.length - (Lib.decodeN t.length (t.getD 0 0).toNat (t.getD 1 0).toNat (t.getD 2 0).toNat (t.getD 3 0).toNat).2=Lib.lastStart l:=by omega
       rw [e,d];refine UX fun j o=>?_;have k:j<(Lib.decodeN t.length (t.getD 0 0).toNat (t.getD 1 0).toNat (t.getD 2 0).toNat (t.getD 3 0).toNat).2:=by omega
       rcases hd with hd | ⟨hd,d1⟩ | ⟨hd,d1,d2⟩ | ⟨hd,d1,d2,d3⟩
       · obtain rfl:j=0:=by omega
         exact h0
       · obtain rfl | rfl:j=0\/j=1:=by omega
         · exact h0
         · exact d1
       · obtain rfl | rfl | rfl:j=0\/j=1\/j=2:=by omega
         · exact h0
         · exact d1
         · exact d2
       · obtain rfl | rfl | rfl | rfl:j=0\/j=1\/j=2\/j=3:=by omega
         · exact h0
         · exact d1
         · exact d2
         · exact d3
     · exfalso;rw [Lib.decodeN_ascii _ _ _ _ _ (by omega)] at a;have:t.length=1:=by simp only at a;omega
       rw [this] at b;rw [b] at h0;omega
   · rw [Lib.drop_last1 l g];intro c f;have:c=l.getD (l.length - 1) 0:=by simpa using f
     subst this;omega
theorem Zc (l:List UInt8) (h:l≠[]):1<=(Lib.decodeLastL l).2/\(Lib.decodeLastL l).2<=l.length/\
  ((∃c:UInt8,Lib.decodeLastL l=(c.toNat,1)/\c.toNat<128/\PhS.lastW PhS.isSign l=if PhS.isSign c then ((l.length - 1:Nat):Int) else PhS.lastW PhS.isSign (l.take (l.length - 1)))\/
   (128<=(Lib.decodeLastL l).1/\PhS.lastW PhS.isSign l=PhS.lastW PhS.isSign (l.take (l.length - (Lib.decodeLastL l).2)))):=by
 rcases Abc l h with ⟨c,b,hc,hd⟩ | ⟨h1,h2,h3,h4⟩
 · have a:0<l.length:=cT.2 h;refine ⟨by rw [hd];exact aA _,by rw [hd];exact a,.inl ⟨c,hd,hc,?_⟩⟩;obtain ⟨ys,rfl⟩:=dm.1 b;rw [PhS.lastW_snoc];simp
 · refine ⟨h2,h3,.inr ⟨h1,?_⟩⟩
   conv=>lhs;rw [<-dB (l.length - (Lib.decodeLastL l).2) l]
   exact PhS.lastW_append_none _ _ _ fun c hc=>Abb (h4 c hc)
end
section
open Go.RowKit
def MF (s:ByteArray) (w:World) (e:Ending) (w':World):Prop:=e=.returned (.int .i64 (PhS.lastW PhS.isSign s.data.toList))/\Below w.heap.size w w'
theorem Abd (s:ByteArray) (h:s.size=1) (h0:0<s.size):PhS.lastW PhS.isSign s.data.toList=if PhS.isSign s[0] then 0 else -1:=by
 have a:s.data.toList=[s[0]]:=by
  apply fZ
  · simpa using h
  · intro i h1 h2;have:i=0:=by simp at h2;exact h2
    subst this;rfl
 rw [a];unfold PhS.lastW;simp [PhS.lastW]
theorem AeE (s:ByteArray) (h:s.size=1) (w:World):
  Calls prog 207 #[.string s,.string ⟨#[43,45]⟩] w (MF s w):=by
 have h0:0<s.size:=by omega
 have f:=hZ9 (Abd s h h0);have hb:=Kr s[0];have h256:s[0].toNat<256:=UInt8.toNat_lt _;by_cases hc:s[0].toNat<128
 all_goals
  first | simp only [aP hc] at hb | simp only [aG hc] at hb
  go_enter func207,ntmps207;go_wp2_with fail;refine (hb _).mono ?_;rintro e w1 ⟨⟨n,rfl,b,a⟩,c⟩;by_cases d:PhS.isSign s[0]=true
  · have g:=b d;clear b a;go_wp2_with fail;go_ret;exact ⟨by rw [f.out,aP d];rfl,c⟩
  · have g:=a (by simpa using d);clear b a;go_wp2_with fail;go_ret;exact ⟨by rw [f.out,aG d];rfl,c⟩
def AeF (s:ByteArray) (w:World) (i:Value) (w':World):Prop:=
 ∃k:Nat,k<=s.size/\i=.int .i64 k/\Env w'/\Below w.heap.size w w'/\Hid (PhS.lastW PhS.isSign (s.data.toList.take k)=PhS.lastW PhS.isSign s.data.toList)
theorem AeG (s:ByteArray) (h:¬s.size=1) (h8:s.size<=8) (w:World) (hE:Env w):
  Calls prog 207 #[.string s,.string ⟨#[43,45]⟩] w (MF s w):=by
 have E:¬8<s.size:=by omega
 go_enter func207,ntmps207;go_wp2_with fail;refine (strings_shouldUseASCIISet _ _).mono ?_;rintro e w1 ⟨rfl,A⟩;subst A;go_wp2_with fail;go_loopw [13] (fun i w'=>AeF s w1 i w') (fun i _=>(intOf i).toNat)
 case atStart=>exact ⟨s.size,aA _,rfl,hE,Below.refl _ _,hZ9 (by rw [ag (by simp)])⟩
 case round=>
  obtain ⟨k,hk,rfl,o,j,z⟩:=hrel;by_cases G:0<k
  · have a:=Zc (s.extract 0 k).data.toList (by intro F;have:=congrArg List.length F;rw [aS,Array.length_toList,ByteArray.size_data,dX] at this;omega);have q:(s.extract 0 k).size<=9223372036854775807:=by simp;omega
    have b:=utf8_DecodeLastRuneInString (s.extract 0 k) wr q o.utf;have t:(s.extract 0 k).data.toList=s.data.toList.take k:=by simp
    rw [t] at a b;have hlen:(s.data.toList.take k).length=k:=by simp;omega
    rw [hlen] at a;generalize Lib.decodeLastL (s.data.toList.take k)=d at a b;obtain ⟨r,n⟩:=d;simp only at a b;obtain ⟨J,H,a⟩:=a;have l:∀m,m<=k->(s.data.toList.take k).take m=s.data.toList.take m:=fun m v=>by rw [List.take_take,cJ v]
    rw [l _ (by omega),l _ (by omega)] at a;have B:=hZ9 a;clear a hlen t l q;have C:IntKind.i64.wrap ((k:Int) - n)=(k:Int) - n:=Go.IntWalk.i64_in _ (by omega);go_wp2_with fail;refine b.mono ?_;rintro e w2 ⟨rfl,g⟩;rcases B.out with ⟨c,hd,hc,p⟩ | ⟨K,p⟩
    · have x:=hZ9 p;clear p;simp only [bR] at hd;obtain ⟨rfl,rfl⟩:=hd;have hb:=Kr c;simp only [aP hc] at hb;go_wp2_with fail;refine (hb _).mono ?_;rintro e w3 ⟨⟨n,rfl,hp,v⟩,f⟩;by_cases y:PhS.isSign c=true
      · have I:=hp y;clear hp v;go_wp2_with fail;go_ret;refine ⟨?_,Aa j (Aa g f)⟩;rw [<-z.out,x.out,aP y];rw [show ((k - 1:Nat):Int)=(k:Int) - 1 by omega];rfl
      · have I:=v (by simpa using y);clear hp v;go_wp2_with fail;go_roundw
        case rel=>refine ⟨k - 1,by omega,by rw [show ((k - 1:Nat):Int)=(k:Int) - 1 by omega],(o.below g).below f,Aa j (Aa g f),hZ9 ?_⟩;rw [<-z.out,x.out,aG y]
        case measure=>simp [intOf];omega
    · have x:=hZ9 p;clear p;go_wp2_with fail;refine (QP _ (by exact_mod_cast K) _).mono ?_;rintro e w3 ⟨rfl,f⟩;go_wp2_with fail;go_roundw
      case rel=>refine ⟨k - n,by omega,by rw [show ((k - n:Nat):Int)=(k:Int) - n by omega],(o.below g).below f,Aa j (Aa g f),hZ9 ?_⟩;rw [<-z.out,x.out]
      case measure=>simp [intOf];omega
  · have u:k=0:=by omega
    subst u;have L:Hid (PhS.lastW PhS.isSign s.data.toList=-1):=hZ9 (by rw [<-z.out];rfl);go_wp2_with fail;go_ret;exact ⟨by rw [L.out];rfl,j⟩
def AeH (s:ByteArray) (i:Value):Prop:=
 ∃k:Nat,k<=s.size/\i=.int .i64 ((k:Int) - 1)/\Hid (PhS.lastW PhS.isSign (s.data.toList.take k)=PhS.lastW PhS.isSign s.data.toList)
theorem TE (c:UInt8):([43,45]:List UInt8).contains c=PhS.isSign c:=by unfold PhS.isSign;rw [fC,fC,List.contains_nil,gQ]
theorem XT:(prog.info? 267).map (fun i=>(i.zero,i.size))=some (some (.agg (Array.replicate 256 (.bool false))),256):=by kernel_rfl
theorem NR (w:World) (a b:Obj):Below w.heap.size w ((w.alloc a).alloc b):=((Below.refl _ _).alloc (aA _) _).alloc (aY (aA _) ((Below.refl _ _).alloc (aA _) _).size) _
theorem Adl (s:ByteArray) (h8:8<s.size) (hsz:s.size<=281474976710656) (w:World):
  Calls prog 207 #[.string s,.string ⟨#[43,45]⟩] w (MF s w):=by
 have h1:¬s.size=1:=by omega
 have c:Hid (∀x:UInt8,(Lib.setCells [43,45])[x.toNat]?=some (.bool (PhS.isSign x))):=hZ9 fun x=>by rw [Lib.setCells_at,TE]
 go_enter func207,ntmps207;go_wp2_with fail;refine (strings_shouldUseASCIISet _ _).mono ?_;rintro e w1 ⟨rfl,q⟩;subst q;have h:=strings_makeASCIISet (zero_of_info XT).1 ⟨#[43,45]⟩ w1 (by decide) (by
  intro j b g
  match j with
  | 0=>simp at g;subst g;decide
  | 1=>simp at g;subst g;decide
  | j+2=>simp at g)
 have d:(storeCells ⟨w1.heap.size+1,0,none⟩ (Lib.setCells [43,45]).toList 0).run prog ((w1.alloc (.cells (Lib.setCells [43,45]) 267)).alloc (.cells (Array.replicate 256 (.bool false)) 267))=.ok () ((w1.alloc (.cells (Lib.setCells [43,45]) 267)).alloc (.cells (Lib.setCells [43,45]) 267)):=by
  have:=run_storeCells_new (P:=prog) (w1.alloc (.cells (Lib.setCells [43,45]) 267)) 267 (Array.replicate 256 (.bool false)) (Lib.setCells [43,45]) (by rw [Lib.setCells_size];exact (zero_of_info XT).2) (by rw [Lib.setCells_size,Array.size_replicate]) (Lib.setCells_one _)
  simpa using this
 have hcell:∀x:UInt8,((w1.alloc (.cells (Lib.setCells [43,45]) 267)).alloc (.cells (Lib.setCells [43,45]) 267)).cell? ⟨w1.heap.size+1,x.toNat,none⟩=some (.bool (PhS.isSign x)):=fun x=>by rw [World.cell?_alloc_at _ _ _ _ (by simp)];exact c.out x
 have y:=hZ9 hcell;clear hcell c;go_wp2_with fail;refine h.mono ?_;rintro e w2 ⟨rfl,o⟩;subst o;go_wp2_with fail;rw [show zeroCells267=Array.replicate 256 (Value.bool false) by kernel_rfl];simp only [d,Result.andThen];rw [Oper.upon_skip];clear d h;go_wp2_with fail;go_loop [8] (fun i=>AeH s i) (fun i=>(intOf i+1).toNat)
 case atStart=>exact ⟨s.size,aA _,rfl,hZ9 (by rw [ag (by simp)])⟩
 case round=>
  obtain ⟨k,hk,rfl,m⟩:=hrel;by_cases u:0<k
  · have t:0<=(k:Int) - 1:=by omega
    have a:=asciiSet_contains (w1.heap.size+1) s[k - 1] (PhS.isSign s[k - 1]) _ (y.out _);have r:((k:Int) - 1).toNat=k - 1:=by omega
    have l:Hid (PhS.lastW PhS.isSign (s.data.toList.take k)=if PhS.isSign s[k - 1] then ((k - 1:Nat):Int) else PhS.lastW PhS.isSign (s.data.toList.take (k - 1))):=hZ9 (by
     have:=PhS.take_snoc s (k - 1) (by omega);rw [show k - 1+1=k by omega] at this;rw [this,PhS.lastW_snoc,au,Array.length_toList,ByteArray.size_data,cJ (by omega)])
    generalize p:PhS.isSign s[k - 1]=sg at a l;clear p;go_wp2_with fail;refine a.mono ?_;rintro e w3 ⟨rfl,n⟩;subst n;cases sg with
    | true=>go_wp2_with fail;go_ret;refine ⟨?_,NR _ _ _⟩;rw [<-m.out,l.out,show ((k - 1:Nat):Int)=(k:Int) - 1 by omega];simp only [bY];rfl
    | false=>
     go_wp2_with fail;go_round
     case rel=>exact ⟨k - 1,by omega,by rw [show ((k - 1:Nat):Int)=(k:Int) - 1 by omega],hZ9 (by rw [<-m.out,l.out];rfl)⟩
     case measure=>simp [intOf];omega
  · have f:k=0:=by omega
    subst f;have v:Hid (PhS.lastW PhS.isSign s.data.toList=-1):=hZ9 (by rw [<-m.out];rfl);go_wp2_with fail;go_ret;exact ⟨by rw [v.out];rfl,NR _ _ _⟩
theorem UY (s:ByteArray) (hsz:s.size<=281474976710656) (w:World) (hE:Env w):
  Calls prog 207 #[.string s,.string ⟨#[43,45]⟩] w (MF s w):=by
 by_cases h1:s.size=1
 · exact AeE s h1 w
 · by_cases h8:8<s.size
   · exact Adl s h8 hsz w
   · exact AeG s h1 (by omega) w hE
end
end Go.Proofs.YtgngjfjaelgaeaaGreatDoor
