/- Plain laws of filters: how they are formed, written and read; what was written is read as it was. Conditions: as stated. -/
import Derived.Test.YtgngjfjaelgaeaaGreatDoorZRdS
import Derived.Test.YtgngjfjaelgaeaaGreatDoorZMem
set_option maxRecDepth 100000
namespace Go.Proofs.YtgngjfjaelgaeaaGreatDoor
open Go.Proofs.Tryz
section
namespace FiS
open Go.Lib RdS
inductive Fi where
 |mk (kind:Int) (attr value first last:iK) (any:List iK) (parts:List Fi)
namespace Fi
def kind:Fi->Int| .mk k _ _ _ _ _ _=>k
def attr:Fi->iK| .mk _ a _ _ _ _ _=>a
def value:Fi->iK| .mk _ _ v _ _ _ _=>v
def first:Fi->iK| .mk _ _ _ f _ _ _=>f
def last:Fi->iK| .mk _ _ _ _ l _ _=>l
def any:Fi->List iK| .mk _ _ _ _ _ s _=>s
def parts:Fi->List Fi| .mk _ _ _ _ _ _ p=>p
end Fi
mutual
def nodes:Fi->Nat
 | .mk _ _ _ _ _ _ ps=>1+Bi ps
def Bi:List Fi->Nat
 |[]=>0
 |p :: r=>nodes p+Bi r
end
mutual
def depth:Fi->Nat
 | .mk _ _ _ _ _ _ ps=>1+BL ps
def BL:List Fi->Nat
 |[]=>0
 |p :: r=>max (depth p) (BL r)
end
def AZ(c:UInt8):Bool:=decide (65<=c.toNat/\c.toNat<=90)||decide (97<=c.toNat/\c.toNat<=122)
def isDig(c:UInt8):Bool:=decide (48<=c.toNat/\c.toNat<=57)
def Hn(c:UInt8):Bool:=AZ c||isDig c||c==45
def GF:iK->Bool
 |[]=>false
 |c :: r=>AZ c&&r.all Hn&&decide ((c :: r).length<=40)
def BP(s:iK):Bool:=!s.isEmpty&&decide (s.length<=200)
def Gv(f l:iK)(s:List iK):Bool:=!f.isEmpty||!l.isEmpty||decide (0<s.length)
def Kp(a:iK)(n:Nat):Bool:=decide (n=0)&&GF a
def Ob(k:Int)(a v f l:iK)(s:List iK)(n:Nat):Bool:=
 if k=0\/k=1 then a.isEmpty&&v.isEmpty&&!Gv f l s
 else if k=2 then a.isEmpty&&v.isEmpty&&!Gv f l s&&decide (n=1)
 else if k=3\/k=5\/k=6\/k=8 then Kp a n&&BP v&&!Gv f l s
 else if k=7 then Kp a n&&v.isEmpty&&!Gv f l s
 else if k=4 then Kp a n&&v.isEmpty&&Gv f l s&&decide (f.length<=200)&&decide (l.length<=200)&&s.all BP
 else false
def Ho(x:Fi):Bool:=Ob x.kind x.attr x.value x.first x.last x.any x.parts.length
mutual
def Dm:Fi->Bool
 | .mk k a v f l s ps=>Ho (.mk k a v f l s ps)&&allL ps
def allL:List Fi->Bool
 |[]=>true
 |p :: r=>Dm p&&allL r
end
def formedS(x:Fi):Bool:=decide (nodes x<=40)&&(decide (depth x<=20)&&Dm x)
def bad(c:UInt8):Bool:=decide (c.toNat<32)||decide (126<c.toNat)||[42,40,41,92].contains c
def Ahf(c:UInt8):iK:=if bad c=true then [92,BI (c.toNat / 16),BI (c.toNat % 16)] else [c]
def WB:iK->iK
 |[]=>[]
 |c :: r=>Ahf c++WB r
def AgV(k:Int):iK:=if k=5 then [62,61] else if k=6 then [60,61] else if k=8 then [126,61] else [61]
def Aff:List iK->iK
 |[]=>[]
 |p :: r=>42 :: (WB p++Aff r)
def opC(k:Int):UInt8:=if k=0 then 38 else if k=1 then 124 else 33
def AgW(k:Int)(a v f l:iK)(s:List iK):iK:=
 if k=7 then a++[61,42]
 else if k=4 then a++61 :: (WB f++(Aff s++42 :: WB l))
 else a++AgV k++WB v
def AgX(x:Fi):iK:=AgW x.kind x.attr x.value x.first x.last x.any
def inner(k:Int):Bool:=decide (k=0\/k=1\/k=2)
mutual
def textS:Fi->iK
 | .mk k a v f l s ps=>40 :: ((if inner k=true then opC k :: Afg ps else AgX (.mk k a v f l s ps))++[41])
def Afg:List Fi->iK
 |[]=>[]
 |p :: r=>textS p++Afg r
end
def printS(x:Fi):iK×Int:=if formedS x=true then(textS x,0) else([],1)
def Gw:iK->Option iK
 |[]=>some []
 |c :: r=>if c=92 then(match r with
   |a :: b :: q=>match hexOf a,hexOf b with
    |some x,some y=>(Gw q).map (UInt8.ofNat (16*x+y) :: ·)
    |_,_=>none
   |_=>none)
  else if bad c=true then none else(Gw r).map (c :: ·)
def AcG:List iK->Option (List iK)
 |[]=>some []
 |p :: r=>match Gw p,AcG r with
  |some v,some l=>some (v :: l)
  |_,_=>none
def isSign(c:UInt8):Bool:=[61,60,62,126].contains c
def AfL(a:iK):List iK->Fi
 |[v]=>.mk 3 a v [] [] [] []
 |l=>.mk 4 a [] (l.headD []) (l.getLastD []) ((l.drop 1).dropLast) []
def AgY(a v:iK):Option Fi:=if v=[42] then some (.mk 7 a [] [] [] [] []) else(AcG (RuS.pieces 42 v)).map (AfL a)
def Oc(s:iK):Option Fi:=
 if [62,61].isPrefixOf (s.dropWhile (λc=>!isSign c))=true then(Gw ((s.dropWhile (λc=>!isSign c)).drop 2)).map (λv=>.mk 5 (s.takeWhile (λc=>!isSign c)) v [] [] [] [])
 else if [60,61].isPrefixOf (s.dropWhile (λc=>!isSign c))=true then(Gw ((s.dropWhile (λc=>!isSign c)).drop 2)).map (λv=>.mk 6 (s.takeWhile (λc=>!isSign c)) v [] [] [] [])
 else if [126,61].isPrefixOf (s.dropWhile (λc=>!isSign c))=true then(Gw ((s.dropWhile (λc=>!isSign c)).drop 2)).map (λv=>.mk 8 (s.takeWhile (λc=>!isSign c)) v [] [] [] [])
 else if [61].isPrefixOf (s.dropWhile (λc=>!isSign c))=true then AgY (s.takeWhile (λc=>!isSign c)) ((s.dropWhile (λc=>!isSign c)).drop 1)
 else none
def opK(c:UInt8):Option Int:=if c=38 then some 0 else if c=124 then some 1 else if c=33 then some 2 else none
def Aay:iK->Option (iK×iK)
 |[]=>none
 |c :: r=>if c=41 then some ([],r) else(Aay r).map (λp=>(c :: p.1,p.2))
def Aaz:iK->Option (UInt8×iK)
 |b :: c :: r=>if b=40 then some (c,r) else none
 |_=>none
def Aa0(n:Nat)(c:UInt8)(r:iK):Option (Fi×iK×Nat):=match Aay (c :: r) with
 |some (item,rest)=>(Oc item).map (λx=>(x,rest,n))
 |none=>none
mutual
def Gl:Nat->Nat->Nat->iK->Option (Fi×iK×Nat)
 |0,_,_,_=>none
 |F+1,n,d,s=>if n=0\/20<d then none else match Aaz s with
  |none=>none
  |some (c,r)=>match opK c with
   |some k=>(Fe F (n-1) d r).map (λq=>(.mk k [] [] [] [] [] q.1,q.2))
   |none=>Aa0 (n-1) c r
def Fe:Nat->Nat->Nat->iK->Option (List Fi×iK×Nat)
 |0,_,_,_=>none
 |F+1,n,d,s=>if s.head?=some 41 then some ([],s.drop 1,n) else match Gl F n (d+1) s with
  |some (p,r,m)=>(Fe F m d r).map (λq=>(p :: q.1,q.2))
  |none=>none
end
theorem QV:∀(F n d:Nat) (s:iK),(∀x r m,Gl F n d s=some (x,r,m)->m<n)/\(∀x r m,Fe F n d s=some (x,r,m)->m<=n):=by
 intro F
 induction F with
 |zero=>intro n d s;exact⟨λx r m h=>by simp[Gl] at h,λx r m h=>by simp[Fe] at h⟩
 |succ F b=>
  intro n d s;refine⟨λx r m h=>?_,λx r m h=>?_⟩
  ·rw[Gl] at h;split at h
   ·cases h
   ·rename_i g;split at h
    ·cases h
    ·split at h
     ·rw[bF] at h;obtain⟨⟨c,e,f⟩,a,h2⟩:=h;simp only[bT] at h2;have:=(b (n-1) d _).2 _ _ _ a;omega
     ·unfold Aa0 at h;split at h
      ·rw[bF] at h;obtain⟨q,a,h2⟩:=h;simp only[bT] at h2;omega
      ·cases h
  ·rw[Fe] at h;split at h
   ·simp only[bq,bT] at h;omega
   ·split at h
    ·rename_i p q k hp;rw[bF] at h;obtain⟨⟨c,e,f⟩,a,h2⟩:=h;simp only[bT] at h2;have h4:=(b n (d+1) s).1 _ _ _ hp;have h5:=(b k d q).2 _ _ _ a;omega
    ·cases h
theorem Aa1:∀(F n d:Nat) (s:iK),(2*n+1<=F->Gl (F+1) n d s=Gl F n d s)/\(2*n+2<=F->Fe (F+1) n d s=Fe F n d s):=by
 intro F
 induction F with
 |zero=>intro n d s;exact⟨λh=>by omega,λh=>by omega⟩
 |succ F b=>
  intro n d s;refine⟨λh=>?_,λh=>?_⟩
  ·rw[Gl,Gl];by_cases a:n=0\/20<d
   ·rw[aJ a,aJ a]
   ·rw[aG a,aG a];cases Aaz s with
    |none=>rfl
    |some q=>obtain⟨c,r⟩:=q;simp only;rw[(b (n-1) d r).2 (by omega)]
  ·rw[Fe,Fe,(b n (d+1) s).1 (by omega)];split
   ·rfl
   ·split
    ·rename_i p q k hp;have:=(QV F n (d+1) s).1 _ _ _ hp;rw[(b k d q).2 (by omega)]
    ·rfl
def readS(n d:Nat)(s:iK):Option (Fi×iK×Nat):=Gl (2*n+1) n d s
def partsS(n d:Nat)(s:iK):Option (List Fi×iK×Nat):=Fe (2*n+2) n d s
theorem Aa2{n d:Nat}{s:iK}{x:Fi}{r:iK}{m:Nat}(h:readS n d s=some (x,r,m)):m<n:=(QV _ n d s).1 _ _ _ h
theorem Aa3{n d:Nat}{s:iK}:∀F,2*n+2<=F->Fe F n d s=partsS n d s:=by
 intro F h
 induction F with
 |zero=>omega
 |succ F a=>
  by_cases h2:2*n+2<=F
  ·rw[(Aa1 F n d s).2 h2];exact a h2
  ·have:F+1=2*n+2:=by omega
   rw[this];rfl
theorem partsS_step{n d:Nat}{s:iK}(h:s.head?≠some 41):partsS n d s=match readS n (d+1) s with
  |some (p,r,m)=>(partsS m d r).map (λq=>(p :: q.1,q.2))
  |none=>none:=by
 unfold partsS;rw[Fe,aG h];have e:Gl (2*n+1) n (d+1) s=readS n (d+1) s:=rfl;rw[e];cases a:readS n (d+1) s with
 |none=>rfl
 |some q=>obtain⟨p,r,m⟩:=q;have:=Aa2 a;simp only;rw[Aa3 (n:=m) _ (by omega)];rfl
end FiS
end
section
open Go.RowKit
theorem AgC:∀n:Fin 26,bits BinOp.or IntKind.u8 ((n.val+65:Nat):Int) 32=((n.val+97:Nat):Int):=by decide
theorem Ahg{c:UInt8}(h1:65<=c.toNat)(h2:c.toNat<=90):bits BinOp.or IntKind.u8 (c.toNat:Int) 32=((c.toNat+32:Nat):Int):=by have h:=AgC ⟨c.toNat-65,by omega⟩;simp only at h;rw[show c.toNat-65+65=c.toNat from by omega,show c.toNat-65+97=c.toNat+32 from by omega] at h;exact h
def Cb(l:iK)(w:World)(e:Ending)(w':World):Prop:=e=.returned (.string ⟨(RuS.lower l).toArray⟩)/\Below w.heap.size w w'
def Zb(s:ByteArray)(w:World)(i:Value)(wr:World):Prop:=∃k:Nat,k<=s.size/\i=.int .i64 k/\BytesIn wr w.heap.size (RuS.half s.data.toList k)/\Below w.heap.size w wr
theorem lower_c(s:ByteArray)(r:s.size<=9223372036854775807)(w:World):Calls prog 86 #[.string s] w (Cb s.data.toList w):=by
 have g:=λw=>Lib.run_convert_string_bytes (P:=prog) w 9 157 5 s underlying9 underlying157 underlying5;have o:s.size<=grownCap w s.size 0 5:=grownCap_ge _ _ _ _;have hb0:=BytesIn.conv w 5 s;have h:=Lib.bytesWorld_below w 5 s;go_enter func86,ntmps86;go_wp2_with fail;clear g;generalize grownCap w s.size 0 5=cap at*;generalize Lib.bytesWorld w 5 s=w0 at*;go_loopw [10] (λi wr=>Zb s w i wr) (λi _=>s.size-(intOf i).toNat)
 case atStart=>exact⟨0,aR _,rfl,by rw[RuS.half_zero];exact hb0,h⟩
 case round=>
  obtain⟨k,hk,rfl,a,e⟩:=hrel;clear hb0 h;by_cases l:k<s.size
  ·have d:k<(RuS.half s.data.toList k).length:=by rw[RuS.half_length,<-Lib.size_eq];exact l
   have hc:=a.cell d;have t:=a.thaw d;have b:k<s.data.toList.length:=by rw[<-Lib.size_eq];exact l
   rw[RuS.half_at _ _ b] at hc;have q:=hZ9 (RuS.half_succ s.data.toList k b);have n:=hZ9 (RuS.half_keep s.data.toList k b);generalize s.data.toList[k]=c at*;clear d b;by_cases h1:65<=c.toNat
   ·by_cases h2:c.toNat<=90
    ·have p:=hZ9 (Ahg h1 h2);have j:=hZ9 (RuS.lowC_toNat h1 h2);go_wp2_with fail;go_roundw
     case rel=>refine⟨k+1,by omega,by go_num,?_,e.setCell (aA _) _⟩;rw[q.out,p.out,<-j.out];exact a.put _ _
     case measure=>simp[intOf];omega
    ·have j:=hZ9 (RuS.lowC_no (c:=c) (by omega));go_wp2_with fail;go_roundw
     case rel=>exact⟨k+1,by omega,by go_num,by rw[n.out j.out];exact a,e⟩
     case measure=>simp[intOf];omega
   ·have j:=hZ9 (RuS.lowC_no (c:=c) (by omega));go_wp2_with fail;go_roundw
    case rel=>exact⟨k+1,by omega,by go_num,by rw[n.out j.out];exact a,e⟩
    case measure=>simp[intOf];omega
  ·have f:s.data.toList.length<=k:=by rw[<-Lib.size_eq];omega
   rw[RuS.half_all _ f] at a;have m:=a.back (P:=prog) 157 9 5 s.size cap (by rw[RuS.lower_length,<-Lib.size_eq]) underlying157 underlying5 underlying9;clear f;go_wp2_with fail;go_ret;exact⟨rfl,e⟩
theorem BD(s:ByteArray)(q:s.size<=9223372036854775807)(w:World):Calls prog 103 #[.string s] w (Cb s.data.toList w):=by
 have g:=λw=>Lib.run_convert_string_bytes (P:=prog) w 9 157 5 s underlying9 underlying157 underlying5;have o:s.size<=grownCap w s.size 0 5:=grownCap_ge _ _ _ _;have hb0:=BytesIn.conv w 5 s;have h:=Lib.bytesWorld_below w 5 s;go_enter func103,ntmps103;go_wp2_with fail;clear g;generalize grownCap w s.size 0 5=cap at*;generalize Lib.bytesWorld w 5 s=w0 at*;go_loopw [9] (λi wr=>Zb s w i wr) (λi _=>s.size-(intOf i).toNat)
 case atStart=>exact⟨0,aR _,rfl,by rw[RuS.half_zero];exact hb0,h⟩
 case round=>
  obtain⟨k,hk,rfl,a,e⟩:=hrel;clear hb0 h;by_cases l:k<s.size
  ·have d:k<(RuS.half s.data.toList k).length:=by rw[RuS.half_length,<-Lib.size_eq];exact l
   have hc:=a.cell d;have r:=a.thaw d;have b:k<s.data.toList.length:=by rw[<-Lib.size_eq];exact l
   rw[RuS.half_at _ _ b] at hc;have p:=hZ9 (RuS.half_succ s.data.toList k b);have n:=hZ9 (RuS.half_keep s.data.toList k b);generalize s.data.toList[k]=c at*;clear d b;by_cases h1:65<=c.toNat
   ·by_cases h2:c.toNat<=90
    ·have j:=hZ9 (RuS.lowC_toNat h1 h2);go_wp2_with fail;go_roundw
     case rel=>refine⟨k+1,by omega,by go_num,?_,e.setCell (aA _) _⟩;rw[p.out,show ((c.toNat:Int)+32)=((RuS.lowC c).toNat:Int) from by rw[j.out];rfl];exact a.put _ _
     case measure=>simp[intOf];omega
    ·have j:=hZ9 (RuS.lowC_no (c:=c) (by omega));go_wp2_with fail;go_roundw
     case rel=>exact⟨k+1,by omega,by go_num,by rw[n.out j.out];exact a,e⟩
     case measure=>simp[intOf];omega
   ·have j:=hZ9 (RuS.lowC_no (c:=c) (by omega));go_wp2_with fail;go_roundw
    case rel=>exact⟨k+1,by omega,by go_num,by rw[n.out j.out];exact a,e⟩
    case measure=>simp[intOf];omega
  ·have f:s.data.toList.length<=k:=by rw[<-Lib.size_eq];omega
   rw[RuS.half_all _ f] at a;have m:=a.back (P:=prog) 157 9 5 s.size cap (by rw[RuS.lower_length,<-Lib.size_eq]) underlying157 underlying5 underlying9;clear f;go_wp2_with fail;go_ret;exact⟨rfl,e⟩
end
section
open Go.RowKit
theorem UA(c:UInt8)(s:ByteArray):(Lib.splitB ⟨#[c]⟩ 0 (Lib.countB s ⟨#[c]⟩) s).map Value.string=(RuS.pieces c s.data.toList).map Ac:=by rw[<-RuS.split_pieces];have h:=Lib.splitB_data ⟨#[c]⟩ 0 (Lib.countB s ⟨#[c]⟩) s;have e:Lib.split s.data.toList [c]=Lib.splitK [c] 0 (Lib.countB s ⟨#[c]⟩) s.data.toList:=rfl;rw[e];have a:Lib.splitK [c] 0 (Lib.countB s ⟨#[c]⟩) s.data.toList=(Lib.splitB ⟨#[c]⟩ 0 (Lib.countB s ⟨#[c]⟩) s).map (·.data.toList):=h.symm;rw[a,ck];apply cX;intro x _;obtain⟨⟨l⟩⟩:=x;rfl
theorem Aey(s:ByteArray)(c:UInt8)(d:s.size<4294967281)(w:World)(hE:Env w):
  Calls prog 201 #[.string s,.string ⟨#[c]⟩] w λe w'=>∃n:Nat,n=(RuS.pieces c s.data.toList).length/\e=.returned (.slice (some ⟨w.heap.size,0,none⟩) n n)/\
   w'=w.alloc (.cells ((RuS.pieces c s.data.toList).map Ac).toArray 9):=by
 obtain⟨m,b⟩:=hE.maxLen;refine(strings_Split s ⟨#[c]⟩ m w d b (aA 1)).mono ?_;rintro e w' ⟨rfl,rfl⟩;have h:=UA c s;have a:=congrArg List.length h;rw[b9,b9,Lib.splitB_all ⟨#[c]⟩ (aA 1) 0 _ _ rfl] at a;exact⟨_,rfl,by rw[a],by rw[h]⟩
def WC(l:iK)(w:World)(e:Ending)(w':World):Prop:=∃v,e=.returned v/\Ah w' v (RuS.wordsL l)/\Below w.heap.size w w'
def AcH(ps:List iK)(w0:World)(v i:Value)(wr:World):Prop:=
 ∃k:Nat,k<=ps.length/\i=.int .i64 k/\Own wr w0.heap.size v ((ps.take k).filter (λp=>!p.isEmpty))/\Below w0.heap.size w0 wr
theorem RO(ps:List iK)(k:Nat):((ps.take k).filter (λp=>!p.isEmpty)).length<=ps.length:=by
 have h1:=bJ (λp:iK=>!p.isEmpty) (ps.take k);have h2:(ps.take k).length<=ps.length:=by simp;omega
 omega
theorem QW(ps:List iK)(k:Nat)(h:k<ps.length)(hp:ps[k].isEmpty=false):(ps.take (k+1)).filter (λp=>!p.isEmpty)=(ps.take k).filter (λp=>!p.isEmpty)++[ps[k]]:=by rw[aW h,bi];simp[hp]
theorem RP(ps:List iK)(k:Nat)(h:k<ps.length)(hp:ps[k].isEmpty=true):(ps.take (k+1)).filter (λp=>!p.isEmpty)=(ps.take k).filter (λp=>!p.isEmpty):=by rw[aW h,bi];simp[hp]
theorem IU(c:UInt8):∀l:iK,(RuS.pieces c l).length<=l.length+1
 |[]=>by simp[RuS.pieces]
 |b :: l=>by
  have a:=IU c l;unfold RuS.pieces;split
  ·simp only[aN];omega
  ·obtain⟨p,ps,hp⟩:=RuS.pieces_ne c l;rw[hp] at a⊢;simp only[aN] at a⊢;omega
theorem AfM(s:ByteArray)(B:s.size<=1000000)(w:World)(hE:Env w):Calls prog 182 #[.string s] w (WC s.data.toList w):=by
 have h:=Aey s 32 (by omega) w hE;have g:=IU 32 s.data.toList;rw[<-Lib.size_eq] at g;have z:Hid (RuS.wordsL s.data.toList=(RuS.pieces 32 s.data.toList).filter (λp=>!p.isEmpty)):=hZ9 rfl;generalize RuS.pieces 32 s.data.toList=ps at*;have r:=Whole.made w 9 (ps.map Ac).toArray;go_enter func182,ntmps182;go_wp2_with fail;refine h.mono ?_;rintro e w1 ⟨n,t,rfl,rfl⟩;have f:=hZ9 t;have u:n<=1000001:=by omega
 clear t g h;have hb0:Below w.heap.size w (w.alloc (.cells (ps.map Ac).toArray 9)):=Af w _;generalize o:(w.alloc (.cells (ps.map Ac).toArray 9))=w0 at*;have hsz:w.heap.size<w0.heap.size:=r.lt;clear o;go_wp2_with fail;go_loopw [3,9] (λv i wr=>AcH ps w0 v i wr) (λ_ i _=>n-(intOf i).toNat)
 case atStart=>exact⟨0,aR _,rfl,Own.empty _ _,Below.refl _ _⟩
 case round=>
  obtain⟨k,hk,rfl,a,hb⟩:=hrel;by_cases l:k<n
  ·have b:k<ps.length:=by rw[<-f.out];exact l
   have hc:wr.cell? ⟨w.heap.size,k,none⟩=some (Ac ps[k]):=by rw[hb.cell (p:=⟨w.heap.size,k,none⟩) hsz,r.cell k];simp[b]
   unfold Ac at hc;have x:=hZ9 (QW ps k b);have m:=hZ9 (RP ps k b);have q:=RO ps k;rw[<-f.out] at q;generalize ps[k]=p at*;generalize (ps.take k).filter (λp=>!p.isEmpty)=acc at*;clear b;cases hp:p.isEmpty with
   |true=>
    have HP:=hZ9 hp;go_wp2_with fail;go_roundw
    case rel=>exact⟨k+1,by rw[<-f.out];omega,by go_num,by rw[m.out HP.out];exact a,hb⟩
    case measure=>simp[intOf];omega
   |false=>
    have HP:=hZ9 hp;go_wp2_with (at_builtin;refine Hz (by rfl) _ _ (by rfl) w0.heap.size _ acc (by rfl) (a.alloc _) wr.heap.size (by rfl) p ?c1 ?c2 ?c3 ?_)
    case c1=>simp[go_sem,Ac]
    case c2=>omega
    case c3=>have:=hb.size;simp;omega
    intro A w2 d j;go_wp2_with fail;go_roundw
    case rel=>exact⟨k+1,by rw[<-f.out];omega,by go_num,by rw[x.out HP.out];exact d,(hb.alloc hb.size _).trans j⟩
    case measure=>simp[intOf];omega
  ·have y:k=n:=by rw[<-f.out] at hk;omega
   have c:ps.take k=ps:=af (by rw[<-f.out];omega);rw[c,<-z.out] at a;clear c;go_wp2_with fail;go_ret;exact⟨_,rfl,a.strs,hb0.trans (hb.mono (dF hsz))⟩
end
section
open Go.RowKit
def Ak(l:iK)(w:World)(e:Ending)(w':World):Prop:=e=.returned (.tuple #[.string ⟨(RuS.typeOf l).1.toArray⟩,.int .i64 (RuS.typeOf l).2])/\Below w.heap.size w w'
theorem Ak.mk'{l:iK}{w w':World}{r:iK×Int}(h:RuS.typeOf l=r)(hb:Below w.heap.size w w'):Ak l w (.returned (.tuple #[r.1,r.2])) w':=by unfold Ak;rw[h];exact⟨rfl,hb⟩
theorem Cm{l m:iK}{r:iK×Int}(a:RuS.lower l=m)(h:RuS.typeM m=r):RuS.typeOf l=r:=by unfold RuS.typeOf;rw[a];exact h
theorem AcI(s:ByteArray)(d:s.size<=9223372036854775807)(m:iK)(a:RuS.lower s.data.toList=m)(h0:(m==[111,98,106,101,99,116,99,108,97,115,115])=true)(w:World):Calls prog 66 #[.string s] w (Ak s.data.toList w):=by have c:=λw=>BD s d w;unfold Cb at c;rw[a] at c;have HR:=hZ9 (Cm a (show RuS.typeM m=([111,98,106,101,99,116,67,108,97,115,115],1) from by rw[ag.1 h0];decide+kernel));clear a;go_enter func66,ntmps66;go_wp2_with fail;refine(c _).mono ?_;rintro e w1 ⟨rfl,b⟩;go_wp2_with fail;go_ret2;exact Ak.mk' HR.out b
theorem AcJ(s:ByteArray)(g:s.size<=9223372036854775807)(m:iK)(c:RuS.lower s.data.toList=m)(h0:(m==[111,98,106,101,99,116,99,108,97,115,115])=false)(h1:(m==[99,110])=true)(w:World):Calls prog 66 #[.string s] w (Ak s.data.toList w):=by have a:=λw=>BD s g w;unfold Cb at a;rw[c] at a;have HR:=hZ9 (Cm c (show RuS.typeM m=([99,110],1) from by rw[ag.1 h1];decide+kernel));have f:=hZ9 (ag.1 h1);clear c;go_enter func66,ntmps66;go_wp2_with fail;refine(a _).mono ?_;rintro e w1 ⟨rfl,d⟩;go_wp2_with fail;refine(a _).mono ?_;rintro e w2 ⟨rfl,b⟩;go_wp2_with fail;go_ret2;have:=Ak.mk' HR.out (Aa d b);rw[f.out];exact this
theorem AcK(s:ByteArray)(g:s.size<=9223372036854775807)(m:iK)(c:RuS.lower s.data.toList=m)(h0:(m==[111,98,106,101,99,116,99,108,97,115,115])=false)(h1:(m==[99,110])=false)(h2:(m==[111,117])=true)(w:World):Calls prog 66 #[.string s] w (Ak s.data.toList w):=by have a:=λw=>BD s g w;unfold Cb at a;rw[c] at a;have HR:=hZ9 (Cm c (show RuS.typeM m=([111,117],1) from by rw[ag.1 h2];decide+kernel));have f:=hZ9 (ag.1 h2);clear c;go_enter func66,ntmps66;go_wp2_with fail;refine(a _).mono ?_;rintro e w1 ⟨rfl,d⟩;go_wp2_with fail;refine(a _).mono ?_;rintro e w2 ⟨rfl,b⟩;go_wp2_with fail;go_ret2;have:=Ak.mk' HR.out (Aa d b);rw[f.out];exact this
theorem AcL(s:ByteArray)(g:s.size<=9223372036854775807)(m:iK)(c:RuS.lower s.data.toList=m)(h0:(m==[111,98,106,101,99,116,99,108,97,115,115])=false)(h1:(m==[99,110])=false)(h2:(m==[111,117])=false)(h3:(m==[111])=true)(w:World):Calls prog 66 #[.string s] w (Ak s.data.toList w):=by have a:=λw=>BD s g w;unfold Cb at a;rw[c] at a;have HR:=hZ9 (Cm c (show RuS.typeM m=([111],1) from by rw[ag.1 h3];decide+kernel));have f:=hZ9 (ag.1 h3);clear c;go_enter func66,ntmps66;go_wp2_with fail;refine(a _).mono ?_;rintro e w1 ⟨rfl,d⟩;go_wp2_with fail;refine(a _).mono ?_;rintro e w2 ⟨rfl,b⟩;go_wp2_with fail;go_ret2;have:=Ak.mk' HR.out (Aa d b);rw[f.out];exact this
theorem AcM(s:ByteArray)(g:s.size<=9223372036854775807)(m:iK)(c:RuS.lower s.data.toList=m)(h0:(m==[111,98,106,101,99,116,99,108,97,115,115])=false)(h1:(m==[99,110])=false)(h2:(m==[111,117])=false)(h3:(m==[111])=false)(h4:(m==[100,99])=true)(w:World):Calls prog 66 #[.string s] w (Ak s.data.toList w):=by have a:=λw=>BD s g w;unfold Cb at a;rw[c] at a;have HR:=hZ9 (Cm c (show RuS.typeM m=([100,99],1) from by rw[ag.1 h4];decide+kernel));have f:=hZ9 (ag.1 h4);clear c;go_enter func66,ntmps66;go_wp2_with fail;refine(a _).mono ?_;rintro e w1 ⟨rfl,d⟩;go_wp2_with fail;refine(a _).mono ?_;rintro e w2 ⟨rfl,b⟩;go_wp2_with fail;go_ret2;have:=Ak.mk' HR.out (Aa d b);rw[f.out];exact this
theorem AcN(s:ByteArray)(g:s.size<=9223372036854775807)(m:iK)(c:RuS.lower s.data.toList=m)(h0:(m==[111,98,106,101,99,116,99,108,97,115,115])=false)(h1:(m==[99,110])=false)(h2:(m==[111,117])=false)(h3:(m==[111])=false)(h4:(m==[100,99])=false)(h5:(m==[117,105,100])=true)(w:World):Calls prog 66 #[.string s] w (Ak s.data.toList w):=by have a:=λw=>BD s g w;unfold Cb at a;rw[c] at a;have HR:=hZ9 (Cm c (show RuS.typeM m=([117,105,100],1) from by rw[ag.1 h5];decide+kernel));have f:=hZ9 (ag.1 h5);clear c;go_enter func66,ntmps66;go_wp2_with fail;refine(a _).mono ?_;rintro e w1 ⟨rfl,d⟩;go_wp2_with fail;refine(a _).mono ?_;rintro e w2 ⟨rfl,b⟩;go_wp2_with fail;go_ret2;have:=Ak.mk' HR.out (Aa d b);rw[f.out];exact this
theorem AcO(s:ByteArray)(g:s.size<=9223372036854775807)(m:iK)(c:RuS.lower s.data.toList=m)(h0:(m==[111,98,106,101,99,116,99,108,97,115,115])=false)(h1:(m==[99,110])=false)(h2:(m==[111,117])=false)(h3:(m==[111])=false)(h4:(m==[100,99])=false)(h5:(m==[117,105,100])=false)(h6:(m==[100,101,115,99,114,105,112,116,105,111,110])=true)(w:World):Calls prog 66 #[.string s] w (Ak s.data.toList w):=by have a:=λw=>BD s g w;unfold Cb at a;rw[c] at a;have HR:=hZ9 (Cm c (show RuS.typeM m=([100,101,115,99,114,105,112,116,105,111,110],1) from by rw[ag.1 h6];decide+kernel));have f:=hZ9 (ag.1 h6);clear c;go_enter func66,ntmps66;go_wp2_with fail;refine(a _).mono ?_;rintro e w1 ⟨rfl,d⟩;go_wp2_with fail;refine(a _).mono ?_;rintro e w2 ⟨rfl,b⟩;go_wp2_with fail;go_ret2;have:=Ak.mk' HR.out (Aa d b);rw[f.out];exact this
theorem AcP(s:ByteArray)(g:s.size<=9223372036854775807)(m:iK)(c:RuS.lower s.data.toList=m)(h0:(m==[111,98,106,101,99,116,99,108,97,115,115])=false)(h1:(m==[99,110])=false)(h2:(m==[111,117])=false)(h3:(m==[111])=false)(h4:(m==[100,99])=false)(h5:(m==[117,105,100])=false)(h6:(m==[100,101,115,99,114,105,112,116,105,111,110])=false)(h7:(m==[109,97,105,108])=true)(w:World):Calls prog 66 #[.string s] w (Ak s.data.toList w):=by have a:=λw=>BD s g w;unfold Cb at a;rw[c] at a;have HR:=hZ9 (Cm c (show RuS.typeM m=([109,97,105,108],1) from by rw[ag.1 h7];decide+kernel));have f:=hZ9 (ag.1 h7);clear c;go_enter func66,ntmps66;go_wp2_with fail;refine(a _).mono ?_;rintro e w1 ⟨rfl,d⟩;go_wp2_with fail;refine(a _).mono ?_;rintro e w2 ⟨rfl,b⟩;go_wp2_with fail;go_ret2;have:=Ak.mk' HR.out (Aa d b);rw[f.out];exact this
theorem AcQ(s:ByteArray)(d:s.size<=9223372036854775807)(m:iK)(a:RuS.lower s.data.toList=m)(h0:(m==[111,98,106,101,99,116,99,108,97,115,115])=false)(h1:(m==[99,110])=false)(h2:(m==[111,117])=false)(h3:(m==[111])=false)(h4:(m==[100,99])=false)(h5:(m==[117,105,100])=false)(h6:(m==[100,101,115,99,114,105,112,116,105,111,110])=false)(h7:(m==[109,97,105,108])=false)(h8:(m==[117,115,101,114,112,97,115,115,119,111,114,100])=true)(w:World):Calls prog 66 #[.string s] w (Ak s.data.toList w):=by have c:=λw=>BD s d w;unfold Cb at c;rw[a] at c;have HR:=hZ9 (Cm a (show RuS.typeM m=([117,115,101,114,80,97,115,115,119,111,114,100],2) from by rw[ag.1 h8];decide+kernel));clear a;go_enter func66,ntmps66;go_wp2_with fail;refine(c _).mono ?_;rintro e w1 ⟨rfl,b⟩;go_wp2_with fail;go_ret2;exact Ak.mk' HR.out b
theorem AcR(s:ByteArray)(d:s.size<=9223372036854775807)(m:iK)(a:RuS.lower s.data.toList=m)(h0:(m==[111,98,106,101,99,116,99,108,97,115,115])=false)(h1:(m==[99,110])=false)(h2:(m==[111,117])=false)(h3:(m==[111])=false)(h4:(m==[100,99])=false)(h5:(m==[117,105,100])=false)(h6:(m==[100,101,115,99,114,105,112,116,105,111,110])=false)(h7:(m==[109,97,105,108])=false)(h8:(m==[117,115,101,114,112,97,115,115,119,111,114,100])=false)(h9:(m==[114,101,102])=true)(w:World):Calls prog 66 #[.string s] w (Ak s.data.toList w):=by have c:=λw=>BD s d w;unfold Cb at c;rw[a] at c;have HR:=hZ9 (Cm a (show RuS.typeM m=([114,101,102],2) from by rw[ag.1 h9];decide+kernel));clear a;go_enter func66,ntmps66;go_wp2_with fail;refine(c _).mono ?_;rintro e w1 ⟨rfl,b⟩;go_wp2_with fail;go_ret2;exact Ak.mk' HR.out b
theorem Aa4(s:ByteArray)(d:s.size<=9223372036854775807)(m:iK)(a:RuS.lower s.data.toList=m)(h0:(m==[111,98,106,101,99,116,99,108,97,115,115])=false)(h1:(m==[99,110])=false)(h2:(m==[111,117])=false)(h3:(m==[111])=false)(h4:(m==[100,99])=false)(h5:(m==[117,105,100])=false)(h6:(m==[100,101,115,99,114,105,112,116,105,111,110])=false)(h7:(m==[109,97,105,108])=false)(h8:(m==[117,115,101,114,112,97,115,115,119,111,114,100])=false)(h9:(m==[114,101,102])=false)(h10:(m==[115,101,114,105,97,108,110,117,109,98,101,114])=true)(w:World):Calls prog 66 #[.string s] w (Ak s.data.toList w):=by have c:=λw=>BD s d w;unfold Cb at c;rw[a] at c;have HR:=hZ9 (Cm a (show RuS.typeM m=([115,101,114,105,97,108,78,117,109,98,101,114],3) from by rw[ag.1 h10];decide+kernel));clear a;go_enter func66,ntmps66;go_wp2_with fail;refine(c _).mono ?_;rintro e w1 ⟨rfl,b⟩;go_wp2_with fail;go_ret2;exact Ak.mk' HR.out b
theorem Aa5(s:ByteArray)(d:s.size<=9223372036854775807)(m:iK)(a:RuS.lower s.data.toList=m)(h0:(m==[111,98,106,101,99,116,99,108,97,115,115])=false)(h1:(m==[99,110])=false)(h2:(m==[111,117])=false)(h3:(m==[111])=false)(h4:(m==[100,99])=false)(h5:(m==[117,105,100])=false)(h6:(m==[100,101,115,99,114,105,112,116,105,111,110])=false)(h7:(m==[109,97,105,108])=false)(h8:(m==[117,115,101,114,112,97,115,115,119,111,114,100])=false)(h9:(m==[114,101,102])=false)(h10:(m==[115,101,114,105,97,108,110,117,109,98,101,114])=false)(h11:(m==[112,111,115,105,116,105,111,110])=true)(w:World):Calls prog 66 #[.string s] w (Ak s.data.toList w):=by have c:=λw=>BD s d w;unfold Cb at c;rw[a] at c;have HR:=hZ9 (Cm a (show RuS.typeM m=([112,111,115,105,116,105,111,110],4) from by rw[ag.1 h11];decide+kernel));clear a;go_enter func66,ntmps66;go_wp2_with fail;refine(c _).mono ?_;rintro e w1 ⟨rfl,b⟩;go_wp2_with fail;go_ret2;exact Ak.mk' HR.out b
theorem Aa6(s:ByteArray)(d:s.size<=9223372036854775807)(m:iK)(a:RuS.lower s.data.toList=m)(h0:(m==[111,98,106,101,99,116,99,108,97,115,115])=false)(h1:(m==[99,110])=false)(h2:(m==[111,117])=false)(h3:(m==[111])=false)(h4:(m==[100,99])=false)(h5:(m==[117,105,100])=false)(h6:(m==[100,101,115,99,114,105,112,116,105,111,110])=false)(h7:(m==[109,97,105,108])=false)(h8:(m==[117,115,101,114,112,97,115,115,119,111,114,100])=false)(h9:(m==[114,101,102])=false)(h10:(m==[115,101,114,105,97,108,110,117,109,98,101,114])=false)(h11:(m==[112,111,115,105,116,105,111,110])=false)(h12:(m==[97,108,105,97,115,101,100,111,98,106,101,99,116,110,97,109,101])=true)(w:World):Calls prog 66 #[.string s] w (Ak s.data.toList w):=by have c:=λw=>BD s d w;unfold Cb at c;rw[a] at c;have HR:=hZ9 (Cm a (show RuS.typeM m=([97,108,105,97,115,101,100,79,98,106,101,99,116,78,97,109,101],5) from by rw[ag.1 h12];decide+kernel));clear a;go_enter func66,ntmps66;go_wp2_with fail;refine(c _).mono ?_;rintro e w1 ⟨rfl,b⟩;go_wp2_with fail;go_ret2;exact Ak.mk' HR.out b
theorem Aa7(s:ByteArray)(d:s.size<=9223372036854775807)(m:iK)(a:RuS.lower s.data.toList=m)(h0:(m==[111,98,106,101,99,116,99,108,97,115,115])=false)(h1:(m==[99,110])=false)(h2:(m==[111,117])=false)(h3:(m==[111])=false)(h4:(m==[100,99])=false)(h5:(m==[117,105,100])=false)(h6:(m==[100,101,115,99,114,105,112,116,105,111,110])=false)(h7:(m==[109,97,105,108])=false)(h8:(m==[117,115,101,114,112,97,115,115,119,111,114,100])=false)(h9:(m==[114,101,102])=false)(h10:(m==[115,101,114,105,97,108,110,117,109,98,101,114])=false)(h11:(m==[112,111,115,105,116,105,111,110])=false)(h12:(m==[97,108,105,97,115,101,100,111,98,106,101,99,116,110,97,109,101])=false)(h13:(m==[109,101,109,98,101,114])=true)(w:World):Calls prog 66 #[.string s] w (Ak s.data.toList w):=by have c:=λw=>BD s d w;unfold Cb at c;rw[a] at c;have HR:=hZ9 (Cm a (show RuS.typeM m=([109,101,109,98,101,114],5) from by rw[ag.1 h13];decide+kernel));clear a;go_enter func66,ntmps66;go_wp2_with fail;refine(c _).mono ?_;rintro e w1 ⟨rfl,b⟩;go_wp2_with fail;go_ret2;exact Ak.mk' HR.out b
theorem Aa8(s:ByteArray)(d:s.size<=9223372036854775807)(m:iK)(a:RuS.lower s.data.toList=m)(h0:(m==[111,98,106,101,99,116,99,108,97,115,115])=false)(h1:(m==[99,110])=false)(h2:(m==[111,117])=false)(h3:(m==[111])=false)(h4:(m==[100,99])=false)(h5:(m==[117,105,100])=false)(h6:(m==[100,101,115,99,114,105,112,116,105,111,110])=false)(h7:(m==[109,97,105,108])=false)(h8:(m==[117,115,101,114,112,97,115,115,119,111,114,100])=false)(h9:(m==[114,101,102])=false)(h10:(m==[115,101,114,105,97,108,110,117,109,98,101,114])=false)(h11:(m==[112,111,115,105,116,105,111,110])=false)(h12:(m==[97,108,105,97,115,101,100,111,98,106,101,99,116,110,97,109,101])=false)(h13:(m==[109,101,109,98,101,114])=false)(w:World):Calls prog 66 #[.string s] w (Ak s.data.toList w):=by have c:=λw=>BD s d w;unfold Cb at c;rw[a] at c;have HR:=hZ9 (Cm a (show RuS.typeM m=([],0) from by unfold RuS.typeM RuS.tab;simp only[List.find?,h0,h1,h2,h3,h4,h5,h6,h7,h8,h9,h10,h11,h12,h13]));clear a;go_enter func66,ntmps66;go_wp2_with fail;refine(c _).mono ?_;rintro e w1 ⟨rfl,b⟩;go_wp2_with fail;go_ret2;exact Ak.mk' HR.out b
theorem Eb(s:ByteArray)(b:s.size<=9223372036854775807)(w:World):Calls prog 66 #[.string s] w (Ak s.data.toList w):=by
 generalize a:RuS.lower s.data.toList=m;cases h0:(m==[111,98,106,101,99,116,99,108,97,115,115]) with
 |true=>exact AcI s b m a h0 w
 |false=>
  cases h1:(m==[99,110]) with
  |true=>exact AcJ s b m a h0 h1 w
  |false=>
   cases h2:(m==[111,117]) with
   |true=>exact AcK s b m a h0 h1 h2 w
   |false=>
    cases h3:(m==[111]) with
    |true=>exact AcL s b m a h0 h1 h2 h3 w
    |false=>
     cases h4:(m==[100,99]) with
     |true=>exact AcM s b m a h0 h1 h2 h3 h4 w
     |false=>
      cases h5:(m==[117,105,100]) with
      |true=>exact AcN s b m a h0 h1 h2 h3 h4 h5 w
      |false=>
       cases h6:(m==[100,101,115,99,114,105,112,116,105,111,110]) with
       |true=>exact AcO s b m a h0 h1 h2 h3 h4 h5 h6 w
       |false=>
        cases h7:(m==[109,97,105,108]) with
        |true=>exact AcP s b m a h0 h1 h2 h3 h4 h5 h6 h7 w
        |false=>
         cases h8:(m==[117,115,101,114,112,97,115,115,119,111,114,100]) with
         |true=>exact AcQ s b m a h0 h1 h2 h3 h4 h5 h6 h7 h8 w
         |false=>
          cases h9:(m==[114,101,102]) with
          |true=>exact AcR s b m a h0 h1 h2 h3 h4 h5 h6 h7 h8 h9 w
          |false=>
           cases h10:(m==[115,101,114,105,97,108,110,117,109,98,101,114]) with
           |true=>exact Aa4 s b m a h0 h1 h2 h3 h4 h5 h6 h7 h8 h9 h10 w
           |false=>
            cases h11:(m==[112,111,115,105,116,105,111,110]) with
            |true=>exact Aa5 s b m a h0 h1 h2 h3 h4 h5 h6 h7 h8 h9 h10 h11 w
            |false=>
             cases h12:(m==[97,108,105,97,115,101,100,111,98,106,101,99,116,110,97,109,101]) with
             |true=>exact Aa6 s b m a h0 h1 h2 h3 h4 h5 h6 h7 h8 h9 h10 h11 h12 w
             |false=>
              cases h13:(m==[109,101,109,98,101,114]) with
              |true=>exact Aa7 s b m a h0 h1 h2 h3 h4 h5 h6 h7 h8 h9 h10 h11 h12 h13 w
              |false=>exact Aa8 s b m a h0 h1 h2 h3 h4 h5 h6 h7 h8 h9 h10 h11 h12 h13 w
end
section
open Go.RowKit
def Bj(L:List iK):Array Value:=(L.map Ac).toArray
def DK(w:World)(g:Nat)(wr:World):Prop:=
 Below w.heap.size w wr/\(∀k,1<=k->k<6->Whole wr (g+(k-1)) 9 (Bj (RuS.tabRow k)))/\
 Whole wr (g+5) 23 #[.slice none 0 0,.slice (some ⟨g,0,none⟩) 8 8,.slice (some ⟨g+1,0,none⟩) 2 2,.slice (some ⟨g+2,0,none⟩) 1 1,.slice (some ⟨g+3,0,none⟩) 1 1,.slice (some ⟨g+4,0,none⟩) 2 2]
theorem DK.call{w:World}{g:Nat}{wr w':World}(h:DK w g wr)(hb:Below wr.heap.size wr w'):DK w g w':=
 ⟨h.1.trans (hb.mono h.1.size),λk h1 h2=>(h.2.1 k h1 h2).call hb,h.2.2.call hb⟩
theorem DK.made(w:World):DK w w.heap.size ((((((w.alloc (Obj.cells (Bj (RuS.tabRow 1)) 9)).alloc (Obj.cells (Bj (RuS.tabRow 2)) 9)).alloc (Obj.cells (Bj (RuS.tabRow 3)) 9)).alloc
  (Obj.cells (Bj (RuS.tabRow 4)) 9)).alloc (Obj.cells (Bj (RuS.tabRow 5)) 9)).alloc
  (Obj.cells #[.slice none 0 0,.slice (some ⟨w.heap.size,0,none⟩) 8 8,.slice (some ⟨w.heap.size+1,0,none⟩) 2 2,.slice (some ⟨w.heap.size+1+1,0,none⟩) 1 1,.slice (some ⟨w.heap.size+1+1+1,0,none⟩) 1 1,.slice (some ⟨w.heap.size+1+1+1+1,0,none⟩) 2 2] 23)):=by
 have m1:=Whole.made w 9 (Bj (RuS.tabRow 1));have m2:=Whole.made (w.alloc (Obj.cells (Bj (RuS.tabRow 1)) 9)) 9 (Bj (RuS.tabRow 2));have m3:=Whole.made ((w.alloc (Obj.cells (Bj (RuS.tabRow 1)) 9)).alloc (Obj.cells (Bj (RuS.tabRow 2)) 9)) 9 (Bj (RuS.tabRow 3));have m4:=Whole.made (((w.alloc (Obj.cells (Bj (RuS.tabRow 1)) 9)).alloc (Obj.cells (Bj (RuS.tabRow 2)) 9)).alloc (Obj.cells (Bj (RuS.tabRow 3)) 9)) 9 (Bj (RuS.tabRow 4));have m5:=Whole.made ((((w.alloc (Obj.cells (Bj (RuS.tabRow 1)) 9)).alloc (Obj.cells (Bj (RuS.tabRow 2)) 9)).alloc (Obj.cells (Bj (RuS.tabRow 3)) 9)).alloc (Obj.cells (Bj (RuS.tabRow 4)) 9)) 9 (Bj (RuS.tabRow 5));have m6:=Whole.made (((((w.alloc (Obj.cells (Bj (RuS.tabRow 1)) 9)).alloc (Obj.cells (Bj (RuS.tabRow 2)) 9)).alloc (Obj.cells (Bj (RuS.tabRow 3)) 9)).alloc (Obj.cells (Bj (RuS.tabRow 4)) 9)).alloc (Obj.cells (Bj (RuS.tabRow 5)) 9)) 23
  #[.slice none 0 0,.slice (some ⟨w.heap.size,0,none⟩) 8 8,.slice (some ⟨w.heap.size+1,0,none⟩) 2 2,.slice (some ⟨w.heap.size+1+1,0,none⟩) 1 1,.slice (some ⟨w.heap.size+1+1+1,0,none⟩) 1 1,.slice (some ⟨w.heap.size+1+1+1+1,0,none⟩) 2 2]
 simp only[World.size_alloc] at m2 m3 m4 m5 m6;refine⟨BJ (BJ (BJ (BJ (BJ (BJ (Below.refl _ _) _) _) _) _) _) _,λk h1 h2=>?_,m6⟩;have hk:k=1\/k=2\/k=3\/k=4\/k=5:=by omega
 rcases hk with rfl|rfl|rfl|rfl|rfl
 ·exact((((m1.alloc _).alloc _).alloc _).alloc _).alloc _
 ·exact(((m2.alloc _).alloc _).alloc _).alloc _
 ·exact((m3.alloc _).alloc _).alloc _
 ·exact(m4.alloc _).alloc _
 ·exact m5.alloc _
theorem DK.nought{w:World}{g:Nat}{wr:World}(h:DK w g wr):wr.cell? ⟨g+5,0,none⟩=some (.slice none 0 0):=h.2.2.cell 0
theorem DK.hdr{w:World}{g:Nat}{wr:World}(h:DK w g wr){k:Nat}(h1:1<=k)(h2:k<6):
  wr.cell? ⟨g+5,k,none⟩=some (.slice (some ⟨g+(k-1),0,none⟩) (RuS.tabRow k).length (RuS.tabRow k).length):=by
 have hk:k=1\/k=2\/k=3\/k=4\/k=5:=by omega
 rcases hk with rfl|rfl|rfl|rfl|rfl
 ·exact h.2.2.cell 1
 ·exact h.2.2.cell 2
 ·exact h.2.2.cell 3
 ·exact h.2.2.cell 4
 ·exact h.2.2.cell 5
theorem DK.at{w:World}{g:Nat}{wr:World}(h:DK w g wr){k j:Nat}(h1:1<=k)(h2:k<6)(a:j<(RuS.tabRow k).length):
  wr.cell? ⟨g+(k-1),j,none⟩=some (.string ⟨((RuS.tabRow k)[j]).toArray⟩):=by
 rw[(h.2.1 k h1 h2).cell j];simp[Bj,Ac,a]
def Oe(m:iK)(k:Nat):Prop:=∀i,i<k->∀t∈RuS.tabRow i,¬RuS.lower t=m
def Hq(m:iK)(k j:Nat):Prop:=∀t∈(RuS.tabRow k).take j,¬RuS.lower t=m
theorem Oe.succ{m:iK}{k:Nat}(h:Oe m k)(h2:Hq m k (RuS.tabRow k).length):Oe m (k+1):=by
 intro i c t a;by_cases b:i=k
 ·subst b;rw[Hq,bA] at h2;exact h2 t a
 ·exact h i (by omega) t a
theorem Hq.succ{m:iK}{k j:Nat}(h:Hq m k j)(b:j<(RuS.tabRow k).length)(c:¬RuS.lower (RuS.tabRow k)[j]=m):Hq m k (j+1):=by
 intro t a;rw[aW b,bB] at a;rcases a with a|a
 ·exact h t a
 ·rw[aj] at a;subst a;exact c
theorem Hq.zero(m:iK)(k:Nat):Hq m k 0:=by intro t a;simp at a
theorem Tu:∀k:Fin 6,(RuS.tabRow k.val).length<=8/\∀t∈RuS.tabRow k.val,t.length<=17:=by decide+kernel
def AgD(w:World)(g:Nat)(m:iK)(v:Value)(wr:World):Prop:=∃k:Nat,k<=6/\v=.int .i64 k/\Oe m k/\DK w g wr
def AgE(w:World)(g:Nat)(m:iK)(k:Nat)(v:Value)(wr:World):Prop:=∃j:Nat,j<=(RuS.tabRow k).length/\v=.int .i64 j/\Hq m k j/\DK w g wr
theorem Gx(s:ByteArray)(O:s.size<=9223372036854775807)(w:World):Calls prog 51 #[.string s] w (Ak s.data.toList w):=by
 generalize A:RuS.lower s.data.toList=m;have H:=hZ9 A;have y:=λw=>lower_c s O w;unfold Cb at y;rw[A] at y;clear A;go_enter func51,ntmps51;go_wp2_with fail;go_loopw [15] (λv wr=>AgD w w.heap.size m v wr) (λv _=>6-(intOf v).toNat)
 case atStart=>exact⟨0,by omega,rfl,λi P=>absurd P (bj _),DK.made w⟩
 case round=>
  obtain⟨k,hk,rfl,E,o⟩:=hrel;by_cases a:k<6
  ·by_cases h0:k=0
   ·subst h0;have hc:=o.nought;go_wp2_with fail;refine wp_loop_rounds 1 ?_;rw[rounds_succ];go_wp2_with fail;go_roundw
    case rel=>exact⟨1,by omega,rfl,E.succ (by intro t o;cases o),o⟩
    case measure=>simp[intOf]
   ·have q:1<=k:=by omega
    have hc:=o.hdr q a;have F:=(Tu ⟨k,a⟩).1;simp only at F;generalize u:(RuS.tabRow k).length=n at*;have x:=hZ9 u;clear u;have N:decide ((k:Int)<6)=true:=aI (by omega);go_wp2_with fail;obtain⟨J,rfl⟩:∃J:World,J=wr:=⟨_,rfl⟩
    go_loopw [22] (λv wr=>AgE w w.heap.size m k v wr) (λv _=>n-(intOf v).toNat)
    case atStart=>exact⟨0,by omega,rfl,Hq.zero _ _,o⟩
    case round=>
     obtain⟨j,K,rfl,r,c⟩:=hrel;by_cases C:j<n
     ·have d:j<(RuS.tabRow k).length:=by rw[x.out];exact C
      have L:=c.at q a d;have g:=aZ d;have Q:=(Tu ⟨k,a⟩).2 _ g;have p:=hZ9 (λh=>r.succ d h);have B:=hZ9 (λh=>RuS.typeM_hit (m:=m) a g h);clear g;generalize (RuS.tabRow k)[j]=t at*;have b:=λw=>lower_c ⟨t.toArray⟩ (by show t.length<=_;omega) w;unfold Cb at b;clear hc d;cases I:(RuS.lower t==m) with
      |true=>have HR:=hZ9 (Cm H.out (B.out (ag.1 I)));go_wp2_with fail;refine(b _).mono ?_;rintro e w1 ⟨rfl,l⟩;go_wp2_with fail;refine(y _).mono ?_;rintro e w2 ⟨rfl,f⟩;go_wp2_with fail;go_ret2;exact Ak.mk' HR.out ((c.call l).call f).1
      |false=>
       have M:=hZ9 (aV.1 I);go_wp2_with fail;refine(b _).mono ?_;rintro e w1 ⟨rfl,l⟩;go_wp2_with fail;refine(y _).mono ?_;rintro e w2 ⟨rfl,f⟩;go_wp2_with fail;go_roundw
       case rel=>exact⟨j+1,by rw[x.out];omega,by go_num,p.out M.out,(c.call l).call f⟩
       case measure=>simp[intOf];omega
     ·have G:j=n:=by rw[x.out] at K;omega
      subst G;go_wp2_with fail;go_roundw
      case rel=>exact⟨k+1,by omega,by go_num,E.succ (by rw[x.out];exact r),c⟩
      case measure=>simp[intOf];omega
  ·have z:k=6:=by omega
   subst z;have HR:=hZ9 (Cm H.out (RuS.typeM_none E));go_wp2_with fail;go_ret2;exact Ak.mk' HR.out o.1
end
