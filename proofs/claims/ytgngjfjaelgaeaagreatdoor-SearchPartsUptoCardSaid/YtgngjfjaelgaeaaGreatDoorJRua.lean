/- Plain laws of filters: how they are formed, written and read; what was written is read as it was. Conditions: as stated. -/
import Derived.Test.YtgngjfjaelgaeaaGreatDoorJRdS
import Derived.Test.YtgngjfjaelgaeaaGreatDoorJMem
set_option maxRecDepth 100000
namespace Go.Proofs.YtgngjfjaelgaeaaGreatDoor
open Go.Proofs.Tryz
section
namespace FiS
open Go.Lib RdS
inductive Fi where
 | mk (kind:Int) (attr value first last:List UInt8) (any:List (List UInt8)) (parts:List Fi)
namespace Fi
def kind:Fi->Int | .mk k _ _ _ _ _ _=>k
def attr:Fi->List UInt8 | .mk _ a _ _ _ _ _=>a
def value:Fi->List UInt8 | .mk _ _ v _ _ _ _=>v
def first:Fi->List UInt8 | .mk _ _ _ f _ _ _=>f
def last:Fi->List UInt8 | .mk _ _ _ _ l _ _=>l
def any:Fi->List (List UInt8) | .mk _ _ _ _ _ s _=>s
def parts:Fi->List Fi | .mk _ _ _ _ _ _ p=>p
end Fi
mutual
def nodes:Fi->Nat
 | .mk _ _ _ _ _ _ ps=>1+Bi ps
def Bi:List Fi->Nat
 | []=>0
 | p :: r=>nodes p+Bi r
end
mutual
def depth:Fi->Nat
 | .mk _ _ _ _ _ _ ps=>1+BK ps
def BK:List Fi->Nat
 | []=>0
 | p :: r=>max (depth p) (BK r)
end
def AY (c:UInt8):Bool:=decide (65<=c.toNat/\c.toNat<=90)||decide (97<=c.toNat/\c.toNat<=122)
def isDig (c:UInt8):Bool:=decide (48<=c.toNat/\c.toNat<=57)
def Hh (c:UInt8):Bool:=AY c||isDig c||c==45
def Gu:List UInt8->Bool
 | []=>false
 | c :: r=>AY c&&r.all Hh&&decide ((c :: r).length<=40)
def BN (s:List UInt8):Bool:=!s.isEmpty&&decide (s.length<=200)
def Gn (f l:List UInt8) (s:List (List UInt8)):Bool:=!f.isEmpty||!l.isEmpty||decide (0<s.length)
def JE (a:List UInt8) (n:Nat):Bool:=decide (n=0)&&Gu a
def Ny (k:Int) (a v f l:List UInt8) (s:List (List UInt8)) (n:Nat):Bool:=
 if k=0\/k=1 then a.isEmpty&&v.isEmpty&&!Gn f l s
 else if k=2 then a.isEmpty&&v.isEmpty&&!Gn f l s&&decide (n=1)
 else if k=3\/k=5\/k=6\/k=8 then JE a n&&BN v&&!Gn f l s
 else if k=7 then JE a n&&v.isEmpty&&!Gn f l s
 else if k=4 then JE a n&&v.isEmpty&&Gn f l s&&decide (f.length<=200)&&decide (l.length<=200)&&s.all BN
 else false
def Hj (x:Fi):Bool:=Ny x.kind x.attr x.value x.first x.last x.any x.parts.length
mutual
def Dp:Fi->Bool
 | .mk k a v f l s ps=>Hj (.mk k a v f l s ps)&&allL ps
def allL:List Fi->Bool
 | []=>true
 | p :: r=>Dp p&&allL r
end
def formedS (x:Fi):Bool:=decide (nodes x<=40)&&(decide (depth x<=20)&&Dp x)
def bad (c:UInt8):Bool:=decide (c.toNat<32)||decide (126<c.toNat)||[42,40,41,92].contains c
def Agz (c:UInt8):List UInt8:=if bad c=true then [92,BI (c.toNat / 16),BI (c.toNat % 16)] else [c]
def VV:List UInt8->List UInt8
 | []=>[]
 | c :: r=>Agz c++VV r
def Agn (k:Int):List UInt8:=if k=5 then [62,61] else if k=6 then [60,61] else if k=8 then [126,61] else [61]
def Aex:List (List UInt8)->List UInt8
 | []=>[]
 | p :: r=>42 :: (VV p++Aex r)
def opC (k:Int):UInt8:=if k=0 then 38 else if k=1 then 124 else 33
def Ago (k:Int) (a v f l:List UInt8) (s:List (List UInt8)):List UInt8:=
 if k=7 then a++[61,42]
 else if k=4 then a++61 :: (VV f++(Aex s++42 :: VV l))
 else a++Agn k++VV v
def Agp (x:Fi):List UInt8:=Ago x.kind x.attr x.value x.first x.last x.any
def inner (k:Int):Bool:=decide (k=0\/k=1\/k=2)
mutual
def textS:Fi->List UInt8
 | .mk k a v f l s ps=>40 :: ((if inner k=true then opC k :: Aey ps else Agp (.mk k a v f l s ps))++[41])
def Aey:List Fi->List UInt8
 | []=>[]
 | p :: r=>textS p++Aey r
end
def printS (x:Fi):List UInt8 × Int:=if formedS x=true then (textS x,0) else ([],1)
def Gp:List UInt8->Option (List UInt8)
 | []=>some []
 | c :: r=>if c=92 then (match r with
   | a :: b :: q=>match hexOf a,hexOf b with
    | some x,some y=>(Gp q).map (UInt8.ofNat (16*x+y) :: ·)
    | _,_=>none
   | _=>none)
  else if bad c=true then none else (Gp r).map (c :: ·)
def AbY:List (List UInt8)->Option (List (List UInt8))
 | []=>some []
 | p :: r=>match Gp p,AbY r with
  | some v,some l=>some (v :: l)
  | _,_=>none
def isSign (c:UInt8):Bool:=[61,60,62,126].contains c
def Aff (a:List UInt8):List (List UInt8)->Fi
 | [v]=>.mk 3 a v [] [] [] []
 | l=>.mk 4 a [] (l.headD []) (l.getLastD []) ((l.drop 1).dropLast) []
def Agq (a v:List UInt8):Option Fi:=if v=[42] then some (.mk 7 a [] [] [] [] []) else (AbY (RuS.pieces 42 v)).map (Aff a)
def Nz (s:List UInt8):Option Fi:=
 if [62,61].isPrefixOf (s.dropWhile (fun c=>!isSign c))=true then (Gp ((s.dropWhile (fun c=>!isSign c)).drop 2)).map (fun v=>.mk 5 (s.takeWhile (fun c=>!isSign c)) v [] [] [] [])
 else if [60,61].isPrefixOf (s.dropWhile (fun c=>!isSign c))=true then (Gp ((s.dropWhile (fun c=>!isSign c)).drop 2)).map (fun v=>.mk 6 (s.takeWhile (fun c=>!isSign c)) v [] [] [] [])
 else if [126,61].isPrefixOf (s.dropWhile (fun c=>!isSign c))=true then (Gp ((s.dropWhile (fun c=>!isSign c)).drop 2)).map (fun v=>.mk 8 (s.takeWhile (fun c=>!isSign c)) v [] [] [] [])
 else if [61].isPrefixOf (s.dropWhile (fun c=>!isSign c))=true then Agq (s.takeWhile (fun c=>!isSign c)) ((s.dropWhile (fun c=>!isSign c)).drop 1)
 else none
def opK (c:UInt8):Option Int:=if c=38 then some 0 else if c=124 then some 1 else if c=33 then some 2 else none
def ZK:List UInt8->Option (List UInt8 × List UInt8)
 | []=>none
 | c :: r=>if c=41 then some ([],r) else (ZK r).map (fun p=>(c :: p.1,p.2))
def ZM:List UInt8->Option (UInt8 × List UInt8)
 | b :: c :: r=>if b=40 then some (c,r) else none
 | _=>none
def ZN (n:Nat) (c:UInt8) (r:List UInt8):Option (Fi × List UInt8 × Nat):=match ZK (c :: r) with
 | some (item,rest)=>(Nz item).map (fun x=>(x,rest,n))
 | none=>none
mutual
def FY:Nat->Nat->Nat->List UInt8->Option (Fi × List UInt8 × Nat)
 | 0,_,_,_=>none
 | F+1,n,d,s=>if n=0\/20<d then none else match ZM s with
  | none=>none
  | some (c,r)=>match opK c with
   | some k=>(ES F (n - 1) d r).map (fun q=>(.mk k [] [] [] [] [] q.1,q.2))
   | none=>ZN (n - 1) c r
def ES:Nat->Nat->Nat->List UInt8->Option (List Fi × List UInt8 × Nat)
 | 0,_,_,_=>none
 | F+1,n,d,s=>if s.head?=some 41 then some ([],s.drop 1,n) else match FY F n (d+1) s with
  | some (p,r,m)=>(ES F m d r).map (fun q=>(p :: q.1,q.2))
  | none=>none
end
theorem Qr:∀(F n d:Nat) (s:List UInt8),(∀x r m,FY F n d s=some (x,r,m)->m<n)/\(∀x r m,ES F n d s=some (x,r,m)->m<=n):=by
 intro F
 induction F with
 | zero=>intro n d s;exact ⟨fun x r m h=>by simp [FY] at h,fun x r m h=>by simp [ES] at h⟩
 | succ F b=>
  intro n d s;refine ⟨fun x r m h=>?_,fun x r m h=>?_⟩
  · rw [FY] at h;split at h
    · cases h
    · rename_i g;split at h
      · cases h
      · split at h
        · rw [bH] at h;obtain ⟨⟨f,e,c⟩,a,h2⟩:=h;simp only [bR] at h2;have:=(b (n - 1) d _).2 _ _ _ a;omega
        · unfold ZN at h;split at h
          · rw [bH] at h;obtain ⟨q,a,h2⟩:=h;simp only [bR] at h2;omega
          · cases h
  · rw [ES] at h;split at h
    · simp only [bn,bR] at h;omega
    · split at h
      · rename_i p q k hp;rw [bH] at h;obtain ⟨⟨f,e,c⟩,a,h2⟩:=h;simp only [bR] at h2;have h4:=(b n (d+1) s).1 _ _ _ hp;have h5:=(b k d q).2 _ _ _ a;omega
      · cases h
theorem ZO:∀(F n d:Nat) (s:List UInt8),(2*n+1<=F->FY (F+1) n d s=FY F n d s)/\(2*n+2<=F->ES (F+1) n d s=ES F n d s):=by
 intro F
 induction F with
 | zero=>intro n d s;exact ⟨fun h=>by omega,fun h=>by omega⟩
 | succ F b=>
  intro n d s;refine ⟨fun h=>?_,fun h=>?_⟩
  · rw [FY,FY];by_cases a:n=0\/20<d
    · rw [aP a,aP a]
    · rw [aG a,aG a];cases ZM s with
      | none=>rfl
      | some q=>obtain ⟨c,r⟩:=q;simp only;rw [(b (n - 1) d r).2 (by omega)]
  · rw [ES,ES,(b n (d+1) s).1 (by omega)];split
    · rfl
    · split
      · rename_i p q k hp;have:=(Qr F n (d+1) s).1 _ _ _ hp;rw [(b k d q).2 (by omega)]
      · rfl
def readS (n d:Nat) (s:List UInt8):Option (Fi × List UInt8 × Nat):=FY (2*n+1) n d s
def partsS (n d:Nat) (s:List UInt8):Option (List Fi × List UInt8 × Nat):=ES (2*n+2) n d s
theorem ZP {n d:Nat} {s:List UInt8} {x:Fi} {r:List UInt8} {m:Nat} (h:readS n d s=some (x,r,m)):m<n:=(Qr _ n d s).1 _ _ _ h
theorem ZQ {n d:Nat} {s:List UInt8}:∀F,2*n+2<=F->ES F n d s=partsS n d s:=by
 intro F h
 induction F with
 | zero=>omega
 | succ F a=>
  by_cases h2:2*n+2<=F
  · rw [(ZO F n d s).2 h2];exact a h2
  · have:F+1=2*n+2:=by omega
    rw [this];rfl
theorem partsS_step {n d:Nat} {s:List UInt8} (h:s.head?≠some 41):partsS n d s=match readS n (d+1) s with
  | some (p,r,m)=>(partsS m d r).map (fun q=>(p :: q.1,q.2))
  | none=>none:=by
 unfold partsS;rw [ES,aG h];have e:FY (2*n+1) n (d+1) s=readS n (d+1) s:=rfl;rw [e];cases a:readS n (d+1) s with
 | none=>rfl
 | some q=>obtain ⟨p,r,m⟩:=q;have:=ZP a;simp only;rw [ZQ (n:=m) _ (by omega)];rfl
end FiS
end
section
open Go.RowKit
theorem AfU:∀n:Fin 26,bits BinOp.or IntKind.u8 ((n.val+65:Nat):Int) 32=((n.val+97:Nat):Int):=by decide
theorem Ag0 {c:UInt8} (h1:65<=c.toNat) (h2:c.toNat<=90):bits BinOp.or IntKind.u8 (c.toNat:Int) 32=((c.toNat+32:Nat):Int):=by have h:=AfU ⟨c.toNat - 65,by omega⟩;simp only at h;rw [show c.toNat - 65+65=c.toNat from by omega,show c.toNat - 65+97=c.toNat+32 from by omega] at h;exact h
def Ce (l:List UInt8) (w:World) (e:Ending) (w':World):Prop:=e=.returned (.string ⟨(RuS.lower l).toArray⟩)/\Below w.heap.size w w'
def Ym (s:ByteArray) (w:World) (i:Value) (wr:World):Prop:=∃k:Nat,k<=s.size/\i=.int .i64 k/\BytesIn wr w.heap.size (RuS.half s.data.toList k)/\Below w.heap.size w wr
theorem lower_c (s:ByteArray) (r:s.size<=9223372036854775807) (w:World):Calls prog 86 #[.string s] w (Ce s.data.toList w):=by
 have g:=fun w=>Lib.run_convert_string_bytes (P:=prog) w 9 157 5 s underlying9 underlying157 underlying5;have n:s.size<=grownCap w s.size 0 5:=grownCap_ge _ _ _ _;have hb0:=BytesIn.conv w 5 s;have h:=Lib.bytesWorld_below w 5 s;go_enter func86,ntmps86;go_wp2_with fail;clear g;generalize grownCap w s.size 0 5=cap at*;generalize Lib.bytesWorld w 5 s=w0 at*;go_loopw [10] (fun i wr=>Ym s w i wr) (fun i _=>s.size - (intOf i).toNat)
 case atStart=>exact ⟨0,aR _,rfl,by rw [RuS.half_zero];exact hb0,h⟩
 case round=>
  obtain ⟨k,hk,rfl,a,e⟩:=hrel;clear hb0 h;by_cases l:k<s.size
  · have d:k<(RuS.half s.data.toList k).length:=by rw [RuS.half_length,<-Lib.size_eq];exact l
    have hc:=a.cell d;have t:=a.thaw d;have b:k<s.data.toList.length:=by rw [<-Lib.size_eq];exact l
    rw [RuS.half_at _ _ b] at hc;have q:=hZ9 (RuS.half_succ s.data.toList k b);have o:=hZ9 (RuS.half_keep s.data.toList k b);generalize s.data.toList[k]=c at*;clear d b;by_cases h1:65<=c.toNat
    · by_cases h2:c.toNat<=90
      · have p:=hZ9 (Ag0 h1 h2);have j:=hZ9 (RuS.lowC_toNat h1 h2);go_wp2_with fail;go_roundw
        case rel=>refine ⟨k+1,by omega,by go_num,?_,e.setCell (aA _) _⟩;rw [q.out,p.out,<-j.out];exact a.put _ _
        case measure=>simp [intOf];omega
      · have j:=hZ9 (RuS.lowC_no (c:=c) (by omega));go_wp2_with fail;go_roundw
        case rel=>exact ⟨k+1,by omega,by go_num,by rw [o.out j.out];exact a,e⟩
        case measure=>simp [intOf];omega
    · have j:=hZ9 (RuS.lowC_no (c:=c) (by omega));go_wp2_with fail;go_roundw
      case rel=>exact ⟨k+1,by omega,by go_num,by rw [o.out j.out];exact a,e⟩
      case measure=>simp [intOf];omega
  · have f:s.data.toList.length<=k:=by rw [<-Lib.size_eq];omega
    rw [RuS.half_all _ f] at a;have m:=a.back (P:=prog) 157 9 5 s.size cap (by rw [RuS.lower_length,<-Lib.size_eq]) underlying157 underlying5 underlying9;clear f;go_wp2_with fail;go_ret;exact ⟨rfl,e⟩
theorem BF (s:ByteArray) (q:s.size<=9223372036854775807) (w:World):Calls prog 103 #[.string s] w (Ce s.data.toList w):=by
 have g:=fun w=>Lib.run_convert_string_bytes (P:=prog) w 9 157 5 s underlying9 underlying157 underlying5;have n:s.size<=grownCap w s.size 0 5:=grownCap_ge _ _ _ _;have hb0:=BytesIn.conv w 5 s;have h:=Lib.bytesWorld_below w 5 s;go_enter func103,ntmps103;go_wp2_with fail;clear g;generalize grownCap w s.size 0 5=cap at*;generalize Lib.bytesWorld w 5 s=w0 at*;go_loopw [9] (fun i wr=>Ym s w i wr) (fun i _=>s.size - (intOf i).toNat)
 case atStart=>exact ⟨0,aR _,rfl,by rw [RuS.half_zero];exact hb0,h⟩
 case round=>
  obtain ⟨k,hk,rfl,a,e⟩:=hrel;clear hb0 h;by_cases l:k<s.size
  · have d:k<(RuS.half s.data.toList k).length:=by rw [RuS.half_length,<-Lib.size_eq];exact l
    have hc:=a.cell d;have r:=a.thaw d;have b:k<s.data.toList.length:=by rw [<-Lib.size_eq];exact l
    rw [RuS.half_at _ _ b] at hc;have p:=hZ9 (RuS.half_succ s.data.toList k b);have o:=hZ9 (RuS.half_keep s.data.toList k b);generalize s.data.toList[k]=c at*;clear d b;by_cases h1:65<=c.toNat
    · by_cases h2:c.toNat<=90
      · have j:=hZ9 (RuS.lowC_toNat h1 h2);go_wp2_with fail;go_roundw
        case rel=>refine ⟨k+1,by omega,by go_num,?_,e.setCell (aA _) _⟩;rw [p.out,show ((c.toNat:Int)+32)=((RuS.lowC c).toNat:Int) from by rw [j.out];rfl];exact a.put _ _
        case measure=>simp [intOf];omega
      · have j:=hZ9 (RuS.lowC_no (c:=c) (by omega));go_wp2_with fail;go_roundw
        case rel=>exact ⟨k+1,by omega,by go_num,by rw [o.out j.out];exact a,e⟩
        case measure=>simp [intOf];omega
    · have j:=hZ9 (RuS.lowC_no (c:=c) (by omega));go_wp2_with fail;go_roundw
      case rel=>exact ⟨k+1,by omega,by go_num,by rw [o.out j.out];exact a,e⟩
      case measure=>simp [intOf];omega
  · have f:s.data.toList.length<=k:=by rw [<-Lib.size_eq];omega
    rw [RuS.half_all _ f] at a;have m:=a.back (P:=prog) 157 9 5 s.size cap (by rw [RuS.lower_length,<-Lib.size_eq]) underlying157 underlying5 underlying9;clear f;go_wp2_with fail;go_ret;exact ⟨rfl,e⟩
end
section
open Go.RowKit
theorem TK (c:UInt8) (s:ByteArray):(Lib.splitB ⟨#[c]⟩ 0 (Lib.countB s ⟨#[c]⟩) s).map Value.string=(RuS.pieces c s.data.toList).map Ac:=by rw [<-RuS.split_pieces];have h:=Lib.splitB_data ⟨#[c]⟩ 0 (Lib.countB s ⟨#[c]⟩) s;have e:Lib.split s.data.toList [c]=Lib.splitK [c] 0 (Lib.countB s ⟨#[c]⟩) s.data.toList:=rfl;rw [e];have a:Lib.splitK [c] 0 (Lib.countB s ⟨#[c]⟩) s.data.toList=(Lib.splitB ⟨#[c]⟩ 0 (Lib.countB s ⟨#[c]⟩) s).map (·.data.toList):=h.symm;rw [a,cd];apply cQ;intro x _;obtain ⟨⟨l⟩⟩:=x;rfl
theorem AdH (s:ByteArray) (c:UInt8) (b:s.size<4294967281) (w:World) (hE:Env w):
  Calls prog 201 #[.string s,.string ⟨#[c]⟩] w fun e w'=>∃n:Nat,n=(RuS.pieces c s.data.toList).length/\e=.returned (.slice (some ⟨w.heap.size,0,none⟩) n n)/\
   w'=w.alloc (.cells ((RuS.pieces c s.data.toList).map Ac).toArray 9):=by
 obtain ⟨m,d⟩:=hE.maxLen;refine (strings_Split s ⟨#[c]⟩ m w b d (aA 1)).mono ?_;rintro e w' ⟨rfl,rfl⟩;have h:=TK c s;have a:=congrArg List.length h;rw [b7,b7,Lib.splitB_all ⟨#[c]⟩ (aA 1) 0 _ _ rfl] at a;exact ⟨_,rfl,by rw [a],by rw [h]⟩
def VW (l:List UInt8) (w:World) (e:Ending) (w':World):Prop:=∃v,e=.returned v/\Ah w' v (RuS.wordsL l)/\Below w.heap.size w w'
def AbZ (ps:List (List UInt8)) (w0:World) (v i:Value) (wr:World):Prop:=
 ∃k:Nat,k<=ps.length/\i=.int .i64 k/\Own wr w0.heap.size v ((ps.take k).filter (fun p=>!p.isEmpty))/\Below w0.heap.size w0 wr
theorem QZ (ps:List (List UInt8)) (k:Nat):((ps.take k).filter (fun p=>!p.isEmpty)).length<=ps.length:=by
 have h1:=bL (fun p:List UInt8=>!p.isEmpty) (ps.take k);have h2:(ps.take k).length<=ps.length:=by simp;omega
 omega
theorem Qs (ps:List (List UInt8)) (k:Nat) (h:k<ps.length) (hp:ps[k].isEmpty=false):(ps.take (k+1)).filter (fun p=>!p.isEmpty)=(ps.take k).filter (fun p=>!p.isEmpty)++[ps[k]]:=by rw [aX h,cM];simp [hp]
theorem Rb (ps:List (List UInt8)) (k:Nat) (h:k<ps.length) (hp:ps[k].isEmpty=true):(ps.take (k+1)).filter (fun p=>!p.isEmpty)=(ps.take k).filter (fun p=>!p.isEmpty):=by rw [aX h,cM];simp [hp]
theorem IE (c:UInt8):∀l:List UInt8,(RuS.pieces c l).length<=l.length+1
 | []=>by simp [RuS.pieces]
 | b :: l=>by
  have a:=IE c l;unfold RuS.pieces;split
  · simp only [aO];omega
  · obtain ⟨p,ps,hp⟩:=RuS.pieces_ne c l;rw [hp] at a⊢;simp only [aO] at a⊢;omega
theorem Afg (s:ByteArray) (B:s.size<=1000000) (w:World) (hE:Env w):Calls prog 182 #[.string s] w (VW s.data.toList w):=by
 have h:=AdH s 32 (by omega) w hE;have g:=IE 32 s.data.toList;rw [<-Lib.size_eq] at g;have y:Hid (RuS.wordsL s.data.toList=(RuS.pieces 32 s.data.toList).filter (fun p=>!p.isEmpty)):=hZ9 rfl;generalize RuS.pieces 32 s.data.toList=ps at*;have t:=Whole.made w 9 (ps.map Ac).toArray;go_enter func182,ntmps182;go_wp2_with fail;refine h.mono ?_;rintro e w1 ⟨n,r,rfl,rfl⟩;have f:=hZ9 r;have z:n<=1000001:=by omega
 clear r g h;have hb0:Below w.heap.size w (w.alloc (.cells (ps.map Ac).toArray 9)):=Af w _;generalize j:(w.alloc (.cells (ps.map Ac).toArray 9))=w0 at*;have hsz:w.heap.size<w0.heap.size:=t.lt;clear j;go_wp2_with fail;go_loopw [3,9] (fun v i wr=>AbZ ps w0 v i wr) (fun _ i _=>n - (intOf i).toNat)
 case atStart=>exact ⟨0,aR _,rfl,Own.empty _ _,Below.refl _ _⟩
 case round=>
  obtain ⟨k,hk,rfl,b,hb⟩:=hrel;by_cases o:k<n
  · have a:k<ps.length:=by rw [<-f.out];exact o
    have hc:wr.cell? ⟨w.heap.size,k,none⟩=some (Ac ps[k]):=by rw [hb.cell (p:=⟨w.heap.size,k,none⟩) hsz,t.cell k];simp [a]
    unfold Ac at hc;have u:=hZ9 (Qs ps k a);have q:=hZ9 (Rb ps k a);have m:=QZ ps k;rw [<-f.out] at m;generalize ps[k]=p at*;generalize (ps.take k).filter (fun p=>!p.isEmpty)=acc at*;clear a;cases hp:p.isEmpty with
    | true=>
     have HP:=hZ9 hp;go_wp2_with fail;go_roundw
     case rel=>exact ⟨k+1,by rw [<-f.out];omega,by go_num,by rw [q.out HP.out];exact b,hb⟩
     case measure=>simp [intOf];omega
    | false=>
     have HP:=hZ9 hp;go_wp2_with (at_builtin;refine Hr (by rfl) _ _ (by rfl) w0.heap.size _ acc (by rfl) (b.alloc _) wr.heap.size (by rfl) p ?c1 ?c2 ?c3 ?_)
     case c1=>simp [go_sem,Ac]
     case c2=>omega
     case c3=>have:=hb.size;simp;omega
     intro A w2 d l;go_wp2_with fail;go_roundw
     case rel=>exact ⟨k+1,by rw [<-f.out];omega,by go_num,by rw [u.out HP.out];exact d,(hb.alloc hb.size _).trans l⟩
     case measure=>simp [intOf];omega
  · have x:k=n:=by rw [<-f.out] at hk;omega
    have c:ps.take k=ps:=ag (by rw [<-f.out];omega);rw [c,<-y.out] at b;clear c;go_wp2_with fail;go_ret;exact ⟨_,rfl,b.strs,hb0.trans (hb.mono (dD hsz))⟩
end
end Go.Proofs.YtgngjfjaelgaeaaGreatDoor
