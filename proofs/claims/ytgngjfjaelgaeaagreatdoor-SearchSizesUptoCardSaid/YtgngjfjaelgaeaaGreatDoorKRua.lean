/- Plain laws of filters: how they are formed, written and read; what was written is read as it was. Conditions: as stated. -/
import Derived.Test.YtgngjfjaelgaeaaGreatDoorKRdS
import Derived.Test.YtgngjfjaelgaeaaGreatDoorKMem
set_option maxRecDepth 100000
namespace Go.Proofs.YtgngjfjaelgaeaaGreatDoor
section
namespace FiS
open Go.Lib RdS
inductive Fi where
 | mk (kind:Int) (attr value first last:List UInt8) (any:List (List UInt8)) (parts:List Fi)
namespace Fi
def kind:Fi->Int | .mk k _ _ _ _ _ _=>k
def attr:Fi->List UInt8 | .mk _ a _ _ _ _ _=>a
def value:Fi->List UInt8 | .mk _ _ v _ _ _ _=>v
def first:Fi->List UInt8 | .mk _ _ _ f _ _ _=>f
def last:Fi->List UInt8 | .mk _ _ _ _ l _ _=>l
def any:Fi->List (List UInt8) | .mk _ _ _ _ _ s _=>s
def parts:Fi->List Fi | .mk _ _ _ _ _ _ p=>p
end Fi
mutual
def nodes:Fi->Nat
 | .mk _ _ _ _ _ _ ps=>1+Bz ps
def Bz:List Fi->Nat
 | []=>0
 | p :: r=>nodes p+Bz r
end
mutual
def depth:Fi->Nat
 | .mk _ _ _ _ _ _ ps=>1+CQ ps
def CQ:List Fi->Nat
 | []=>0
 | p :: r=>max (depth p) (CQ r)
end
def Cj (c:UInt8):Bool:=decide (65<=c.toNat/\c.toNat<=90)||decide (97<=c.toNat/\c.toNat<=122)
def isDig (c:UInt8):Bool:=decide (48<=c.toNat/\c.toNat<=57)
def Jm (c:UInt8):Bool:=Cj c||isDig c||c==45
def KU:List UInt8->Bool
 | []=>false
 | c :: r=>Cj c&&r.all Jm&&decide ((c :: r).length<=40)
def DX (s:List UInt8):Bool:=!s.isEmpty&&decide (s.length<=200)
def Hu (f l:List UInt8) (s:List (List UInt8)):Bool:=!f.isEmpty||!l.isEmpty||decide (0<s.length)
def MU (a:List UInt8) (n:Nat):Bool:=decide (n=0)&&KU a
def PO (k:Int) (a v f l:List UInt8) (s:List (List UInt8)) (n:Nat):Bool:=
 if k=0\/k=1 then a.isEmpty&&v.isEmpty&&!Hu f l s
 else if k=2 then a.isEmpty&&v.isEmpty&&!Hu f l s&&decide (n=1)
 else if k=3\/k=5\/k=6\/k=8 then MU a n&&DX v&&!Hu f l s
 else if k=7 then MU a n&&v.isEmpty&&!Hu f l s
 else if k=4 then MU a n&&v.isEmpty&&Hu f l s&&decide (f.length<=200)&&decide (l.length<=200)&&s.all DX
 else false
def KV (x:Fi):Bool:=PO x.kind x.attr x.value x.first x.last x.any x.parts.length
mutual
def Ey:Fi->Bool
 | .mk k a v f l s ps=>KV (.mk k a v f l s ps)&&allL ps
def allL:List Fi->Bool
 | []=>true
 | p :: r=>Ey p&&allL r
end
def formedS (x:Fi):Bool:=decide (nodes x<=40)&&(decide (depth x<=20)&&Ey x)
def bad (c:UInt8):Bool:=decide (c.toNat<32)||decide (126<c.toNat)||[42,40,41,92].contains c
def Afx (c:UInt8):List UInt8:=if bad c=true then [92,Bj (c.toNat / 16),Bj (c.toNat % 16)] else [c]
def Vb:List UInt8->List UInt8
 | []=>[]
 | c :: r=>Afx c++Vb r
def Afm (k:Int):List UInt8:=if k=5 then [62,61] else if k=6 then [60,61] else if k=8 then [126,61] else [61]
def Ad8:List (List UInt8)->List UInt8
 | []=>[]
 | p :: r=>42 :: (Vb p++Ad8 r)
def opC (k:Int):UInt8:=if k=0 then 38 else if k=1 then 124 else 33
def Afn (k:Int) (a v f l:List UInt8) (s:List (List UInt8)):List UInt8:=
 if k=7 then a++[61,42]
 else if k=4 then a++61 :: (Vb f++(Ad8 s++42 :: Vb l))
 else a++Afm k++Vb v
def Afo (x:Fi):List UInt8:=Afn x.kind x.attr x.value x.first x.last x.any
def inner (k:Int):Bool:=decide (k=0\/k=1\/k=2)
mutual
def textS:Fi->List UInt8
 | .mk k a v f l s ps=>40 :: ((if inner k=true then opC k :: Ad9 ps else Afo (.mk k a v f l s ps))++[41])
def Ad9:List Fi->List UInt8
 | []=>[]
 | p :: r=>textS p++Ad9 r
end
def printS (x:Fi):List UInt8 × Int:=if formedS x=true then (textS x,0) else ([],1)
def FV:List UInt8->Option (List UInt8)
 | []=>some []
 | c :: r=>if c=92 then (match r with
   | a :: b :: q=>match hexOf a,hexOf b with
    | some x,some y=>(FV q).map (UInt8.ofNat (16*x+y) :: ·)
    | _,_=>none
   | _=>none)
  else if bad c=true then none else (FV r).map (c :: ·)
def Abs:List (List UInt8)->Option (List (List UInt8))
 | []=>some []
 | p :: r=>match FV p,Abs r with
  | some v,some l=>some (v :: l)
  | _,_=>none
def isSign (c:UInt8):Bool:=[61,60,62,126].contains c
def Aer (a:List UInt8):List (List UInt8)->Fi
 | [v]=>.mk 3 a v [] [] [] []
 | l=>.mk 4 a [] (l.headD []) (l.getLastD []) ((l.drop 1).dropLast) []
def Afp (a v:List UInt8):Option Fi:=if v=[42] then some (.mk 7 a [] [] [] [] []) else (Abs (RuS.pieces 42 v)).map (Aer a)
def MV (s:List UInt8):Option Fi:=
 if [62,61].isPrefixOf (s.dropWhile (fun c=>!isSign c))=true then (FV ((s.dropWhile (fun c=>!isSign c)).drop 2)).map (fun v=>.mk 5 (s.takeWhile (fun c=>!isSign c)) v [] [] [] [])
 else if [60,61].isPrefixOf (s.dropWhile (fun c=>!isSign c))=true then (FV ((s.dropWhile (fun c=>!isSign c)).drop 2)).map (fun v=>.mk 6 (s.takeWhile (fun c=>!isSign c)) v [] [] [] [])
 else if [126,61].isPrefixOf (s.dropWhile (fun c=>!isSign c))=true then (FV ((s.dropWhile (fun c=>!isSign c)).drop 2)).map (fun v=>.mk 8 (s.takeWhile (fun c=>!isSign c)) v [] [] [] [])
 else if [61].isPrefixOf (s.dropWhile (fun c=>!isSign c))=true then Afp (s.takeWhile (fun c=>!isSign c)) ((s.dropWhile (fun c=>!isSign c)).drop 1)
 else none
def opK (c:UInt8):Option Int:=if c=38 then some 0 else if c=124 then some 1 else if c=33 then some 2 else none
def YM:List UInt8->Option (List UInt8 × List UInt8)
 | []=>none
 | c :: r=>if c=41 then some ([],r) else (YM r).map (fun p=>(c :: p.1,p.2))
def YO:List UInt8->Option (UInt8 × List UInt8)
 | b :: c :: r=>if b=40 then some (c,r) else none
 | _=>none
def YP (n:Nat) (c:UInt8) (r:List UInt8):Option (Fi × List UInt8 × Nat):=match YM (c :: r) with
 | some (item,rest)=>(MV item).map (fun x=>(x,rest,n))
 | none=>none
mutual
def Fp:Nat->Nat->Nat->List UInt8->Option (Fi × List UInt8 × Nat)
 | 0,_,_,_=>none
 | F+1,n,d,s=>if n=0\/20<d then none else match YO s with
  | none=>none
  | some (c,r)=>match opK c with
   | some k=>(Ez F (n - 1) d r).map (fun q=>(.mk k [] [] [] [] [] q.1,q.2))
   | none=>YP (n - 1) c r
def Ez:Nat->Nat->Nat->List UInt8->Option (List Fi × List UInt8 × Nat)
 | 0,_,_,_=>none
 | F+1,n,d,s=>if s.head?=some 41 then some ([],s.drop 1,n) else match Fp F n (d+1) s with
  | some (p,r,m)=>(Ez F m d r).map (fun q=>(p :: q.1,q.2))
  | none=>none
end
theorem PQ:∀(F n d:Nat) (s:List UInt8),(∀x r m,Fp F n d s=some (x,r,m)->m<n)/\(∀x r m,Ez F n d s=some (x,r,m)->m<=n):=by
 intro F
 induction F with
 | zero=>intro n d s;exact ⟨fun x r m h=>by simp [Fp] at h,fun x r m h=>by simp [Ez] at h⟩
 | succ F ih=>
  intro n d s
  refine ⟨fun x r m h=>?_,fun x r m h=>?_⟩
  · rw [Fp] at h
    split at h
    · cases h
    · rename_i hn
      split at h
      · cases h
      · split at h
        · rw [Option.map_eq_some_iff] at h
          obtain ⟨⟨q1,q2,q3⟩,hq,h2⟩:=h
          simp only [Prod.mk.injEq] at h2
          have:=(ih (n - 1) d _).2 _ _ _ hq
          omega
        · unfold YP at h
          split at h
          · rw [Option.map_eq_some_iff] at h
            obtain ⟨q,hq,h2⟩:=h
            simp only [Prod.mk.injEq] at h2
            omega
          · cases h
  · rw [Ez] at h
    split at h
    · simp only [Option.some.injEq,Prod.mk.injEq] at h
      omega
    · split at h
      · rename_i p q k hp
        rw [Option.map_eq_some_iff] at h
        obtain ⟨⟨q1,q2,q3⟩,hq,h2⟩:=h
        simp only [Prod.mk.injEq] at h2
        have h4:=(ih n (d+1) s).1 _ _ _ hp
        have h5:=(ih k d q).2 _ _ _ hq
        omega
      · cases h
theorem YQ:∀(F n d:Nat) (s:List UInt8),(2*n+1<=F->Fp (F+1) n d s=Fp F n d s)/\(2*n+2<=F->Ez (F+1) n d s=Ez F n d s):=by
 intro F
 induction F with
 | zero=>intro n d s;exact ⟨fun h=>by omega,fun h=>by omega⟩
 | succ F ih=>
  intro n d s
  refine ⟨fun h=>?_,fun h=>?_⟩
  · rw [Fp,Fp]
    by_cases hn:n=0\/20<d
    · rw [if_pos hn,if_pos hn]
    · rw [if_neg hn,if_neg hn]
      cases YO s with
      | none=>rfl
      | some q=>
       obtain ⟨c,r⟩:=q
       simp only
       rw [(ih (n - 1) d r).2 (by omega)]
  · rw [Ez,Ez,(ih n (d+1) s).1 (by omega)]
    split
    · rfl
    · split
      · rename_i p q k hp
        have:=(PQ F n (d+1) s).1 _ _ _ hp
        rw [(ih k d q).2 (by omega)]
      · rfl
def readS (n d:Nat) (s:List UInt8):Option (Fi × List UInt8 × Nat):=Fp (2*n+1) n d s
def partsS (n d:Nat) (s:List UInt8):Option (List Fi × List UInt8 × Nat):=Ez (2*n+2) n d s
theorem YR {n d:Nat} {s:List UInt8} {x:Fi} {r:List UInt8} {m:Nat} (h:readS n d s=some (x,r,m)):m<n:=(PQ _ n d s).1 _ _ _ h
theorem YT {n d:Nat} {s:List UInt8}:∀F,2*n+2<=F->Ez F n d s=partsS n d s:=by
 intro F h
 induction F with
 | zero=>omega
 | succ F ih=>
  by_cases h2:2*n+2<=F
  · rw [(YQ F n d s).2 h2];exact ih h2
  · have:F+1=2*n+2:=by omega
    rw [this];rfl
theorem partsS_step {n d:Nat} {s:List UInt8} (h:s.head?≠some 41):partsS n d s=match readS n (d+1) s with
  | some (p,r,m)=>(partsS m d r).map (fun q=>(p :: q.1,q.2))
  | none=>none:=by
 unfold partsS
 rw [Ez,if_neg h]
 have e:Fp (2*n+1) n (d+1) s=readS n (d+1) s:=rfl
 rw [e]
 cases hr:readS n (d+1) s with
 | none=>rfl
 | some q=>
  obtain ⟨p,r,m⟩:=q
  have:=YR hr
  simp only
  rw [YT (n:=m) _ (by omega)]
  rfl
end FiS
end
section
open Go.RowKit
theorem AeX:∀n:Fin 26,bits BinOp.or IntKind.u8 ((n.val+65:Nat):Int) 32=((n.val+97:Nat):Int):=by decide
theorem Afy {c:UInt8} (h1:65<=c.toNat) (h2:c.toNat<=90):bits BinOp.or IntKind.u8 (c.toNat:Int) 32=((c.toNat+32:Nat):Int):=by
 have h:=AeX ⟨c.toNat - 65,by omega⟩
 simp only at h
 rw [show c.toNat - 65+65=c.toNat from by omega,show c.toNat - 65+97=c.toNat+32 from by omega] at h
 exact h
def BO (l:List UInt8) (w:World) (e:Ending) (w':World):Prop:=e=.returned (.string ⟨(RuS.lower l).toArray⟩)/\Below w.heap.size w w'
def Xu (s:ByteArray) (w:World) (i:Value) (wr:World):Prop:=∃k:Nat,k<=s.size/\i=.int .i64 k/\BytesIn wr w.heap.size (RuS.half s.data.toList k)/\Below w.heap.size w wr
theorem lower_c (s:ByteArray) (hs:s.size<=9223372036854775807) (w:World):Calls Tryz.prog 86 #[.string s] w (BO s.data.toList w):=by
 have A4:=fun w=>Lib.run_convert_string_bytes (P:=Tryz.prog) w 9 157 5 s Tryz.underlying9 Tryz.underlying157 Tryz.underlying5
 have A9:s.size<=grownCap w s.size 0 5:=grownCap_ge _ _ _ _
 have hb0:=BytesIn.conv w 5 s
 have A6:=Lib.bytesWorld_below w 5 s
 go_enter Tryz.func86,Tryz.ntmps86
 go_wp2_with fail
 clear A4
 generalize grownCap w s.size 0 5=cap at*
 generalize Lib.bytesWorld w 5 s=w0 at*
 go_loopw [10] (fun i wr=>Xu s w i wr) (fun i _=>s.size - (intOf i).toNat)
 case atStart=>exact ⟨0,Nat.zero_le _,rfl,by rw [RuS.half_zero];exact hb0,A6⟩
 case round=>
  obtain ⟨k,hk,rfl,A1,A5⟩:=hrel
  clear hb0 A6
  by_cases A8:k<s.size
  · have A2:k<(RuS.half s.data.toList k).length:=by rw [RuS.half_length,<-Lib.size_eq];exact A8
    have hc:=A1.cell A2
    have hf:=A1.thaw A2
    have A0:k<s.data.toList.length:=by rw [<-Lib.size_eq];exact A8
    rw [RuS.half_at _ _ A0] at hc
    have HS:=hZ9 (RuS.half_succ s.data.toList k A0)
    have HK:=hZ9 (RuS.half_keep s.data.toList k A0)
    generalize s.data.toList[k]=c at*
    clear A2 A0
    by_cases h1:65<=c.toNat
    · by_cases h2:c.toNat<=90
      · have HO:=hZ9 (Afy h1 h2)
        have HC:=hZ9 (RuS.lowC_toNat h1 h2)
        go_wp2_with fail
        go_roundw
        case rel=>
         refine ⟨k+1,by omega,by go_num,?_,A5.setCell (Nat.le_refl _) _⟩
         rw [HS.out,HO.out,<-HC.out]
         exact A1.put _ _
        case measure=>simp [intOf];omega
      · have HC:=hZ9 (RuS.lowC_no (c:=c) (by omega))
        go_wp2_with fail
        go_roundw
        case rel=>exact ⟨k+1,by omega,by go_num,by rw [HK.out HC.out];exact A1,A5⟩
        case measure=>simp [intOf];omega
    · have HC:=hZ9 (RuS.lowC_no (c:=c) (by omega))
      go_wp2_with fail
      go_roundw
      case rel=>exact ⟨k+1,by omega,by go_num,by rw [HK.out HC.out];exact A1,A5⟩
      case measure=>simp [intOf];omega
  · have A3:s.data.toList.length<=k:=by rw [<-Lib.size_eq];omega
    rw [RuS.half_all _ A3] at A1
    have A7:=A1.back (P:=Tryz.prog) 157 9 5 s.size cap (by rw [RuS.lower_length,<-Lib.size_eq]) Tryz.underlying157 Tryz.underlying5 Tryz.underlying9
    clear A3
    go_wp2_with fail
    go_ret
    exact ⟨rfl,A5⟩
theorem Bi (s:ByteArray) (hs:s.size<=9223372036854775807) (w:World):Calls Tryz.prog 103 #[.string s] w (BO s.data.toList w):=by
 have A4:=fun w=>Lib.run_convert_string_bytes (P:=Tryz.prog) w 9 157 5 s Tryz.underlying9 Tryz.underlying157 Tryz.underlying5
 have A9:s.size<=grownCap w s.size 0 5:=grownCap_ge _ _ _ _
 have hb0:=BytesIn.conv w 5 s
 have A6:=Lib.bytesWorld_below w 5 s
 go_enter Tryz.func103,Tryz.ntmps103
 go_wp2_with fail
 clear A4
 generalize grownCap w s.size 0 5=cap at*
 generalize Lib.bytesWorld w 5 s=w0 at*
 go_loopw [9] (fun i wr=>Xu s w i wr) (fun i _=>s.size - (intOf i).toNat)
 case atStart=>exact ⟨0,Nat.zero_le _,rfl,by rw [RuS.half_zero];exact hb0,A6⟩
 case round=>
  obtain ⟨k,hk,rfl,A1,A5⟩:=hrel
  clear hb0 A6
  by_cases A8:k<s.size
  · have A2:k<(RuS.half s.data.toList k).length:=by rw [RuS.half_length,<-Lib.size_eq];exact A8
    have hc:=A1.cell A2
    have hf:=A1.thaw A2
    have A0:k<s.data.toList.length:=by rw [<-Lib.size_eq];exact A8
    rw [RuS.half_at _ _ A0] at hc
    have HS:=hZ9 (RuS.half_succ s.data.toList k A0)
    have HK:=hZ9 (RuS.half_keep s.data.toList k A0)
    generalize s.data.toList[k]=c at*
    clear A2 A0
    by_cases h1:65<=c.toNat
    · by_cases h2:c.toNat<=90
      · have HC:=hZ9 (RuS.lowC_toNat h1 h2)
        go_wp2_with fail
        go_roundw
        case rel=>
         refine ⟨k+1,by omega,by go_num,?_,A5.setCell (Nat.le_refl _) _⟩
         rw [HS.out,show ((c.toNat:Int)+32)=((RuS.lowC c).toNat:Int) from by rw [HC.out];rfl]
         exact A1.put _ _
        case measure=>simp [intOf];omega
      · have HC:=hZ9 (RuS.lowC_no (c:=c) (by omega))
        go_wp2_with fail
        go_roundw
        case rel=>exact ⟨k+1,by omega,by go_num,by rw [HK.out HC.out];exact A1,A5⟩
        case measure=>simp [intOf];omega
    · have HC:=hZ9 (RuS.lowC_no (c:=c) (by omega))
      go_wp2_with fail
      go_roundw
      case rel=>exact ⟨k+1,by omega,by go_num,by rw [HK.out HC.out];exact A1,A5⟩
      case measure=>simp [intOf];omega
  · have A3:s.data.toList.length<=k:=by rw [<-Lib.size_eq];omega
    rw [RuS.half_all _ A3] at A1
    have A7:=A1.back (P:=Tryz.prog) 157 9 5 s.size cap (by rw [RuS.lower_length,<-Lib.size_eq]) Tryz.underlying157 Tryz.underlying5 Tryz.underlying9
    clear A3
    go_wp2_with fail
    go_ret
    exact ⟨rfl,A5⟩
end
section
open Go.RowKit
theorem SG (c:UInt8) (s:ByteArray):(Lib.splitB ⟨#[c]⟩ 0 (Lib.countB s ⟨#[c]⟩) s).map Value.string=(RuS.pieces c s.data.toList).map Ac:=by
 rw [<-RuS.split_pieces]
 have h:=Lib.splitB_data ⟨#[c]⟩ 0 (Lib.countB s ⟨#[c]⟩) s
 have e:Lib.split s.data.toList [c]=Lib.splitK [c] 0 (Lib.countB s ⟨#[c]⟩) s.data.toList:=rfl
 rw [e]
 have h':Lib.splitK [c] 0 (Lib.countB s ⟨#[c]⟩) s.data.toList=(Lib.splitB ⟨#[c]⟩ 0 (Lib.countB s ⟨#[c]⟩) s).map (·.data.toList):=h.symm
 rw [h',List.map_map]
 apply List.map_congr_left
 intro x _
 obtain ⟨⟨l⟩⟩:=x
 rfl
theorem Adh (s:ByteArray) (c:UInt8) (hs:s.size<4294967281) (w:World) (hE:Env w):
  Calls Tryz.prog 201 #[.string s,.string ⟨#[c]⟩] w fun e w'=>∃n:Nat,n=(RuS.pieces c s.data.toList).length/\e=.returned (.slice (some ⟨w.heap.size,0,none⟩) n n)/\
   w'=w.alloc (.cells ((RuS.pieces c s.data.toList).map Ac).toArray 9):=by
 obtain ⟨m,hm⟩:=hE.maxLen
 refine (Tryz.strings_Split s ⟨#[c]⟩ m w hs hm (Nat.le_refl 1)).mono ?_
 rintro e w' ⟨rfl,rfl⟩
 have h:=SG c s
 have hl:=congrArg List.length h
 rw [List.length_map,List.length_map,Lib.splitB_all ⟨#[c]⟩ (Nat.le_refl 1) 0 _ _ rfl] at hl
 exact ⟨_,rfl,by rw [hl],by rw [h]⟩
def Vd (l:List UInt8) (w:World) (e:Ending) (w':World):Prop:=∃v,e=.returned v/\Ai w' v (RuS.wordsL l)/\Below w.heap.size w w'
def Abt (ps:List (List UInt8)) (w0:World) (v i:Value) (wr:World):Prop:=
 ∃k:Nat,k<=ps.length/\i=.int .i64 k/\Own wr w0.heap.size v ((ps.take k).filter (fun p=>!p.isEmpty))/\Below w0.heap.size w0 wr
theorem Qx (ps:List (List UInt8)) (k:Nat):((ps.take k).filter (fun p=>!p.isEmpty)).length<=ps.length:=by
 have h1:=List.length_filter_le (fun p:List UInt8=>!p.isEmpty) (ps.take k)
 have h2:(ps.take k).length<=ps.length:=by simp;omega
 omega
theorem PR (ps:List (List UInt8)) (k:Nat) (h:k<ps.length) (hp:ps[k].isEmpty=false):(ps.take (k+1)).filter (fun p=>!p.isEmpty)=(ps.take k).filter (fun p=>!p.isEmpty)++[ps[k]]:=by
 rw [List.take_succ_eq_append_getElem h,List.filter_append];simp [hp]
theorem Qy (ps:List (List UInt8)) (k:Nat) (h:k<ps.length) (hp:ps[k].isEmpty=true):(ps.take (k+1)).filter (fun p=>!p.isEmpty)=(ps.take k).filter (fun p=>!p.isEmpty):=by
 rw [List.take_succ_eq_append_getElem h,List.filter_append];simp [hp]
theorem Ih (c:UInt8):∀l:List UInt8,(RuS.pieces c l).length<=l.length+1
 | []=>by simp [RuS.pieces]
 | b :: l=>by
  have ih:=Ih c l
  unfold RuS.pieces
  split
  · simp only [List.length_cons];omega
  · obtain ⟨p,ps,hp⟩:=RuS.pieces_ne c l
    rw [hp] at ih⊢
    simp only [List.length_cons] at ih⊢;omega
theorem Aes (s:ByteArray) (hs:s.size<=1000000) (w:World) (hE:Env w):Calls Tryz.prog 182 #[.string s] w (Vd s.data.toList w):=by
 have A5:=Adh s 32 (by omega) w hE
 have A4:=Ih 32 s.data.toList
 rw [<-Lib.size_eq] at A4
 have HW:Hid (RuS.wordsL s.data.toList=(RuS.pieces 32 s.data.toList).filter (fun p=>!p.isEmpty)):=hZ9 rfl
 generalize RuS.pieces 32 s.data.toList=ps at*
 have hm:=Whole.made w 9 (ps.map Ac).toArray
 go_enter Tryz.func182,Tryz.ntmps182
 go_wp2_with fail
 refine A5.mono ?_
 rintro e w1 ⟨n,hn,rfl,rfl⟩
 have HN:=hZ9 hn
 have B2:n<=1000001:=by omega
 clear hn A4 A5
 have hb0:Below w.heap.size w (w.alloc (.cells (ps.map Ac).toArray 9)):=Af w _
 generalize A6:(w.alloc (.cells (ps.map Ac).toArray 9))=w0 at*
 have hsz:w.heap.size<w0.heap.size:=hm.lt
 clear A6
 go_wp2_with fail
 go_loopw [3,9] (fun v i wr=>Abt ps w0 v i wr) (fun _ i _=>n - (intOf i).toNat)
 case atStart=>exact ⟨0,Nat.zero_le _,rfl,Own.empty _ _,Below.refl _ _⟩
 case round=>
  obtain ⟨k,hk,rfl,A0,hb⟩:=hrel
  by_cases A9:k<n
  · have A1:k<ps.length:=by rw [<-HN.out];exact A9
    have hc:wr.cell? ⟨w.heap.size,k,none⟩=some (Ac ps[k]):=by
     rw [hb.cell (p:=⟨w.heap.size,k,none⟩) hsz,hm.cell k];simp [A1]
    unfold Ac at hc
    have HY:=hZ9 (PR ps k A1)
    have A7:=hZ9 (Qy ps k A1)
    have B0:=Qx ps k
    rw [<-HN.out] at B0
    generalize ps[k]=p at*
    generalize (ps.take k).filter (fun p=>!p.isEmpty)=acc at*
    clear A1
    cases hp:p.isEmpty with
    | true=>
     have HP:=hZ9 hp
     go_wp2_with fail
     go_roundw
     case rel=>exact ⟨k+1,by rw [<-HN.out];omega,by go_num,by rw [A7.out HP.out];exact A0,hb⟩
     case measure=>simp [intOf];omega
    | false=>
     have HP:=hZ9 hp
     go_wp2_with (at_builtin;refine GR (by rfl) _ _ (by rfl) w0.heap.size _ acc (by rfl) (A0.alloc _) wr.heap.size (by rfl) p ?c1 ?c2 ?c3 ?_)
     case c1=>simp [go_sem,Ac]
     case c2=>omega
     case c3=>have:=hb.size;simp;omega
     intro v' w2 A3 A8
     go_wp2_with fail
     go_roundw
     case rel=>exact ⟨k+1,by rw [<-HN.out];omega,by go_num,by rw [HY.out HP.out];exact A3,(hb.alloc hb.size _).trans A8⟩
     case measure=>simp [intOf];omega
  · have B1:k=n:=by rw [<-HN.out] at hk;omega
    have A2:ps.take k=ps:=List.take_of_length_le (by rw [<-HN.out];omega)
    rw [A2,<-HW.out] at A0
    clear A2
    go_wp2_with fail
    go_ret
    exact ⟨_,rfl,A0.strs,hb0.trans (hb.mono (Nat.le_of_lt hsz))⟩
end
end Go.Proofs.YtgngjfjaelgaeaaGreatDoor
