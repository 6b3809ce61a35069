/- The walks of the document's 'text' and 'Integer'. Conditions: as stated. -/
import Derived.Deep.DrawnRows
import Derived.Test.YtgngjfjaelgaeaaGreatDoorZPhc
import Derived.Test.YtgngjfjaelgaeaaGreatDoorZRue
set_option maxRecDepth 100000
set_option maxHeartbeats 1000000
namespace Go.Proofs.YtgngjfjaelgaeaaGreatDoor
open Go.Proofs.Tryz
variable {n:Int} {a b l nm:iK} {w w':World}
section
open Go.RowKit
def Jd(l:iK):iK:=if RuS.hasNul l then [] else RuS.textS l
def YK(l:iK)(w:World)(e:Ending)(w':World):Prop:=e=.returned (.string ⟨(Jd l).toArray⟩)/\Below w.heap.size w w'
def Aej(lo:iK)(w0:World)(out gap i:Value)(wr:World):Prop:=
 ∃k:Nat,k<=lo.length/\i=.int .i64 k/\gap=.bool (RuS.gapB (lo.take k))/\OwnB wr w0.heap.size out (Lib.join (RuS.wordsL (lo.take k)) [32])/\(∀c∈lo.take k,c≠0)/\Below w0.heap.size w0 wr
theorem Ace(l:iK):RuS.hasNul l=decide ((0:UInt8)∈RuS.lower l):=by unfold RuS.hasNul;exact bM.2 (RuS.lower_zero l).symm
theorem Acf(s:ByteArray)(hs:s.size<=1000000)(w:World):Calls prog 134 #[.string s] w (YK s.data.toList w):=by
 have T:=λw=>BD s (by omega) w;unfold Cb at T;have hlen:=RuS.lower_length s.data.toList;rw[<-Lib.size_eq] at hlen;have Z:Hid (RuS.textS s.data.toList=Lib.join (RuS.wordsL (RuS.lower s.data.toList)) [32]):=hZ9 rfl;have P:=hZ9 (Ace s.data.toList);generalize RuS.lower s.data.toList=lo at*;have Y:lo.length<=1000000:=by omega
 clear hlen;go_enter func134,ntmps134;go_wp2_with fail;refine(T _).mono ?_;rintro e w0 ⟨rfl,hb0⟩;go_wp2_with fail;go_loopw [3,4,6] (λout gap i wr=>Aej lo w0 out gap i wr) (λ_ _ i _=>lo.length-(intOf i).toNat)
 case atStart=>exact⟨0,aR _,rfl,rfl,OwnB.empty _ _,by simp,Below.refl _ _⟩
 case round=>
  obtain⟨k,hk,rfl,rfl,d,F,hb⟩:=hrel;have H:=hZ9 F;clear F;by_cases C:k<lo.length
  ·have y:=RuS.joinW_le (lo.take k);have I:(lo.take k).length=k:=by simp;omega
   rw[I] at y;have HJ:=hZ9 y;have X:(Lib.join (RuS.wordsL (lo.take k)) [32]).length<=1000000:=by omega
   clear y I;have r:Hid (lo.take (k+1)=lo.take k++[lo[k]]):=hZ9 (aW C);have U:Hid (lo[k]∈lo):=hZ9 (aZ C);have Q:Hid (RuS.gapB (lo.take k++[lo[k]])=(lo[k]==32)):=hZ9 (RuS.gap_snoc _ _);have O:Hid (Lib.join (RuS.wordsL (lo.take k++[32])) [32]=Lib.join (RuS.wordsL (lo.take k)) [32]):=hZ9 (by rw[RuS.wordsL_blank]);have t:=hZ9 (λ(h:lo[k]≠32)=>RuS.wordsL_letter (lo.take k) h);generalize B:lo[k]=c at*;have W:∀h,(⟨lo.toArray⟩:ByteArray)[k]'h=c:=λ_=>B;clear B;generalize Lib.join (RuS.wordsL (lo.take k)) [32]=acc at*;generalize RuS.gapB (lo.take k)=gp at*;by_cases c0:(c.toNat:Int)=0
   ·have K:Hid (Jd s.data.toList=[]):=hZ9 (by
     unfold Jd;rw[P.out,aI (by have h1:=U.out;rw[FA (n:=0) (by decide) c0] at h1;exact h1)];rfl)
    have kz:((c.toNat:Int)==0)=true:=ag.2 c0;clear c0;go_wp2_with fail;go_ret;exact⟨by rw[K.out];rfl,hb0.trans (hb.mono hb0.size)⟩
   ·have H0:Hid (c≠0):=hZ9 (λe=>c0 (by rw[e];rfl));have k0:((c.toNat:Int)==0)=false:=aV.2 c0;have E:∀x∈lo.take (k+1),x≠0:=by
     intro x hx;rw[r.out] at hx;rcases bB.1 hx with hx|hx
     ·exact H.out x hx
     ·rw[aj.1 hx];exact H0.out
    have q:=hZ9 E;clear c0 E;by_cases j:(c.toNat:Int)=32
    ·have u:Hid (c=32):=hZ9 (FA (n:=32) (by decide) j);have L:((c.toNat:Int)==32)=true:=ag.2 j;clear j;go_wp2_with fail;go_roundw
     case rel=>
      refine⟨k+1,by omega,by go_num,?_,?_,q.out,hb⟩
      ·rw[r.out,Q.out,u.out];rfl
      ·rw[r.out,u.out,O.out];exact d
     case measure=>simp[intOf];omega
    ·have u:Hid (c≠32):=hZ9 (λe=>j (by rw[e];rfl));have L:((c.toNat:Int)==32)=false:=aV.2 j;clear j;have z:Hid (RuS.gapB (lo.take k++[c])=false):=hZ9 (by rw[Q.out];simpa using u.out);cases gp with
     |false=>
      have o:Hid (Lib.join (RuS.wordsL (lo.take k++[c])) [32]=acc++[c]):=hZ9 (by rw[t.out u.out];simp);go_wp2_with (at_builtin;refine DW (by rfl) _ _ (by rfl) w0.heap.size _ acc (by rfl) (d.alloc _) wr.heap.size 1 1 (by rfl) [c] (by rfl) ?c1 ?c2 ?c3 ?_)
      case c1=>first|exact one_cell (by simp[go_sem,Aj])|exact EY _
      case c2=>omega
      case c3=>have:=hb.size;simp;omega
      intro R w2 f m;go_wp2_with fail;go_roundw
      case rel=>
       refine⟨k+1,by omega,by go_num,?_,?_,q.out,(hb.alloc hb.size _).trans m⟩
       ·rw[r.out,z.out]
       ·rw[r.out,o.out];exact f
      case measure=>simp[intOf];omega
     |true=>
      obtain⟨a,cp,rfl⟩:=d.form;by_cases g:acc=[]
      ·have G:acc.length=0:=by rw[g];rfl
       have o:Hid (Lib.join (RuS.wordsL (lo.take k++[c])) [32]=acc++[c]):=hZ9 (by rw[t.out u.out,g];rfl);have M:decide ((0:Int)<(acc.length:Int))=false:=aB (by omega);have HA:=hZ9 g;have V:acc.length<=0:=by omega
       clear g G;go_wp2_with (at_builtin;refine DW (by rfl) _ _ (by rfl) w0.heap.size _ acc (by rfl) (d.alloc _) wr.heap.size 1 1 (by rfl) [c] (by rfl) ?d1 ?d2 ?d3 ?_)
       case d1=>first|exact one_cell (by simp[go_sem,Aj])|exact EY _
       case d2=>omega
       case d3=>have:=hb.size;simp;omega
       intro R w2 f m;go_wp2_with fail;go_roundw
       case rel=>
        refine⟨k+1,by omega,by go_num,?_,?_,q.out,(hb.alloc hb.size _).trans m⟩
        ·rw[r.out,z.out]
        ·rw[r.out,o.out];exact f
       case measure=>simp[intOf];omega
      ·have S:0<acc.length:=cY.2 g;have o:Hid (Lib.join (RuS.wordsL (lo.take k++[c])) [32]=acc++[32]++[c]):=hZ9 (by
        rw[t.out u.out];have:acc.isEmpty=false:=by cases acc with
         |nil=>exact absurd rfl g
         |cons a b=>rfl
        rw[this];rfl)
       have M:decide ((0:Int)<(acc.length:Int))=true:=aI (by omega);clear g;go_wp2_with (at_builtin;refine DW (by rfl) _ _ (by rfl) w0.heap.size _ acc (by rfl) (d.alloc _) wr.heap.size 1 1 (by rfl) [32] (by rfl) ?e1 ?e2 ?e3 ?_)
       case e1=>first|exact one_cell (by simp[go_sem,Aj])|exact EY _
       case e2=>omega
       case e3=>have:=hb.size;simp;omega
       intro R w2 f m;have A:=(hb.alloc hb.size (.cells #[.int .u8 32] 5)).trans m;go_wp2_with (at_builtin;refine DW (by rfl) _ _ (by rfl) w0.heap.size _ (acc++[32]) (by rfl) (f.alloc _) w2.heap.size 1 1 (by rfl) [c] (by rfl) ?f1 ?f2 ?f3 ?_)
       case f1=>first|exact one_cell (by simp[go_sem,Aj])|exact EY _
       case f2=>simp;omega
       case f3=>have:=A.size;simp;omega
       intro v2 w3 v J;go_wp2_with fail;go_roundw
       case rel=>
        refine⟨k+1,by omega,by go_num,?_,?_,q.out,(A.alloc A.size _).trans J⟩
        ·rw[r.out,z.out]
        ·rw[r.out,o.out,show acc++[32]++[c]=acc++[32,c] from by simp];exact v
       case measure=>simp[intOf];omega
  ·have p:lo.take k=lo:=af (by omega);rw[p] at d;have K:Hid (Jd s.data.toList=Lib.join (RuS.wordsL lo) [32]):=hZ9 (by
    unfold Jd;rw[P.out,aB (λh=>H.out 0 (by rw[p];exact h) rfl),Z.out];rfl)
   clear p;have N:=d.back;go_wp2_with fail;go_ret;exact⟨by rw[K.out];rfl,hb0.trans (hb.mono hb0.size)⟩
def Cj(l:iK)(w:World)(e:Ending)(w':World):Prop:=e=.returned (.tuple #[.int .i64 ((RuS.intR l).getD 0),.bool (RuS.intR l).isSome])/\w=w'
theorem Cj.yes{v:Int}(h:RuS.intR l=some v):Cj l w (.returned (.tuple #[v,true])) w:=by unfold Cj;rw[h];exact⟨rfl,rfl⟩
theorem Cj.no(h:RuS.intR l=none):Cj l w (.returned (.tuple #[.int .i64 0,false])) w:=by unfold Cj;rw[h];exact⟨rfl,rfl⟩
theorem JQ{d:iK}{neg:Bool}(c:(l.head?==some 45)=neg)(hd:(if neg=true then l.tail else l)=d)
  (h:d.length<1\/18<d.length\/(d.head?=some 48/\(1<d.length\/neg=true))\/d.all PhS.isDig=false):RuS.intR l=none:=by
 unfold RuS.intR;simp only[c,hd];rw[aJ h]
theorem VR{d:iK}{neg:Bool}(c:(l.head?==some 45)=neg)(hd:(if neg=true then l.tail else l)=d)
  (h:¬(d.length<1\/18<d.length\/(d.head?=some 48/\(1<d.length\/neg=true))\/d.all PhS.isDig=false)):RuS.intR l=some (if neg=true then -(PhS.valFrom 0 d:Int) else PhS.valFrom 0 d):=by
 unfold RuS.intR;simp only[c,hd];rw[aG h]
def YL(u:ByteArray)(n i:Value):Prop:=∃k:Nat,k<=u.size/\i=.int .i64 k/\n=.int .i64 (PhS.valFrom 0 (u.data.toList.take k))/\(u.data.toList.take k).all PhS.isDig=true
theorem Uw(s:ByteArray)(h0:s.size=0)(w:World):Calls prog 135 #[.string s] w (Cj s.data.toList w):=by
 have d:s=ByteArray.empty:=by
  obtain⟨⟨l⟩⟩:=s;cases l with
  |nil=>rfl
  |cons c r=>have h1:(c :: r).length=0:=h0;cases h1
 subst d;go_enter func135,ntmps135;go_wp2_with fail;go_ret2;exact Cj.no rfl
theorem LF{s:ByteArray}(h:0<s.size)(n:UInt8):(s.data.toList.head?==some n)=decide (s[0]=n):=by rw[GY h,bR,ag,az];exact⟨λe=>aU e,λe=>by rw[e]⟩
theorem YM(s:ByteArray):s.data.toList.tail=(s.extract 1 s.size).data.toList:=by rw[Lib.extract_to_end];simp
set_option linter.unusedVariables false in
theorem OG(u:ByteArray)(h1:1<=u.size)(L:u.size<=18)(q:((u[0].toNat:Int)==45)=false)(c:((u[0].toNat:Int)==48)=false\/(((u[0].toNat:Int)==48)=true/\u.size<=1))(w:World):
  Calls prog 135 #[.string u] w (Cj u.data.toList w):=by
 have o:¬(u[0].toNat:Int)=45:=aV.1 q;have g:(u.data.toList.head?==some 45)=false:=by rw[LF (by omega),bg];intro e;rw[e] at o;exact o rfl
 have K:=Lib.size_eq u;have NO:=hZ9 (λh=>JQ g (d:=u.data.toList) rfl h);have h48:¬(u.data.toList.head?=some 48/\(1<u.data.toList.length\/(false:Bool)=true)):=by
  rintro⟨e,h⟩;rcases c with c|c
  ·have:=aV.1 c;rw[GY (by omega)] at e;have E:=aU e;rw[E] at this;exact this rfl
  ·rcases h with h|h
   ·omega
   ·cases h
 have j:=hZ9 (λ(hd:u.data.toList.all PhS.isDig=true)=>VR g (d:=u.data.toList) rfl (by
  rintro (h|h|h|h)
  ·omega
  ·omega
  ·exact h48 h
  ·rw[hd] at h;cases h))
 replace NO:=NO.out;replace j:=j.out;have y:=hZ9 NO;have r:=hZ9 j;clear NO j o g K h48;rcases c with c|⟨c,c1⟩
 all_goals
  go_enter func135,ntmps135;go_wp2_with fail;clear q c;go_loop [6,7] (λn i=>YL u n i) (λ_ i=>u.size-(intOf i).toNat)
  case atStart=>exact⟨0,aR _,rfl,rfl,rfl⟩
  case round=>
   obtain⟨k,hk,rfl,rfl,hd⟩:=hrel;have J:PhS.valFrom 0 (u.data.toList.take k)<1000000000000000000:=RuS.val18 hd (by simp;omega);by_cases p:k<u.size
   ·have z:PhS.valFrom 0 (u.data.toList.take k)<100000000000000000:=by
     have h1:=PhS.valFrom_lt _ hd;have h2:(u.data.toList.take k).length<=17:=by simp;omega
     have h3:10 ^ (u.data.toList.take k).length<=10 ^ 17:=bh (by decide) h2;omega
    have A:=hZ9 (PhS.take_snoc u k p);have B:=hZ9 hd;clear hd;generalize t:PhS.valFrom 0 (u.data.toList.take k)=v at*;have H:=hZ9 t;clear t;by_cases f:48<=(u[k].toNat:Int)/\(u[k].toNat:Int)<=57
    ·have G:=hZ9 (Jz f);have C:=hZ9 f;obtain⟨d1,d2⟩:=f
     go_wp2
     go_round
     case rel=>
      refine⟨k+1,by omega,by go_num,Ia ?_,?_⟩
      ·rw[A.out,PhS.valFrom_snoc,H.out];have:=C.out;omega
      ·rw[A.out,dL,B.out];simp[G.out]
     case measure=>simp[intOf];omega
    ·have s:=all_not u k p (KV f);have I:=hZ9 (y.out (.inr (.inr (.inr s))));clear s
     go_wp2
     all_goals go_ret2
     all_goals exact Cj.no I.out
   ·have x:k=u.size:=by omega
    have m:u.data.toList.take k=u.data.toList:=af (by simp;omega);rw[m] at hd J⊢;have F:=hZ9 (r.out hd);clear m hd;generalize PhS.valFrom 0 u.data.toList=v at*;subst x
    go_wp2
    go_ret2;exact Cj.yes (by rw[F.out];rfl)
set_option linter.unusedVariables false in
theorem XM(s u:ByteArray)(h1:1<=s.size)(hu:s.extract 1 s.size=u)(J:1<=u.size)(O:u.size<=18)(m:(s[0].toNat:Int)=45)(o:((u[0].toNat:Int)==48)=false)(w:World):
  Calls prog 135 #[.string s] w (Cj s.data.toList w):=by
 have d:(s.data.toList.head?==some 45)=true:=by rw[LF (by omega),az];exact FA (n:=45) (by decide) m
 have g:(if true=true then s.data.toList.tail else s.data.toList)=u.data.toList:=by rw[aJ rfl,YM,hu]
 have N:=Lib.size_eq u;have NO:=λh=>JQ d g h;have h48:¬u.data.toList.head?=some 48:=by intro e;have:=aV.1 o;rw[GY (by omega)] at e;have F:=aU e;rw[F] at this;exact this rfl
 have t:=λ(hd:u.data.toList.all PhS.isDig=true)=>VR d g (by
  rintro (h|h|h|h)
  ·omega
  ·omega
  ·exact h48 h.1
  ·rw[hd] at h;cases h)
 have z:=hZ9 NO;have p:=hZ9 t;have y:u.size=s.size-1:=by rw[<-hu];simp
 have L:2<=s.size:=by omega
 clear NO t d N h48 g y;go_enter func135,ntmps135;go_wp2_with fail;clear m o hu;go_loop [6,7] (λn i=>YL u n i) (λ_ i=>u.size-(intOf i).toNat)
 case atStart=>exact⟨0,aR _,rfl,rfl,rfl⟩
 case round=>
  obtain⟨k,hk,rfl,rfl,hd⟩:=hrel;have M:PhS.valFrom 0 (u.data.toList.take k)<1000000000000000000:=RuS.val18 hd (by simp;omega);by_cases j:k<u.size
  ·have A:PhS.valFrom 0 (u.data.toList.take k)<100000000000000000:=by
    have h1:=PhS.valFrom_lt _ hd;have h2:(u.data.toList.take k).length<=17:=by simp;omega
    have h3:10 ^ (u.data.toList.take k).length<=10 ^ 17:=bh (by decide) h2;omega
   have B:=hZ9 (PhS.take_snoc u k j);have C:=hZ9 hd;clear hd;generalize r:PhS.valFrom 0 (u.data.toList.take k)=v at*;have I:=hZ9 r;clear r;by_cases c:48<=(u[k].toNat:Int)/\(u[k].toNat:Int)<=57
   ·have H:=hZ9 (Jz c);have E:=hZ9 c;obtain⟨d1,d2⟩:=c
    go_wp2
    go_round
    case rel=>
     refine⟨k+1,by omega,by go_num,Ia ?_,?_⟩
     ·rw[B.out,PhS.valFrom_snoc,I.out];have:=E.out;omega
     ·rw[B.out,dL,C.out];simp[H.out]
    case measure=>simp[intOf];omega
   ·have q:=all_not u k j (KV c);have K:=hZ9 (z.out (.inr (.inr (.inr q))));clear q
    go_wp2
    all_goals go_ret2
    all_goals exact Cj.no K.out
  ·have x:k=u.size:=by omega
   have f:u.data.toList.take k=u.data.toList:=af (by simp;omega);rw[f] at hd M⊢;have G:=hZ9 (p.out hd);clear f hd;generalize PhS.valFrom 0 u.data.toList=v at*;subst x
   go_wp2
   go_ret2;exact Cj.yes (by rw[G.out];rfl)
theorem JR(u:ByteArray)(h1:1<=u.size)(m:u.size<=1000000)(i:((u[0].toNat:Int)==45)=false)(g:18<u.size\/(u.size<=18/\2<=u.size/\((u[0].toNat:Int)==48)=true))(w:World):
  Calls prog 135 #[.string u] w (Cj u.data.toList w):=by
 have f:¬(u[0].toNat:Int)=45:=aV.1 i;have c:(u.data.toList.head?==some 45)=false:=by rw[LF (by omega),bg];intro e;rw[e] at f;exact f rfl
 have k:=Lib.size_eq u;have j:=hZ9 (JQ c (d:=u.data.toList) rfl (by
  rcases g with g|⟨_,g,h⟩
  ·right;left;omega
  ·right;right;left;refine⟨?_,.inl (by omega)⟩;rw[GY (by omega),FA (n:=48) (by decide) (ag.1 h)];rfl))
 clear f c k;rcases g with g|⟨h18,g,h⟩
 all_goals
  go_enter func135,ntmps135;go_wp2_with fail;go_ret2;exact Cj.no j.out
theorem Hl(s u:ByteArray)(h1:1<=s.size)(q:s.size<=1000000)(hu:s.extract 1 s.size=u)(j:(s[0].toNat:Int)=45)(c:u.size<1\/18<u.size\/(u.size<=18/\∃h:1<=u.size,((u[0].toNat:Int)==48)=true))(w:World):
  Calls prog 135 #[.string s] w (Cj s.data.toList w):=by
 have d:(s.data.toList.head?==some 45)=true:=by rw[LF (by omega),az];exact FA (n:=45) (by decide) j
 have f:(if true=true then s.data.toList.tail else s.data.toList)=u.data.toList:=by rw[aJ rfl,YM,hu]
 have m:=Lib.size_eq u;have i:u.size=s.size-1:=by rw[<-hu];simp
 have g:=hZ9 (JQ d f (by
  rcases c with c|c|⟨_,c,e⟩
  ·left;omega
  ·right;left;omega
  ·right;right;left;refine⟨?_,.inr rfl⟩;rw[GY (by omega),FA (n:=48) (by decide) (ag.1 e)];rfl))
 have k:u.size<=1000000:=by omega
 clear d m f i;rcases c with c|c|⟨h18,c,e⟩
 ·go_enter func135,ntmps135;go_wp2_with fail;go_ret2;exact Cj.no g.out
 ·go_enter func135,ntmps135;go_wp2_with fail;go_ret2;exact Cj.no g.out
 ·have p:decide ((u.size:Int)<1)=false:=aB (by omega);have o:decide ((18:Int)<(u.size:Int))=false:=aB (by omega);go_enter func135,ntmps135;go_wp2_with fail
  all_goals go_ret2
  all_goals exact Cj.no g.out
theorem PG(s:ByteArray)(f:s.size<=1000000)(w:World):Calls prog 135 #[.string s] w (Cj s.data.toList w):=by
 by_cases h0:s.size=0
 ·exact Uw s h0 w
 have h1:1<=s.size:=by omega
 by_cases d:(s[0].toNat:Int)=45
 ·by_cases g:(s.extract 1 s.size).size<1
  ·exact Hl s _ h1 f rfl d (.inl g) w
  ·by_cases h:18<(s.extract 1 s.size).size
   ·exact Hl s _ h1 f rfl d (.inr (.inl h)) w
   ·have hp:1<=(s.extract 1 s.size).size:=by omega
    cases c:(((s.extract 1 s.size)[0].toNat:Int)==48) with
    |true=>exact Hl s _ h1 f rfl d (.inr (.inr ⟨by omega,hp,c⟩)) w
    |false=>exact XM s _ h1 rfl hp (by omega) d c w
 ·have e:((s[0].toNat:Int)==45)=false:=aV.2 d;by_cases g:18<s.size
  ·exact JR s h1 f e (.inl g) w
  ·cases c:((s[0].toNat:Int)==48) with
   |false=>exact OG s h1 (by omega) e (.inl c) w
   |true=>
    by_cases h2:2<=s.size
    ·exact JR s h1 f e (.inr ⟨by omega,h2,c⟩) w
    ·exact OG s h1 (by omega) e (.inr ⟨c,by omega⟩) w
end
section
open Go.RowKit
theorem Acg(l:iK):RuS.normV 1 l=if(Jd l).isEmpty=true then none else some (Jd l):=by
 show (if(RuS.textS l).isEmpty||RuS.hasNul l then none else some (RuS.textS l))=_
 unfold Jd;cases h:RuS.hasNul l with
 |true=>simp
 |false=>simp
theorem XN(l:iK):RuS.normV 3 l=if(RuS.intR l).isSome=true then some l else none:=by rw[RuS.intR_eq];rfl
theorem Aaf(l:iK):RuS.normV 4 l=if(PhS.parseP l).isSome=true then some l else none:=rfl
theorem Fq(nm s:ByteArray)(J:nm.size<=9223372036854775807)(K:s.size<=9223372036854775807)(w:World)(hE:Env w):
  Calls prog 102 #[.string nm,.string s] w (AX nm.data.toList s.data.toList w):=by
 have d:=λw=>Eb nm J w;unfold Ak at d;have o:=RuS.typeM_all (RuS.lower nm.data.toList);have v:Hid (RuS.normal nm.data.toList s.data.toList=RuS.normalR (RuS.typeOf nm.data.toList).2 s.data.toList):=hZ9 rfl;have g:RuS.typeOf nm.data.toList=([],0)\/(1<=(RuS.typeOf nm.data.toList).2/\(RuS.typeOf nm.data.toList).2<=5/\1<=(RuS.typeOf nm.data.toList).1.length/\(RuS.typeOf nm.data.toList).1.length<=17):=o;clear o;generalize RuS.typeOf nm.data.toList=r at*;obtain⟨t,j⟩:=r;simp only at d v g;have u:=Lib.size_eq s;by_cases h0:j=0
 ·subst h0;go_enter func102,ntmps102;go_wp2_with fail;refine(d _).mono ?_;rintro e w1 ⟨rfl,c⟩;go_wp2_with fail;go_ret2;exact AX.mk' (r:=([],5)) (by rw[v.out];rfl) c
 by_cases h5:j=5
 ·subst h5;go_enter func102,ntmps102;go_wp2_with fail;refine(d _).mono ?_;rintro e w1 ⟨rfl,c⟩;go_wp2_with fail;go_ret2;exact AX.mk' (r:=([],1)) (by rw[v.out];rfl) c
 have k:j=1\/j=2\/j=3\/j=4:=by
  rcases g with h|h
  ·injection h with _ h;exact absurd h h0
  ·omega
 have g0:(j==0)=false:=by simpa using h0
 have g5:(j==5)=false:=by simpa using h5
 have H0:=hZ9 h0;have z:=hZ9 h5;have F:=hZ9 k;clear h0 h5 g k;by_cases q:s.data.toList.length<1\/200<s.data.toList.length
 ·have C:=hZ9 q;rw[<-u] at q;clear u;rcases q with q|q
  all_goals
   go_enter func102,ntmps102;go_wp2_with fail;refine(d _).mono ?_;rintro e w1 ⟨rfl,c⟩;go_wp2_with fail;go_ret2;exact AX.mk' (r:=([],2)) (by rw[v.out];unfold RuS.normalR;rw[aG H0.out,aG z.out,aJ C.out]) c
 have H:=hZ9 q;have E:1<=s.size:=by omega
 have B:s.size<=200:=by omega
 clear q u;have I:decide ((200:Int)<(s.size:Int))=false:=aB (by omega);have A:decide ((s.size:Int)<1)=false:=aB (by omega);have i:∀r,(match RuS.normV j s.data.toList with|none=>([],2)|some s=>(s,0))=r->RuS.normal nm.data.toList s.data.toList=r:=by intro r G;rw[v.out];unfold RuS.normalR;rw[aG H0.out,aG z.out,aG H.out];exact G
 have i:=hZ9 i;rcases F.out with rfl|rfl|rfl|rfl
 ·have y:=λw=>Acf s (by omega) w;unfold YK at y;have m:=hZ9 (Acg s.data.toList);generalize Jd s.data.toList=tx at*;cases hx:tx.isEmpty with
  |true=>have HX:=hZ9 hx;go_enter func102,ntmps102;go_wp2_with fail;refine(d _).mono ?_;rintro e w1 ⟨rfl,c⟩;go_wp2_with fail;refine(y _).mono ?_;rintro e w2 ⟨rfl,f⟩;go_wp2_with fail;go_ret2;exact AX.mk' (r:=([],2)) (i.out _ (by rw[m.out,aJ HX.out])) (Aa c f)
  |false=>have HX:Hid (¬tx.isEmpty=true):=hZ9 (by rw[hx];decide);go_enter func102,ntmps102;go_wp2_with fail;refine(d _).mono ?_;rintro e w1 ⟨rfl,c⟩;go_wp2_with fail;refine(y _).mono ?_;rintro e w2 ⟨rfl,f⟩;go_wp2_with fail;go_ret2;exact AX.mk' (r:=(_,0)) (i.out _ (by rw[m.out,aG HX.out])) (Aa c f)
 ·go_enter func102,ntmps102;go_wp2_with fail;refine(d _).mono ?_;rintro e w1 ⟨rfl,c⟩;go_wp2_with fail;go_ret2;have:=AX.mk' (r:=(s.data.toList,0)) (i.out _ rfl) c;rw[WM] at this;exact this
 ·have x:=λw=>PG s (by omega) w;unfold Cj at x;have m:=hZ9 (XN s.data.toList);generalize RuS.intR s.data.toList=iv at*;cases iv with
  |none=>simp only[Option.isSome_none] at x;go_enter func102,ntmps102;go_wp2_with fail;refine(d _).mono ?_;rintro e w1 ⟨rfl,c⟩;go_wp2_with fail;refine(x _).mono ?_;rintro e w2 ⟨rfl,rfl⟩;go_wp2_with fail;go_ret2;exact AX.mk' (r:=([],2)) (i.out _ (by rw[m.out];rfl)) c
  |some n=>simp only[Option.isSome_some,Option.getD_some] at x;go_enter func102,ntmps102;go_wp2_with fail;refine(d _).mono ?_;rintro e w1 ⟨rfl,c⟩;go_wp2_with fail;refine(x _).mono ?_;rintro e w2 ⟨rfl,rfl⟩;go_wp2_with fail;go_ret2;have:=AX.mk' (r:=(s.data.toList,0)) (i.out _ (by rw[m.out];rfl)) c;rw[WM] at this;exact this
 ·have hp:=λw hE=>Hk s (by omega) w hE;unfold BX at hp;have m:=hZ9 (Aaf s.data.toList);generalize PhS.parseP s.data.toList=pv at*;cases pv with
  |none=>simp only at hp;go_enter func102,ntmps102;go_wp2_with fail;refine(d _).mono ?_;rintro e w1 ⟨rfl,c⟩;go_wp2_with fail;refine(hp _ (hE.below c)).mono ?_;rintro e w2 ⟨rfl,f⟩;go_wp2_with fail;go_ret2;exact AX.mk' (r:=([],2)) (i.out _ (by rw[m.out];rfl)) (BJ (Aa c f) _)
  |some p=>obtain⟨pa,pb⟩:=p;simp only at hp;go_enter func102,ntmps102;go_wp2_with fail;refine(d _).mono ?_;rintro e w1 ⟨rfl,c⟩;go_wp2_with fail;refine(hp _ (hE.below c)).mono ?_;rintro e w2 ⟨rfl,f⟩;go_wp2_with fail;go_ret2;have:=AX.mk' (r:=(s.data.toList,0)) (i.out _ (by rw[m.out];rfl)) (BJ (Aa c f) (.cells #[pa,pb] 184));rw[WM] at this;exact this
end
section
open Go.RowKit
def Dl(nm a b:iK):Int:=if(RuS.normal nm a).2≠0 then(RuS.normal nm a).2 else(RuS.normal nm b).2
def Ec(nm a b:iK)(w:World)(e:Ending)(w':World):Prop:=
 ∃x y:iK,e=.returned (.tuple #[x,y,.int .i64 (Dl nm a b)])/\(Dl nm a b=0->x=(RuS.normal nm a).1/\y=(RuS.normal nm b).1)/\Below w.heap.size w w'
theorem Ec.mk'{x y:iK}(h:Dl nm a b=n)(c:n=0->x=(RuS.normal nm a).1/\y=(RuS.normal nm b).1)(hb:Below w.heap.size w w'):
  Ec nm a b w (.returned (.tuple #[x,y,n])) w':=⟨x,y,by rw[h],by rw[h];exact c,hb⟩
theorem Qz(h:(RuS.normal nm a).2=n)(c:n≠0):Dl nm a b=n:=by unfold Dl;rw[h,aJ c]
theorem KE(h:(RuS.normal nm a).2=0)(h2:(RuS.normal nm b).2=n):Dl nm a b=n:=by unfold Dl;rw[h,aG (by simp),h2]
theorem Ach(nm a b:ByteArray)(o:nm.size<=9223372036854775807)(q:a.size<=9223372036854775807)(hb:b.size<=9223372036854775807)(w:World)(hE:Env w):
  Calls prog 211 #[.string nm,.string a,.string b] w (Ec nm.data.toList a.data.toList b.data.toList w):=by
 have h1:=λw hE=>Ge nm a o q w hE;have h2:=λw hE=>Ge nm b o hb w hE;unfold AX at h1 h2;have k:Hid ((RuS.normal nm.data.toList a.data.toList).1=(RuS.normal nm.data.toList a.data.toList).1):=hZ9 rfl;generalize g:RuS.normal nm.data.toList a.data.toList=r1 at*;generalize f:RuS.normal nm.data.toList b.data.toList=r2 at*;obtain⟨x,p⟩:=r1;obtain⟨y,s⟩:=r2;simp only at h1 h2;have d:=hZ9 g;have i:=hZ9 f;clear g f k;by_cases z1:p=0
 ·subst z1;go_enter func211,ntmps211;go_wp2_with fail;refine(h1 _ hE).mono ?_;rintro e w1 ⟨rfl,c⟩;go_wp2_with fail;refine(h2 _ (hE.below c)).mono ?_;rintro e w2 ⟨rfl,j⟩;go_wp2_with fail
  go_ret3
  exact Ec.mk' (KE (by rw[d.out]) (by rw[i.out])) (λ_=>⟨by rw[d.out],by rw[i.out]⟩) (Aa c j)
 ·have r:(p==0)=false:=by simpa using z1
  have m:=hZ9 z1;clear z1;go_enter func211,ntmps211;go_wp2_with fail;refine(h1 _ hE).mono ?_;rintro e w1 ⟨rfl,c⟩;go_wp2_with fail
  go_ret3
  exact Ec.mk' (y:=[]) (Qz (by rw[d.out]) m.out) (λh=>absurd h m.out) c
theorem SU(nm a b:ByteArray)(o:nm.size<=9223372036854775807)(r:a.size<=9223372036854775807)(hb:b.size<=9223372036854775807)(w:World)(hE:Env w):
  Calls prog 178 #[.string nm,.string a,.string b] w (Ec nm.data.toList a.data.toList b.data.toList w):=by
 have h1:=λw hE=>Fq nm a o r w hE;have h2:=λw hE=>Fq nm b o hb w hE;unfold AX at h1 h2;generalize j:RuS.normal nm.data.toList a.data.toList=r1 at*;generalize i:RuS.normal nm.data.toList b.data.toList=r2 at*;obtain⟨x,p⟩:=r1;obtain⟨y,m⟩:=r2;simp only at h1 h2;have d:=hZ9 j;have g:=hZ9 i;clear j i;by_cases z1:p=0
 ·subst z1;by_cases z2:m=0
  ·subst z2;go_enter func178,ntmps178;go_wp2_with fail;refine(h1 _ hE).mono ?_;rintro e w1 ⟨rfl,c⟩;go_wp2_with fail;refine(h2 _ (hE.below c)).mono ?_;rintro e w2 ⟨rfl,f⟩;go_wp2_with fail
   go_ret3
   exact Ec.mk' (KE (by rw[d.out]) (by rw[g.out])) (λ_=>⟨by rw[d.out],by rw[g.out]⟩) (Aa c f)
  ·have q:(m !=0)=true:=by simpa using z2
   have k:=hZ9 z2;clear z2;go_enter func178,ntmps178;go_wp2_with fail;refine(h1 _ hE).mono ?_;rintro e w1 ⟨rfl,c⟩;go_wp2_with fail;refine(h2 _ (hE.below c)).mono ?_;rintro e w2 ⟨rfl,f⟩;go_wp2_with fail
   go_ret3
   exact Ec.mk' (x:=[]) (y:=[]) (KE (by rw[d.out]) (by rw[g.out])) (λh=>absurd h k.out) (Aa c f)
 ·have q:(p !=0)=true:=by simpa using z1
  have k:=hZ9 z1;clear z1;go_enter func178,ntmps178;go_wp2_with fail;refine(h1 _ hE).mono ?_;rintro e w1 ⟨rfl,c⟩;go_wp2_with fail
  go_ret3
  exact Ec.mk' (x:=[]) (y:=[]) (Qz (by rw[d.out]) k.out) (λh=>absurd h k.out) c
def Afd(nm a b:iK):Bool:=decide (Dl nm a b=0)&&((RuS.normal nm a).1==(RuS.normal nm b).1)
def RH(nm a b:iK)(w:World)(e:Ending)(w':World):Prop:=e=.returned (.tuple #[.bool (Afd nm a b),.int .i64 (Dl nm a b)])/\Below w.heap.size w w'
theorem RH.mk'{q:Bool}(h:Dl nm a b=n)(c:Afd nm a b=q)(hb:Below w.heap.size w w'):RH nm a b w (.returned (.tuple #[q,n])) w':=by unfold RH;rw[h,c];exact⟨rfl,hb⟩
end
section
open Go.RowKit
theorem Aci(nm a b:iK):Dl nm a b=0↔(RuS.normal nm a).2=0/\(RuS.normal nm b).2=0:=by
 unfold Dl;by_cases h:(RuS.normal nm a).2=0
 ·rw[aG (by simpa using h)];exact⟨λh2=>⟨h,h2⟩,λh2=>h2.2⟩
 ·rw[aJ h];exact⟨λh2=>absurd h2 h,λh2=>h2.1⟩
end
section
open Go.RowKit
theorem YO(h:n.natAbs<2 ^ 53)(h1:1000000<n.natAbs):okB (Fl.D n)=false:=by unfold okB Fl.numOf;rw[Fl.toInt_val (Fl.read_D n h).val];simp only;rw[aG (by omega)];rfl
theorem RI{m:Int}(c:n.natAbs<2 ^ 53)(d:m.natAbs<2 ^ 53):(okB (Fl.D n)&&okB (Fl.D m))=PhS.inR n m:=by
 by_cases h1:n.natAbs<=1000000
 ·by_cases h2:m.natAbs<=1000000
  ·rw[Ek h1,Ek h2];exact(aI (show n.natAbs<=1000000/\m.natAbs<=1000000 from⟨h1,h2⟩)).symm
  ·rw[YO d (by omega),bY];exact(aB (show ¬(n.natAbs<=1000000/\m.natAbs<=1000000) from λh=>h2 h.2)).symm
 ·rw[YO c (by omega),cM];exact(aB (show ¬(n.natAbs<=1000000/\m.natAbs<=1000000) from λh=>h1 h.1)).symm
theorem QA{a c:Int}(d:a.natAbs<=1000000)(hc:c.natAbs<=1000000):(a*c).natAbs<=1000000000000:=by rw[Int.natAbs_mul];exact gJ d hc
theorem QB(a b:Int)(h:PhS.inR a b=true)(w:World):
  Calls prog 213 #[.complex .f64 (Fl.D a) (Fl.D b)] w λe w'=>e=.returned (.int .i64 (a*a+b*b))/\Below w.heap.size w w':=by
 have c:a.natAbs<=1000000/\b.natAbs<=1000000:=b7 h;have f:=λw=>DR (Fl.D a) (Fl.D b) (DX (by omega)) (DX (by omega)) w;rw[RI (by omega) (by omega),h] at f;have c1:=λw=>run_convert_float_int (P:=prog) w 241 2 .f64 .i64 (Fl.D a) a (by kernel_rfl) underlying2 (RA c.1);have c2:=λw=>run_convert_float_int (P:=prog) w 241 2 .f64 .i64 (Fl.D b) b (by kernel_rfl) underlying2 (RA c.2);have m1:=QA c.1 c.1;have m2:=QA c.2 c.2;have p1:IntKind.i64.wrap (a*a)=a*a:=Go.IntWalk.i64_in _ (by omega);have p2:IntKind.i64.wrap (b*b)=b*b:=Go.IntWalk.i64_in _ (by omega);have p3:IntKind.i64.wrap (a*a+b*b)=a*a+b*b:=Go.IntWalk.i64_in _ (by omega);clear h c;go_enter func213,ntmps213;go_wp2_with fail;refine(f _).mono ?_;rintro e w1 ⟨rfl,d⟩;go_wp2_with fail;go_ret;exact⟨by go_num,d⟩
end
section
open Go.RowKit
def DF(a b:Int):Int:=if a<b then -1 else if b<a then 1 else 0
theorem VS(a:Int)(w:World):Calls prog 243 #[a] w λe w'=>e=.returned false/\w=w':=by go_enter func243,ntmps243;go_wp2_with fail;go_ret;exact⟨rfl,rfl⟩
theorem VT(a b:Int)(w:World):Calls prog 214 #[a,b] w λe w'=>e=.returned (.int .i64 (DF a b))/\w=w':=by
 have c:Hid (DF a b=if a<b then -1 else if b<a then 1 else 0):=hZ9 rfl;rcases cJ a b with h|h|h
 all_goals
  go_enter func214,ntmps214;go_wp2_with fail;refine(VS _ _).mono ?_;rintro e w1 ⟨rfl,rfl⟩;go_wp2_with fail;refine(VS _ _).mono ?_;rintro e w1 ⟨rfl,rfl⟩;go_wp2_with fail
 ·go_ret;exact⟨by rw[c.out,aJ h];rfl,rfl⟩
 ·go_ret;exact⟨by rw[c.out,aG (by omega),aG (by omega)];rfl,rfl⟩
 ·go_ret;exact⟨by rw[c.out,aG (by omega),aJ h];rfl,rfl⟩
theorem YP(a:Int)(c:a.natAbs<=1000000)(w:World):Calls prog 268 #[.float .f64 (Fl.D a)] w λe w'=>e=.returned false/\w=w':=by
 have d:(FloatKind.f64.format.order (Fl.D a) (Fl.D a)==some .eq)=true:=by rw[Qw c c];simp
 have f:(FloatKind.f64.format.order (Fl.D a) (Fl.D a) !=some .eq)=false:=by rw[bne,d];rfl
 go_enter func268,ntmps268;go_wp2_with fail;go_ret;exact⟨rfl,rfl⟩
theorem AgT{a c:Int}(d:a.natAbs<=1000000)(hc:c.natAbs<=1000000):(FloatKind.f64.format.order (Fl.D a) (Fl.D c)==some .lt)=decide (a<c):=by
 rw[ZZ d hc];rcases cJ a c with h|h|h
 ·rw[Fl.cmp_lt h];simp;omega
 ·subst h;rw[Fl.compare_self'];simp
 ·rw[Fl.cmp_gt h];simp;omega
theorem YQ(a b:Int)(c:a.natAbs<=1000000)(hb:b.natAbs<=1000000)(w:World):Calls prog 245 #[.float .f64 (Fl.D a),.float .f64 (Fl.D b)] w λe w'=>e=.returned (.int .i64 (DF a b))/\w=w':=by
 have d:Hid (DF a b=if a<b then -1 else if b<a then 1 else 0):=hZ9 rfl;have f:=AgT c hb;have g:=Afb c hb;rcases cJ a b with h|h|h
 all_goals
  first|rw[aI h] at f|rw[aB (by omega)] at f
  first|rw[aI h] at g|rw[aB (by omega)] at g
  have H:=hZ9 h;clear h;go_enter func245,ntmps245;go_wp2_with fail;refine(YP _ c _).mono ?_;rintro e w1 ⟨rfl,rfl⟩;go_wp2_with fail;refine(YP _ hb _).mono ?_;rintro e w1 ⟨rfl,rfl⟩;go_wp2_with fail
 ·go_ret;exact⟨by rw[d.out,aJ H.out];rfl,rfl⟩
 ·go_ret;have h:=H.out;exact⟨by rw[d.out,aG (by omega),aG (by omega)];rfl,rfl⟩
 ·go_ret;have h:=H.out;exact⟨by rw[d.out,aG (by omega),aJ h];rfl,rfl⟩
theorem VU(a b:Int)(w:World):Calls prog 200 #[a,b] w λe w'=>e=.returned (.int .i64 (DF a b))/\w=w':=by
 have c:Hid (DF a b=if a<b then -1 else if b<a then 1 else 0):=hZ9 rfl;rcases cJ a b with h|h|h
 all_goals
  go_enter func200,ntmps200;go_wp2_with fail
 ·go_ret;exact⟨by rw[c.out,aJ h];rfl,rfl⟩
 ·go_ret;exact⟨by rw[c.out,aG (by omega),aG (by omega)];rfl,rfl⟩
 ·go_ret;exact⟨by rw[c.out,aG (by omega),aJ h];rfl,rfl⟩
def orI(x y z:Int):Int:=if x≠0 then x else if y≠0 then y else z
theorem Ahb(x y z:Int)(b:Nat)(w:World)(h0:w.cell? ⟨b,0,none⟩=some (.int .i64 x))(h1:w.cell? ⟨b,1,none⟩=some (.int .i64 y))(h2:w.cell? ⟨b,2,none⟩=some (.int .i64 z)):
  Calls prog 244 #[.slice (some ⟨b,0,none⟩) 3 3] w λe w'=>e=.returned (.int .i64 (orI x y z))/\w=w':=by
 have f:Hid (orI x y z=if x≠0 then x else if y≠0 then y else z):=hZ9 rfl;by_cases hx:x=0
 ·subst hx;by_cases d:y=0
  ·subst d;by_cases c:z=0
   ·subst c;go_enter func244,ntmps244;go_wp2_with fail;refine wp_loop_rounds 4 ?_
    repeat any_goals(rw[rounds_succ];go_wp2_with fail)
    go_ret;exact⟨by rw[f.out];rfl,rfl⟩
   ·have i:(z !=0)=true:=by simpa using c
    have k:=hZ9 c;clear c;go_enter func244,ntmps244;go_wp2_with fail;refine wp_loop_rounds 4 ?_
    repeat any_goals(rw[rounds_succ];go_wp2_with fail)
    go_ret;exact⟨by rw[f.out];rfl,rfl⟩
  ·have g:(y !=0)=true:=by simpa using d
   have h:=hZ9 d;clear d;go_enter func244,ntmps244;go_wp2_with fail;refine wp_loop_rounds 4 ?_
   repeat any_goals(rw[rounds_succ];go_wp2_with fail)
   go_ret;exact⟨by rw[f.out,aG (by simp),aJ h.out];rfl,rfl⟩
 ·have j:(x !=0)=true:=by simpa using hx
  have HX:=hZ9 hx;clear hx;go_enter func244,ntmps244;go_wp2_with fail;refine wp_loop_rounds 4 ?_
  repeat any_goals(rw[rounds_succ];go_wp2_with fail)
  go_ret;exact⟨by rw[f.out,aJ HX.out];rfl,rfl⟩
end
section
open Go.RowKit
def JA(a b c d:Int):Int:=orI (DF (a*a+b*b) (c*c+d*d)) (DF a c) (DF b d)
theorem Acj(a b c d:Int)(h1:PhS.inR a b=true)(h2:PhS.inR c d=true)(w:World):
  Calls prog 215 #[.complex .f64 (Fl.D a) (Fl.D b),.complex .f64 (Fl.D c) (Fl.D d)] w λe w'=>e=.returned (.int .i64 (JA a b c d))/\Below w.heap.size w w':=by
 have g:a.natAbs<=1000000/\b.natAbs<=1000000:=b7 h1;have f:c.natAbs<=1000000/\d.natAbs<=1000000:=b7 h2;have f1:=λw=>DR (Fl.D a) (Fl.D b) (DX (by omega)) (DX (by omega)) w;have f2:=λw=>DR (Fl.D c) (Fl.D d) (DX (by omega)) (DX (by omega)) w;rw[RI (by omega) (by omega),h1] at f1;rw[RI (by omega) (by omega),h2] at f2;have m:=QB a b h1;have p:=QB c d h2;have k1:=YQ a c g.1 f.1;have o:=YQ b d g.2 f.2;have q:=VT (a*a+b*b) (c*c+d*d);have HP:Hid (JA a b c d=orI (DF (a*a+b*b) (c*c+d*d)) (DF a c) (DF b d)):=hZ9 rfl;generalize DF (a*a+b*b) (c*c+d*d)=q0 at*;generalize a*a+b*b=m1 at*;generalize c*c+d*d=m2 at*;generalize DF a c=q1 at*;generalize DF b d=q2 at*;clear h1 h2 g f;go_enter func215,ntmps215;go_wp2_with fail;refine(f1 _).mono ?_;rintro e w1 ⟨rfl,j⟩;go_wp2_with fail;refine(f2 _).mono ?_;rintro e w2 ⟨rfl,i⟩;go_wp2_with fail;refine(m _).mono ?_;rintro e w3 ⟨rfl,k⟩;go_wp2_with fail;refine(p _).mono ?_;rintro e w4 ⟨rfl,h⟩;go_wp2_with fail;refine(q _).mono ?_;rintro e w5 ⟨rfl,rfl⟩;go_wp2_with fail;refine(k1 _).mono ?_;rintro e w6 ⟨rfl,rfl⟩;go_wp2_with fail;refine(o _).mono ?_;rintro e w7 ⟨rfl,rfl⟩;go_wp2_with fail;refine(Ahb q0 q1 q2 _ _ (by go_simp) (by go_simp) (by go_simp)).mono ?_;rintro e w8 ⟨rfl,rfl⟩;go_wp2_with fail;go_ret;exact⟨by rw[HP.out];rfl,BJ (Aa j (Aa i (Aa k h))) _⟩
end
section
open Go.RowKit
attribute [local go_sem ↓] Go.wp_at_zero Go.wp_at_succ
theorem Je(a b:Int)(c:a.natAbs<=1000000)(hb:b.natAbs<=1000000)(w:World):
  Calls prog 180 #[.agg #[a,b]] w λe w'=>e=.returned (.int .i64 (a*a+b*b))/\Below w.heap.size w w':=by
 have m1:=QA c c;have m2:=QA hb hb;have p1:IntKind.i64.wrap (a*a)=a*a:=Go.IntWalk.i64_in _ (by omega);have p2:IntKind.i64.wrap (b*b)=b*b:=Go.IntWalk.i64_in _ (by omega);have p3:IntKind.i64.wrap (a*a+b*b)=a*a+b*b:=Go.IntWalk.i64_in _ (by omega);clear c hb;go_enter func180,ntmps180;go_wp2_with fail;go_ret;exact⟨by go_num,(Below.refl _ _).alloc (aA _) _⟩
def QC(w:World)(g:Nat)(p q r t:Int)(w':World):Prop:=
 w'.cell? ⟨g,0,none⟩=some (.int .i64 p)/\w'.cell? ⟨g,1,none⟩=some (.int .i64 q)/\w'.cell? ⟨g+1,0,none⟩=some (.int .i64 r)/\w'.cell? ⟨g+1,1,none⟩=some (.int .i64 t)/\Below w.heap.size w w'
theorem QC.drew{g:Nat}{p q r t:Int}(h:QC w g p q r t w'):QC w g p q r t w'.drew:=
 ⟨h.1,h.2.1,h.2.2.1,h.2.2.2.1,h.2.2.2.2.drew⟩
theorem Af6{W:World}{g:Nat}{v0 c v2 v3:Value}(h0:W.cell? ⟨g,0,none⟩=some v0)(h1:W.cell? ⟨g,1,none⟩=some c)
  (h2:W.cell? ⟨g+1,0,none⟩=some v2)(h3:W.cell? ⟨g+1,1,none⟩=some v3)(hb:Below w.heap.size w W)(h:Below W.heap.size W w'):
  w'.cell? ⟨g,0,none⟩=some v0/\w'.cell? ⟨g,1,none⟩=some c/\w'.cell? ⟨g+1,0,none⟩=some v2/\w'.cell? ⟨g+1,1,none⟩=some v3/\Below w.heap.size w w':=
 ⟨CG h (aA _) h0,CG h (aA _) h1,CG h (aA _) h2,CG h (aA _) h3,hb.trans (h.mono hb.size)⟩
def Ack(a b c d:Int)(w:World)(e:Ending)(w':World):Prop:=e=.returned (.int .i64 (JA a b c d))/\Below w.heap.size w w'
theorem VV(a b c d:Int)(j:a.natAbs<=1000000)(hb:b.natAbs<=1000000)(hc:c.natAbs<=1000000)(hd:d.natAbs<=1000000)(w:World):
  Calls prog 181 #[.agg #[a,b],.agg #[c,d]] w (Ack a b c d w):=by
 have k:=Je a b j hb;have p:=Je c d hc hd;have q:=VU (a*a+b*b) (c*c+d*d);have k1:=VU a c;have m:=VU b d;have HP:Hid (JA a b c d=orI (DF (a*a+b*b) (c*c+d*d)) (DF a c) (DF b d)):=hZ9 rfl;generalize DF (a*a+b*b) (c*c+d*d)=q0 at*;generalize a*a+b*b=m1 at*;generalize c*c+d*d=m2 at*;generalize DF a c=q1 at*;generalize DF b d=q2 at*;clear j hb hc hd;go_enter func181,ntmps181;go_wp2_with fail;have i:QC w w.heap.size a b c d ((w.alloc (Obj.cells #[Value.int IntKind.i64 a,Value.int IntKind.i64 b] 184)).alloc (Obj.cells #[Value.int IntKind.i64 c,Value.int IntKind.i64 d] 184)):=
  ⟨by simp[go_sem],by simp[go_sem],by simp[go_sem],by simp[go_sem],BJ (BJ (Below.refl _ _) _) _⟩
 generalize f:w.heap.size=g at*;have s:=hZ9 f;clear f;generalize ((w.alloc (Obj.cells #[Value.int IntKind.i64 a,Value.int IntKind.i64 b] 184)).alloc (Obj.cells #[Value.int IntKind.i64 c,Value.int IntKind.i64 d] 184))=wz at*;go_cut [5] (λv wc=>v=.int .i64 q0/\QC w g a b c d wc)
 case first=>
  go_region_held3 (λw'=>w'.cell? ⟨g,0,none⟩=some (.int .i64 a)/\w'.cell? ⟨g,1,none⟩=some (.int .i64 b)/\w'.cell? ⟨g+1,0,none⟩=some (.int .i64 c)/\w'.cell? ⟨g+1,1,none⟩=some (.int .i64 d)/\Below w.heap.size w w')
   (first|exact i.drew|(go_split_ands;exact Af6 (by assumption) (by assumption) (by assumption) (by assumption) (by assumption) h)|go_keep)
   (first
     |(go_at_call 180;((with_reducible refine(k _).mono ?_);rintro e w1 ⟨rfl,h⟩))
     |(go_at_call 180;((with_reducible refine(p _).mono ?_);rintro e w1 ⟨rfl,h⟩))
     |(go_at_call 200;refine(q _).mono ?_;rintro e w1 ⟨rfl,rfl⟩))
  all_goals go_wp2_with fail
  all_goals go_split_ands
  all_goals go_meet
  all_goals exact⟨rfl,by assumption,by assumption,by assumption,by assumption,by assumption⟩
 case rest=>
  obtain⟨rfl,c0,c1,c2,c3,c4⟩:=hcut;by_cases h0:q0=0
  ·subst h0;go_wp2_with fail;refine(k1 _).mono ?_;rintro e w1 ⟨rfl,rfl⟩;by_cases h1:q1=0
   ·subst h1;go_wp2_with fail;refine(m _).mono ?_;rintro e w1 ⟨rfl,rfl⟩;go_wp2_with fail;go_ret;exact⟨by rw[HP.out];rfl,c4⟩
   ·have H1:=hZ9 h1;have o:(q1 !=0)=true:=by simpa using h1
    clear h1;go_wp2_with fail;go_ret;exact⟨by rw[HP.out];unfold orI;rw[aG (by simp),aJ H1.out];rfl,c4⟩
  ·have H0:=hZ9 h0;have r:(q0 !=0)=true:=by simpa using h0
   clear h0;go_wp2_with fail;go_ret;exact⟨by rw[HP.out];unfold orI;rw[aJ H0.out];rfl,c4⟩
end
