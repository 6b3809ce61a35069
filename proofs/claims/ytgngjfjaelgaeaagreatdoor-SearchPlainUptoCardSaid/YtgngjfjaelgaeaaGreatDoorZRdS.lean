/- Plain laws of parts of names (pairs of a type and a value): how they are written, cut and read. Conditions: as stated. -/
import Derived.Sort.Walk0
import Derived.Test.YtgngjfjaelgaeaaGreatDoorZRuS
namespace Go.Proofs.YtgngjfjaelgaeaaGreatDoor.RdS
open Go.Lib
abbrev Pr:=iK×iK
def EI:iK:=[44,43,34,92,60,62,59]
def AE(c:UInt8):Bool:=EI.contains c
def hexL:iK:=[48,49,50,51,52,53,54,55,56,57,97,98,99,100,101,102]
def BI(n:Nat):UInt8:=hexL.getD n 0
def Bq(first last:Bool)(c:UInt8):iK:=
 if AE c||(c==32&&(first||last))||(c==35&&first) then [92,c]
 else if decide (c.toNat<32)||decide (126<c.toNat) then [92,BI (c.toNat / 16),BI (c.toNat % 16)]
 else [c]
def Dp(v:iK):Nat->iK
 |0=>[]
 |k+1=>Dp v k++(match v[k]? with
  |some c=>Bq (decide (k=0)) (decide (k+1=v.length)) c
  |none=>[])
def EJ(v:iK):iK:=Dp v v.length
theorem Jf(v:iK)(k:Nat)(h:k<v.length):Dp v (k+1)=Dp v k++Bq (decide (k=0)) (decide (k+1=v.length)) v[k]:=by
 have e:Dp v (k+1)=Dp v k++(match v[k]? with
  |some c=>Bq (decide (k=0)) (decide (k+1=v.length)) c
  |none=>[]):=rfl
 rw[e,aK h]
theorem VW(a b:Bool)(c:UInt8):(Bq a b c).length<=3/\1<=(Bq a b c).length:=by
 unfold Bq;split
 ·exact⟨by simp,by simp⟩
 ·split
  ·exact⟨by simp,by simp⟩
  ·exact⟨by simp,by simp⟩
theorem JS(v:iK):∀k,k<=v.length->(Dp v k).length<=3*k
 |0,_=>by simp[Dp]
 |k+1,h=>by rw[Jf v k h,aT];have:=JS v k (by omega);have:=(VW (decide (k=0)) (decide (k+1=v.length)) v[k]).1;omega
def CN(last:iK)(p:Pr):Bool:=
 ((RuS.typeOf p.1).1==p.1)&&((RuS.typeOf p.1).2==1||(RuS.typeOf p.1).2==3)&&Op.bytesLess last p.1&&((RuS.normal p.1 p.2).2==0)
def chain:iK->List Pr->Bool
 |_,[]=>true
 |last,p :: l=>CN last p&&chain p.1 l
def formedS(l:List Pr):Bool:=decide (1<=l.length)&&decide (l.length<=3)&&chain [] l
def ED(l:List Pr):Nat->iK
 |0=>[]
 |k+1=>match l[k]? with
  |some p=>p.1
  |none=>[]
def IM(l:List Pr):Nat->Bool
 |0=>true
 |k+1=>IM l k&&(match l[k]? with
  |some p=>CN (ED l k) p
  |none=>true)
theorem JU(l:List Pr)(k:Nat)(h:k<l.length):IM l (k+1)=(IM l k&&CN (ED l k) l[k]):=by have e:IM l (k+1)=(IM l k&&(match l[k]? with|some p=>CN (ED l k) p|none=>true)):=rfl;rw[e,aK h]
theorem LG(l:List Pr)(k:Nat)(h:k<l.length):ED l (k+1)=l[k].1:=by have e:ED l (k+1)=(match l[k]? with|some p=>p.1|none=>[]):=rfl;rw[e,aK h]
theorem QD{l:List Pr}{k:Nat}(h:k<l.length)(hp:CN (ED l k) l[k]=false):∀n,k<n->IM l n=false:=by
 intro n
 induction n with
 |zero=>intro h;omega
 |succ n a=>
  intro b;by_cases e:n=k
  ·subst e;rw[JU l n h,hp,bY]
  ·have:=a (by omega);show (IM l n&&_)=false
   rw[this];rfl
theorem QE:∀(l:List Pr) (last:iK) (p:Pr),chain last (l++[p])=(chain last l&&CN (match l.getLast? with|some q=>q.1|none=>last) p)
 |[],last,p=>by simp[chain]
 |q :: r,last,p=>by
  rw[List.cons_append];show (CN last q&&chain q.1 (r++[p]))=_
  rw[QE r q.1 p];cases r with
  |nil=>simp[chain]
  |cons a r=>
   rw[dA];cases h:(a :: r).getLast? with
   |none=>simp at h
   |some z=>simp only[chain,Bool.and_assoc]
theorem QF(l:List Pr):∀k,k<=l.length->IM l k=chain [] (l.take k)
 |0,_=>by simp[IM,chain]
 |k+1,h=>by
  rw[JU l k h,QF l k (by omega),aW h,QE];congr 1;cases k with
  |zero=>rfl
  |succ k=>
   rw[LG l k (by omega)];have hk:k<l.length:=by omega
   rw[aW hk,List.getLast?_concat]
theorem OH(l:List Pr):formedS l=(decide (1<=l.length)&&decide (l.length<=3)&&IM l l.length):=by unfold formedS;rw[QF l l.length (aA _),bA]
def pairT(p:Pr):iK:=p.1++[61]++EJ p.2
def Bd(l:List Pr):Nat->iK
 |0=>[]
 |k+1=>Bd l k++(if k=0 then [] else [43])++(match l[k]? with
  |some p=>pairT p
  |none=>[])
def printS(l:List Pr):iK×Int:=if formedS l then(Bd l l.length,0) else([],1)
theorem Iq(l:List Pr)(k:Nat)(h:k<l.length):Bd l (k+1)=Bd l k++(if k=0 then [] else [43])++pairT l[k]:=by have e:Bd l (k+1)=Bd l k++(if k=0 then [] else [43])++(match l[k]? with|some p=>pairT p|none=>[]):=rfl;rw[e,aK h]
def glue(p:iK):List iK->List iK
 |[]=>[p]
 |q :: qs=>(p++q) :: qs
def Ap(sep:UInt8):iK->List iK
 |[]=>[[]]
 |[b]=>if b==sep then [[],[]] else [[b]]
 |b :: d :: l=>if b==sep then [] :: Ap sep (d :: l) else if b==92 then glue [b,d] (Ap sep l) else glue [b] (Ap sep (d :: l))
def hexOf(c:UInt8):Option Nat:=
 if 48<=c.toNat/\c.toNat<=57 then some (c.toNat-48)
 else if 97<=c.toNat/\c.toNat<=102 then some (c.toNat-97+10)
 else if 65<=c.toNat/\c.toNat<=70 then some (c.toNat-65+10)
 else none
def Em(c:UInt8):Bool:=AE c||c==35||c==61||c==32
def Dq(first last:Bool)(c:UInt8):Bool:=AE c||c==0||(c==32&&(first||last))||(c==35&&first)
def AG:Bool->iK->Option iK
 |_,[]=>some []
 |first,[c]=>if Dq first true c then none else some [c]
 |first,[c,d]=>
  if c==92 then(if Em d then some [d] else none)
  else if Dq first false c then none else if Dq false true d then none else some [c,d]
 |first,c :: d :: e :: l=>
  if c==92 then
   if Em d then(AG false (e :: l)).map (d :: ·)
   else match hexOf d,hexOf e with
    |some x,some y=>(AG false l).map (UInt8.ofNat (16*x+y) :: ·)
    |_,_=>none
  else if Dq first false c then none else(AG false (d :: e :: l)).map (c :: ·)
def readS(l:iK):Option iK:=AG true l
end Go.Proofs.YtgngjfjaelgaeaaGreatDoor.RdS
namespace Go.Proofs.YtgngjfjaelgaeaaGreatDoor.RdS
open Go.Lib
theorem Aek(q:iK)(X:List iK):glue [] (q :: X)=q :: X:=rfl
theorem JV(p q:iK)(X:List iK):glue p (glue q X)=glue (p++q) X:=by cases X<;>simp[glue]
theorem IB(p q:iK)(X:List iK):glue p (q :: X)=(p++q) :: X:=rfl
theorem Af7(p:iK)(X:List iK):∃q Y,glue p X=q :: Y:=by
 cases X with
 |nil=>exact⟨_,_,rfl⟩
 |cons q Y=>exact⟨_,_,rfl⟩
theorem VX(p:iK)(X:List iK)(h:X≠[]):(glue p X).length=X.length:=by
 cases X with
 |nil=>exact absurd rfl h
 |cons q Y=>rfl
theorem CS(sep:UInt8)(l:iK):∃p ps,Ap sep l=p :: ps:=by
 match l with
 |[]=>exact⟨_,_,rfl⟩
 |[b]=>unfold Ap;split<;>exact⟨_,_,rfl⟩
 |b :: d :: l=>
  unfold Ap;split
  ·exact⟨_,_,rfl⟩
  ·split<;>exact Af7 _ _
theorem LH{sep:UInt8}(l:iK):Ap sep (sep :: l)=[] :: Ap sep l:=by
 match l with
 |[]=>simp[Ap]
 |d :: l=>simp[Ap]
theorem KW{sep:UInt8}(h:sep≠92):Ap sep [92]=[[92]]:=by unfold Ap;rw[aG (by simpa using λe=>h e.symm)]
theorem IP{sep:UInt8}(h:sep≠92)(d:UInt8)(l:iK):Ap sep (92 :: d :: l)=glue [92,d] (Ap sep l):=by rw[Ap,aG (by simpa using λe=>h e.symm),aJ (by decide)]
theorem JB{sep b:UInt8}(h1:b≠sep)(h2:b≠92)(l:iK):Ap sep (b :: l)=glue [b] (Ap sep l):=by
 match l with
 |[]=>simp[Ap,h1,glue]
 |d :: l=>rw[Ap,aG (by simpa using h1),aG (by simpa using h2)]
theorem Jg{sep:UInt8}:∀l:iK,(Ap sep l).length<=l.length+1
 |[]=>by simp[Ap]
 |[b]=>by unfold Ap;split<;>simp
 |b :: d :: l=>by
  have h1:=Jg (sep:=sep) (d :: l);have h2:=Jg (sep:=sep) l;unfold Ap;split
  ·simp only[aN] at h1⊢;omega
  ·obtain⟨p,ps,a⟩:=CS sep l;obtain⟨q,e,c⟩:=CS sep (d :: l);split
   ·rw[VX _ _ (by rw[a];simp)];simp only[aN];omega
   ·rw[VX _ _ (by rw[c];simp)];simp only[aN] at h1⊢;omega
theorem EO{sep:UInt8}:∀(l:iK),∀p∈Ap sep l,p.length<=l.length
 |[],p,h=>by simp[Ap] at h;subst h;simp
 |[b],p,h=>by
  unfold Ap at h;split at h
  ·simp at h;subst h;simp
  ·simp at h;subst h;simp
 |b :: d :: l,p,h=>by
  have h1:=EO (sep:=sep) (d :: l);have h2:=EO (sep:=sep) l;obtain⟨p1,f,a⟩:=CS sep l;obtain⟨p2,e,c⟩:=CS sep (d :: l);rw[a] at h2;rw[c] at h1;unfold Ap at h;rw[a,c] at h;split at h
  ·rcases ay.1 h with rfl|h
   ·simp
   ·have:=h1 p h;simp only[aN] at this⊢;omega
  ·split at h
   ·rw[IB] at h;rcases ay.1 h with rfl|h
    ·have:=h2 p1 (ai ..);simp only[aT,aN,aS];omega
    ·have:=h2 p (au _ h);simp only[aN];omega
   ·rw[IB] at h;rcases ay.1 h with rfl|h
    ·have:=h1 p2 (ai ..);simp only[aT,aN,aS] at this⊢;omega
    ·have:=h1 p (au _ h);simp only[aN] at this⊢;omega
def Bf(sep:UInt8)(x:iK):Prop:=∀y,Ap sep (x++y)=glue x (Ap sep y)
theorem Bf.nil(sep:UInt8):Bf sep []:=λy=>by obtain⟨p,ps,e⟩:=CS sep y;rw[List.nil_append,e,Aek]
theorem Bf.append{sep:UInt8}{a b:iK}(c:Bf sep a)(hb:Bf sep b):Bf sep (a++b):=λy=>by rw[bL,c,hb,JV]
theorem Bf.one{sep c:UInt8}(h1:c≠sep)(h2:c≠92):Bf sep [c]:=λy=>JB h1 h2 y
theorem Bf.two{sep:UInt8}(h:sep≠92)(c:UInt8):Bf sep [92,c]:=λy=>IP h c y
theorem Bf.all{sep:UInt8}:∀{l:iK},(∀c∈l,c≠sep/\c≠92)->Bf sep l
 |[],_=>Bf.nil sep
 |c :: l,h=>by have h1:=h c (ai ..);exact(Bf.one h1.1 h1.2).append (Bf.all (λd hd=>h d (au _ hd)))
theorem Bf.split{sep:UInt8}{x:iK}(h:Bf sep x):Ap sep x=[x]:=by have:=h [];rw[bK] at this;rw[this];simp[Ap,glue]
theorem Bf.split_sep{sep:UInt8}{x:iK}(h:Bf sep x)(y:iK):Ap sep (x++sep :: y)=x :: Ap sep y:=by rw[h,LH,IB,bK]
def FU:Bool->iK->iK
 |_,[]=>[]
 |first,c :: l=>Bq first l.isEmpty c++FU false l
theorem Af8(f:Bool)(c:UInt8)(l:iK):(FU f (c :: l)).isEmpty=false:=by have:=(VW f l.isEmpty c).2;unfold FU;rw[fV];intro h;have h2:=congrArg List.length h;rw[aT,aS] at h2;omega
theorem QG(v:iK):∀n k,k+n=v.length->Dp v v.length=Dp v k++FU (decide (k=0)) (v.drop k)
 |0,k,h=>by
  have:k=v.length:=by omega
  subst this;rw[cj];simp[FU]
 |n+1,k,h=>by
  have hk:k<v.length:=by omega
  rw[QG v n (k+1) (by omega),Jf v k hk,av hk];have a:decide (k+1=0)=false:=by simp
  rw[a];have b:(v.drop (k+1)).isEmpty=decide (k+1=v.length):=by rw[bR,dD,ej,az];omega
  show _=Dp v k++(Bq (decide (k=0)) (v.drop (k+1)).isEmpty v[k]++FU false (v.drop (k+1)))
  rw[b,bL]
theorem SX(v:iK):EJ v=FU true v:=by have:=QG v v.length 0 (by omega);unfold EJ;rw[this];rfl
theorem QH(f l:Bool)(c:UInt8):(Bq f l c=[92,c]/\Em c=true)\/
  (Bq f l c=[92,BI (c.toNat / 16),BI (c.toNat % 16)])\/
  (Bq f l c=[c]/\AE c=false/\Dq f l c=false/\32<=c.toNat/\c.toNat<=126):=by
 unfold Bq;split
 ·rename_i h;refine .inl ⟨rfl,?_⟩;unfold Em;simp only[dc,bC] at h⊢;rcases h with (h|h)|h
  ·exact .inl (.inl (.inl h))
  ·exact .inr h.1
  ·exact .inl (.inl (.inr h.1))
 ·rename_i h;split
  ·exact .inr (.inl rfl)
  ·rename_i h2;simp only[dc,az,not_or,Nat.not_lt] at h2;have h3:(AE c||(c==32&&(f||l))||(c==35&&f))=false:=by simpa using h
   refine .inr (.inr ⟨rfl,?_,?_,h2.1,h2.2⟩)
   ·simp only[cz] at h3;exact h3.1.1
   ·have a:(c==0)=false:=by
     rw[aV];intro e;subst e;exact absurd h2.1 (by decide)
    unfold Dq;simp only[cz] at h3⊢;exact⟨⟨⟨h3.1.1,a⟩,h3.1.2⟩,h3.2⟩
theorem LI:∀n:Fin 16,hexOf (BI n.val)=some n.val/\Em (BI n.val)=false/\AE (BI n.val)=false/\32<=(BI n.val).toNat/\(BI n.val).toNat<=126/\BI n.val≠92:=by decide+kernel
theorem Ael(c:UInt8):UInt8.ofNat (16*(c.toNat / 16)+c.toNat % 16)=c:=by rw[Nat.div_add_mod];exact dB
theorem EL(f:Bool){d:UInt8}(h:Em d=true)(l:iK):AG f (92 :: d :: l)=(AG false l).map (d :: ·):=by
 cases l with
 |nil=>simp[AG,h]
 |cons e l=>simp[AG,h]
theorem EZ(f:Bool){d e:UInt8}{x y:Nat}(h:Em d=false)(h1:hexOf d=some x)(h2:hexOf e=some y)(l:iK):
  AG f (92 :: d :: e :: l)=(AG false l).map (UInt8.ofNat (16*x+y) :: ·):=by
 simp[AG,h,h1,h2]
theorem Df(f:Bool){d e:UInt8}(h:Em d=false)(h1:hexOf d=none\/hexOf e=none)(l:iK):AG f (92 :: d :: e :: l)=none:=by
 rw[AG,aJ (by decide),aG (by rw[h];decide)];split
 ·rename_i x y a b;rcases h1 with h1|h1
  ·rw[h1] at a;cases a
  ·rw[h1] at b;cases b
 ·rfl
theorem FV(f:Bool){d:UInt8}(h:Em d=false):AG f [92,d]=none:=by simp[AG,h]
theorem IC(f:Bool):AG f [92]=none:=by
 have:Dq f true 92=true:=by unfold Dq;simp[show AE 92=true from by decide]
 simp[AG,this]
theorem JW{f:Bool}{c:UInt8}(h:c≠92){l:iK}(hb:Dq f l.isEmpty c=true):AG f (c :: l)=none:=by
 match l with
 |[]=>simp[AG,show Dq f true c=true from hb]
 |[d]=>simp[AG,h,show Dq f false c=true from hb]
 |d :: e :: l=>simp[AG,h,show Dq f false c=true from hb]
theorem Ir{f:Bool}{c:UInt8}(h:c≠92){l:iK}(hb:Dq f l.isEmpty c=false):AG f (c :: l)=(AG false l).map (c :: ·):=by
 match l with
 |[]=>simp[AG,show Dq f true c=false from hb]
 |[d]=>have a:Dq f false c=false:=hb;by_cases hd:Dq false true d=true<;>simp[AG,h,a,hd]
 |d :: e :: l=>rw[AG,aG (by simpa using h),aG (by rw[show Dq f false c=false from hb];decide)]
theorem SY:∀(v:iK) (f:Bool),AG f (FU f v)=some v
 |[],f=>rfl
 |c :: v,f=>by
  have g:=SY v false;rcases QH f v.isEmpty c with⟨h,hb⟩|h|⟨h,j,hb,h1,h2⟩
  ·show AG f (Bq f v.isEmpty c++FU false v)=_
   rw[h];show AG f (92 :: c :: FU false v)=_
   rw[EL f hb,g];rfl
  ·show AG f (Bq f v.isEmpty c++FU false v)=_
   rw[h];have i:=LI ⟨c.toNat / 16,by have:=c.toNat_lt;omega⟩;have k:=LI ⟨c.toNat % 16,by omega⟩;show AG f (92 :: BI (c.toNat / 16) :: BI (c.toNat % 16) :: FU false v)=_
   rw[EZ f i.2.1 i.1 k.1,g,Ael];rfl
  ·show AG f (Bq f v.isEmpty c++FU false v)=_
   rw[h];have b:c≠92:=by intro e;subst e;exact absurd j (by decide)
   have a:(FU false v).isEmpty=v.isEmpty:=by
    cases v with
    |nil=>rfl
    |cons d v=>rw[Af8];rfl
   show AG f (c :: FU false v)=_
   rw[Ir b (by rw[a];exact hb),g];rfl
theorem Acl(v:iK):readS (EJ v)=some v:=by rw[SX];exact SY v true
theorem Gu{sep:UInt8}(h:AE sep=true){c:UInt8}(hc:AE c=false):c≠sep:=by intro e;subst e;rw[h] at hc;cases hc
theorem QI{sep:UInt8}(h:AE sep=true)(h92:sep≠92):∀(v:iK) (f:Bool),Bf sep (FU f v)
 |[],f=>Bf.nil sep
 |c :: v,f=>by
  have d:=QI h h92 v false;show Bf sep (Bq f v.isEmpty c++FU false v)
  refine Bf.append ?_ d;rcases QH f v.isEmpty c with⟨e,hb⟩|e|⟨e,a,hb,h1,h2⟩
  ·rw[e];exact Bf.two h92 c
  ·rw[e];have b:=LI ⟨c.toNat % 16,by omega⟩;show Bf sep ([92,BI (c.toNat / 16)]++[BI (c.toNat % 16)])
   exact(Bf.two h92 _).append (Bf.one (Gu h b.2.2.1) b.2.2.2.2.2)
  ·rw[e];exact Bf.one (Gu h a) (Gu (by decide) a)
theorem Aag{sep:UInt8}(h:AE sep=true)(h92:sep≠92)(v:iK):Bf sep (EJ v):=by rw[SX];exact QI h h92 v true
def Fa(a:Pr):List Pr->List Pr
 |[]=>[a]
 |p :: l=>if Op.bytesLess p.1 a.1 then p :: Fa a l else a :: p :: l
def CH(l:List Pr):List Pr:=l.foldl (λout a=>Fa a out) []
def le2(a b:Pr):Prop:=Op.bytesLess b.1 a.1=false
def lt2(a b:Pr):Prop:=Op.bytesLess a.1 b.1=true
theorem Nr(a:Pr):∀l,(Fa a l).Perm (a :: l)
 |[]=>dw _
 |p :: l=>by
  unfold Fa;split
  ·exact((Nr a l).cons p).trans (List.Perm.swap a p l)
  ·exact dw _
theorem QJ:∀(l out:List Pr),(l.foldl (λout a=>Fa a out) out).Perm (l++out)
 |[],out=>dw _
 |a :: l,out=>by
  show (l.foldl (λout a=>Fa a out) (Fa a out)).Perm _
  refine(QJ l (Fa a out)).trans ?_;exact((Nr a out).append_left l).trans List.perm_middle
theorem LJ(l:List Pr):(CH l).Perm l:=by
 have:=QJ l []
 rwa [bK] at this
theorem Aah{x y:iK}(h:Op.bytesLess x y=true):Op.bytesLess y x=false:=by have h1:=RuS.less_iff x y;have h2:=RuS.less_iff y x;have h3:=RuS.compare_swap x y;rw[h] at h1;have h4:=b7 h1.symm;rw[h2,h3,h4];rfl
theorem LK{x y z:iK}(h:Op.bytesLess x y=true)(h2:Op.bytesLess y z=true):Op.bytesLess x z=true:=by rw[Proofs.bytesLess_eq,az] at h h2⊢;exact List.lt_trans h h2
theorem XO{x y:iK}(h:Op.bytesLess x y=false)(h2:Op.bytesLess y x=false):x=y:=by have e:=RuS.eq_iff x y;have h1:=RuS.less_iff x y;have h3:=RuS.less_iff y x;have h4:=RuS.compare_swap x y;have h5:=RuS.compare_range x y;rw[h] at h1;rw[h2] at h3;have h1:=bf h1.symm;have h3:=bf h3.symm;rw[aI (by omega)] at e;exact ag.1 e
theorem SZ{a b c:Pr}(h:le2 a b)(h2:le2 b c):le2 a c:=by
 unfold le2 at*;cases d:Op.bytesLess c.1 a.1 with
 |false=>rfl
 |true=>
  cases f:Op.bytesLess a.1 b.1 with
  |true=>have:=LK d f;rw[h2] at this;cases this
  |false=>have e:=XO f h;rw[e,h2] at d;cases d
theorem RJ{a b:Pr}(h:lt2 a b):le2 a b:=Aah h
theorem OI(a:Pr):∀l,l.Pairwise le2->(Fa a l).Pairwise le2
 |[],_=>by simp[Fa]
 |p :: l,h=>by
  have d:=cF.1 h;unfold Fa;split
  ·rename_i c;refine cF.2 ⟨λb hb=>?_,OI a l d.2⟩;have:=(Nr a l).mem_iff.1 hb;rcases ay.1 this with rfl|hb
   ·exact RJ c
   ·exact d.1 b hb
  ·rename_i c;have c:le2 a p:=by unfold le2;simpa using c
   refine cF.2 ⟨λb hb=>?_,h⟩;rcases ay.1 hb with rfl|hb
   ·exact c
   ·exact SZ c (d.1 b hb)
theorem Ns:∀(l out:List Pr),out.Pairwise le2->(l.foldl (λout a=>Fa a out) out).Pairwise le2
 |[],_,h=>h
 |a :: l,out,h=>Ns l (Fa a out) (OI a out h)
theorem VY(l:List Pr):(CH l).Pairwise le2:=Ns l [] eP
theorem VZ:∀(l:List Pr) (last:iK),chain last l=true->l.Pairwise lt2/\∀p∈l,Op.bytesLess last p.1=true
 |[],_,_=>⟨eP,λp h=>by cases h⟩
 |q :: l,last,h=>by
  have c:(CN last q&&chain q.1 l)=true:=h;rw[bC] at c;obtain⟨h1,h2⟩:=c;have a:=VZ l q.1 h2;have b:Op.bytesLess last q.1=true:=by unfold CN at h1;simp only[bC] at h1;exact h1.1.2
  refine⟨cF.2 ⟨a.2,a.1⟩,λp hp=>?_⟩;rcases ay.1 hp with rfl|hp
  ·exact b
  ·exact LK b (a.2 p hp)
theorem Nu{l:List Pr}(h:formedS l=true):l.Pairwise lt2:=by unfold formedS at h;rw[bC] at h;exact(VZ l [] h.2).1
theorem Nv:∀{l:List Pr},l.Pairwise lt2->∀x∈l,∀y∈l,x≠y->lt2 x y\/lt2 y x
 |[],_,_,h,_,_,_=>by cases h
 |q :: l,h,x,hx,y,hy,hxy=>by
  have b:=cF.1 h;rcases ay.1 hx with rfl|hx1
  ·rcases ay.1 hy with rfl|a
   ·exact absurd rfl hxy
   ·exact .inl (b.1 y a)
  ·rcases ay.1 hy with rfl|a
   ·exact .inr (b.1 x hx1)
   ·exact Nv b.2 x hx1 y a hxy
theorem MG{ys zs:List Pr}(hp:ys.Perm zs)(f:ys.Pairwise lt2)(g:zs.Pairwise le2):ys=zs:=by
 refine List.Perm.eq_of_pairwise (le:=le2) (λa b i hb h1 h2=>?_) (f.imp RJ) g hp;have c:=hp.mem_iff.2 hb;rcases Classical.em (a=b) with e|d
 ·exact e
 ·exfalso;rcases Nv f a i b c d with h|h
  ·unfold lt2 at h;unfold le2 at h2;rw[h2] at h;cases h
  ·unfold lt2 at h;unfold le2 at h1;rw[h1] at h;cases h
theorem sort_same{ys xs:List Pr}(hp:ys.Perm xs)(b:ys.Pairwise le2):formedS ys=formedS (CH xs)/\(formedS ys=true->ys=CH xs):=by
 have a:ys.Perm (CH xs):=hp.trans (LJ xs).symm;have h1:formedS ys=true->ys=CH xs:=λh=>MG a (Nu h) (VY xs);refine⟨?_,h1⟩;cases h:formedS ys with
 |true=>rw[<-h1 h];exact h.symm
 |false=>
  cases h2:formedS (CH xs) with
  |false=>rfl
  |true=>rw[MG a.symm (Nu h2) b] at h2;rw[h2] at h;cases h
def nameOf(p:iK):iK:=p.takeWhile (· !=61)
def CJ(p:iK):Option Pr:=
 if p.contains 61 then
  if(RuS.typeOf (nameOf p)).1=[] then none else(readS (p.drop ((nameOf p).length+1))).map ((RuS.typeOf (nameOf p)).1,·)
 else none
def CZ:List iK->Option (List Pr)
 |[]=>some []
 |p :: ps=>match CJ p with
  |some a=>(CZ ps).map (a :: ·)
  |none=>none
def Bh(s:iK):List Pr×Int:=
 match CZ (Ap 43 s) with
 |none=>([],2)
 |some ps=>if formedS (CH ps) then(CH ps,0) else([],2)
theorem OJ:∀(ps:List iK) (p:iK),CZ (ps++[p])=match CZ ps,CJ p with
  |some l,some a=>some (l++[a])
  |_,_=>none
 |[],p=>by
  show CZ [p]=_
  unfold CZ;cases CJ p with
  |none=>rfl
  |some a=>rfl
 |q :: ps,p=>by
  have c:=OJ ps p;show CZ (q :: (ps++[p]))=_
  unfold CZ;cases CJ q with
  |none=>simp
  |some b=>
   simp only;rw[c];cases CZ ps with
   |none=>rfl
   |some l=>
    cases CJ p with
    |none=>rfl
    |some a=>rfl
theorem OL:∀{ps:List iK} {p:iK},p∈ps->CJ p=none->CZ ps=none
 |q :: ps,p,h,hn=>by
  unfold CZ;rcases ay.1 h with rfl|h
  ·rw[hn]
  ·cases CJ q with
   |none=>rfl
   |some b=>simp only;rw[OL h hn];rfl
theorem QK:∀{ps:List iK} {l:List Pr},CZ ps=some l->l.length=ps.length
 |[],l,h=>by cases h;rfl
 |q :: ps,l,h=>by
  unfold CZ at h;cases a:CJ q with
  |none=>rw[a] at h;cases h
  |some b=>
   rw[a] at h;cases hp:CZ ps with
   |none=>simp only[hp] at h;cases h
   |some l2=>simp only[hp] at h;have:=QK hp;have:=aU h;subst this;simp only[aN];omega
theorem JC(l:List Pr):(CH l).length=l.length:=(LJ l).length_eq
end Go.Proofs.YtgngjfjaelgaeaaGreatDoor.RdS
namespace Go.Proofs.YtgngjfjaelgaeaaGreatDoor.RdS
open Go.Lib
theorem join_snoc(X:List iK)(y s:iK):Lib.join (X++[y]) s=if X.isEmpty then y else Lib.join X s++s++y:=by
 cases X with
 |nil=>simp[Lib.join_one]
 |cons x X=>
  simp only[List.isEmpty_cons,bP,cH];unfold Lib.join List.intercalate
  induction X generalizing x with
  |nil=>simp[List.intersperse]
  |cons z Z a=>have:=a z;simp only[List.cons_append,List.intersperse_cons_cons,List.flatten_cons,bL] at this⊢;rw[this]
theorem KF(l:List Pr):∀k,k<=l.length->Bd l k=Lib.join ((l.take k).map pairT) [43]
 |0,_=>by simp[Bd,Lib.join,List.intercalate]
 |k+1,h=>by
  have hk:k<l.length:=by omega
  rw[Iq l k hk,KF l k (by omega),aW hk,bQ,List.map_singleton,join_snoc];cases k with
  |zero=>simp[Lib.join,List.intercalate]
  |succ k=>
   have e:((l.take (k+1)).map pairT).isEmpty=false:=by rw[fV];intro h2;have h3:=congrArg List.length h2;rw[b9,ar,aS] at h3;omega
   rw[aG (by omega),e,aG (by decide)]
theorem LL{sep:UInt8}:∀(Ps:List iK),Ps≠[]->(∀p∈Ps,Bf sep p)->Ap sep (Lib.join Ps [sep])=Ps
 |[],h,_=>absurd rfl h
 |[p],_,hn=>by rw[Lib.join_one];exact(hn p (aj.2 rfl)).split
 |p :: q :: r,_,hn=>by rw[RuS.join_cons_cons];have a:=LL (sep:=sep) (q :: r) (by simp) (λx hx=>hn x (au _ hx));rw[show p++[sep]++Lib.join (q :: r) [sep]=p++sep :: Lib.join (q :: r) [sep] from by simp];rw[(hn p (ai ..)).split_sep,a]
theorem XP:∀r∈RuS.tab,∀c∈r.2.1,65<=c.toNat/\c.toNat<=122/\c≠92:=by decide+kernel
theorem Nw(nm:iK):∀c∈(RuS.typeOf nm).1,65<=c.toNat/\c.toNat<=122/\c≠92:=by
 unfold RuS.typeOf RuS.typeM;cases h:RuS.tab.find? (λr=>RuS.lower nm==r.1) with
 |none=>intro c hc;cases hc
 |some r=>exact XP r (dP h)
theorem Ny{last:iK}{p:Pr}(h:CN last p=true):(RuS.typeOf p.1).1=p.1/\((RuS.typeOf p.1).2=1\/(RuS.typeOf p.1).2=3)/\Op.bytesLess last p.1=true/\(RuS.normal p.1 p.2).2=0:=by unfold CN at h;simp only[bC,dc,ag] at h;exact⟨h.1.1.1,h.1.1.2,h.1.2,h.2⟩
theorem Ta:∀{l:List Pr} {last:iK},chain last l=true->∀p∈l,∃la,CN la p=true
 |q :: l,last,h,p,hp=>by
  have a:(CN last q&&chain q.1 l)=true:=h;rw[bC] at a;rcases ay.1 hp with rfl|hp
  ·exact⟨_,a.1⟩
  ·exact Ta a.2 p hp
theorem Hm{l:List Pr}(h:formedS l=true):1<=l.length/\l.length<=3/\chain [] l=true/\∀p∈l,(RuS.typeOf p.1).1=p.1/\((RuS.typeOf p.1).2=1\/(RuS.typeOf p.1).2=3)/\(RuS.normal p.1 p.2).2=0:=by unfold formedS at h;simp only[bC,az] at h;refine⟨h.1.1,h.1.2,h.2,λp hp=>?_⟩;obtain⟨la,a⟩:=Ta h.2 p hp;have:=Ny a;exact⟨this.1,this.2.1,this.2.2.2⟩
theorem YR{nm:iK}(h:(RuS.typeOf nm).2=1\/(RuS.typeOf nm).2=3):(RuS.typeOf nm).1≠[]:=by
 rcases RuS.typeM_all (RuS.lower nm) with e|e
 ·have a:RuS.typeOf nm=([],0):=e;rw[a] at h;simp at h
 ·have a:1<=(RuS.typeOf nm).1.length:=e.2.2.1;intro h0;rw[h0] at a;simp at a
theorem KX{t u:iK}(h:∀c∈t,c≠61):(t++61 :: u).takeWhile (· !=61)=t:=by
 induction t with
 |nil=>simp
 |cons c t a=>have hc:=h c (ai ..);rw[List.cons_append,cZ,aJ (by simpa using hc),a (λd hd=>h d (au _ hd))]
theorem Acm{p:Pr}(h1:(RuS.typeOf p.1).1=p.1)(h2:(RuS.typeOf p.1).2=1\/(RuS.typeOf p.1).2=3):CJ (pairT p)=some p:=by
 have b:=Nw p.1;rw[h1] at b;have a:=YR h2;rw[h1] at a;have e:pairT p=p.1++61 :: EJ p.2:=by unfold pairT;simp
 have f:nameOf (pairT p)=p.1:=by unfold nameOf;rw[e];exact KX (λc hc=>by intro h;subst h;exact absurd (b _ hc).1 (by decide))
 unfold CJ;rw[f,aJ (by rw[e,cg];simp),h1,aG a];have d:(pairT p).drop (p.1.length+1)=EJ p.2:=by rw[e,fY];simp
 rw[d,Acl];rfl
theorem OM{sep:UInt8}(b:AE sep=true)(h9:sep≠92)(d:sep.toNat<65){p:Pr}(h1:(RuS.typeOf p.1).1=p.1):Bf sep (pairT p):=by have a:=Nw p.1;rw[h1] at a;unfold pairT;refine Bf.append (Bf.append (Bf.all (λc hc=>⟨?_,(a c hc).2.2⟩)) (Bf.one (Gu b (by decide)) (by decide))) (Aag b h9 p.2);intro h;subst h;have:=(a _ hc).1;omega
theorem Wa{sep:UInt8}(c:AE sep=true)(h9:sep≠92)(d:sep.toNat<65)(h43:sep≠43){l:List Pr}(h:formedS l=true):Bf sep (Bd l l.length):=by
 obtain⟨g1,g2,g3,g4⟩:=Hm h;rw[KF l _ (aA _),bA];have a:∀p∈l.map pairT,Bf sep p:=by intro x hx;obtain⟨p,hp,rfl⟩:=bG.1 hx;exact OM c h9 d (g4 p hp).1
 generalize l.map pairT=Ps at a;clear g1 g2 g3 g4
 induction Ps with
 |nil=>simpa[Lib.join,List.intercalate] using Bf.nil sep
 |cons p r b=>
  cases r with
  |nil=>rw[Lib.join_one];exact a p (ai ..)
  |cons q r=>rw[RuS.join_cons_cons];exact((a p (ai ..)).append (Bf.one (λe=>h43 e.symm) (by decide))).append (b (λx hx=>a x (au _ hx)))
theorem QM:∀{l:List Pr},(∀p∈l,CJ (pairT p)=some p)->CZ (l.map pairT)=some l
 |[],_=>rfl
 |p :: l,h=>by rw[cT];unfold CZ;rw[h p (ai ..)];simp only;rw[QM (λq a=>h q (au _ a))];rfl
theorem XQ{l:List Pr}(h:formedS l=true):CH l=l:=((sort_same (dw l) ((Nu h).imp RJ)).2 h).symm
theorem Acn{l:List Pr}(h:formedS l=true):Bh (Bd l l.length)=(l,0):=by
 obtain⟨g1,g2,g3,g4⟩:=Hm h;have e:Ap 43 (Bd l l.length)=l.map pairT:=by
  rw[KF l _ (aA _),bA];refine LL _ ?_ ?_
  ·intro h0;have:=congrArg List.length h0;rw[b9] at this;simp at this;rw[this] at g1;simp at g1
  ·intro x hx;obtain⟨p,hp,rfl⟩:=bG.1 hx;exact OM (by decide) (by decide) (by decide) (g4 p hp).1
 unfold Bh;rw[e,QM (λp hp=>Acm (g4 p hp).1 (g4 p hp).2.1)];simp only;rw[XQ h,aJ h]
theorem XR{s:iK}{l:List Pr}(h:Bh s=(l,0)):formedS l=true:=by
 unfold Bh at h;split at h
 ·cases h
 ·rename_i ps hp;split at h
  ·rename_i a;cases h;exact a
  ·cases h
theorem Tc{s:iK}(h:(Bh s).2≠0):Bh s=([],2):=by
 unfold Bh at h⊢;split
 ·rfl
 ·rename_i ps hp;rw[hp] at h;simp only at h;split
  ·rename_i a;rw[aJ a] at h;exact absurd rfl h
  ·rfl
def AW(l:List Pr):List Pr:=l.map λp=>(p.1,(RuS.normal p.1 p.2).1)
def normP(l:List Pr):List Pr×Int:=if formedS l then(AW l,0) else([],1)
theorem XS{last:iK}{p:Pr}(h:CN last p=true):CN last (p.1,(RuS.normal p.1 p.2).1)=true/\(RuS.normal p.1 (RuS.normal p.1 p.2).1).1=(RuS.normal p.1 p.2).1:=by
 obtain⟨h1,h2,h3,h4⟩:=Ny h;have b:RuS.normal p.1 p.2=((RuS.normal p.1 p.2).1,0):=by rw[<-h4]
 have a:=RuS.normal_idem b;refine⟨?_,by rw[a]⟩;unfold CN;simp only[bC,dc,ag];exact⟨⟨⟨h1,h2⟩,h3⟩,by rw[a]⟩
theorem QO:∀{l:List Pr} {last:iK},chain last l=true->chain last (AW l)=true/\AW (AW l)=AW l
 |[],_,_=>⟨rfl,rfl⟩
 |q :: l,last,h=>by
  have a:(CN last q&&chain q.1 l)=true:=h;rw[bC] at a;have h1:=XS a.1;have b:=QO a.2;refine⟨?_,?_⟩
  ·show (CN last (q.1,(RuS.normal q.1 q.2).1)&&chain q.1 (AW l))=true
   rw[h1.1,b.1];rfl
  ·show (q.1,(RuS.normal q.1 (RuS.normal q.1 q.2).1).1) :: AW (AW l)=(q.1,(RuS.normal q.1 q.2).1) :: AW l
   rw[h1.2,b.2]
theorem FW(l:List Pr):(AW l).length=l.length:=by unfold AW;rw[b9]
theorem Ea{l:List Pr}(h:formedS l=true):formedS (AW l)=true/\AW (AW l)=AW l:=by unfold formedS at h⊢;simp only[bC,az] at h;have:=QO h.2;refine⟨?_,this.2⟩;rw[FW,this.1,aI h.1.1,aI h.1.2];rfl
theorem Wb(v:iK):(EJ v).length<=3*v.length:=JS v v.length (aA _)
theorem Aco(p:Pr):(pairT p).length<=p.1.length+1+3*p.2.length:=by have:=Wb p.2;unfold pairT;simp only[aT,aN,aS];omega
theorem QP(l:List Pr)(m:Nat)(h:∀p∈l,p.1.length<=m/\p.2.length<=m):∀k,k<=l.length->(Bd l k).length<=k*(4*m+2)
 |0,_=>by simp[Bd]
 |k+1,hk=>by
  have a:k<l.length:=by omega
  have b:=QP l m h k (by omega);have h1:=Aco l[k];have h2:=h l[k] (aZ a);rw[Iq l k a,aT,aT];have h3:(if k=0 then([]:iK) else [43]).length<=1:=by split<;>simp
  have h4:(k+1)*(4*m+2)=k*(4*m+2)+(4*m+2):=by rw[dJ,eV]
  omega
theorem EP{l:List Pr}(h:formedS l=true):l.length<=3/\∀p∈l,p.1.length<=17/\p.2.length<=200:=by
 obtain⟨g1,g2,g3,g4⟩:=Hm h;refine⟨g2,λp hp=>?_⟩;obtain⟨h1,h2,h3⟩:=g4 p hp;refine⟨?_,?_⟩
 ·rw[<-h1];rcases RuS.typeM_all (RuS.lower p.1) with e|e
  ·have:RuS.typeOf p.1=([],0):=e;rw[this];simp
  ·exact e.2.2.2
 ·exact(RuS.normal_ok (nm:=p.1) (v:=p.2) (s:=(RuS.normal p.1 p.2).1) (by rw[<-h3])).2.2.1
theorem LM{l:List Pr}(h:formedS l=true)(k:Nat)(hk:k<=l.length):(Bd l k).length<=3000:=by
 have a:=EP h;have:=QP l 200 (λp hp=>⟨by have:=(a.2 p hp).1;omega,(a.2 p hp).2⟩) k hk;have h2:k<=3:=by omega
 have:k*(4*200+2)<=3*(4*200+2):=bu _ h2;omega
end Go.Proofs.YtgngjfjaelgaeaaGreatDoor.RdS
