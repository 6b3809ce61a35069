/- Plain laws on the texts of complex whole numbers: how they are printed, how both parsers read them, and that the two agree; no program in sight. Conditions: as stated. -/
import Derived.Test.YtgngjfjaelgaeaaGreatDoorZAl
import Derived.Lib.ItoaNum
import Derived.Lib.ParseIntB
import Derived.Lib.Strings
import Derived.Laws.ComplexArith
namespace Go.Proofs.YtgngjfjaelgaeaaGreatDoor.PhS
open Go.Lib
def isDig(c:UInt8):Bool:=decide (48<=c.toNat/\c.toNat<=57)
theorem decDigits_dig(u:Nat):∀c∈decDigits u,48<=c.toNat/\c.toNat<=57:=by
 induction u using Nat.strongRecOn with
 |_ u ih=>
  intro c hc;rw[decDigits] at hc;by_cases h:u<10
  ·rw[gw h] at hc;have:c=UInt8.ofNat (48+u):=by simpa using hc
   subst this;rw[bz];omega
  ·rw[iI h] at hc;rcases bB.1 hc with h1|h1
   ·exact ih (u / 10) (by omega) c h1
   ·have:c=UInt8.ofNat (48+u % 10):=by simpa using h1
    subst this;rw[bz];omega
theorem decDigits_ne(u:Nat):decDigits u≠[]:=by intro h;have:=decDigits_length u;have:=nDigits_pos u;rw[h] at*;simp at*;omega
def valFrom(acc:Nat)(l:iK):Nat:=l.foldl (λa c=>a*10+(c.toNat-48)) acc
theorem KQ(acc:Nat)(l r:iK):valFrom acc (l++r)=valFrom (valFrom acc l) r:=by unfold valFrom;rw[dG]
theorem valFrom_dec(u:Nat):valFrom 0 (decDigits u)=u:=by
 induction u using Nat.strongRecOn with
 |_ u ih=>
  rw[decDigits];by_cases h:u<10
  ·rw[gw h];simp only[valFrom,List.foldl_cons,List.foldl_nil,bz];omega
  ·rw[iI h,KQ,ih (u / 10) (by omega)];simp only[valFrom,List.foldl_cons,List.foldl_nil,bz];omega
theorem ZU(l:iK):∀acc,acc<=valFrom acc l:=by
 induction l with
 |nil=>intro acc;exact aA _
 |cons c r a=>
  intro acc;have:=a (acc*10+(c.toNat-48));show acc<=valFrom (acc*10+(c.toNat-48)) r
  omega
theorem parseUintM_ok(M:Nat):∀(l:iK) (acc:Nat),(∀c∈l,48<=c.toNat/\c.toNat<=57)->valFrom acc l<=M->M<18446744073709551616->valFrom acc l<18446744073709551610->parseUintM M acc l=.ok (valFrom acc l)
 |[],acc,_,_,_,_=>rfl
 |c :: r,acc,hd,hM,hM2,hv=>by have hc:=hd c (by simp);have e:valFrom acc (c :: r)=valFrom (acc*10+(c.toNat-48)) r:=rfl;have a:=ZU r (acc*10+(c.toNat-48));rw[e] at hM hv⊢;rw[parseUintM,aJ hc,aG (by omega),aG (by omega)];exact parseUintM_ok M r _ (λx hx=>hd x (by simp[hx])) hM hM2 hv
theorem Jw(B:Nat)(hB:2<=B)(a:B<=63)(u:Nat)(hu:u<2 ^ (B-1)):parseUintB B (decDigits u)=.ok u:=by
 have h1:2 ^ (B-1)<=2 ^ 62:=bh (by decide) (by omega);have h2:2 ^ B=2*2 ^ (B-1):=by
  obtain⟨b,rfl⟩:∃b,B=b+1:=⟨B-1,by omega⟩
  rw[dZ,Nat.pow_succ,fo]
 unfold parseUintB;rw[aG (decDigits_ne u),parseUintM_ok _ _ _ (decDigits_dig u),valFrom_dec]
 ·rw[valFrom_dec];omega
 ·omega
 ·rw[valFrom_dec];omega
theorem ZV(B:Nat)(hB:2<=B)(b:B<=63)(n:Int)(d:n.natAbs<2 ^ (B-1)):parseIntB B (itoa n)=.ok n:=by
 unfold itoa;by_cases h:n<0
 ·rw[aJ h];unfold parseIntB;simp only[show (45:UInt8).toNat=45 from rfl,iJ,bZ];rw[Jw B hB b _ d];simp only[not_true_eq_false,gj,cH,iH];rw[aG (by omega)];congr 1;omega
 ·rw[aG h];obtain⟨c,r,a⟩:∃c r,decDigits n.toNat=c :: r:=by
   cases hd:decDigits n.toNat with
   |nil=>exact absurd hd (decDigits_ne _)
   |cons c r=>exact⟨c,r,rfl⟩
  have hc:=decDigits_dig n.toNat c (by rw[a];simp);have hp:=Jw B hB b n.toNat (by omega);rw[a] at hp⊢;unfold parseIntB;have h43:¬(c.toNat=43\/c.toNat=45):=by omega
  simp only[aG h43];rw[hp];have h45:¬c.toNat=45:=by omega
  simp only[h45,i6,iH,gj,cH];rw[aG (by omega)];congr 1;omega
theorem parse_plus(B:Nat)(hB:2<=B)(a:B<=63)(n:Int)(h0:0<=n)(b:n.natAbs<2 ^ (B-1)):parseIntB B (43 :: itoa n)=.ok n:=by unfold itoa;rw[aG (by omega)];unfold parseIntB;simp only[show (43:UInt8).toNat=43 from rfl,true_or,bZ];rw[Jw B hB a _ (by omega)];simp only[show ¬((43:Nat)=45) by decide,i6,iH,gj,cH];rw[aG (by omega)];congr 1;omega
def inR(a b:Int):Bool:=decide (a.natAbs<=1000000/\b.natAbs<=1000000)
def sec(b:Int):iK:=if b=1 then [105] else if b=-1 then [45,105] else itoa b++[105]
def text(a b:Int):iK:=
 if b=0 then itoa a else if a=0 then sec b else if 0<b then itoa a++(43 :: sec b) else itoa a++sec b
def lastW(p:UInt8->Bool):iK->Int
 |[]=>-1
 |c :: r=>if 0<=lastW p r then lastW p r+1 else if p c then 0 else -1
theorem lastW_ge(p:UInt8->Bool)(l:iK):-1<=lastW p l:=by
 induction l with
 |nil=>exact Int.le_refl _
 |cons c r a=>unfold lastW;split<;>(try split)<;>omega
theorem lastW_snoc(p:UInt8->Bool)(l:iK)(c:UInt8):lastW p (l++[c])=if p c then(l.length:Int) else lastW p l:=by
 induction l with
 |nil=>simp[lastW]
 |cons d r a=>
  rw[List.cons_append,lastW,a];by_cases hc:p c
  ·simp only[hc,bZ,aN];rw[aJ (by omega)];omega
  ·simp only[hc,cH,bP];rfl
theorem lastW_lt(p:UInt8->Bool)(l:iK):lastW p l<l.length:=by
 induction l with
 |nil=>simp[lastW]
 |cons c r a=>unfold lastW;simp only[aN];split<;>(try split)<;>omega
theorem ZW(p:UInt8->Bool)(l:iK)(h:∀c∈l,p c=false):lastW p l=-1:=by
 induction l with
 |nil=>rfl
 |cons c r a=>have h1:=a (λx hx=>h x (by simp[hx]));have h2:=h c (by simp);unfold lastW;rw[h1,h2];rfl
theorem lastW_append_none(p:UInt8->Bool)(l r:iK)(h:∀c∈r,p c=false):lastW p (l++r)=lastW p l:=by
 induction r generalizing l with
 |nil=>simp
 |cons c r a=>have h2:=h c (by simp);rw[show l++c :: r=(l++[c])++r by simp,a (l++[c]) (λx hx=>h x (by simp[hx])),lastW_snoc,h2];rfl
def isSign(c:UInt8):Bool:=c==43||c==45
theorem AdV{c:UInt8}(h:48<=c.toNat/\c.toNat<=57):isSign c=false:=by
 unfold isSign;rw[cz,aV,aV];constructor
 ·rintro rfl;revert h;decide
 ·rintro rfl;revert h;decide
theorem Jy(u:Nat):∀c∈decDigits u,isSign c=false:=λc hc=>AdV (decDigits_dig u c hc)
theorem itoa_nonneg{n:Int}(h:0<=n):itoa n=decDigits n.toNat:=by unfold itoa;rw[aG (by omega)]
theorem itoa_neg{n:Int}(h:n<0):itoa n=45 :: decDigits n.natAbs:=by unfold itoa;rw[aJ h]
theorem Gj(n:Int):itoa n≠[]:=by
 unfold itoa;split
 ·simp
 ·exact decDigits_ne _
theorem AbL(l:iK)(b:Int)(hb:0<=b):lastW isSign (l++43 :: itoa b)=l.length:=by rw[itoa_nonneg hb,show l++43 :: decDigits b.toNat=(l++[43])++decDigits b.toNat by simp,lastW_append_none _ _ _ (Jy _),lastW_snoc];rfl
theorem Vy(b:Int):(max (lastW isSign (itoa b)) 0).toNat=0:=by
 by_cases hb:b<0
 ·rw[itoa_neg hb,show (45:UInt8) :: decDigits b.natAbs=[45]++decDigits b.natAbs from rfl,lastW_append_none _ _ _ (Jy _)];rfl
 ·rw[itoa_nonneg (by omega),ZW _ _ (Jy _)];rfl
def cutAt(s:iK):Nat:=if s.getLast?=some 105 then(max (lastW isSign s.dropLast) 0).toNat else s.length
def firstOf(s:iK):iK:=if s.getLast?=some 105 then(if s.dropLast.take (cutAt s)=[] then [48] else s.dropLast.take (cutAt s)) else s
def bareSecond(s:iK):iK:=s.dropLast.drop (cutAt s)
def secondOf(s:iK):iK:=
 if s.getLast?=some 105 then(if bareSecond s=[]\/bareSecond s=[43]\/bareSecond s=[45] then bareSecond s++[49] else bareSecond s) else [48]
def readS(l:iK):Int×Bool:=match parseIntB 32 l with| .ok v=>(v,true)|NumEnd.range=>(intSat 32 l,false)|_=>(0,false)
def parseP(s:iK):Option (Int×Int):=
 if(readS (firstOf s)).2/\(readS (secondOf s)).2/\inR (readS (firstOf s)).1 (readS (secondOf s)).1=true/\text (readS (firstOf s)).1 (readS (secondOf s)).1=s
 then some ((readS (firstOf s)).1,(readS (secondOf s)).1) else none
theorem EA{n:Int}(h:n.natAbs<=1000000):readS (itoa n)=(n,true):=by unfold readS;rw[ZV 32 (by decide) (by decide) n (by omega)]
theorem Qu{n:Int}(h0:0<=n)(h:n.natAbs<=1000000):readS (43 :: itoa n)=(n,true):=by unfold readS;rw[parse_plus 32 (by decide) (by decide) n h0 (by omega)]
theorem EC(l:iK):(l++[105]).getLast?=some 105:=by simp
theorem dropLast_i(l:iK):(l++[105]).dropLast=l:=by simp
theorem JM(n:Int):(itoa n).getLast?≠some 105:=by
 have h:∃u,(itoa n).getLast?=(decDigits u).getLast?:=by
  by_cases a:n<0
  ·refine⟨n.natAbs,?_⟩;rw[itoa_neg a];cases hd:decDigits n.natAbs with
   |nil=>exact absurd hd (decDigits_ne _)
   |cons c r=>simp
  ·exact⟨n.toNat,by rw[itoa_nonneg (by omega)]⟩
 obtain⟨u,hu⟩:=h;rw[hu];intro h;have:=decDigits_dig u 105 (gV h)
 revert this;decide
def tail(b:Int):iK:=if b=1 then [] else if b=-1 then [45] else itoa b
theorem Vz(b:Int):sec b=tail b++[105]:=by unfold sec tail;split<;>(try split)<;>simp
theorem itoa_one:itoa 1=[49]:=by decide+kernel
theorem itoa_none:itoa (-1)=[45,49]:=by decide+kernel
theorem itoa_zero:itoa 0=[48]:=by decide+kernel
theorem Lx(a b:Int):(b=0/\text a b=itoa a)\/(b≠0/\a=0/\text a b=tail b++[105])\/(0<b/\a≠0/\text a b=(itoa a++43 :: tail b)++[105])\/(b<0/\a≠0/\text a b=(itoa a++tail b)++[105]):=by
 unfold text;by_cases hb:b=0
 ·exact .inl ⟨hb,by rw[aJ hb]⟩
 ·rw[aG hb];by_cases c:a=0
  ·exact .inr (.inl ⟨hb,c,by rw[aJ c,Vz]⟩)
  ·rw[aG c];by_cases hp:0<b
   ·exact .inr (.inr (.inl ⟨hp,c,by rw[aJ hp,Vz];simp⟩))
   ·exact .inr (.inr (.inr ⟨by omega,c,by rw[aG hp,Vz];simp⟩))
theorem IK{b:Int}(h:b<0)(l:iK):lastW isSign (l++tail b)=l.length:=by
 unfold tail;rw[aG (by omega)];split
 ·rw[lastW_snoc];rfl
 ·rw[itoa_neg h,show l++45 :: decDigits b.natAbs=(l++[45])++decDigits b.natAbs by simp,lastW_append_none _ _ _ (Jy _),lastW_snoc];rfl
theorem IL{b:Int}(h:0<b)(l:iK):lastW isSign (l++43 :: tail b)=l.length:=by
 unfold tail;split
 ·rw[lastW_snoc];rfl
 ·rw[aG (by omega)];exact AbL l b (by omega)
theorem Pv(b:Int):(max (lastW isSign (tail b)) 0).toNat=0:=by
 unfold tail;split
 ·rfl
 ·split
  ·rfl
  ·exact Vy b
theorem SG{b:Int}(hb0:b≠0)(h:b.natAbs<=1000000):readS (if tail b=[]\/tail b=[43]\/tail b=[45] then tail b++[49] else tail b)=(b,true):=by
 unfold tail;by_cases h1:b=1
 ·subst h1;simp only[bZ,true_or,List.nil_append];rw[<-itoa_one];exact EA (by decide)
 ·rw[aG h1];by_cases h2:b=-1
  ·subst h2;simp only[bZ,iJ];rw[show ([45]:iK)++[49]=itoa (-1) from itoa_none.symm];exact EA (by decide)
  ·rw[aG h2];have c:¬(itoa b=[]\/itoa b=[43]\/itoa b=[45]):=by
    rintro (e|e|e)
    ·exact Gj b e
    ·by_cases a:b<0
     ·rw[itoa_neg a] at e;injection e with e1;revert e1;decide
     ·rw[itoa_nonneg (by omega)] at e;have:=decDigits_dig b.toNat 43 (by rw[e];simp)
      revert this;decide
    ·by_cases a:b<0
     ·rw[itoa_neg a] at e;injection e with _ e2;exact decDigits_ne _ e2
     ·rw[itoa_nonneg (by omega)] at e;have:=decDigits_dig b.toNat 45 (by rw[e];simp)
      revert this;decide
   rw[aG c];exact EA h
theorem Ro{b:Int}(hb0:0<b)(h:b.natAbs<=1000000):readS (if 43 :: tail b=[]\/43 :: tail b=[43]\/43 :: tail b=[45] then 43 :: tail b++[49] else 43 :: tail b)=(b,true):=by
 unfold tail;by_cases h1:b=1
 ·subst h1;simp only[bZ,true_or,iJ];rw[show (43:UInt8) :: []++[49]=43 :: itoa 1 by rw[itoa_one];rfl];exact Qu (by decide) (by decide)
 ·rw[aG h1,aG (show ¬b=-1 by omega)];have a:¬(43 :: itoa b=[]\/43 :: itoa b=[43]\/43 :: itoa b=[45]):=by
   rintro (e|e|e)
   ·cases e
   ·injection e with _ e2;exact Gj _ e2
   ·injection e with e1 _;revert e1;decide
  rw[aG a];exact Qu (by omega) h
theorem XE{a b:Int}(h:inR a b=true):parseP (text a b)=some (a,b):=by
 have c:a.natAbs<=1000000/\b.natAbs<=1000000:=b7 h;have key:readS (firstOf (text a b))=(a,true)/\readS (secondOf (text a b))=(b,true):=by
  rcases Lx a b with⟨hb,e⟩|⟨hb,d,e⟩|⟨hb,d,e⟩|⟨hb,d,e⟩
  ·rw[e];unfold firstOf secondOf;rw[aG (JM a),aG (JM a)];refine⟨EA c.1,?_⟩;rw[hb,<-itoa_zero];exact EA (by decide)
  ·rw[e];unfold firstOf secondOf bareSecond cutAt;simp only[EC,dropLast_i,bZ,Pv,List.take_zero,bI];refine⟨?_,SG hb c.2⟩;rw[d,<-itoa_zero];exact EA (by decide)
  ·rw[e];unfold firstOf secondOf bareSecond cutAt;simp only[EC,dropLast_i,bZ,IL hb];have hc:(max ((itoa a).length:Int) 0).toNat=(itoa a).length:=by omega
   rw[hc,dS,dR,aG (Gj a)];exact⟨EA c.1,Ro hb c.2⟩
  ·rw[e];unfold firstOf secondOf bareSecond cutAt;simp only[EC,dropLast_i,bZ,IK hb];have hc:(max ((itoa a).length:Int) 0).toNat=(itoa a).length:=by omega
   rw[hc,dS,dR,aG (Gj a)];exact⟨EA c.1,SG (by omega) c.2⟩
 unfold parseP;rw[key.1,key.2,aJ ⟨rfl,rfl,h,rfl⟩]
theorem parseP_some{s:iK}{a b:Int}:parseP s=some (a,b)↔inR a b=true/\text a b=s:=by
 constructor
 ·intro h;unfold parseP at h;split at h
  ·rename_i hc;obtain⟨_,_,h3,h4⟩:=hc;have h5:=aU h;rw[bT] at h5;rw[h5.1,h5.2] at h3 h4;exact⟨h3,h4⟩
  ·cases h
 ·rintro⟨h1,rfl⟩;exact XE h1
def bare(l:iK):iK:=match l with|[]=>[]|c :: r=>if isSign c then r else l
def numS(l:iK):Option Int:=
 if 1<=(bare l).length/\(bare l).length<=9/\(bare l).all isDig=true then some (if l.head?=some 45 then -(valFrom 0 (bare l):Int) else valFrom 0 (bare l)) else none
def KR(s:iK):Option (Int×Int):=
 let at_:=cutAt s
 let first:=if 0<at_ then numS (s.take at_) else some 0
 let b:=(s.take (s.length-1)).drop at_
 let a:=if at_<s.length then(if b=[]\/b=[43] then some 1 else if b=[45] then some (-1) else numS b) else some 0
 match first,a with
 |some x,some y=>if inR x y=true/\text x y=s then some (x,y) else none
 |_,_=>none
theorem nDigits_le:∀(k u:Nat),u<10 ^ (k+1)->nDigits u<=k+1
 |0,u,h=>by rw[nDigits_small (by simpa using h)];omega
 |k+1,u,h=>by
  by_cases a:u<10
  ·rw[nDigits_small a];omega
  ·rw[nDigits_big a];rw[Nat.pow_succ] at h;have:=nDigits_le k (u / 10) (by omega);omega
theorem Rt{u:Nat}(h:u<=1000000):(decDigits u).length<=9:=by rw[decDigits_length];exact nDigits_le 8 u (by omega)
theorem itoa_len{n:Int}(h:n.natAbs<10000000000000000000):(itoa n).length<=20:=by
 have hd:∀u,u<10000000000000000000->(decDigits u).length<=19:=λu hu=>by rw[decDigits_length];exact nDigits_le 18 u (by omega)
 unfold itoa;split
 ·have:=hd n.natAbs h;simp only[aN];omega
 ·have:=hd n.toNat (by omega);omega
theorem sec_len{b:Int}(h:b.natAbs<=1000000):(sec b).length<=21:=by
 have:=itoa_len (n:=b) (by omega);unfold sec;split
 ·decide
 ·split
  ·decide
  ·rw[aT,bE];omega
theorem dec_pos(u:Nat):1<=(decDigits u).length:=by rw[decDigits_length];exact nDigits_pos u
theorem dec_all(u:Nat):(decDigits u).all isDig=true:=by rw[List.all_eq_true];intro c hc;unfold isDig;exact aI (decDigits_dig u c hc)
theorem AdW(u:Nat):bare (decDigits u)=decDigits u:=by
 cases hd:decDigits u with
 |nil=>rfl
 |cons c r=>have:=Jy u c (by rw[hd];simp);unfold bare;simp only;rw[this];rfl
theorem head_dec(u:Nat):(decDigits u).head?≠some 45:=by
 intro h;have:=decDigits_dig u 45 (List.mem_of_mem_head? h)
 revert this;decide
theorem JO{n:Int}(h:n.natAbs<=1000000):numS (itoa n)=some n:=by
 unfold numS;by_cases a:n<0
 ·rw[itoa_neg a];have hb:bare (45 :: decDigits n.natAbs)=decDigits n.natAbs:=rfl;rw[hb,aJ ⟨dec_pos _,Rt h,dec_all _⟩,valFrom_dec];simp only[List.head?_cons,bZ];congr 1;omega
 ·rw[itoa_nonneg (by omega),AdW,aJ ⟨dec_pos _,Rt (by omega),dec_all _⟩,valFrom_dec,aG (head_dec _)];congr 1;omega
theorem AbM{n:Int}(h0:0<=n)(h:n.natAbs<=1000000):numS (43 :: itoa n)=some n:=by unfold numS;rw[itoa_nonneg h0];have hb:bare (43 :: decDigits n.toNat)=decDigits n.toNat:=rfl;rw[hb,aJ ⟨dec_pos _,Rt (by omega),dec_all _⟩,valFrom_dec];rw[aG (show ¬(43 :: decDigits n.toNat).head?=some 45 by simp)];congr 1;omega
theorem VA{b:Int}(hb0:b≠0)(h:b.natAbs<=1000000):(if tail b=[]\/tail b=[43] then some 1 else if tail b=[45] then some (-1) else numS (tail b))=some b:=by
 unfold tail;by_cases h1:b=1
 ·subst h1;simp
 ·rw[aG h1];by_cases h2:b=-1
  ·subst h2;simp
  ·rw[aG h2];have a:¬(itoa b=[]\/itoa b=[43])/\¬itoa b=[45]:=by
    refine⟨?_,?_⟩
    ·rintro (e|e)
     ·exact Gj b e
     ·by_cases c:b<0
      ·rw[itoa_neg c] at e;injection e with e1;revert e1;decide
      ·rw[itoa_nonneg (by omega)] at e;have:=decDigits_dig b.toNat 43 (by rw[e];simp)
       revert this;decide
    ·intro e;by_cases c:b<0
     ·rw[itoa_neg c] at e;injection e with _ e2;exact decDigits_ne _ e2
     ·rw[itoa_nonneg (by omega)] at e;have:=decDigits_dig b.toNat 45 (by rw[e];simp)
      revert this;decide
   rw[aG a.1,aG a.2];exact JO h
theorem Un{b:Int}(hb0:0<b)(h:b.natAbs<=1000000):(if 43 :: tail b=[]\/43 :: tail b=[43] then some 1 else if 43 :: tail b=[45] then some (-1) else numS (43 :: tail b))=some b:=by
 unfold tail;by_cases h1:b=1
 ·subst h1;simp
 ·rw[aG h1,aG (show ¬b=-1 by omega)];have h2:¬(43 :: itoa b=[]\/43 :: itoa b=[43]):=by
   rintro (e|e)
   ·cases e
   ·injection e with _ e2;exact Gj _ e2
  have h3:¬43 :: itoa b=[45]:=by intro e;injection e with e1 _;revert e1;decide
  rw[aG h2,aG h3];exact AbM (by omega) h
theorem IA(l:iK)(k:Nat)(hk:k<=l.length):(l++[105]).take ((l++[105]).length-1)=l/\(l++[105]).take k=l.take k:=by
 constructor
 ·simp
 ·rw[fB hk]
theorem XF{a b:Int}(h:inR a b=true):KR (text a b)=some (a,b):=by
 have d:a.natAbs<=1000000/\b.natAbs<=1000000:=b7 h;have fin:∀(x y:Option Int),x=some a->y=some b->(match x,y with
   |some x,some y=>if inR x y=true/\text x y=text a b then some (x,y) else none
   |_,_=>none)=some (a,b):=by
  rintro _ _ rfl rfl;simp only;rw[aJ ⟨h,trivial⟩]
 unfold KR;refine fin _ _ ?_ ?_
 ·rcases Lx a b with⟨hb,e⟩|⟨hb,c,e⟩|⟨hb,c,e⟩|⟨hb,c,e⟩
  ·rw[e];unfold cutAt;rw[aG (JM a),aJ (cY.2 (Gj a)),bA];exact JO d.1
  ·rw[e];unfold cutAt;simp only[EC,dropLast_i,bZ,Pv];rw[c];rfl
  ·rw[e];unfold cutAt;simp only[EC,dropLast_i,bZ,IL hb];have hc:(max ((itoa a).length:Int) 0).toNat=(itoa a).length:=by omega
   rw[hc,aJ (cY.2 (Gj a)),(IA _ _ (by simp)).2,dS];exact JO d.1
  ·rw[e];unfold cutAt;simp only[EC,dropLast_i,bZ,IK hb];have hc:(max ((itoa a).length:Int) 0).toNat=(itoa a).length:=by omega
   rw[hc,aJ (cY.2 (Gj a)),(IA _ _ (by simp)).2,dS];exact JO d.1
 ·rcases Lx a b with⟨hb,e⟩|⟨hb,c,e⟩|⟨hb,c,e⟩|⟨hb,c,e⟩
  ·rw[e];unfold cutAt;rw[aG (JM a),aG (gW _),hb]
  ·rw[e];unfold cutAt;simp only[EC,dropLast_i,bZ,Pv,bI];rw[aJ (by simp),(IA _ 0 (by simp)).1];exact VA hb d.2
  ·rw[e];unfold cutAt;simp only[EC,dropLast_i,bZ,IL hb];have hc:(max ((itoa a).length:Int) 0).toNat=(itoa a).length:=by omega
   rw[hc,aJ (by simp),(IA _ 0 (by simp)).1,dR];exact Un hb d.2
  ·rw[e];unfold cutAt;simp only[EC,dropLast_i,bZ,IK hb];have hc:(max ((itoa a).length:Int) 0).toNat=(itoa a).length:=by omega
   rw[hc,aJ (by simp),(IA _ 0 (by simp)).1,dR];exact VA (by omega) d.2
theorem VB{s:iK}{a b:Int}(h:KR s=some (a,b)):inR a b=true/\text a b=s:=by
 unfold KR at h;simp only at h;split at h
 ·split at h
  ·rename_i hc;have h5:=aU h;rw[bT] at h5;rw[h5.1,h5.2] at hc;exact hc
  ·cases h
 ·cases h
theorem take_snoc(s:ByteArray)(k:Nat)(h:k<s.size):s.data.toList.take (k+1)=s.data.toList.take k++[s[k]]:=by rw[aW (by simpa using h)];rfl
theorem valFrom_snoc(l:iK)(c:UInt8):valFrom 0 (l++[c])=valFrom 0 l*10+(c.toNat-48):=by rw[KQ];rfl
theorem valFrom_lt(l:iK)(h:l.all isDig=true):valFrom 0 l<10 ^ l.length:=by
 suffices hs:∀(l:iK) acc,l.all isDig=true->valFrom acc l<(acc+1)*10 ^ l.length by have:=hs l 0 h;simpa using this
 intro l
 induction l with
 |nil=>intro acc _;show acc<_;simp
 |cons c r a=>
  intro acc hd;rw[List.all_cons,bC] at hd;have h1:48<=c.toNat/\c.toNat<=57:=b7 hd.1;have h2:=a (acc*10+(c.toNat-48)) hd.2;show valFrom (acc*10+(c.toNat-48)) r<_
  rw[aN,Nat.pow_succ];have h3:(acc*10+(c.toNat-48)+1)*10 ^ r.length<=((acc+1)*10)*10 ^ r.length:=bu _ (by omega);have h4:(acc+1)*(10 ^ r.length*10)=((acc+1)*10)*10 ^ r.length:=by rw[dH,fo 10 (10 ^ r.length)]
  omega
def numV(l:iK):Int:=(numS l).getD 0
def numOk(l:iK):Bool:=(numS l).isSome
theorem numS_yes{l u:iK}(hb:bare l=u)(h1:1<=u.length)(h9:u.length<=9)(hd:u.all isDig=true):numS l=some (if l.head?=some 45 then -(valFrom 0 u:Int) else valFrom 0 u):=by subst hb;unfold numS;rw[aJ ⟨h1,h9,hd⟩]
theorem numS_no{l u:iK}(hb:bare l=u)(h:u.length<1\/9<u.length\/u.all isDig=false):numS l=none:=by
 subst hb;unfold numS;rw[aG];rintro⟨h1,h2,h3⟩;rcases h with h|h|h
 ·omega
 ·omega
 ·rw[h3] at h;cases h
theorem numV_le(l:iK):(numV l).natAbs<=1000000000:=by
 unfold numV numS;split
 ·rename_i h;have h1:=valFrom_lt _ h.2.2;have h2:10 ^ (bare l).length<=10 ^ 9:=bh (by decide) h.2.1;simp only[Option.getD_some];split<;>omega
 ·simp
theorem parseR_eq(s:iK):KR s=parseP s:=by
 cases c:KR s with
 |some x=>obtain⟨a,b⟩:=x;exact(parseP_some.2 (VB c)).symm
 |none=>
  cases hp:parseP s with
  |none=>rfl
  |some x=>obtain⟨a,b⟩:=x;obtain⟨h1,h2⟩:=parseP_some.1 hp;rw[<-h2,XF h1] at c;cases c
end Go.Proofs.YtgngjfjaelgaeaaGreatDoor.PhS
namespace Go.Proofs.YtgngjfjaelgaeaaGreatDoor.Fl
open Ieee
abbrev dbl:Format:=Ieee.double
theorem Nk(n k:Nat)(h:n≠0):(n*2 ^ k).log2=n.log2+k:=by
 induction k with
 |zero=>simp
 |succ k a=>
  rw[Nat.pow_succ,<-dH,fo (n*2 ^ k) 2,Nat.log2_two_mul (by
   have:0<2 ^ k:=cC k;exact Nat.mul_ne_zero h (by omega)),a]
  omega
def Fz(N:Nat):Nat:=if N=0 then 0 else(N.log2+1022)*2 ^ 52+N*2 ^ (52-N.log2)
theorem VC{N:Nat}(h:N≠0):Fz N=(N.log2+1022)*2 ^ 52+N*2 ^ (52-N.log2):=by unfold Fz;rw[aG h]
theorem Jc{N:Nat}(h:N<2 ^ 53)(h0:N≠0):N.log2<=52:=by have:=(iF h0).2 h;omega
theorem KD{N:Nat}(h:N<2 ^ 53)(h0:N≠0):2 ^ 52<=N*2 ^ (52-N.log2)/\N*2 ^ (52-N.log2)<2 ^ 53:=by
 have a:=Jc h h0;have h1:=Nat.log2_self_le h0;have h2:N<2 ^ (N.log2+1):=Nat.lt_log2_self;constructor
 ·calc 2 ^ 52=2 ^ (N.log2+(52-N.log2)):=by rw[eF a]
   _=2 ^ N.log2*2 ^ (52-N.log2):=dQ ..
   _<=N*2 ^ (52-N.log2):=bu _ h1
 ·calc N*2 ^ (52-N.log2)<2 ^ (N.log2+1)*2 ^ (52-N.log2):=Nat.mul_lt_mul_of_pos_right h2 (cC _)
   _=2 ^ (N.log2+1+(52-N.log2)):=(dQ ..).symm
   _=2 ^ 53:=by rw[show N.log2+1+(52-N.log2)=53 by omega]
theorem Px(a:Toward)(s:Bool)(n:Nat):a.cut s n 0=n:=by unfold Toward.cut;simp only[aR,cO,Nat.shiftLeft_zero,Nat.div_one,Nat.mod_one];cases a<;>simp
theorem Nl(a:Toward)(s:Bool)(n k:Nat)(b:n≠0):a.cut s (n*2 ^ k) k=n:=by
 unfold Toward.cut;have d:(n*2 ^ k).log2=n.log2+k:=Nk n k b;have c:min k ((n*2 ^ k).log2+2)=k:=by rw[d];omega
 have hp:0<2 ^ k:=cC k;simp only[c,i7,Nat.mul_div_cancel _ hp,Nat.mul_mod_left];have h2:(2 ^ k==2*0)=false:=by simp
 cases a<;>simp
theorem Gz(s:Bool)(N k:Nat)(h:N<2 ^ 53)(h0:N≠0):dbl.nearest s (N*2 ^ k) (-(k:Int))=dbl.word s (Fz N):=by
 have m:=Jc h h0;have l:=KD h h0;have hp:0<2 ^ k:=cC k;have g:N*2 ^ k≠0:=Nat.mul_ne_zero h0 (by omega);unfold Format.nearest;rw[aG g];have i:dbl.leastPlace=-1074:=by decide
 have d:dbl.binade=2 ^ 52:=rfl;have e:dbl.infRung=2047*2 ^ 52:=by decide
 have f:dbl.fractionBits=52:=rfl;dsimp only;rw[Nk N k h0,i,d,e,f];have c:max (-(k:Int)+((N.log2+k:Nat):Int)-((52:Nat):Int)) (-1074)=(N.log2:Int)-52:=by omega
 rw[c];have j:((N.log2:Int)-52- -1074).toNat=N.log2+1022:=by omega
 rw[j];have hcut:Toward.even.cut s ((N*2 ^ k)<<<(-(k:Int)-((N.log2:Int)-52)).toNat) ((N.log2:Int)-52- -(k:Int)).toNat=N*2 ^ (52-N.log2):=by
  by_cases hk:k+N.log2<=52
  ·have a:(-(k:Int)-((N.log2:Int)-52)).toNat=52-N.log2-k:=by omega
   have b:((N.log2:Int)-52- -(k:Int)).toNat=0:=by omega
   rw[a,b,Px,eA,dH,<-dQ,show k+(52-N.log2-k)=52-N.log2 by omega]
  ·have a:(-(k:Int)-((N.log2:Int)-52)).toNat=0:=by omega
   have b:((N.log2:Int)-52- -(k:Int)).toNat=k-(52-N.log2):=by omega
   rw[a,b,Nat.shiftLeft_zero];have:N*2 ^ k=(N*2 ^ (52-N.log2))*2 ^ (k-(52-N.log2)):=by rw[dH,<-dQ,show 52-N.log2+(k-(52-N.log2))=k by omega]
   rw[this];exact Nl _ _ _ _ (by omega)
 rw[hcut,VC h0];generalize N*2 ^ (52-N.log2)=K at*;rw[cO (by omega)]
theorem Gk(s:Bool)(p:Int):dbl.nearest s 0 p=dbl.word s 0:=by unfold Format.nearest;simp
def D(n:Int):Nat:=dbl.word (decide (n<0)) (Fz n.natAbs)
theorem D_eq(n:Int)(h:n.natAbs<2 ^ 53):FloatKind.f64.nearest n=D n:=by
 show dbl.nearest (decide (n<0)) n.natAbs 0=_
 by_cases h0:n.natAbs=0
 ·have:n=0:=by omega
  subst this;exact Gk _ _
 ·have:=Gz (decide (n<0)) n.natAbs 0 h h0;rw[Int.natCast_zero,Int.neg_zero,Nat.pow_zero,bp] at this;exact this
def Val(d:Datum)(n:Int):Prop:=∃(s:Bool) (k:Nat),d=.number s (n.natAbs*2 ^ k) (-(k:Int))/\(n≠0->s=decide (n<0))
def AdX(d:Datum)(n:Int):Prop:=∃(k:Nat),d=.number (decide (n<0)) (n.natAbs*2 ^ k) (-(k:Int))
theorem AdX.val{d:Datum}{n:Int}(h:AdX d n):Val d n:=by obtain⟨k,rfl⟩:=h;exact⟨_,k,rfl,λ_=>rfl⟩
theorem Ru{N:Nat}(h:N<2 ^ 53):Fz N<2047*2 ^ 52:=by
 unfold Fz;split
 ·omega
 ·rename_i h0;have b:=Jc h h0;have a:=KD h h0;omega
theorem SH(s:Bool)(N:Nat)(h:N<2 ^ 53):∃k:Nat,dbl.read (dbl.word s (Fz N))=.number s (N*2 ^ k) (-(k:Int)):=by
 have f:dbl.signWeight=2 ^ 63:=by decide
 have a:dbl.binade=2 ^ 52:=rfl;have b:dbl.infRung=2047*2 ^ 52:=by decide
 have i:dbl.leastPlace=-1074:=by decide
 have l:=Ru h;have h63:Fz N<2 ^ 63:=by omega
 have c:(dbl.word s (Fz N) / dbl.signWeight % 2==1)=s:=by
  unfold Format.word;rw[f];cases s
  ·simp only[bP,cH];rw[fp h63];rfl
  ·simp only[bZ];rw[Nat.add_div_left _ (by decide),fp h63];rfl
 have d:dbl.word s (Fz N) % dbl.signWeight=Fz N:=by
  unfold Format.word;rw[f];cases s
  ·simp only[bP,cH];exact Nat.mod_eq_of_lt h63
  ·simp only[bZ];rw[Nat.add_mod_left];exact Nat.mod_eq_of_lt h63
 unfold Format.read;dsimp only;rw[c,d,a,b,i];by_cases h0:N=0
 ·subst h0;refine⟨1074,?_⟩;generalize hp:(2:Nat) ^ 1074=p;clear hp;have e:Fz 0=0:=rfl;rw[e,aJ (cC 52),cN];exact congrArg (Datum.number s 0) (by decide)
 ·have n:=Jc h h0;have m:=KD h h0;have j:=VC h0;refine⟨52-N.log2,?_⟩;generalize N*2 ^ (52-N.log2)=K at*;generalize Fz N=R at*;generalize N.log2=L at*;have hd:R / 2 ^ 52=L+1023:=by omega
  have g:R % 2 ^ 52=K-2 ^ 52:=by omega
  rw[aG (by omega),aJ (by omega),hd,g,show 2 ^ 52+(K-2 ^ 52)=K by omega,show (-1074:Int)+((L+1023-1:Nat):Int)=-((52-L:Nat):Int) by omega]
theorem read_D(n:Int)(h:n.natAbs<2 ^ 53):AdX (dbl.read (D n)) n:=SH _ _ h
theorem Hj{s:Bool}{n:Int}{k u:Nat}(b:n≠0->s=decide (n<0))(_hk:k<=u):signed s (n.natAbs*2 ^ k) (u-k)=n*2 ^ u:=by
 unfold signed;rw[eA,dH,<-dQ,eF _hk];by_cases h0:n=0
 ·subst h0;simp
 ·rw[b h0];by_cases a:n<0
  ·simp only[a,eT,bZ];have:((n.natAbs*2 ^ u:Nat):Int)=-n*2 ^ u:=by
    push_cast
    rw[show ((n.natAbs:Nat):Int)=-n by omega]
   rw[this];simp[Int.neg_mul]
  ·simp only[a,eK,bP,cH]
   push_cast
   rw[show (n.natAbs:Int)=n by omega]
theorem cmp_lt{a b:Int}(h:a<b):compare a b=.lt:=by
 show compareOfLessAndEq a b=_
 simp[compareOfLessAndEq,h]
theorem cmp_gt{a b:Int}(h:b<a):compare a b=.gt:=by
 show compareOfLessAndEq a b=_
 have h1:¬a<b:=by omega
 have h2:¬a=b:=by omega
 simp[compareOfLessAndEq,h1,h2]
theorem AbN{d e:Datum}{a b:Int}(hd:Val d a)(g:Val e b):d.order e=some (compare a b):=by
 obtain⟨s,k,rfl,f⟩:=hd;obtain⟨t,l,rfl,j⟩:=g;have c:min (-(k:Int)) (-(l:Int))=-((max k l:Nat):Int):=by omega
 show some (compare (signed s (a.natAbs*2 ^ k) (-(k:Int)-min (-(k:Int)) (-(l:Int))).toNat) (signed t (b.natAbs*2 ^ l) (-(l:Int)-min (-(k:Int)) (-(l:Int))).toNat))=_
 rw[c];have m:(-(k:Int)- -((max k l:Nat):Int)).toNat=max k l-k:=by omega
 have i:(-(l:Int)- -((max k l:Nat):Int)).toNat=max k l-l:=by omega
 rw[m,i,Hj f (Nat.le_max_left ..),Hj j (Nat.le_max_right ..)];have hp:(0:Int)<2 ^ max k l:=iG (by decide);congr 1;rcases cJ a b with h|h|h
 ·have:=fG h hp;rw[cmp_lt this,cmp_lt h]
 ·subst h;simp
 ·have:=fG h hp;rw[cmp_gt this,cmp_gt h]
theorem AbO{d:Datum}{n:Int}(h:Val d n)(a:n.natAbs<2 ^ 53):∃s,dbl.write d=dbl.word s (Fz n.natAbs)/\(n≠0->s=decide (n<0)):=by
 obtain⟨s,k,rfl,b⟩:=h;refine⟨s,?_,b⟩;show dbl.nearest s (n.natAbs*2 ^ k) (-(k:Int))=_
 by_cases h0:n.natAbs=0
 ·rw[h0,cN];exact Gk _ _
 ·exact Gz s n.natAbs k a h0
def IsW(b:Nat)(n:Int):Prop:=∃s,b=dbl.word s (Fz n.natAbs)/\(n≠0->s=decide (n<0))
theorem IsW.val{b:Nat}{n:Int}(h:IsW b n)(a:n.natAbs<2 ^ 53):Val (dbl.read b) n:=by obtain⟨s,rfl,c⟩:=h;obtain⟨k,hk⟩:=SH s n.natAbs a;exact⟨s,k,hk,c⟩
theorem isW_D(n:Int):IsW (D n) n:=⟨_,rfl,λ_=>rfl⟩
theorem order_W{x y:Nat}{a b:Int}(hx:IsW x a)(c:IsW y b)(d:a.natAbs<2 ^ 53)(hb:b.natAbs<2 ^ 53):dbl.order x y=some (compare a b):=AbN (hx.val d) (c.val hb)
theorem toInt_val{d:Datum}{n:Int}(h:Val d n):d.toInt .zero=some n:=by
 obtain⟨s,k,rfl,a⟩:=h;unfold Datum.toInt Datum.integral;have c:(-(k:Int)).toNat=0:=by omega
 have b:(- -(k:Int)).toNat=k:=by omega
 simp only[c,b,Nat.shiftLeft_zero];by_cases h0:n=0
 ·subst h0;have:Toward.zero.cut s (Int.natAbs 0*2 ^ k) k=0:=by
   unfold Toward.cut;simp
  rw[this];unfold signed;cases s<;>simp
 ·rw[Nl _ _ _ _ (by omega)];have:=Hj (s:=s) (n:=n) (k:=0) (u:=0) a (aA _);simp only[Nat.pow_zero,bp,eZ,Int.pow_zero,Int.mul_one] at this;rw[this]
theorem Rw{m a:Nat}(h1:2 ^ a<=m)(h2:m<2 ^ (a+1)):m.log2=a:=by
 have hp:0<2 ^ a:=cC a;have h0:m≠0:=by omega
 have:=(iF h0).2 h2;have:=(Nat.le_log2 h0).2 h1;omega
theorem LA{b:Nat}(hb:b<2 ^ 64){s:Bool}{m:Nat}{e:Int}(h:dbl.read b=.number s m e):
  m<2 ^ 53/\(-1074<=e)/\(0<=e->2 ^ 52<=m)/\dbl.nearest s m e=b/\(s=decide (2 ^ 63<=b))/\dbl.read (b % 2 ^ 63)=.number false m e:=by
 have j:dbl.signWeight=2 ^ 63:=by decide
 have c:dbl.binade=2 ^ 52:=rfl;have d:dbl.infRung=2047*2 ^ 52:=by decide
 have f:dbl.leastPlace=-1074:=by decide
 have l:dbl.fractionBits=52:=rfl;have p:(b / 2 ^ 63 % 2==1)=decide (2 ^ 63<=b):=by
  by_cases n:2 ^ 63<=b
  ·have:b / 2 ^ 63=1:=by omega
   rw[this];simp[n]
  ·have:b / 2 ^ 63=0:=by omega
   rw[this];simp[n]
 have q:dbl.word (decide (2 ^ 63<=b)) (b % 2 ^ 63)=b:=by
  unfold Format.word;rw[j];by_cases n:2 ^ 63<=b
  ·simp only[n,eT,bZ];omega
  ·simp only[n,eK,bP,cH];omega
 have u:((b % 2 ^ 63) / 2 ^ 63 % 2==1)=false:=by
  have:(b % 2 ^ 63) / 2 ^ 63=0:=by omega
  rw[this];rfl
 have t:b % 2 ^ 63 % 2 ^ 63=b % 2 ^ 63:=by omega
 unfold Format.read at h⊢;dsimp only at h⊢;rw[j,c,d,f,p] at h;rw[j,c,d,f,u,t];have w:b % 2 ^ 63<2 ^ 63:=Nat.mod_lt _ (by decide);generalize b % 2 ^ 63=r at*;by_cases h1:r<2 ^ 52
 ·rw[aJ h1] at h;injection h with i k o;subst i;subst k;subst o;refine⟨by omega,by omega,λh=>absurd h (by decide),?_,rfl,by rw[aJ h1]⟩;unfold Format.nearest;by_cases h0:r=0
  ·rw[aJ h0];rw[<-h0];exact q
  ·rw[aG h0];dsimp only;have g:=(iF h0).2 h1;rw[f,c,d,l];have a:max (-1074+(r.log2:Int)-((52:Nat):Int)) (-1074)=-1074:=by omega
   rw[a];have i:((-1074:Int)- -1074).toNat=0:=by decide
   rw[i,Px,Nat.shiftLeft_zero,cN,bv,cO (by omega)];exact q
 ·rw[aG h1] at h;by_cases h2:r<2047*2 ^ 52
  ·rw[aJ h2] at h;injection h with i k o;subst i;subst k;subst o;have v:1<=r / 2 ^ 52:=by omega
   have g:(2 ^ 52+r % 2 ^ 52).log2=52:=Rw (by omega) (by omega);refine⟨by omega,by omega,λh=>by omega,?_,rfl,by rw[aG h1,aJ h2]⟩;unfold Format.nearest;rw[aG (by omega)];dsimp only;rw[f,c,d,l,g];have a:max (-1074+((r / 2 ^ 52-1:Nat):Int)+((52:Nat):Int)-((52:Nat):Int)) (-1074)=-1074+((r / 2 ^ 52-1:Nat):Int):=by omega
   rw[a];have i:(-1074+((r / 2 ^ 52-1:Nat):Int)-(-1074+((r / 2 ^ 52-1:Nat):Int))).toNat=0:=by omega
   have k:(-1074+((r / 2 ^ 52-1:Nat):Int)- -1074).toNat=r / 2 ^ 52-1:=by omega
   rw[i,k,Px,Nat.shiftLeft_zero];have o:(r / 2 ^ 52-1)*2 ^ 52+(2 ^ 52+r % 2 ^ 52)=r:=by omega
   rw[o,cO (by omega)];exact q
  ·rw[aG h2] at h;split at h<;>cases h
theorem compare_eq{a b:Int}(h:compare a b=.eq):a=b:=by
 rcases cJ a b with h1|h1|h1
 ·rw[cmp_lt h1] at h;cases h
 ·exact h1
 ·rw[cmp_gt h1] at h;cases h
theorem compare_self'(a:Int):compare a a=.eq:=by
 show compareOfLessAndEq a a=_
 simp[compareOfLessAndEq]
theorem SI{s:Bool}{m:Nat}{e:Int}{r:Nat}{c:Int}(g:IsW r c)(hc:c.natAbs<2 ^ 53):
  ∃u:Nat,(0:Int)<2 ^ u/\(e<0->(-e).toNat<=u)/\(Datum.number s m e).order (dbl.read r)=some (compare (signed s m (e+u).toNat) (c*2 ^ u)):=by
 obtain⟨t,k,hk,f⟩:=g.val hc;rw[hk];by_cases h:e< -(k:Int)
 ·refine⟨(-e).toNat,iG (by decide),λ_=>aA _,?_⟩;show some (compare (signed s m (e-min e (-(k:Int))).toNat) (signed t (c.natAbs*2 ^ k) (-(k:Int)-min e (-(k:Int))).toNat))=_
  have b:min e (-(k:Int))=e:=by omega
  have a:(-(k:Int)-e).toNat=(-e).toNat-k:=by omega
  have d:(e-e).toNat=(e+((-e).toNat:Int)).toNat:=by omega
  rw[b,a,d,Hj f (by omega)]
 ·refine⟨k,iG (by decide),λ_=>by omega,?_⟩;show some (compare (signed s m (e-min e (-(k:Int))).toNat) (signed t (c.natAbs*2 ^ k) (-(k:Int)-min e (-(k:Int))).toNat))=_
  have b:min e (-(k:Int))=-(k:Int):=by omega
  have a:(-(k:Int)- -(k:Int)).toNat=k-k:=by omega
  have d:(e- -(k:Int)).toNat=(e+(k:Int)).toNat:=by omega
  rw[b,a,d,Hj f (aA _)]
theorem Ag1{b:Nat}(hb:b<2 ^ 64){s:Bool}{N j:Nat}{e:Int}(c:e=-(j:Int))(h:dbl.read b=.number s (N*2 ^ j) e)(g:N<2 ^ 53){n:Int}(d:n.natAbs=N)(a:n≠0->s=decide (n<0)):IsW b n:=by
 subst c;obtain⟨_,_,_,f,_,_⟩:=LA hb h;refine⟨s,?_,a⟩;rw[d,<-f];by_cases h0:N=0
 ·subst h0;rw[cN];exact Gk _ _
 ·exact Gz s N j g h0
theorem AbP{b r:Nat}(hb:b<2 ^ 64){n:Int}(y:IsW r n)(i:n.natAbs<2 ^ 53)(h:dbl.order b r=some .eq):IsW b n:=by
 unfold Format.order at h;cases hd:dbl.read b with
 |nan s t=>rw[hd] at h;cases h
 |infinity s=>rw[hd] at h;obtain⟨t,k,hk,_⟩:=y.val i;rw[hk] at h;simp only[Datum.order] at h;cases s<;>cases h
 |number s m e=>
  rw[hd] at h;obtain⟨F,E,g,_,_,_⟩:=LA hb hd;obtain⟨u,hu,w,A⟩:=SI (s:=s) (m:=m) (e:=e) y i;rw[A] at h;have c:=compare_eq (aU h);have a:m*2 ^ (e+u).toNat=n.natAbs*2 ^ u:=by
   have:=congrArg Int.natAbs c;rw[Int.natAbs_mul,Int.natAbs_pow] at this;unfold signed at this;rw[eA] at this;rw[show (2:Int).natAbs ^ u=2 ^ u from rfl] at this;cases s
   ·simpa only[bP,cH,Int.natAbs_natCast] using this
   ·simpa only[bZ,Int.natAbs_neg,Int.natAbs_natCast] using this
  have l:0<2 ^ u:=cC u;have x:e<=0:=by
   rcases gm 0 e with d|h0
   ·exfalso;have h52:=g (by omega);have v:(e+(u:Int)).toNat=e.toNat+u:=by omega
    rw[v,dQ,<-dH] at a;have:=fL l a;have h2:2<=2 ^ e.toNat:=by
     calc 2=2 ^ 1:=rfl
      _<=2 ^ e.toNat:=bh (by decide) (by omega)
    have:m*2<=m*2 ^ e.toNat:=fC _ h2;omega
   ·exact h0
  obtain⟨j,z⟩:∃j:Nat,e=-(j:Int):=⟨(-e).toNat,by omega⟩
  have q:j<=u:=by
   rcases bU j with h0|h0
   ·omega
   ·have:=w (by omega);omega
  have o:m=n.natAbs*2 ^ j:=by
   have v:(e+(u:Int)).toNat=u-j:=by omega
   rw[v] at a;have C:n.natAbs*2 ^ u=n.natAbs*2 ^ j*2 ^ (u-j):=by rw[dH,<-dQ,eF q]
   rw[C] at a;exact fL (cC _) a
  subst o;refine Ag1 hb z hd i rfl λh0=>?_;have d:0<n.natAbs*2 ^ j:=Nat.mul_pos (by omega) (cC _);have B:0<n.natAbs*2 ^ j*2 ^ (e+(u:Int)).toNat:=Nat.mul_pos d (cC _);unfold signed at c;rw[eA] at c;cases s
  ·simp only[bP,cH] at c;have:¬n<0:=λf=>by
    have:=Int.mul_neg_of_neg_of_pos f hu;omega
   simp[this]
  ·simp only[bZ] at c;have:n<0:=by
    rcases gm n 0 with f|p
    ·exact f
    ·have:=Int.mul_nonneg p (Int.le_of_lt hu);omega
   simp[this]
theorem SJ{x y:Nat}{n:Int}(hx:IsW x n)(b:IsW y n)(a:n.natAbs<2 ^ 53):dbl.order x y=some .eq:=by rw[order_W hx b a a,compare_self']
theorem IsW.eq_D{b:Nat}{n:Int}(h:IsW b n)(h0:n≠0\/b<2 ^ 63):b=D n:=by
 obtain⟨s,rfl,c⟩:=h;by_cases a:n=0
 ·subst a;cases s
  ·rfl
  ·exfalso;rcases h0 with h0|h0
   ·exact h0 rfl
   ·revert h0;decide
 ·rw[c a];rfl
theorem D_lt(n:Int)(b:n.natAbs<2 ^ 53):D n<2 ^ 64:=by
 have:=Ru b;unfold D Format.word;have a:dbl.signWeight=2 ^ 63:=by decide
 rw[a];split<;>omega
def numOf(b:Nat):Option Int:=
 match (dbl.read b).toInt .zero with
 |some n=>if n.natAbs<=1000000/\D n=b then some n else none
 |none=>none
theorem numOf_D{n:Int}(h:n.natAbs<=1000000):numOf (D n)=some n:=by unfold numOf;rw[toInt_val (read_D n (by omega)).val];simp only;rw[aJ ⟨h,trivial⟩]
theorem numOf_some{b:Nat}{n:Int}(h:numOf b=some n):n.natAbs<=1000000/\b=D n:=by
 unfold numOf at h;split at h
 ·split at h
  ·rename_i hc;have:=aU h;subst this;exact⟨hc.1,hc.2.symm⟩
  ·cases h
 ·cases h
theorem D_million:D 1000000=4696837146684686336:=by decide+kernel
theorem D_one:D 1=4607182418800017408:=by decide+kernel
theorem D_minus:D (-1)=13830554455654793216:=by decide+kernel
theorem D_zero:D 0=0:=by decide+kernel
theorem VD{d:Datum}{n:Int}(h:Val d n):∃s,d.integral .zero=.number s n.natAbs 0/\(n≠0->s=decide (n<0)):=by
 obtain⟨s,k,rfl,a⟩:=h;refine⟨s,?_,a⟩;unfold Datum.integral;have c:(-(k:Int)).toNat=0:=by omega
 have b:(- -(k:Int)).toNat=k:=by omega
 simp only[c,b,Nat.shiftLeft_zero];by_cases h0:n.natAbs=0
 ·rw[h0,cN];congr 1;unfold Toward.cut;simp
 ·rw[Nl _ _ _ _ h0]
def whole(b:Nat):Bool:=
 match dbl.read b with
 | .nan ..=>false
 |d=>dbl.order b (dbl.write (d.integral .zero))==some .eq
theorem Afy(s:Bool)(m c j:Nat)(h:m<=c*2 ^ j):Toward.zero.cut s m j<=c:=by
 unfold Toward.cut;simp only[Bool.toNat_false,Nat.add_zero,i7];rcases Nat.le_total j (m.log2+2) with a|a
 ·rw[cO a];exact Nat.div_le_of_le_mul (by rw[fo];exact h)
 ·rw[Nat.min_eq_right a];have:m<2 ^ (m.log2+2):=by
   have h1:m<2 ^ (m.log2+1):=Nat.lt_log2_self;have h2:2 ^ (m.log2+1)<=2 ^ (m.log2+2):=bh (by decide) (by omega);omega
  rw[fp this];exact aR _
theorem AbQ{b:Nat}(hb:b<2 ^ 64){s:Bool}{m:Nat}{e:Int}(q:dbl.read b=.number s m e)
  {u:Nat}(a:m*2 ^ (e+u).toNat<=1000000*2 ^ u)(hu:e<0->(-e).toNat<=u):
  ∃n:Int,n.natAbs<=1000000/\(Datum.number s m e).toInt .zero=some n/\dbl.write ((Datum.number s m e).integral .zero)=dbl.word s (Fz n.natAbs)/\(n≠0->s=decide (n<0)):=by
 obtain⟨v,p,g,_,_,_⟩:=LA hb q;have l:0<2 ^ u:=cC u;have c:e<0:=by
  rcases gm e 0 with h|h
  ·exact h
  ·exfalso;have h52:=g h;have d:(e+(u:Int)).toNat=e.toNat+u:=by omega
   rw[d,dQ,<-dH] at a;have:=fM a l;have h2:1<=2 ^ e.toNat:=Nat.one_le_two_pow;have:m*1<=m*2 ^ e.toNat:=fC _ h2;omega
 obtain⟨j,r⟩:∃j:Nat,e=-(j:Int):=⟨(-e).toNat,by omega⟩
 have i:j<=u:=by have:=hu c;omega
 have k:m<=1000000*2 ^ j:=by
  have d:(e+(u:Int)).toNat=u-j:=by omega
  have f:1000000*2 ^ u=1000000*2 ^ j*2 ^ (u-j):=by rw[dH,<-dQ,eF i]
  rw[d,f] at a;exact fM a (cC _)
 have t:=Afy s m 1000000 j k;have hint:(Datum.number s m e).integral .zero=.number s (Toward.zero.cut s m j) 0:=by
  unfold Datum.integral;have d:e.toNat=0:=by omega
  have f:(-e).toNat=j:=by omega
  simp only[d,f,Nat.shiftLeft_zero]
 generalize Toward.zero.cut s m j=N at*;refine⟨if s then -(N:Int) else N,by split<;>omega,?_,?_,?_⟩
 ·unfold Datum.toInt;rw[hint];simp only[signed,Nat.shiftLeft_zero]
 ·rw[hint];have o:(if s then -(N:Int) else(N:Int)).natAbs=N:=by split<;>omega
  rw[o];show dbl.nearest s N 0=_
  by_cases h0:N=0
  ·subst h0;exact Gk _ _
  ·have:=Gz s N 0 (by omega) h0;rw[Int.natCast_zero,Int.neg_zero,Nat.pow_zero,bp] at this;exact this
 ·intro h0;cases s
  ·simp only[bP,cH] at h0⊢;have:¬(N:Int)<0:=by omega
   simp[this]
  ·simp only[bZ] at h0⊢;exact(aI (show -(N:Int)<0 by omega)).symm
theorem Afz{b:Nat}{s:Bool}(h:dbl.read b=.infinity s):dbl.read (b % 2 ^ 63)=.infinity false:=by
 have a:dbl.signWeight=2 ^ 63:=by decide
 unfold Format.read at h⊢;dsimp only at h⊢;rw[a] at h⊢;have c:b % 2 ^ 63 % 2 ^ 63=b % 2 ^ 63:=by omega
 have d:((b % 2 ^ 63) / 2 ^ 63 % 2==1)=false:=by
  have:(b % 2 ^ 63) / 2 ^ 63=0:=by omega
  rw[this];rfl
 rw[d,c];split at h
 ·cases h
 ·split at h
  ·cases h
  ·split at h
   ·rename_i h1 h2 h3;rw[aG h1,aG h2,aJ h3]
   ·cases h
theorem part_yes{b:Nat}(hb:b<2 ^ 64)(c:whole b=true)(a:dbl.order (b % 2 ^ 63) (D 1000000)=some .lt\/dbl.order (b % 2 ^ 63) (D 1000000)=some .eq)
  (w:dbl.order b 0≠some .eq\/b<2 ^ 63):∃n,numOf b=some n:=by
 have v:=isW_D 1000000;cases f:dbl.read b with
 |nan s t=>unfold whole at c;rw[f] at c;cases c
 |infinity s=>exfalso;unfold Format.order at a;rw[Afz f] at a;obtain⟨t,k,hk,_⟩:=v.val (by decide);rw[hk] at a;simp only[Datum.order] at a;rcases a with h|h<;>cases h
 |number s m e=>
  obtain⟨_,_,_,_,_,g⟩:=LA hb f;unfold Format.order at a;rw[g] at a;obtain⟨u,hu,r,hc⟩:=SI (s:=false) (m:=m) (e:=e) v (by decide);rw[hc] at a;have p:m*2 ^ (e+u).toNat<=1000000*2 ^ u:=by
   have q:signed false m (e+u).toNat=((m*2 ^ (e+u).toNat:Nat):Int):=by unfold signed;rw[eA];rfl
   rw[q] at a;have h2:((1000000*2 ^ u:Nat):Int)=1000000*2 ^ u:=by rw[Int.natCast_mul,Int.natCast_pow];rfl
   rw[<-h2] at a;rcases a with h|h
   ·rcases cJ ((m*2 ^ (e+u).toNat:Nat):Int) ((1000000*2 ^ u:Nat):Int) with h1|h1|h1
    ·omega
    ·omega
    ·rw[cmp_gt h1] at h;cases h
   ·have:=compare_eq (aU h);omega
  obtain⟨n,x,_,o,j⟩:=AbQ hb f p r;have hW:IsW (dbl.word s (Fz n.natAbs)) n:=⟨s,rfl,j⟩
  have l:dbl.order b (dbl.word s (Fz n.natAbs))=some .eq:=by
   unfold whole at c;rw[f] at c;rw[<-o]
   simpa using c
  have d:=AbP hb hW (by omega) l;refine⟨n,?_⟩;have i:b=D n:=d.eq_D (by
   by_cases h0:n=0
   ·right;rcases w with h|h
    ·subst h0;exact absurd (D_zero▸SJ d (isW_D 0) (by decide)) h
    ·exact h
   ·exact .inl h0)
  rw[i];exact numOf_D x
theorem AgS{n:Int}(b:n.natAbs<2 ^ 53):D n % 2 ^ 63=D n.natAbs:=by
 have c:=Ru b;have a:dbl.signWeight=2 ^ 63:=by decide
 unfold D Format.word;rw[a,show ((n.natAbs:Int)).natAbs=n.natAbs by omega,show decide ((n.natAbs:Int)<0)=false by simp];simp only[bP,cH];split
 ·omega
 ·omega
theorem part_num{n:Int}(i:n.natAbs<=1000000):whole (D n)=true/\(dbl.order (D n % 2 ^ 63) (D 1000000)=some .lt\/dbl.order (D n % 2 ^ 63) (D 1000000)=some .eq)/\(dbl.order (D n) 0≠some .eq\/D n<2 ^ 63):=by
 have hb:n.natAbs<2 ^ 53:=by omega
 have g:=(read_D n hb).val;refine⟨?_,?_,?_⟩
 ·unfold whole;obtain⟨s,c,e⟩:=VD g;obtain⟨k,hk⟩:=read_D n hb;rw[hk] at c⊢;simp only;rw[c];have a:IsW (dbl.write (.number s n.natAbs 0)) n:=by
   obtain⟨t,f,b⟩:=AbO (d:=.number s n.natAbs 0) (n:=n) ⟨s,0,by simp,e⟩ hb;exact⟨t,f,b⟩
  rw[SJ (isW_D n) a hb];rfl
 ·rw[AgS hb,order_W (isW_D _) (isW_D _) (by omega) (by decide)];rcases cJ (n.natAbs:Int) 1000000 with h|h|h
  ·left;rw[cmp_lt h]
  ·right;rw[h,compare_self']
  ·omega
 ·by_cases h0:n=0
  ·right;subst h0;rw[D_zero];decide
  ·left;rw[<-D_zero,order_W (isW_D _) (isW_D _) hb (by decide)];intro h;exact h0 (compare_eq (aU h))
end Go.Proofs.YtgngjfjaelgaeaaGreatDoor.Fl
