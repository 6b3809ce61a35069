/- Plain laws of names: read, their parts' normal texts, joined; a normal text is its own. Conditions: as stated. -/
import Derived.Test.YtgngjfjaelgaeaaGreatDoorZRdS
namespace Go.Proofs.YtgngjfjaelgaeaaGreatDoor.DnS
open Go.Lib RdS
def partsS:List iK->Option (List (List Pr))
 |[]=>some []
 |p :: ps=>if(Bh p).2=0 then(partsS ps).map ((Bh p).1 :: ·) else none
def Bv(s:iK):List (List Pr)×Int:=
 if 1000<s.length then([],4) else if s=[] then([],0) else if 12<(Ap 44 s).length then([],4)
 else match partsS (Ap 44 s) with
  |none=>([],2)
  |some l=>(l,0)
def AK(l:List Pr):iK:=(printS (AW l)).1
def Au(ts:List iK):iK:=Lib.join ts [44]
def Ae(s:iK):List iK×Int:=
 if(Bv s).2=0 then(if 1000<(Au ((Bv s).1.map AK)).length then([],4) else((Bv s).1.map AK,0)) else([],(Bv s).2)
def Ax(s:iK):iK×Int:=(Au (Ae s).1,(Ae s).2)
theorem MK:∀{ps:List iK} {l:List (List Pr)},partsS ps=some l->l.length=ps.length/\∀q∈l,formedS q=true
 |[],l,h=>by cases h;exact⟨rfl,λq a=>by cases a⟩
 |p :: ps,l,h=>by
  unfold partsS at h;split at h
  ·rename_i h0;obtain⟨l2,b,rfl⟩:=bF.1 h;have c:=MK b;refine⟨by simp[c.1],λq a=>?_⟩;rcases ay.1 a with rfl|a
   ·exact XR (s:=p) (by rw[<-h0])
   ·exact c.2 q a
  ·cases h
theorem Gf{s:iK}{l:List (List Pr)}(h:Bv s=(l,0)):l.length<=12/\(∀q∈l,formedS q=true)/\(l=[]↔s=[]):=by
 unfold Bv at h;split at h
 ·cases h
 ·split at h
  ·rename_i a;cases h;exact⟨by simp,λq b=>(by cases b),⟨λ_=>a,λ_=>rfl⟩⟩
  ·split at h
   ·cases h
   ·rename_i a h12;cases hp:partsS (Ap 44 s) with
    |none=>rw[hp] at h;cases h
    |some l2=>rw[hp] at h;cases h;have:=MK hp;obtain⟨p0,c,e⟩:=CS 44 s;refine⟨by rw[this.1];omega,this.2,⟨λh0=>?_,λh0=>absurd h0 a⟩⟩;rw[h0,e] at this;simp at this
theorem PO{l:List Pr}(h:formedS l=true):AK l=Bd (AW l) (AW l).length:=by unfold AK printS;rw[aJ (Ea h).1]
theorem QY{l:List Pr}(h:formedS l=true):Bh (AK l)=(AW l,0):=by rw[PO h];exact Acn (Ea h).1
theorem Yd{l:List Pr}(h:formedS l=true):Bf 44 (AK l):=by rw[PO h];exact Wa (by decide) (by decide) (by decide) (by decide) (Ea h).1
theorem QZ{l:List Pr}(h:formedS l=true):AK (AW l)=AK l:=by unfold AK;rw[(Ea h).2]
theorem WO{l:List Pr}(h:formedS l=true):AK l≠[]:=by
 intro h0;have hb:=QY h;rw[h0] at hb;have:Bh []=([],2):=by decide+kernel
 rw[this] at hb;have h2:=congrArg Prod.snd hb;exact absurd (show (2:Int)=0 from h2) (by decide)
theorem OY:∀{l:List (List Pr)},(∀q∈l,formedS q=true)->partsS (l.map AK)=some (l.map AW)
 |[],_=>rfl
 |q :: l,h=>by rw[cT];unfold partsS;rw[QY (h q (ai ..)),aJ rfl,OY (λp hp=>h p (au _ hp))];rfl
theorem TA{l:List (List Pr)}(f:l.length<=12)(b:∀q∈l,formedS q=true)(g:(Au (l.map AK)).length<=1000):Bv (Au (l.map AK))=(l.map AW,0):=by
 cases l with
 |nil=>simp[Au,Lib.join,List.intercalate,Bv]
 |cons q l=>
  have d:=WO (b q (ai ..));have a:Ap 44 (Au ((q :: l).map AK))=(q :: l).map AK:=by refine LL _ (by simp) (λp hp=>?_);obtain⟨r,e,rfl⟩:=bG.1 hp;exact Yd (b r e)
  have c:Au ((q :: l).map AK)≠[]:=by intro h0;rw[h0] at a;simp only[Ap,cT] at a;exact d (List.cons.inj a).1.symm
  unfold Bv;rw[aG (by omega),aG c,a,aG (by rw[b9];omega),OY b]
theorem KG{s:iK}{ts:List iK}(h:Ae s=(ts,0)):∃l,Bv s=(l,0)/\ts=l.map AK/\(Au ts).length<=1000:=by
 unfold Ae at h;split at h
 ·rename_i h0;split at h
  ·cases h
  ·rename_i h1;cases h;exact⟨_,by rw[<-h0],rfl,by omega⟩
 ·rename_i h0;injection h with _ h2;exact absurd h2 h0
theorem AaE{s:iK}{ts:List iK}(h:Ae s=(ts,0)):Ae (Au ts)=(ts,0):=by
 obtain⟨l,d,rfl,hlen⟩:=KG h;have a:=Gf d;have hb:=TA a.1 a.2.1 hlen;have b:(l.map AW).map AK=l.map AK:=by rw[ck];exact cX λq c=>QZ (a.2.1 q c)
 unfold Ae;rw[hb];simp only[bZ,b];rw[aG (by omega)]
end Go.Proofs.YtgngjfjaelgaeaaGreatDoor.DnS
namespace Go.Proofs.YtgngjfjaelgaeaaGreatDoor.DnS
open Go.Lib RdS
def Ib(ts:List iK):iK×Int:=if 12<ts.length\/1000<(Au ts).length then([],4) else(Au ts,0)
theorem OZ{l:List Pr}(h:formedS l=true):(AK l).length<=3000:=by rw[PO h];exact LM (Ea h).1 _ (aA _)
theorem Pe{l:List Pr}(h:formedS l=true):printS (AW l)=(AK l,0):=by unfold AK printS;rw[aJ (Ea h).1]
theorem NI{l:List Pr}(h:formedS l=true):normP l=(AW l,0):=by unfold normP;rw[aJ h]
def UM(t:iK):Prop:=∃q,formedS q=true/\t=AK q
theorem LR{s:iK}{ts:List iK}(h:Ae s=(ts,0)):ts.length<=12/\(Au ts).length<=1000/\∀t∈ts,UM t:=by obtain⟨l,d,rfl,hlen⟩:=KG h;have a:=Gf d;refine⟨by rw[b9];exact a.1,hlen,λt b=>?_⟩;obtain⟨q,c,rfl⟩:=bG.1 b;exact⟨q,a.2.1 q c,rfl⟩
theorem ML:∀{ts:List iK},(∀t∈ts,UM t)->∃l:List (List Pr),(∀q∈l,formedS q=true)/\ts=l.map AK
 |[],_=>⟨[],λq a=>(by cases a),rfl⟩
 |t :: ts,h=>by
  obtain⟨l,b,rfl⟩:=ML (ts:=ts) (λu hu=>h u (au _ hu));obtain⟨q,a,rfl⟩:=h t (ai ..);refine⟨q :: l,λp hp=>?_,rfl⟩;rcases ay.1 hp with rfl|hp
  ·exact a
  ·exact b p hp
theorem WP{ts:List iK}(h:∀t∈ts,UM t)(a:ts.length<=12)(e:(Au ts).length<=1000):Ae (Au ts)=(ts,0):=by
 obtain⟨l,b,rfl⟩:=ML h;have hb:=TA (by rw[b9] at a;exact a) b e;have d:(l.map AW).map AK=l.map AK:=by rw[ck];exact cX λq c=>QZ (b q c)
 unfold Ae;rw[hb];simp only[bZ,d];rw[aG (by omega)]
theorem Ze{ts:List iK}{x:iK}(h:Ib ts=(x,0)):ts.length<=12/\(Au ts).length<=1000/\x=Au ts:=by
 unfold Ib at h;split at h
 ·cases h
 ·rename_i h0;cases h;exact⟨by omega,by omega,rfl⟩
theorem AgF{ts:List iK}(a:ts.length<=12)(b:(Au ts).length<=1000):Ib ts=(Au ts,0):=by unfold Ib;rw[aG (by omega)]
theorem NJ{s:iK}(h:(Ae s).2≠0):(Ae s).1=[]:=by
 unfold Ae at h⊢;split
 ·rename_i h0;rw[aJ h0] at h;split
  ·rfl
  ·rename_i h1;rw[aG h1] at h;exact absurd rfl h
 ·rfl
theorem Dh(s:iK):(Ae s).1.length<=12/\(Au (Ae s).1).length<=1000:=by
 by_cases h:(Ae s).2=0
 ·have:=LR (s:=s) (ts:=(Ae s).1) (by rw[<-h]);exact⟨this.1,this.2.1⟩
 ·rw[NJ h];exact⟨by simp,by simp[Au,Lib.join,List.intercalate]⟩
theorem Ic(s:iK):(Ax s).1.length<=1000:=(Dh s).2
theorem Hr{s:iK}:∀t∈(Ae s).1,t.length<=3000:=by
 intro t a;by_cases h:(Ae s).2=0
 ·obtain⟨q,b,rfl⟩:=(LR (s:=s) (ts:=(Ae s).1) (by rw[<-h])).2.2 t a;exact OZ b
 ·rw[NJ h] at a;cases a
def Di(a b:List iK):Option (List iK):=
 if a.length<b.length then none else if a.drop (a.length-b.length)=b then some (a.take (a.length-b.length)) else none
theorem NK{a b r:List iK}:Di a b=some r↔a=r++b:=by
 unfold Di;constructor
 ·intro h;split at h
  ·cases h
  ·split at h
   ·rename_i h1 h2;cases h;have:=cK (a.length-b.length) a;rw[h2] at this;exact this.symm
   ·cases h
 ·rintro rfl;rw[aG (by rw[aT];omega),aT,dZ];simp
def Fh(a b:iK):Bool:=decide ((Ae a).2=0)&&decide ((Ae b).2=0)&&(Di (Ae a).1 (Ae b).1).isSome
def cmpL:List iK->List iK->Int
 |[],[]=>0
 |[],_ :: _=>-1
 |_ :: _,[]=>1
 |a :: x,b :: y=>if compareBytes a b=0 then cmpL x y else compareBytes a b
theorem TB:∀x y,cmpL y x=-cmpL x y
 |[],[]=>rfl
 |[],_ :: _=>rfl
 |_ :: _,[]=>rfl
 |a :: x,b :: y=>by
  unfold cmpL;rw[RuS.compare_swap a b,TB x y];split
  ·rw[aJ (by omega)]
  ·rw[aG (by omega)]
theorem MM:∀x y z:iK,compareBytes x y<=0->compareBytes y z<=0->compareBytes x z<=0
 |[],y,[],_,_=>by simp[compareBytes]
 |[],y,_ :: _,_,_=>by simp[compareBytes]
 |a :: x,[],z,h,_=>by simp[compareBytes] at h
 |a :: x,b :: y,[],_,h=>by simp[compareBytes] at h
 |a :: x,b :: y,c :: z,h,k=>by
  have d:=MM x y z;unfold compareBytes at h k⊢;simp only[RuS.u8_lt] at h k⊢;by_cases h1:a.toNat<b.toNat
  ·by_cases h2:b.toNat<c.toNat
   ·rw[aJ (by omega)];omega
   ·rw[aG h2] at k;split at k
    ·omega
    ·rw[aJ (by omega)];omega
  ·rw[aG h1] at h;split at h
   ·omega
   ·by_cases h2:b.toNat<c.toNat
    ·rw[aJ (by omega)];omega
    ·rw[aG h2] at k;split at k
     ·omega
     ·rw[aG (by omega),aG (by omega)];exact d h k
theorem Rb:∀x y z,cmpL x y<=0->cmpL y z<=0->cmpL x z<=0
 |[],y,[],_,_=>by simp[cmpL]
 |[],y,_ :: _,_,_=>by simp[cmpL]
 |a :: x,[],z,h,_=>by simp[cmpL] at h
 |a :: x,b :: y,[],_,h=>by simp[cmpL] at h
 |a :: x,b :: y,c :: z,h,k=>by
  have d:=Rb x y z;unfold cmpL at h k⊢;by_cases h1:compareBytes a b=0
  ·rw[aJ h1] at h;have:=(RuS.compare_zero a b).1 h1;subst this;split at k
   ·rename_i h2;rw[aJ h2];exact d h k
   ·rename_i h2;rw[aG h2];exact k
  ·rw[aG h1] at h;by_cases h2:compareBytes b c=0
   ·have:=(RuS.compare_zero b c).1 h2;subst this;rw[aG h1];exact h
   ·rw[aG h2] at k;have h3:compareBytes a c≠0:=by
     intro h0;have:=(RuS.compare_zero a c).1 h0;subst this;have:=RuS.compare_swap a b;omega
    rw[aG h3];exact MM a b c h k
def ER(x y:List iK):Int:=cmpL x.reverse y.reverse
def Aq(a b:iK):Int:=if(Ae a).2=0/\(Ae b).2=0 then ER (Ae a).1 (Ae b).1 else 0
theorem Da(a b:iK):Aq b a=-Aq a b:=by
 unfold Aq;by_cases h:(Ae a).2=0/\(Ae b).2=0
 ·rw[aJ h,aJ ⟨h.2,h.1⟩];exact TB _ _
 ·rw[aG h,aG (λk=>h ⟨k.2,k.1⟩)];rfl
theorem Lc{a b c:iK}(d:(Ae a).2=0)(hb:(Ae b).2=0)(hc:(Ae c).2=0)(h:Aq a b<=0)(k:Aq b c<=0):Aq a c<=0:=by unfold Aq at*;rw[aJ ⟨‹_›,‹_›⟩] at*;exact Rb _ _ _ h k
def Fv(s:iK):iK×Bool:=if(Ae s).1=[] then([],false) else(Au ((Ae s).1.drop 1),true)
theorem AcY(t:iK):∀ts:List iK,(Au ts).length<=(Au (t :: ts)).length
 |[]=>by simp[Au,Lib.join,List.intercalate]
 |u :: ts=>by unfold Au;rw[RuS.join_cons_cons,aT];omega
def Dj(s fr dst:iK):iK×Int:=
 if(Ae s).2=0 then(if(Ae fr).2=0 then(if(Ae dst).2=0 then(match Di (Ae s).1 (Ae fr).1 with
  |some r=>Ib (r++(Ae dst).1)
  |none=>([],1)) else([],(Ae dst).2)) else([],(Ae fr).2)) else([],(Ae s).2)
theorem TD{s fr dst x:iK}(h:Dj s fr dst=(x,0)):(Ae s).2=0/\(Ae fr).2=0/\(Ae dst).2=0/\∃r,(Ae s).1=r++(Ae fr).1/\Ae x=(r++(Ae dst).1,0):=by
 unfold Dj at h;split at h
 ·rename_i h1;split at h
  ·rename_i h2;split at h
   ·rename_i h3;refine⟨h1,h2,h3,?_⟩;cases hb:Di (Ae s).1 (Ae fr).1 with
    |none=>rw[hb] at h;injection h with _ h4;exact absurd h4 (by decide)
    |some r=>
     rw[hb] at h;have e:=NK.1 hb;have b:=Ze h;have c:=LR (s:=s) (ts:=(Ae s).1) (by rw[<-h1]);have d:=LR (s:=dst) (ts:=(Ae dst).1) (by rw[<-h3]);refine⟨r,e,?_⟩;rw[b.2.2];refine WP (λt a=>?_) b.1 b.2.1;rcases bB.1 a with a|a
     ·exact c.2.2 t (by rw[e];exact bw _ a)
     ·exact d.2.2 t a
   ·rename_i h3;injection h with _ h4;exact absurd h4 h3
  ·rename_i h3;injection h with _ h4;exact absurd h4 h3
 ·rename_i h3;injection h with _ h4;exact absurd h4 h3
theorem TE{s:iK}(h:(Ax s).2=0):Ax (Ax s).1=((Ax s).1,0):=by
 have hb:=AaE (s:=s) (ts:=(Ae s).1) (by
  have:(Ae s).2=0:=h;rw[<-this])
 show (Au (Ae (Au (Ae s).1)).1,(Ae (Au (Ae s).1)).2)=(Au (Ae s).1,0)
 rw[hb]
theorem AaF{s:iK}(h:(Ax s).2=0):(Ax s).1=[]↔s=[]:=by
 obtain⟨l,d,a,_⟩:=KG (s:=s) (ts:=(Ae s).1) (by
  have:(Ae s).2=0:=h;rw[<-this])
 have b:=Gf d;rw[<-b.2.2];show Au (Ae s).1=[]↔_
 rw[a];cases l with
 |nil=>simp[Au,Lib.join,List.intercalate]
 |cons q l=>refine⟨λh0=>?_,λh0=>(by cases h0)⟩;have c:=WO (b.2.1 q (ai ..));have:=join_first (AK q) (l.map AK);rw[cT] at h0;rw[h0] at this;have h1:(AK q).length=0:=Nat.eq_zero_of_le_zero this;exact absurd (aY h1) c
 where
  join_first (t:iK):∀ts:List iK,t.length<=(Au (t :: ts)).length
   |[]=>by unfold Au;rw[Lib.join_one];exact aA _
   |u :: ts=>by unfold Au;rw[RuS.join_cons_cons,aT,aT];omega
def AC(nm v:iK):iK×Int:=
 if(RuS.typeOf nm).2=5 then(if v.length<1\/200<v.length then([],2) else if(Ax v).2=0 then((Ax v).1,0) else([],2)) else RuS.normal nm v
theorem AaG(nm v:iK):AC nm v=if(RuS.typeOf nm).2=5 then(if(Ax v).2≠0\/(Ax v).1=[]\/200<v.length then([],2) else((Ax v).1,0)) else RuS.normal nm v:=by
 unfold AC;split
 ·by_cases h0:(Ax v).2=0
  ·have a:=AaF h0;rw[aJ h0];by_cases h1:v=[]
   ·subst h1;rw[aJ (.inl (by simp)),aJ (.inr (.inl (a.2 rfl)))]
   ·have b:1<=v.length:=by
     rcases bU v.length with h|h
     ·exact absurd (aY h) h1
     ·exact h
    have h2:(Ax v).1≠[]:=λh=>h1 (a.1 h);by_cases h3:200<v.length
    ·rw[aJ (.inr h3),aJ (.inr (.inr h3))]
    ·rw[aG (by omega),aG];rintro (h|h|h)
     ·exact h h0
     ·exact h2 h
     ·exact h3 h
  ·rw[aG h0,ite_self,aJ (.inl h0)]
 ·rfl
end Go.Proofs.YtgngjfjaelgaeaaGreatDoor.DnS
namespace Go.Proofs.YtgngjfjaelgaeaaGreatDoor
section
namespace EnS
open Go.Lib DnS
structure At where
 typ:iK
 vals:List iK
structure En where
 name:iK
 attrs:List At
def NL:iK:=[111,98,106,101,99,116,67,108,97,115,115]
def DL:iK:=[97,108,105,97,115,101,100,79,98,106,101,99,116,78,97,109,101]
def NM:iK:=[97,108,105,97,115]
def valuesL:List At->iK->List iK
 |[],_=>[]
 |a :: l,t=>if a.typ=t then a.vals else valuesL l t
def Et(e:En)(nm:iK):List iK:=if(RuS.typeOf nm).1=[] then [] else valuesL e.attrs (RuS.typeOf nm).1
def Gm(nm n v:iK):Bool:=decide ((AC nm v).2=0)&&((AC nm v).1==n)
def LS(nm:iK)(l:List iK)(v:iK):Option Nat:=if(AC nm v).2=0 then l.findIdx? (Gm nm (AC nm v).1) else none
def RQ(nm:iK)(l:List iK)(v:iK):Bool:=decide ((AC nm v).2=0)&&l.any (Gm nm (AC nm v).1)
theorem Ye(nm:iK)(l:List iK)(v:iK):(LS nm l v).isSome=RQ nm l v:=by
 unfold LS RQ;by_cases h:(AC nm v).2=0
 ·rw[aJ h,aI h,cy,ei]
 ·rw[aG h,aB h];rfl
def RU(e:En)(nm v:iK):Bool:=RQ nm (Et e nm) v
def WQ(l:List iK)(a:Bool):iK×Bool:=
 match l with
 |[]=>([],false)
 |v :: _=>if a=true then((AC DL v).1,decide ((AC DL v).2=0)) else([],false)
def Ds(e:En):iK×Bool:=WQ (Et e DL) (RU e NL NM)
def Ld(n:iK)(acc:Option (iK×iK))(e:En):Bool:=
 (Ds e).2&&Fh n e.name&&(match acc with|none=>true|some p=>decide ((Ae e.name).1.length<(Ae p.1).1.length))
def FC(n:iK)(acc:Option (iK×iK))(e:En):Option (iK×iK):=if Ld n acc e=true then some (e.name,(Ds e).1) else acc
def Gn(n:iK)(l:List En):Option (iK×iK):=l.foldl (FC n) none
def Og(n:iK)(o:Option (iK×iK)):iK×Bool×Int:=
 match o with
 |none=>(n,false,0)
 |some p=>if(Dj n p.1 p.2).2=0 then((Dj n p.1 p.2).1,true,0) else([],false,33)
def stepS(l:List En)(s:iK):iK×Bool×Int:=
 if(Ax s).2=0 then Og (Ax s).1 (Gn (Ax s).1 l) else([],false,34)
theorem AcZ{n:iK}{l:List En}{k:Nat}(hk:k<l.length):Gn n (l.take (k+1))=FC n (Gn n (l.take k)) l[k]:=by unfold Gn;rw[aW hk,dG,List.foldl_cons,List.foldl_nil]
theorem Ada{s f d x:iK}(h:Dj s f d=(x,0)):Ax x=(x,0):=by
 obtain⟨_,_,h3,r,b,a⟩:=TD h;have hx:x=Au (r++(Ae d).1):=by obtain⟨h1,h2,_⟩:=TD h;have hb:Di (Ae s).1 (Ae f).1=some r:=NK.2 b;unfold Dj at h;rw[aJ h1,aJ h2,aJ h3,hb] at h;exact(Ze h).2.2
 unfold Ax;rw[a];simp only;rw[<-hx]
theorem Yf{l:List En}{s x:iK}{b:Bool}(h:stepS l s=(x,b,0)):Ax x=(x,0):=by
 unfold stepS at h;split at h
 ·rename_i h0;unfold Og at h;split at h
  ·cases h;exact TE h0
  ·split at h
   ·rename_i h1;simp only[bT] at h;obtain⟨hx,_,_⟩:=h;rw[<-hx];exact Ada (by rw[<-h1])
   ·cases h
 ·cases h
def Eh(l:List En):Nat->List iK->iK->List iK×iK×Int
 |0,_,_=>([],[],36)
 |k+1,seen,n=>
  if(stepS l n).2.2=0 then(if(stepS l n).2.1=true then(if seen.contains (stepS l n).1=true\/16<seen.length then([],[],36) else Eh l k (seen++[(stepS l n).1]) (stepS l n).1) else(seen,n,0))
  else([],[],(stepS l n).2.2)
def inS(l:List En)(n:iK):Bool:=l.any (λe=>e.name==n)
def GK(l:List En)(seen:List iK)(n:iK):iK×Bool×Int:=
 if n≠[]/\inS l n=false then([],false,if 1<seen.length then 33 else 32) else(n,decide (1<seen.length),0)
def Iu(l:List En)(t:List iK×iK×Int):iK×Bool×Int:=if t.2.2=0 then GK l t.1 t.2.1 else([],false,t.2.2)
def AQ(l:List En)(s:iK)(follow:Bool):iK×Bool×Int:=
 if(Ax s).2=0 then(if follow=true then Iu l (Eh l 17 [(Ax s).1] (Ax s).1) else GK l [(Ax s).1] (Ax s).1) else([],false,34)
theorem WR{l:List En}{seen:List iK}{n:iK}(h:(GK l seen n).2.2=0):(n=[]\/inS l n=true)/\GK l seen n=(n,decide (1<seen.length),0):=by
 unfold GK at h⊢;split at h
 ·split at h<;>cases h
 ·rename_i h9;refine⟨?_,by rw[aG h9]⟩;by_cases h0:n=[]
  ·exact .inl h0
  ·right;cases a:inS l n with
   |true=>rfl
   |false=>exact absurd ⟨h0,a⟩ h9
theorem find_in{l:List En}{n:iK}(c:Ax n=(n,0))(d:n=[]\/inS l n=true)(a:∃b,stepS l n=(b,false,0)):AQ l n true=(n,false,0):=by obtain⟨b,a⟩:=a;unfold AQ;rw[c,aJ rfl,aJ rfl];unfold Eh;rw[a,aJ rfl,aG (by simp)];unfold Iu;rw[aJ rfl];unfold GK;rw[aG (by rintro⟨h1,h2⟩;rcases d with h|h;exact h1 h;rw[h] at h2;cases h2)];rfl
end EnS
end
section
namespace SeS
open Go.Lib DnS EnS
theorem Be{α:Type}{p:α->Bool}{l:List α}{e:α}(h:e∈l.filter p):e∈l:=(cf.1 h).1
def GM(n:iK):Prop:=Ax n=(n,0)
theorem GM.txt{n:iK}(h:GM n):(Ae n).2=0:=congrArg Prod.snd h
theorem GM.join{n:iK}(h:GM n):Au (Ae n).1=n:=congrArg Prod.fst h
theorem TF:∀{x y:List iK},DnS.cmpL x y=0->x=y
 |[],[],_=>rfl
 |[],_ :: _,h=>by simp[DnS.cmpL] at h
 |_ :: _,[],h=>by simp[DnS.cmpL] at h
 |a :: x,b :: y,h=>by
  unfold DnS.cmpL at h;split at h
  ·rename_i h1;rw[(RuS.compare_zero a b).1 h1,TF h]
  ·omega
theorem PR{a b:iK}(c:GM a)(hb:GM b)(h:Aq a b=0):a=b:=by unfold Aq at h;rw[aJ ⟨c.txt,hb.txt⟩] at h;unfold ER at h;have h2:=List.reverse_inj.1 (TF h);rw[<-c.join,<-hb.join,h2]
theorem WS{a b c:iK}(d:GM a)(hb:GM b)(hc:GM c)(h:Aq a b<0)(k:Aq b c<0):Aq a c<0:=by
 have h1:=Lc d.txt hb.txt hc.txt (by omega) (by omega);rcases Int.lt_or_eq_of_le h1 with h2|h2
 ·exact h2
 ·have e:=PR d hc h2;subst e;have:=Da a b;omega
theorem LU{a:iK}:Aq a a=0:=by have:=Da a a;omega
def Srt(xs:List En):Prop:=xs.Pairwise (λa b=>Aq a.name b.name<0)
def BU(xs:List En):Prop:=∀e∈xs,GM e.name
def CL(xs:List En):Prop:=∀a∈xs,∀b∈xs,a.name=b.name->a=b
theorem LV:∀{xs ys:List En},Srt xs->Srt ys->(∀e,e∈xs↔e∈ys)->xs=ys
 |[],[],_,_,_=>rfl
 |[],y :: r,_,_,h=>by simp at h;exact absurd rfl (h y).1
 |x :: r,[],_,_,h=>by simp at h;exact absurd rfl (h x).1
 |x :: xs,y :: ys,hx,hy,h=>by
  obtain⟨hx1,f⟩:=cF.1 hx;obtain⟨b,d⟩:=cF.1 hy;have e:x=y:=by
   rcases ay.1 ((h x).1 (ai ..)) with e|e
   ·exact e
   ·rcases ay.1 ((h y).2 (ai ..)) with c|c
    ·exact c.symm
    ·have h1:=b x e;have h2:=hx1 y c;have:=Da x.name y.name;omega
  subst e;rw[LV f d (λz=>?_)];constructor
  ·intro a;rcases ay.1 ((h z).1 (au _ a)) with e|e
   ·subst e;have:=hx1 z a;rw[LU] at this;omega
   ·exact e
  ·intro a;rcases ay.1 ((h z).2 (au _ a)) with e|e
   ·subst e;have:=b z a;rw[LU] at this;omega
   ·exact e
theorem Srt.map{xs:List En}(h:Srt xs){f:En->En}(c:∀e,(f e).name=e.name):Srt (xs.map f):=by unfold Srt at*;rw[eQ];exact h.imp (λ{a b} h=>by rw[c,c];exact h)
theorem Srt.filter{xs:List En}(h:Srt xs)(p:En->Bool):Srt (xs.filter p):=List.Pairwise.filter p h
def Ep(x:En):List En->List En
 |[]=>[x]
 |y :: r=>if Aq y.name x.name<0 then y :: Ep x r else if y.name=x.name then y :: r else x :: y :: r
def BM(xs:List En):List En:=xs.foldl (λacc x=>Ep x acc) []
theorem TG{xs:List En}{k:Nat}(hk:k<xs.length):BM (xs.take (k+1))=Ep (xs[k]'hk) (BM (xs.take k)):=by unfold BM;rw[aW hk,dG,List.foldl_cons,List.foldl_nil]
def DG(n:iK)(xs:List En):Nat:=(xs.takeWhile (λy=>decide (Aq y.name n<0))).length
theorem WT{n:iK}:∀{xs:List En} {j:Nat},j<=xs.length->(∀i (c:i<xs.length),i<j->Aq (xs[i]'c).name n<0)->(∀a:j<xs.length,¬Aq (xs[j]'a).name n<0)->DG n xs=j
 |[],j,a,_,_=>by simp at a;subst a;rfl
 |y :: r,0,_,_,h=>by have:=h (dW _);unfold DG;rw[cZ,aG (by simpa using this)];rfl
 |y :: r,j+1,a,h1,h2=>by have h0:=h1 0 (dW _) (dW _);have e:=WT (n:=n) (xs:=r) (j:=j) (by simpa using a) (λi c d=>h1 (i+1) (by simpa using c) (by omega)) (λb=>h2 (by simpa using b));unfold DG at*;rw[cZ,aJ (by simpa using h0),aN,e]
theorem WU{x:En}:∀{xs:List En} (h:DG x.name xs<xs.length),(xs[DG x.name xs]'h).name=x.name->Ep x xs=xs
 |[],h,_=>by simp[DG] at h
 |y :: r,h,e=>by
  unfold Ep;by_cases hc:Aq y.name x.name<0
  ·have hp:DG x.name (y :: r)=DG x.name r+1:=by unfold DG;rw[cZ,aJ (by simpa using hc)];rfl
   rw[aJ hc];have h2:DG x.name r<r.length:=by rw[hp] at h;simpa using h
   rw[WU h2 (by simp only[hp,aD] at e;exact e)]
  ·have hp:DG x.name (y :: r)=0:=by unfold DG;rw[cZ,aG (by simpa using hc)];rfl
   simp only[hp,aC] at e;rw[aG hc,aJ e]
theorem Zf{x:En}:∀{xs:List En},(∀h:DG x.name xs<xs.length,(xs[DG x.name xs]'h).name≠x.name)->Ep x xs=xs.take (DG x.name xs)++x :: xs.drop (DG x.name xs)
 |[],_=>rfl
 |y :: r,e=>by
  unfold Ep;by_cases hc:Aq y.name x.name<0
  ·have hp:DG x.name (y :: r)=DG x.name r+1:=by unfold DG;rw[cZ,aJ (by simpa using hc)];rfl
   rw[aJ hc,hp,List.take_succ_cons,bW,List.cons_append,Zf (λh=>by
    have:=e (by rw[hp];simpa using h);simp only[hp,aD] at this;exact this)]
  ·have hp:DG x.name (y :: r)=0:=by unfold DG;rw[cZ,aG (by simpa using hc)];rfl
   have:=e (by rw[hp];exact dW _);simp only[hp,aC] at this;rw[aG hc,aG this,hp];rfl
theorem Oh{x e:En}:∀{xs:List En},e∈Ep x xs->e=x\/e∈xs
 |[],h=>by rw[Ep,aj] at h;exact .inl h
 |y :: r,h=>by
  unfold Ep at h;split at h
  ·rcases ay.1 h with rfl|h
   ·exact .inr (ai ..)
   ·exact(Oh h).imp id (au _)
  ·split at h
   ·exact .inr h
   ·rcases ay.1 h with rfl|h
    ·exact .inl rfl
    ·exact .inr h
theorem Zg{x:En}(hx:GM x.name):∀{xs:List En},BU xs->Srt xs->Srt (Ep x xs)
 |[],_,_=>by unfold Srt Ep;simp
 |y :: r,ho,hs=>by
  obtain⟨h1,h2⟩:=cF.1 hs;have d:=ho y (ai ..);have b:BU r:=λe a=>ho e (au _ a);unfold Ep;split
  ·rename_i hc;refine cF.2 ⟨λe a=>?_,Zg hx b h2⟩;rcases Oh a with rfl|a
   ·exact hc
   ·exact h1 e a
  ·rename_i hc;split
   ·exact hs
   ·rename_i f;have c:Aq x.name y.name<0:=by
     have h3:Aq y.name x.name≠0:=λh=>f (PR d hx h);have:=Da x.name y.name;omega
    refine cF.2 ⟨λe a=>?_,hs⟩;rcases ay.1 a with rfl|a
    ·exact c
    ·exact WS hx d (b e a) c (h1 e a)
theorem Zh{x e:En}:∀{xs:List En},e∈xs->e∈Ep x xs
 |y :: r,h=>by
  unfold Ep;split
  ·rcases ay.1 h with rfl|h
   ·exact ai ..
   ·exact au _ (Zh h)
  ·split
   ·exact h
   ·exact au _ h
theorem WV(x:En):∀xs:List En,∃e∈Ep x xs,e.name=x.name
 |[]=>⟨x,aj.2 rfl,rfl⟩
 |y :: r=>by
  unfold Ep;split
  ·obtain⟨e,b,a⟩:=WV x r;exact⟨e,au _ b,a⟩
  ·split
   ·rename_i h;exact⟨y,ai ..,h⟩
   ·exact⟨x,ai ..,rfl⟩
theorem WW:∀{xs:List En} {e:En},e∈BM xs->e∈xs:=by
 have go:∀(xs acc:List En) (e:En),e∈xs.foldl (λacc x=>Ep x acc) acc->e∈acc\/e∈xs:=by
  intro xs
  induction xs with
  |nil=>intro acc e h;exact .inl h
  |cons x r a=>
   intro acc e h;rw[List.foldl_cons] at h;rcases a _ _ h with h|h
   ·rcases Oh h with rfl|h
    ·exact .inr (ai ..)
    ·exact .inl h
   ·exact .inr (au _ h)
 intro xs e h;exact(go xs [] e h).resolve_left (by simp)
theorem ID{xs:List En}(f:BU xs)(h1:CL xs):Srt (BM xs)/\∀e,e∈BM xs↔e∈xs:=by
 have go:∀(zs acc:List En),BU (acc++zs)->CL (acc++zs)->Srt acc->Srt (zs.foldl (λacc x=>Ep x acc) acc)/\∀e,(e∈acc\/e∈zs)->e∈zs.foldl (λacc x=>Ep x acc) acc:=by
  intro zs
  induction zs with
  |nil=>intro acc _ _ h;exact⟨h,λe c=>c.resolve_right (by simp)⟩
  |cons x r k=>
   intro acc f h1 i;rw[List.foldl_cons];have d:∀e,e∈Ep x acc++r->e∈acc++x :: r:=λe c=>by
    rcases bB.1 c with c|c
    ·rcases Oh c with rfl|c
     ·exact dM _ (ai ..)
     ·exact bw _ c
    ·exact dM _ (au _ c)
   obtain⟨g1,g2⟩:=k (Ep x acc) (λe c=>f e (d e c)) (λa ha b hb h=>h1 a (d a ha) b (d b hb) h) (Zg (f x (by simp)) (λe c=>f e (bw _ c)) i);refine⟨g1,λe c=>g2 e ?_⟩;rcases c with c|c
   ·exact .inl (Zh c)
   ·rcases ay.1 c with rfl|c
    ·obtain⟨y,g,j⟩:=WV e acc;have:y=e:=h1 y (d y (bw _ g)) e (by simp) j;subst this;exact .inl g
    ·exact .inr c
 obtain⟨g1,g2⟩:=go xs [] f h1 eP;exact⟨g1,λe=>⟨WW,λh=>g2 e (.inr h)⟩⟩
theorem Zi{xs ys:List En}(a:BU xs)(h1:CL xs)(c:Srt ys)(b:∀e,e∈ys↔e∈xs):BM xs=ys:=by obtain⟨g1,g2⟩:=ID a h1;exact LV g1 c (λe=>by rw[g2,b])
theorem sort_same{xs ys:List En}(f:BU xs)(h1:CL xs)(c:∀e,e∈ys↔e∈xs):BM ys=BM xs:=by have d:BU ys:=λe g=>f e ((c e).1 g);have h2:CL ys:=λa i b hb h=>h1 a ((c a).1 i) b ((c b).1 hb) h;obtain⟨g1,g2⟩:=ID f h1;exact Zi d h2 g1 (λe=>by rw[g2,c])
theorem Yg{xs:List En}(c:BU xs)(h1:CL xs)(p:En->Bool):BM (xs.filter p)=(BM xs).filter p:=by obtain⟨g1,g2⟩:=ID c h1;exact Zi (λe f=>c e (Be f)) (λa d b hb h=>h1 a (Be d) b (Be hb) h) (g1.filter p) (λe=>by rw[cf,cf,g2])
theorem Srt.nodup{xs:List En}(h:Srt xs):xs.Nodup:=iC (λ{a b} hab e=>by subst e;rw[LU] at hab;omega) h
theorem Adb{R zs ys:List En}{f:En->En}(c:∀e,(f e).name=e.name)(d:BU R)(h1:CL R)(n:(zs.map En.name).Nodup)(l:∀e,e∈zs↔e∈R)(hp:ys.Perm (zs.map f))(m:ys.Pairwise (λa b=>¬Aq b.name a.name<0)):ys=(BM R).map f:=by
 obtain⟨g1,g2⟩:=ID d h1;have j:∀e,e∈ys↔∃x∈R,f x=e:=λe=>by
  rw[hp.mem_iff,bG];constructor
  ·rintro⟨x,hx,e⟩;exact⟨x,(l x).1 hx,e⟩
  ·rintro⟨x,hx,e⟩;exact⟨x,(l x).2 hx,e⟩
 have i:(ys.map En.name).Nodup:=by
  have e:(zs.map f).map En.name=zs.map En.name:=by rw[ck];exact cX (λx _=>c x)
  exact(hp.map En.name).nodup_iff.2 (by rw[e];exact n)
 have k:ys.Pairwise (λa b=>a.name≠b.name):=eQ.1 i;refine LV ?_ (g1.map c) (λe=>?_)
 ·refine fw (λ{a b} ha hb hab=>?_) (m.and k);obtain⟨x,hx,rfl⟩:=(j a).1 ha;obtain⟨y,g,rfl⟩:=(j b).1 hb;have o:=d x hx;have o2:=d y g;rw[c,c] at hab⊢;have s:=Da x.name y.name;have n0:Aq x.name y.name≠0:=λh=>hab.2 (PR o o2 h);omega
 ·rw[j,bG];constructor
  ·rintro⟨x,hx,e⟩;exact⟨x,(g2 x).2 hx,e⟩
  ·rintro⟨x,hx,e⟩;exact⟨x,(g2 x).1 hx,e⟩
abbrev Pl:=iK×Int
def inScope(n:iK)(sc:Int)(m:iK):Bool:=if sc=0 then m==n else if sc=1 then m !=[]&&(Fv m).1==n else Fh m n
def AO(l:List En)(n:iK)(sc:Int):List En:=if(Ax n).2=0/\0<=sc/\sc<=2 then l.filter (λe=>inScope (Ax n).1 sc e.name) else []
def GG(dr:Bool)(p:Pl)(e:En):Bool:=dr&&(Ds e).2&&!(e.name==p.1)
def Ie(sc:Int):Int:=if sc=2 then 2 else 0
def IE(ps:List Pl)(p:Pl):List Pl:=if ps.contains p then ps else ps++[p]
def DC(l:List En)(sc:Int)(ps:List Pl)(e:En):List Pl:=if(AQ l e.name true).2.2=0 then IE ps ((AQ l e.name true).1,Ie sc) else ps
def Kq(l:List En)(dr:Bool)(ps:List Pl)(p:Pl):List Pl:=((AO l p.1 p.2).filter (GG dr p)).foldl (DC l p.2) ps
def Gg(l:List En)(dr:Bool)(p:Pl):List En:=(AO l p.1 p.2).filter (λe=>!GG dr p e)
def stS(l:List En)(dr:Bool)(ps:List Pl):Nat->List Pl×List En
 |0=>(ps,[])
 |k+1=>match (stS l dr ps k).1[k]? with
  |some p=>(Kq l dr (stS l dr ps k).1 p,(stS l dr ps k).2++Gg l dr p)
  |none=>stS l dr ps k
theorem Zj{l:List En}{dr:Bool}{ps:List Pl}{k:Nat}(hk:k<(stS l dr ps k).1.length):stS l dr ps (k+1)=(Kq l dr (stS l dr ps k).1 ((stS l dr ps k).1[k]'hk),(stS l dr ps k).2++Gg l dr ((stS l dr ps k).1[k]'hk)):=by rw[stS,aK hk]
def PS(l:List En)(dr:Bool)(ps:List Pl)(N:Nat):Prop:=(stS l dr ps N).1.length<=N/\∀k,k<N->k<(stS l dr ps k).1.length
theorem AaH{l:List En}{dr:Bool}{ps:List Pl}{N M:Nat}(h:PS l dr ps N)(k:PS l dr ps M):N=M:=by
 rcases fP N M with a|a|a
 ·have:=k.2 N a;have:=h.1;omega
 ·exact a
 ·have:=h.2 M a;have:=k.1;omega
theorem Adc(ps:List Pl)(p:Pl):∃r,IE ps p=ps++r:=by
 unfold IE;split
 ·exact⟨[],(bK _).symm⟩
 ·exact⟨[p],rfl⟩
theorem Ae2(l:List En)(sc:Int)(ps:List Pl)(e:En):∃r,DC l sc ps e=ps++r:=by
 unfold DC;split
 ·exact Adc ..
 ·exact⟨[],(bK _).symm⟩
theorem Kr(l:List En)(sc:Int):∀(es:List En) (ps:List Pl),∃r,es.foldl (DC l sc) ps=ps++r
 |[],ps=>⟨[],(bK _).symm⟩
 |e :: es,ps=>by obtain⟨r,b⟩:=Ae2 l sc ps e;obtain⟨q,a⟩:=Kr l sc es (ps++r);exact⟨r++q,by rw[List.foldl_cons,b,a,bL]⟩
def Ig(U ps:List Pl):Prop:=ps.Nodup/\∀p∈ps,p∈U
theorem Oi{α:Type}[DecidableEq α]:∀{ps U:List α},ps.Nodup->(∀p∈ps,p∈U)->ps.length<=U.length
 |[],_,_,_=>aR _
 |p :: r,U,hn,hs=>by obtain⟨h1,h2⟩:=List.nodup_cons.1 hn;have hp:=hs p (ai ..);have b:=Oi (U:=U.erase p) h2 (λq a=>(List.mem_erase_of_ne (λe=>by subst e;exact h1 a)).2 (hs q (au _ a)));rw[List.length_erase_of_mem hp] at b;have:=List.length_pos_of_mem hp;rw[aN];omega
theorem Ig.len{U ps:List Pl}(h:Ig U ps):ps.length<=U.length:=Oi h.1 h.2
theorem Ig.fresh{U ps:List Pl}(h:Ig U ps){p:Pl}(hp:p∈U):Ig U (IE ps p):=by
 unfold IE;split
 ·exact h
 ·rename_i hc;have hc:p∉ps:=by simpa using hc
  refine⟨iD.2 ⟨h.1,by simp,λa d b hb=>?_⟩,λq c=>?_⟩
  ·rw[aj] at hb;subst hb;exact λe=>hc (e▸d)
  ·rcases bB.1 c with c|c
   ·exact h.2 q c
   ·rw[aj] at c;subst c;exact hp
def Ks(l:List En)(p:Pl):List Pl:=p :: (([] :: l.map En.name).map (λn=>(n,(0:Int)))++([] :: l.map En.name).map (λn=>(n,(2:Int))))
theorem AfP(l:List En)(p:Pl):(Ks l p).length=2*l.length+3:=by unfold Ks;simp only[aN,aT,b9];omega
theorem find_in{l:List En}{s:iK}{f:Bool}(h:(AQ l s f).2.2=0):(AQ l s f).1=[]\/inS l (AQ l s f).1=true:=by
 unfold AQ at h⊢;split at h
 ·rename_i h0;rw[aJ h0];split at h
  ·rename_i h1;rw[aJ h1];unfold Iu at h⊢;split at h
   ·rename_i h2;rw[aJ h2];obtain⟨a,b⟩:=WR h;rw[b];exact a
   ·rename_i h2;exact absurd h h2
  ·rename_i h1;rw[aG h1];obtain⟨a,b⟩:=WR h;rw[b];exact a
 ·cases h
theorem Ig.lead{l:List En}{p0:Pl}{ps:List Pl}(h:Ig (Ks l p0) ps)(sc:Int)(e:En):Ig (Ks l p0) (DC l sc ps e):=by
 unfold DC;split
 ·rename_i hc;refine h.fresh (au _ ?_);have a:(AQ l e.name true).1∈[] :: l.map En.name:=by
   rcases find_in hc with h|h
   ·rw[h];exact ai ..
   ·obtain⟨x,hx,b⟩:=dx.1 h;exact au _ (bG.2 ⟨x,hx,by simpa using b⟩)
  unfold Ie;split
  ·exact dM _ (bG.2 ⟨_,a,rfl⟩)
  ·exact bw _ (bG.2 ⟨_,a,rfl⟩)
 ·exact h
theorem Ig.leads{l:List En}{p0:Pl}(sc:Int):∀(es:List En) {ps:List Pl},Ig (Ks l p0) ps->Ig (Ks l p0) (es.foldl (DC l sc) ps)
 |[],_,h=>h
 |e :: es,_,h=>by rw[List.foldl_cons];exact Ig.leads sc es (h.lead sc e)
theorem UN{l:List En}{dr:Bool}{p:Pl}:∀k,Ig (Ks l p) (stS l dr [p] k).1
 |0=>⟨by simp[stS],λq a=>by simp[stS] at a;subst a;exact ai ..⟩
 |k+1=>by
  rw[stS];split
  ·exact(UN k).leads _ _
  ·exact UN k
theorem st_len{l:List En}{dr:Bool}{p:Pl}(k:Nat):(stS l dr [p] k).1.length<=2*l.length+3:=by rw[<-AfP l p];exact(UN k).len
theorem Re{l:List En}{dr:Bool}{ps:List Pl}:∀k,∀e∈(stS l dr ps k).2,e∈l
 |0,e,h=>by simp[stS] at h
 |k+1,e,h=>by
  rw[stS] at h;split at h
  ·rcases bB.1 h with h|h
   ·exact Re k e h
   ·have h:=Be h;unfold AO at h;split at h
    ·exact Be h
    ·cases h
  ·exact Re k e h
theorem TI{l:List En}{p:Pl}(k:Nat):stS l false [p] (k+1)=([p],AO l p.1 p.2):=by
 have c:∀q e,GG false q e=false:=λ_ _=>rfl;have b:∀ps q,Kq l false ps q=ps:=λps q=>by unfold Kq;rw[List.filter_eq_nil_iff.2 (λe _=>by rw[c];simp)];rfl
 have a:∀q,Gg l false q=AO l q.1 q.2:=λq=>by unfold Gg;rw[List.filter_eq_self.2 (λe _=>by rw[c];rfl)]
 induction k with
 |zero=>
  rw[Zj (k:=0) (by exact Nat.zero_lt_one)];show (Kq l false [p] p,[]++Gg l false p)=_
  rw[b,a,List.nil_append]
 |succ k d=>rw[stS,d];rfl
theorem AfQ(l:List En)(p:Pl):PS l false [p] 1:=by
 refine⟨by rw[TI];exact aA _,λk hk=>?_⟩;have:k=0:=by omega
 subst this;exact dW _
def Ht(size:Int)(xs:List En):Int×List En:=if 0<size/\size<xs.length then(4,xs.take size.toNat) else(0,xs)
theorem Ae3(xs:List En):Ht 0 xs=(0,xs):=by unfold Ht;rw[aG (by omega)]
theorem AgG{n:Nat}{xs:List En}(h:n=0\/xs.length<=n):Ht n xs=(0,xs):=by unfold Ht;rw[aG (by omega)]
theorem AfR{n:Nat}{xs:List En}(h0:n≠0)(h:n<xs.length):Ht n xs=(4,xs.take n):=by unfold Ht;rw[aJ (by omega)];rfl
end SeS
end
