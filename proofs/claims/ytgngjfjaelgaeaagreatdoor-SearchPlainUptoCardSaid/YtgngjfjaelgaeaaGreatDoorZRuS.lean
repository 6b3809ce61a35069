/- Plain laws of types and values: no program. Conditions: as stated. -/
import Derived.WalkKit
import Derived.Lib.Hide
import Derived.Lib.Join
import Derived.Lib.Replace
import Derived.Test.YtgngjfjaelgaeaaGreatDoorZPhS
namespace Go.Proofs.YtgngjfjaelgaeaaGreatDoor.RuS
def Aaw(c:UInt8):Bool:=decide (65<=c.toNat/\c.toNat<=90)
def lowC(c:UInt8):UInt8:=if Aaw c then c+32 else c
def lower(l:iK):iK:=l.map lowC
theorem lower_length(l:iK):(lower l).length=l.length:=by simp[lower]
theorem Aew{c:UInt8}(h1:65<=c.toNat)(h2:c.toNat<=90):lowC c=c+32:=by unfold lowC Aaw;rw[aJ (aI ⟨h1,h2⟩)]
theorem lowC_no{c:UInt8}(h:¬(65<=c.toNat/\c.toNat<=90)):lowC c=c:=by unfold lowC Aaw;rw[aG (by simpa using h)]
theorem lowC_toNat{c:UInt8}(h1:65<=c.toNat)(h2:c.toNat<=90):(lowC c).toNat=c.toNat+32:=by
 rw[Aew h1 h2,UInt8.toNat_add];show (c.toNat+32) % 256=_
 omega
theorem AcC(c:UInt8):lowC (lowC c)=lowC c:=by
 by_cases h:65<=c.toNat/\c.toNat<=90
 ·have e:=lowC_toNat h.1 h.2;exact lowC_no (c:=lowC c) (by omega)
 ·rw[lowC_no h,lowC_no h]
def half(l:iK)(k:Nat):iK:=lower (l.take k)++l.drop k
theorem half_zero(l:iK):half l 0=l:=by simp[half,lower]
theorem half_all(l:iK){k:Nat}(h:l.length<=k):half l k=lower l:=by unfold half;rw[af h,dI h,bK]
theorem half_length(l:iK)(k:Nat):(half l k).length=l.length:=by simp[half,lower];omega
theorem half_at(l:iK)(k:Nat)(h:k<l.length):(half l k)[k]'(by rw[half_length];exact h)=l[k]:=by unfold half;rw[List.getElem_append_right (by simp[lower];omega)];simp[lower,Nat.min_eq_left (Nat.le_of_lt h)]
theorem half_succ(l:iK)(k:Nat)(h:k<l.length):half l (k+1)=(half l k).set k (lowC l[k]):=by
 unfold half;have a:(lower (l.take k)).length=k:=by simp[lower];omega
 rw[aW h,dm _ _ (by omega),a,eZ,av h,aL];unfold lower;rw[bQ,bL];rfl
theorem half_keep(l:iK)(k:Nat)(h:k<l.length)(hc:lowC l[k]=l[k]):half l (k+1)=half l k:=by
 rw[half_succ l k h,hc]
 conv=>lhs;rw[<-half_at l k h]
 exact gI _
def tabRow:Nat->List iK
 |1=>[[111,98,106,101,99,116,67,108,97,115,115],[99,110],[111,117],[111],[100,99],[117,105,100],[100,101,115,99,114,105,112,116,105,111,110],[109,97,105,108]]
 |2=>[[117,115,101,114,80,97,115,115,119,111,114,100],[114,101,102]]
 |3=>[[115,101,114,105,97,108,78,117,109,98,101,114]]
 |4=>[[112,111,115,105,116,105,111,110]]
 |5=>[[97,108,105,97,115,101,100,79,98,106,101,99,116,78,97,109,101],[109,101,109,98,101,114]]
 |_=>[]
def tab:List (iK×iK×Int):=[
 ([111,98,106,101,99,116,99,108,97,115,115],[111,98,106,101,99,116,67,108,97,115,115],1),
 ([99,110],[99,110],1),
 ([111,117],[111,117],1),
 ([111],[111],1),
 ([100,99],[100,99],1),
 ([117,105,100],[117,105,100],1),
 ([100,101,115,99,114,105,112,116,105,111,110],[100,101,115,99,114,105,112,116,105,111,110],1),
 ([109,97,105,108],[109,97,105,108],1),
 ([117,115,101,114,112,97,115,115,119,111,114,100],[117,115,101,114,80,97,115,115,119,111,114,100],2),
 ([114,101,102],[114,101,102],2),
 ([115,101,114,105,97,108,110,117,109,98,101,114],[115,101,114,105,97,108,78,117,109,98,101,114],3),
 ([112,111,115,105,116,105,111,110],[112,111,115,105,116,105,111,110],4),
 ([97,108,105,97,115,101,100,111,98,106,101,99,116,110,97,109,101],[97,108,105,97,115,101,100,79,98,106,101,99,116,78,97,109,101],5),
 ([109,101,109,98,101,114],[109,101,109,98,101,114],5)]
def typeM(m:iK):iK×Int:=match tab.find? (λr=>m==r.1) with
 |some r=>r.2
 |none=>([],0)
def typeOf(l:iK):iK×Int:=typeM (lower l)
theorem Aex:∀k:Fin 6,∀t∈tabRow k.val,typeM (lower t)=(t,(k.val:Int)):=by decide+kernel
theorem typeM_hit{k:Nat}{t m:iK}(hk:k<6)(a:t∈tabRow k)(h:lower t=m):typeM m=(t,(k:Int)):=by rw[<-h];exact Aex ⟨k,hk⟩ t a
theorem AgB:∀r∈tab,∃k:Fin 6,∃t∈tabRow k.val,lower t=r.1:=by decide+kernel
theorem typeM_none{m:iK}(h:∀k,k<6->∀t∈tabRow k,¬lower t=m):typeM m=([],0):=by
 unfold typeM;have:tab.find? (λr=>m==r.1)=none:=by rw[List.find?_eq_none];intro r d b;obtain⟨k,t,a,c⟩:=AgB r d;exact h k.val k.isLt t a (by rw[c];exact(ag.1 b).symm)
 rw[this]
theorem tab_all:∀r∈tab,0<=r.2.2/\r.2.2<=5/\r.2.1.length<=17/\1<=r.2.2/\1<=r.2.1.length:=by decide+kernel
theorem typeM_all(m:iK):(typeM m=([],0))\/(1<=(typeM m).2/\(typeM m).2<=5/\1<=(typeM m).1.length/\(typeM m).1.length<=17):=by
 unfold typeM;cases h:tab.find? (λr=>m==r.1) with
 |none=>exact .inl rfl
 |some r=>have:=tab_all r (dP h);exact .inr ⟨this.2.2.2.1,this.2.1,this.2.2.2.2,this.2.2.1⟩
def pieces(c:UInt8):iK->List iK
 |[]=>[[]]
 |b :: l=>if b=c then [] :: pieces c l else match pieces c l with
  |p :: ps=>(b :: p) :: ps
  |[]=>[[b]]
theorem pieces_ne(c:UInt8)(l:iK):∃p ps,pieces c l=p :: ps:=by
 cases l with
 |nil=>exact⟨_,_,rfl⟩
 |cons b l=>
  unfold pieces;by_cases h:b=c
  ·rw[aJ h];exact⟨_,_,rfl⟩
  ·rw[aG h];cases pieces c l with
   |nil=>exact⟨_,_,rfl⟩
   |cons p ps=>exact⟨_,_,rfl⟩
theorem index_cons_eq(c:UInt8)(l:iK):Lib.index (c :: l) [c]=0:=by rw[Lib.index];simp[List.isPrefixOf]
theorem index_cons_ne{b c:UInt8}(h:b≠c)(l:iK):Lib.index (b :: l) [c]=if Lib.index l [c]==-1 then -1 else Lib.index l [c]+1:=by
 rw[Lib.index];have hp:([c]:iK).isPrefixOf (b :: l)=false:=by simp[List.isPrefixOf,Ne.symm h]
 rw[hp];simp
theorem split_pieces(c:UInt8):∀l:iK,Lib.split l [c]=pieces c l
 |[]=>by unfold Lib.split;rw[Lib.count_miss (by simp[Lib.index])];rfl
 |b :: l=>by
  have e:=split_pieces c l;unfold Lib.split at e⊢;by_cases h:b=c
  ·subst h;rw[Lib.count_cons_eq,eo,Lib.splitK,index_cons_eq,aG (by decide)];simp only[pieces,aJ];rw[<-e];rfl
  ·rw[Lib.count_cons_ne b c l h];simp only[pieces,aG h];rw[<-e];have d:=index_cons_ne h l;by_cases g:Lib.index l [c]=-1
   ·rw[Lib.count_miss g];rfl
   ·have k:=Lib.index_ge l [c];obtain⟨j,f⟩:∃j:Nat,Lib.index l [c]=j:=⟨(Lib.index l [c]).toNat,by omega⟩
    rw[Lib.count_hit (by simp) f,eo,Lib.splitK,Lib.splitK,d];have a:(Lib.index l [c]==-1)=false:=by simpa using g
    rw[a];simp only[bP,cH,f];have h2:¬((((j:Nat):Int)+1==-1)=true):=by simp;omega
    rw[aG h2];have i:(((j:Nat):Int)+1).toNat=j+1:=by omega
    rw[i];simp
theorem JZ(c:UInt8):∀l:iK,pieces c (l++[c])=pieces c l++[[]]
 |[]=>by simp[pieces]
 |b :: l=>by
  have a:=JZ c l;rw[List.cons_append];unfold pieces;by_cases h:b=c
  ·rw[aJ h,aJ h,a];rfl
  ·rw[aG h,aG h,a];obtain⟨p,ps,hp⟩:=pieces_ne c l;rw[hp];rfl
theorem IW(c:UInt8){d:UInt8}(hd:d≠c):∀l:iK,∃X q,pieces c l=X++[q]/\pieces c (l++[d])=X++[q++[d]]/\(∀x∈q,x≠c)/\(q=[]->l=[]\/l.getLast?=some c)/\(l.getLast?=some c->q=[])
 |[]=>⟨[],[],rfl,by simp[pieces,hd],by simp,λ_=>.inl rfl,λ_=>rfl⟩
 |b :: l=>by
  obtain⟨X,q,h1,h2,h3,h4,h5⟩:=IW c hd l;by_cases h:b=c
  ·refine⟨[] :: X,q,?_,?_,h3,?_,?_⟩
   ·simp only[pieces,aJ h,h1];rfl
   ·rw[List.cons_append];simp only[pieces,aJ h,h2];rfl
   ·intro e;rcases h4 e with h|g
    ·subst h;right;rw[h];rfl
    ·right;cases l with
     |nil=>cases g
     |cons a l=>rw[dA];exact g
   ·intro f;cases l with
    |nil=>cases X with
     |nil=>simp[pieces] at h1;first|exact h1|exact h1.symm
     |cons x X=>simp[pieces] at h1
    |cons a l=>rw[dA] at f;exact h5 f
  ·cases X with
   |nil=>
    refine⟨[],b :: q,?_,?_,?_,?_,?_⟩
    ·simp only[pieces,aG h,h1];rfl
    ·rw[List.cons_append];simp only[pieces,aG h,h2];rfl
    ·intro x hx;rcases ay.1 hx with rfl|hx
     ·exact h
     ·exact h3 x hx
    ·intro e;cases e
    ·intro f;cases l with
     |nil=>rw[List.getLast?_singleton] at f;exact absurd (aU f) h
     |cons a l=>
      rw[dA] at f;have k:c∈a :: l:=gV f;have j:∀(l:iK) (q:iK),pieces c l=[q]->(∀x∈l,x≠c):=by
       intro l
       induction l with
       |nil=>intro q _ x hx;cases hx
       |cons y l m=>
        intro q e x hx;unfold pieces at e;by_cases i:y=c
        ·rw[aJ i] at e;obtain⟨p,ps,hp⟩:=pieces_ne c l;rw[hp] at e;simp at e
        ·rw[aG i] at e;obtain⟨p,ps,hp⟩:=pieces_ne c l;rw[hp] at e;simp only[cG] at e;rcases ay.1 hx with rfl|hx
         ·exact i
         ·exact m p (by rw[hp,e.2]) x hx
      exact absurd rfl (j _ _ h1 c k)
   |cons x X=>
    refine⟨(b :: x) :: X,q,?_,?_,h3,?_,?_⟩
    ·simp only[pieces,aG h,h1];rfl
    ·rw[List.cons_append];simp only[pieces,aG h,h2];rfl
    ·intro e;rcases h4 e with g|g
     ·subst g;simp[pieces] at h1
     ·right;cases l with
      |nil=>cases g
      |cons a l=>rw[dA];exact g
    ·intro f;cases l with
     |nil=>simp[pieces] at h1
     |cons a l=>rw[dA] at f;exact h5 f
def wordsL(l:iK):List iK:=(pieces 32 l).filter (λp=>!p.isEmpty)
def textS(l:iK):iK:=Lib.join (wordsL (lower l)) [32]
def gapB(l:iK):Bool:=l.getLast?==some 32
theorem wordsL_blank(l:iK):wordsL (l++[32])=wordsL l:=by unfold wordsL;rw[JZ,bi];simp
theorem IR(X:List iK)(y:iK):Lib.join (X++[y]) [32]=if X.isEmpty then y else Lib.join X [32]++[32]++y:=by
 cases X with
 |nil=>simp[Lib.join_one]
 |cons x X=>
  simp only[List.isEmpty_cons,bP,cH];unfold Lib.join List.intercalate
  induction X generalizing x with
  |nil=>simp[List.intersperse]
  |cons z Z a=>have:=a z;simp only[List.cons_append,List.intersperse_cons_cons,List.flatten_cons,bL] at this⊢;rw[this]
theorem RN(X:List iK)(q:iK)(d:UInt8):Lib.join (X++[q++[d]]) [32]=Lib.join (X++[q]) [32]++[d]:=by rw[IR,IR];split<;>simp
theorem wordsL_letter(l:iK){d:UInt8}(hd:d≠32):Lib.join (wordsL (l++[d])) [32]=Lib.join (wordsL l) [32]++(if(gapB l&&!(Lib.join (wordsL l) [32]).isEmpty)=true then [32] else [])++[d]:=by
 obtain⟨X,q,h1,h2,h3,h4,h5⟩:=IW 32 hd l;unfold wordsL;rw[h1,h2,bi,bi];have n:[q++[d]].filter (λp=>!p.isEmpty)=[q++[d]]:=by simp
 rw[n];by_cases f:q=[]
 ·subst f;have c:([[]]:List iK).filter (λp=>!p.isEmpty)=[]:=rfl;rw[c,bK,List.nil_append,IR];generalize k:X.filter (λp=>!p.isEmpty)=Y;have j:∀y∈Y,y≠[]:=by intro y b;rw[<-k] at b;have:=(cf.1 b).2;intro e;subst e;simp at this
  cases Y with
  |nil=>simp[Lib.join_nil]
  |cons y Y=>
   have i:(Lib.join (y :: Y) [32]).isEmpty=false:=by
    have b:=j y (ai);cases y with
    |nil=>exact absurd rfl b
    |cons a y=>
     cases Y with
     |nil=>rw[Lib.join_one];rfl
     |cons z Z=>unfold Lib.join List.intercalate;simp
   have g:gapB l=true:=by
    rcases h4 rfl with h|h
    ·subst h;cases X with
     |nil=>simp at k
     |cons x X=>simp[pieces] at h1
    ·unfold gapB;rw[h];rfl
   rw[g,i];simp
 ·have c:[q].filter (λp=>!p.isEmpty)=[q]:=by cases q with
   |nil=>exact absurd rfl f
   |cons a q=>rfl
  rw[c,RN];have g:gapB l=false:=by
   unfold gapB;cases m:(l.getLast?==some 32) with
   |false=>rfl
   |true=>exact absurd (h5 (ag.1 m)) f
  rw[g];simp
end Go.Proofs.YtgngjfjaelgaeaaGreatDoor.RuS
namespace Go.Proofs.YtgngjfjaelgaeaaGreatDoor.RuS
open Go.Lib
theorem KZ(u:Nat)(hu:u<1000000000000000000):parseUintB 64 (decDigits u)=.ok u:=by unfold parseUintB;rw[aG (PhS.decDigits_ne u)];have h:=PhS.parseUintM_ok (2 ^ 64-1) (decDigits u) 0 (PhS.decDigits_dig u) (by rw[PhS.valFrom_dec];omega) (by decide) (by rw[PhS.valFrom_dec];omega);rw[PhS.valFrom_dec] at h;exact h
theorem parse64_itoa(n:Int)(b:n.natAbs<1000000000000000000):parseIntB 64 (itoa n)=.ok n:=by
 by_cases h:n<0
 ·rw[PhS.itoa_neg h];unfold parseIntB;have e:(45:UInt8).toNat=45:=rfl;simp only[e,iJ,bZ,KZ n.natAbs b,not_true,gj,cH,iH];rw[aG (by omega)];congr 1;omega
 ·rw[PhS.itoa_nonneg (by omega)];have hd:=PhS.decDigits_dig n.toNat;have hp:=KZ n.toNat (by omega);cases a:decDigits n.toNat with
  |nil=>exact absurd a (PhS.decDigits_ne _)
  |cons c r=>
   have hc:=hd c (by rw[a];exact ai);rw[a] at hp;unfold parseIntB;have h1:¬(c.toNat=43\/c.toNat=45):=by omega
   have h2:¬(c.toNat=45):=by omega
   simp only[aG h1,hp];rw[aG (λh=>by have:=h.2;omega),aG (λh=>h2 h.1),aG h2];congr 1;omega
theorem Wx{k:Nat}(h:k<=18):10 ^ k<=1000000000000000000:=bh (n:=10) (by decide) h
theorem UL(u:Nat):(decDigits u).length<=18↔u<1000000000000000000:=by
 rw[decDigits_length];constructor
 ·intro h;have:=lt_pow_nDigits u;have:=Wx h;omega
 ·intro h;have:=PhS.nDigits_le 17 u h;omega
def intS(l:iK):Option Int:=match parseIntB 64 l with
 | .ok n=>if(itoa n==l)&&decide ((trimPrefix l [45]).length<=18) then some n else none
 |_=>none
theorem Tq(n:Int):trimPrefix (itoa n) [45]=decDigits n.natAbs:=by
 unfold trimPrefix hasPrefix;by_cases h:n<0
 ·rw[PhS.itoa_neg h];simp[List.isPrefixOf]
 ·rw[PhS.itoa_nonneg (by omega)];have hd:=PhS.decDigits_dig n.toNat;cases a:decDigits n.toNat with
  |nil=>exact absurd a (PhS.decDigits_ne _)
  |cons c r=>
   have hc:=hd c (by rw[a];exact ai);have:([45]:iK).isPrefixOf (c :: r)=false:=by simp[List.isPrefixOf];intro e;subst e;simp at hc
   rw[this,<-a];simp only[bP,cH];congr 1;omega
theorem intS_iff{l:iK}{n:Int}:intS l=some n↔itoa n=l/\n.natAbs<1000000000000000000:=by
 constructor
 ·intro h;unfold intS at h;split at h
  ·rename_i m a;split at h
   ·rename_i hc;have:=aU h;subst this;rw[bC] at hc;have h1:=ag.1 hc.1;have h2:=b7 hc.2;subst h1;rw[Tq,UL] at h2;exact⟨rfl,h2⟩
   ·cases h
  ·cases h
 ·rintro⟨rfl,h⟩;unfold intS;rw[parse64_itoa n h];simp only;rw[Tq,aJ];simp only[eX,cy,az];exact(UL _).2 h
theorem Za:∀(n:Nat) (d:iK),d.length=n->d.all PhS.isDig=true->d≠[]->(d.head?≠some 48\/d.length=1)->decDigits (PhS.valFrom 0 d)=d:=by
 intro n
 induction n with
 |zero=>intro d k _ g;exact absurd (aY k) g
 |succ n q=>
  intro d k f g j;obtain⟨b,c,rfl⟩:∃b c,d=b++[c]:=⟨d.dropLast,d.getLast g,(fE g).symm⟩
  rw[PhS.valFrom_snoc];rw[dL,bC] at f;have hc:48<=c.toNat/\c.toNat<=57:=by have:=f.2;simp[PhS.isDig] at this;exact this
  have i:UInt8.ofNat (48+(c.toNat-48))=c:=by apply cd.1;rw[bz];omega
  by_cases h0:b=[]
  ·subst h0;simp only[PhS.valFrom,List.foldl_nil,cN,bv,List.nil_append];rw[decDigits,gw (by omega),i]
  ·have h:b.head?≠some 48:=by
    rcases j with j|j
    ·cases b with
     |nil=>exact absurd rfl h0
     |cons a r=>exact j
    ·cases b with
     |nil=>exact absurd rfl h0
     |cons a r=>simp at j
   have e:=q b (by simp at k;exact k) f.1 h0 (.inl h);have m:1<=PhS.valFrom 0 b:=by
    rcases bU (PhS.valFrom 0 b) with l|l
    ·rw[l] at e;have:decDigits 0=[48]:=by decide+kernel
     rw[this] at e;rw[<-e] at h;exact absurd rfl h
    ·exact l
   rw[decDigits,iI (by omega)];have p:(PhS.valFrom 0 b*10+(c.toNat-48)) / 10=PhS.valFrom 0 b:=by omega
   have o:(PhS.valFrom 0 b*10+(c.toNat-48)) % 10=c.toNat-48:=by omega
   rw[p,o,e,i]
def intR(l:iK):Option Int:=
 let neg:Bool:=l.head?==some 45
 let d:=if neg then l.tail else l
 if d.length<1\/18<d.length\/(d.head?=some 48/\(1<d.length\/neg=true))\/d.all PhS.isDig=false then none
 else some (if neg then -(PhS.valFrom 0 d:Int) else PhS.valFrom 0 d)
theorem val18{d:iK}(h:d.all PhS.isDig=true)(a:d.length<=18):PhS.valFrom 0 d<1000000000000000000:=by have h1:=PhS.valFrom_lt d h;have h2:=Wx a;omega
theorem OU(u:Nat):(decDigits u).head?=some 48->u=0:=by
 intro h;have i:=PhS.valFrom_dec u;rcases bU u with h0|h0
 ·exact h0
 ·exfalso;have key:∀(n u:Nat),(decDigits u).length=n->0<u->(decDigits u).head?≠some 48:=by
   intro n
   induction n with
   |zero=>intro u b;exact absurd (aY b) (PhS.decDigits_ne u)
   |succ n f=>
    intro u b hu;by_cases h10:u<10
    ·rw[decDigits_one h10];intro e;have d:=aU e;have g:=congrArg UInt8.toNat d;rw[bz] at g;have:(48:UInt8).toNat=48:=rfl;omega
    ·rw[decDigits,iI h10] at b⊢;have c:(decDigits (u / 10)).length=n:=by simpa using b
     have:=f (u / 10) c (by omega);cases hd:decDigits (u / 10) with
     |nil=>exact absurd hd (PhS.decDigits_ne _)
     |cons a r=>rw[hd] at this;exact this
  exact key _ u rfl h0 h
theorem Wy{l:iK}{n:Int}:intR l=some n↔itoa n=l/\n.natAbs<1000000000000000000:=by
 constructor
 ·intro h;unfold intR at h;generalize c:(l.head?==some 45)=neg at h;simp only at h;by_cases hc:((if neg=true then l.tail else l).length<1\/18<(if neg=true then l.tail else l).length\/((if neg=true then l.tail else l).head?=some 48/\(1<(if neg=true then l.tail else l).length\/neg=true))\/(if neg=true then l.tail else l).all PhS.isDig=false)
  ·rw[aJ hc] at h;cases h
  ·rw[aG hc] at h;have h:=aU h;rw[not_or,not_or,not_or] at hc;obtain⟨c1,c2,c3,c4⟩:=hc;have b:(if neg=true then l.tail else l).all PhS.isDig=true:=by simpa using c4
   clear c4;cases neg with
   |true=>
    simp only[bZ] at c1 c2 c3 b h;have i:l=45 :: l.tail:=by
     cases l with
     |nil=>cases c
     |cons a r=>have:=aU (ag.1 c);subst this;rfl
    have o:=val18 b (by omega);have h48:l.tail.head?≠some 48:=λe=>c3 ⟨e,.inr (by trivial)⟩;have d:l.tail≠[]:=by intro e;rw[e] at c1;simp at c1
    have hd:=Za _ l.tail rfl b d (.inl h48);have j:0<PhS.valFrom 0 l.tail:=by
     rcases bU (PhS.valFrom 0 l.tail) with f|f
     ·rw[f] at hd;have:decDigits 0=[48]:=by decide+kernel
      rw[this] at hd;rw[<-hd] at h48;exact absurd rfl h48
     ·exact f
    subst h;refine⟨?_,by omega⟩;rw[PhS.itoa_neg (by omega)];have e:(-(PhS.valFrom 0 l.tail:Int)).natAbs=PhS.valFrom 0 l.tail:=by omega
    rw[e,hd];exact i.symm
   |false=>
    simp only[bP,cH] at c1 c2 c3 b h;have o:=val18 b (by omega);have d:l≠[]:=by intro e;rw[e] at c1;simp at c1
    have m:l.head?≠some 48\/l.length=1:=by
     by_cases e:l.head?=some 48
     ·right;have:¬1<l.length:=λh=>c3 ⟨e,.inl h⟩;omega
     ·exact .inl e
    have hd:=Za _ l rfl b d m;subst h;refine⟨?_,by omega⟩;rw[PhS.itoa_nonneg (by omega)];exact hd
 ·rintro⟨rfl,h⟩;unfold intR;simp only;by_cases k:n<0
  ·rw[PhS.itoa_neg k];have g:((45 :: decDigits n.natAbs).head?==some 45)=true:=rfl;rw[g];simp only[bZ,List.tail_cons];have i:=(UL n.natAbs).2 h;have hp:=PhS.dec_pos n.natAbs;rw[aG]
   ·rw[PhS.valFrom_dec];congr 1;omega
   ·rintro (h1|h1|⟨h1,_⟩|h1)
    ·omega
    ·omega
    ·have:=OU _ h1;omega
    ·rw[PhS.dec_all] at h1;cases h1
  ·rw[PhS.itoa_nonneg (by omega)];have g:((decDigits n.toNat).head?==some 45)=false:=by
    rw[aV];exact PhS.head_dec _
   rw[g];simp only[bP,cH];have i:=(UL n.toNat).2 (by omega);have hp:=PhS.dec_pos n.toNat;rw[aG]
   ·rw[PhS.valFrom_dec];congr 1;omega
   ·rintro (h1|h1|⟨h1,h2⟩|h1)
    ·omega
    ·omega
    ·have h0:=OU _ h1;rw[h0] at h2;rcases h2 with h2|h2
     ·have:decDigits 0=[48]:=by decide+kernel
      rw[this] at h2;simp at h2
     ·cases h2
    ·rw[PhS.dec_all] at h1;cases h1
theorem intR_eq(l:iK):intR l=intS l:=by
 cases h:intR l with
 |some n=>exact(intS_iff.2 (Wy.1 h)).symm
 |none=>
  cases h2:intS l with
  |none=>rfl
  |some n=>rw[Wy.2 (intS_iff.1 h2)] at h;cases h
theorem gap_snoc(l:iK)(d:UInt8):gapB (l++[d])=(d==32):=by unfold gapB;simp
theorem WA{P:iK->Prop}(h0:P [])(h1:∀l d,P l->P (l++[d])):∀l,P l:=by
 intro l;have:∀(n:Nat) (l:iK),l.length=n->P l:=by
  intro n
  induction n with
  |zero=>intro l a;rw[aY a];exact h0
  |succ n c=>
   intro l a;have b:l≠[]:=by intro e;rw[e] at a;cases a
   rw[<-fE b];exact h1 _ _ (c _ (by simp[a]))
 exact this _ l rfl
theorem joinW_le(l:iK):(Lib.join (wordsL l) [32]).length+(if gapB l=true then 1 else 0)<=l.length:=by
 refine WA (P:=λl=>(Lib.join (wordsL l) [32]).length+(if gapB l=true then 1 else 0)<=l.length) (by decide) (λl d a=>?_) l;rw[gap_snoc];by_cases hd:d=32
 ·subst hd;rw[wordsL_blank];simp;omega
 ·rw[wordsL_letter l hd];have:(d==32)=false:=by simpa using hd
  rw[this];simp only[aT,bE,bP,cH];by_cases b:gapB l=true
  ·rw[b] at a⊢;simp only[bZ,cy] at a⊢;split<;>simp<;>omega
  ·have b:gapB l=false:=by simpa using b
   rw[b] at a⊢;simp at a⊢;omega
theorem textS_le(l:iK):(textS l).length<=l.length:=by have:=joinW_le (lower l);rw[lower_length] at this;unfold textS;omega
theorem Tt(c:UInt8)(hc:c≠32)(l:iK):c∈Lib.join (wordsL l) [32]↔c∈l:=by
 refine WA (P:=λl=>c∈Lib.join (wordsL l) [32]↔c∈l) (by simp[wordsL,pieces,Lib.join_nil]) (λl d a=>?_) l;by_cases hd:d=32
 ·subst hd;rw[wordsL_blank,a];simp[hc]
 ·rw[wordsL_letter l hd,bB,bB,bB,a];constructor
  ·rintro ((h|h)|h)
   ·exact .inl h
   ·split at h
    ·simp at h;exact absurd h hc
    ·cases h
   ·exact .inr h
  ·rintro (h|h)
   ·exact .inl (.inl h)
   ·exact .inr h
theorem lower_zero(l:iK):(0:UInt8)∈lower l↔(0:UInt8)∈l:=by
 unfold lower;rw[bG];constructor
 ·rintro⟨c,hc,h⟩;by_cases a:65<=c.toNat/\c.toNat<=90
  ·have:=lowC_toNat a.1 a.2;rw[h] at this;have e:(0:UInt8).toNat=0:=rfl;omega
  ·rw[lowC_no a] at h;rw[<-h];exact hc
 ·intro h;exact⟨0,h,by decide⟩
theorem textS_zero(l:iK):(0:UInt8)∈textS l↔(0:UInt8)∈l:=by unfold textS;rw[Tt 0 (by decide),lower_zero]
theorem indexByte_none(l:iK)(c:UInt8):Lib.indexByte l c<0↔¬c∈l:=by
 induction l with
 |nil=>simp[Lib.indexByte]
 |cons b l f=>
  unfold Lib.indexByte;by_cases h:b=c
  ·subst h;simp
  ·have j:(b==c)=false:=by simpa using h
   rw[j];simp only[bP,cH,ay];have k:=Lib.indexByte_ge l c;by_cases d:Lib.indexByte l c=-1
   ·rw[d];simp;rw[d] at f;exact⟨λe=>h e.symm,f.1 (by decide)⟩
   ·have a:(Lib.indexByte l c==-1)=false:=by simpa using d
    rw[a];simp only[bP,cH];have:¬Lib.indexByte l c<0:=by omega
    constructor
    ·intro h;omega
    ·intro g;exfalso;exact this (f.2 (λi=>g (.inr i)))
def hasNul(l:iK):Bool:=decide ((0:UInt8)∈l)
def normV(syn:Int)(v:iK):Option iK:=
 if syn=1 then(if(textS v).isEmpty||hasNul v then none else some (textS v))
 else if syn=3 then(if(intS v).isSome then some v else none)
 else if syn=4 then(if(PhS.parseP v).isSome then some v else none)
 else some v
def normalR(a:Int)(v:iK):iK×Int:=
 if a=0 then([],5) else if a=5 then([],1) else if v.length<1\/200<v.length then([],2)
 else match normV a v with
  |none=>([],2)
  |some s=>(s,0)
def normal(name v:iK):iK×Int:=normalR (typeOf name).2 v
end Go.Proofs.YtgngjfjaelgaeaaGreatDoor.RuS
namespace Go.Proofs.YtgngjfjaelgaeaaGreatDoor.RuS
open Go.Lib
theorem u8_lt{a b:UInt8}:a<b↔a.toNat<b.toNat:=UInt8.lt_iff_toNat_lt
theorem compare_self:∀l:iK,compareBytes l l=0
 |[]=>rfl
 |a :: l=>by unfold compareBytes;rw[aG (by rw[u8_lt];omega),aG (by rw[u8_lt];omega)];exact compare_self l
theorem compare_swap:∀x y:iK,compareBytes y x=-compareBytes x y
 |[],[]=>rfl
 |[],_ :: _=>rfl
 |_ :: _,[]=>rfl
 |a :: x,b :: y=>by
  have c:=compare_swap x y;unfold compareBytes;by_cases h1:a<b
  ·have:¬b<a:=by rw[u8_lt] at h1⊢;omega
   rw[aG this,aJ h1,aJ h1];rfl
  ·by_cases h2:b<a
   ·rw[aJ h2,aG h1,aJ h2]
   ·rw[aG h2,aG h1,aG h1,aG h2];exact c
theorem compare_zero:∀x y:iK,compareBytes x y=0↔x=y
 |[],[]=>by simp[compareBytes]
 |[],_ :: _=>by simp[compareBytes]
 |_ :: _,[]=>by simp[compareBytes]
 |a :: x,b :: y=>by
  have c:=compare_zero x y;unfold compareBytes;by_cases h1:a<b
  ·rw[aJ h1];have:a≠b:=by intro e;subst e;rw[u8_lt] at h1;omega
   simp[this]
  ·by_cases h2:b<a
   ·rw[aG h1,aJ h2];have:a≠b:=by intro e;subst e;rw[u8_lt] at h2;omega
    simp[this]
   ·rw[aG h1,aG h2,c];have:a=b:=by apply cd.1;rw[u8_lt] at h1 h2;omega
    simp[this]
theorem compare_range:∀x y:iK,-1<=compareBytes x y/\compareBytes x y<=1
 |[],[]=>by simp[compareBytes]
 |[],_ :: _=>by simp[compareBytes]
 |_ :: _,[]=>by simp[compareBytes]
 |a :: x,b :: y=>by
  have c:=compare_range x y;unfold compareBytes;split
  ·omega
  ·split<;>omega
theorem less_iff:∀x y:iK,Op.bytesLess x y=decide (compareBytes x y=-1)
 |[],[]=>by simp[compareBytes,Op.bytesLess]
 |[],_ :: _=>by simp[compareBytes,Op.bytesLess]
 |_ :: _,[]=>by simp[compareBytes,Op.bytesLess]
 |a :: x,b :: y=>by
  have c:=less_iff x y;unfold compareBytes Op.bytesLess;by_cases h1:a<b
  ·rw[aJ h1];simp[h1]
  ·rw[aG h1];by_cases h2:b<a
   ·rw[aJ h2];have:a≠b:=by intro e;subst e;rw[u8_lt] at h2;omega
    simp[h1,this]
   ·rw[aG h2,c];have:a=b:=by apply cd.1;rw[u8_lt] at h1 h2;omega
    subst this;simp
theorem eq_iff(x y:iK):(x==y)=decide (compareBytes x y=0):=by rw[bR,ag,az,compare_zero]
def bareL(l:iK):iK:=l.filter (λc=>c !=32)
theorem Ko(c:UInt8):∀l:iK,replaceK [c] [] (count l [c]) l=l.filter (λb=>b !=c)
 |[]=>by rw[count_miss (by simp[index])];rfl
 |b :: l=>by
  have a:=Ko c l;by_cases h:b=c
  ·subst h;rw[count_cons_eq,eo,replaceK_hit _ _ _ _ 0 (index_cons_eq b l)];simp;exact a
  ·rw[count_cons_ne b c l h];have hb:(b !=c)=true:=by simpa using h
   rw[eY,aJ hb];by_cases f:index l [c]=-1
   ·rw[count_miss f] at a⊢;rw[<-a];rfl
   ·have g:=index_ge l [c];obtain⟨j,e⟩:∃j:Nat,index l [c]=j:=⟨(index l [c]).toNat,by omega⟩
    have d:index (b :: l) [c]=((j+1:Nat):Int):=by
     rw[index_cons_ne h l,e];have:¬(((j:Nat):Int)==-1)=true:=λh=>by have:=ag.1 h;omega
     rw[aG this];omega
    rw[count_hit (by simp) e,eo] at a⊢;rw[replaceK_hit _ _ _ _ j e] at a;rw[replaceK_hit _ _ _ _ (j+1) d,<-a];simp
theorem replaceAll_bare(l:iK):replaceAll l [32] []=bareL l:=by unfold replaceAll replace replaceNum;rw[aG (by decide),aJ (.inl (by decide))];exact Ko 32 l
theorem NG(c:UInt8):∀w:iK,(∀x∈w,x≠c)->pieces c w=[w]
 |[],_=>rfl
 |b :: w,h=>by have a:=NG c w (λx hx=>h x (au _ hx));unfold pieces;rw[aG (h b ai),a]
theorem QU(c:UInt8)(r:iK):∀w:iK,(∀x∈w,x≠c)->pieces c (w++c :: r)=w :: pieces c r
 |[],_=>by simp[pieces]
 |b :: w,h=>by
  have a:=QU c r w (λx hx=>h x (au _ hx));rw[List.cons_append];have e:pieces c (b :: (w++c :: r))=if b=c then [] :: pieces c (w++c :: r) else match pieces c (w++c :: r) with
   |p :: ps=>(b :: p) :: ps
   |[]=>[[b]]:=rfl
  rw[e,aG (h b ai),a]
theorem MI(c:UInt8):∀(l:iK),∀p∈pieces c l,∀x∈p,x≠c
 |[],p,hp=>by simp[pieces] at hp;subst hp;simp
 |b :: l,p,hp=>by
  have a:=MI c l;unfold pieces at hp;by_cases h:b=c
  ·rw[aJ h] at hp;rcases ay.1 hp with rfl|hp
   ·simp
   ·exact a p hp
  ·rw[aG h] at hp;obtain⟨q,e,d⟩:=pieces_ne c l;rw[d] at hp a;simp only at hp;rcases ay.1 hp with rfl|hp
   ·intro x hx;rcases ay.1 hx with rfl|hx
    ·exact h
    ·exact a q ai x hx
   ·exact a p (au _ hp)
theorem join_cons_cons(x y:iK)(r:List iK)(s:iK):Lib.join (x :: y :: r) s=x++s++Lib.join (y :: r) s:=by unfold Lib.join List.intercalate;simp
theorem OV:∀ws:List iK,ws≠[]->(∀w∈ws,∀x∈w,x≠32)->pieces 32 (Lib.join ws [32])=ws
 |[],h,_=>absurd rfl h
 |[w],_,h=>by rw[Lib.join_one];exact NG 32 w (h w ai)
 |w :: v :: r,_,h=>by have a:=OV (v :: r) (by simp) (λx hx=>h x (au _ hx));rw[join_cons_cons,bL,List.singleton_append,QU 32 _ w (h w ai),a]
theorem Ya(l:iK):wordsL (Lib.join (wordsL l) [32])=wordsL l:=by
 by_cases h:wordsL l=[]
 ·rw[h];rfl
 ·have h1:∀w∈wordsL l,∀x∈w,x≠32:=λw a=>MI 32 l w ((cf.1 a).1);have h2:=OV (wordsL l) h h1;have h3:wordsL (Lib.join (wordsL l) [32])=(pieces 32 (Lib.join (wordsL l) [32])).filter (λp=>!p.isEmpty):=rfl;rw[h3,h2];unfold wordsL;rw[List.filter_filter];simp
theorem AcD{l:iK}(h:∀c∈l,lowC c=c):lower l=l:=by unfold lower;exact(cX h).trans (fF l)
theorem AcE(l:iK):∀c∈textS l,lowC c=c:=by
 intro c hc;by_cases h:c=32
 ·subst h;decide
 ·unfold textS at hc;rw[Tt c h] at hc;unfold lower at hc;obtain⟨d,_,rfl⟩:=bG.1 hc;exact AcC d
theorem Aax(l:iK):textS (textS l)=textS l:=by have h:textS (textS l)=Lib.join (wordsL (lower (textS l))) [32]:=rfl;rw[h,AcD (AcE l)];unfold textS;rw[Ya]
theorem normal_ok{nm v s:iK}(h:normal nm v=(s,0)):((typeOf nm).2=1\/(typeOf nm).2=2\/(typeOf nm).2=3\/(typeOf nm).2=4)/\1<=v.length/\v.length<=200/\normV (typeOf nm).2 v=some s:=by
 have b:=typeM_all (lower nm);have a:typeOf nm=([],0)\/(1<=(typeOf nm).2/\(typeOf nm).2<=5/\1<=(typeOf nm).1.length/\(typeOf nm).1.length<=17):=b;unfold normal normalR at h;by_cases h0:(typeOf nm).2=0
 ·rw[aJ h0] at h;injection h with _ h;cases h
 ·rw[aG h0] at h;by_cases h5:(typeOf nm).2=5
  ·rw[aJ h5] at h;injection h with _ h;cases h
  ·rw[aG h5] at h;by_cases c:v.length<1\/200<v.length
   ·rw[aJ c] at h;injection h with _ h;cases h
   ·rw[aG c] at h;cases d:normV (typeOf nm).2 v with
    |none=>rw[d] at h;injection h with _ h;cases h
    |some x=>
     rw[d] at h;injection h with h _;subst h;refine⟨?_,by omega,by omega,rfl⟩;rcases a with h|h
     ·rw[h] at h0;exact absurd rfl h0
     ·omega
theorem AcF{nm v s:iK}(h:(typeOf nm).2=1\/(typeOf nm).2=2\/(typeOf nm).2=3\/(typeOf nm).2=4)(h1:1<=v.length)(h2:v.length<=200)(h3:normV (typeOf nm).2 v=some s):normal nm v=(s,0):=by unfold normal normalR;rw[aG (by omega),aG (by omega),aG (by omega),h3]
theorem normV_same{a:Int}{v s:iK}(h1:a≠1)(h:normV a v=some s):s=v:=by
 unfold normV at h;rw[aG h1] at h;by_cases h3:a=3
 ·rw[aJ h3] at h;split at h
  ·exact(aU h).symm
  ·cases h
 ·rw[aG h3] at h;by_cases h4:a=4
  ·rw[aJ h4] at h;split at h
   ·exact(aU h).symm
   ·cases h
  ·rw[aG h4] at h;exact(aU h).symm
theorem OW{v s:iK}(h:normV 1 v=some s):s=textS v/\(textS v).isEmpty=false/\hasNul v=false:=by
 have h:(if(textS v).isEmpty||hasNul v then none else some (textS v))=some s:=h;cases h1:(textS v).isEmpty with
 |true=>rw[h1] at h;cases h
 |false=>
  cases h2:hasNul v with
  |true=>rw[h1,h2] at h;cases h
  |false=>rw[h1,h2] at h;exact⟨(aU h).symm,rfl,rfl⟩
theorem normal_idem{nm v s:iK}(h:normal nm v=(s,0)):normal nm s=(s,0):=by
 obtain⟨h1,h2,h3,h4⟩:=normal_ok h;by_cases e:(typeOf nm).2=1
 ·rw[e] at h4;obtain⟨rfl,g1,g2⟩:=OW h4;have g:=textS_le v;have c:1<=(textS v).length:=by
   cases f:textS v with
   |nil=>rw[f] at g1;cases g1
   |cons a b=>simp
  refine AcF h1 c (by omega) ?_;rw[e];show (if(textS (textS v)).isEmpty||hasNul (textS v) then none else some (textS (textS v)))=_
  have d:hasNul (textS v)=false:=by unfold hasNul at g2⊢;rw[bg] at g2⊢;rw[textS_zero];exact g2
  rw[Aax,g1,d];rfl
 ·have:=normV_same e h4;subst this;exact h
theorem Yb{nm v:iK}(h:(normal nm v).2≠0):(normal nm v).1=[]:=by
 unfold normal normalR at h⊢;split
 ·rfl
 ·split
  ·rfl
  ·split
   ·rfl
   ·rename_i a b c;rw[aG a,aG b,aG c] at h;split
    ·rfl
    ·rename_i x hx;rw[hx] at h;exact absurd rfl h
theorem normal_len(nm v:iK):(normal nm v).1.length<=200:=by
 by_cases h:(normal nm v).2=0
 ·have a:normal nm v=((normal nm v).1,0):=by rw[<-h]
  obtain⟨h1,h2,h3,h4⟩:=normal_ok a;by_cases e:(typeOf nm).2=1
  ·rw[e] at h4;obtain⟨b,_,_⟩:=OW h4;rw[b];have:=textS_le v;omega
  ·rw[normV_same e h4];exact h3
 ·rw[Yb h];simp
end Go.Proofs.YtgngjfjaelgaeaaGreatDoor.RuS
