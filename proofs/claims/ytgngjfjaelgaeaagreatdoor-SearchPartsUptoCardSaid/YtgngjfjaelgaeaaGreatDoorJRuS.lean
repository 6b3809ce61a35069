/- Plain laws of types and values: no program. Conditions: as stated. -/
import Derived.WalkKit
import Derived.Lib.Hide
import Derived.Lib.Join
import Derived.Lib.Replace
import Derived.Test.YtgngjfjaelgaeaaGreatDoorJPhS
namespace Go.Proofs.YtgngjfjaelgaeaaGreatDoor.RuS
def ZI (c:UInt8):Bool:=decide (65<=c.toNat/\c.toNat<=90)
def lowC (c:UInt8):UInt8:=if ZI c then c+32 else c
def lower (l:List UInt8):List UInt8:=l.map lowC
theorem lower_length (l:List UInt8):(lower l).length=l.length:=by simp [lower]
theorem AdF {c:UInt8} (h1:65<=c.toNat) (h2:c.toNat<=90):lowC c=c+32:=by unfold lowC ZI;rw [aP (aL ⟨h1,h2⟩)]
theorem lowC_no {c:UInt8} (h:¬(65<=c.toNat/\c.toNat<=90)):lowC c=c:=by unfold lowC ZI;rw [aG (by simpa using h)]
theorem lowC_toNat {c:UInt8} (h1:65<=c.toNat) (h2:c.toNat<=90):(lowC c).toNat=c.toNat+32:=by
 rw [AdF h1 h2,UInt8.toNat_add];show (c.toNat+32) % 256=_
 omega
theorem AbU (c:UInt8):lowC (lowC c)=lowC c:=by
 by_cases h:65<=c.toNat/\c.toNat<=90
 · have e:=lowC_toNat h.1 h.2;exact lowC_no (c:=lowC c) (by omega)
 · rw [lowC_no h,lowC_no h]
def half (l:List UInt8) (k:Nat):List UInt8:=lower (l.take k)++l.drop k
theorem half_zero (l:List UInt8):half l 0=l:=by simp [half,lower]
theorem half_all (l:List UInt8) {k:Nat} (h:l.length<=k):half l k=lower l:=by unfold half;rw [ag h,dW h,bJ]
theorem half_length (l:List UInt8) (k:Nat):(half l k).length=l.length:=by simp [half,lower];omega
theorem half_at (l:List UInt8) (k:Nat) (h:k<l.length):(half l k)[k]'(by rw [half_length];exact h)=l[k]:=by unfold half;rw [List.getElem_append_right (by simp [lower];omega)];simp [lower,cJ (dD h)]
theorem half_succ (l:List UInt8) (k:Nat) (h:k<l.length):half l (k+1)=(half l k).set k (lowC l[k]):=by
 unfold half;have a:(lower (l.take k)).length=k:=by simp [lower];omega
 rw [aX h,dJ _ _ (by omega),a,eD,av h,aN];unfold lower;rw [bP,bK];rfl
theorem half_keep (l:List UInt8) (k:Nat) (h:k<l.length) (hc:lowC l[k]=l[k]):half l (k+1)=half l k:=by
 rw [half_succ l k h,hc]
 conv=>lhs;rw [<-half_at l k h]
 exact fx _
def tabRow:Nat->List (List UInt8)
 | 1=>[[111,98,106,101,99,116,67,108,97,115,115],[99,110],[111,117],[111],[100,99],[117,105,100],[100,101,115,99,114,105,112,116,105,111,110],[109,97,105,108]]
 | 2=>[[117,115,101,114,80,97,115,115,119,111,114,100],[114,101,102]]
 | 3=>[[115,101,114,105,97,108,78,117,109,98,101,114]]
 | 4=>[[112,111,115,105,116,105,111,110]]
 | 5=>[[97,108,105,97,115,101,100,79,98,106,101,99,116,78,97,109,101],[109,101,109,98,101,114]]
 | _=>[]
def tab:List (List UInt8 × List UInt8 × Int):=[
 ([111,98,106,101,99,116,99,108,97,115,115],[111,98,106,101,99,116,67,108,97,115,115],1),
 ([99,110],[99,110],1),
 ([111,117],[111,117],1),
 ([111],[111],1),
 ([100,99],[100,99],1),
 ([117,105,100],[117,105,100],1),
 ([100,101,115,99,114,105,112,116,105,111,110],[100,101,115,99,114,105,112,116,105,111,110],1),
 ([109,97,105,108],[109,97,105,108],1),
 ([117,115,101,114,112,97,115,115,119,111,114,100],[117,115,101,114,80,97,115,115,119,111,114,100],2),
 ([114,101,102],[114,101,102],2),
 ([115,101,114,105,97,108,110,117,109,98,101,114],[115,101,114,105,97,108,78,117,109,98,101,114],3),
 ([112,111,115,105,116,105,111,110],[112,111,115,105,116,105,111,110],4),
 ([97,108,105,97,115,101,100,111,98,106,101,99,116,110,97,109,101],[97,108,105,97,115,101,100,79,98,106,101,99,116,78,97,109,101],5),
 ([109,101,109,98,101,114],[109,101,109,98,101,114],5)]
def typeM (m:List UInt8):List UInt8 × Int:=match tab.find? (fun r=>m==r.1) with
 | some r=>r.2
 | none=>([],0)
def typeOf (l:List UInt8):List UInt8 × Int:=typeM (lower l)
theorem AdG:∀k:Fin 6,∀t ∈ tabRow k.val,typeM (lower t)=(t,(k.val:Int)):=by decide+kernel
theorem typeM_hit {k:Nat} {t m:List UInt8} (hk:k<6) (a:t ∈ tabRow k) (h:lower t=m):typeM m=(t,(k:Int)):=by rw [<-h];exact AdG ⟨k,hk⟩ t a
theorem AfT:∀r ∈ tab,∃k:Fin 6,∃t ∈ tabRow k.val,lower t=r.1:=by decide+kernel
theorem typeM_none {m:List UInt8} (h:∀k,k<6->∀t ∈ tabRow k,¬lower t=m):typeM m=([],0):=by
 unfold typeM;have:tab.find? (fun r=>m==r.1)=none:=by rw [List.find?_eq_none];intro r b a;obtain ⟨k,t,d,c⟩:=AfT r b;exact h k.val k.isLt t d (by rw [c];exact (af.1 a).symm)
 rw [this]
theorem tab_all:∀r ∈ tab,0<=r.2.2/\r.2.2<=5/\r.2.1.length<=17/\1<=r.2.2/\1<=r.2.1.length:=by decide+kernel
theorem typeM_all (m:List UInt8):(typeM m=([],0))\/(1<=(typeM m).2/\(typeM m).2<=5/\1<=(typeM m).1.length/\(typeM m).1.length<=17):=by
 unfold typeM;cases h:tab.find? (fun r=>m==r.1) with
 | none=>exact .inl rfl
 | some r=>have:=tab_all r (dO h);exact .inr ⟨this.2.2.2.1,this.2.1,this.2.2.2.2,this.2.2.1⟩
def pieces (c:UInt8):List UInt8->List (List UInt8)
 | []=>[[]]
 | b :: l=>if b=c then [] :: pieces c l else match pieces c l with
  | p :: ps=>(b :: p) :: ps
  | []=>[[b]]
theorem pieces_ne (c:UInt8) (l:List UInt8):∃p ps,pieces c l=p :: ps:=by
 cases l with
 | nil=>exact ⟨_,_,rfl⟩
 | cons b l=>
  unfold pieces;by_cases h:b=c
  · rw [aP h];exact ⟨_,_,rfl⟩
  · rw [aG h];cases pieces c l with
    | nil=>exact ⟨_,_,rfl⟩
    | cons p ps=>exact ⟨_,_,rfl⟩
theorem index_cons_eq (c:UInt8) (l:List UInt8):Lib.index (c :: l) [c]=0:=by rw [Lib.index];simp [List.isPrefixOf]
theorem index_cons_ne {b c:UInt8} (h:b≠c) (l:List UInt8):Lib.index (b :: l) [c]=if Lib.index l [c]==-1 then -1 else Lib.index l [c]+1:=by
 rw [Lib.index];have hp:([c]:List UInt8).isPrefixOf (b :: l)=false:=by simp [List.isPrefixOf,Ne.symm h]
 rw [hp];simp
theorem split_pieces (c:UInt8):∀l:List UInt8,Lib.split l [c]=pieces c l
 | []=>by unfold Lib.split;rw [Lib.count_miss (by simp [Lib.index])];rfl
 | b :: l=>by
  have d:=split_pieces c l;unfold Lib.split at d⊢;by_cases h:b=c
  · subst h;rw [Lib.count_cons_eq,eT,Lib.splitK,index_cons_eq,aG (by decide)];simp only [pieces,aP];rw [<-d];rfl
  · rw [Lib.count_cons_ne b c l h];simp only [pieces,aG h];rw [<-d];have a:=index_cons_ne h l;by_cases f:Lib.index l [c]=-1
    · rw [Lib.count_miss f];rfl
    · have k:=Lib.index_ge l [c];obtain ⟨j,g⟩:∃j:Nat,Lib.index l [c]=j:=⟨(Lib.index l [c]).toNat,by omega⟩
      rw [Lib.count_hit (by simp) g,eT,Lib.splitK,Lib.splitK,a];have e:(Lib.index l [c]==-1)=false:=by simpa using f
      rw [e];simp only [bN,cC,g];have h2:¬((((j:Nat):Int)+1==-1)=true):=by simp;omega
      rw [aG h2];have i:(((j:Nat):Int)+1).toNat=j+1:=by omega
      rw [i];simp
theorem JC (c:UInt8):∀l:List UInt8,pieces c (l++[c])=pieces c l++[[]]
 | []=>by simp [pieces]
 | b :: l=>by
  have a:=JC c l;rw [List.cons_append];unfold pieces;by_cases h:b=c
  · rw [aP h,aP h,a];rfl
  · rw [aG h,aG h,a];obtain ⟨p,ps,hp⟩:=pieces_ne c l;rw [hp];rfl
theorem II (c:UInt8) {d:UInt8} (hd:d≠c):∀l:List UInt8,∃X q,pieces c l=X++[q]/\pieces c (l++[d])=X++[q++[d]]/\(∀x ∈ q,x≠c)/\(q=[]->l=[]\/l.getLast?=some c)/\(l.getLast?=some c->q=[])
 | []=>⟨[],[],rfl,by simp [pieces,hd],by simp,fun _=>.inl rfl,fun _=>rfl⟩
 | b :: l=>by
  obtain ⟨X,q,h1,h2,h3,h4,h5⟩:=II c hd l;by_cases h:b=c
  · refine ⟨[] :: X,q,?_,?_,h3,?_,?_⟩
    · simp only [pieces,aP h,h1];rfl
    · rw [List.cons_append];simp only [pieces,aP h,h2];rfl
    · intro e;rcases h4 e with h | g
      · subst h;right;rw [h];rfl
      · right;cases l with
        | nil=>cases g
        | cons a l=>rw [cj];exact g
    · intro f;cases l with
      | nil=>cases X with
       | nil=>simp [pieces] at h1;first | exact h1 | exact h1.symm
       | cons x X=>simp [pieces] at h1
      | cons a l=>rw [cj] at f;exact h5 f
  · cases X with
    | nil=>
     refine ⟨[],b :: q,?_,?_,?_,?_,?_⟩
     · simp only [pieces,aG h,h1];rfl
     · rw [List.cons_append];simp only [pieces,aG h,h2];rfl
     · intro x hx;rcases ay.1 hx with rfl | hx
       · exact h
       · exact h3 x hx
     · intro e;cases e
     · intro f;cases l with
       | nil=>rw [List.getLast?_singleton] at f;exact absurd (aU f) h
       | cons a l=>
        rw [cj] at f;have k:c ∈ a :: l:=gJ f;have j:∀(l:List UInt8) (q:List UInt8),pieces c l=[q]->(∀x ∈ l,x≠c):=by
         intro l
         induction l with
         | nil=>intro q _ x hx;cases hx
         | cons y l m=>
          intro q e x hx;unfold pieces at e;by_cases i:y=c
          · rw [aP i] at e;obtain ⟨p,ps,hp⟩:=pieces_ne c l;rw [hp] at e;simp at e
          · rw [aG i] at e;obtain ⟨p,ps,hp⟩:=pieces_ne c l;rw [hp] at e;simp only [bw] at e;rcases ay.1 hx with rfl | hx
            · exact i
            · exact m p (by rw [hp,e.2]) x hx
        exact absurd rfl (j _ _ h1 c k)
    | cons x X=>
     refine ⟨(b :: x) :: X,q,?_,?_,h3,?_,?_⟩
     · simp only [pieces,aG h,h1];rfl
     · rw [List.cons_append];simp only [pieces,aG h,h2];rfl
     · intro e;rcases h4 e with g | g
       · subst g;simp [pieces] at h1
       · right;cases l with
         | nil=>cases g
         | cons a l=>rw [cj];exact g
     · intro f;cases l with
       | nil=>simp [pieces] at h1
       | cons a l=>rw [cj] at f;exact h5 f
def wordsL (l:List UInt8):List (List UInt8):=(pieces 32 l).filter (fun p=>!p.isEmpty)
def textS (l:List UInt8):List UInt8:=Lib.join (wordsL (lower l)) [32]
def gapB (l:List UInt8):Bool:=l.getLast?==some 32
theorem wordsL_blank (l:List UInt8):wordsL (l++[32])=wordsL l:=by unfold wordsL;rw [JC,cM];simp
theorem ID (X:List (List UInt8)) (y:List UInt8):Lib.join (X++[y]) [32]=if X.isEmpty then y else Lib.join X [32]++[32]++y:=by
 cases X with
 | nil=>simp [Lib.join_one]
 | cons x X=>
  simp only [List.isEmpty_cons,bN,cC];unfold Lib.join List.intercalate
  induction X generalizing x with
  | nil=>simp [List.intersperse]
  | cons z Z a=>have:=a z;simp only [List.cons_append,List.intersperse_cons_cons,List.flatten_cons,bK] at this⊢;rw [this]
theorem QY (X:List (List UInt8)) (q:List UInt8) (d:UInt8):Lib.join (X++[q++[d]]) [32]=Lib.join (X++[q]) [32]++[d]:=by rw [ID,ID];split <;> simp
theorem wordsL_letter (l:List UInt8) {d:UInt8} (hd:d≠32):Lib.join (wordsL (l++[d])) [32]=Lib.join (wordsL l) [32]++(if (gapB l&&!(Lib.join (wordsL l) [32]).isEmpty)=true then [32] else [])++[d]:=by
 obtain ⟨X,q,h1,h2,h3,h4,h5⟩:=II 32 hd l;unfold wordsL;rw [h1,h2,cM,cM];have m:[q++[d]].filter (fun p=>!p.isEmpty)=[q++[d]]:=by simp
 rw [m];by_cases f:q=[]
 · subst f;have j:([[]]:List (List UInt8)).filter (fun p=>!p.isEmpty)=[]:=rfl;rw [j,bJ,List.nil_append,ID];generalize k:X.filter (fun p=>!p.isEmpty)=Y;have g:∀y ∈ Y,y≠[]:=by intro y b;rw [<-k] at b;have:=(bW.1 b).2;intro e;subst e;simp at this
   cases Y with
   | nil=>simp [Lib.join_nil]
   | cons y Y=>
    have c:(Lib.join (y :: Y) [32]).isEmpty=false:=by
     have b:=g y (ai);cases y with
     | nil=>exact absurd rfl b
     | cons a y=>
      cases Y with
      | nil=>rw [Lib.join_one];rfl
      | cons z Z=>unfold Lib.join List.intercalate;simp
    have i:gapB l=true:=by
     rcases h4 rfl with h | h
     · subst h;cases X with
       | nil=>simp at k
       | cons x X=>simp [pieces] at h1
     · unfold gapB;rw [h];rfl
    rw [i,c];simp
 · have j:[q].filter (fun p=>!p.isEmpty)=[q]:=by cases q with
    | nil=>exact absurd rfl f
    | cons a q=>rfl
   rw [j,QY];have i:gapB l=false:=by
    unfold gapB;cases n:(l.getLast?==some 32) with
    | false=>rfl
    | true=>exact absurd (h5 (af.1 n)) f
   rw [i];simp
end Go.Proofs.YtgngjfjaelgaeaaGreatDoor.RuS
namespace Go.Proofs.YtgngjfjaelgaeaaGreatDoor.RuS
open Go.Lib
theorem Kz (u:Nat) (hu:u<1000000000000000000):parseUintB 64 (decDigits u)=.ok u:=by unfold parseUintB;rw [aG (PhS.decDigits_ne u)];have h:=PhS.parseUintM_ok (2 ^ 64 - 1) (decDigits u) 0 (PhS.decDigits_dig u) (by rw [PhS.valFrom_dec];omega) (by decide) (by rw [PhS.valFrom_dec];omega);rw [PhS.valFrom_dec] at h;exact h
theorem parse64_itoa (n:Int) (b:n.natAbs<1000000000000000000):parseIntB 64 (itoa n)=.ok n:=by
 by_cases h:n<0
 · rw [PhS.itoa_neg h];unfold parseIntB;have e:(45:UInt8).toNat=45:=rfl;simp only [e,iG,bY,Kz n.natAbs b,not_true,gg,cC,iE];rw [aG (by omega)];congr 1;omega
 · rw [PhS.itoa_nonneg (by omega)];have hd:=PhS.decDigits_dig n.toNat;have hp:=Kz n.toNat (by omega);cases a:decDigits n.toNat with
   | nil=>exact absurd a (PhS.decDigits_ne _)
   | cons c r=>
    have hc:=hd c (by rw [a];exact ai);rw [a] at hp;unfold parseIntB;have h1:¬(c.toNat=43\/c.toNat=45):=by omega
    have h2:¬(c.toNat=45):=by omega
    simp only [aG h1,hp];rw [aG (fun h=>by have:=h.2;omega),aG (fun h=>h2 h.1),aG h2];congr 1;omega
theorem VS {k:Nat} (h:k<=18):10 ^ k<=1000000000000000000:=bg (n:=10) (by decide) h
theorem Ue (u:Nat):(decDigits u).length<=18↔u<1000000000000000000:=by
 rw [decDigits_length];constructor
 · intro h;have:=lt_pow_nDigits u;have:=VS h;omega
 · intro h;have:=PhS.nDigits_le 17 u h;omega
def intS (l:List UInt8):Option Int:=match parseIntB 64 l with
 | .ok n=>if (itoa n==l)&&decide ((trimPrefix l [45]).length<=18) then some n else none
 | _=>none
theorem Ss (n:Int):trimPrefix (itoa n) [45]=decDigits n.natAbs:=by
 unfold trimPrefix hasPrefix;by_cases h:n<0
 · rw [PhS.itoa_neg h];simp [List.isPrefixOf]
 · rw [PhS.itoa_nonneg (by omega)];have hd:=PhS.decDigits_dig n.toNat;cases a:decDigits n.toNat with
   | nil=>exact absurd a (PhS.decDigits_ne _)
   | cons c r=>
    have hc:=hd c (by rw [a];exact ai);have:([45]:List UInt8).isPrefixOf (c :: r)=false:=by simp [List.isPrefixOf];intro e;subst e;simp at hc
    rw [this,<-a];simp only [bN,cC];congr 1;omega
theorem intS_iff {l:List UInt8} {n:Int}:intS l=some n↔itoa n=l/\n.natAbs<1000000000000000000:=by
 constructor
 · intro h;unfold intS at h;split at h
   · rename_i m a;split at h
     · rename_i hc;have:=aU h;subst this;rw [bA] at hc;have h1:=af.1 hc.1;have h2:=bB hc.2;subst h1;rw [Ss,Ue] at h2;exact ⟨rfl,h2⟩
     · cases h
   · cases h
 · rintro ⟨rfl,h⟩;unfold intS;rw [parse64_itoa n h];simp only;rw [Ss,aP];simp only [eP,cf,az];exact (Ue _).2 h
theorem Yl:∀(n:Nat) (d:List UInt8),d.length=n->d.all PhS.isDig=true->d≠[]->(d.head?≠some 48\/d.length=1)->decDigits (PhS.valFrom 0 d)=d:=by
 intro n
 induction n with
 | zero=>intro d k _ g;exact absurd (aW k) g
 | succ n p=>
  intro d k f g i;obtain ⟨b,c,rfl⟩:∃b c,d=b++[c]:=⟨d.dropLast,d.getLast g,(fA g).symm⟩
  rw [PhS.valFrom_snoc];rw [dL,bA] at f;have hc:48<=c.toNat/\c.toNat<=57:=by have:=f.2;simp [PhS.isDig] at this;exact this
  have j:UInt8.ofNat (48+(c.toNat - 48))=c:=by apply cY.1;rw [bu];omega
  by_cases h0:b=[]
  · subst h0;simp only [PhS.valFrom,List.foldl_nil,cO,bi,List.nil_append];rw [decDigits,gm (by omega),j]
  · have h:b.head?≠some 48:=by
     rcases i with i | i
     · cases b with
       | nil=>exact absurd rfl h0
       | cons a r=>exact i
     · cases b with
       | nil=>exact absurd rfl h0
       | cons a r=>simp at i
    have e:=p b (by simp at k;exact k) f.1 h0 (.inl h);have m:1<=PhS.valFrom 0 b:=by
     rcases bT (PhS.valFrom 0 b) with l | l
     · rw [l] at e;have:decDigits 0=[48]:=by decide+kernel
       rw [this] at e;rw [<-e] at h;exact absurd rfl h
     · exact l
    rw [decDigits,iF (by omega)];have o:(PhS.valFrom 0 b*10+(c.toNat - 48)) / 10=PhS.valFrom 0 b:=by omega
    have q:(PhS.valFrom 0 b*10+(c.toNat - 48)) % 10=c.toNat - 48:=by omega
    rw [o,q,e,j]
def intR (l:List UInt8):Option Int:=
 let neg:Bool:=l.head?==some 45
 let d:=if neg then l.tail else l
 if d.length<1\/18<d.length\/(d.head?=some 48/\(1<d.length\/neg=true))\/d.all PhS.isDig=false then none
 else some (if neg then -(PhS.valFrom 0 d:Int) else PhS.valFrom 0 d)
theorem val18 {d:List UInt8} (h:d.all PhS.isDig=true) (a:d.length<=18):PhS.valFrom 0 d<1000000000000000000:=by have h1:=PhS.valFrom_lt d h;have h2:=VS a;omega
theorem Oj (u:Nat):(decDigits u).head?=some 48->u=0:=by
 intro h;have i:=PhS.valFrom_dec u;rcases bT u with h0 | h0
 · exact h0
 · exfalso;have key:∀(n u:Nat),(decDigits u).length=n->0<u->(decDigits u).head?≠some 48:=by
    intro n
    induction n with
    | zero=>intro u b;exact absurd (aW b) (PhS.decDigits_ne u)
    | succ n f=>
     intro u b hu;by_cases h10:u<10
     · rw [decDigits_one h10];intro e;have g:=aU e;have d:=congrArg UInt8.toNat g;rw [bu] at d;have:(48:UInt8).toNat=48:=rfl;omega
     · rw [decDigits,iF h10] at b⊢;have c:(decDigits (u / 10)).length=n:=by simpa using b
       have:=f (u / 10) c (by omega);cases hd:decDigits (u / 10) with
       | nil=>exact absurd hd (PhS.decDigits_ne _)
       | cons a r=>rw [hd] at this;exact this
   exact key _ u rfl h0 h
theorem VT {l:List UInt8} {n:Int}:intR l=some n↔itoa n=l/\n.natAbs<1000000000000000000:=by
 constructor
 · intro h;unfold intR at h;generalize c:(l.head?==some 45)=neg at h;simp only at h;by_cases hc:((if neg=true then l.tail else l).length<1\/18<(if neg=true then l.tail else l).length\/((if neg=true then l.tail else l).head?=some 48/\(1<(if neg=true then l.tail else l).length\/neg=true))\/(if neg=true then l.tail else l).all PhS.isDig=false)
   · rw [aP hc] at h;cases h
   · rw [aG hc] at h;have h:=aU h;rw [not_or,not_or,not_or] at hc;obtain ⟨c1,c2,c3,c4⟩:=hc;have b:(if neg=true then l.tail else l).all PhS.isDig=true:=by simpa using c4
     clear c4;cases neg with
     | true=>
      simp only [bY] at c1 c2 c3 b h;have i:l=45 :: l.tail:=by
       cases l with
       | nil=>cases c
       | cons a r=>have:=aU (af.1 c);subst this;rfl
      have k:=val18 b (by omega);have h48:l.tail.head?≠some 48:=fun e=>c3 ⟨e,.inr (by trivial)⟩;have d:l.tail≠[]:=by intro e;rw [e] at c1;simp at c1
      have hd:=Yl _ l.tail rfl b d (.inl h48);have j:0<PhS.valFrom 0 l.tail:=by
       rcases bT (PhS.valFrom 0 l.tail) with g | g
       · rw [g] at hd;have:decDigits 0=[48]:=by decide+kernel
         rw [this] at hd;rw [<-hd] at h48;exact absurd rfl h48
       · exact g
      subst h;refine ⟨?_,by omega⟩;rw [PhS.itoa_neg (by omega)];have e:(-(PhS.valFrom 0 l.tail:Int)).natAbs=PhS.valFrom 0 l.tail:=by omega
      rw [e,hd];exact i.symm
     | false=>
      simp only [bN,cC] at c1 c2 c3 b h;have k:=val18 b (by omega);have d:l≠[]:=by intro e;rw [e] at c1;simp at c1
      have m:l.head?≠some 48\/l.length=1:=by
       by_cases e:l.head?=some 48
       · right;have:¬1<l.length:=fun h=>c3 ⟨e,.inl h⟩;omega
       · exact .inl e
      have hd:=Yl _ l rfl b d m;subst h;refine ⟨?_,by omega⟩;rw [PhS.itoa_nonneg (by omega)];exact hd
 · rintro ⟨rfl,h⟩;unfold intR;simp only;by_cases o:n<0
   · rw [PhS.itoa_neg o];have f:((45 :: decDigits n.natAbs).head?==some 45)=true:=rfl;rw [f];simp only [bY,List.tail_cons];have i:=(Ue n.natAbs).2 h;have hp:=PhS.dec_pos n.natAbs;rw [aG]
     · rw [PhS.valFrom_dec];congr 1;omega
     · rintro (h1 | h1 | ⟨h1,_⟩ | h1)
       · omega
       · omega
       · have:=Oj _ h1;omega
       · rw [PhS.dec_all] at h1;cases h1
   · rw [PhS.itoa_nonneg (by omega)];have f:((decDigits n.toNat).head?==some 45)=false:=by
      rw [aV];exact PhS.head_dec _
     rw [f];simp only [bN,cC];have i:=(Ue n.toNat).2 (by omega);have hp:=PhS.dec_pos n.toNat;rw [aG]
     · rw [PhS.valFrom_dec];congr 1;omega
     · rintro (h1 | h1 | ⟨h1,h2⟩ | h1)
       · omega
       · omega
       · have h0:=Oj _ h1;rw [h0] at h2;rcases h2 with h2 | h2
         · have:decDigits 0=[48]:=by decide+kernel
           rw [this] at h2;simp at h2
         · cases h2
       · rw [PhS.dec_all] at h1;cases h1
theorem intR_eq (l:List UInt8):intR l=intS l:=by
 cases h:intR l with
 | some n=>exact (intS_iff.2 (VT.1 h)).symm
 | none=>
  cases h2:intS l with
  | none=>rfl
  | some n=>rw [VT.2 (intS_iff.1 h2)] at h;cases h
theorem gap_snoc (l:List UInt8) (d:UInt8):gapB (l++[d])=(d==32):=by unfold gapB;simp
theorem VU {P:List UInt8->Prop} (h0:P []) (h1:∀l d,P l->P (l++[d])):∀l,P l:=by
 intro l;have:∀(n:Nat) (l:List UInt8),l.length=n->P l:=by
  intro n
  induction n with
  | zero=>intro l a;rw [aW a];exact h0
  | succ n c=>
   intro l a;have b:l≠[]:=by intro e;rw [e] at a;cases a
   rw [<-fA b];exact h1 _ _ (c _ (by simp [a]))
 exact this _ l rfl
theorem joinW_le (l:List UInt8):(Lib.join (wordsL l) [32]).length+(if gapB l=true then 1 else 0)<=l.length:=by
 refine VU (P:=fun l=>(Lib.join (wordsL l) [32]).length+(if gapB l=true then 1 else 0)<=l.length) (by decide) (fun l d a=>?_) l;rw [gap_snoc];by_cases hd:d=32
 · subst hd;rw [wordsL_blank];simp;omega
 · rw [wordsL_letter l hd];have:(d==32)=false:=by simpa using hd
   rw [this];simp only [aT,bG,bN,cC];by_cases b:gapB l=true
   · rw [b] at a⊢;simp only [bY,cf] at a⊢;split <;> simp <;> omega
   · have b:gapB l=false:=by simpa using b
     rw [b] at a⊢;simp at a⊢;omega
theorem textS_le (l:List UInt8):(textS l).length<=l.length:=by have:=joinW_le (lower l);rw [lower_length] at this;unfold textS;omega
theorem Su (c:UInt8) (hc:c≠32) (l:List UInt8):c ∈ Lib.join (wordsL l) [32]↔c ∈ l:=by
 refine VU (P:=fun l=>c ∈ Lib.join (wordsL l) [32]↔c ∈ l) (by simp [wordsL,pieces,Lib.join_nil]) (fun l d a=>?_) l;by_cases hd:d=32
 · subst hd;rw [wordsL_blank,a];simp [hc]
 · rw [wordsL_letter l hd,b9,b9,b9,a];constructor
   · rintro ((h | h) | h)
     · exact .inl h
     · split at h
       · simp at h;exact absurd h hc
       · cases h
     · exact .inr h
   · rintro (h | h)
     · exact .inl (.inl h)
     · exact .inr h
theorem lower_zero (l:List UInt8):(0:UInt8) ∈ lower l↔(0:UInt8) ∈ l:=by
 unfold lower;rw [bD];constructor
 · rintro ⟨c,hc,h⟩;by_cases a:65<=c.toNat/\c.toNat<=90
   · have:=lowC_toNat a.1 a.2;rw [h] at this;have e:(0:UInt8).toNat=0:=rfl;omega
   · rw [lowC_no a] at h;rw [<-h];exact hc
 · intro h;exact ⟨0,h,by decide⟩
theorem textS_zero (l:List UInt8):(0:UInt8) ∈ textS l↔(0:UInt8) ∈ l:=by unfold textS;rw [Su 0 (by decide),lower_zero]
theorem indexByte_none (l:List UInt8) (c:UInt8):Lib.indexByte l c<0↔¬c ∈ l:=by
 induction l with
 | nil=>simp [Lib.indexByte]
 | cons b l d=>
  unfold Lib.indexByte;by_cases h:b=c
  · subst h;simp
  · have g:(b==c)=false:=by simpa using h
    rw [g];simp only [bN,cC,ay];have k:=Lib.indexByte_ge l c;by_cases a:Lib.indexByte l c=-1
    · rw [a];simp;rw [a] at d;exact ⟨fun e=>h e.symm,d.1 (by decide)⟩
    · have f:(Lib.indexByte l c==-1)=false:=by simpa using a
      rw [f];simp only [bN,cC];have:¬Lib.indexByte l c<0:=by omega
      constructor
      · intro h;omega
      · intro i;exfalso;exact this (d.2 (fun j=>i (.inr j)))
def hasNul (l:List UInt8):Bool:=decide ((0:UInt8) ∈ l)
def normV (syn:Int) (v:List UInt8):Option (List UInt8):=
 if syn=1 then (if (textS v).isEmpty||hasNul v then none else some (textS v))
 else if syn=3 then (if (intS v).isSome then some v else none)
 else if syn=4 then (if (PhS.parseP v).isSome then some v else none)
 else some v
def normalR (a:Int) (v:List UInt8):List UInt8 × Int:=
 if a=0 then ([],5) else if a=5 then ([],1) else if v.length<1\/200<v.length then ([],2)
 else match normV a v with
  | none=>([],2)
  | some s=>(s,0)
def normal (name v:List UInt8):List UInt8 × Int:=normalR (typeOf name).2 v
end Go.Proofs.YtgngjfjaelgaeaaGreatDoor.RuS
namespace Go.Proofs.YtgngjfjaelgaeaaGreatDoor.RuS
open Go.Lib
theorem u8_lt {a b:UInt8}:a<b↔a.toNat<b.toNat:=UInt8.lt_iff_toNat_lt
theorem compare_self:∀l:List UInt8,compareBytes l l=0
 | []=>rfl
 | a :: l=>by unfold compareBytes;rw [aG (by rw [u8_lt];omega),aG (by rw [u8_lt];omega)];exact compare_self l
theorem compare_swap:∀x y:List UInt8,compareBytes y x=-compareBytes x y
 | [],[]=>rfl
 | [],_ :: _=>rfl
 | _ :: _,[]=>rfl
 | a :: x,b :: y=>by
  have c:=compare_swap x y;unfold compareBytes;by_cases h1:a<b
  · have:¬b<a:=by rw [u8_lt] at h1⊢;omega
    rw [aG this,aP h1,aP h1];rfl
  · by_cases h2:b<a
    · rw [aP h2,aG h1,aP h2]
    · rw [aG h2,aG h1,aG h1,aG h2];exact c
theorem compare_zero:∀x y:List UInt8,compareBytes x y=0↔x=y
 | [],[]=>by simp [compareBytes]
 | [],_ :: _=>by simp [compareBytes]
 | _ :: _,[]=>by simp [compareBytes]
 | a :: x,b :: y=>by
  have c:=compare_zero x y;unfold compareBytes;by_cases h1:a<b
  · rw [aP h1];have:a≠b:=by intro e;subst e;rw [u8_lt] at h1;omega
    simp [this]
  · by_cases h2:b<a
    · rw [aG h1,aP h2];have:a≠b:=by intro e;subst e;rw [u8_lt] at h2;omega
      simp [this]
    · rw [aG h1,aG h2,c];have:a=b:=by apply cY.1;rw [u8_lt] at h1 h2;omega
      simp [this]
theorem compare_range:∀x y:List UInt8,-1<=compareBytes x y/\compareBytes x y<=1
 | [],[]=>by simp [compareBytes]
 | [],_ :: _=>by simp [compareBytes]
 | _ :: _,[]=>by simp [compareBytes]
 | a :: x,b :: y=>by
  have c:=compare_range x y;unfold compareBytes;split
  · omega
  · split <;> omega
theorem less_iff:∀x y:List UInt8,Op.bytesLess x y=decide (compareBytes x y=-1)
 | [],[]=>by simp [compareBytes,Op.bytesLess]
 | [],_ :: _=>by simp [compareBytes,Op.bytesLess]
 | _ :: _,[]=>by simp [compareBytes,Op.bytesLess]
 | a :: x,b :: y=>by
  have c:=less_iff x y;unfold compareBytes Op.bytesLess;by_cases h1:a<b
  · rw [aP h1];simp [h1]
  · rw [aG h1];by_cases h2:b<a
    · rw [aP h2];have:a≠b:=by intro e;subst e;rw [u8_lt] at h2;omega
      simp [h1,this]
    · rw [aG h2,c];have:a=b:=by apply cY.1;rw [u8_lt] at h1 h2;omega
      subst this;simp
theorem eq_iff (x y:List UInt8):(x==y)=decide (compareBytes x y=0):=by rw [bS,af,az,compare_zero]
def bareL (l:List UInt8):List UInt8:=l.filter (fun c=>c !=32)
theorem JD (c:UInt8):∀l:List UInt8,replaceK [c] [] (count l [c]) l=l.filter (fun b=>b !=c)
 | []=>by rw [count_miss (by simp [index])];rfl
 | b :: l=>by
  have a:=JD c l;by_cases h:b=c
  · subst h;rw [count_cons_eq,eT,replaceK_hit _ _ _ _ 0 (index_cons_eq b l)];simp;exact a
  · rw [count_cons_ne b c l h];have hb:(b !=c)=true:=by simpa using h
    rw [eQ,aP hb];by_cases f:index l [c]=-1
    · rw [count_miss f] at a⊢;rw [<-a];rfl
    · have g:=index_ge l [c];obtain ⟨j,d⟩:∃j:Nat,index l [c]=j:=⟨(index l [c]).toNat,by omega⟩
      have e:index (b :: l) [c]=((j+1:Nat):Int):=by
       rw [index_cons_ne h l,d];have:¬(((j:Nat):Int)==-1)=true:=fun h=>by have:=af.1 h;omega
       rw [aG this];omega
      rw [count_hit (by simp) d,eT] at a⊢;rw [replaceK_hit _ _ _ _ j d] at a;rw [replaceK_hit _ _ _ _ (j+1) e,<-a];simp
theorem replaceAll_bare (l:List UInt8):replaceAll l [32] []=bareL l:=by unfold replaceAll replace replaceNum;rw [aG (by decide),aP (.inl (by decide))];exact JD 32 l
theorem MW (c:UInt8):∀w:List UInt8,(∀x ∈ w,x≠c)->pieces c w=[w]
 | [],_=>rfl
 | b :: w,h=>by have a:=MW c w (fun x hx=>h x (ar _ hx));unfold pieces;rw [aG (h b ai),a]
theorem Qq (c:UInt8) (r:List UInt8):∀w:List UInt8,(∀x ∈ w,x≠c)->pieces c (w++c :: r)=w :: pieces c r
 | [],_=>by simp [pieces]
 | b :: w,h=>by
  have a:=Qq c r w (fun x hx=>h x (ar _ hx));rw [List.cons_append];have e:pieces c (b :: (w++c :: r))=if b=c then [] :: pieces c (w++c :: r) else match pieces c (w++c :: r) with
   | p :: ps=>(b :: p) :: ps
   | []=>[[b]]:=rfl
  rw [e,aG (h b ai),a]
theorem LM (c:UInt8):∀(l:List UInt8),∀p ∈ pieces c l,∀x ∈ p,x≠c
 | [],p,hp=>by simp [pieces] at hp;subst hp;simp
 | b :: l,p,hp=>by
  have a:=LM c l;unfold pieces at hp;by_cases h:b=c
  · rw [aP h] at hp;rcases ay.1 hp with rfl | hp
    · simp
    · exact a p hp
  · rw [aG h] at hp;obtain ⟨q,e,d⟩:=pieces_ne c l;rw [d] at hp a;simp only at hp;rcases ay.1 hp with rfl | hp
    · intro x hx;rcases ay.1 hx with rfl | hx
      · exact h
      · exact a q ai x hx
    · exact a p (ar _ hp)
theorem join_cons_cons (x y:List UInt8) (r:List (List UInt8)) (s:List UInt8):Lib.join (x :: y :: r) s=x++s++Lib.join (y :: r) s:=by unfold Lib.join List.intercalate;simp
theorem Ol:∀ws:List (List UInt8),ws≠[]->(∀w ∈ ws,∀x ∈ w,x≠32)->pieces 32 (Lib.join ws [32])=ws
 | [],h,_=>absurd rfl h
 | [w],_,h=>by rw [Lib.join_one];exact MW 32 w (h w ai)
 | w :: v :: r,_,h=>by have a:=Ol (v :: r) (by simp) (fun x hx=>h x (ar _ hx));rw [join_cons_cons,bK,List.singleton_append,Qq 32 _ w (h w ai),a]
theorem Xn (l:List UInt8):wordsL (Lib.join (wordsL l) [32])=wordsL l:=by
 by_cases h:wordsL l=[]
 · rw [h];rfl
 · have h1:∀w ∈ wordsL l,∀x ∈ w,x≠32:=fun w a=>LM 32 l w ((bW.1 a).1);have h2:=Ol (wordsL l) h h1;have h3:wordsL (Lib.join (wordsL l) [32])=(pieces 32 (Lib.join (wordsL l) [32])).filter (fun p=>!p.isEmpty):=rfl;rw [h3,h2];unfold wordsL;rw [List.filter_filter];simp
theorem AbV {l:List UInt8} (h:∀c ∈ l,lowC c=c):lower l=l:=by unfold lower;exact (cQ h).trans (eJ l)
theorem AbW (l:List UInt8):∀c ∈ textS l,lowC c=c:=by
 intro c hc;by_cases h:c=32
 · subst h;decide
 · unfold textS at hc;rw [Su c h] at hc;unfold lower at hc;obtain ⟨d,_,rfl⟩:=bD.1 hc;exact AbU d
theorem ZJ (l:List UInt8):textS (textS l)=textS l:=by have h:textS (textS l)=Lib.join (wordsL (lower (textS l))) [32]:=rfl;rw [h,AbV (AbW l)];unfold textS;rw [Xn]
theorem normal_ok {nm v s:List UInt8} (h:normal nm v=(s,0)):((typeOf nm).2=1\/(typeOf nm).2=2\/(typeOf nm).2=3\/(typeOf nm).2=4)/\1<=v.length/\v.length<=200/\normV (typeOf nm).2 v=some s:=by
 have b:=typeM_all (lower nm);have a:typeOf nm=([],0)\/(1<=(typeOf nm).2/\(typeOf nm).2<=5/\1<=(typeOf nm).1.length/\(typeOf nm).1.length<=17):=b;unfold normal normalR at h;by_cases h0:(typeOf nm).2=0
 · rw [aP h0] at h;injection h with _ h;cases h
 · rw [aG h0] at h;by_cases h5:(typeOf nm).2=5
   · rw [aP h5] at h;injection h with _ h;cases h
   · rw [aG h5] at h;by_cases c:v.length<1\/200<v.length
     · rw [aP c] at h;injection h with _ h;cases h
     · rw [aG c] at h;cases d:normV (typeOf nm).2 v with
       | none=>rw [d] at h;injection h with _ h;cases h
       | some x=>
        rw [d] at h;injection h with h _;subst h;refine ⟨?_,by omega,by omega,rfl⟩;rcases a with h | h
        · rw [h] at h0;exact absurd rfl h0
        · omega
theorem AbX {nm v s:List UInt8} (h:(typeOf nm).2=1\/(typeOf nm).2=2\/(typeOf nm).2=3\/(typeOf nm).2=4) (h1:1<=v.length) (h2:v.length<=200) (h3:normV (typeOf nm).2 v=some s):normal nm v=(s,0):=by unfold normal normalR;rw [aG (by omega),aG (by omega),aG (by omega),h3]
theorem normV_same {a:Int} {v s:List UInt8} (h1:a≠1) (h:normV a v=some s):s=v:=by
 unfold normV at h;rw [aG h1] at h;by_cases h3:a=3
 · rw [aP h3] at h;split at h
   · exact (aU h).symm
   · cases h
 · rw [aG h3] at h;by_cases h4:a=4
   · rw [aP h4] at h;split at h
     · exact (aU h).symm
     · cases h
   · rw [aG h4] at h;exact (aU h).symm
theorem Om {v s:List UInt8} (h:normV 1 v=some s):s=textS v/\(textS v).isEmpty=false/\hasNul v=false:=by
 have h:(if (textS v).isEmpty||hasNul v then none else some (textS v))=some s:=h;cases h1:(textS v).isEmpty with
 | true=>rw [h1] at h;cases h
 | false=>
  cases h2:hasNul v with
  | true=>rw [h1,h2] at h;cases h
  | false=>rw [h1,h2] at h;exact ⟨(aU h).symm,rfl,rfl⟩
theorem normal_idem {nm v s:List UInt8} (h:normal nm v=(s,0)):normal nm s=(s,0):=by
 obtain ⟨h1,h2,h3,h4⟩:=normal_ok h;by_cases e:(typeOf nm).2=1
 · rw [e] at h4;obtain ⟨rfl,g1,g2⟩:=Om h4;have g:=textS_le v;have c:1<=(textS v).length:=by
    cases d:textS v with
    | nil=>rw [d] at g1;cases g1
    | cons a b=>simp
   refine AbX h1 c (by omega) ?_;rw [e];show (if (textS (textS v)).isEmpty||hasNul (textS v) then none else some (textS (textS v)))=_
   have f:hasNul (textS v)=false:=by unfold hasNul at g2⊢;rw [bc] at g2⊢;rw [textS_zero];exact g2
   rw [ZJ,g1,f];rfl
 · have:=normV_same e h4;subst this;exact h
theorem Xo {nm v:List UInt8} (h:(normal nm v).2≠0):(normal nm v).1=[]:=by
 unfold normal normalR at h⊢;split
 · rfl
 · split
   · rfl
   · split
     · rfl
     · rename_i a b c;rw [aG a,aG b,aG c] at h;split
       · rfl
       · rename_i x hx;rw [hx] at h;exact absurd rfl h
theorem normal_len (nm v:List UInt8):(normal nm v).1.length<=200:=by
 by_cases h:(normal nm v).2=0
 · have a:normal nm v=((normal nm v).1,0):=by rw [<-h]
   obtain ⟨h1,h2,h3,h4⟩:=normal_ok a;by_cases e:(typeOf nm).2=1
   · rw [e] at h4;obtain ⟨b,_,_⟩:=Om h4;rw [b];have:=textS_le v;omega
   · rw [normV_same e h4];exact h3
 · rw [Xo h];simp
end Go.Proofs.YtgngjfjaelgaeaaGreatDoor.RuS
