/- Plain laws of parts of names (pairs of a type and a value): how they are written, cut and read. Conditions: as stated. -/
import Derived.Sort.Walk0
import Derived.Test.YtgngjfjaelgaeaaGreatDoorJRuS
namespace Go.Proofs.YtgngjfjaelgaeaaGreatDoor.RdS
open Go.Lib
abbrev Pr:=List UInt8 × List UInt8
def Es:List UInt8:=[44,43,34,92,60,62,59]
def Av (c:UInt8):Bool:=Es.contains c
def hexL:List UInt8:=[48,49,50,51,52,53,54,55,56,57,97,98,99,100,101,102]
def BI (n:Nat):UInt8:=hexL.getD n 0
def Bv (first last:Bool) (c:UInt8):List UInt8:=
 if Av c||(c==32&&(first||last))||(c==35&&first) then [92,c]
 else if decide (c.toNat<32)||decide (126<c.toNat) then [92,BI (c.toNat / 16),BI (c.toNat % 16)]
 else [c]
def Dj (v:List UInt8):Nat->List UInt8
 | 0=>[]
 | k+1=>Dj v k++(match v[k]? with
  | some c=>Bv (decide (k=0)) (decide (k+1=v.length)) c
  | none=>[])
def Et (v:List UInt8):List UInt8:=Dj v v.length
theorem IM (v:List UInt8) (k:Nat) (h:k<v.length):Dj v (k+1)=Dj v k++Bv (decide (k=0)) (decide (k+1=v.length)) v[k]:=by
 have e:Dj v (k+1)=Dj v k++(match v[k]? with
  | some c=>Bv (decide (k=0)) (decide (k+1=v.length)) c
  | none=>[]):=rfl
 rw [e,aJ h]
theorem Vt (a b:Bool) (c:UInt8):(Bv a b c).length<=3/\1<=(Bv a b c).length:=by
 unfold Bv;split
 · exact ⟨by simp,by simp⟩
 · split
   · exact ⟨by simp,by simp⟩
   · exact ⟨by simp,by simp⟩
theorem Jw (v:List UInt8):∀k,k<=v.length->(Dj v k).length<=3*k
 | 0,_=>by simp [Dj]
 | k+1,h=>by rw [IM v k h,aT];have:=Jw v k (by omega);have:=(Vt (decide (k=0)) (decide (k+1=v.length)) v[k]).1;omega
def CL (last:List UInt8) (p:Pr):Bool:=
 ((RuS.typeOf p.1).1==p.1)&&((RuS.typeOf p.1).2==1||(RuS.typeOf p.1).2==3)&&Op.bytesLess last p.1&&((RuS.normal p.1 p.2).2==0)
def chain:List UInt8->List Pr->Bool
 | _,[]=>true
 | last,p :: l=>CL last p&&chain p.1 l
def formedS (l:List Pr):Bool:=decide (1<=l.length)&&decide (l.length<=3)&&chain [] l
def Ek (l:List Pr):Nat->List UInt8
 | 0=>[]
 | k+1=>match l[k]? with
  | some p=>p.1
  | none=>[]
def IA (l:List Pr):Nat->Bool
 | 0=>true
 | k+1=>IA l k&&(match l[k]? with
  | some p=>CL (Ek l k) p
  | none=>true)
theorem Jy (l:List Pr) (k:Nat) (h:k<l.length):IA l (k+1)=(IA l k&&CL (Ek l k) l[k]):=by have e:IA l (k+1)=(IA l k&&(match l[k]? with | some p=>CL (Ek l k) p | none=>true)):=rfl;rw [e,aJ h]
theorem KV (l:List Pr) (k:Nat) (h:k<l.length):Ek l (k+1)=l[k].1:=by have e:Ek l (k+1)=(match l[k]? with | some p=>p.1 | none=>[]):=rfl;rw [e,aJ h]
theorem Qc {l:List Pr} {k:Nat} (h:k<l.length) (hp:CL (Ek l k) l[k]=false):∀n,k<n->IA l n=false:=by
 intro n
 induction n with
 | zero=>intro h;omega
 | succ n a=>
  intro b;by_cases e:n=k
  · subst e;rw [Jy l n h,hp,bX]
  · have:=a (by omega);show (IA l n&&_)=false
    rw [this];rfl
theorem Qd:∀(l:List Pr) (last:List UInt8) (p:Pr),chain last (l++[p])=(chain last l&&CL (match l.getLast? with | some q=>q.1 | none=>last) p)
 | [],last,p=>by simp [chain]
 | q :: r,last,p=>by
  rw [List.cons_append];show (CL last q&&chain q.1 (r++[p]))=_
  rw [Qd r q.1 p];cases r with
  | nil=>simp [chain]
  | cons a r=>
   rw [cj];cases h:(a :: r).getLast? with
   | none=>simp at h
   | some z=>simp only [chain,Bool.and_assoc]
theorem Qe (l:List Pr):∀k,k<=l.length->IA l k=chain [] (l.take k)
 | 0,_=>by simp [IA,chain]
 | k+1,h=>by
  rw [Jy l k h,Qe l k (by omega),aX h,Qd];congr 1;cases k with
  | zero=>rfl
  | succ k=>
   rw [KV l k (by omega)];have hk:k<l.length:=by omega
   rw [aX hk,List.getLast?_concat]
theorem NW (l:List Pr):formedS l=(decide (1<=l.length)&&decide (l.length<=3)&&IA l l.length):=by unfold formedS;rw [Qe l l.length (aA _),bE]
def pairT (p:Pr):List UInt8:=p.1++[61]++Et p.2
def Bc (l:List Pr):Nat->List UInt8
 | 0=>[]
 | k+1=>Bc l k++(if k=0 then [] else [43])++(match l[k]? with
  | some p=>pairT p
  | none=>[])
def printS (l:List Pr):List UInt8 × Int:=if formedS l then (Bc l l.length,0) else ([],1)
theorem Ih (l:List Pr) (k:Nat) (h:k<l.length):Bc l (k+1)=Bc l k++(if k=0 then [] else [43])++pairT l[k]:=by have e:Bc l (k+1)=Bc l k++(if k=0 then [] else [43])++(match l[k]? with | some p=>pairT p | none=>[]):=rfl;rw [e,aJ h]
def glue (p:List UInt8):List (List UInt8)->List (List UInt8)
 | []=>[p]
 | q :: qs=>(p++q) :: qs
def Ak (sep:UInt8):List UInt8->List (List UInt8)
 | []=>[[]]
 | [b]=>if b==sep then [[],[]] else [[b]]
 | b :: d :: l=>if b==sep then [] :: Ak sep (d :: l) else if b==92 then glue [b,d] (Ak sep l) else glue [b] (Ak sep (d :: l))
def hexOf (c:UInt8):Option Nat:=
 if 48<=c.toNat/\c.toNat<=57 then some (c.toNat - 48)
 else if 97<=c.toNat/\c.toNat<=102 then some (c.toNat - 97+10)
 else if 65<=c.toNat/\c.toNat<=70 then some (c.toNat - 65+10)
 else none
def Ea (c:UInt8):Bool:=Av c||c==35||c==61||c==32
def Dk (first last:Bool) (c:UInt8):Bool:=Av c||c==0||(c==32&&(first||last))||(c==35&&first)
def Az:Bool->List UInt8->Option (List UInt8)
 | _,[]=>some []
 | first,[c]=>if Dk first true c then none else some [c]
 | first,[c,d]=>
  if c==92 then (if Ea d then some [d] else none)
  else if Dk first false c then none else if Dk false true d then none else some [c,d]
 | first,c :: d :: e :: l=>
  if c==92 then
   if Ea d then (Az false (e :: l)).map (d :: ·)
   else match hexOf d,hexOf e with
    | some x,some y=>(Az false l).map (UInt8.ofNat (16*x+y) :: ·)
    | _,_=>none
  else if Dk first false c then none else (Az false (d :: e :: l)).map (c :: ·)
def readS (l:List UInt8):Option (List UInt8):=Az true l
end Go.Proofs.YtgngjfjaelgaeaaGreatDoor.RdS
namespace Go.Proofs.YtgngjfjaelgaeaaGreatDoor.RdS
open Go.Lib
theorem Ad1 (q:List UInt8) (X:List (List UInt8)):glue [] (q :: X)=q :: X:=rfl
theorem Jz (p q:List UInt8) (X:List (List UInt8)):glue p (glue q X)=glue (p++q) X:=by cases X <;> simp [glue]
theorem Ir (p q:List UInt8) (X:List (List UInt8)):glue p (q :: X)=(p++q) :: X:=rfl
theorem AeO (p:List UInt8) (X:List (List UInt8)):∃q Y,glue p X=q :: Y:=by
 cases X with
 | nil=>exact ⟨_,_,rfl⟩
 | cons q Y=>exact ⟨_,_,rfl⟩
theorem Vu (p:List UInt8) (X:List (List UInt8)) (h:X≠[]):(glue p X).length=X.length:=by
 cases X with
 | nil=>exact absurd rfl h
 | cons q Y=>rfl
theorem CQ (sep:UInt8) (l:List UInt8):∃p ps,Ak sep l=p :: ps:=by
 match l with
 | []=>exact ⟨_,_,rfl⟩
 | [b]=>unfold Ak;split <;> exact ⟨_,_,rfl⟩
 | b :: d :: l=>
  unfold Ak;split
  · exact ⟨_,_,rfl⟩
  · split <;> exact AeO _ _
theorem KW {sep:UInt8} (l:List UInt8):Ak sep (sep :: l)=[] :: Ak sep l:=by
 match l with
 | []=>simp [Ak]
 | d :: l=>simp [Ak]
theorem Ku {sep:UInt8} (h:sep≠92):Ak sep [92]=[[92]]:=by unfold Ak;rw [aG (by simpa using fun e=>h e.symm)]
theorem IB {sep:UInt8} (h:sep≠92) (d:UInt8) (l:List UInt8):Ak sep (92 :: d :: l)=glue [92,d] (Ak sep l):=by rw [Ak,aG (by simpa using fun e=>h e.symm),aP (by decide)]
theorem Jf {sep b:UInt8} (h1:b≠sep) (h2:b≠92) (l:List UInt8):Ak sep (b :: l)=glue [b] (Ak sep l):=by
 match l with
 | []=>simp [Ak,h1,glue]
 | d :: l=>rw [Ak,aG (by simpa using h1),aG (by simpa using h2)]
theorem IP {sep:UInt8}:∀l:List UInt8,(Ak sep l).length<=l.length+1
 | []=>by simp [Ak]
 | [b]=>by unfold Ak;split <;> simp
 | b :: d :: l=>by
  have h1:=IP (sep:=sep) (d :: l);have h2:=IP (sep:=sep) l;unfold Ak;split
  · simp only [aO] at h1⊢;omega
  · obtain ⟨p,ps,a⟩:=CQ sep l;obtain ⟨q,e,c⟩:=CQ sep (d :: l);split
    · rw [Vu _ _ (by rw [a];simp)];simp only [aO];omega
    · rw [Vu _ _ (by rw [c];simp)];simp only [aO] at h1⊢;omega
theorem EF {sep:UInt8}:∀(l:List UInt8),∀p ∈ Ak sep l,p.length<=l.length
 | [],p,h=>by simp [Ak] at h;subst h;simp
 | [b],p,h=>by
  unfold Ak at h;split at h
  · simp at h;subst h;simp
  · simp at h;subst h;simp
 | b :: d :: l,p,h=>by
  have h1:=EF (sep:=sep) (d :: l);have h2:=EF (sep:=sep) l;obtain ⟨p1,f,a⟩:=CQ sep l;obtain ⟨p2,e,c⟩:=CQ sep (d :: l);rw [a] at h2;rw [c] at h1;unfold Ak at h;rw [a,c] at h;split at h
  · rcases ay.1 h with rfl | h
    · simp
    · have:=h1 p h;simp only [aO] at this⊢;omega
  · split at h
    · rw [Ir] at h;rcases ay.1 h with rfl | h
      · have:=h2 p1 (ai ..);simp only [aT,aO,aS];omega
      · have:=h2 p (ar _ h);simp only [aO];omega
    · rw [Ir] at h;rcases ay.1 h with rfl | h
      · have:=h1 p2 (ai ..);simp only [aT,aO,aS] at this⊢;omega
      · have:=h1 p (ar _ h);simp only [aO] at this⊢;omega
def Be (sep:UInt8) (x:List UInt8):Prop:=∀y,Ak sep (x++y)=glue x (Ak sep y)
theorem Be.nil (sep:UInt8):Be sep []:=fun y=>by obtain ⟨p,ps,e⟩:=CQ sep y;rw [List.nil_append,e,Ad1]
theorem Be.append {sep:UInt8} {a b:List UInt8} (c:Be sep a) (hb:Be sep b):Be sep (a++b):=fun y=>by rw [bK,c,hb,Jz]
theorem Be.one {sep c:UInt8} (h1:c≠sep) (h2:c≠92):Be sep [c]:=fun y=>Jf h1 h2 y
theorem Be.two {sep:UInt8} (h:sep≠92) (c:UInt8):Be sep [92,c]:=fun y=>IB h c y
theorem Be.all {sep:UInt8}:∀{l:List UInt8},(∀c ∈ l,c≠sep/\c≠92)->Be sep l
 | [],_=>Be.nil sep
 | c :: l,h=>by have h1:=h c (ai ..);exact (Be.one h1.1 h1.2).append (Be.all (fun d hd=>h d (ar _ hd)))
theorem Be.split {sep:UInt8} {x:List UInt8} (h:Be sep x):Ak sep x=[x]:=by have:=h [];rw [bJ] at this;rw [this];simp [Ak,glue]
theorem Be.split_sep {sep:UInt8} {x:List UInt8} (h:Be sep x) (y:List UInt8):Ak sep (x++sep :: y)=x :: Ak sep y:=by rw [h,KW,Ir,bJ]
def Fp:Bool->List UInt8->List UInt8
 | _,[]=>[]
 | first,c :: l=>Bv first l.isEmpty c++Fp false l
theorem AeP (f:Bool) (c:UInt8) (l:List UInt8):(Fp f (c :: l)).isEmpty=false:=by have:=(Vt f l.isEmpty c).2;unfold Fp;rw [fN];intro h;have h2:=congrArg List.length h;rw [aT,aS] at h2;omega
theorem Qf (v:List UInt8):∀n k,k+n=v.length->Dj v v.length=Dj v k++Fp (decide (k=0)) (v.drop k)
 | 0,k,h=>by
  have:k=v.length:=by omega
  subst this;rw [dH];simp [Fp]
 | n+1,k,h=>by
  have hk:k<v.length:=by omega
  rw [Qf v n (k+1) (by omega),IM v k hk,av hk];have a:decide (k+1=0)=false:=by simp
  rw [a];have b:(v.drop (k+1)).isEmpty=decide (k+1=v.length):=by rw [bS,dA,eW,az];omega
  show _=Dj v k++(Bv (decide (k=0)) (v.drop (k+1)).isEmpty v[k]++Fp false (v.drop (k+1)))
  rw [b,bK]
theorem RQ (v:List UInt8):Et v=Fp true v:=by have:=Qf v v.length 0 (by omega);unfold Et;rw [this];rfl
theorem Qg (f l:Bool) (c:UInt8):(Bv f l c=[92,c]/\Ea c=true)\/
  (Bv f l c=[92,BI (c.toNat / 16),BI (c.toNat % 16)])\/
  (Bv f l c=[c]/\Av c=false/\Dk f l c=false/\32<=c.toNat/\c.toNat<=126):=by
 unfold Bv;split
 · rename_i h;refine .inl ⟨rfl,?_⟩;unfold Ea;simp only [dV,bA] at h⊢;rcases h with (h | h) | h
   · exact .inl (.inl (.inl h))
   · exact .inr h.1
   · exact .inl (.inl (.inr h.1))
 · rename_i h;split
   · exact .inr (.inl rfl)
   · rename_i h2;simp only [dV,az,not_or,Nat.not_lt] at h2;have h3:(Av c||(c==32&&(f||l))||(c==35&&f))=false:=by simpa using h
     refine .inr (.inr ⟨rfl,?_,?_,h2.1,h2.2⟩)
     · simp only [cg] at h3;exact h3.1.1
     · have a:(c==0)=false:=by
        rw [aV];intro e;subst e;exact absurd h2.1 (by decide)
       unfold Dk;simp only [cg] at h3⊢;exact ⟨⟨⟨h3.1.1,a⟩,h3.1.2⟩,h3.2⟩
theorem KX:∀n:Fin 16,hexOf (BI n.val)=some n.val/\Ea (BI n.val)=false/\Av (BI n.val)=false/\32<=(BI n.val).toNat/\(BI n.val).toNat<=126/\BI n.val≠92:=by decide+kernel
theorem Ad2 (c:UInt8):UInt8.ofNat (16*(c.toNat / 16)+c.toNat % 16)=c:=by rw [Nat.div_add_mod];exact ck
theorem EA (f:Bool) {d:UInt8} (h:Ea d=true) (l:List UInt8):Az f (92 :: d :: l)=(Az false l).map (d :: ·):=by
 cases l with
 | nil=>simp [Az,h]
 | cons e l=>simp [Az,h]
theorem EM (f:Bool) {d e:UInt8} {x y:Nat} (h:Ea d=false) (h1:hexOf d=some x) (h2:hexOf e=some y) (l:List UInt8):
  Az f (92 :: d :: e :: l)=(Az false l).map (UInt8.ofNat (16*x+y) :: ·):=by
 simp [Az,h,h1,h2]
theorem CZ (f:Bool) {d e:UInt8} (h:Ea d=false) (h1:hexOf d=none\/hexOf e=none) (l:List UInt8):Az f (92 :: d :: e :: l)=none:=by
 rw [Az,aP (by decide),aG (by rw [h];decide)];split
 · rename_i x y a b;rcases h1 with h1 | h1
   · rw [h1] at a;cases a
   · rw [h1] at b;cases b
 · rfl
theorem Fq (f:Bool) {d:UInt8} (h:Ea d=false):Az f [92,d]=none:=by simp [Az,h]
theorem Iu (f:Bool):Az f [92]=none:=by
 have:Dk f true 92=true:=by unfold Dk;simp [show Av 92=true from by decide]
 simp [Az,this]
theorem JA {f:Bool} {c:UInt8} (h:c≠92) {l:List UInt8} (hb:Dk f l.isEmpty c=true):Az f (c :: l)=none:=by
 match l with
 | []=>simp [Az,show Dk f true c=true from hb]
 | [d]=>simp [Az,h,show Dk f false c=true from hb]
 | d :: e :: l=>simp [Az,h,show Dk f false c=true from hb]
theorem Ii {f:Bool} {c:UInt8} (h:c≠92) {l:List UInt8} (hb:Dk f l.isEmpty c=false):Az f (c :: l)=(Az false l).map (c :: ·):=by
 match l with
 | []=>simp [Az,show Dk f true c=false from hb]
 | [d]=>have a:Dk f false c=false:=hb;by_cases hd:Dk false true d=true <;> simp [Az,h,a,hd]
 | d :: e :: l=>rw [Az,aG (by simpa using h),aG (by rw [show Dk f false c=false from hb];decide)]
theorem RU:∀(v:List UInt8) (f:Bool),Az f (Fp f v)=some v
 | [],f=>rfl
 | c :: v,f=>by
  have g:=RU v false;rcases Qg f v.isEmpty c with ⟨h,hb⟩ | h | ⟨h,k,hb,h1,h2⟩
  · show Az f (Bv f v.isEmpty c++Fp false v)=_
    rw [h];show Az f (92 :: c :: Fp false v)=_
    rw [EA f hb,g];rfl
  · show Az f (Bv f v.isEmpty c++Fp false v)=_
    rw [h];have i:=KX ⟨c.toNat / 16,by have:=c.toNat_lt;omega⟩;have j:=KX ⟨c.toNat % 16,by omega⟩;show Az f (92 :: BI (c.toNat / 16) :: BI (c.toNat % 16) :: Fp false v)=_
    rw [EM f i.2.1 i.1 j.1,g,Ad2];rfl
  · show Az f (Bv f v.isEmpty c++Fp false v)=_
    rw [h];have a:c≠92:=by intro e;subst e;exact absurd k (by decide)
    have b:(Fp false v).isEmpty=v.isEmpty:=by
     cases v with
     | nil=>rfl
     | cons d v=>rw [AeP];rfl
    show Az f (c :: Fp false v)=_
    rw [Ii a (by rw [b];exact hb),g];rfl
theorem Aby (v:List UInt8):readS (Et v)=some v:=by rw [RQ];exact RU v true
theorem Gm {sep:UInt8} (h:Av sep=true) {c:UInt8} (hc:Av c=false):c≠sep:=by intro e;subst e;rw [h] at hc;cases hc
theorem Qh {sep:UInt8} (h:Av sep=true) (h92:sep≠92):∀(v:List UInt8) (f:Bool),Be sep (Fp f v)
 | [],f=>Be.nil sep
 | c :: v,f=>by
  have d:=Qh h h92 v false;show Be sep (Bv f v.isEmpty c++Fp false v)
  refine Be.append ?_ d;rcases Qg f v.isEmpty c with ⟨e,hb⟩ | e | ⟨e,b,hb,h1,h2⟩
  · rw [e];exact Be.two h92 c
  · rw [e];have a:=KX ⟨c.toNat % 16,by omega⟩;show Be sep ([92,BI (c.toNat / 16)]++[BI (c.toNat % 16)])
    exact (Be.two h92 _).append (Be.one (Gm h a.2.2.1) a.2.2.2.2.2)
  · rw [e];exact Be.one (Gm h b) (Gm (by decide) b)
theorem Zp {sep:UInt8} (h:Av sep=true) (h92:sep≠92) (v:List UInt8):Be sep (Et v):=by rw [RQ];exact Qh h h92 v true
def EO (a:Pr):List Pr->List Pr
 | []=>[a]
 | p :: l=>if Op.bytesLess p.1 a.1 then p :: EO a l else a :: p :: l
def CE (l:List Pr):List Pr:=l.foldl (fun out a=>EO a out) []
def le2 (a b:Pr):Prop:=Op.bytesLess b.1 a.1=false
def lt2 (a b:Pr):Prop:=Op.bytesLess a.1 b.1=true
theorem MJ (a:Pr):∀l,(EO a l).Perm (a :: l)
 | []=>dZ _
 | p :: l=>by
  unfold EO;split
  · exact ((MJ a l).cons p).trans (List.Perm.swap a p l)
  · exact dZ _
theorem Qi:∀(l out:List Pr),(l.foldl (fun out a=>EO a out) out).Perm (l++out)
 | [],out=>dZ _
 | a :: l,out=>by
  show (l.foldl (fun out a=>EO a out) (EO a out)).Perm _
  refine (Qi l (EO a out)).trans ?_;exact ((MJ a out).append_left l).trans List.perm_middle
theorem KY (l:List Pr):(CE l).Perm l:=by
 have:=Qi l []
 rwa [bJ] at this
theorem Zq {x y:List UInt8} (h:Op.bytesLess x y=true):Op.bytesLess y x=false:=by have h1:=RuS.less_iff x y;have h2:=RuS.less_iff y x;have h3:=RuS.compare_swap x y;rw [h] at h1;have h4:=bB h1.symm;rw [h2,h3,h4];rfl
theorem KZ {x y z:List UInt8} (h:Op.bytesLess x y=true) (h2:Op.bytesLess y z=true):Op.bytesLess x z=true:=by rw [Proofs.bytesLess_eq,az] at h h2⊢;exact List.lt_trans h h2
theorem Xd {x y:List UInt8} (h:Op.bytesLess x y=false) (h2:Op.bytesLess y x=false):x=y:=by have e:=RuS.eq_iff x y;have h1:=RuS.less_iff x y;have h3:=RuS.less_iff y x;have h4:=RuS.compare_swap x y;have h5:=RuS.compare_range x y;rw [h] at h1;rw [h2] at h3;have h1:=ba h1.symm;have h3:=ba h3.symm;rw [aL (by omega)] at e;exact af.1 e
theorem RV {a b c:Pr} (h:le2 a b) (h2:le2 b c):le2 a c:=by
 unfold le2 at*;cases d:Op.bytesLess c.1 a.1 with
 | false=>rfl
 | true=>
  cases f:Op.bytesLess a.1 b.1 with
  | true=>have:=KZ d f;rw [h2] at this;cases this
  | false=>have e:=Xd f h;rw [e,h2] at d;cases d
theorem QW {a b:Pr} (h:lt2 a b):le2 a b:=Zq h
theorem NY (a:Pr):∀l,l.Pairwise le2->(EO a l).Pairwise le2
 | [],_=>by simp [EO]
 | p :: l,h=>by
  have d:=bz.1 h;unfold EO;split
  · rename_i c;refine bz.2 ⟨fun b hb=>?_,NY a l d.2⟩;have:=(MJ a l).mem_iff.1 hb;rcases ay.1 this with rfl | hb
    · exact QW c
    · exact d.1 b hb
  · rename_i c;have c:le2 a p:=by unfold le2;simpa using c
    refine bz.2 ⟨fun b hb=>?_,h⟩;rcases ay.1 hb with rfl | hb
    · exact c
    · exact RV c (d.1 b hb)
theorem MK:∀(l out:List Pr),out.Pairwise le2->(l.foldl (fun out a=>EO a out) out).Pairwise le2
 | [],_,h=>h
 | a :: l,out,h=>MK l (EO a out) (NY a out h)
theorem Vv (l:List Pr):(CE l).Pairwise le2:=MK l [] eI
theorem Vw:∀(l:List Pr) (last:List UInt8),chain last l=true->l.Pairwise lt2/\∀p ∈ l,Op.bytesLess last p.1=true
 | [],_,_=>⟨eI,fun p h=>by cases h⟩
 | q :: l,last,h=>by
  have c:(CL last q&&chain q.1 l)=true:=h;rw [bA] at c;obtain ⟨h1,h2⟩:=c;have a:=Vw l q.1 h2;have b:Op.bytesLess last q.1=true:=by unfold CL at h1;simp only [bA] at h1;exact h1.1.2
  refine ⟨bz.2 ⟨a.2,a.1⟩,fun p hp=>?_⟩;rcases ay.1 hp with rfl | hp
  · exact b
  · exact KZ b (a.2 p hp)
theorem ML {l:List Pr} (h:formedS l=true):l.Pairwise lt2:=by unfold formedS at h;rw [bA] at h;exact (Vw l [] h.2).1
theorem MM:∀{l:List Pr},l.Pairwise lt2->∀x ∈ l,∀y ∈ l,x≠y->lt2 x y\/lt2 y x
 | [],_,_,h,_,_,_=>by cases h
 | q :: l,h,x,hx,y,hy,hxy=>by
  have b:=bz.1 h;rcases ay.1 hx with rfl | hx1
  · rcases ay.1 hy with rfl | a
    · exact absurd rfl hxy
    · exact .inl (b.1 y a)
  · rcases ay.1 hy with rfl | a
    · exact .inr (b.1 x hx1)
    · exact MM b.2 x hx1 y a hxy
theorem LK {ys zs:List Pr} (hp:ys.Perm zs) (f:ys.Pairwise lt2) (g:zs.Pairwise le2):ys=zs:=by
 refine List.Perm.eq_of_pairwise (le:=le2) (fun a b i hb h1 h2=>?_) (f.imp QW) g hp;have d:=hp.mem_iff.2 hb;rcases Classical.em (a=b) with e | c
 · exact e
 · exfalso;rcases MM f a i b d c with h | h
   · unfold lt2 at h;unfold le2 at h2;rw [h2] at h;cases h
   · unfold lt2 at h;unfold le2 at h1;rw [h1] at h;cases h
theorem sort_same {ys xs:List Pr} (hp:ys.Perm xs) (b:ys.Pairwise le2):formedS ys=formedS (CE xs)/\(formedS ys=true->ys=CE xs):=by
 have a:ys.Perm (CE xs):=hp.trans (KY xs).symm;have h1:formedS ys=true->ys=CE xs:=fun h=>LK a (ML h) (Vv xs);refine ⟨?_,h1⟩;cases h:formedS ys with
 | true=>rw [<-h1 h];exact h.symm
 | false=>
  cases h2:formedS (CE xs) with
  | false=>rfl
  | true=>rw [LK a.symm (ML h2) b] at h2;rw [h2] at h;cases h
def nameOf (p:List UInt8):List UInt8:=p.takeWhile (· !=61)
def CG (p:List UInt8):Option Pr:=
 if p.contains 61 then
  if (RuS.typeOf (nameOf p)).1=[] then none else (readS (p.drop ((nameOf p).length+1))).map ((RuS.typeOf (nameOf p)).1,·)
 else none
def CU:List (List UInt8)->Option (List Pr)
 | []=>some []
 | p :: ps=>match CG p with
  | some a=>(CU ps).map (a :: ·)
  | none=>none
def Bh (s:List UInt8):List Pr × Int:=
 match CU (Ak 43 s) with
 | none=>([],2)
 | some ps=>if formedS (CE ps) then (CE ps,0) else ([],2)
theorem NZ:∀(ps:List (List UInt8)) (p:List UInt8),CU (ps++[p])=match CU ps,CG p with
  | some l,some a=>some (l++[a])
  | _,_=>none
 | [],p=>by
  show CU [p]=_
  unfold CU;cases CG p with
  | none=>rfl
  | some a=>rfl
 | q :: ps,p=>by
  have c:=NZ ps p;show CU (q :: (ps++[p]))=_
  unfold CU;cases CG q with
  | none=>simp
  | some b=>
   simp only;rw [c];cases CU ps with
   | none=>rfl
   | some l=>
    cases CG p with
    | none=>rfl
    | some a=>rfl
theorem Oa:∀{ps:List (List UInt8)} {p:List UInt8},p ∈ ps->CG p=none->CU ps=none
 | q :: ps,p,h,hn=>by
  unfold CU;rcases ay.1 h with rfl | h
  · rw [hn]
  · cases CG q with
    | none=>rfl
    | some b=>simp only;rw [Oa h hn];rfl
theorem Qj:∀{ps:List (List UInt8)} {l:List Pr},CU ps=some l->l.length=ps.length
 | [],l,h=>by cases h;rfl
 | q :: ps,l,h=>by
  unfold CU at h;cases a:CG q with
  | none=>rw [a] at h;cases h
  | some b=>
   rw [a] at h;cases hp:CU ps with
   | none=>simp only [hp] at h;cases h
   | some l2=>simp only [hp] at h;have:=Qj hp;have:=aU h;subst this;simp only [aO];omega
theorem Jg (l:List Pr):(CE l).length=l.length:=(KY l).length_eq
end Go.Proofs.YtgngjfjaelgaeaaGreatDoor.RdS
namespace Go.Proofs.YtgngjfjaelgaeaaGreatDoor.RdS
open Go.Lib
theorem join_snoc (X:List (List UInt8)) (y s:List UInt8):Lib.join (X++[y]) s=if X.isEmpty then y else Lib.join X s++s++y:=by
 cases X with
 | nil=>simp [Lib.join_one]
 | cons x X=>
  simp only [List.isEmpty_cons,bN,cC];unfold Lib.join List.intercalate
  induction X generalizing x with
  | nil=>simp [List.intersperse]
  | cons z Z a=>have:=a z;simp only [List.cons_append,List.intersperse_cons_cons,List.flatten_cons,bK] at this⊢;rw [this]
theorem JS (l:List Pr):∀k,k<=l.length->Bc l k=Lib.join ((l.take k).map pairT) [43]
 | 0,_=>by simp [Bc,Lib.join,List.intercalate]
 | k+1,h=>by
  have hk:k<l.length:=by omega
  rw [Ih l k hk,JS l k (by omega),aX hk,bP,List.map_singleton,join_snoc];cases k with
  | zero=>simp [Lib.join,List.intercalate]
  | succ k=>
   have e:((l.take (k+1)).map pairT).isEmpty=false:=by rw [fN];intro h2;have h3:=congrArg List.length h2;rw [b7,au,aS] at h3;omega
   rw [aG (by omega),e,aG (by decide)]
theorem La {sep:UInt8}:∀(Ps:List (List UInt8)),Ps≠[]->(∀p ∈ Ps,Be sep p)->Ak sep (Lib.join Ps [sep])=Ps
 | [],h,_=>absurd rfl h
 | [p],_,hn=>by rw [Lib.join_one];exact (hn p (ak.2 rfl)).split
 | p :: q :: r,_,hn=>by rw [RuS.join_cons_cons];have a:=La (sep:=sep) (q :: r) (by simp) (fun x hx=>hn x (ar _ hx));rw [show p++[sep]++Lib.join (q :: r) [sep]=p++sep :: Lib.join (q :: r) [sep] from by simp];rw [(hn p (ai ..)).split_sep,a]
theorem Xe:∀r ∈ RuS.tab,∀c ∈ r.2.1,65<=c.toNat/\c.toNat<=122/\c≠92:=by decide+kernel
theorem MN (nm:List UInt8):∀c ∈ (RuS.typeOf nm).1,65<=c.toNat/\c.toNat<=122/\c≠92:=by
 unfold RuS.typeOf RuS.typeM;cases h:RuS.tab.find? (fun r=>RuS.lower nm==r.1) with
 | none=>intro c hc;cases hc
 | some r=>exact Xe r (dO h)
theorem MO {last:List UInt8} {p:Pr} (h:CL last p=true):(RuS.typeOf p.1).1=p.1/\((RuS.typeOf p.1).2=1\/(RuS.typeOf p.1).2=3)/\Op.bytesLess last p.1=true/\(RuS.normal p.1 p.2).2=0:=by unfold CL at h;simp only [bA,dV,af] at h;exact ⟨h.1.1.1,h.1.1.2,h.1.2,h.2⟩
theorem RX:∀{l:List Pr} {last:List UInt8},chain last l=true->∀p ∈ l,∃la,CL la p=true
 | q :: l,last,h,p,hp=>by
  have a:(CL last q&&chain q.1 l)=true:=h;rw [bA] at a;rcases ay.1 hp with rfl | hp
  · exact ⟨_,a.1⟩
  · exact RX a.2 p hp
theorem Hg {l:List Pr} (h:formedS l=true):1<=l.length/\l.length<=3/\chain [] l=true/\∀p ∈ l,(RuS.typeOf p.1).1=p.1/\((RuS.typeOf p.1).2=1\/(RuS.typeOf p.1).2=3)/\(RuS.normal p.1 p.2).2=0:=by unfold formedS at h;simp only [bA,az] at h;refine ⟨h.1.1,h.1.2,h.2,fun p hp=>?_⟩;obtain ⟨la,a⟩:=RX h.2 p hp;have:=MO a;exact ⟨this.1,this.2.1,this.2.2.2⟩
theorem Ye {nm:List UInt8} (h:(RuS.typeOf nm).2=1\/(RuS.typeOf nm).2=3):(RuS.typeOf nm).1≠[]:=by
 rcases RuS.typeM_all (RuS.lower nm) with e | e
 · have a:RuS.typeOf nm=([],0):=e;rw [a] at h;simp at h
 · have a:1<=(RuS.typeOf nm).1.length:=e.2.2.1;intro h0;rw [h0] at a;simp at a
theorem Kv {t u:List UInt8} (h:∀c ∈ t,c≠61):(t++61 :: u).takeWhile (· !=61)=t:=by
 induction t with
 | nil=>simp
 | cons c t a=>have hc:=h c (ai ..);rw [List.cons_append,cX,aP (by simpa using hc),a (fun d hd=>h d (ar _ hd))]
theorem Abz {p:Pr} (h1:(RuS.typeOf p.1).1=p.1) (h2:(RuS.typeOf p.1).2=1\/(RuS.typeOf p.1).2=3):CG (pairT p)=some p:=by
 have a:=MN p.1;rw [h1] at a;have b:=Ye h2;rw [h1] at b;have e:pairT p=p.1++61 :: Et p.2:=by unfold pairT;simp
 have f:nameOf (pairT p)=p.1:=by unfold nameOf;rw [e];exact Kv (fun c hc=>by intro h;subst h;exact absurd (a _ hc).1 (by decide))
 unfold CG;rw [f,aP (by rw [e,cZ];simp),h1,aG b];have d:(pairT p).drop (p.1.length+1)=Et p.2:=by rw [e,List.drop_append];simp
 rw [d,Aby];rfl
theorem Ob {sep:UInt8} (b:Av sep=true) (h9:sep≠92) (d:sep.toNat<65) {p:Pr} (h1:(RuS.typeOf p.1).1=p.1):Be sep (pairT p):=by have a:=MN p.1;rw [h1] at a;unfold pairT;refine Be.append (Be.append (Be.all (fun c hc=>⟨?_,(a c hc).2.2⟩)) (Be.one (Gm b (by decide)) (by decide))) (Zp b h9 p.2);intro h;subst h;have:=(a _ hc).1;omega
theorem Vx {sep:UInt8} (d:Av sep=true) (h9:sep≠92) (c:sep.toNat<65) (h43:sep≠43) {l:List Pr} (h:formedS l=true):Be sep (Bc l l.length):=by
 obtain ⟨g1,g2,g3,g4⟩:=Hg h;rw [JS l _ (aA _),bE];have a:∀p ∈ l.map pairT,Be sep p:=by intro x hx;obtain ⟨p,hp,rfl⟩:=bD.1 hx;exact Ob d h9 c (g4 p hp).1
 generalize l.map pairT=Ps at a;clear g1 g2 g3 g4
 induction Ps with
 | nil=>simpa [Lib.join,List.intercalate] using Be.nil sep
 | cons p r b=>
  cases r with
  | nil=>rw [Lib.join_one];exact a p (ai ..)
  | cons q r=>rw [RuS.join_cons_cons];exact ((a p (ai ..)).append (Be.one (fun e=>h43 e.symm) (by decide))).append (b (fun x hx=>a x (ar _ hx)))
theorem Qk:∀{l:List Pr},(∀p ∈ l,CG (pairT p)=some p)->CU (l.map pairT)=some l
 | [],_=>rfl
 | p :: l,h=>by rw [cz];unfold CU;rw [h p (ai ..)];simp only;rw [Qk (fun q a=>h q (ar _ a))];rfl
theorem Xf {l:List Pr} (h:formedS l=true):CE l=l:=((sort_same (dZ l) ((ML h).imp QW)).2 h).symm
theorem Ab0 {l:List Pr} (h:formedS l=true):Bh (Bc l l.length)=(l,0):=by
 obtain ⟨g1,g2,g3,g4⟩:=Hg h;have e:Ak 43 (Bc l l.length)=l.map pairT:=by
  rw [JS l _ (aA _),bE];refine La _ ?_ ?_
  · intro h0;have:=congrArg List.length h0;rw [b7] at this;simp at this;rw [this] at g1;simp at g1
  · intro x hx;obtain ⟨p,hp,rfl⟩:=bD.1 hx;exact Ob (by decide) (by decide) (by decide) (g4 p hp).1
 unfold Bh;rw [e,Qk (fun p hp=>Abz (g4 p hp).1 (g4 p hp).2.1)];simp only;rw [Xf h,aP h]
theorem Xg {s:List UInt8} {l:List Pr} (h:Bh s=(l,0)):formedS l=true:=by
 unfold Bh at h;split at h
 · cases h
 · rename_i ps hp;split at h
   · rename_i a;cases h;exact a
   · cases h
theorem RY {s:List UInt8} (h:(Bh s).2≠0):Bh s=([],2):=by
 unfold Bh at h⊢;split
 · rfl
 · rename_i ps hp;rw [hp] at h;simp only at h;split
   · rename_i a;rw [aP a] at h;exact absurd rfl h
   · rfl
def AU (l:List Pr):List Pr:=l.map fun p=>(p.1,(RuS.normal p.1 p.2).1)
def normP (l:List Pr):List Pr × Int:=if formedS l then (AU l,0) else ([],1)
theorem Xh {last:List UInt8} {p:Pr} (h:CL last p=true):CL last (p.1,(RuS.normal p.1 p.2).1)=true/\(RuS.normal p.1 (RuS.normal p.1 p.2).1).1=(RuS.normal p.1 p.2).1:=by
 obtain ⟨h1,h2,h3,h4⟩:=MO h;have b:RuS.normal p.1 p.2=((RuS.normal p.1 p.2).1,0):=by rw [<-h4]
 have a:=RuS.normal_idem b;refine ⟨?_,by rw [a]⟩;unfold CL;simp only [bA,dV,af];exact ⟨⟨⟨h1,h2⟩,h3⟩,by rw [a]⟩
theorem Ql:∀{l:List Pr} {last:List UInt8},chain last l=true->chain last (AU l)=true/\AU (AU l)=AU l
 | [],_,_=>⟨rfl,rfl⟩
 | q :: l,last,h=>by
  have a:(CL last q&&chain q.1 l)=true:=h;rw [bA] at a;have h1:=Xh a.1;have b:=Ql a.2;refine ⟨?_,?_⟩
  · show (CL last (q.1,(RuS.normal q.1 q.2).1)&&chain q.1 (AU l))=true
    rw [h1.1,b.1];rfl
  · show (q.1,(RuS.normal q.1 (RuS.normal q.1 q.2).1).1) :: AU (AU l)=(q.1,(RuS.normal q.1 q.2).1) :: AU l
    rw [h1.2,b.2]
theorem Fv (l:List Pr):(AU l).length=l.length:=by unfold AU;rw [b7]
theorem DN {l:List Pr} (h:formedS l=true):formedS (AU l)=true/\AU (AU l)=AU l:=by unfold formedS at h⊢;simp only [bA,az] at h;have:=Ql h.2;refine ⟨?_,this.2⟩;rw [Fv,this.1,aL h.1.1,aL h.1.2];rfl
theorem Vy (v:List UInt8):(Et v).length<=3*v.length:=Jw v v.length (aA _)
theorem Ab1 (p:Pr):(pairT p).length<=p.1.length+1+3*p.2.length:=by have:=Vy p.2;unfold pairT;simp only [aT,aO,aS];omega
theorem Qm (l:List Pr) (m:Nat) (h:∀p ∈ l,p.1.length<=m/\p.2.length<=m):∀k,k<=l.length->(Bc l k).length<=k*(4*m+2)
 | 0,_=>by simp [Bc]
 | k+1,hk=>by
  have a:k<l.length:=by omega
  have b:=Qm l m h k (by omega);have h1:=Ab1 l[k];have h2:=h l[k] (aZ a);rw [Ih l k a,aT,aT];have h3:(if k=0 then ([]:List UInt8) else [43]).length<=1:=by split <;> simp
  have h4:(k+1)*(4*m+2)=k*(4*m+2)+(4*m+2):=by rw [dI,eN]
  omega
theorem EG {l:List Pr} (h:formedS l=true):l.length<=3/\∀p ∈ l,p.1.length<=17/\p.2.length<=200:=by
 obtain ⟨g1,g2,g3,g4⟩:=Hg h;refine ⟨g2,fun p hp=>?_⟩;obtain ⟨h1,h2,h3⟩:=g4 p hp;refine ⟨?_,?_⟩
 · rw [<-h1];rcases RuS.typeM_all (RuS.lower p.1) with e | e
   · have:RuS.typeOf p.1=([],0):=e;rw [this];simp
   · exact e.2.2.2
 · exact (RuS.normal_ok (nm:=p.1) (v:=p.2) (s:=(RuS.normal p.1 p.2).1) (by rw [<-h3])).2.2.1
theorem Lc {l:List Pr} (h:formedS l=true) (k:Nat) (hk:k<=l.length):(Bc l k).length<=3000:=by
 have a:=EG h;have:=Qm l 200 (fun p hp=>⟨by have:=(a.2 p hp).1;omega,(a.2 p hp).2⟩) k hk;have h2:k<=3:=by omega
 have:k*(4*200+2)<=3*(4*200+2):=bp _ h2;omega
end Go.Proofs.YtgngjfjaelgaeaaGreatDoor.RdS
