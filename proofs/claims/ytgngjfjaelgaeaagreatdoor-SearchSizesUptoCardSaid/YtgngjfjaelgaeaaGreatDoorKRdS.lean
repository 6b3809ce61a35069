/- Plain laws of parts of names (pairs of a type and a value): how they are written, cut and read. Conditions: as stated. -/
import Derived.Sort.Walk0
import Derived.Test.YtgngjfjaelgaeaaGreatDoorKRuS
namespace Go.Proofs.YtgngjfjaelgaeaaGreatDoor.RdS
open Go.Lib
abbrev Pr:=List UInt8 × List UInt8
def Eb:List UInt8:=[44,43,34,92,60,62,59]
def Ar (c:UInt8):Bool:=Eb.contains c
def hexL:List UInt8:=[48,49,50,51,52,53,54,55,56,57,97,98,99,100,101,102]
def Bj (n:Nat):UInt8:=hexL.getD n 0
def Bd (first last:Bool) (c:UInt8):List UInt8:=
 if Ar c||(c==32&&(first||last))||(c==35&&first) then [92,c]
 else if decide (c.toNat<32)||decide (126<c.toNat) then [92,Bj (c.toNat / 16),Bj (c.toNat % 16)]
 else [c]
def CX (v:List UInt8):Nat->List UInt8
 | 0=>[]
 | k+1=>CX v k++(match v[k]? with
  | some c=>Bd (decide (k=0)) (decide (k+1=v.length)) c
  | none=>[])
def Ec (v:List UInt8):List UInt8:=CX v v.length
theorem Ip (v:List UInt8) (k:Nat) (h:k<v.length):CX v (k+1)=CX v k++Bd (decide (k=0)) (decide (k+1=v.length)) v[k]:=by
 have e:CX v (k+1)=CX v k++(match v[k]? with
  | some c=>Bd (decide (k=0)) (decide (k+1=v.length)) c
  | none=>[]):=rfl
 rw [e,List.getElem?_eq_getElem h]
theorem Uw (a b:Bool) (c:UInt8):(Bd a b c).length<=3/\1<=(Bd a b c).length:=by
 unfold Bd
 split
 · exact ⟨by simp,by simp⟩
 · split
   · exact ⟨by simp,by simp⟩
   · exact ⟨by simp,by simp⟩
theorem Je (v:List UInt8):∀k,k<=v.length->(CX v k).length<=3*k
 | 0,_=>by simp [CX]
 | k+1,h=>by
  rw [Ip v k h,List.length_append]
  have:=Je v k (by omega)
  have:=(Uw (decide (k=0)) (decide (k+1=v.length)) v[k]).1
  omega
def Cb (last:List UInt8) (p:Pr):Bool:=
 ((RuS.typeOf p.1).1==p.1)&&((RuS.typeOf p.1).2==1||(RuS.typeOf p.1).2==3)&&Op.bytesLess last p.1&&((RuS.normal p.1 p.2).2==0)
def chain:List UInt8->List Pr->Bool
 | _,[]=>true
 | last,p :: l=>Cb last p&&chain p.1 l
def formedS (l:List Pr):Bool:=decide (1<=l.length)&&decide (l.length<=3)&&chain [] l
def DU (l:List Pr):Nat->List UInt8
 | 0=>[]
 | k+1=>match l[k]? with
  | some p=>p.1
  | none=>[]
def Ib (l:List Pr):Nat->Bool
 | 0=>true
 | k+1=>Ib l k&&(match l[k]? with
  | some p=>Cb (DU l k) p
  | none=>true)
theorem Jf (l:List Pr) (k:Nat) (h:k<l.length):Ib l (k+1)=(Ib l k&&Cb (DU l k) l[k]):=by
 have e:Ib l (k+1)=(Ib l k&&(match l[k]? with | some p=>Cb (DU l k) p | none=>true)):=rfl
 rw [e,List.getElem?_eq_getElem h]
theorem KG (l:List Pr) (k:Nat) (h:k<l.length):DU l (k+1)=l[k].1:=by
 have e:DU l (k+1)=(match l[k]? with | some p=>p.1 | none=>[]):=rfl
 rw [e,List.getElem?_eq_getElem h]
theorem Ph {l:List Pr} {k:Nat} (h:k<l.length) (hp:Cb (DU l k) l[k]=false):∀n,k<n->Ib l n=false:=by
 intro n
 induction n with
 | zero=>intro h;omega
 | succ n ih=>
  intro hn
  by_cases e:n=k
  · subst e;rw [Jf l n h,hp,Bool.and_false]
  · have:=ih (by omega)
    show (Ib l n&&_)=false
    rw [this];rfl
theorem Pi:∀(l:List Pr) (last:List UInt8) (p:Pr),chain last (l++[p])=(chain last l&&Cb (match l.getLast? with | some q=>q.1 | none=>last) p)
 | [],last,p=>by simp [chain]
 | q :: r,last,p=>by
  rw [List.cons_append]
  show (Cb last q&&chain q.1 (r++[p]))=_
  rw [Pi r q.1 p]
  cases r with
  | nil=>simp [chain]
  | cons a r=>
   rw [List.getLast?_cons_cons]
   cases h:(a :: r).getLast? with
   | none=>simp at h
   | some z=>simp only [chain,Bool.and_assoc]
theorem Pj (l:List Pr):∀k,k<=l.length->Ib l k=chain [] (l.take k)
 | 0,_=>by simp [Ib,chain]
 | k+1,h=>by
  rw [Jf l k h,Pj l k (by omega),List.take_succ_eq_append_getElem h,Pi]
  congr 1
  cases k with
  | zero=>rfl
  | succ k=>
   rw [KG l k (by omega)]
   have hk:k<l.length:=by omega
   rw [List.take_succ_eq_append_getElem hk,List.getLast?_concat]
theorem Nv (l:List Pr):formedS l=(decide (1<=l.length)&&decide (l.length<=3)&&Ib l l.length):=by
 unfold formedS
 rw [Pj l l.length (Nat.le_refl _),List.take_length]
def pairT (p:Pr):List UInt8:=p.1++[61]++Ec p.2
def AQ (l:List Pr):Nat->List UInt8
 | 0=>[]
 | k+1=>AQ l k++(if k=0 then [] else [43])++(match l[k]? with
  | some p=>pairT p
  | none=>[])
def printS (l:List Pr):List UInt8 × Int:=if formedS l then (AQ l l.length,0) else ([],1)
theorem Hh (l:List Pr) (k:Nat) (h:k<l.length):AQ l (k+1)=AQ l k++(if k=0 then [] else [43])++pairT l[k]:=by
 have e:AQ l (k+1)=AQ l k++(if k=0 then [] else [43])++(match l[k]? with | some p=>pairT p | none=>[]):=rfl
 rw [e,List.getElem?_eq_getElem h]
def glue (p:List UInt8):List (List UInt8)->List (List UInt8)
 | []=>[p]
 | q :: qs=>(p++q) :: qs
def Aj (sep:UInt8):List UInt8->List (List UInt8)
 | []=>[[]]
 | [b]=>if b==sep then [[],[]] else [[b]]
 | b :: d :: l=>if b==sep then [] :: Aj sep (d :: l) else if b==92 then glue [b,d] (Aj sep l) else glue [b] (Aj sep (d :: l))
def hexOf (c:UInt8):Option Nat:=
 if 48<=c.toNat/\c.toNat<=57 then some (c.toNat - 48)
 else if 97<=c.toNat/\c.toNat<=102 then some (c.toNat - 97+10)
 else if 65<=c.toNat/\c.toNat<=70 then some (c.toNat - 65+10)
 else none
def DD (c:UInt8):Bool:=Ar c||c==35||c==61||c==32
def CY (first last:Bool) (c:UInt8):Bool:=Ar c||c==0||(c==32&&(first||last))||(c==35&&first)
def Az:Bool->List UInt8->Option (List UInt8)
 | _,[]=>some []
 | first,[c]=>if CY first true c then none else some [c]
 | first,[c,d]=>
  if c==92 then (if DD d then some [d] else none)
  else if CY first false c then none else if CY false true d then none else some [c,d]
 | first,c :: d :: e :: l=>
  if c==92 then
   if DD d then (Az false (e :: l)).map (d :: ·)
   else match hexOf d,hexOf e with
    | some x,some y=>(Az false l).map (UInt8.ofNat (16*x+y) :: ·)
    | _,_=>none
  else if CY first false c then none else (Az false (d :: e :: l)).map (c :: ·)
def readS (l:List UInt8):Option (List UInt8):=Az true l
end Go.Proofs.YtgngjfjaelgaeaaGreatDoor.RdS
namespace Go.Proofs.YtgngjfjaelgaeaaGreatDoor.RdS
open Go.Lib
theorem AcP (q:List UInt8) (X:List (List UInt8)):glue [] (q :: X)=q :: X:=rfl
theorem Jg (p q:List UInt8) (X:List (List UInt8)):glue p (glue q X)=glue (p++q) X:=by
 cases X <;> simp [glue]
theorem Hq (p q:List UInt8) (X:List (List UInt8)):glue p (q :: X)=(p++q) :: X:=rfl
theorem Aea (p:List UInt8) (X:List (List UInt8)):∃q Y,glue p X=q :: Y:=by
 cases X with
 | nil=>exact ⟨_,_,rfl⟩
 | cons q Y=>exact ⟨_,_,rfl⟩
theorem Ux (p:List UInt8) (X:List (List UInt8)) (h:X≠[]):(glue p X).length=X.length:=by
 cases X with
 | nil=>exact absurd rfl h
 | cons q Y=>rfl
theorem Cm (sep:UInt8) (l:List UInt8):∃p ps,Aj sep l=p :: ps:=by
 match l with
 | []=>exact ⟨_,_,rfl⟩
 | [b]=>unfold Aj;split <;> exact ⟨_,_,rfl⟩
 | b :: d :: l=>
  unfold Aj
  split
  · exact ⟨_,_,rfl⟩
  · split <;> exact Aea _ _
theorem KH {sep:UInt8} (l:List UInt8):Aj sep (sep :: l)=[] :: Aj sep l:=by
 match l with
 | []=>simp [Aj]
 | d :: l=>simp [Aj]
theorem JP {sep:UInt8} (h:sep≠92):Aj sep [92]=[[92]]:=by
 unfold Aj;rw [if_neg (by simpa using fun e=>h e.symm)]
theorem Ic {sep:UInt8} (h:sep≠92) (d:UInt8) (l:List UInt8):Aj sep (92 :: d :: l)=glue [92,d] (Aj sep l):=by
 rw [Aj,if_neg (by simpa using fun e=>h e.symm),if_pos (by decide)]
theorem IJ {sep b:UInt8} (h1:b≠sep) (h2:b≠92) (l:List UInt8):Aj sep (b :: l)=glue [b] (Aj sep l):=by
 match l with
 | []=>simp [Aj,h1,glue]
 | d :: l=>rw [Aj,if_neg (by simpa using h1),if_neg (by simpa using h2)]
theorem Iq {sep:UInt8}:∀l:List UInt8,(Aj sep l).length<=l.length+1
 | []=>by simp [Aj]
 | [b]=>by unfold Aj;split <;> simp
 | b :: d :: l=>by
  have h1:=Iq (sep:=sep) (d :: l)
  have h2:=Iq (sep:=sep) l
  unfold Aj
  split
  · simp only [List.length_cons] at h1⊢;omega
  · obtain ⟨p,ps,e1⟩:=Cm sep l
    obtain ⟨q,qs,e2⟩:=Cm sep (d :: l)
    split
    · rw [Ux _ _ (by rw [e1];simp)];simp only [List.length_cons];omega
    · rw [Ux _ _ (by rw [e2];simp)];simp only [List.length_cons] at h1⊢;omega
theorem Ei {sep:UInt8}:∀(l:List UInt8),∀p ∈ Aj sep l,p.length<=l.length
 | [],p,h=>by simp [Aj] at h;subst h;simp
 | [b],p,h=>by
  unfold Aj at h
  split at h
  · simp at h;subst h;simp
  · simp at h;subst h;simp
 | b :: d :: l,p,h=>by
  have h1:=Ei (sep:=sep) (d :: l)
  have h2:=Ei (sep:=sep) l
  obtain ⟨p1,A0,e1⟩:=Cm sep l
  obtain ⟨p2,A1,e2⟩:=Cm sep (d :: l)
  rw [e1] at h2;rw [e2] at h1
  unfold Aj at h
  rw [e1,e2] at h
  split at h
  · rcases List.mem_cons.1 h with rfl | h
    · simp
    · have:=h1 p h;simp only [List.length_cons] at this⊢;omega
  · split at h
    · rw [Hq] at h
      rcases List.mem_cons.1 h with rfl | h
      · have:=h2 p1 (List.mem_cons_self ..);simp only [List.length_append,List.length_cons,List.length_nil];omega
      · have:=h2 p (List.mem_cons_of_mem _ h);simp only [List.length_cons];omega
    · rw [Hq] at h
      rcases List.mem_cons.1 h with rfl | h
      · have:=h1 p2 (List.mem_cons_self ..);simp only [List.length_append,List.length_cons,List.length_nil] at this⊢;omega
      · have:=h1 p (List.mem_cons_of_mem _ h);simp only [List.length_cons] at this⊢;omega
def AU (sep:UInt8) (x:List UInt8):Prop:=∀y,Aj sep (x++y)=glue x (Aj sep y)
theorem AU.nil (sep:UInt8):AU sep []:=fun y=>by obtain ⟨p,ps,e⟩:=Cm sep y;rw [List.nil_append,e,AcP]
theorem AU.append {sep:UInt8} {a b:List UInt8} (ha:AU sep a) (hb:AU sep b):AU sep (a++b):=fun y=>by
 rw [List.append_assoc,ha,hb,Jg]
theorem AU.one {sep c:UInt8} (h1:c≠sep) (h2:c≠92):AU sep [c]:=fun y=>IJ h1 h2 y
theorem AU.two {sep:UInt8} (h:sep≠92) (c:UInt8):AU sep [92,c]:=fun y=>Ic h c y
theorem AU.all {sep:UInt8}:∀{l:List UInt8},(∀c ∈ l,c≠sep/\c≠92)->AU sep l
 | [],_=>AU.nil sep
 | c :: l,h=>by
  have h1:=h c (List.mem_cons_self ..)
  exact (AU.one h1.1 h1.2).append (AU.all (fun d hd=>h d (List.mem_cons_of_mem _ hd)))
theorem AU.split {sep:UInt8} {x:List UInt8} (h:AU sep x):Aj sep x=[x]:=by
 have:=h []
 rw [List.append_nil] at this
 rw [this];simp [Aj,glue]
theorem AU.split_sep {sep:UInt8} {x:List UInt8} (h:AU sep x) (y:List UInt8):Aj sep (x++sep :: y)=x :: Aj sep y:=by
 rw [h,KH,Hq,List.append_nil]
def EQ:Bool->List UInt8->List UInt8
 | _,[]=>[]
 | first,c :: l=>Bd first l.isEmpty c++EQ false l
theorem Aeb (f:Bool) (c:UInt8) (l:List UInt8):(EQ f (c :: l)).isEmpty=false:=by
 have:=(Uw f l.isEmpty c).2
 unfold EQ
 rw [List.isEmpty_eq_false_iff]
 intro h
 have h2:=congrArg List.length h
 rw [List.length_append,List.length_nil] at h2
 omega
theorem Pm (v:List UInt8):∀n k,k+n=v.length->CX v v.length=CX v k++EQ (decide (k=0)) (v.drop k)
 | 0,k,h=>by
  have:k=v.length:=by omega
  subst this
  rw [List.drop_length];simp [EQ]
 | n+1,k,h=>by
  have hk:k<v.length:=by omega
  rw [Pm v n (k+1) (by omega),Ip v k hk,List.drop_eq_getElem_cons hk]
  have e1:decide (k+1=0)=false:=by simp
  rw [e1]
  have e2:(v.drop (k+1)).isEmpty=decide (k+1=v.length):=by
   rw [Bool.eq_iff_iff,List.isEmpty_iff,List.drop_eq_nil_iff,decide_eq_true_eq];omega
  show _=CX v k++(Bd (decide (k=0)) (v.drop (k+1)).isEmpty v[k]++EQ false (v.drop (k+1)))
  rw [e2,List.append_assoc]
theorem Ri (v:List UInt8):Ec v=EQ true v:=by
 have:=Pm v v.length 0 (by omega)
 unfold Ec
 rw [this];rfl
theorem Pn (f l:Bool) (c:UInt8):(Bd f l c=[92,c]/\DD c=true)\/
  (Bd f l c=[92,Bj (c.toNat / 16),Bj (c.toNat % 16)])\/
  (Bd f l c=[c]/\Ar c=false/\CY f l c=false/\32<=c.toNat/\c.toNat<=126):=by
 unfold Bd
 split
 · rename_i h
   refine .inl ⟨rfl,?_⟩
   unfold DD
   simp only [Bool.or_eq_true,Bool.and_eq_true] at h⊢
   rcases h with (h | h) | h
   · exact .inl (.inl (.inl h))
   · exact .inr h.1
   · exact .inl (.inl (.inr h.1))
 · rename_i h
   split
   · exact .inr (.inl rfl)
   · rename_i h2
     simp only [Bool.or_eq_true,decide_eq_true_eq,not_or,Nat.not_lt] at h2
     have h3:(Ar c||(c==32&&(f||l))||(c==35&&f))=false:=by simpa using h
     refine .inr (.inr ⟨rfl,?_,?_,h2.1,h2.2⟩)
     · simp only [Bool.or_eq_false_iff] at h3;exact h3.1.1
     · have hz:(c==0)=false:=by
        rw [beq_eq_false_iff_ne];intro e;subst e;exact absurd h2.1 (by decide)
       unfold CY
       simp only [Bool.or_eq_false_iff] at h3⊢
       exact ⟨⟨⟨h3.1.1,hz⟩,h3.1.2⟩,h3.2⟩
theorem KI:∀n:Fin 16,hexOf (Bj n.val)=some n.val/\DD (Bj n.val)=false/\Ar (Bj n.val)=false/\32<=(Bj n.val).toNat/\(Bj n.val).toNat<=126/\Bj n.val≠92:=by decide+kernel
theorem AcQ (c:UInt8):UInt8.ofNat (16*(c.toNat / 16)+c.toNat % 16)=c:=by
 rw [Nat.div_add_mod];exact UInt8.ofNat_toNat
theorem Ee (f:Bool) {d:UInt8} (h:DD d=true) (l:List UInt8):Az f (92 :: d :: l)=(Az false l).map (d :: ·):=by
 cases l with
 | nil=>simp [Az,h]
 | cons e l=>simp [Az,h]
theorem Eo (f:Bool) {d e:UInt8} {x y:Nat} (h:DD d=false) (h1:hexOf d=some x) (h2:hexOf e=some y) (l:List UInt8):
  Az f (92 :: d :: e :: l)=(Az false l).map (UInt8.ofNat (16*x+y) :: ·):=by
 simp [Az,h,h1,h2]
theorem CP (f:Bool) {d e:UInt8} (h:DD d=false) (h1:hexOf d=none\/hexOf e=none) (l:List UInt8):Az f (92 :: d :: e :: l)=none:=by
 rw [Az,if_pos (by decide),if_neg (by rw [h];decide)]
 split
 · rename_i x y e1 e2
   rcases h1 with h1 | h1
   · rw [h1] at e1;cases e1
   · rw [h1] at e2;cases e2
 · rfl
theorem ER (f:Bool) {d:UInt8} (h:DD d=false):Az f [92,d]=none:=by
 simp [Az,h]
theorem Hr (f:Bool):Az f [92]=none:=by
 have:CY f true 92=true:=by unfold CY;simp [show Ar 92=true from by decide]
 simp [Az,this]
theorem Jh {f:Bool} {c:UInt8} (h:c≠92) {l:List UInt8} (hb:CY f l.isEmpty c=true):Az f (c :: l)=none:=by
 match l with
 | []=>simp [Az,show CY f true c=true from hb]
 | [d]=>simp [Az,h,show CY f false c=true from hb]
 | d :: e :: l=>simp [Az,h,show CY f false c=true from hb]
theorem Hj {f:Bool} {c:UInt8} (h:c≠92) {l:List UInt8} (hb:CY f l.isEmpty c=false):Az f (c :: l)=(Az false l).map (c :: ·):=by
 match l with
 | []=>simp [Az,show CY f true c=false from hb]
 | [d]=>
  have A0:CY f false c=false:=hb
  by_cases hd:CY false true d=true <;> simp [Az,h,A0,hd]
 | d :: e :: l=>rw [Az,if_neg (by simpa using h),if_neg (by rw [show CY f false c=false from hb];decide)]
theorem Rj:∀(v:List UInt8) (f:Bool),Az f (EQ f v)=some v
 | [],f=>rfl
 | c :: v,f=>by
  have ih:=Rj v false
  rcases Pn f v.isEmpty c with ⟨h,hb⟩ | h | ⟨h,hs,hb,h1,h2⟩
  · show Az f (Bd f v.isEmpty c++EQ false v)=_
    rw [h]
    show Az f (92 :: c :: EQ false v)=_
    rw [Ee f hb,ih];rfl
  · show Az f (Bd f v.isEmpty c++EQ false v)=_
    rw [h]
    have hh:=KI ⟨c.toNat / 16,by have:=c.toNat_lt;omega⟩
    have hl:=KI ⟨c.toNat % 16,by omega⟩
    show Az f (92 :: Bj (c.toNat / 16) :: Bj (c.toNat % 16) :: EQ false v)=_
    rw [Eo f hh.2.1 hh.1 hl.1,ih,AcQ];rfl
  · show Az f (Bd f v.isEmpty c++EQ false v)=_
    rw [h]
    have A0:c≠92:=by intro e;subst e;exact absurd hs (by decide)
    have A1:(EQ false v).isEmpty=v.isEmpty:=by
     cases v with
     | nil=>rfl
     | cons d v=>rw [Aeb];rfl
    show Az f (c :: EQ false v)=_
    rw [Hj A0 (by rw [A1];exact hb),ih];rfl
theorem AaD (v:List UInt8):readS (Ec v)=some v:=by rw [Ri];exact Rj v true
theorem FU {sep:UInt8} (h:Ar sep=true) {c:UInt8} (hc:Ar c=false):c≠sep:=by
 intro e;subst e;rw [h] at hc;cases hc
theorem Po {sep:UInt8} (h:Ar sep=true) (h92:sep≠92):∀(v:List UInt8) (f:Bool),AU sep (EQ f v)
 | [],f=>AU.nil sep
 | c :: v,f=>by
  have ih:=Po h h92 v false
  show AU sep (Bd f v.isEmpty c++EQ false v)
  refine AU.append ?_ ih
  rcases Pn f v.isEmpty c with ⟨e,hb⟩ | e | ⟨e,hs,hb,h1,h2⟩
  · rw [e];exact AU.two h92 c
  · rw [e]
    have hl:=KI ⟨c.toNat % 16,by omega⟩
    show AU sep ([92,Bj (c.toNat / 16)]++[Bj (c.toNat % 16)])
    exact (AU.two h92 _).append (AU.one (FU h hl.2.2.1) hl.2.2.2.2.2)
  · rw [e]
    exact AU.one (FU h hs) (FU (by decide) hs)
theorem Yo {sep:UInt8} (h:Ar sep=true) (h92:sep≠92) (v:List UInt8):AU sep (Ec v):=by rw [Ri];exact Po h h92 v true
def Ep (a:Pr):List Pr->List Pr
 | []=>[a]
 | p :: l=>if Op.bytesLess p.1 a.1 then p :: Ep a l else a :: p :: l
def BU (l:List Pr):List Pr:=l.foldl (fun out a=>Ep a out) []
def le2 (a b:Pr):Prop:=Op.bytesLess b.1 a.1=false
def lt2 (a b:Pr):Prop:=Op.bytesLess a.1 b.1=true
theorem LU (a:Pr):∀l,(Ep a l).Perm (a :: l)
 | []=>List.Perm.refl _
 | p :: l=>by
  unfold Ep
  split
  · exact ((LU a l).cons p).trans (List.Perm.swap a p l)
  · exact List.Perm.refl _
theorem Pq:∀(l out:List Pr),(l.foldl (fun out a=>Ep a out) out).Perm (l++out)
 | [],out=>List.Perm.refl _
 | a :: l,out=>by
  show (l.foldl (fun out a=>Ep a out) (Ep a out)).Perm _
  refine (Pq l (Ep a out)).trans ?_
  exact ((LU a out).append_left l).trans List.perm_middle
theorem KJ (l:List Pr):(BU l).Perm l:=by
 have:=Pq l []
 rwa [List.append_nil] at this
theorem Yp {x y:List UInt8} (h:Op.bytesLess x y=true):Op.bytesLess y x=false:=by
 have h1:=RuS.less_iff x y
 have h2:=RuS.less_iff y x
 have h3:=RuS.compare_swap x y
 rw [h] at h1
 have h4:=of_decide_eq_true h1.symm
 rw [h2,h3,h4];rfl
theorem KL {x y z:List UInt8} (h:Op.bytesLess x y=true) (h2:Op.bytesLess y z=true):Op.bytesLess x z=true:=by
 rw [Proofs.bytesLess_eq,decide_eq_true_eq] at h h2⊢
 exact List.lt_trans h h2
theorem We {x y:List UInt8} (h:Op.bytesLess x y=false) (h2:Op.bytesLess y x=false):x=y:=by
 have e:=RuS.eq_iff x y
 have h1:=RuS.less_iff x y
 have h3:=RuS.less_iff y x
 have h4:=RuS.compare_swap x y
 have h5:=RuS.compare_range x y
 rw [h] at h1;rw [h2] at h3
 have h1:=of_decide_eq_false h1.symm
 have h3:=of_decide_eq_false h3.symm
 rw [decide_eq_true (by omega)] at e
 exact beq_iff_eq.1 e
theorem Rk {a b c:Pr} (h:le2 a b) (h2:le2 b c):le2 a c:=by
 unfold le2 at*
 cases hq:Op.bytesLess c.1 a.1 with
 | false=>rfl
 | true=>
  cases hr:Op.bytesLess a.1 b.1 with
  | true=>have:=KL hq hr;rw [h2] at this;cases this
  | false=>
   have e:=We hr h
   rw [e,h2] at hq;cases hq
theorem Qu {a b:Pr} (h:lt2 a b):le2 a b:=Yp h
theorem Nw (a:Pr):∀l,l.Pairwise le2->(Ep a l).Pairwise le2
 | [],_=>by simp [Ep]
 | p :: l,h=>by
  have h':=List.pairwise_cons.1 h
  unfold Ep
  split
  · rename_i hl
    refine List.pairwise_cons.2 ⟨fun b hb=>?_,Nw a l h'.2⟩
    have:=(LU a l).mem_iff.1 hb
    rcases List.mem_cons.1 this with rfl | hb
    · exact Qu hl
    · exact h'.1 b hb
  · rename_i hl
    have hl:le2 a p:=by unfold le2;simpa using hl
    refine List.pairwise_cons.2 ⟨fun b hb=>?_,h⟩
    rcases List.mem_cons.1 hb with rfl | hb
    · exact hl
    · exact Rk hl (h'.1 b hb)
theorem LV:∀(l out:List Pr),out.Pairwise le2->(l.foldl (fun out a=>Ep a out) out).Pairwise le2
 | [],_,h=>h
 | a :: l,out,h=>LV l (Ep a out) (Nw a out h)
theorem Uy (l:List Pr):(BU l).Pairwise le2:=LV l [] List.Pairwise.nil
theorem Uz:∀(l:List Pr) (last:List UInt8),chain last l=true->l.Pairwise lt2/\∀p ∈ l,Op.bytesLess last p.1=true
 | [],_,_=>⟨List.Pairwise.nil,fun p h=>by cases h⟩
 | q :: l,last,h=>by
  have h':(Cb last q&&chain q.1 l)=true:=h
  rw [Bool.and_eq_true] at h'
  obtain ⟨h1,h2⟩:=h'
  have ih:=Uz l q.1 h2
  have hq:Op.bytesLess last q.1=true:=by
   unfold Cb at h1
   simp only [Bool.and_eq_true] at h1
   exact h1.1.2
  refine ⟨List.pairwise_cons.2 ⟨ih.2,ih.1⟩,fun p hp=>?_⟩
  rcases List.mem_cons.1 hp with rfl | hp
  · exact hq
  · exact KL hq (ih.2 p hp)
theorem LW {l:List Pr} (h:formedS l=true):l.Pairwise lt2:=by
 unfold formedS at h
 rw [Bool.and_eq_true] at h
 exact (Uz l [] h.2).1
theorem LX:∀{l:List Pr},l.Pairwise lt2->∀x ∈ l,∀y ∈ l,x≠y->lt2 x y\/lt2 y x
 | [],_,_,h,_,_,_=>by cases h
 | q :: l,h,x,hx,y,hy,hxy=>by
  have h':=List.pairwise_cons.1 h
  rcases List.mem_cons.1 hx with rfl | hx1
  · rcases List.mem_cons.1 hy with rfl | A0
    · exact absurd rfl hxy
    · exact .inl (h'.1 y A0)
  · rcases List.mem_cons.1 hy with rfl | A0
    · exact .inr (h'.1 x hx1)
    · exact LX h'.2 x hx1 y A0 hxy
theorem Lj {ys zs:List Pr} (hp:ys.Perm zs) (hs:ys.Pairwise lt2) (hz:zs.Pairwise le2):ys=zs:=by
 refine List.Perm.eq_of_pairwise (le:=le2) (fun a b ha hb h1 h2=>?_) (hs.imp Qu) hz hp
 have A1:=hp.mem_iff.2 hb
 rcases Classical.em (a=b) with e | A0
 · exact e
 · exfalso
   rcases LX hs a ha b A1 A0 with h | h
   · unfold lt2 at h;unfold le2 at h2;rw [h2] at h;cases h
   · unfold lt2 at h;unfold le2 at h1;rw [h1] at h;cases h
theorem sort_same {ys xs:List Pr} (hp:ys.Perm xs) (hs:ys.Pairwise le2):formedS ys=formedS (BU xs)/\(formedS ys=true->ys=BU xs):=by
 have A0:ys.Perm (BU xs):=hp.trans (KJ xs).symm
 have h1:formedS ys=true->ys=BU xs:=fun h=>Lj A0 (LW h) (Uy xs)
 refine ⟨?_,h1⟩
 cases h:formedS ys with
 | true=>rw [<-h1 h];exact h.symm
 | false=>
  cases h2:formedS (BU xs) with
  | false=>rfl
  | true=>rw [Lj A0.symm (LW h2) hs] at h2;rw [h2] at h;cases h
def nameOf (p:List UInt8):List UInt8:=p.takeWhile (· !=61)
def BV (p:List UInt8):Option Pr:=
 if p.contains 61 then
  if (RuS.typeOf (nameOf p)).1=[] then none else (readS (p.drop ((nameOf p).length+1))).map ((RuS.typeOf (nameOf p)).1,·)
 else none
def CG:List (List UInt8)->Option (List Pr)
 | []=>some []
 | p :: ps=>match BV p with
  | some a=>(CG ps).map (a :: ·)
  | none=>none
def AY (s:List UInt8):List Pr × Int:=
 match CG (Aj 43 s) with
 | none=>([],2)
 | some ps=>if formedS (BU ps) then (BU ps,0) else ([],2)
theorem Ny:∀(ps:List (List UInt8)) (p:List UInt8),CG (ps++[p])=match CG ps,BV p with
  | some l,some a=>some (l++[a])
  | _,_=>none
 | [],p=>by
  show CG [p]=_
  unfold CG
  cases BV p with
  | none=>rfl
  | some a=>rfl
 | q :: ps,p=>by
  have ih:=Ny ps p
  show CG (q :: (ps++[p]))=_
  unfold CG
  cases BV q with
  | none=>simp
  | some b=>
   simp only
   rw [ih]
   cases CG ps with
   | none=>rfl
   | some l=>
    cases BV p with
    | none=>rfl
    | some a=>rfl
theorem Nz:∀{ps:List (List UInt8)} {p:List UInt8},p ∈ ps->BV p=none->CG ps=none
 | q :: ps,p,h,hn=>by
  unfold CG
  rcases List.mem_cons.1 h with rfl | h
  · rw [hn]
  · cases BV q with
    | none=>rfl
    | some b=>simp only;rw [Nz h hn];rfl
theorem Pv:∀{ps:List (List UInt8)} {l:List Pr},CG ps=some l->l.length=ps.length
 | [],l,h=>by cases h;rfl
 | q :: ps,l,h=>by
  unfold CG at h
  cases hq:BV q with
  | none=>rw [hq] at h;cases h
  | some b=>
   rw [hq] at h
   cases hp:CG ps with
   | none=>simp only [hp] at h;cases h
   | some l2=>
    simp only [hp] at h
    have:=Pv hp
    have:=Option.some.inj h
    subst this
    simp only [List.length_cons];omega
theorem IK (l:List Pr):(BU l).length=l.length:=(KJ l).length_eq
end Go.Proofs.YtgngjfjaelgaeaaGreatDoor.RdS
namespace Go.Proofs.YtgngjfjaelgaeaaGreatDoor.RdS
open Go.Lib
theorem join_snoc (X:List (List UInt8)) (y s:List UInt8):Lib.join (X++[y]) s=if X.isEmpty then y else Lib.join X s++s++y:=by
 cases X with
 | nil=>simp [Lib.join_one]
 | cons x X=>
  simp only [List.isEmpty_cons,Bool.false_eq_true,if_false]
  unfold Lib.join List.intercalate
  induction X generalizing x with
  | nil=>simp [List.intersperse]
  | cons z Z ih=>
   have:=ih z
   simp only [List.cons_append,List.intersperse_cons_cons,List.flatten_cons,List.append_assoc] at this⊢
   rw [this]
theorem JA (l:List Pr):∀k,k<=l.length->AQ l k=Lib.join ((l.take k).map pairT) [43]
 | 0,_=>by simp [AQ,Lib.join,List.intercalate]
 | k+1,h=>by
  have hk:k<l.length:=by omega
  rw [Hh l k hk,JA l k (by omega),List.take_succ_eq_append_getElem hk,List.map_append,List.map_singleton,join_snoc]
  cases k with
  | zero=>simp [Lib.join,List.intercalate]
  | succ k=>
   have e:((l.take (k+1)).map pairT).isEmpty=false:=by
    rw [List.isEmpty_eq_false_iff];intro h2
    have h3:=congrArg List.length h2
    rw [List.length_map,List.length_take,List.length_nil] at h3;omega
   rw [if_neg (by omega),e,if_neg (by decide)]
theorem KN {sep:UInt8}:∀(Ps:List (List UInt8)),Ps≠[]->(∀p ∈ Ps,AU sep p)->Aj sep (Lib.join Ps [sep])=Ps
 | [],h,_=>absurd rfl h
 | [p],_,hn=>by rw [Lib.join_one];exact (hn p (List.mem_singleton.2 rfl)).split
 | p :: q :: r,_,hn=>by
  rw [RuS.join_cons_cons]
  have ih:=KN (sep:=sep) (q :: r) (by simp) (fun x hx=>hn x (List.mem_cons_of_mem _ hx))
  rw [show p++[sep]++Lib.join (q :: r) [sep]=p++sep :: Lib.join (q :: r) [sep] from by simp]
  rw [(hn p (List.mem_cons_self ..)).split_sep,ih]
theorem Wh:∀r ∈ RuS.tab,∀c ∈ r.2.1,65<=c.toNat/\c.toNat<=122/\c≠92:=by decide+kernel
theorem LZ (nm:List UInt8):∀c ∈ (RuS.typeOf nm).1,65<=c.toNat/\c.toNat<=122/\c≠92:=by
 unfold RuS.typeOf RuS.typeM
 cases h:RuS.tab.find? (fun r=>RuS.lower nm==r.1) with
 | none=>intro c hc;cases hc
 | some r=>exact Wh r (List.mem_of_find?_eq_some h)
theorem Mc {last:List UInt8} {p:Pr} (h:Cb last p=true):(RuS.typeOf p.1).1=p.1/\((RuS.typeOf p.1).2=1\/(RuS.typeOf p.1).2=3)/\Op.bytesLess last p.1=true/\(RuS.normal p.1 p.2).2=0:=by
 unfold Cb at h
 simp only [Bool.and_eq_true,Bool.or_eq_true,beq_iff_eq] at h
 exact ⟨h.1.1.1,h.1.1.2,h.1.2,h.2⟩
theorem Rm:∀{l:List Pr} {last:List UInt8},chain last l=true->∀p ∈ l,∃la,Cb la p=true
 | q :: l,last,h,p,hp=>by
  have h':(Cb last q&&chain q.1 l)=true:=h
  rw [Bool.and_eq_true] at h'
  rcases List.mem_cons.1 hp with rfl | hp
  · exact ⟨_,h'.1⟩
  · exact Rm h'.2 p hp
theorem Gz {l:List Pr} (h:formedS l=true):1<=l.length/\l.length<=3/\chain [] l=true/\∀p ∈ l,(RuS.typeOf p.1).1=p.1/\((RuS.typeOf p.1).2=1\/(RuS.typeOf p.1).2=3)/\(RuS.normal p.1 p.2).2=0:=by
 unfold formedS at h
 simp only [Bool.and_eq_true,decide_eq_true_eq] at h
 refine ⟨h.1.1,h.1.2,h.2,fun p hp=>?_⟩
 obtain ⟨la,hl⟩:=Rm h.2 p hp
 have:=Mc hl
 exact ⟨this.1,this.2.1,this.2.2.2⟩
theorem Xh {nm:List UInt8} (h:(RuS.typeOf nm).2=1\/(RuS.typeOf nm).2=3):(RuS.typeOf nm).1≠[]:=by
 rcases RuS.typeM_all (RuS.lower nm) with e | e
 · have e2:RuS.typeOf nm=([],0):=e
   rw [e2] at h;simp at h
 · have e2:1<=(RuS.typeOf nm).1.length:=e.2.2.1
   intro h0;rw [h0] at e2;simp at e2
theorem JQ {t u:List UInt8} (h:∀c ∈ t,c≠61):(t++61 :: u).takeWhile (· !=61)=t:=by
 induction t with
 | nil=>simp
 | cons c t ih=>
  have hc:=h c (List.mem_cons_self ..)
  rw [List.cons_append,List.takeWhile_cons,if_pos (by simpa using hc),ih (fun d hd=>h d (List.mem_cons_of_mem _ hd))]
theorem AaE {p:Pr} (h1:(RuS.typeOf p.1).1=p.1) (h2:(RuS.typeOf p.1).2=1\/(RuS.typeOf p.1).2=3):BV (pairT p)=some p:=by
 have hl:=LZ p.1
 rw [h1] at hl
 have hn:=Xh h2
 rw [h1] at hn
 have e:pairT p=p.1++61 :: Ec p.2:=by unfold pairT;simp
 have e2:nameOf (pairT p)=p.1:=by
  unfold nameOf
  rw [e]
  exact JQ (fun c hc=>by intro h;subst h;exact absurd (hl _ hc).1 (by decide))
 unfold BV
 rw [e2,if_pos (by rw [e,List.contains_iff_mem];simp),h1,if_neg hn]
 have e3:(pairT p).drop (p.1.length+1)=Ec p.2:=by
  rw [e,List.drop_append]
  simp
 rw [e3,AaD]
 rfl
theorem NC {sep:UInt8} (hs:Ar sep=true) (h9:sep≠92) (hr:sep.toNat<65) {p:Pr} (h1:(RuS.typeOf p.1).1=p.1):AU sep (pairT p):=by
 have hl:=LZ p.1
 rw [h1] at hl
 unfold pairT
 refine AU.append (AU.append (AU.all (fun c hc=>⟨?_,(hl c hc).2.2⟩)) (AU.one (FU hs (by decide)) (by decide))) (Yo hs h9 p.2)
 intro h;subst h;have:=(hl _ hc).1;omega
theorem UA {sep:UInt8} (hs:Ar sep=true) (h9:sep≠92) (hr:sep.toNat<65) (h43:sep≠43) {l:List Pr} (h:formedS l=true):AU sep (AQ l l.length):=by
 obtain ⟨g1,g2,g3,g4⟩:=Gz h
 rw [JA l _ (Nat.le_refl _),List.take_length]
 have A0:∀p ∈ l.map pairT,AU sep p:=by
  intro x hx
  obtain ⟨p,hp,rfl⟩:=List.mem_map.1 hx
  exact NC hs h9 hr (g4 p hp).1
 generalize l.map pairT=Ps at A0
 clear g1 g2 g3 g4
 induction Ps with
 | nil=>simpa [Lib.join,List.intercalate] using AU.nil sep
 | cons p r ih=>
  cases r with
  | nil=>rw [Lib.join_one];exact A0 p (List.mem_cons_self ..)
  | cons q r=>
   rw [RuS.join_cons_cons]
   exact ((A0 p (List.mem_cons_self ..)).append (AU.one (fun e=>h43 e.symm) (by decide))).append (ih (fun x hx=>A0 x (List.mem_cons_of_mem _ hx)))
theorem Px:∀{l:List Pr},(∀p ∈ l,BV (pairT p)=some p)->CG (l.map pairT)=some l
 | [],_=>rfl
 | p :: l,h=>by
  rw [List.map_cons]
  unfold CG
  rw [h p (List.mem_cons_self ..)]
  simp only
  rw [Px (fun q hq=>h q (List.mem_cons_of_mem _ hq))]
  rfl
theorem Wi {l:List Pr} (h:formedS l=true):BU l=l:=((sort_same (List.Perm.refl l) ((LW h).imp Qu)).2 h).symm
theorem AaF {l:List Pr} (h:formedS l=true):AY (AQ l l.length)=(l,0):=by
 obtain ⟨g1,g2,g3,g4⟩:=Gz h
 have e:Aj 43 (AQ l l.length)=l.map pairT:=by
  rw [JA l _ (Nat.le_refl _),List.take_length]
  refine KN _ ?_ ?_
  · intro h0;have:=congrArg List.length h0;rw [List.length_map] at this;simp at this;rw [this] at g1;simp at g1
  · intro x hx
    obtain ⟨p,hp,rfl⟩:=List.mem_map.1 hx
    exact NC (by decide) (by decide) (by decide) (g4 p hp).1
 unfold AY
 rw [e,Px (fun p hp=>AaE (g4 p hp).1 (g4 p hp).2.1)]
 simp only
 rw [Wi h,if_pos h]
theorem Wj {s:List UInt8} {l:List Pr} (h:AY s=(l,0)):formedS l=true:=by
 unfold AY at h
 split at h
 · cases h
 · rename_i ps hp
   split at h
   · rename_i hf;cases h;exact hf
   · cases h
theorem Rn {s:List UInt8} (h:(AY s).2≠0):AY s=([],2):=by
 unfold AY at h⊢
 split
 · rfl
 · rename_i ps hp
   rw [hp] at h
   simp only at h
   split
   · rename_i hf;rw [if_pos hf] at h;exact absurd rfl h
   · rfl
def AH (l:List Pr):List Pr:=l.map fun p=>(p.1,(RuS.normal p.1 p.2).1)
def normP (l:List Pr):List Pr × Int:=if formedS l then (AH l,0) else ([],1)
theorem Wl {last:List UInt8} {p:Pr} (h:Cb last p=true):Cb last (p.1,(RuS.normal p.1 p.2).1)=true/\(RuS.normal p.1 (RuS.normal p.1 p.2).1).1=(RuS.normal p.1 p.2).1:=by
 obtain ⟨h1,h2,h3,h4⟩:=Mc h
 have hn:RuS.normal p.1 p.2=((RuS.normal p.1 p.2).1,0):=by rw [<-h4]
 have hi:=RuS.normal_idem hn
 refine ⟨?_,by rw [hi]⟩
 unfold Cb
 simp only [Bool.and_eq_true,Bool.or_eq_true,beq_iff_eq]
 exact ⟨⟨⟨h1,h2⟩,h3⟩,by rw [hi]⟩
theorem Py:∀{l:List Pr} {last:List UInt8},chain last l=true->chain last (AH l)=true/\AH (AH l)=AH l
 | [],_,_=>⟨rfl,rfl⟩
 | q :: l,last,h=>by
  have h':(Cb last q&&chain q.1 l)=true:=h
  rw [Bool.and_eq_true] at h'
  have h1:=Wl h'.1
  have ih:=Py h'.2
  refine ⟨?_,?_⟩
  · show (Cb last (q.1,(RuS.normal q.1 q.2).1)&&chain q.1 (AH l))=true
    rw [h1.1,ih.1];rfl
  · show (q.1,(RuS.normal q.1 (RuS.normal q.1 q.2).1).1) :: AH (AH l)=(q.1,(RuS.normal q.1 q.2).1) :: AH l
    rw [h1.2,ih.2]
theorem ES (l:List Pr):(AH l).length=l.length:=by unfold AH;rw [List.length_map]
theorem Dw {l:List Pr} (h:formedS l=true):formedS (AH l)=true/\AH (AH l)=AH l:=by
 unfold formedS at h⊢
 simp only [Bool.and_eq_true,decide_eq_true_eq] at h
 have:=Py h.2
 refine ⟨?_,this.2⟩
 rw [ES,this.1,decide_eq_true h.1.1,decide_eq_true h.1.2];rfl
theorem UB (v:List UInt8):(Ec v).length<=3*v.length:=Je v v.length (Nat.le_refl _)
theorem AaG (p:Pr):(pairT p).length<=p.1.length+1+3*p.2.length:=by
 have:=UB p.2
 unfold pairT
 simp only [List.length_append,List.length_cons,List.length_nil];omega
theorem Pz (l:List Pr) (m:Nat) (h:∀p ∈ l,p.1.length<=m/\p.2.length<=m):∀k,k<=l.length->(AQ l k).length<=k*(4*m+2)
 | 0,_=>by simp [AQ]
 | k+1,hk=>by
  have hl:k<l.length:=by omega
  have ih:=Pz l m h k (by omega)
  have h1:=AaG l[k]
  have h2:=h l[k] (List.getElem_mem hl)
  rw [Hh l k hl,List.length_append,List.length_append]
  have h3:(if k=0 then ([]:List UInt8) else [43]).length<=1:=by split <;> simp
  have h4:(k+1)*(4*m+2)=k*(4*m+2)+(4*m+2):=by rw [Nat.add_mul,Nat.one_mul]
  omega
theorem Ej {l:List Pr} (h:formedS l=true):l.length<=3/\∀p ∈ l,p.1.length<=17/\p.2.length<=200:=by
 obtain ⟨g1,g2,g3,g4⟩:=Gz h
 refine ⟨g2,fun p hp=>?_⟩
 obtain ⟨h1,h2,h3⟩:=g4 p hp
 refine ⟨?_,?_⟩
 · rw [<-h1]
   rcases RuS.typeM_all (RuS.lower p.1) with e | e
   · have:RuS.typeOf p.1=([],0):=e
     rw [this];simp
   · exact e.2.2.2
 · exact (RuS.normal_ok (nm:=p.1) (v:=p.2) (s:=(RuS.normal p.1 p.2).1) (by rw [<-h3])).2.2.1
theorem KO {l:List Pr} (h:formedS l=true) (k:Nat) (hk:k<=l.length):(AQ l k).length<=3000:=by
 have hs:=Ej h
 have:=Pz l 200 (fun p hp=>⟨by have:=(hs.2 p hp).1;omega,(hs.2 p hp).2⟩) k hk
 have h2:k<=3:=by omega
 have:k*(4*200+2)<=3*(4*200+2):=Nat.mul_le_mul_right _ h2
 omega
end Go.Proofs.YtgngjfjaelgaeaaGreatDoor.RdS
