/- Plain laws of names: read, their parts' normal texts, joined; a normal text is its own. Conditions: as stated. -/
import Derived.Test.YtgngjfjaelgaeaaGreatDoorJRdS
namespace Go.Proofs.YtgngjfjaelgaeaaGreatDoor.DnS
open Go.Lib RdS
def partsS:List (List UInt8)->Option (List (List Pr))
 | []=>some []
 | p :: ps=>if (Bh p).2=0 then (partsS ps).map ((Bh p).1 :: ·) else none
def BA (s:List UInt8):List (List Pr) × Int:=
 if 1000<s.length then ([],4) else if s=[] then ([],0) else if 12<(Ak 44 s).length then ([],4)
 else match partsS (Ak 44 s) with
  | none=>([],2)
  | some l=>(l,0)
def AH (l:List Pr):List UInt8:=(printS (AU l)).1
def Aq (ts:List (List UInt8)):List UInt8:=Lib.join ts [44]
def Ae (s:List UInt8):List (List UInt8) × Int:=
 if (BA s).2=0 then (if 1000<(Aq ((BA s).1.map AH)).length then ([],4) else ((BA s).1.map AH,0)) else ([],(BA s).2)
def Aw (s:List UInt8):List UInt8 × Int:=(Aq (Ae s).1,(Ae s).2)
theorem LP:∀{ps:List (List UInt8)} {l:List (List Pr)},partsS ps=some l->l.length=ps.length/\∀q ∈ l,formedS q=true
 | [],l,h=>by cases h;exact ⟨rfl,fun q a=>by cases a⟩
 | p :: ps,l,h=>by
  unfold partsS at h;split at h
  · rename_i h0;obtain ⟨l2,b,rfl⟩:=bH.1 h;have c:=LP b;refine ⟨by simp [c.1],fun q a=>?_⟩;rcases ay.1 a with rfl | a
    · exact Xg (s:=p) (by rw [<-h0])
    · exact c.2 q a
  · cases h
theorem FI {s:List UInt8} {l:List (List Pr)} (h:BA s=(l,0)):l.length<=12/\(∀q ∈ l,formedS q=true)/\(l=[]↔s=[]):=by
 unfold BA at h;split at h
 · cases h
 · split at h
   · rename_i a;cases h;exact ⟨by simp,fun q b=>(by cases b),⟨fun _=>a,fun _=>rfl⟩⟩
   · split at h
     · cases h
     · rename_i a h12;cases hp:partsS (Ak 44 s) with
       | none=>rw [hp] at h;cases h
       | some l2=>rw [hp] at h;cases h;have:=LP hp;obtain ⟨p0,c,e⟩:=CQ 44 s;refine ⟨by rw [this.1];omega,this.2,⟨fun h0=>?_,fun h0=>absurd h0 a⟩⟩;rw [h0,e] at this;simp at this
theorem OT {l:List Pr} (h:formedS l=true):AH l=Bc (AU l) (AU l).length:=by unfold AH printS;rw [aP (DN h).1]
theorem Qv {l:List Pr} (h:formedS l=true):Bh (AH l)=(AU l,0):=by rw [OT h];exact Ab0 (DN h).1
theorem Xu {l:List Pr} (h:formedS l=true):Be 44 (AH l):=by rw [OT h];exact Vx (by decide) (by decide) (by decide) (by decide) (DN h).1
theorem Qw {l:List Pr} (h:formedS l=true):AH (AU l)=AH l:=by unfold AH;rw [(DN h).2]
theorem We {l:List Pr} (h:formedS l=true):AH l≠[]:=by
 intro h0;have hb:=Qv h;rw [h0] at hb;have:Bh []=([],2):=by decide+kernel
 rw [this] at hb;have h2:=congrArg Prod.snd hb;exact absurd (show (2:Int)=0 from h2) (by decide)
theorem Oq:∀{l:List (List Pr)},(∀q ∈ l,formedS q=true)->partsS (l.map AH)=some (l.map AU)
 | [],_=>rfl
 | q :: l,h=>by rw [cz];unfold partsS;rw [Qv (h q (ai ..)),aP rfl,Oq (fun p hp=>h p (ar _ hp))];rfl
theorem SD {l:List (List Pr)} (g:l.length<=12) (c:∀q ∈ l,formedS q=true) (f:(Aq (l.map AH)).length<=1000):BA (Aq (l.map AH))=(l.map AU,0):=by
 cases l with
 | nil=>simp [Aq,Lib.join,List.intercalate,BA]
 | cons q l=>
  have e:=We (c q (ai ..));have a:Ak 44 (Aq ((q :: l).map AH))=(q :: l).map AH:=by refine La _ (by simp) (fun p hp=>?_);obtain ⟨r,d,rfl⟩:=bD.1 hp;exact Xu (c r d)
  have b:Aq ((q :: l).map AH)≠[]:=by intro h0;rw [h0] at a;simp only [Ak,cz] at a;exact e (List.cons.inj a).1.symm
  unfold BA;rw [aG (by omega),aG b,a,aG (by rw [b7];omega),Oq c]
theorem JU {s:List UInt8} {ts:List (List UInt8)} (h:Ae s=(ts,0)):∃l,BA s=(l,0)/\ts=l.map AH/\(Aq ts).length<=1000:=by
 unfold Ae at h;split at h
 · rename_i h0;split at h
   · cases h
   · rename_i h1;cases h;exact ⟨_,by rw [<-h0],rfl,by omega⟩
 · rename_i h0;injection h with _ h2;exact absurd h2 h0
theorem Aad {s:List UInt8} {ts:List (List UInt8)} (h:Ae s=(ts,0)):Ae (Aq ts)=(ts,0):=by
 obtain ⟨l,d,rfl,hlen⟩:=JU h;have a:=FI d;have hb:=SD a.1 a.2.1 hlen;have c:(l.map AU).map AH=l.map AH:=by rw [cd];exact cQ fun q b=>Qw (a.2.1 q b)
 unfold Ae;rw [hb];simp only [bY,c];rw [aG (by omega)]
end Go.Proofs.YtgngjfjaelgaeaaGreatDoor.DnS
namespace Go.Proofs.YtgngjfjaelgaeaaGreatDoor.DnS
open Go.Lib RdS
def Hv (ts:List (List UInt8)):List UInt8 × Int:=if 12<ts.length\/1000<(Aq ts).length then ([],4) else (Aq ts,0)
theorem Ot {l:List Pr} (h:formedS l=true):(AH l).length<=3000:=by rw [OT h];exact Lc (DN h).1 _ (aA _)
theorem Ou {l:List Pr} (h:formedS l=true):printS (AU l)=(AH l,0):=by unfold AH printS;rw [aP (DN h).1]
theorem Nc {l:List Pr} (h:formedS l=true):normP l=(AU l,0):=by unfold normP;rw [aP h]
def Uf (t:List UInt8):Prop:=∃q,formedS q=true/\t=AH q
theorem Lh {s:List UInt8} {ts:List (List UInt8)} (h:Ae s=(ts,0)):ts.length<=12/\(Aq ts).length<=1000/\∀t ∈ ts,Uf t:=by obtain ⟨l,d,rfl,hlen⟩:=JU h;have a:=FI d;refine ⟨by rw [b7];exact a.1,hlen,fun t c=>?_⟩;obtain ⟨q,b,rfl⟩:=bD.1 c;exact ⟨q,a.2.1 q b,rfl⟩
theorem LQ:∀{ts:List (List UInt8)},(∀t ∈ ts,Uf t)->∃l:List (List Pr),(∀q ∈ l,formedS q=true)/\ts=l.map AH
 | [],_=>⟨[],fun q a=>(by cases a),rfl⟩
 | t :: ts,h=>by
  obtain ⟨l,b,rfl⟩:=LQ (ts:=ts) (fun u hu=>h u (ar _ hu));obtain ⟨q,a,rfl⟩:=h t (ai ..);refine ⟨q :: l,fun p hp=>?_,rfl⟩;rcases ay.1 hp with rfl | hp
  · exact a
  · exact b p hp
theorem Wh {ts:List (List UInt8)} (h:∀t ∈ ts,Uf t) (a:ts.length<=12) (c:(Aq ts).length<=1000):Ae (Aq ts)=(ts,0):=by
 obtain ⟨l,b,rfl⟩:=LQ h;have hb:=SD (by rw [b7] at a;exact a) b c;have e:(l.map AU).map AH=l.map AH:=by rw [cd];exact cQ fun q d=>Qw (b q d)
 unfold Ae;rw [hb];simp only [bY,e];rw [aG (by omega)]
theorem Yo {ts:List (List UInt8)} {x:List UInt8} (h:Hv ts=(x,0)):ts.length<=12/\(Aq ts).length<=1000/\x=Aq ts:=by
 unfold Hv at h;split at h
 · cases h
 · rename_i h0;cases h;exact ⟨by omega,by omega,rfl⟩
theorem AfZ {ts:List (List UInt8)} (b:ts.length<=12) (a:(Aq ts).length<=1000):Hv ts=(Aq ts,0):=by unfold Hv;rw [aG (by omega)]
theorem Nh {s:List UInt8} (h:(Ae s).2≠0):(Ae s).1=[]:=by
 unfold Ae at h⊢;split
 · rename_i h0;rw [aP h0] at h;split
   · rfl
   · rename_i h1;rw [aG h1] at h;exact absurd rfl h
 · rfl
theorem Da (s:List UInt8):(Ae s).1.length<=12/\(Aq (Ae s).1).length<=1000:=by
 by_cases h:(Ae s).2=0
 · have:=Lh (s:=s) (ts:=(Ae s).1) (by rw [<-h]);exact ⟨this.1,this.2.1⟩
 · rw [Nh h];exact ⟨by simp,by simp [Aq,Lib.join,List.intercalate]⟩
theorem Hw (s:List UInt8):(Aw s).1.length<=1000:=(Da s).2
theorem Hl {s:List UInt8}:∀t ∈ (Ae s).1,t.length<=3000:=by
 intro t a;by_cases h:(Ae s).2=0
 · obtain ⟨q,b,rfl⟩:=(Lh (s:=s) (ts:=(Ae s).1) (by rw [<-h])).2.2 t a;exact Ot b
 · rw [Nh h] at a;cases a
def Db (a b:List (List UInt8)):Option (List (List UInt8)):=
 if a.length<b.length then none else if a.drop (a.length - b.length)=b then some (a.take (a.length - b.length)) else none
theorem Ni {a b r:List (List UInt8)}:Db a b=some r↔a=r++b:=by
 unfold Db;constructor
 · intro h;split at h
   · cases h
   · split at h
     · rename_i h1 h2;cases h;have:=dB (a.length - b.length) a;rw [h2] at this;exact this.symm
     · cases h
 · rintro rfl;rw [aG (by rw [aT];omega),aT,eB];simp
def EW (a b:List UInt8):Bool:=decide ((Ae a).2=0)&&decide ((Ae b).2=0)&&(Db (Ae a).1 (Ae b).1).isSome
def cmpL:List (List UInt8)->List (List UInt8)->Int
 | [],[]=>0
 | [],_ :: _=>-1
 | _ :: _,[]=>1
 | a :: x,b :: y=>if compareBytes a b=0 then cmpL x y else compareBytes a b
theorem SE:∀x y,cmpL y x=-cmpL x y
 | [],[]=>rfl
 | [],_ :: _=>rfl
 | _ :: _,[]=>rfl
 | a :: x,b :: y=>by
  unfold cmpL;rw [RuS.compare_swap a b,SE x y];split
  · rw [aP (by omega)]
  · rw [aG (by omega)]
theorem LR:∀x y z:List UInt8,compareBytes x y<=0->compareBytes y z<=0->compareBytes x z<=0
 | [],y,[],_,_=>by simp [compareBytes]
 | [],y,_ :: _,_,_=>by simp [compareBytes]
 | a :: x,[],z,h,_=>by simp [compareBytes] at h
 | a :: x,b :: y,[],_,h=>by simp [compareBytes] at h
 | a :: x,b :: y,c :: z,h,k=>by
  have d:=LR x y z;unfold compareBytes at h k⊢;simp only [RuS.u8_lt] at h k⊢;by_cases h1:a.toNat<b.toNat
  · by_cases h2:b.toNat<c.toNat
    · rw [aP (by omega)];omega
    · rw [aG h2] at k;split at k
      · omega
      · rw [aP (by omega)];omega
  · rw [aG h1] at h;split at h
    · omega
    · by_cases h2:b.toNat<c.toNat
      · rw [aP (by omega)];omega
      · rw [aG h2] at k;split at k
        · omega
        · rw [aG (by omega),aG (by omega)];exact d h k
theorem Qx:∀x y z,cmpL x y<=0->cmpL y z<=0->cmpL x z<=0
 | [],y,[],_,_=>by simp [cmpL]
 | [],y,_ :: _,_,_=>by simp [cmpL]
 | a :: x,[],z,h,_=>by simp [cmpL] at h
 | a :: x,b :: y,[],_,h=>by simp [cmpL] at h
 | a :: x,b :: y,c :: z,h,k=>by
  have d:=Qx x y z;unfold cmpL at h k⊢;by_cases h1:compareBytes a b=0
  · rw [aP h1] at h;have:=(RuS.compare_zero a b).1 h1;subst this;split at k
    · rename_i h2;rw [aP h2];exact d h k
    · rename_i h2;rw [aG h2];exact k
  · rw [aG h1] at h;by_cases h2:compareBytes b c=0
    · have:=(RuS.compare_zero b c).1 h2;subst this;rw [aG h1];exact h
    · rw [aG h2] at k;have h3:compareBytes a c≠0:=by
       intro h0;have:=(RuS.compare_zero a c).1 h0;subst this;have:=RuS.compare_swap a b;omega
      rw [aG h3];exact LR a b c h k
def EI (x y:List (List UInt8)):Int:=cmpL x.reverse y.reverse
def Am (a b:List UInt8):Int:=if (Ae a).2=0/\(Ae b).2=0 then EI (Ae a).1 (Ae b).1 else 0
theorem CW (a b:List UInt8):Am b a=-Am a b:=by
 unfold Am;by_cases h:(Ae a).2=0/\(Ae b).2=0
 · rw [aP h,aP ⟨h.2,h.1⟩];exact SE _ _
 · rw [aG h,aG (fun k=>h ⟨k.2,k.1⟩)];rfl
theorem KA {a b c:List UInt8} (d:(Ae a).2=0) (hb:(Ae b).2=0) (hc:(Ae c).2=0) (h:Am a b<=0) (k:Am b c<=0):Am a c<=0:=by unfold Am at*;rw [aP ⟨‹_›,‹_›⟩] at*;exact Qx _ _ _ h k
def EY (s:List UInt8):List UInt8 × Bool:=if (Ae s).1=[] then ([],false) else (Aq ((Ae s).1.drop 1),true)
theorem Acr (t:List UInt8):∀ts:List (List UInt8),(Aq ts).length<=(Aq (t :: ts)).length
 | []=>by simp [Aq,Lib.join,List.intercalate]
 | u :: ts=>by unfold Aq;rw [RuS.join_cons_cons,aT];omega
def Dc (s fr dst:List UInt8):List UInt8 × Int:=
 if (Ae s).2=0 then (if (Ae fr).2=0 then (if (Ae dst).2=0 then (match Db (Ae s).1 (Ae fr).1 with
  | some r=>Hv (r++(Ae dst).1)
  | none=>([],1)) else ([],(Ae dst).2)) else ([],(Ae fr).2)) else ([],(Ae s).2)
theorem SG {s fr dst x:List UInt8} (h:Dc s fr dst=(x,0)):(Ae s).2=0/\(Ae fr).2=0/\(Ae dst).2=0/\∃r,(Ae s).1=r++(Ae fr).1/\Ae x=(r++(Ae dst).1,0):=by
 unfold Dc at h;split at h
 · rename_i h1;split at h
   · rename_i h2;split at h
     · rename_i h3;refine ⟨h1,h2,h3,?_⟩;cases hb:Db (Ae s).1 (Ae fr).1 with
       | none=>rw [hb] at h;injection h with _ h4;exact absurd h4 (by decide)
       | some r=>
        rw [hb] at h;have e:=Ni.1 hb;have d:=Yo h;have b:=Lh (s:=s) (ts:=(Ae s).1) (by rw [<-h1]);have c:=Lh (s:=dst) (ts:=(Ae dst).1) (by rw [<-h3]);refine ⟨r,e,?_⟩;rw [d.2.2];refine Wh (fun t a=>?_) d.1 d.2.1;rcases b9.1 a with a | a
        · exact b.2.2 t (by rw [e];exact bq _ a)
        · exact c.2.2 t a
     · rename_i h3;injection h with _ h4;exact absurd h4 h3
   · rename_i h3;injection h with _ h4;exact absurd h4 h3
 · rename_i h3;injection h with _ h4;exact absurd h4 h3
theorem SH {s:List UInt8} (h:(Aw s).2=0):Aw (Aw s).1=((Aw s).1,0):=by
 have hb:=Aad (s:=s) (ts:=(Ae s).1) (by
  have:(Ae s).2=0:=h;rw [<-this])
 show (Aq (Ae (Aq (Ae s).1)).1,(Ae (Aq (Ae s).1)).2)=(Aq (Ae s).1,0)
 rw [hb]
theorem Aae {s:List UInt8} (h:(Aw s).2=0):(Aw s).1=[]↔s=[]:=by
 obtain ⟨l,d,a,_⟩:=JU (s:=s) (ts:=(Ae s).1) (by
  have:(Ae s).2=0:=h;rw [<-this])
 have b:=FI d;rw [<-b.2.2];show Aq (Ae s).1=[]↔_
 rw [a];cases l with
 | nil=>simp [Aq,Lib.join,List.intercalate]
 | cons q l=>refine ⟨fun h0=>?_,fun h0=>(by cases h0)⟩;have c:=We (b.2.1 q (ai ..));have:=join_first (AH q) (l.map AH);rw [cz] at h0;rw [h0] at this;have h1:(AH q).length=0:=Nat.eq_zero_of_le_zero this;exact absurd (aW h1) c
 where
  join_first (t:List UInt8):∀ts:List (List UInt8),t.length<=(Aq (t :: ts)).length
   | []=>by unfold Aq;rw [Lib.join_one];exact aA _
   | u :: ts=>by unfold Aq;rw [RuS.join_cons_cons,aT,aT];omega
def AG (nm v:List UInt8):List UInt8 × Int:=
 if (RuS.typeOf nm).2=5 then (if v.length<1\/200<v.length then ([],2) else if (Aw v).2=0 then ((Aw v).1,0) else ([],2)) else RuS.normal nm v
theorem Aaf (nm v:List UInt8):AG nm v=if (RuS.typeOf nm).2=5 then (if (Aw v).2≠0\/(Aw v).1=[]\/200<v.length then ([],2) else ((Aw v).1,0)) else RuS.normal nm v:=by
 unfold AG;split
 · by_cases h0:(Aw v).2=0
   · have a:=Aae h0;rw [aP h0];by_cases h1:v=[]
     · subst h1;rw [aP (.inl (by simp)),aP (.inr (.inl (a.2 rfl)))]
     · have b:1<=v.length:=by
        rcases bT v.length with h | h
        · exact absurd (aW h) h1
        · exact h
       have h2:(Aw v).1≠[]:=fun h=>h1 (a.1 h);by_cases h3:200<v.length
       · rw [aP (.inr h3),aP (.inr (.inr h3))]
       · rw [aG (by omega),aG];rintro (h | h | h)
         · exact h h0
         · exact h2 h
         · exact h3 h
   · rw [aG h0,ite_self,aP (.inl h0)]
 · rfl
end Go.Proofs.YtgngjfjaelgaeaaGreatDoor.DnS
namespace Go.Proofs.YtgngjfjaelgaeaaGreatDoor
section
namespace EnS
open Go.Lib DnS
structure At where
 typ:List UInt8
 vals:List (List UInt8)
structure En where
 name:List UInt8
 attrs:List At
def Nj:List UInt8:=[111,98,106,101,99,116,67,108,97,115,115]
def Dz:List UInt8:=[97,108,105,97,115,101,100,79,98,106,101,99,116,78,97,109,101]
def Nk:List UInt8:=[97,108,105,97,115]
def valuesL:List At->List UInt8->List (List UInt8)
 | [],_=>[]
 | a :: l,t=>if a.typ=t then a.vals else valuesL l t
def Ee (e:En) (nm:List UInt8):List (List UInt8):=if (RuS.typeOf nm).1=[] then [] else valuesL e.attrs (RuS.typeOf nm).1
def FZ (nm n v:List UInt8):Bool:=decide ((AG nm v).2=0)&&((AG nm v).1==n)
def Lj (nm:List UInt8) (l:List (List UInt8)) (v:List UInt8):Option Nat:=if (AG nm v).2=0 then l.findIdx? (FZ nm (AG nm v).1) else none
def Rf (nm:List UInt8) (l:List (List UInt8)) (v:List UInt8):Bool:=decide ((AG nm v).2=0)&&l.any (FZ nm (AG nm v).1)
theorem Xv (nm:List UInt8) (l:List (List UInt8)) (v:List UInt8):(Lj nm l v).isSome=Rf nm l v:=by
 unfold Lj Rf;by_cases h:(AG nm v).2=0
 · rw [aP h,aL h,cf,eU]
 · rw [aG h,aC h];rfl
def Rh (e:En) (nm v:List UInt8):Bool:=Rf nm (Ee e nm) v
def Wi (l:List (List UInt8)) (a:Bool):List UInt8 × Bool:=
 match l with
 | []=>([],false)
 | v :: _=>if a=true then ((AG Dz v).1,decide ((AG Dz v).2=0)) else ([],false)
def Dm (e:En):List UInt8 × Bool:=Wi (Ee e Dz) (Rh e Nj Nk)
def KB (n:List UInt8) (acc:Option (List UInt8 × List UInt8)) (e:En):Bool:=
 (Dm e).2&&EW n e.name&&(match acc with | none=>true | some p=>decide ((Ae e.name).1.length<(Ae p.1).1.length))
def Fa (n:List UInt8) (acc:Option (List UInt8 × List UInt8)) (e:En):Option (List UInt8 × List UInt8):=if KB n acc e=true then some (e.name,(Dm e).1) else acc
def Ge (n:List UInt8) (l:List En):Option (List UInt8 × List UInt8):=l.foldl (Fa n) none
def NE (n:List UInt8) (o:Option (List UInt8 × List UInt8)):List UInt8 × Bool × Int:=
 match o with
 | none=>(n,false,0)
 | some p=>if (Dc n p.1 p.2).2=0 then ((Dc n p.1 p.2).1,true,0) else ([],false,33)
def stepS (l:List En) (s:List UInt8):List UInt8 × Bool × Int:=
 if (Aw s).2=0 then NE (Aw s).1 (Ge (Aw s).1 l) else ([],false,34)
theorem Acs {n:List UInt8} {l:List En} {k:Nat} (hk:k<l.length):Ge n (l.take (k+1))=Fa n (Ge n (l.take k)) l[k]:=by unfold Ge;rw [aX hk,dE,List.foldl_cons,List.foldl_nil]
theorem Acu {s f d x:List UInt8} (h:Dc s f d=(x,0)):Aw x=(x,0):=by
 obtain ⟨_,_,h3,r,a,b⟩:=SG h;have hx:x=Aq (r++(Ae d).1):=by obtain ⟨h1,h2,_⟩:=SG h;have hb:Db (Ae s).1 (Ae f).1=some r:=Ni.2 a;unfold Dc at h;rw [aP h1,aP h2,aP h3,hb] at h;exact (Yo h).2.2
 unfold Aw;rw [b];simp only;rw [<-hx]
theorem Xw {l:List En} {s x:List UInt8} {b:Bool} (h:stepS l s=(x,b,0)):Aw x=(x,0):=by
 unfold stepS at h;split at h
 · rename_i h0;unfold NE at h;split at h
   · cases h;exact SH h0
   · split at h
     · rename_i h1;simp only [bR] at h;obtain ⟨hx,_,_⟩:=h;rw [<-hx];exact Acu (by rw [<-h1])
     · cases h
 · cases h
def DX (l:List En):Nat->List (List UInt8)->List UInt8->List (List UInt8) × List UInt8 × Int
 | 0,_,_=>([],[],36)
 | k+1,seen,n=>
  if (stepS l n).2.2=0 then (if (stepS l n).2.1=true then (if seen.contains (stepS l n).1=true\/16<seen.length then ([],[],36) else DX l k (seen++[(stepS l n).1]) (stepS l n).1) else (seen,n,0))
  else ([],[],(stepS l n).2.2)
def inS (l:List En) (n:List UInt8):Bool:=l.any (fun e=>e.name==n)
def Gy (l:List En) (seen:List (List UInt8)) (n:List UInt8):List UInt8 × Bool × Int:=
 if n≠[]/\inS l n=false then ([],false,if 1<seen.length then 33 else 32) else (n,decide (1<seen.length),0)
def Ij (l:List En) (t:List (List UInt8) × List UInt8 × Int):List UInt8 × Bool × Int:=if t.2.2=0 then Gy l t.1 t.2.1 else ([],false,t.2.2)
def AK (l:List En) (s:List UInt8) (follow:Bool):List UInt8 × Bool × Int:=
 if (Aw s).2=0 then (if follow=true then Ij l (DX l 17 [(Aw s).1] (Aw s).1) else Gy l [(Aw s).1] (Aw s).1) else ([],false,34)
theorem Wj {l:List En} {seen:List (List UInt8)} {n:List UInt8} (h:(Gy l seen n).2.2=0):(n=[]\/inS l n=true)/\Gy l seen n=(n,decide (1<seen.length),0):=by
 unfold Gy at h⊢;split at h
 · split at h <;> cases h
 · rename_i h9;refine ⟨?_,by rw [aG h9]⟩;by_cases h0:n=[]
   · exact .inl h0
   · right;cases a:inS l n with
     | true=>rfl
     | false=>exact absurd ⟨h0,a⟩ h9
theorem find_in {l:List En} {n:List UInt8} (d:Aw n=(n,0)) (c:n=[]\/inS l n=true) (a:∃b,stepS l n=(b,false,0)):AK l n true=(n,false,0):=by obtain ⟨b,a⟩:=a;unfold AK;rw [d,aP rfl,aP rfl];unfold DX;rw [a,aP rfl,aG (by simp)];unfold Ij;rw [aP rfl];unfold Gy;rw [aG (by rintro ⟨h1,h2⟩;rcases c with h | h;exact h1 h;rw [h] at h2;cases h2)];rfl
end EnS
end
section
namespace SeS
open Go.Lib DnS EnS
theorem AP {α:Type} {p:α->Bool} {l:List α} {e:α} (h:e ∈ l.filter p):e ∈ l:=(bW.1 h).1
def Gz (n:List UInt8):Prop:=Aw n=(n,0)
theorem Gz.txt {n:List UInt8} (h:Gz n):(Ae n).2=0:=congrArg Prod.snd h
theorem Gz.join {n:List UInt8} (h:Gz n):Aq (Ae n).1=n:=congrArg Prod.fst h
theorem SI:∀{x y:List (List UInt8)},DnS.cmpL x y=0->x=y
 | [],[],_=>rfl
 | [],_ :: _,h=>by simp [DnS.cmpL] at h
 | _ :: _,[],h=>by simp [DnS.cmpL] at h
 | a :: x,b :: y,h=>by
  unfold DnS.cmpL at h;split at h
  · rename_i h1;rw [(RuS.compare_zero a b).1 h1,SI h]
  · omega
theorem OU {a b:List UInt8} (c:Gz a) (hb:Gz b) (h:Am a b=0):a=b:=by unfold Am at h;rw [aP ⟨c.txt,hb.txt⟩] at h;unfold EI at h;have h2:=List.reverse_inj.1 (SI h);rw [<-c.join,<-hb.join,h2]
theorem Wl {a b c:List UInt8} (d:Gz a) (hb:Gz b) (hc:Gz c) (h:Am a b<0) (k:Am b c<0):Am a c<0:=by
 have h1:=KA d.txt hb.txt hc.txt (by omega) (by omega);rcases Int.lt_or_eq_of_le h1 with h2 | h2
 · exact h2
 · have e:=OU d hc h2;subst e;have:=CW a b;omega
theorem Ll {a:List UInt8}:Am a a=0:=by have:=CW a a;omega
def Srt (xs:List En):Prop:=xs.Pairwise (fun a b=>Am a.name b.name<0)
def Bt (xs:List En):Prop:=∀e ∈ xs,Gz e.name
def BD (xs:List En):Prop:=∀a ∈ xs,∀b ∈ xs,a.name=b.name->a=b
theorem Lm:∀{xs ys:List En},Srt xs->Srt ys->(∀e,e ∈ xs↔e ∈ ys)->xs=ys
 | [],[],_,_,_=>rfl
 | [],y :: r,_,_,h=>by simp at h;exact absurd rfl (h y).1
 | x :: r,[],_,_,h=>by simp at h;exact absurd rfl (h x).1
 | x :: xs,y :: ys,hx,hy,h=>by
  obtain ⟨hx1,c⟩:=bz.1 hx;obtain ⟨b,d⟩:=bz.1 hy;have e:x=y:=by
   rcases ay.1 ((h x).1 (ai ..)) with e | e
   · exact e
   · rcases ay.1 ((h y).2 (ai ..)) with f | f
     · exact f.symm
     · have h1:=b x e;have h2:=hx1 y f;have:=CW x.name y.name;omega
  subst e;rw [Lm c d (fun z=>?_)];constructor
  · intro a;rcases ay.1 ((h z).1 (ar _ a)) with e | e
    · subst e;have:=hx1 z a;rw [Ll] at this;omega
    · exact e
  · intro a;rcases ay.1 ((h z).2 (ar _ a)) with e | e
    · subst e;have:=b z a;rw [Ll] at this;omega
    · exact e
theorem Srt.map {xs:List En} (h:Srt xs) {f:En->En} (c:∀e,(f e).name=e.name):Srt (xs.map f):=by unfold Srt at*;rw [eH];exact h.imp (fun {a b} h=>by rw [c,c];exact h)
theorem Srt.filter {xs:List En} (h:Srt xs) (p:En->Bool):Srt (xs.filter p):=List.Pairwise.filter p h
def Ec (x:En):List En->List En
 | []=>[x]
 | y :: r=>if Am y.name x.name<0 then y :: Ec x r else if y.name=x.name then y :: r else x :: y :: r
def Bd (xs:List En):List En:=xs.foldl (fun acc x=>Ec x acc) []
theorem SJ {xs:List En} {k:Nat} (hk:k<xs.length):Bd (xs.take (k+1))=Ec (xs[k]'hk) (Bd (xs.take k)):=by unfold Bd;rw [aX hk,dE,List.foldl_cons,List.foldl_nil]
def Dw (n:List UInt8) (xs:List En):Nat:=(xs.takeWhile (fun y=>decide (Am y.name n<0))).length
theorem Wm {n:List UInt8}:∀{xs:List En} {j:Nat},j<=xs.length->(∀i (b:i<xs.length),i<j->Am (xs[i]'b).name n<0)->(∀a:j<xs.length,¬Am (xs[j]'a).name n<0)->Dw n xs=j
 | [],j,a,_,_=>by simp at a;subst a;rfl
 | y :: r,0,_,_,h=>by have:=h (dS _);unfold Dw;rw [cX,aG (by simpa using this)];rfl
 | y :: r,j+1,a,h1,h2=>by have h0:=h1 0 (dS _) (dS _);have e:=Wm (n:=n) (xs:=r) (j:=j) (by simpa using a) (fun i b d=>h1 (i+1) (by simpa using b) (by omega)) (fun c=>h2 (by simpa using c));unfold Dw at*;rw [cX,aP (by simpa using h0),aO,e]
theorem Wn {x:En}:∀{xs:List En} (h:Dw x.name xs<xs.length),(xs[Dw x.name xs]'h).name=x.name->Ec x xs=xs
 | [],h,_=>by simp [Dw] at h
 | y :: r,h,e=>by
  unfold Ec;by_cases hc:Am y.name x.name<0
  · have hp:Dw x.name (y :: r)=Dw x.name r+1:=by unfold Dw;rw [cX,aP (by simpa using hc)];rfl
    rw [aP hc];have h2:Dw x.name r<r.length:=by rw [hp] at h;simpa using h
    rw [Wn h2 (by simp only [hp,aD] at e;exact e)]
  · have hp:Dw x.name (y :: r)=0:=by unfold Dw;rw [cX,aG (by simpa using hc)];rfl
    simp only [hp,aB] at e;rw [aG hc,aP e]
theorem Yp {x:En}:∀{xs:List En},(∀h:Dw x.name xs<xs.length,(xs[Dw x.name xs]'h).name≠x.name)->Ec x xs=xs.take (Dw x.name xs)++x :: xs.drop (Dw x.name xs)
 | [],_=>rfl
 | y :: r,e=>by
  unfold Ec;by_cases hc:Am y.name x.name<0
  · have hp:Dw x.name (y :: r)=Dw x.name r+1:=by unfold Dw;rw [cX,aP (by simpa using hc)];rfl
    rw [aP hc,hp,List.take_succ_cons,bU,List.cons_append,Yp (fun h=>by
     have:=e (by rw [hp];simpa using h);simp only [hp,aD] at this;exact this)]
  · have hp:Dw x.name (y :: r)=0:=by unfold Dw;rw [cX,aG (by simpa using hc)];rfl
    have:=e (by rw [hp];exact dS _);simp only [hp,aB] at this;rw [aG hc,aG this,hp];rfl
theorem NF {x e:En}:∀{xs:List En},e ∈ Ec x xs->e=x\/e ∈ xs
 | [],h=>by rw [Ec,ak] at h;exact .inl h
 | y :: r,h=>by
  unfold Ec at h;split at h
  · rcases ay.1 h with rfl | h
    · exact .inr (ai ..)
    · exact (NF h).imp id (ar _)
  · split at h
    · exact .inr h
    · rcases ay.1 h with rfl | h
      · exact .inl rfl
      · exact .inr h
theorem Yq {x:En} (hx:Gz x.name):∀{xs:List En},Bt xs->Srt xs->Srt (Ec x xs)
 | [],_,_=>by unfold Srt Ec;simp
 | y :: r,ho,hs=>by
  obtain ⟨h1,h2⟩:=bz.1 hs;have d:=ho y (ai ..);have b:Bt r:=fun e a=>ho e (ar _ a);unfold Ec;split
  · rename_i hc;refine bz.2 ⟨fun e a=>?_,Yq hx b h2⟩;rcases NF a with rfl | a
    · exact hc
    · exact h1 e a
  · rename_i hc;split
    · exact hs
    · rename_i f;have c:Am x.name y.name<0:=by
       have h3:Am y.name x.name≠0:=fun h=>f (OU d hx h);have:=CW x.name y.name;omega
      refine bz.2 ⟨fun e a=>?_,hs⟩;rcases ay.1 a with rfl | a
      · exact c
      · exact Wl hx d (b e a) c (h1 e a)
theorem Yr {x e:En}:∀{xs:List En},e ∈ xs->e ∈ Ec x xs
 | y :: r,h=>by
  unfold Ec;split
  · rcases ay.1 h with rfl | h
    · exact ai ..
    · exact ar _ (Yr h)
  · split
    · exact h
    · exact ar _ h
theorem Wp (x:En):∀xs:List En,∃e ∈ Ec x xs,e.name=x.name
 | []=>⟨x,ak.2 rfl,rfl⟩
 | y :: r=>by
  unfold Ec;split
  · obtain ⟨e,a,b⟩:=Wp x r;exact ⟨e,ar _ a,b⟩
  · split
    · rename_i h;exact ⟨y,ai ..,h⟩
    · exact ⟨x,ai ..,rfl⟩
theorem AdL:∀{xs:List En} {e:En},e ∈ Bd xs->e ∈ xs:=by
 have go:∀(xs acc:List En) (e:En),e ∈ xs.foldl (fun acc x=>Ec x acc) acc->e ∈ acc\/e ∈ xs:=by
  intro xs
  induction xs with
  | nil=>intro acc e h;exact .inl h
  | cons x r a=>
   intro acc e h;rw [List.foldl_cons] at h;rcases a _ _ h with h | h
   · rcases NF h with rfl | h
     · exact .inr (ai ..)
     · exact .inl h
   · exact .inr (ar _ h)
 intro xs e h;exact (go xs [] e h).resolve_left (by simp)
theorem EJ {xs:List En} (f:Bt xs) (h1:BD xs):Srt (Bd xs)/\∀e,e ∈ Bd xs↔e ∈ xs:=by
 have go:∀(zs acc:List En),Bt (acc++zs)->BD (acc++zs)->Srt acc->Srt (zs.foldl (fun acc x=>Ec x acc) acc)/\∀e,(e ∈ acc\/e ∈ zs)->e ∈ zs.foldl (fun acc x=>Ec x acc) acc:=by
  intro zs
  induction zs with
  | nil=>intro acc _ _ h;exact ⟨h,fun e c=>c.resolve_right (by simp)⟩
  | cons x r k=>
   intro acc f h1 j;rw [List.foldl_cons];have d:∀e,e ∈ Ec x acc++r->e ∈ acc++x :: r:=fun e c=>by
    rcases b9.1 c with c | c
    · rcases NF c with rfl | c
      · exact dM _ (ai ..)
      · exact bq _ c
    · exact dM _ (ar _ c)
   obtain ⟨g1,g2⟩:=k (Ec x acc) (fun e c=>f e (d e c)) (fun a ha b hb h=>h1 a (d a ha) b (d b hb) h) (Yq (f x (by simp)) (fun e c=>f e (bq _ c)) j);refine ⟨g1,fun e c=>g2 e ?_⟩;rcases c with c | c
   · exact .inl (Yr c)
   · rcases ay.1 c with rfl | c
     · obtain ⟨y,g,i⟩:=Wp e acc;have:y=e:=h1 y (d y (bq _ g)) e (by simp) i;subst this;exact .inl g
     · exact .inr c
 obtain ⟨g1,g2⟩:=go xs [] f h1 eI;exact ⟨g1,fun e=>⟨AdL,fun h=>g2 e (.inr h)⟩⟩
theorem Yt {xs ys:List En} (a:Bt xs) (h1:BD xs) (b:Srt ys) (c:∀e,e ∈ ys↔e ∈ xs):Bd xs=ys:=by obtain ⟨g1,g2⟩:=EJ a h1;exact Lm g1 b (fun e=>by rw [g2,c])
theorem sort_same {xs ys:List En} (f:Bt xs) (h1:BD xs) (c:∀e,e ∈ ys↔e ∈ xs):Bd ys=Bd xs:=by have d:Bt ys:=fun e i=>f e ((c e).1 i);have h2:BD ys:=fun a g b hb h=>h1 a ((c a).1 g) b ((c b).1 hb) h;obtain ⟨g1,g2⟩:=EJ f h1;exact Yt d h2 g1 (fun e=>by rw [g2,c])
theorem Xx {xs:List En} (c:Bt xs) (h1:BD xs) (p:En->Bool):Bd (xs.filter p)=(Bd xs).filter p:=by obtain ⟨g1,g2⟩:=EJ c h1;exact Yt (fun e d=>c e (AP d)) (fun a f b hb h=>h1 a (AP f) b (AP hb) h) (g1.filter p) (fun e=>by rw [bW,bW,g2])
theorem Srt.nodup {xs:List En} (h:Srt xs):xs.Nodup:=i7 (fun {a b} hab e=>by subst e;rw [Ll] at hab;omega) h
theorem Acv {R zs ys:List En} {f:En->En} (c:∀e,(f e).name=e.name) (g:Bt R) (h1:BD R) (n:(zs.map En.name).Nodup) (l:∀e,e ∈ zs↔e ∈ R) (hp:ys.Perm (zs.map f)) (o:ys.Pairwise (fun a b=>¬Am b.name a.name<0)):ys=(Bd R).map f:=by
 obtain ⟨g1,g2⟩:=EJ g h1;have k:∀e,e ∈ ys↔∃x ∈ R,f x=e:=fun e=>by
  rw [hp.mem_iff,bD];constructor
  · rintro ⟨x,hx,e⟩;exact ⟨x,(l x).1 hx,e⟩
  · rintro ⟨x,hx,e⟩;exact ⟨x,(l x).2 hx,e⟩
 have j:(ys.map En.name).Nodup:=by
  have e:(zs.map f).map En.name=zs.map En.name:=by rw [cd];exact cQ (fun x _=>c x)
  exact (hp.map En.name).nodup_iff.2 (by rw [e];exact n)
 have d:ys.Pairwise (fun a b=>a.name≠b.name):=eH.1 j;refine Lm ?_ (g1.map c) (fun e=>?_)
 · refine fh (fun {a b} ha hb hab=>?_) (o.and d);obtain ⟨x,hx,rfl⟩:=(k a).1 ha;obtain ⟨y,i,rfl⟩:=(k b).1 hb;have m:=g x hx;have o2:=g y i;rw [c,c] at hab⊢;have s:=CW x.name y.name;have n0:Am x.name y.name≠0:=fun h=>hab.2 (OU m o2 h);omega
 · rw [k,bD];constructor
   · rintro ⟨x,hx,e⟩;exact ⟨x,(g2 x).2 hx,e⟩
   · rintro ⟨x,hx,e⟩;exact ⟨x,(g2 x).1 hx,e⟩
abbrev Pl:=List UInt8 × Int
def inScope (n:List UInt8) (sc:Int) (m:List UInt8):Bool:=if sc=0 then m==n else if sc=1 then m !=[]&&(EY m).1==n else EW m n
def Bf (l:List En) (n:List UInt8) (sc:Int):List En:=if (Aw n).2=0/\0<=sc/\sc<=2 then l.filter (fun e=>inScope (Aw n).1 sc e.name) else []
def Gv (dr:Bool) (p:Pl) (e:En):Bool:=dr&&(Dm e).2&&!(e.name==p.1)
def Hy (sc:Int):Int:=if sc=2 then 2 else 0
def Iw (ps:List Pl) (p:Pl):List Pl:=if ps.contains p then ps else ps++[p]
def Dv (l:List En) (sc:Int) (ps:List Pl) (e:En):List Pl:=if (AK l e.name true).2.2=0 then Iw ps ((AK l e.name true).1,Hy sc) else ps
def JG (l:List En) (dr:Bool) (ps:List Pl) (p:Pl):List Pl:=((Bf l p.1 p.2).filter (Gv dr p)).foldl (Dv l p.2) ps
def FK (l:List En) (dr:Bool) (p:Pl):List En:=(Bf l p.1 p.2).filter (fun e=>!Gv dr p e)
def stS (l:List En) (dr:Bool) (ps:List Pl):Nat->List Pl × List En
 | 0=>(ps,[])
 | k+1=>match (stS l dr ps k).1[k]? with
  | some p=>(JG l dr (stS l dr ps k).1 p,(stS l dr ps k).2++FK l dr p)
  | none=>stS l dr ps k
theorem Yu {l:List En} {dr:Bool} {ps:List Pl} {k:Nat} (hk:k<(stS l dr ps k).1.length):stS l dr ps (k+1)=(JG l dr (stS l dr ps k).1 ((stS l dr ps k).1[k]'hk),(stS l dr ps k).2++FK l dr ((stS l dr ps k).1[k]'hk)):=by rw [stS,aJ hk]
def OV (l:List En) (dr:Bool) (ps:List Pl) (N:Nat):Prop:=(stS l dr ps N).1.length<=N/\∀k,k<N->k<(stS l dr ps k).1.length
theorem Lp {l:List En} {dr:Bool} {ps:List Pl} {N M:Nat} (h:OV l dr ps N) (k:OV l dr ps M):N=M:=by
 rcases gz N M with a | a | a
 · have:=k.2 N a;have:=h.1;omega
 · exact a
 · have:=h.2 M a;have:=k.1;omega
theorem Acw (ps:List Pl) (p:Pl):∃r,Iw ps p=ps++r:=by
 unfold Iw;split
 · exact ⟨[],(bJ _).symm⟩
 · exact ⟨[p],rfl⟩
theorem AdM (l:List En) (sc:Int) (ps:List Pl) (e:En):∃r,Dv l sc ps e=ps++r:=by
 unfold Dv;split
 · exact Acw ..
 · exact ⟨[],(bJ _).symm⟩
theorem JH (l:List En) (sc:Int):∀(es:List En) (ps:List Pl),∃r,es.foldl (Dv l sc) ps=ps++r
 | [],ps=>⟨[],(bJ _).symm⟩
 | e :: es,ps=>by obtain ⟨r,b⟩:=AdM l sc ps e;obtain ⟨q,a⟩:=JH l sc es (ps++r);exact ⟨r++q,by rw [List.foldl_cons,b,a,bK]⟩
def Hz (U ps:List Pl):Prop:=ps.Nodup/\∀p ∈ ps,p ∈ U
theorem NG {α:Type} [DecidableEq α]:∀{ps U:List α},ps.Nodup->(∀p ∈ ps,p ∈ U)->ps.length<=U.length
 | [],_,_,_=>aR _
 | p :: r,U,hn,hs=>by obtain ⟨h1,h2⟩:=List.nodup_cons.1 hn;have hp:=hs p (ai ..);have b:=NG (U:=U.erase p) h2 (fun q a=>(List.mem_erase_of_ne (fun e=>by subst e;exact h1 a)).2 (hs q (ar _ a)));rw [List.length_erase_of_mem hp] at b;have:=List.length_pos_of_mem hp;rw [aO];omega
theorem Hz.len {U ps:List Pl} (h:Hz U ps):ps.length<=U.length:=NG h.1 h.2
theorem Hz.fresh {U ps:List Pl} (h:Hz U ps) {p:Pl} (hp:p ∈ U):Hz U (Iw ps p):=by
 unfold Iw;split
 · exact h
 · rename_i hc;have hc:p ∉ ps:=by simpa using hc
   refine ⟨fH.2 ⟨h.1,by simp,fun a d b hb=>?_⟩,fun q c=>?_⟩
   · rw [ak] at hb;subst hb;exact fun e=>hc (e ▸ d)
   · rcases b9.1 c with c | c
     · exact h.2 q c
     · rw [ak] at c;subst c;exact hp
def JI (l:List En) (p:Pl):List Pl:=p :: (([] :: l.map En.name).map (fun n=>(n,(0:Int)))++([] :: l.map En.name).map (fun n=>(n,(2:Int))))
theorem Afl (l:List En) (p:Pl):(JI l p).length=2*l.length+3:=by unfold JI;simp only [aO,aT,b7];omega
theorem find_in {l:List En} {s:List UInt8} {f:Bool} (h:(AK l s f).2.2=0):(AK l s f).1=[]\/inS l (AK l s f).1=true:=by
 unfold AK at h⊢;split at h
 · rename_i h0;rw [aP h0];split at h
   · rename_i h1;rw [aP h1];unfold Ij at h⊢;split at h
     · rename_i h2;rw [aP h2];obtain ⟨a,b⟩:=Wj h;rw [b];exact a
     · rename_i h2;exact absurd h h2
   · rename_i h1;rw [aG h1];obtain ⟨a,b⟩:=Wj h;rw [b];exact a
 · cases h
theorem Hz.lead {l:List En} {p0:Pl} {ps:List Pl} (h:Hz (JI l p0) ps) (sc:Int) (e:En):Hz (JI l p0) (Dv l sc ps e):=by
 unfold Dv;split
 · rename_i hc;refine h.fresh (ar _ ?_);have a:(AK l e.name true).1 ∈ [] :: l.map En.name:=by
    rcases find_in hc with h | h
    · rw [h];exact ai ..
    · obtain ⟨x,hx,b⟩:=fV.1 h;exact ar _ (bD.2 ⟨x,hx,by simpa using b⟩)
   unfold Hy;split
   · exact dM _ (bD.2 ⟨_,a,rfl⟩)
   · exact bq _ (bD.2 ⟨_,a,rfl⟩)
 · exact h
theorem Hz.leads {l:List En} {p0:Pl} (sc:Int):∀(es:List En) {ps:List Pl},Hz (JI l p0) ps->Hz (JI l p0) (es.foldl (Dv l sc) ps)
 | [],_,h=>h
 | e :: es,_,h=>by rw [List.foldl_cons];exact Hz.leads sc es (h.lead sc e)
theorem Ug {l:List En} {dr:Bool} {p:Pl}:∀k,Hz (JI l p) (stS l dr [p] k).1
 | 0=>⟨by simp [stS],fun q a=>by simp [stS] at a;subst a;exact ai ..⟩
 | k+1=>by
  rw [stS];split
  · exact (Ug k).leads _ _
  · exact Ug k
theorem st_len {l:List En} {dr:Bool} {p:Pl} (k:Nat):(stS l dr [p] k).1.length<=2*l.length+3:=by rw [<-Afl l p];exact (Ug k).len
theorem Nl {l:List En} {dr:Bool} {ps:List Pl}:∀k,∀e ∈ (stS l dr ps k).2,e ∈ l
 | 0,e,h=>by simp [stS] at h
 | k+1,e,h=>by
  rw [stS] at h;split at h
  · rcases b9.1 h with h | h
    · exact Nl k e h
    · have h:=AP h;unfold Bf at h;split at h
      · exact AP h
      · cases h
  · exact Nl k e h
theorem SK {l:List En} {p:Pl} (k:Nat):stS l false [p] (k+1)=([p],Bf l p.1 p.2):=by
 have c:∀q e,Gv false q e=false:=fun _ _=>rfl;have b:∀ps q,JG l false ps q=ps:=fun ps q=>by unfold JG;rw [List.filter_eq_nil_iff.2 (fun e _=>by rw [c];simp)];rfl
 have a:∀q,FK l false q=Bf l q.1 q.2:=fun q=>by unfold FK;rw [gV.2 (fun e _=>by rw [c];rfl)]
 induction k with
 | zero=>
  rw [Yu (k:=0) (by exact Nat.zero_lt_one)];show (JG l false [p] p,[]++FK l false p)=_
  rw [b,a,List.nil_append]
 | succ k d=>rw [stS,d];rfl
theorem Afm (l:List En) (p:Pl):OV l false [p] 1:=by
 refine ⟨by rw [SK];exact aA _,fun k hk=>?_⟩;have:k=0:=by omega
 subst this;exact dS _
def GF (size:Int) (xs:List En):Int × List En:=if 0<size/\size<xs.length then (4,xs.take size.toNat) else (0,xs)
theorem Wq (xs:List En):GF 0 xs=(0,xs):=by unfold GF;rw [aG (by omega)]
theorem Aga {n:Nat} {xs:List En} (h:n=0\/xs.length<=n):GF n xs=(0,xs):=by unfold GF;rw [aG (by omega)]
theorem Afn {n:Nat} {xs:List En} (h0:n≠0) (h:n<xs.length):GF n xs=(4,xs.take n):=by unfold GF;rw [aP (by omega)];rfl
theorem Acx {xs:List En} (k:Bt xs) (h1:BD xs) {p q r:En->Bool} (j:∀e,r e=(p e||q e)) (hx:∀e,(p e&&q e)=false):
  (Bd (xs.filter p)).length+(Bd (xs.filter q)).length=(Bd (xs.filter r)).length/\Bd (Bd (xs.filter p)++Bd (xs.filter q))=Bd (xs.filter r):=by
 have sub:∀(f:En->Bool),Bt (xs.filter f)/\BD (xs.filter f):=fun f=>⟨fun e l=>k e (AP l),fun a c b hb h=>h1 a (AP c) b (AP hb) h⟩
 have sp:=EJ (sub p).1 (sub p).2;have d:=EJ (sub q).1 (sub q).2;have i:=EJ (sub r).1 (sub r).2;have g:∀e,e ∈ Bd (xs.filter p)++Bd (xs.filter q)↔e ∈ xs.filter r:=fun e=>by rw [b9,sp.2,d.2,bW,bW,bW,j e];cases p e <;> cases q e <;> simp
 have hd:(Bd (xs.filter p)++Bd (xs.filter q)).Nodup:=fH.2 ⟨sp.1.nodup,d.1.nodup,fun a c b hb e=>by
  subst e;rw [sp.2,bW] at c;rw [d.2,bW] at hb;have:=hx a;rw [c.2,hb.2] at this;cases this⟩
 refine ⟨?_,sort_same (sub r).1 (sub r).2 g⟩;rw [<-aT];exact ((fF hd i.1.nodup).2 (fun e=>by rw [g,i.2])).length_eq
end SeS
end
end Go.Proofs.YtgngjfjaelgaeaaGreatDoor
