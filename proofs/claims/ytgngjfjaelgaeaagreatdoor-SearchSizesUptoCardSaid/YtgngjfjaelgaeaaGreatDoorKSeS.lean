/- Plain laws of names: read, their parts' normal texts, joined; a normal text is its own. Conditions: as stated. -/
import Derived.Test.YtgngjfjaelgaeaaGreatDoorKRdS
namespace Go.Proofs.YtgngjfjaelgaeaaGreatDoor.DnS
open Go.Lib RdS
def partsS:List (List UInt8)->Option (List (List Pr))
 | []=>some []
 | p :: ps=>if (AY p).2=0 then (partsS ps).map ((AY p).1 :: ·) else none
def Bg (s:List UInt8):List (List Pr) × Int:=
 if 1000<s.length then ([],4) else if s=[] then ([],0) else if 12<(Aj 44 s).length then ([],4)
 else match partsS (Aj 44 s) with
  | none=>([],2)
  | some l=>(l,0)
def AC (l:List Pr):List UInt8:=(printS (AH l)).1
def Ak (ts:List (List UInt8)):List UInt8:=Lib.join ts [44]
def Ad (s:List UInt8):List (List UInt8) × Int:=
 if (Bg s).2=0 then (if 1000<(Ak ((Bg s).1.map AC)).length then ([],4) else ((Bg s).1.map AC,0)) else ([],(Bg s).2)
def Au (s:List UInt8):List UInt8 × Int:=(Ak (Ad s).1,(Ad s).2)
theorem Lq:∀{ps:List (List UInt8)} {l:List (List Pr)},partsS ps=some l->l.length=ps.length/\∀q ∈ l,formedS q=true
 | [],l,h=>by cases h;exact ⟨rfl,fun q hq=>by cases hq⟩
 | p :: ps,l,h=>by
  unfold partsS at h
  split at h
  · rename_i h0
    obtain ⟨l2,A0,rfl⟩:=Option.map_eq_some_iff.1 h
    have ih:=Lq A0
    refine ⟨by simp [ih.1],fun q hq=>?_⟩
    rcases List.mem_cons.1 hq with rfl | hq
    · exact Wj (s:=p) (by rw [<-h0])
    · exact ih.2 q hq
  · cases h
theorem EY {s:List UInt8} {l:List (List Pr)} (h:Bg s=(l,0)):l.length<=12/\(∀q ∈ l,formedS q=true)/\(l=[]↔s=[]):=by
 unfold Bg at h
 split at h
 · cases h
 · split at h
   · rename_i hs
     cases h
     exact ⟨by simp,fun q hq=>(by cases hq),⟨fun _=>hs,fun _=>rfl⟩⟩
   · split at h
     · cases h
     · rename_i hs h12
       cases hp:partsS (Aj 44 s) with
       | none=>rw [hp] at h;cases h
       | some l2=>
        rw [hp] at h
        cases h
        have:=Lq hp
        obtain ⟨p0,A0,e⟩:=Cm 44 s
        refine ⟨by rw [this.1];omega,this.2,⟨fun h0=>?_,fun h0=>absurd h0 hs⟩⟩
        rw [h0,e] at this;simp at this
theorem Oj {l:List Pr} (h:formedS l=true):AC l=AQ (AH l) (AH l).length:=by
 unfold AC printS
 rw [if_pos (Dw h).1]
theorem PT {l:List Pr} (h:formedS l=true):AY (AC l)=(AH l,0):=by rw [Oj h];exact AaF (Dw h).1
theorem WG {l:List Pr} (h:formedS l=true):AU 44 (AC l):=by
 rw [Oj h];exact UA (by decide) (by decide) (by decide) (by decide) (Dw h).1
theorem PU {l:List Pr} (h:formedS l=true):AC (AH l)=AC l:=by unfold AC;rw [(Dw h).2]
theorem Vp {l:List Pr} (h:formedS l=true):AC l≠[]:=by
 intro h0
 have hb:=PT h
 rw [h0] at hb
 have:AY []=([],2):=by decide+kernel
 rw [this] at hb
 have h2:=congrArg Prod.snd hb
 exact absurd (show (2:Int)=0 from h2) (by decide)
theorem NL:∀{l:List (List Pr)},(∀q ∈ l,formedS q=true)->partsS (l.map AC)=some (l.map AH)
 | [],_=>rfl
 | q :: l,h=>by
  rw [List.map_cons]
  unfold partsS
  rw [PT (h q (List.mem_cons_self ..)),if_pos rfl,NL (fun p hp=>h p (List.mem_cons_of_mem _ hp))]
  rfl
theorem RA {l:List (List Pr)} (hn:l.length<=12) (hf:∀q ∈ l,formedS q=true) (hl:(Ak (l.map AC)).length<=1000):Bg (Ak (l.map AC))=(l.map AH,0):=by
 cases l with
 | nil=>simp [Ak,Lib.join,List.intercalate,Bg]
 | cons q l=>
  have hq:=Vp (hf q (List.mem_cons_self ..))
  have A0:Aj 44 (Ak ((q :: l).map AC))=(q :: l).map AC:=by
   refine KN _ (by simp) (fun p hp=>?_)
   obtain ⟨r,hr,rfl⟩:=List.mem_map.1 hp
   exact WG (hf r hr)
  have A1:Ak ((q :: l).map AC)≠[]:=by
   intro h0
   rw [h0] at A0
   simp only [Aj,List.map_cons] at A0
   exact hq (List.cons.inj A0).1.symm
  unfold Bg
  rw [if_neg (by omega),if_neg A1,A0,if_neg (by rw [List.length_map];omega),NL hf]
theorem JC {s:List UInt8} {ts:List (List UInt8)} (h:Ad s=(ts,0)):∃l,Bg s=(l,0)/\ts=l.map AC/\(Ak ts).length<=1000:=by
 unfold Ad at h
 split at h
 · rename_i h0
   split at h
   · cases h
   · rename_i h1
     cases h
     exact ⟨_,by rw [<-h0],rfl,by omega⟩
 · rename_i h0
   injection h with _ h2
   exact absurd h2 h0
theorem Zm {s:List UInt8} {ts:List (List UInt8)} (h:Ad s=(ts,0)):Ad (Ak ts)=(ts,0):=by
 obtain ⟨l,hl,rfl,hlen⟩:=JC h
 have hf:=EY hl
 have hb:=RA hf.1 hf.2.1 hlen
 have hm:(l.map AH).map AC=l.map AC:=by
  rw [List.map_map]
  exact List.map_congr_left fun q hq=>PU (hf.2.1 q hq)
 unfold Ad
 rw [hb]
 simp only [if_true,hm]
 rw [if_neg (by omega)]
end Go.Proofs.YtgngjfjaelgaeaaGreatDoor.DnS
namespace Go.Proofs.YtgngjfjaelgaeaaGreatDoor.DnS
open Go.Lib RdS
def GY (ts:List (List UInt8)):List UInt8 × Int:=if 12<ts.length\/1000<(Ak ts).length then ([],4) else (Ak ts,0)
theorem NM {l:List Pr} (h:formedS l=true):(AC l).length<=3000:=by
 rw [Oj h];exact KO (Dw h).1 _ (Nat.le_refl _)
theorem NP {l:List Pr} (h:formedS l=true):printS (AH l)=(AC l,0):=by
 unfold AC printS;rw [if_pos (Dw h).1]
theorem MG {l:List Pr} (h:formedS l=true):normP l=(AH l,0):=by unfold normP;rw [if_pos h]
def SZ (t:List UInt8):Prop:=∃q,formedS q=true/\t=AC q
theorem KX {s:List UInt8} {ts:List (List UInt8)} (h:Ad s=(ts,0)):ts.length<=12/\(Ak ts).length<=1000/\∀t ∈ ts,SZ t:=by
 obtain ⟨l,hl,rfl,hlen⟩:=JC h
 have hf:=EY hl
 refine ⟨by rw [List.length_map];exact hf.1,hlen,fun t ht=>?_⟩
 obtain ⟨q,hq,rfl⟩:=List.mem_map.1 ht
 exact ⟨q,hf.2.1 q hq,rfl⟩
theorem Lr:∀{ts:List (List UInt8)},(∀t ∈ ts,SZ t)->∃l:List (List Pr),(∀q ∈ l,formedS q=true)/\ts=l.map AC
 | [],_=>⟨[],fun q hq=>(by cases hq),rfl⟩
 | t :: ts,h=>by
  obtain ⟨l,hl,rfl⟩:=Lr (ts:=ts) (fun u hu=>h u (List.mem_cons_of_mem _ hu))
  obtain ⟨q,hq,rfl⟩:=h t (List.mem_cons_self ..)
  refine ⟨q :: l,fun p hp=>?_,rfl⟩
  rcases List.mem_cons.1 hp with rfl | hp
  · exact hq
  · exact hl p hp
theorem Vq {ts:List (List UInt8)} (h:∀t ∈ ts,SZ t) (hn:ts.length<=12) (hl:(Ak ts).length<=1000):Ad (Ak ts)=(ts,0):=by
 obtain ⟨l,hf,rfl⟩:=Lr h
 have hb:=RA (by rw [List.length_map] at hn;exact hn) hf hl
 have hm:(l.map AH).map AC=l.map AC:=by
  rw [List.map_map]
  exact List.map_congr_left fun q hq=>PU (hf q hq)
 unfold Ad
 rw [hb]
 simp only [if_true,hm]
 rw [if_neg (by omega)]
theorem Xx {ts:List (List UInt8)} {x:List UInt8} (h:GY ts=(x,0)):ts.length<=12/\(Ak ts).length<=1000/\x=Ak ts:=by
 unfold GY at h
 split at h
 · cases h
 · rename_i h0
   cases h
   exact ⟨by omega,by omega,rfl⟩
theorem Afc {ts:List (List UInt8)} (hn:ts.length<=12) (hl:(Ak ts).length<=1000):GY ts=(Ak ts,0):=by
 unfold GY;rw [if_neg (by omega)]
theorem MH {s:List UInt8} (h:(Ad s).2≠0):(Ad s).1=[]:=by
 unfold Ad at h⊢
 split
 · rename_i h0
   rw [if_pos h0] at h
   split
   · rfl
   · rename_i h1;rw [if_neg h1] at h;exact absurd rfl h
 · rfl
theorem Da (s:List UInt8):(Ad s).1.length<=12/\(Ak (Ad s).1).length<=1000:=by
 by_cases h:(Ad s).2=0
 · have:=KX (s:=s) (ts:=(Ad s).1) (by rw [<-h])
   exact ⟨this.1,this.2.1⟩
 · rw [MH h];exact ⟨by simp,by simp [Ak,Lib.join,List.intercalate]⟩
theorem GZ (s:List UInt8):(Au s).1.length<=1000:=(Da s).2
theorem GG {s:List UInt8}:∀t ∈ (Ad s).1,t.length<=3000:=by
 intro t ht
 by_cases h:(Ad s).2=0
 · obtain ⟨q,hq,rfl⟩:=(KX (s:=s) (ts:=(Ad s).1) (by rw [<-h])).2.2 t ht
   exact NM hq
 · rw [MH h] at ht;cases ht
def CS (a b:List (List UInt8)):Option (List (List UInt8)):=
 if a.length<b.length then none else if a.drop (a.length - b.length)=b then some (a.take (a.length - b.length)) else none
theorem MI {a b r:List (List UInt8)}:CS a b=some r↔a=r++b:=by
 unfold CS
 constructor
 · intro h
   split at h
   · cases h
   · split at h
     · rename_i h1 h2
       cases h
       have:=List.take_append_drop (a.length - b.length) a
       rw [h2] at this
       exact this.symm
     · cases h
 · rintro rfl
   rw [if_neg (by rw [List.length_append];omega),List.length_append,Nat.add_sub_cancel]
   simp
def ED (a b:List UInt8):Bool:=decide ((Ad a).2=0)&&decide ((Ad b).2=0)&&(CS (Ad a).1 (Ad b).1).isSome
def cmpL:List (List UInt8)->List (List UInt8)->Int
 | [],[]=>0
 | [],_ :: _=>-1
 | _ :: _,[]=>1
 | a :: x,b :: y=>if compareBytes a b=0 then cmpL x y else compareBytes a b
theorem RB:∀x y,cmpL y x=-cmpL x y
 | [],[]=>rfl
 | [],_ :: _=>rfl
 | _ :: _,[]=>rfl
 | a :: x,b :: y=>by
  unfold cmpL
  rw [RuS.compare_swap a b,RB x y]
  split
  · rw [if_pos (by omega)]
  · rw [if_neg (by omega)]
theorem Ls:∀x y z:List UInt8,compareBytes x y<=0->compareBytes y z<=0->compareBytes x z<=0
 | [],y,[],_,_=>by simp [compareBytes]
 | [],y,_ :: _,_,_=>by simp [compareBytes]
 | a :: x,[],z,h,_=>by simp [compareBytes] at h
 | a :: x,b :: y,[],_,h=>by simp [compareBytes] at h
 | a :: x,b :: y,c :: z,h,k=>by
  have ih:=Ls x y z
  unfold compareBytes at h k⊢
  simp only [RuS.u8_lt] at h k⊢
  by_cases h1:a.toNat<b.toNat
  · by_cases h2:b.toNat<c.toNat
    · rw [if_pos (by omega)];omega
    · rw [if_neg h2] at k
      split at k
      · omega
      · rw [if_pos (by omega)];omega
  · rw [if_neg h1] at h
    split at h
    · omega
    · by_cases h2:b.toNat<c.toNat
      · rw [if_pos (by omega)];omega
      · rw [if_neg h2] at k
        split at k
        · omega
        · rw [if_neg (by omega),if_neg (by omega)]
          exact ih h k
theorem PV:∀x y z,cmpL x y<=0->cmpL y z<=0->cmpL x z<=0
 | [],y,[],_,_=>by simp [cmpL]
 | [],y,_ :: _,_,_=>by simp [cmpL]
 | a :: x,[],z,h,_=>by simp [cmpL] at h
 | a :: x,b :: y,[],_,h=>by simp [cmpL] at h
 | a :: x,b :: y,c :: z,h,k=>by
  have ih:=PV x y z
  unfold cmpL at h k⊢
  by_cases h1:compareBytes a b=0
  · rw [if_pos h1] at h
    have:=(RuS.compare_zero a b).1 h1
    subst this
    split at k
    · rename_i h2;rw [if_pos h2];exact ih h k
    · rename_i h2;rw [if_neg h2];exact k
  · rw [if_neg h1] at h
    by_cases h2:compareBytes b c=0
    · have:=(RuS.compare_zero b c).1 h2
      subst this
      rw [if_neg h1];exact h
    · rw [if_neg h2] at k
      have h3:compareBytes a c≠0:=by
       intro h0
       have:=(RuS.compare_zero a c).1 h0
       subst this
       have:=RuS.compare_swap a b
       omega
      rw [if_neg h3]
      exact Ls a b c h k
def Vr (x y:List (List UInt8)):Int:=cmpL x.reverse y.reverse
def Aw (a b:List UInt8):Int:=if (Ad a).2=0/\(Ad b).2=0 then Vr (Ad a).1 (Ad b).1 else 0
theorem CJ (a b:List UInt8):Aw b a=-Aw a b:=by
 unfold Aw
 by_cases h:(Ad a).2=0/\(Ad b).2=0
 · rw [if_pos h,if_pos ⟨h.2,h.1⟩];exact RB _ _
 · rw [if_neg h,if_neg (fun k=>h ⟨k.2,k.1⟩)];rfl
theorem JU {a b c:List UInt8} (ha:(Ad a).2=0) (hb:(Ad b).2=0) (hc:(Ad c).2=0) (h:Aw a b<=0) (k:Aw b c<=0):Aw a c<=0:=by
 unfold Aw at*
 rw [if_pos ⟨‹_›,‹_›⟩] at*
 exact PV _ _ _ h k
def EF (s:List UInt8):List UInt8 × Bool:=if (Ad s).1=[] then ([],false) else (Ak ((Ad s).1.drop 1),true)
theorem AbC (t:List UInt8):∀ts:List (List UInt8),(Ak ts).length<=(Ak (t :: ts)).length
 | []=>by simp [Ak,Lib.join,List.intercalate]
 | u :: ts=>by
  unfold Ak
  rw [RuS.join_cons_cons,List.length_append]
  omega
def CU (s fr dst:List UInt8):List UInt8 × Int:=
 if (Ad s).2=0 then (if (Ad fr).2=0 then (if (Ad dst).2=0 then (match CS (Ad s).1 (Ad fr).1 with
  | some r=>GY (r++(Ad dst).1)
  | none=>([],1)) else ([],(Ad dst).2)) else ([],(Ad fr).2)) else ([],(Ad s).2)
theorem RD {s fr dst x:List UInt8} (h:CU s fr dst=(x,0)):(Ad s).2=0/\(Ad fr).2=0/\(Ad dst).2=0/\∃r,(Ad s).1=r++(Ad fr).1/\Ad x=(r++(Ad dst).1,0):=by
 unfold CU at h
 split at h
 · rename_i h1
   split at h
   · rename_i h2
     split at h
     · rename_i h3
       refine ⟨h1,h2,h3,?_⟩
       cases hb:CS (Ad s).1 (Ad fr).1 with
       | none=>
        rw [hb] at h
        injection h with _ h4
        exact absurd h4 (by decide)
       | some r=>
        rw [hb] at h
        have hr:=MI.1 hb
        have hf:=Xx h
        have A0:=KX (s:=s) (ts:=(Ad s).1) (by rw [<-h1])
        have A1:=KX (s:=dst) (ts:=(Ad dst).1) (by rw [<-h3])
        refine ⟨r,hr,?_⟩
        rw [hf.2.2]
        refine Vq (fun t ht=>?_) hf.1 hf.2.1
        rcases List.mem_append.1 ht with ht | ht
        · exact A0.2.2 t (by rw [hr];exact List.mem_append_left _ ht)
        · exact A1.2.2 t ht
     · rename_i h3;injection h with _ h4;exact absurd h4 h3
   · rename_i h3;injection h with _ h4;exact absurd h4 h3
 · rename_i h3;injection h with _ h4;exact absurd h4 h3
theorem RF {s:List UInt8} (h:(Au s).2=0):Au (Au s).1=((Au s).1,0):=by
 have hb:=Zm (s:=s) (ts:=(Ad s).1) (by
  have:(Ad s).2=0:=h
  rw [<-this])
 show (Ak (Ad (Ak (Ad s).1)).1,(Ad (Ak (Ad s).1)).2)=(Ak (Ad s).1,0)
 rw [hb]
theorem Zn {s:List UInt8} (h:(Au s).2=0):(Au s).1=[]↔s=[]:=by
 obtain ⟨l,hl,A0,_⟩:=JC (s:=s) (ts:=(Ad s).1) (by
  have:(Ad s).2=0:=h
  rw [<-this])
 have hf:=EY hl
 rw [<-hf.2.2]
 show Ak (Ad s).1=[]↔_
 rw [A0]
 cases l with
 | nil=>simp [Ak,Lib.join,List.intercalate]
 | cons q l=>
  refine ⟨fun h0=>?_,fun h0=>(by cases h0)⟩
  have hq:=Vp (hf.2.1 q (List.mem_cons_self ..))
  have:=join_first (AC q) (l.map AC)
  rw [List.map_cons] at h0
  rw [h0] at this
  have h1:(AC q).length=0:=Nat.eq_zero_of_le_zero this
  exact absurd (List.eq_nil_of_length_eq_zero h1) hq
where
 join_first (t:List UInt8):∀ts:List (List UInt8),t.length<=(Ak (t :: ts)).length
  | []=>by unfold Ak;rw [Lib.join_one];exact Nat.le_refl _
  | u :: ts=>by
   unfold Ak
   rw [RuS.join_cons_cons,List.length_append,List.length_append]
   omega
def AB (nm v:List UInt8):List UInt8 × Int:=
 if (RuS.typeOf nm).2=5 then (if v.length<1\/200<v.length then ([],2) else if (Au v).2=0 then ((Au v).1,0) else ([],2)) else RuS.normal nm v
theorem Zo (nm v:List UInt8):AB nm v=if (RuS.typeOf nm).2=5 then (if (Au v).2≠0\/(Au v).1=[]\/200<v.length then ([],2) else ((Au v).1,0)) else RuS.normal nm v:=by
 unfold AB
 split
 · by_cases h0:(Au v).2=0
   · have he:=Zn h0
     rw [if_pos h0]
     by_cases h1:v=[]
     · subst h1
       rw [if_pos (.inl (by simp)),if_pos (.inr (.inl (he.2 rfl)))]
     · have hl:1<=v.length:=by
        rcases Nat.eq_zero_or_pos v.length with h | h
        · exact absurd (List.eq_nil_of_length_eq_zero h) h1
        · exact h
       have h2:(Au v).1≠[]:=fun h=>h1 (he.1 h)
       by_cases h3:200<v.length
       · rw [if_pos (.inr h3),if_pos (.inr (.inr h3))]
       · rw [if_neg (by omega),if_neg]
         rintro (h | h | h)
         · exact h h0
         · exact h2 h
         · exact h3 h
   · rw [if_neg h0,ite_self,if_pos (.inl h0)]
 · rfl
end Go.Proofs.YtgngjfjaelgaeaaGreatDoor.DnS
namespace Go.Proofs.YtgngjfjaelgaeaaGreatDoor
section
namespace EnS
open Go.Lib DnS
structure At where
 typ:List UInt8
 vals:List (List UInt8)
structure En where
 name:List UInt8
 attrs:List At
def MJ:List UInt8:=[111,98,106,101,99,116,67,108,97,115,115]
def Dm:List UInt8:=[97,108,105,97,115,101,100,79,98,106,101,99,116,78,97,109,101]
def MK:List UInt8:=[97,108,105,97,115]
def valuesL:List At->List UInt8->List (List UInt8)
 | [],_=>[]
 | a :: l,t=>if a.typ=t then a.vals else valuesL l t
def DI (e:En) (nm:List UInt8):List (List UInt8):=if (RuS.typeOf nm).1=[] then [] else valuesL e.attrs (RuS.typeOf nm).1
def Fq (nm n v:List UInt8):Bool:=decide ((AB nm v).2=0)&&((AB nm v).1==n)
def KY (nm:List UInt8) (l:List (List UInt8)) (v:List UInt8):Option Nat:=if (AB nm v).2=0 then l.findIdx? (Fq nm (AB nm v).1) else none
def Qz (nm:List UInt8) (l:List (List UInt8)) (v:List UInt8):Bool:=decide ((AB nm v).2=0)&&l.any (Fq nm (AB nm v).1)
theorem WH (nm:List UInt8) (l:List (List UInt8)) (v:List UInt8):(KY nm l v).isSome=Qz nm l v:=by
 unfold KY Qz
 by_cases h:(AB nm v).2=0
 · rw [if_pos h,decide_eq_true h,Bool.true_and,List.findIdx?_isSome]
 · rw [if_neg h,decide_eq_false h];rfl
def QA (e:En) (nm v:List UInt8):Bool:=Qz nm (DI e nm) v
def Vs (l:List (List UInt8)) (al:Bool):List UInt8 × Bool:=
 match l with
 | []=>([],false)
 | v :: _=>if al=true then ((AB Dm v).1,decide ((AB Dm v).2=0)) else ([],false)
def CZ (e:En):List UInt8 × Bool:=Vs (DI e Dm) (QA e MJ MK)
def JV (n:List UInt8) (acc:Option (List UInt8 × List UInt8)) (e:En):Bool:=
 (CZ e).2&&ED n e.name&&(match acc with | none=>true | some p=>decide ((Ad e.name).1.length<(Ad p.1).1.length))
def EH (n:List UInt8) (acc:Option (List UInt8 × List UInt8)) (e:En):Option (List UInt8 × List UInt8):=if JV n acc e=true then some (e.name,(CZ e).1) else acc
def Fv (n:List UInt8) (l:List En):Option (List UInt8 × List UInt8):=l.foldl (EH n) none
def MX (n:List UInt8) (o:Option (List UInt8 × List UInt8)):List UInt8 × Bool × Int:=
 match o with
 | none=>(n,false,0)
 | some p=>if (CU n p.1 p.2).2=0 then ((CU n p.1 p.2).1,true,0) else ([],false,33)
def stepS (l:List En) (s:List UInt8):List UInt8 × Bool × Int:=
 if (Au s).2=0 then MX (Au s).1 (Fv (Au s).1 l) else ([],false,34)
theorem AbD {n:List UInt8} {l:List En} {k:Nat} (hk:k<l.length):Fv n (l.take (k+1))=EH n (Fv n (l.take k)) l[k]:=by
 unfold Fv
 rw [List.take_succ_eq_append_getElem hk,List.foldl_append,List.foldl_cons,List.foldl_nil]
theorem AbE {s f d x:List UInt8} (h:CU s f d=(x,0)):Au x=(x,0):=by
 obtain ⟨_,_,h3,r,hr,ht⟩:=RD h
 have hx:x=Ak (r++(Ad d).1):=by
  obtain ⟨h1,h2,_⟩:=RD h
  have hb:CS (Ad s).1 (Ad f).1=some r:=MI.2 hr
  unfold CU at h
  rw [if_pos h1,if_pos h2,if_pos h3,hb] at h
  exact (Xx h).2.2
 unfold Au
 rw [ht]
 simp only
 rw [<-hx]
theorem WI {l:List En} {s x:List UInt8} {b:Bool} (h:stepS l s=(x,b,0)):Au x=(x,0):=by
 unfold stepS at h
 split at h
 · rename_i h0
   unfold MX at h
   split at h
   · cases h;exact RF h0
   · split at h
     · rename_i h1
       simp only [Prod.mk.injEq] at h
       obtain ⟨hx,_,_⟩:=h
       rw [<-hx]
       exact AbE (by rw [<-h1])
     · cases h
 · cases h
def Dz (l:List En):Nat->List (List UInt8)->List UInt8->List (List UInt8) × List UInt8 × Int
 | 0,_,_=>([],[],36)
 | k+1,seen,n=>
  if (stepS l n).2.2=0 then (if (stepS l n).2.1=true then (if seen.contains (stepS l n).1=true\/16<seen.length then ([],[],36) else Dz l k (seen++[(stepS l n).1]) (stepS l n).1) else (seen,n,0))
  else ([],[],(stepS l n).2.2)
def inS (l:List En) (n:List UInt8):Bool:=l.any (fun e=>e.name==n)
def Gg (l:List En) (seen:List (List UInt8)) (n:List UInt8):List UInt8 × Bool × Int:=
 if n≠[]/\inS l n=false then ([],false,if 1<seen.length then 33 else 32) else (n,decide (1<seen.length),0)
def Hk (l:List En) (t:List (List UInt8) × List UInt8 × Int):List UInt8 × Bool × Int:=if t.2.2=0 then Gg l t.1 t.2.1 else ([],false,t.2.2)
def AG (l:List En) (s:List UInt8) (follow:Bool):List UInt8 × Bool × Int:=
 if (Au s).2=0 then (if follow=true then Hk l (Dz l 17 [(Au s).1] (Au s).1) else Gg l [(Au s).1] (Au s).1) else ([],false,34)
theorem Vt {l:List En} {seen:List (List UInt8)} {n:List UInt8} (h:(Gg l seen n).2.2=0):(n=[]\/inS l n=true)/\Gg l seen n=(n,decide (1<seen.length),0):=by
 unfold Gg at h⊢
 split at h
 · split at h <;> cases h
 · rename_i h9
   refine ⟨?_,by rw [if_neg h9]⟩
   by_cases h0:n=[]
   · exact .inl h0
   · right
     cases hi:inS l n with
     | true=>rfl
     | false=>exact absurd ⟨h0,hi⟩ h9
theorem find_in {l:List En} {n:List UInt8} (hn:Au n=(n,0)) (hi:n=[]\/inS l n=true) (hs:∃to,stepS l n=(to,false,0)):AG l n true=(n,false,0):=by
 obtain ⟨to,hs⟩:=hs
 unfold AG
 rw [hn,if_pos rfl,if_pos rfl]
 unfold Dz
 rw [hs,if_pos rfl,if_neg (by simp)]
 unfold Hk
 rw [if_pos rfl]
 unfold Gg
 rw [if_neg (by rintro ⟨h1,h2⟩;rcases hi with h | h;exact h1 h;rw [h] at h2;cases h2)]
 rfl
end EnS
end
section
namespace SeS
open Go.Lib DnS EnS
theorem Bc {α:Type} {p:α->Bool} {l:List α} {e:α} (h:e ∈ l.filter p):e ∈ l:=(List.mem_filter.1 h).1
def Gh (n:List UInt8):Prop:=Au n=(n,0)
theorem Gh.txt {n:List UInt8} (h:Gh n):(Ad n).2=0:=congrArg Prod.snd h
theorem Gh.join {n:List UInt8} (h:Gh n):Ak (Ad n).1=n:=congrArg Prod.fst h
theorem RG:∀{x y:List (List UInt8)},DnS.cmpL x y=0->x=y
 | [],[],_=>rfl
 | [],_ :: _,h=>by simp [DnS.cmpL] at h
 | _ :: _,[],h=>by simp [DnS.cmpL] at h
 | a :: x,b :: y,h=>by
  unfold DnS.cmpL at h
  split at h
  · rename_i h1
    rw [(RuS.compare_zero a b).1 h1,RG h]
  · omega
theorem Ol {a b:List UInt8} (ha:Gh a) (hb:Gh b) (h:Aw a b=0):a=b:=by
 unfold Aw at h
 rw [if_pos ⟨ha.txt,hb.txt⟩] at h
 unfold Vr at h
 have h2:=List.reverse_inj.1 (RG h)
 rw [<-ha.join,<-hb.join,h2]
theorem Vu {a b c:List UInt8} (ha:Gh a) (hb:Gh b) (hc:Gh c) (h:Aw a b<0) (k:Aw b c<0):Aw a c<0:=by
 have h1:=JU ha.txt hb.txt hc.txt (by omega) (by omega)
 rcases Int.lt_or_eq_of_le h1 with h2 | h2
 · exact h2
 · have e:=Ol ha hc h2
   subst e
   have:=CJ a b
   omega
theorem KZ {a:List UInt8}:Aw a a=0:=by
 have:=CJ a a
 omega
def Srt (xs:List En):Prop:=xs.Pairwise (fun a b=>Aw a.name b.name<0)
def BD (xs:List En):Prop:=∀e ∈ xs,Gh e.name
def BW (xs:List En):Prop:=∀a ∈ xs,∀b ∈ xs,a.name=b.name->a=b
theorem La:∀{xs ys:List En},Srt xs->Srt ys->(∀e,e ∈ xs↔e ∈ ys)->xs=ys
 | [],[],_,_,_=>rfl
 | [],y :: r,_,_,h=>by simp at h;exact absurd rfl (h y).1
 | x :: r,[],_,_,h=>by simp at h;exact absurd rfl (h x).1
 | x :: xs,y :: ys,hx,hy,h=>by
  obtain ⟨hx1,A2⟩:=List.pairwise_cons.1 hx
  obtain ⟨A0,A1⟩:=List.pairwise_cons.1 hy
  have e:x=y:=by
   rcases List.mem_cons.1 ((h x).1 (List.mem_cons_self ..)) with e | e
   · exact e
   · rcases List.mem_cons.1 ((h y).2 (List.mem_cons_self ..)) with e2 | e2
     · exact e2.symm
     · have h1:=A0 x e
       have h2:=hx1 y e2
       have:=CJ x.name y.name
       omega
  subst e
  rw [La A2 A1 (fun z=>?_)]
  constructor
  · intro hz
    rcases List.mem_cons.1 ((h z).1 (List.mem_cons_of_mem _ hz)) with e | e
    · subst e
      have:=hx1 z hz
      rw [KZ] at this
      omega
    · exact e
  · intro hz
    rcases List.mem_cons.1 ((h z).2 (List.mem_cons_of_mem _ hz)) with e | e
    · subst e
      have:=A0 z hz
      rw [KZ] at this
      omega
    · exact e
theorem Srt.map {xs:List En} (h:Srt xs) {f:En->En} (hf:∀e,(f e).name=e.name):Srt (xs.map f):=by
 unfold Srt at*
 rw [List.pairwise_map]
 exact h.imp (fun {a b} h=>by rw [hf,hf];exact h)
theorem Srt.filter {xs:List En} (h:Srt xs) (p:En->Bool):Srt (xs.filter p):=List.Pairwise.filter p h
def EZ (x:En):List En->List En
 | []=>[x]
 | y :: r=>if Aw y.name x.name<0 then y :: EZ x r else if y.name=x.name then y :: r else x :: y :: r
def EI (xs:List En):List En:=xs.foldl (fun acc x=>EZ x acc) []
theorem MZ {x e:En}:∀{xs:List En},e ∈ EZ x xs->e=x\/e ∈ xs
 | [],h=>by rw [EZ,List.mem_singleton] at h;exact .inl h
 | y :: r,h=>by
  unfold EZ at h
  split at h
  · rcases List.mem_cons.1 h with rfl | h
    · exact .inr (List.mem_cons_self ..)
    · exact (MZ h).imp id (List.mem_cons_of_mem _)
  · split at h
    · exact .inr h
    · rcases List.mem_cons.1 h with rfl | h
      · exact .inl rfl
      · exact .inr h
theorem Xy {x:En} (hx:Gh x.name):∀{xs:List En},BD xs->Srt xs->Srt (EZ x xs)
 | [],_,_=>by unfold Srt EZ;simp
 | y :: r,ho,hs=>by
  obtain ⟨h1,h2⟩:=List.pairwise_cons.1 hs
  have hy:=ho y (List.mem_cons_self ..)
  have A0:BD r:=fun e he=>ho e (List.mem_cons_of_mem _ he)
  unfold EZ
  split
  · rename_i hc
    refine List.pairwise_cons.2 ⟨fun e he=>?_,Xy hx A0 h2⟩
    rcases MZ he with rfl | he
    · exact hc
    · exact h1 e he
  · rename_i hc
    split
    · exact hs
    · rename_i hn
      have A1:Aw x.name y.name<0:=by
       have h3:Aw y.name x.name≠0:=fun h=>hn (Ol hy hx h)
       have:=CJ x.name y.name
       omega
      refine List.pairwise_cons.2 ⟨fun e he=>?_,hs⟩
      rcases List.mem_cons.1 he with rfl | he
      · exact A1
      · exact Vu hx hy (A0 e he) A1 (h1 e he)
theorem Xz {x e:En}:∀{xs:List En},e ∈ xs->e ∈ EZ x xs
 | y :: r,h=>by
  unfold EZ
  split
  · rcases List.mem_cons.1 h with rfl | h
    · exact List.mem_cons_self ..
    · exact List.mem_cons_of_mem _ (Xz h)
  · split
    · exact h
    · exact List.mem_cons_of_mem _ h
theorem Vv (x:En):∀xs:List En,∃e ∈ EZ x xs,e.name=x.name
 | []=>⟨x,List.mem_singleton.2 rfl,rfl⟩
 | y :: r=>by
  unfold EZ
  split
  · obtain ⟨e,he,hn⟩:=Vv x r
    exact ⟨e,List.mem_cons_of_mem _ he,hn⟩
  · split
    · rename_i h;exact ⟨y,List.mem_cons_self ..,h⟩
    · exact ⟨x,List.mem_cons_self ..,rfl⟩
theorem Adp:∀{xs:List En} {e:En},e ∈ EI xs->e ∈ xs:=by
 have go:∀(xs acc:List En) (e:En),e ∈ xs.foldl (fun acc x=>EZ x acc) acc->e ∈ acc\/e ∈ xs:=by
  intro xs
  induction xs with
  | nil=>intro acc e h;exact .inl h
  | cons x r ih=>
   intro acc e h
   rw [List.foldl_cons] at h
   rcases ih _ _ h with h | h
   · rcases MZ h with rfl | h
     · exact .inr (List.mem_cons_self ..)
     · exact .inl h
   · exact .inr (List.mem_cons_of_mem _ h)
 intro xs e h
 exact (go xs [] e h).resolve_left (by simp)
theorem Hw {xs:List En} (ho:BD xs) (h1:BW xs):Srt (EI xs)/\∀e,e ∈ EI xs↔e ∈ xs:=by
 have go:∀(zs acc:List En),BD (acc++zs)->BW (acc++zs)->Srt acc->Srt (zs.foldl (fun acc x=>EZ x acc) acc)/\∀e,(e ∈ acc\/e ∈ zs)->e ∈ zs.foldl (fun acc x=>EZ x acc) acc:=by
  intro zs
  induction zs with
  | nil=>intro acc _ _ h;exact ⟨h,fun e he=>he.resolve_right (by simp)⟩
  | cons x r ih=>
   intro acc ho h1 hs
   rw [List.foldl_cons]
   have A0:∀e,e ∈ EZ x acc++r->e ∈ acc++x :: r:=fun e he=>by
    rcases List.mem_append.1 he with he | he
    · rcases MZ he with rfl | he
      · exact List.mem_append_right _ (List.mem_cons_self ..)
      · exact List.mem_append_left _ he
    · exact List.mem_append_right _ (List.mem_cons_of_mem _ he)
   obtain ⟨g1,g2⟩:=ih (EZ x acc) (fun e he=>ho e (A0 e he)) (fun a ha b hb h=>h1 a (A0 a ha) b (A0 b hb) h) (Xy (ho x (by simp)) (fun e he=>ho e (List.mem_append_left _ he)) hs)
   refine ⟨g1,fun e he=>g2 e ?_⟩
   rcases he with he | he
   · exact .inl (Xz he)
   · rcases List.mem_cons.1 he with rfl | he
     · obtain ⟨y,hy,hn⟩:=Vv e acc
       have:y=e:=h1 y (A0 y (List.mem_append_left _ hy)) e (by simp) hn
       subst this
       exact .inl hy
     · exact .inr he
 obtain ⟨g1,g2⟩:=go xs [] ho h1 List.Pairwise.nil
 exact ⟨g1,fun e=>⟨Adp,fun h=>g2 e (.inr h)⟩⟩
theorem XA {xs ys:List En} (ho:BD xs) (h1:BW xs) (hs:Srt ys) (hm:∀e,e ∈ ys↔e ∈ xs):EI xs=ys:=by
 obtain ⟨g1,g2⟩:=Hw ho h1
 exact La g1 hs (fun e=>by rw [g2,hm])
theorem sort_same {xs ys:List En} (ho:BD xs) (h1:BW xs) (hm:∀e,e ∈ ys↔e ∈ xs):EI ys=EI xs:=by
 have A0:BD ys:=fun e he=>ho e ((hm e).1 he)
 have h2:BW ys:=fun a ha b hb h=>h1 a ((hm a).1 ha) b ((hm b).1 hb) h
 obtain ⟨g1,g2⟩:=Hw ho h1
 exact XA A0 h2 g1 (fun e=>by rw [g2,hm])
theorem WJ {xs:List En} (ho:BD xs) (h1:BW xs) (p:En->Bool):EI (xs.filter p)=(EI xs).filter p:=by
 obtain ⟨g1,g2⟩:=Hw ho h1
 exact XA (fun e he=>ho e (Bc he)) (fun a ha b hb h=>h1 a (Bc ha) b (Bc hb) h) (g1.filter p) (fun e=>by rw [List.mem_filter,List.mem_filter,g2])
theorem Srt.nodup {xs:List En} (h:Srt xs):xs.Nodup:=List.Pairwise.imp (fun {a b} hab e=>by subst e;rw [KZ] at hab;omega) h
theorem AbF {R zs ys:List En} {f:En->En} (hf:∀e,(f e).name=e.name) (ho:BD R) (h1:BW R) (hn:(zs.map En.name).Nodup) (hm:∀e,e ∈ zs↔e ∈ R) (hp:ys.Perm (zs.map f)) (hs:ys.Pairwise (fun a b=>¬Aw b.name a.name<0)):ys=(EI R).map f:=by
 obtain ⟨g1,g2⟩:=Hw ho h1
 have hy:∀e,e ∈ ys↔∃x ∈ R,f x=e:=fun e=>by
  rw [hp.mem_iff,List.mem_map]
  constructor
  · rintro ⟨x,hx,e⟩
    exact ⟨x,(hm x).1 hx,e⟩
  · rintro ⟨x,hx,e⟩
    exact ⟨x,(hm x).2 hx,e⟩
 have A2:(ys.map En.name).Nodup:=by
  have e:(zs.map f).map En.name=zs.map En.name:=by
   rw [List.map_map]
   exact List.map_congr_left (fun x _=>hf x)
  exact (hp.map En.name).nodup_iff.2 (by rw [e];exact hn)
 have A0:ys.Pairwise (fun a b=>a.name≠b.name):=List.pairwise_map.1 A2
 refine La ?_ (g1.map hf) (fun e=>?_)
 · refine List.Pairwise.imp_of_mem (fun {a b} ha hb hab=>?_) (hs.and A0)
   obtain ⟨x,hx,rfl⟩:=(hy a).1 ha
   obtain ⟨y,A1,rfl⟩:=(hy b).1 hb
   have o1:=ho x hx
   have o2:=ho y A1
   rw [hf,hf] at hab⊢
   have s:=CJ x.name y.name
   have n0:Aw x.name y.name≠0:=fun h=>hab.2 (Ol o1 o2 h)
   omega
 · rw [hy,List.mem_map]
   constructor
   · rintro ⟨x,hx,e⟩
     exact ⟨x,(g2 x).2 hx,e⟩
   · rintro ⟨x,hx,e⟩
     exact ⟨x,(g2 x).1 hx,e⟩
abbrev Pl:=List UInt8 × Int
def inScope (n:List UInt8) (sc:Int) (m:List UInt8):Bool:=if sc=0 then m==n else if sc=1 then m !=[]&&(EF m).1==n else ED m n
def AV (l:List En) (n:List UInt8) (sc:Int):List En:=if (Au n).2=0/\0<=sc/\sc<=2 then l.filter (fun e=>inScope (Au n).1 sc e.name) else []
def FY (dr:Bool) (p:Pl) (e:En):Bool:=dr&&(CZ e).2&&!(e.name==p.1)
def Ha (sc:Int):Int:=if sc=2 then 2 else 0
def Hy (ps:List Pl) (p:Pl):List Pl:=if ps.contains p then ps else ps++[p]
def Dj (l:List En) (sc:Int) (ps:List Pl) (e:En):List Pl:=if (AG l e.name true).2.2=0 then Hy ps ((AG l e.name true).1,Ha sc) else ps
def Jn (l:List En) (dr:Bool) (ps:List Pl) (p:Pl):List Pl:=((AV l p.1 p.2).filter (FY dr p)).foldl (Dj l p.2) ps
def Fa (l:List En) (dr:Bool) (p:Pl):List En:=(AV l p.1 p.2).filter (fun e=>!FY dr p e)
def stS (l:List En) (dr:Bool) (ps:List Pl):Nat->List Pl × List En
 | 0=>(ps,[])
 | k+1=>match (stS l dr ps k).1[k]? with
  | some p=>(Jn l dr (stS l dr ps k).1 p,(stS l dr ps k).2++Fa l dr p)
  | none=>stS l dr ps k
theorem XB {l:List En} {dr:Bool} {ps:List Pl} {k:Nat} (hk:k<(stS l dr ps k).1.length):stS l dr ps (k+1)=(Jn l dr (stS l dr ps k).1 ((stS l dr ps k).1[k]'hk),(stS l dr ps k).2++Fa l dr ((stS l dr ps k).1[k]'hk)):=by
 rw [stS,List.getElem?_eq_getElem hk]
def Om (l:List En) (dr:Bool) (ps:List Pl) (N:Nat):Prop:=(stS l dr ps N).1.length<=N/\∀k,k<N->k<(stS l dr ps k).1.length
theorem PW {l:List En} {dr:Bool} {ps:List Pl} {N M:Nat} (h:Om l dr ps N) (k:Om l dr ps M):N=M:=by
 rcases Nat.lt_trichotomy N M with hl | hl | hl
 · have:=k.2 N hl
   have:=h.1
   omega
 · exact hl
 · have:=h.2 M hl
   have:=k.1
   omega
theorem AbG (ps:List Pl) (p:Pl):∃r,Hy ps p=ps++r:=by
 unfold Hy
 split
 · exact ⟨[],(List.append_nil _).symm⟩
 · exact ⟨[p],rfl⟩
theorem Adq (l:List En) (sc:Int) (ps:List Pl) (e:En):∃r,Dj l sc ps e=ps++r:=by
 unfold Dj
 split
 · exact AbG ..
 · exact ⟨[],(List.append_nil _).symm⟩
theorem Jo (l:List En) (sc:Int):∀(es:List En) (ps:List Pl),∃r,es.foldl (Dj l sc) ps=ps++r
 | [],ps=>⟨[],(List.append_nil _).symm⟩
 | e :: es,ps=>by
  obtain ⟨r,hr⟩:=Adq l sc ps e
  obtain ⟨q,hq⟩:=Jo l sc es (ps++r)
  exact ⟨r++q,by rw [List.foldl_cons,hr,hq,List.append_assoc]⟩
def He (U ps:List Pl):Prop:=ps.Nodup/\∀p ∈ ps,p ∈ U
theorem Na {α:Type} [DecidableEq α]:∀{ps U:List α},ps.Nodup->(∀p ∈ ps,p ∈ U)->ps.length<=U.length
 | [],_,_,_=>Nat.zero_le _
 | p :: r,U,hn,hs=>by
  obtain ⟨h1,h2⟩:=List.nodup_cons.1 hn
  have hp:=hs p (List.mem_cons_self ..)
  have ih:=Na (U:=U.erase p) h2 (fun q hq=>(List.mem_erase_of_ne (fun e=>by subst e;exact h1 hq)).2 (hs q (List.mem_cons_of_mem _ hq)))
  rw [List.length_erase_of_mem hp] at ih
  have:=List.length_pos_of_mem hp
  rw [List.length_cons]
  omega
theorem He.len {U ps:List Pl} (h:He U ps):ps.length<=U.length:=Na h.1 h.2
theorem He.fresh {U ps:List Pl} (h:He U ps) {p:Pl} (hp:p ∈ U):He U (Hy ps p):=by
 unfold Hy
 split
 · exact h
 · rename_i hc
   have hc:p ∉ ps:=by simpa using hc
   refine ⟨List.nodup_append.2 ⟨h.1,by simp,fun a ha b hb=>?_⟩,fun q hq=>?_⟩
   · rw [List.mem_singleton] at hb
     subst hb
     exact fun e=>hc (e ▸ ha)
   · rcases List.mem_append.1 hq with hq | hq
     · exact h.2 q hq
     · rw [List.mem_singleton] at hq
       subst hq;exact hp
def Jp (l:List En) (p:Pl):List Pl:=p :: (([] :: l.map En.name).map (fun n=>(n,(0:Int)))++([] :: l.map En.name).map (fun n=>(n,(2:Int))))
theorem Aez (l:List En) (p:Pl):(Jp l p).length=2*l.length+3:=by
 unfold Jp
 simp only [List.length_cons,List.length_append,List.length_map]
 omega
theorem find_in {l:List En} {s:List UInt8} {f:Bool} (h:(AG l s f).2.2=0):(AG l s f).1=[]\/inS l (AG l s f).1=true:=by
 unfold AG at h⊢
 split at h
 · rename_i h0
   rw [if_pos h0]
   split at h
   · rename_i h1
     rw [if_pos h1]
     unfold Hk at h⊢
     split at h
     · rename_i h2
       rw [if_pos h2]
       obtain ⟨e1,e2⟩:=Vt h
       rw [e2]
       exact e1
     · rename_i h2;exact absurd h h2
   · rename_i h1
     rw [if_neg h1]
     obtain ⟨e1,e2⟩:=Vt h
     rw [e2]
     exact e1
 · cases h
theorem He.lead {l:List En} {p0:Pl} {ps:List Pl} (h:He (Jp l p0) ps) (sc:Int) (e:En):He (Jp l p0) (Dj l sc ps e):=by
 unfold Dj
 split
 · rename_i hc
   refine h.fresh (List.mem_cons_of_mem _ ?_)
   have hm:(AG l e.name true).1 ∈ [] :: l.map En.name:=by
    rcases find_in hc with h | h
    · rw [h];exact List.mem_cons_self ..
    · obtain ⟨x,hx,hn⟩:=List.any_eq_true.1 h
      exact List.mem_cons_of_mem _ (List.mem_map.2 ⟨x,hx,by simpa using hn⟩)
   unfold Ha
   split
   · exact List.mem_append_right _ (List.mem_map.2 ⟨_,hm,rfl⟩)
   · exact List.mem_append_left _ (List.mem_map.2 ⟨_,hm,rfl⟩)
 · exact h
theorem He.leads {l:List En} {p0:Pl} (sc:Int):∀(es:List En) {ps:List Pl},He (Jp l p0) ps->He (Jp l p0) (es.foldl (Dj l sc) ps)
 | [],_,h=>h
 | e :: es,_,h=>by rw [List.foldl_cons];exact He.leads sc es (h.lead sc e)
theorem Ta {l:List En} {dr:Bool} {p:Pl}:∀k,He (Jp l p) (stS l dr [p] k).1
 | 0=>⟨by simp [stS],fun q hq=>by simp [stS] at hq;subst hq;exact List.mem_cons_self ..⟩
 | k+1=>by
  rw [stS]
  split
  · exact (Ta k).leads _ _
  · exact Ta k
theorem st_len {l:List En} {dr:Bool} {p:Pl} (k:Nat):(stS l dr [p] k).1.length<=2*l.length+3:=by
 rw [<-Aez l p];exact (Ta k).len
theorem PY {l:List En} {dr:Bool} {ps:List Pl}:∀k,∀e ∈ (stS l dr ps k).2,e ∈ l
 | 0,e,h=>by simp [stS] at h
 | k+1,e,h=>by
  rw [stS] at h
  split at h
  · rcases List.mem_append.1 h with h | h
    · exact PY k e h
    · have h:=Bc h
      unfold AV at h
      split at h
      · exact Bc h
      · cases h
  · exact PY k e h
theorem RH {l:List En} {p:Pl} (k:Nat):stS l false [p] (k+1)=([p],AV l p.1 p.2):=by
 have hg:∀q e,FY false q e=false:=fun _ _=>rfl
 have A0:∀ps q,Jn l false ps q=ps:=fun ps q=>by
  unfold Jn
  rw [List.filter_eq_nil_iff.2 (fun e _=>by rw [hg];simp)]
  rfl
 have A1:∀q,Fa l false q=AV l q.1 q.2:=fun q=>by
  unfold Fa
  rw [List.filter_eq_self.2 (fun e _=>by rw [hg];rfl)]
 induction k with
 | zero=>
  rw [XB (k:=0) (by exact Nat.zero_lt_one)]
  show (Jn l false [p] p,[]++Fa l false p)=_
  rw [A0,A1,List.nil_append]
 | succ k ih=>
  rw [stS,ih]
  rfl
theorem Ae0 (l:List En) (p:Pl):Om l false [p] 1:=by
 refine ⟨by rw [RH];exact Nat.le_refl _,fun k hk=>?_⟩
 have:k=0:=by omega
 subst this
 exact Nat.zero_lt_succ _
def Gi (size:Int) (xs:List En):Int × List En:=if 0<size/\size<xs.length then (4,xs.take size.toNat) else (0,xs)
theorem Vw (xs:List En):Gi 0 xs=(0,xs):=by unfold Gi;rw [if_neg (by omega)]
theorem AbH {n:Nat} {xs:List En} (h:n=0\/xs.length<=n):Gi n xs=(0,xs):=by unfold Gi;rw [if_neg (by omega)]
theorem XC {n:Nat} {xs:List En} (h0:n≠0) (h:n<xs.length):Gi n xs=(4,xs.take n):=by unfold Gi;rw [if_pos (by omega)];rfl
end SeS
end
end Go.Proofs.YtgngjfjaelgaeaaGreatDoor
