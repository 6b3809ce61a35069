/- Plain laws of types and values: no program. Conditions: as stated. -/
import Derived.WalkKit
import Derived.Lib.Hide
import Derived.Lib.Join
import Derived.Lib.Replace
import Derived.Test.YtgngjfjaelgaeaaGreatDoorKPhS
namespace Go.Proofs.YtgngjfjaelgaeaaGreatDoor.RuS
def YK (c:UInt8):Bool:=decide (65<=c.toNat/\c.toNat<=90)
def lowC (c:UInt8):UInt8:=if YK c then c+32 else c
def lower (l:List UInt8):List UInt8:=l.map lowC
theorem lower_length (l:List UInt8):(lower l).length=l.length:=by simp [lower]
theorem Adf {c:UInt8} (h1:65<=c.toNat) (h2:c.toNat<=90):lowC c=c+32:=by
 unfold lowC YK;rw [if_pos (decide_eq_true ⟨h1,h2⟩)]
theorem lowC_no {c:UInt8} (h:¬(65<=c.toNat/\c.toNat<=90)):lowC c=c:=by
 unfold lowC YK;rw [if_neg (by simpa using h)]
theorem lowC_toNat {c:UInt8} (h1:65<=c.toNat) (h2:c.toNat<=90):(lowC c).toNat=c.toNat+32:=by
 rw [Adf h1 h2,UInt8.toNat_add]
 show (c.toNat+32) % 256=_
 omega
theorem Abo (c:UInt8):lowC (lowC c)=lowC c:=by
 by_cases h:65<=c.toNat/\c.toNat<=90
 · have e:=lowC_toNat h.1 h.2
   exact lowC_no (c:=lowC c) (by omega)
 · rw [lowC_no h,lowC_no h]
def half (l:List UInt8) (k:Nat):List UInt8:=lower (l.take k)++l.drop k
theorem half_zero (l:List UInt8):half l 0=l:=by simp [half,lower]
theorem half_all (l:List UInt8) {k:Nat} (h:l.length<=k):half l k=lower l:=by
 unfold half;rw [List.take_of_length_le h,List.drop_eq_nil_of_le h,List.append_nil]
theorem half_length (l:List UInt8) (k:Nat):(half l k).length=l.length:=by
 simp [half,lower];omega
theorem half_at (l:List UInt8) (k:Nat) (h:k<l.length):(half l k)[k]'(by rw [half_length];exact h)=l[k]:=by
 unfold half
 rw [List.getElem_append_right (by simp [lower];omega)]
 simp [lower,Nat.min_eq_left (Nat.le_of_lt h)]
theorem half_succ (l:List UInt8) (k:Nat) (h:k<l.length):half l (k+1)=(half l k).set k (lowC l[k]):=by
 unfold half
 have e1:(lower (l.take k)).length=k:=by simp [lower];omega
 rw [List.take_succ_eq_append_getElem h,List.set_append_right _ _ (by omega),e1,Nat.sub_self,List.drop_eq_getElem_cons h,List.set_cons_zero]
 unfold lower
 rw [List.map_append,List.append_assoc]
 rfl
theorem half_keep (l:List UInt8) (k:Nat) (h:k<l.length) (hc:lowC l[k]=l[k]):half l (k+1)=half l k:=by
 rw [half_succ l k h,hc]
 conv=>lhs;rw [<-half_at l k h]
 exact List.set_getElem_self _
def tabRow:Nat->List (List UInt8)
 | 1=>[[111,98,106,101,99,116,67,108,97,115,115],[99,110],[111,117],[111],[100,99],[117,105,100],[100,101,115,99,114,105,112,116,105,111,110],[109,97,105,108]]
 | 2=>[[117,115,101,114,80,97,115,115,119,111,114,100],[114,101,102]]
 | 3=>[[115,101,114,105,97,108,78,117,109,98,101,114]]
 | 4=>[[112,111,115,105,116,105,111,110]]
 | 5=>[[97,108,105,97,115,101,100,79,98,106,101,99,116,78,97,109,101],[109,101,109,98,101,114]]
 | _=>[]
def tab:List (List UInt8 × List UInt8 × Int):=[
 ([111,98,106,101,99,116,99,108,97,115,115],[111,98,106,101,99,116,67,108,97,115,115],1),
 ([99,110],[99,110],1),
 ([111,117],[111,117],1),
 ([111],[111],1),
 ([100,99],[100,99],1),
 ([117,105,100],[117,105,100],1),
 ([100,101,115,99,114,105,112,116,105,111,110],[100,101,115,99,114,105,112,116,105,111,110],1),
 ([109,97,105,108],[109,97,105,108],1),
 ([117,115,101,114,112,97,115,115,119,111,114,100],[117,115,101,114,80,97,115,115,119,111,114,100],2),
 ([114,101,102],[114,101,102],2),
 ([115,101,114,105,97,108,110,117,109,98,101,114],[115,101,114,105,97,108,78,117,109,98,101,114],3),
 ([112,111,115,105,116,105,111,110],[112,111,115,105,116,105,111,110],4),
 ([97,108,105,97,115,101,100,111,98,106,101,99,116,110,97,109,101],[97,108,105,97,115,101,100,79,98,106,101,99,116,78,97,109,101],5),
 ([109,101,109,98,101,114],[109,101,109,98,101,114],5)]
def typeM (m:List UInt8):List UInt8 × Int:=match tab.find? (fun r=>m==r.1) with
 | some r=>r.2
 | none=>([],0)
def typeOf (l:List UInt8):List UInt8 × Int:=typeM (lower l)
theorem Adg:∀k:Fin 6,∀t ∈ tabRow k.val,typeM (lower t)=(t,(k.val:Int)):=by decide+kernel
theorem typeM_hit {k:Nat} {t m:List UInt8} (hk:k<6) (ht:t ∈ tabRow k) (h:lower t=m):typeM m=(t,(k:Int)):=by
 rw [<-h];exact Adg ⟨k,hk⟩ t ht
theorem AeW:∀r ∈ tab,∃k:Fin 6,∃t ∈ tabRow k.val,lower t=r.1:=by decide+kernel
theorem typeM_none {m:List UInt8} (h:∀k,k<6->∀t ∈ tabRow k,¬lower t=m):typeM m=([],0):=by
 unfold typeM
 have:tab.find? (fun r=>m==r.1)=none:=by
  rw [List.find?_eq_none]
  intro r hr he
  obtain ⟨k,t,ht,hl⟩:=AeW r hr
  exact h k.val k.isLt t ht (by rw [hl];exact (beq_iff_eq.1 he).symm)
 rw [this]
theorem tab_all:∀r ∈ tab,0<=r.2.2/\r.2.2<=5/\r.2.1.length<=17/\1<=r.2.2/\1<=r.2.1.length:=by decide+kernel
theorem typeM_all (m:List UInt8):(typeM m=([],0))\/(1<=(typeM m).2/\(typeM m).2<=5/\1<=(typeM m).1.length/\(typeM m).1.length<=17):=by
 unfold typeM
 cases h:tab.find? (fun r=>m==r.1) with
 | none=>exact .inl rfl
 | some r=>
  have:=tab_all r (List.mem_of_find?_eq_some h)
  exact .inr ⟨this.2.2.2.1,this.2.1,this.2.2.2.2,this.2.2.1⟩
def pieces (c:UInt8):List UInt8->List (List UInt8)
 | []=>[[]]
 | b :: l=>if b=c then [] :: pieces c l else match pieces c l with
  | p :: ps=>(b :: p) :: ps
  | []=>[[b]]
theorem pieces_ne (c:UInt8) (l:List UInt8):∃p ps,pieces c l=p :: ps:=by
 cases l with
 | nil=>exact ⟨_,_,rfl⟩
 | cons b l=>
  unfold pieces
  by_cases h:b=c
  · rw [if_pos h];exact ⟨_,_,rfl⟩
  · rw [if_neg h]
    cases pieces c l with
    | nil=>exact ⟨_,_,rfl⟩
    | cons p ps=>exact ⟨_,_,rfl⟩
theorem index_cons_eq (c:UInt8) (l:List UInt8):Lib.index (c :: l) [c]=0:=by
 rw [Lib.index];simp [List.isPrefixOf]
theorem index_cons_ne {b c:UInt8} (h:b≠c) (l:List UInt8):Lib.index (b :: l) [c]=if Lib.index l [c]==-1 then -1 else Lib.index l [c]+1:=by
 rw [Lib.index]
 have hp:([c]:List UInt8).isPrefixOf (b :: l)=false:=by simp [List.isPrefixOf,Ne.symm h]
 rw [hp];simp
theorem split_pieces (c:UInt8):∀l:List UInt8,Lib.split l [c]=pieces c l
 | []=>by
  unfold Lib.split
  rw [Lib.count_miss (by simp [Lib.index])];rfl
 | b :: l=>by
  have ih:=split_pieces c l
  unfold Lib.split at ih⊢
  by_cases h:b=c
  · subst h
    rw [Lib.count_cons_eq,Nat.add_comm,Lib.splitK,index_cons_eq,if_neg (by decide)]
    simp only [pieces,if_pos]
    rw [<-ih];rfl
  · rw [Lib.count_cons_ne b c l h]
    simp only [pieces,if_neg h]
    rw [<-ih]
    have A1:=index_cons_ne h l
    by_cases hm:Lib.index l [c]=-1
    · rw [Lib.count_miss hm];rfl
    · have A2:=Lib.index_ge l [c]
      obtain ⟨j,hj⟩:∃j:Nat,Lib.index l [c]=j:=⟨(Lib.index l [c]).toNat,by omega⟩
      rw [Lib.count_hit (by simp) hj,Nat.add_comm,Lib.splitK,Lib.splitK,A1]
      have A0:(Lib.index l [c]==-1)=false:=by simpa using hm
      rw [A0]
      simp only [Bool.false_eq_true,if_false,hj]
      have h2:¬((((j:Nat):Int)+1==-1)=true):=by simp;omega
      rw [if_neg h2]
      have e1:(((j:Nat):Int)+1).toNat=j+1:=by omega
      rw [e1]
      simp
theorem Jk (c:UInt8):∀l:List UInt8,pieces c (l++[c])=pieces c l++[[]]
 | []=>by simp [pieces]
 | b :: l=>by
  have ih:=Jk c l
  rw [List.cons_append]
  unfold pieces
  by_cases h:b=c
  · rw [if_pos h,if_pos h,ih];rfl
  · rw [if_neg h,if_neg h,ih]
    obtain ⟨p,ps,hp⟩:=pieces_ne c l
    rw [hp];rfl
theorem Ij (c:UInt8) {d:UInt8} (hd:d≠c):∀l:List UInt8,∃X q,pieces c l=X++[q]/\pieces c (l++[d])=X++[q++[d]]/\(∀x ∈ q,x≠c)/\(q=[]->l=[]\/l.getLast?=some c)/\(l.getLast?=some c->q=[])
 | []=>⟨[],[],rfl,by simp [pieces,hd],by simp,fun _=>.inl rfl,fun _=>rfl⟩
 | b :: l=>by
  obtain ⟨X,q,h1,h2,h3,h4,h5⟩:=Ij c hd l
  by_cases h:b=c
  · refine ⟨[] :: X,q,?_,?_,h3,?_,?_⟩
    · simp only [pieces,if_pos h,h1];rfl
    · rw [List.cons_append];simp only [pieces,if_pos h,h2];rfl
    · intro hq
      rcases h4 hq with h | h'
      · subst h;right;rw [h];rfl
      · right
        cases l with
        | nil=>cases h'
        | cons a l=>rw [List.getLast?_cons_cons];exact h'
    · intro hl
      cases l with
      | nil=>cases X with
       | nil=>simp [pieces] at h1;first | exact h1 | exact h1.symm
       | cons x X=>simp [pieces] at h1
      | cons a l=>rw [List.getLast?_cons_cons] at hl;exact h5 hl
  · cases X with
    | nil=>
     refine ⟨[],b :: q,?_,?_,?_,?_,?_⟩
     · simp only [pieces,if_neg h,h1];rfl
     · rw [List.cons_append];simp only [pieces,if_neg h,h2];rfl
     · intro x hx
       rcases List.mem_cons.1 hx with rfl | hx
       · exact h
       · exact h3 x hx
     · intro hq;cases hq
     · intro hl
       cases l with
       | nil=>rw [List.getLast?_singleton] at hl;exact absurd (Option.some.inj hl) h
       | cons a l=>
        rw [List.getLast?_cons_cons] at hl
        have hm:c ∈ a :: l:=List.mem_of_getLast? hl
        have hn:∀(l:List UInt8) (q:List UInt8),pieces c l=[q]->(∀x ∈ l,x≠c):=by
         intro l
         induction l with
         | nil=>intro q _ x hx;cases hx
         | cons y l ih=>
          intro q hq x hx
          unfold pieces at hq
          by_cases hy:y=c
          · rw [if_pos hy] at hq
            obtain ⟨p,ps,hp⟩:=pieces_ne c l
            rw [hp] at hq;simp at hq
          · rw [if_neg hy] at hq
            obtain ⟨p,ps,hp⟩:=pieces_ne c l
            rw [hp] at hq
            simp only [List.cons.injEq] at hq
            rcases List.mem_cons.1 hx with rfl | hx
            · exact hy
            · exact ih p (by rw [hp,hq.2]) x hx
        exact absurd rfl (hn _ _ h1 c hm)
    | cons x X=>
     refine ⟨(b :: x) :: X,q,?_,?_,h3,?_,?_⟩
     · simp only [pieces,if_neg h,h1];rfl
     · rw [List.cons_append];simp only [pieces,if_neg h,h2];rfl
     · intro hq
       rcases h4 hq with h' | h'
       · subst h';simp [pieces] at h1
       · right
         cases l with
         | nil=>cases h'
         | cons a l=>rw [List.getLast?_cons_cons];exact h'
     · intro hl
       cases l with
       | nil=>simp [pieces] at h1
       | cons a l=>rw [List.getLast?_cons_cons] at hl;exact h5 hl
def wordsL (l:List UInt8):List (List UInt8):=(pieces 32 l).filter (fun p=>!p.isEmpty)
def textS (l:List UInt8):List UInt8:=Lib.join (wordsL (lower l)) [32]
def gapB (l:List UInt8):Bool:=l.getLast?==some 32
theorem wordsL_blank (l:List UInt8):wordsL (l++[32])=wordsL l:=by
 unfold wordsL;rw [Jk,List.filter_append];simp
theorem Ig (X:List (List UInt8)) (y:List UInt8):Lib.join (X++[y]) [32]=if X.isEmpty then y else Lib.join X [32]++[32]++y:=by
 cases X with
 | nil=>simp [Lib.join_one]
 | cons x X=>
  simp only [List.isEmpty_cons,Bool.false_eq_true,if_false]
  unfold Lib.join List.intercalate
  induction X generalizing x with
  | nil=>simp [List.intersperse]
  | cons z Z ih=>
   have:=ih z
   simp only [List.cons_append,List.intersperse_cons_cons,List.flatten_cons,List.append_assoc] at this⊢
   rw [this]
theorem Qw (X:List (List UInt8)) (q:List UInt8) (d:UInt8):Lib.join (X++[q++[d]]) [32]=Lib.join (X++[q]) [32]++[d]:=by
 rw [Ig,Ig]
 split <;> simp
theorem wordsL_letter (l:List UInt8) {d:UInt8} (hd:d≠32):Lib.join (wordsL (l++[d])) [32]=Lib.join (wordsL l) [32]++(if (gapB l&&!(Lib.join (wordsL l) [32]).isEmpty)=true then [32] else [])++[d]:=by
 obtain ⟨X,q,h1,h2,h3,h4,h5⟩:=Ij 32 hd l
 unfold wordsL
 rw [h1,h2,List.filter_append,List.filter_append]
 have e1:[q++[d]].filter (fun p=>!p.isEmpty)=[q++[d]]:=by simp
 rw [e1]
 by_cases hq:q=[]
 · subst hq
   have e2:([[]]:List (List UInt8)).filter (fun p=>!p.isEmpty)=[]:=rfl
   rw [e2,List.append_nil,List.nil_append,Ig]
   generalize hY:X.filter (fun p=>!p.isEmpty)=Y
   have A1:∀y ∈ Y,y≠[]:=by intro y hy;rw [<-hY] at hy;have:=(List.mem_filter.1 hy).2;intro e;subst e;simp at this
   cases Y with
   | nil=>simp [Lib.join_nil]
   | cons y Y=>
    have A0:(Lib.join (y :: Y) [32]).isEmpty=false:=by
     have hy:=A1 y (List.mem_cons_self)
     cases y with
     | nil=>exact absurd rfl hy
     | cons a y=>
      cases Y with
      | nil=>rw [Lib.join_one];rfl
      | cons z Z=>unfold Lib.join List.intercalate;simp
    have hg:gapB l=true:=by
     rcases h4 rfl with h | h
     · subst h
       cases X with
       | nil=>simp at hY
       | cons x X=>simp [pieces] at h1
     · unfold gapB;rw [h];rfl
    rw [hg,A0]
    simp
 · have e2:[q].filter (fun p=>!p.isEmpty)=[q]:=by cases q with
    | nil=>exact absurd rfl hq
    | cons a q=>rfl
   rw [e2,Qw]
   have hg:gapB l=false:=by
    unfold gapB
    cases hh:(l.getLast?==some 32) with
    | false=>rfl
    | true=>exact absurd (h5 (beq_iff_eq.1 hh)) hq
   rw [hg];simp
end Go.Proofs.YtgngjfjaelgaeaaGreatDoor.RuS
namespace Go.Proofs.YtgngjfjaelgaeaaGreatDoor.RuS
open Go.Lib
theorem JS (u:Nat) (hu:u<1000000000000000000):parseUintB 64 (decDigits u)=.ok u:=by
 unfold parseUintB
 rw [if_neg (PhS.decDigits_ne u)]
 have h:=PhS.parseUintM_ok (2 ^ 64 - 1) (decDigits u) 0 (PhS.decDigits_dig u) (by rw [PhS.valFrom_dec];omega) (by decide) (by rw [PhS.valFrom_dec];omega)
 rw [PhS.valFrom_dec] at h
 exact h
theorem parse64_itoa (n:Int) (hn:n.natAbs<1000000000000000000):parseIntB 64 (itoa n)=.ok n:=by
 by_cases h:n<0
 · rw [PhS.itoa_neg h]
   unfold parseIntB
   have e:(45:UInt8).toNat=45:=rfl
   simp only [e,or_true,if_true,JS n.natAbs hn,not_true,false_and,if_false,true_and]
   rw [if_neg (by omega)]
   congr 1;omega
 · rw [PhS.itoa_nonneg (by omega)]
   have hd:=PhS.decDigits_dig n.toNat
   have hp:=JS n.toNat (by omega)
   cases A0:decDigits n.toNat with
   | nil=>exact absurd A0 (PhS.decDigits_ne _)
   | cons c r=>
    have hc:=hd c (by rw [A0];exact List.mem_cons_self)
    rw [A0] at hp
    unfold parseIntB
    have h1:¬(c.toNat=43\/c.toNat=45):=by omega
    have h2:¬(c.toNat=45):=by omega
    simp only [if_neg h1,hp]
    rw [if_neg (fun h=>by have:=h.2;omega),if_neg (fun h=>h2 h.1),if_neg h2]
    congr 1;omega
theorem UY {k:Nat} (h:k<=18):10 ^ k<=1000000000000000000:=Nat.pow_le_pow_right (n:=10) (by decide) h
theorem SY (u:Nat):(decDigits u).length<=18↔u<1000000000000000000:=by
 rw [decDigits_length]
 constructor
 · intro h
   have:=lt_pow_nDigits u
   have:=UY h
   omega
 · intro h
   have:=PhS.nDigits_le 17 u h
   omega
def intS (l:List UInt8):Option Int:=match parseIntB 64 l with
 | .ok n=>if (itoa n==l)&&decide ((trimPrefix l [45]).length<=18) then some n else none
 | _=>none
theorem Rw (n:Int):trimPrefix (itoa n) [45]=decDigits n.natAbs:=by
 unfold trimPrefix hasPrefix
 by_cases h:n<0
 · rw [PhS.itoa_neg h];simp [List.isPrefixOf]
 · rw [PhS.itoa_nonneg (by omega)]
   have hd:=PhS.decDigits_dig n.toNat
   cases A0:decDigits n.toNat with
   | nil=>exact absurd A0 (PhS.decDigits_ne _)
   | cons c r=>
    have hc:=hd c (by rw [A0];exact List.mem_cons_self)
    have:([45]:List UInt8).isPrefixOf (c :: r)=false:=by
     simp [List.isPrefixOf]
     intro e;subst e;simp at hc
    rw [this,<-A0]
    simp only [Bool.false_eq_true,if_false]
    congr 1;omega
theorem intS_iff {l:List UInt8} {n:Int}:intS l=some n↔itoa n=l/\n.natAbs<1000000000000000000:=by
 constructor
 · intro h
   unfold intS at h
   split at h
   · rename_i m hm
     split at h
     · rename_i hc
       have:=Option.some.inj h
       subst this
       rw [Bool.and_eq_true] at hc
       have h1:=beq_iff_eq.1 hc.1
       have h2:=of_decide_eq_true hc.2
       subst h1
       rw [Rw,SY] at h2
       exact ⟨rfl,h2⟩
     · cases h
   · cases h
 · rintro ⟨rfl,h⟩
   unfold intS
   rw [parse64_itoa n h]
   simp only
   rw [Rw,if_pos]
   simp only [beq_self_eq_true,Bool.true_and,decide_eq_true_eq]
   exact (SY _).2 h
theorem Xt:∀(n:Nat) (d:List UInt8),d.length=n->d.all PhS.isDig=true->d≠[]->(d.head?≠some 48\/d.length=1)->decDigits (PhS.valFrom 0 d)=d:=by
 intro n
 induction n with
 | zero=>intro d hl _ A1;exact absurd (List.eq_nil_of_length_eq_zero hl) A1
 | succ n ih=>
  intro d hl A0 A1 hh
  obtain ⟨d',c,rfl⟩:∃d' c,d=d'++[c]:=⟨d.dropLast,d.getLast A1,(List.dropLast_concat_getLast A1).symm⟩
  rw [PhS.valFrom_snoc]
  rw [List.all_append,Bool.and_eq_true] at A0
  have hc:48<=c.toNat/\c.toNat<=57:=by have:=A0.2;simp [PhS.isDig] at this;exact this
  have A3:UInt8.ofNat (48+(c.toNat - 48))=c:=by
   apply UInt8.toNat_inj.1
   rw [UInt8.toNat_ofNat'];omega
  by_cases h0:d'=[]
  · subst h0
    simp only [PhS.valFrom,List.foldl_nil,Nat.zero_mul,Nat.zero_add,List.nil_append]
    rw [decDigits,dif_pos (by omega),A3]
  · have A2:d'.head?≠some 48:=by
     rcases hh with hh | hh
     · cases d' with
       | nil=>exact absurd rfl h0
       | cons a r=>exact hh
     · cases d' with
       | nil=>exact absurd rfl h0
       | cons a r=>simp at hh
    have e:=ih d' (by simp at hl;exact hl) A0.1 h0 (.inl A2)
    have A4:1<=PhS.valFrom 0 d':=by
     rcases Nat.eq_zero_or_pos (PhS.valFrom 0 d') with hz | hz
     · rw [hz] at e
       have:decDigits 0=[48]:=by decide+kernel
       rw [this] at e
       rw [<-e] at A2
       exact absurd rfl A2
     · exact hz
    rw [decDigits,dif_neg (by omega)]
    have e1:(PhS.valFrom 0 d'*10+(c.toNat - 48)) / 10=PhS.valFrom 0 d':=by omega
    have e2:(PhS.valFrom 0 d'*10+(c.toNat - 48)) % 10=c.toNat - 48:=by omega
    rw [e1,e2,e,A3]
def intR (l:List UInt8):Option Int:=
 let neg:Bool:=l.head?==some 45
 let d:=if neg then l.tail else l
 if d.length<1\/18<d.length\/(d.head?=some 48/\(1<d.length\/neg=true))\/d.all PhS.isDig=false then none
 else some (if neg then -(PhS.valFrom 0 d:Int) else PhS.valFrom 0 d)
theorem val18 {d:List UInt8} (h:d.all PhS.isDig=true) (hl:d.length<=18):PhS.valFrom 0 d<1000000000000000000:=by
 have h1:=PhS.valFrom_lt d h
 have h2:=UY hl
 omega
theorem NH (u:Nat):(decDigits u).head?=some 48->u=0:=by
 intro h
 have hv:=PhS.valFrom_dec u
 rcases Nat.eq_zero_or_pos u with h0 | h0
 · exact h0
 · exfalso
   have key:∀(n u:Nat),(decDigits u).length=n->0<u->(decDigits u).head?≠some 48:=by
    intro n
    induction n with
    | zero=>intro u hl;exact absurd (List.eq_nil_of_length_eq_zero hl) (PhS.decDigits_ne u)
    | succ n ih=>
     intro u hl hu
     by_cases h10:u<10
     · rw [decDigits_one h10]
       intro e
       have e2:=Option.some.inj e
       have e3:=congrArg UInt8.toNat e2
       rw [UInt8.toNat_ofNat'] at e3
       have:(48:UInt8).toNat=48:=rfl
       omega
     · rw [decDigits,dif_neg h10] at hl⊢
       have A0:(decDigits (u / 10)).length=n:=by simpa using hl
       have:=ih (u / 10) A0 (by omega)
       cases hd:decDigits (u / 10) with
       | nil=>exact absurd hd (PhS.decDigits_ne _)
       | cons a r=>rw [hd] at this;exact this
   exact key _ u rfl h0 h
theorem UZ {l:List UInt8} {n:Int}:intR l=some n↔itoa n=l/\n.natAbs<1000000000000000000:=by
 constructor
 · intro h
   unfold intR at h
   generalize A1:(l.head?==some 45)=neg at h
   simp only at h
   by_cases hc:((if neg=true then l.tail else l).length<1\/18<(if neg=true then l.tail else l).length\/((if neg=true then l.tail else l).head?=some 48/\(1<(if neg=true then l.tail else l).length\/neg=true))\/(if neg=true then l.tail else l).all PhS.isDig=false)
   · rw [if_pos hc] at h;cases h
   · rw [if_neg hc] at h
     have h:=Option.some.inj h
     rw [not_or,not_or,not_or] at hc
     obtain ⟨c1,c2,c3,c4⟩:=hc
     have A0:(if neg=true then l.tail else l).all PhS.isDig=true:=by simpa using c4
     clear c4
     cases neg with
     | true=>
      simp only [if_true] at c1 c2 c3 A0 h
      have hl:l=45 :: l.tail:=by
       cases l with
       | nil=>cases A1
       | cons a r=>have:=Option.some.inj (beq_iff_eq.1 A1);subst this;rfl
      have hv:=val18 A0 (by omega)
      have h48:l.tail.head?≠some 48:=fun e=>c3 ⟨e,.inr (by trivial)⟩
      have A2:l.tail≠[]:=by intro e;rw [e] at c1;simp at c1
      have hd:=Xt _ l.tail rfl A0 A2 (.inl h48)
      have A3:0<PhS.valFrom 0 l.tail:=by
       rcases Nat.eq_zero_or_pos (PhS.valFrom 0 l.tail) with hz | hz
       · rw [hz] at hd
         have:decDigits 0=[48]:=by decide+kernel
         rw [this] at hd;rw [<-hd] at h48;exact absurd rfl h48
       · exact hz
      subst h
      refine ⟨?_,by omega⟩
      rw [PhS.itoa_neg (by omega)]
      have e:(-(PhS.valFrom 0 l.tail:Int)).natAbs=PhS.valFrom 0 l.tail:=by omega
      rw [e,hd]
      exact hl.symm
     | false=>
      simp only [Bool.false_eq_true,if_false] at c1 c2 c3 A0 h
      have hv:=val18 A0 (by omega)
      have A2:l≠[]:=by intro e;rw [e] at c1;simp at c1
      have hh:l.head?≠some 48\/l.length=1:=by
       by_cases e:l.head?=some 48
       · right
         have:¬1<l.length:=fun h=>c3 ⟨e,.inl h⟩
         omega
       · exact .inl e
      have hd:=Xt _ l rfl A0 A2 hh
      subst h
      refine ⟨?_,by omega⟩
      rw [PhS.itoa_nonneg (by omega)]
      exact hd
 · rintro ⟨rfl,h⟩
   unfold intR
   simp only
   by_cases hn:n<0
   · rw [PhS.itoa_neg hn]
     have e1:((45 :: decDigits n.natAbs).head?==some 45)=true:=rfl
     rw [e1]
     simp only [if_true,List.tail_cons]
     have hl:=(SY n.natAbs).2 h
     have hp:=PhS.dec_pos n.natAbs
     rw [if_neg]
     · rw [PhS.valFrom_dec];congr 1;omega
     · rintro (h1 | h1 | ⟨h1,_⟩ | h1)
       · omega
       · omega
       · have:=NH _ h1;omega
       · rw [PhS.dec_all] at h1;cases h1
   · rw [PhS.itoa_nonneg (by omega)]
     have e1:((decDigits n.toNat).head?==some 45)=false:=by
      rw [beq_eq_false_iff_ne];exact PhS.head_dec _
     rw [e1]
     simp only [Bool.false_eq_true,if_false]
     have hl:=(SY n.toNat).2 (by omega)
     have hp:=PhS.dec_pos n.toNat
     rw [if_neg]
     · rw [PhS.valFrom_dec];congr 1;omega
     · rintro (h1 | h1 | ⟨h1,h2⟩ | h1)
       · omega
       · omega
       · have h0:=NH _ h1
         rw [h0] at h2
         rcases h2 with h2 | h2
         · have:decDigits 0=[48]:=by decide+kernel
           rw [this] at h2;simp at h2
         · cases h2
       · rw [PhS.dec_all] at h1;cases h1
theorem intR_eq (l:List UInt8):intR l=intS l:=by
 cases h:intR l with
 | some n=>exact (intS_iff.2 (UZ.1 h)).symm
 | none=>
  cases h2:intS l with
  | none=>rfl
  | some n=>rw [UZ.2 (intS_iff.1 h2)] at h;cases h
theorem gap_snoc (l:List UInt8) (d:UInt8):gapB (l++[d])=(d==32):=by unfold gapB;simp
theorem Va {P:List UInt8->Prop} (h0:P []) (h1:∀l d,P l->P (l++[d])):∀l,P l:=by
 intro l
 have:∀(n:Nat) (l:List UInt8),l.length=n->P l:=by
  intro n
  induction n with
  | zero=>intro l hl;rw [List.eq_nil_of_length_eq_zero hl];exact h0
  | succ n ih=>
   intro l hl
   have A0:l≠[]:=by intro e;rw [e] at hl;cases hl
   rw [<-List.dropLast_concat_getLast A0]
   exact h1 _ _ (ih _ (by simp [hl]))
 exact this _ l rfl
theorem joinW_le (l:List UInt8):(Lib.join (wordsL l) [32]).length+(if gapB l=true then 1 else 0)<=l.length:=by
 refine Va (P:=fun l=>(Lib.join (wordsL l) [32]).length+(if gapB l=true then 1 else 0)<=l.length) (by decide) (fun l d ih=>?_) l
 rw [gap_snoc]
 by_cases hd:d=32
 · subst hd
   rw [wordsL_blank]
   simp;omega
 · rw [wordsL_letter l hd]
   have:(d==32)=false:=by simpa using hd
   rw [this]
   simp only [List.length_append,List.length_singleton,Bool.false_eq_true,if_false]
   by_cases hg:gapB l=true
   · rw [hg] at ih⊢
     simp only [if_true,Bool.true_and] at ih⊢
     split <;> simp <;> omega
   · have hg:gapB l=false:=by simpa using hg
     rw [hg] at ih⊢
     simp at ih⊢;omega
theorem textS_le (l:List UInt8):(textS l).length<=l.length:=by
 have:=joinW_le (lower l)
 rw [lower_length] at this
 unfold textS;omega
theorem Rx (c:UInt8) (hc:c≠32) (l:List UInt8):c ∈ Lib.join (wordsL l) [32]↔c ∈ l:=by
 refine Va (P:=fun l=>c ∈ Lib.join (wordsL l) [32]↔c ∈ l) (by simp [wordsL,pieces,Lib.join_nil]) (fun l d ih=>?_) l
 by_cases hd:d=32
 · subst hd
   rw [wordsL_blank,ih];simp [hc]
 · rw [wordsL_letter l hd,List.mem_append,List.mem_append,List.mem_append,ih]
   constructor
   · rintro ((h | h) | h)
     · exact .inl h
     · split at h
       · simp at h;exact absurd h hc
       · cases h
     · exact .inr h
   · rintro (h | h)
     · exact .inl (.inl h)
     · exact .inr h
theorem lower_zero (l:List UInt8):(0:UInt8) ∈ lower l↔(0:UInt8) ∈ l:=by
 unfold lower
 rw [List.mem_map]
 constructor
 · rintro ⟨c,hc,h⟩
   by_cases hq:65<=c.toNat/\c.toNat<=90
   · have:=lowC_toNat hq.1 hq.2
     rw [h] at this
     have e:(0:UInt8).toNat=0:=rfl
     omega
   · rw [lowC_no hq] at h;rw [<-h];exact hc
 · intro h;exact ⟨0,h,by decide⟩
theorem textS_zero (l:List UInt8):(0:UInt8) ∈ textS l↔(0:UInt8) ∈ l:=by
 unfold textS;rw [Rx 0 (by decide),lower_zero]
theorem indexByte_none (l:List UInt8) (c:UInt8):Lib.indexByte l c<0↔¬c ∈ l:=by
 induction l with
 | nil=>simp [Lib.indexByte]
 | cons b l ih=>
  unfold Lib.indexByte
  by_cases h:b=c
  · subst h;simp
  · have h':(b==c)=false:=by simpa using h
    rw [h']
    simp only [Bool.false_eq_true,if_false,List.mem_cons]
    have A1:=Lib.indexByte_ge l c
    by_cases hm:Lib.indexByte l c=-1
    · rw [hm];simp
      rw [hm] at ih
      exact ⟨fun e=>h e.symm,ih.1 (by decide)⟩
    · have A0:(Lib.indexByte l c==-1)=false:=by simpa using hm
      rw [A0]
      simp only [Bool.false_eq_true,if_false]
      have:¬Lib.indexByte l c<0:=by omega
      constructor
      · intro h;omega
      · intro hn;exfalso;exact this (ih.2 (fun hh=>hn (.inr hh)))
def hasNul (l:List UInt8):Bool:=decide ((0:UInt8) ∈ l)
def normV (syn:Int) (v:List UInt8):Option (List UInt8):=
 if syn=1 then (if (textS v).isEmpty||hasNul v then none else some (textS v))
 else if syn=3 then (if (intS v).isSome then some v else none)
 else if syn=4 then (if (PhS.parseP v).isSome then some v else none)
 else some v
def normalR (sy:Int) (v:List UInt8):List UInt8 × Int:=
 if sy=0 then ([],5) else if sy=5 then ([],1) else if v.length<1\/200<v.length then ([],2)
 else match normV sy v with
  | none=>([],2)
  | some s=>(s,0)
def normal (name v:List UInt8):List UInt8 × Int:=normalR (typeOf name).2 v
end Go.Proofs.YtgngjfjaelgaeaaGreatDoor.RuS
namespace Go.Proofs.YtgngjfjaelgaeaaGreatDoor.RuS
open Go.Lib
theorem u8_lt {a b:UInt8}:a<b↔a.toNat<b.toNat:=UInt8.lt_iff_toNat_lt
theorem compare_self:∀l:List UInt8,compareBytes l l=0
 | []=>rfl
 | a :: l=>by
  unfold compareBytes
  rw [if_neg (by rw [u8_lt];omega),if_neg (by rw [u8_lt];omega)]
  exact compare_self l
theorem compare_swap:∀x y:List UInt8,compareBytes y x=-compareBytes x y
 | [],[]=>rfl
 | [],_ :: _=>rfl
 | _ :: _,[]=>rfl
 | a :: x,b :: y=>by
  have ih:=compare_swap x y
  unfold compareBytes
  by_cases h1:a<b
  · have:¬b<a:=by rw [u8_lt] at h1⊢;omega
    rw [if_neg this,if_pos h1,if_pos h1];rfl
  · by_cases h2:b<a
    · rw [if_pos h2,if_neg h1,if_pos h2]
    · rw [if_neg h2,if_neg h1,if_neg h1,if_neg h2];exact ih
theorem compare_zero:∀x y:List UInt8,compareBytes x y=0↔x=y
 | [],[]=>by simp [compareBytes]
 | [],_ :: _=>by simp [compareBytes]
 | _ :: _,[]=>by simp [compareBytes]
 | a :: x,b :: y=>by
  have ih:=compare_zero x y
  unfold compareBytes
  by_cases h1:a<b
  · rw [if_pos h1]
    have:a≠b:=by intro e;subst e;rw [u8_lt] at h1;omega
    simp [this]
  · by_cases h2:b<a
    · rw [if_neg h1,if_pos h2]
      have:a≠b:=by intro e;subst e;rw [u8_lt] at h2;omega
      simp [this]
    · rw [if_neg h1,if_neg h2,ih]
      have:a=b:=by apply UInt8.toNat_inj.1;rw [u8_lt] at h1 h2;omega
      simp [this]
theorem compare_range:∀x y:List UInt8,-1<=compareBytes x y/\compareBytes x y<=1
 | [],[]=>by simp [compareBytes]
 | [],_ :: _=>by simp [compareBytes]
 | _ :: _,[]=>by simp [compareBytes]
 | a :: x,b :: y=>by
  have ih:=compare_range x y
  unfold compareBytes
  split
  · omega
  · split <;> omega
theorem less_iff:∀x y:List UInt8,Op.bytesLess x y=decide (compareBytes x y=-1)
 | [],[]=>by simp [compareBytes,Op.bytesLess]
 | [],_ :: _=>by simp [compareBytes,Op.bytesLess]
 | _ :: _,[]=>by simp [compareBytes,Op.bytesLess]
 | a :: x,b :: y=>by
  have ih:=less_iff x y
  unfold compareBytes Op.bytesLess
  by_cases h1:a<b
  · rw [if_pos h1];simp [h1]
  · rw [if_neg h1]
    by_cases h2:b<a
    · rw [if_pos h2]
      have:a≠b:=by intro e;subst e;rw [u8_lt] at h2;omega
      simp [h1,this]
    · rw [if_neg h2,ih]
      have:a=b:=by apply UInt8.toNat_inj.1;rw [u8_lt] at h1 h2;omega
      subst this
      simp
theorem eq_iff (x y:List UInt8):(x==y)=decide (compareBytes x y=0):=by
 rw [Bool.eq_iff_iff,beq_iff_eq,decide_eq_true_eq,compare_zero]
def bareL (l:List UInt8):List UInt8:=l.filter (fun c=>c !=32)
theorem Jl (c:UInt8):∀l:List UInt8,replaceK [c] [] (count l [c]) l=l.filter (fun b=>b !=c)
 | []=>by rw [count_miss (by simp [index])];rfl
 | b :: l=>by
  have ih:=Jl c l
  by_cases h:b=c
  · subst h
    rw [count_cons_eq,Nat.add_comm,replaceK_hit _ _ _ _ 0 (index_cons_eq b l)]
    simp
    exact ih
  · rw [count_cons_ne b c l h]
    have hb:(b !=c)=true:=by simpa using h
    rw [List.filter_cons,if_pos hb]
    by_cases hm:index l [c]=-1
    · rw [count_miss hm] at ih⊢
      rw [<-ih];rfl
    · have A1:=index_ge l [c]
      obtain ⟨j,hj⟩:∃j:Nat,index l [c]=j:=⟨(index l [c]).toNat,by omega⟩
      have A0:index (b :: l) [c]=((j+1:Nat):Int):=by
       rw [index_cons_ne h l,hj]
       have:¬(((j:Nat):Int)==-1)=true:=fun h=>by have:=beq_iff_eq.1 h;omega
       rw [if_neg this];omega
      rw [count_hit (by simp) hj,Nat.add_comm] at ih⊢
      rw [replaceK_hit _ _ _ _ j hj] at ih
      rw [replaceK_hit _ _ _ _ (j+1) A0,<-ih]
      simp
theorem replaceAll_bare (l:List UInt8):replaceAll l [32] []=bareL l:=by
 unfold replaceAll replace replaceNum
 rw [if_neg (by decide),if_pos (.inl (by decide))]
 exact Jl 32 l
theorem MC (c:UInt8):∀w:List UInt8,(∀x ∈ w,x≠c)->pieces c w=[w]
 | [],_=>rfl
 | b :: w,h=>by
  have ih:=MC c w (fun x hx=>h x (List.mem_cons_of_mem _ hx))
  unfold pieces
  rw [if_neg (h b List.mem_cons_self),ih]
theorem PM (c:UInt8) (r:List UInt8):∀w:List UInt8,(∀x ∈ w,x≠c)->pieces c (w++c :: r)=w :: pieces c r
 | [],_=>by simp [pieces]
 | b :: w,h=>by
  have ih:=PM c r w (fun x hx=>h x (List.mem_cons_of_mem _ hx))
  rw [List.cons_append]
  have e:pieces c (b :: (w++c :: r))=if b=c then [] :: pieces c (w++c :: r) else match pieces c (w++c :: r) with
   | p :: ps=>(b :: p) :: ps
   | []=>[[b]]:=rfl
  rw [e,if_neg (h b List.mem_cons_self),ih]
theorem Lm (c:UInt8):∀(l:List UInt8),∀p ∈ pieces c l,∀x ∈ p,x≠c
 | [],p,hp=>by simp [pieces] at hp;subst hp;simp
 | b :: l,p,hp=>by
  have ih:=Lm c l
  unfold pieces at hp
  by_cases h:b=c
  · rw [if_pos h] at hp
    rcases List.mem_cons.1 hp with rfl | hp
    · simp
    · exact ih p hp
  · rw [if_neg h] at hp
    obtain ⟨q,qs,hq⟩:=pieces_ne c l
    rw [hq] at hp ih
    simp only at hp
    rcases List.mem_cons.1 hp with rfl | hp
    · intro x hx
      rcases List.mem_cons.1 hx with rfl | hx
      · exact h
      · exact ih q List.mem_cons_self x hx
    · exact ih p (List.mem_cons_of_mem _ hp)
theorem join_cons_cons (x y:List UInt8) (r:List (List UInt8)) (s:List UInt8):Lib.join (x :: y :: r) s=x++s++Lib.join (y :: r) s:=by
 unfold Lib.join List.intercalate;simp
theorem NI:∀ws:List (List UInt8),ws≠[]->(∀w ∈ ws,∀x ∈ w,x≠32)->pieces 32 (Lib.join ws [32])=ws
 | [],h,_=>absurd rfl h
 | [w],_,h=>by rw [Lib.join_one];exact MC 32 w (h w List.mem_cons_self)
 | w :: v :: r,_,h=>by
  have ih:=NI (v :: r) (by simp) (fun x hx=>h x (List.mem_cons_of_mem _ hx))
  rw [join_cons_cons,List.append_assoc,List.singleton_append,PM 32 _ w (h w List.mem_cons_self),ih]
theorem Ww (l:List UInt8):wordsL (Lib.join (wordsL l) [32])=wordsL l:=by
 by_cases h:wordsL l=[]
 · rw [h];rfl
 · have h1:∀w ∈ wordsL l,∀x ∈ w,x≠32:=fun w hw=>Lm 32 l w ((List.mem_filter.1 hw).1)
   have h2:=NI (wordsL l) h h1
   have h3:wordsL (Lib.join (wordsL l) [32])=(pieces 32 (Lib.join (wordsL l) [32])).filter (fun p=>!p.isEmpty):=rfl
   rw [h3,h2]
   unfold wordsL
   rw [List.filter_filter]
   simp
theorem Abp {l:List UInt8} (h:∀c ∈ l,lowC c=c):lower l=l:=by
 unfold lower
 exact (List.map_congr_left h).trans (List.map_id l)
theorem Abq (l:List UInt8):∀c ∈ textS l,lowC c=c:=by
 intro c hc
 by_cases h:c=32
 · subst h;decide
 · unfold textS at hc
   rw [Rx c h] at hc
   unfold lower at hc
   obtain ⟨d,_,rfl⟩:=List.mem_map.1 hc
   exact Abo d
theorem YL (l:List UInt8):textS (textS l)=textS l:=by
 have h:textS (textS l)=Lib.join (wordsL (lower (textS l))) [32]:=rfl
 rw [h,Abp (Abq l)]
 unfold textS
 rw [Ww]
theorem normal_ok {nm v s:List UInt8} (h:normal nm v=(s,0)):((typeOf nm).2=1\/(typeOf nm).2=2\/(typeOf nm).2=3\/(typeOf nm).2=4)/\1<=v.length/\v.length<=200/\normV (typeOf nm).2 v=some s:=by
 have A1:=typeM_all (lower nm)
 have A0:typeOf nm=([],0)\/(1<=(typeOf nm).2/\(typeOf nm).2<=5/\1<=(typeOf nm).1.length/\(typeOf nm).1.length<=17):=A1
 unfold normal normalR at h
 by_cases h0:(typeOf nm).2=0
 · rw [if_pos h0] at h;injection h with _ h;cases h
 · rw [if_neg h0] at h
   by_cases h5:(typeOf nm).2=5
   · rw [if_pos h5] at h;injection h with _ h;cases h
   · rw [if_neg h5] at h
     by_cases hl:v.length<1\/200<v.length
     · rw [if_pos hl] at h;injection h with _ h;cases h
     · rw [if_neg hl] at h
       cases hv:normV (typeOf nm).2 v with
       | none=>rw [hv] at h;injection h with _ h;cases h
       | some x=>
        rw [hv] at h
        injection h with h _
        subst h
        refine ⟨?_,by omega,by omega,rfl⟩
        rcases A0 with h | h
        · rw [h] at h0;exact absurd rfl h0
        · omega
theorem Abr {nm v s:List UInt8} (h:(typeOf nm).2=1\/(typeOf nm).2=2\/(typeOf nm).2=3\/(typeOf nm).2=4) (h1:1<=v.length) (h2:v.length<=200) (h3:normV (typeOf nm).2 v=some s):normal nm v=(s,0):=by
 unfold normal normalR
 rw [if_neg (by omega),if_neg (by omega),if_neg (by omega),h3]
theorem normV_same {sy:Int} {v s:List UInt8} (h1:sy≠1) (h:normV sy v=some s):s=v:=by
 unfold normV at h
 rw [if_neg h1] at h
 by_cases h3:sy=3
 · rw [if_pos h3] at h;split at h
   · exact (Option.some.inj h).symm
   · cases h
 · rw [if_neg h3] at h
   by_cases h4:sy=4
   · rw [if_pos h4] at h;split at h
     · exact (Option.some.inj h).symm
     · cases h
   · rw [if_neg h4] at h;exact (Option.some.inj h).symm
theorem NJ {v s:List UInt8} (h:normV 1 v=some s):s=textS v/\(textS v).isEmpty=false/\hasNul v=false:=by
 have h:(if (textS v).isEmpty||hasNul v then none else some (textS v))=some s:=h
 cases h1:(textS v).isEmpty with
 | true=>rw [h1] at h;cases h
 | false=>
  cases h2:hasNul v with
  | true=>rw [h1,h2] at h;cases h
  | false=>rw [h1,h2] at h;exact ⟨(Option.some.inj h).symm,rfl,rfl⟩
theorem normal_idem {nm v s:List UInt8} (h:normal nm v=(s,0)):normal nm s=(s,0):=by
 obtain ⟨h1,h2,h3,h4⟩:=normal_ok h
 by_cases e:(typeOf nm).2=1
 · rw [e] at h4
   obtain ⟨rfl,g1,g2⟩:=NJ h4
   have A1:=textS_le v
   have A0:1<=(textS v).length:=by
    cases hq:textS v with
    | nil=>rw [hq] at g1;cases g1
    | cons a b=>simp
   refine Abr h1 A0 (by omega) ?_
   rw [e]
   show (if (textS (textS v)).isEmpty||hasNul (textS v) then none else some (textS (textS v)))=_
   have hz:hasNul (textS v)=false:=by
    unfold hasNul at g2⊢
    rw [decide_eq_false_iff_not] at g2⊢
    rw [textS_zero];exact g2
   rw [YL,g1,hz];rfl
 · have:=normV_same e h4
   subst this
   exact h
theorem Wx {nm v:List UInt8} (h:(normal nm v).2≠0):(normal nm v).1=[]:=by
 unfold normal normalR at h⊢
 split
 · rfl
 · split
   · rfl
   · split
     · rfl
     · rename_i a b c
       rw [if_neg a,if_neg b,if_neg c] at h
       split
       · rfl
       · rename_i x hx;rw [hx] at h;exact absurd rfl h
theorem normal_len (nm v:List UInt8):(normal nm v).1.length<=200:=by
 by_cases h:(normal nm v).2=0
 · have h':normal nm v=((normal nm v).1,0):=by rw [<-h]
   obtain ⟨h1,h2,h3,h4⟩:=normal_ok h'
   by_cases e:(typeOf nm).2=1
   · rw [e] at h4
     obtain ⟨e2,_,_⟩:=NJ h4
     rw [e2]
     have:=textS_le v
     omega
   · rw [normV_same e h4];exact h3
 · rw [Wx h];simp
end Go.Proofs.YtgngjfjaelgaeaaGreatDoor.RuS
