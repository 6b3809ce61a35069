/- Plain laws on the texts of complex whole numbers: how they are printed, how both parsers read them, and that the two agree; no program in sight. Conditions: as stated. -/
import Derived.Lib.ItoaNum
import Derived.Lib.ParseIntB
import Derived.Lib.Strings
import Derived.Laws.ComplexArith
namespace Go.Proofs.YtgngjfjaelgaeaaGreatDoor.PhS
open Go.Lib
def isDig (c:UInt8):Bool:=decide (48<=c.toNat/\c.toNat<=57)
theorem decDigits_dig (u:Nat):∀c ∈ decDigits u,48<=c.toNat/\c.toNat<=57:=by
 induction u using Nat.strongRecOn with
 | _ u ih=>
  intro c hc
  rw [decDigits] at hc
  by_cases h:u<10
  · rw [dif_pos h] at hc
    have:c=UInt8.ofNat (48+u):=by simpa using hc
    subst this
    rw [UInt8.toNat_ofNat']
    omega
  · rw [dif_neg h] at hc
    rcases List.mem_append.1 hc with h1 | h1
    · exact ih (u / 10) (by omega) c h1
    · have:c=UInt8.ofNat (48+u % 10):=by simpa using h1
      subst this
      rw [UInt8.toNat_ofNat']
      omega
theorem decDigits_ne (u:Nat):decDigits u≠[]:=by
 intro h
 have:=decDigits_length u
 have:=nDigits_pos u
 rw [h] at*
 simp at*
 omega
def valFrom (acc:Nat) (l:List UInt8):Nat:=l.foldl (fun a c=>a*10+(c.toNat - 48)) acc
theorem JH (acc:Nat) (l r:List UInt8):valFrom acc (l++r)=valFrom (valFrom acc l) r:=by
 unfold valFrom;rw [List.foldl_append]
theorem valFrom_dec (u:Nat):valFrom 0 (decDigits u)=u:=by
 induction u using Nat.strongRecOn with
 | _ u ih=>
  rw [decDigits]
  by_cases h:u<10
  · rw [dif_pos h]
    simp only [valFrom,List.foldl_cons,List.foldl_nil,UInt8.toNat_ofNat']
    omega
  · rw [dif_neg h,JH,ih (u / 10) (by omega)]
    simp only [valFrom,List.foldl_cons,List.foldl_nil,UInt8.toNat_ofNat']
    omega
theorem XY (l:List UInt8):∀acc,acc<=valFrom acc l:=by
 induction l with
 | nil=>intro acc;exact Nat.le_refl _
 | cons c r ih=>
  intro acc
  have:=ih (acc*10+(c.toNat - 48))
  show acc<=valFrom (acc*10+(c.toNat - 48)) r
  omega
theorem parseUintM_ok (M:Nat):∀(l:List UInt8) (acc:Nat),(∀c ∈ l,48<=c.toNat/\c.toNat<=57)->valFrom acc l<=M->M<18446744073709551616->valFrom acc l<18446744073709551610->parseUintM M acc l=.ok (valFrom acc l)
 | [],acc,_,_,_,_=>rfl
 | c :: r,acc,hd,hM,hM2,hv=>by
  have hc:=hd c (by simp)
  have e:valFrom acc (c :: r)=valFrom (acc*10+(c.toNat - 48)) r:=rfl
  have A0:=XY r (acc*10+(c.toNat - 48))
  rw [e] at hM hv⊢
  rw [parseUintM,if_pos hc,if_neg (by omega),if_neg (by omega)]
  exact parseUintM_ok M r _ (fun x hx=>hd x (by simp [hx])) hM hM2 hv
theorem IE (B:Nat) (hB:2<=B) (A0:B<=63) (u:Nat) (hu:u<2 ^ (B - 1)):parseUintB B (decDigits u)=.ok u:=by
 have h1:2 ^ (B - 1)<=2 ^ 62:=Nat.pow_le_pow_right (by decide) (by omega)
 have h2:2 ^ B=2*2 ^ (B - 1):=by
  obtain ⟨b,rfl⟩:∃b,B=b+1:=⟨B - 1,by omega⟩
  rw [Nat.add_sub_cancel,Nat.pow_succ,Nat.mul_comm]
 unfold parseUintB
 rw [if_neg (decDigits_ne u),parseUintM_ok _ _ _ (decDigits_dig u),valFrom_dec]
 · rw [valFrom_dec];omega
 · omega
 · rw [valFrom_dec];omega
theorem XZ (B:Nat) (hB:2<=B) (A1:B<=63) (n:Int) (hn:n.natAbs<2 ^ (B - 1)):parseIntB B (itoa n)=.ok n:=by
 unfold itoa
 by_cases h:n<0
 · rw [if_pos h]
   unfold parseIntB
   simp only [show (45:UInt8).toNat=45 from rfl,or_true,if_true]
   rw [IE B hB A1 _ hn]
   simp only [not_true_eq_false,false_and,if_false,true_and]
   rw [if_neg (by omega)]
   congr 1
   omega
 · rw [if_neg h]
   obtain ⟨c,r,A0⟩:∃c r,decDigits n.toNat=c :: r:=by
    cases hd:decDigits n.toNat with
    | nil=>exact absurd hd (decDigits_ne _)
    | cons c r=>exact ⟨c,r,rfl⟩
   have hc:=decDigits_dig n.toNat c (by rw [A0];simp)
   have hp:=IE B hB A1 n.toNat (by omega)
   rw [A0] at hp⊢
   unfold parseIntB
   have h43:¬(c.toNat=43\/c.toNat=45):=by omega
   simp only [if_neg h43]
   rw [hp]
   have h45:¬c.toNat=45:=by omega
   simp only [h45,not_false_eq_true,true_and,false_and,if_false]
   rw [if_neg (by omega)]
   congr 1
   omega
theorem parse_plus (B:Nat) (hB:2<=B) (A0:B<=63) (n:Int) (h0:0<=n) (hn:n.natAbs<2 ^ (B - 1)):parseIntB B (43 :: itoa n)=.ok n:=by
 unfold itoa
 rw [if_neg (by omega)]
 unfold parseIntB
 simp only [show (43:UInt8).toNat=43 from rfl,true_or,if_true]
 rw [IE B hB A0 _ (by omega)]
 simp only [show ¬((43:Nat)=45) by decide,not_false_eq_true,true_and,false_and,if_false]
 rw [if_neg (by omega)]
 congr 1
 omega
def inR (a b:Int):Bool:=decide (a.natAbs<=1000000/\b.natAbs<=1000000)
def sec (b:Int):List UInt8:=if b=1 then [105] else if b=-1 then [45,105] else itoa b++[105]
def text (a b:Int):List UInt8:=
 if b=0 then itoa a else if a=0 then sec b else if 0<b then itoa a++(43 :: sec b) else itoa a++sec b
def lastW (p:UInt8->Bool):List UInt8->Int
 | []=>-1
 | c :: r=>if 0<=lastW p r then lastW p r+1 else if p c then 0 else -1
theorem lastW_ge (p:UInt8->Bool) (l:List UInt8):-1<=lastW p l:=by
 induction l with
 | nil=>exact Int.le_refl _
 | cons c r ih=>unfold lastW;split <;> (try split) <;> omega
theorem lastW_snoc (p:UInt8->Bool) (l:List UInt8) (c:UInt8):lastW p (l++[c])=if p c then (l.length:Int) else lastW p l:=by
 induction l with
 | nil=>simp [lastW]
 | cons d r ih=>
  rw [List.cons_append,lastW,ih]
  by_cases hc:p c
  · simp only [hc,if_true,List.length_cons]
    rw [if_pos (by omega)]
    omega
  · simp only [hc,if_false,Bool.false_eq_true]
    rfl
theorem lastW_lt (p:UInt8->Bool) (l:List UInt8):lastW p l<l.length:=by
 induction l with
 | nil=>simp [lastW]
 | cons c r ih=>unfold lastW;simp only [List.length_cons];split <;> (try split) <;> omega
theorem Ya (p:UInt8->Bool) (l:List UInt8) (h:∀c ∈ l,p c=false):lastW p l=-1:=by
 induction l with
 | nil=>rfl
 | cons c r ih=>
  have h1:=ih (fun x hx=>h x (by simp [hx]))
  have h2:=h c (by simp)
  unfold lastW
  rw [h1,h2];rfl
theorem lastW_append_none (p:UInt8->Bool) (l r:List UInt8) (h:∀c ∈ r,p c=false):lastW p (l++r)=lastW p l:=by
 induction r generalizing l with
 | nil=>simp
 | cons c r ih=>
  have h2:=h c (by simp)
  rw [show l++c :: r=(l++[c])++r by simp,ih (l++[c]) (fun x hx=>h x (by simp [hx])),lastW_snoc,h2]
  rfl
def isSign (c:UInt8):Bool:=c==43||c==45
theorem Ac7 {c:UInt8} (h:48<=c.toNat/\c.toNat<=57):isSign c=false:=by
 unfold isSign
 rw [Bool.or_eq_false_iff,beq_eq_false_iff_ne,beq_eq_false_iff_ne]
 constructor
 · rintro rfl;revert h;decide
 · rintro rfl;revert h;decide
theorem IG (u:Nat):∀c ∈ decDigits u,isSign c=false:=fun c hc=>Ac7 (decDigits_dig u c hc)
theorem itoa_nonneg {n:Int} (h:0<=n):itoa n=decDigits n.toNat:=by unfold itoa;rw [if_neg (by omega)]
theorem itoa_neg {n:Int} (h:n<0):itoa n=45 :: decDigits n.natAbs:=by unfold itoa;rw [if_pos h]
theorem Fg (n:Int):itoa n≠[]:=by
 unfold itoa;split
 · simp
 · exact decDigits_ne _
theorem Aal (l:List UInt8) (b:Int) (hb:0<=b):lastW isSign (l++43 :: itoa b)=l.length:=by
 rw [itoa_nonneg hb,show l++43 :: decDigits b.toNat=(l++[43])++decDigits b.toNat by simp,lastW_append_none _ _ _ (IG _),lastW_snoc]
 rfl
theorem TU (b:Int):(max (lastW isSign (itoa b)) 0).toNat=0:=by
 by_cases hb:b<0
 · rw [itoa_neg hb,show (45:UInt8) :: decDigits b.natAbs=[45]++decDigits b.natAbs from rfl,lastW_append_none _ _ _ (IG _)]
   rfl
 · rw [itoa_nonneg (by omega),Ya _ _ (IG _)]
   rfl
def cutAt (s:List UInt8):Nat:=if s.getLast?=some 105 then (max (lastW isSign s.dropLast) 0).toNat else s.length
def firstOf (s:List UInt8):List UInt8:=if s.getLast?=some 105 then (if s.dropLast.take (cutAt s)=[] then [48] else s.dropLast.take (cutAt s)) else s
def bareSecond (s:List UInt8):List UInt8:=s.dropLast.drop (cutAt s)
def secondOf (s:List UInt8):List UInt8:=
 if s.getLast?=some 105 then (if bareSecond s=[]\/bareSecond s=[43]\/bareSecond s=[45] then bareSecond s++[49] else bareSecond s) else [48]
def readS (l:List UInt8):Int × Bool:=match parseIntB 32 l with | .ok v=>(v,true) | NumEnd.range=>(intSat 32 l,false) | _=>(0,false)
def parseP (s:List UInt8):Option (Int × Int):=
 if (readS (firstOf s)).2/\(readS (secondOf s)).2/\inR (readS (firstOf s)).1 (readS (secondOf s)).1=true/\text (readS (firstOf s)).1 (readS (secondOf s)).1=s
 then some ((readS (firstOf s)).1,(readS (secondOf s)).1) else none
theorem DR {n:Int} (h:n.natAbs<=1000000):readS (itoa n)=(n,true):=by
 unfold readS
 rw [XZ 32 (by decide) (by decide) n (by omega)]
theorem OV {n:Int} (h0:0<=n) (h:n.natAbs<=1000000):readS (43 :: itoa n)=(n,true):=by
 unfold readS
 rw [parse_plus 32 (by decide) (by decide) n h0 (by omega)]
theorem DT (l:List UInt8):(l++[105]).getLast?=some 105:=by simp
theorem dropLast_i (l:List UInt8):(l++[105]).dropLast=l:=by simp
theorem IZ (n:Int):(itoa n).getLast?≠some 105:=by
 have h:∃u,(itoa n).getLast?=(decDigits u).getLast?:=by
  by_cases hn:n<0
  · refine ⟨n.natAbs,?_⟩
    rw [itoa_neg hn]
    cases hd:decDigits n.natAbs with
    | nil=>exact absurd hd (decDigits_ne _)
    | cons c r=>simp
  · exact ⟨n.toNat,by rw [itoa_nonneg (by omega)]⟩
 obtain ⟨u,hu⟩:=h
 rw [hu]
 intro h
 have:=decDigits_dig u 105 (List.mem_of_getLast? h)
 revert this;decide
def tail (b:Int):List UInt8:=if b=1 then [] else if b=-1 then [45] else itoa b
theorem TV (b:Int):sec b=tail b++[105]:=by unfold sec tail;split <;> (try split) <;> simp
theorem itoa_one:itoa 1=[49]:=by decide+kernel
theorem itoa_none:itoa (-1)=[45,49]:=by decide+kernel
theorem itoa_zero:itoa 0=[48]:=by decide+kernel
theorem KC (a b:Int):(b=0/\text a b=itoa a)\/(b≠0/\a=0/\text a b=tail b++[105])\/(0<b/\a≠0/\text a b=(itoa a++43 :: tail b)++[105])\/(b<0/\a≠0/\text a b=(itoa a++tail b)++[105]):=by
 unfold text
 by_cases hb:b=0
 · exact .inl ⟨hb,by rw [if_pos hb]⟩
 · rw [if_neg hb]
   by_cases ha:a=0
   · exact .inr (.inl ⟨hb,ha,by rw [if_pos ha,TV]⟩)
   · rw [if_neg ha]
     by_cases hp:0<b
     · exact .inr (.inr (.inl ⟨hp,ha,by rw [if_pos hp,TV];simp⟩))
     · exact .inr (.inr (.inr ⟨by omega,ha,by rw [if_neg hp,TV];simp⟩))
theorem Hz {b:Int} (h:b<0) (l:List UInt8):lastW isSign (l++tail b)=l.length:=by
 unfold tail
 rw [if_neg (by omega)]
 split
 · rw [lastW_snoc];rfl
 · rw [itoa_neg h,show l++45 :: decDigits b.natAbs=(l++[45])++decDigits b.natAbs by simp,lastW_append_none _ _ _ (IG _),lastW_snoc];rfl
theorem Ia {b:Int} (h:0<b) (l:List UInt8):lastW isSign (l++43 :: tail b)=l.length:=by
 unfold tail
 split
 · rw [lastW_snoc];rfl
 · rw [if_neg (by omega)];exact Aal l b (by omega)
theorem NV (b:Int):(max (lastW isSign (tail b)) 0).toNat=0:=by
 unfold tail
 split
 · rfl
 · split
   · rfl
   · exact TU b
theorem QW {b:Int} (hb0:b≠0) (h:b.natAbs<=1000000):readS (if tail b=[]\/tail b=[43]\/tail b=[45] then tail b++[49] else tail b)=(b,true):=by
 unfold tail
 by_cases h1:b=1
 · subst h1;simp only [if_true,true_or,List.nil_append];rw [<-itoa_one];exact DR (by decide)
 · rw [if_neg h1]
   by_cases h2:b=-1
   · subst h2;simp only [if_true,or_true];rw [show ([45]:List UInt8)++[49]=itoa (-1) from itoa_none.symm];exact DR (by decide)
   · rw [if_neg h2]
     have A0:¬(itoa b=[]\/itoa b=[43]\/itoa b=[45]):=by
      rintro (e | e | e)
      · exact Fg b e
      · by_cases hn:b<0
        · rw [itoa_neg hn] at e;injection e with e1;revert e1;decide
        · rw [itoa_nonneg (by omega)] at e
          have:=decDigits_dig b.toNat 43 (by rw [e];simp)
          revert this;decide
      · by_cases hn:b<0
        · rw [itoa_neg hn] at e;injection e with _ e2;exact decDigits_ne _ e2
        · rw [itoa_nonneg (by omega)] at e
          have:=decDigits_dig b.toNat 45 (by rw [e];simp)
          revert this;decide
     rw [if_neg A0]
     exact DR h
theorem Qe {b:Int} (hb0:0<b) (h:b.natAbs<=1000000):readS (if 43 :: tail b=[]\/43 :: tail b=[43]\/43 :: tail b=[45] then 43 :: tail b++[49] else 43 :: tail b)=(b,true):=by
 unfold tail
 by_cases h1:b=1
 · subst h1
   simp only [if_true,true_or,or_true]
   rw [show (43:UInt8) :: []++[49]=43 :: itoa 1 by rw [itoa_one];rfl]
   exact OV (by decide) (by decide)
 · rw [if_neg h1,if_neg (show ¬b=-1 by omega)]
   have A0:¬(43 :: itoa b=[]\/43 :: itoa b=[43]\/43 :: itoa b=[45]):=by
    rintro (e | e | e)
    · cases e
    · injection e with _ e2;exact Fg _ e2
    · injection e with e1 _;revert e1;decide
   rw [if_neg A0]
   exact OV (by omega) h
theorem VT {a b:Int} (h:inR a b=true):parseP (text a b)=some (a,b):=by
 have hr:a.natAbs<=1000000/\b.natAbs<=1000000:=of_decide_eq_true h
 have key:readS (firstOf (text a b))=(a,true)/\readS (secondOf (text a b))=(b,true):=by
  rcases KC a b with ⟨hb,e⟩ | ⟨hb,ha,e⟩ | ⟨hb,ha,e⟩ | ⟨hb,ha,e⟩
  · rw [e]
    unfold firstOf secondOf
    rw [if_neg (IZ a),if_neg (IZ a)]
    refine ⟨DR hr.1,?_⟩
    rw [hb,<-itoa_zero];exact DR (by decide)
  · rw [e]
    unfold firstOf secondOf bareSecond cutAt
    simp only [DT,dropLast_i,if_true,NV,List.take_zero,List.drop_zero]
    refine ⟨?_,QW hb hr.2⟩
    rw [ha,<-itoa_zero];exact DR (by decide)
  · rw [e]
    unfold firstOf secondOf bareSecond cutAt
    simp only [DT,dropLast_i,if_true,Ia hb]
    have hc:(max ((itoa a).length:Int) 0).toNat=(itoa a).length:=by omega
    rw [hc,List.take_left,List.drop_left,if_neg (Fg a)]
    exact ⟨DR hr.1,Qe hb hr.2⟩
  · rw [e]
    unfold firstOf secondOf bareSecond cutAt
    simp only [DT,dropLast_i,if_true,Hz hb]
    have hc:(max ((itoa a).length:Int) 0).toNat=(itoa a).length:=by omega
    rw [hc,List.take_left,List.drop_left,if_neg (Fg a)]
    exact ⟨DR hr.1,QW (by omega) hr.2⟩
 unfold parseP
 rw [key.1,key.2,if_pos ⟨rfl,rfl,h,rfl⟩]
theorem parseP_some {s:List UInt8} {a b:Int}:parseP s=some (a,b)↔inR a b=true/\text a b=s:=by
 constructor
 · intro h
   unfold parseP at h
   split at h
   · rename_i hc
     obtain ⟨_,_,h3,h4⟩:=hc
     have h5:=Option.some.inj h
     rw [Prod.mk.injEq] at h5
     rw [h5.1,h5.2] at h3 h4
     exact ⟨h3,h4⟩
   · cases h
 · rintro ⟨h1,rfl⟩;exact VT h1
def bare (l:List UInt8):List UInt8:=match l with | []=>[] | c :: r=>if isSign c then r else l
def numS (l:List UInt8):Option Int:=
 if 1<=(bare l).length/\(bare l).length<=9/\(bare l).all isDig=true then some (if l.head?=some 45 then -(valFrom 0 (bare l):Int) else valFrom 0 (bare l)) else none
def JI (s:List UInt8):Option (Int × Int):=
 let at_:=cutAt s
 let first:=if 0<at_ then numS (s.take at_) else some 0
 let b:=(s.take (s.length - 1)).drop at_
 let A0:=if at_<s.length then (if b=[]\/b=[43] then some 1 else if b=[45] then some (-1) else numS b) else some 0
 match first,A0 with
 | some x,some y=>if inR x y=true/\text x y=s then some (x,y) else none
 | _,_=>none
theorem nDigits_le:∀(k u:Nat),u<10 ^ (k+1)->nDigits u<=k+1
 | 0,u,h=>by rw [nDigits_small (by simpa using h)];omega
 | k+1,u,h=>by
  by_cases hs:u<10
  · rw [nDigits_small hs];omega
  · rw [nDigits_big hs]
    rw [Nat.pow_succ] at h
    have:=nDigits_le k (u / 10) (by omega)
    omega
theorem Qf {u:Nat} (h:u<=1000000):(decDigits u).length<=9:=by
 rw [decDigits_length]
 exact nDigits_le 8 u (by omega)
theorem itoa_len {n:Int} (h:n.natAbs<10000000000000000000):(itoa n).length<=20:=by
 have hd:∀u,u<10000000000000000000->(decDigits u).length<=19:=fun u hu=>by
  rw [decDigits_length];exact nDigits_le 18 u (by omega)
 unfold itoa
 split
 · have:=hd n.natAbs h;simp only [List.length_cons];omega
 · have:=hd n.toNat (by omega);omega
theorem sec_len {b:Int} (h:b.natAbs<=1000000):(sec b).length<=21:=by
 have:=itoa_len (n:=b) (by omega)
 unfold sec
 split
 · decide
 · split
   · decide
   · rw [List.length_append,List.length_singleton];omega
theorem dec_pos (u:Nat):1<=(decDigits u).length:=by
 rw [decDigits_length]
 exact nDigits_pos u
theorem dec_all (u:Nat):(decDigits u).all isDig=true:=by
 rw [List.all_eq_true]
 intro c hc
 unfold isDig
 exact decide_eq_true (decDigits_dig u c hc)
theorem Ac8 (u:Nat):bare (decDigits u)=decDigits u:=by
 cases hd:decDigits u with
 | nil=>rfl
 | cons c r=>
  have:=IG u c (by rw [hd];simp)
  unfold bare
  simp only
  rw [this]
  rfl
theorem head_dec (u:Nat):(decDigits u).head?≠some 45:=by
 intro h
 have:=decDigits_dig u 45 (List.mem_of_mem_head? h)
 revert this;decide
theorem Ja {n:Int} (h:n.natAbs<=1000000):numS (itoa n)=some n:=by
 unfold numS
 by_cases hn:n<0
 · rw [itoa_neg hn]
   have hb:bare (45 :: decDigits n.natAbs)=decDigits n.natAbs:=rfl
   rw [hb,if_pos ⟨dec_pos _,Qf h,dec_all _⟩,valFrom_dec]
   simp only [List.head?_cons,if_true]
   congr 1;omega
 · rw [itoa_nonneg (by omega),Ac8,if_pos ⟨dec_pos _,Qf (by omega),dec_all _⟩,valFrom_dec,if_neg (head_dec _)]
   congr 1;omega
theorem Aam {n:Int} (h0:0<=n) (h:n.natAbs<=1000000):numS (43 :: itoa n)=some n:=by
 unfold numS
 rw [itoa_nonneg h0]
 have hb:bare (43 :: decDigits n.toNat)=decDigits n.toNat:=rfl
 rw [hb,if_pos ⟨dec_pos _,Qf (by omega),dec_all _⟩,valFrom_dec]
 rw [if_neg (show ¬(43 :: decDigits n.toNat).head?=some 45 by simp)]
 congr 1;omega
theorem TW {b:Int} (hb0:b≠0) (h:b.natAbs<=1000000):(if tail b=[]\/tail b=[43] then some 1 else if tail b=[45] then some (-1) else numS (tail b))=some b:=by
 unfold tail
 by_cases h1:b=1
 · subst h1;simp
 · rw [if_neg h1]
   by_cases h2:b=-1
   · subst h2;simp
   · rw [if_neg h2]
     have A0:¬(itoa b=[]\/itoa b=[43])/\¬itoa b=[45]:=by
      refine ⟨?_,?_⟩
      · rintro (e | e)
        · exact Fg b e
        · by_cases hn:b<0
          · rw [itoa_neg hn] at e;injection e with e1;revert e1;decide
          · rw [itoa_nonneg (by omega)] at e
            have:=decDigits_dig b.toNat 43 (by rw [e];simp)
            revert this;decide
      · intro e
        by_cases hn:b<0
        · rw [itoa_neg hn] at e;injection e with _ e2;exact decDigits_ne _ e2
        · rw [itoa_nonneg (by omega)] at e
          have:=decDigits_dig b.toNat 45 (by rw [e];simp)
          revert this;decide
     rw [if_neg A0.1,if_neg A0.2]
     exact Ja h
theorem Sl {b:Int} (hb0:0<b) (h:b.natAbs<=1000000):(if 43 :: tail b=[]\/43 :: tail b=[43] then some 1 else if 43 :: tail b=[45] then some (-1) else numS (43 :: tail b))=some b:=by
 unfold tail
 by_cases h1:b=1
 · subst h1;simp
 · rw [if_neg h1,if_neg (show ¬b=-1 by omega)]
   have h2:¬(43 :: itoa b=[]\/43 :: itoa b=[43]):=by
    rintro (e | e)
    · cases e
    · injection e with _ e2;exact Fg _ e2
   have h3:¬43 :: itoa b=[45]:=by
    intro e;injection e with e1 _;revert e1;decide
   rw [if_neg h2,if_neg h3]
   exact Aam (by omega) h
theorem Ho (l:List UInt8) (k:Nat) (hk:k<=l.length):(l++[105]).take ((l++[105]).length - 1)=l/\(l++[105]).take k=l.take k:=by
 constructor
 · simp
 · rw [List.take_append_of_le_length hk]
theorem VU {a b:Int} (h:inR a b=true):JI (text a b)=some (a,b):=by
 have hr:a.natAbs<=1000000/\b.natAbs<=1000000:=of_decide_eq_true h
 have fin:∀(x y:Option Int),x=some a->y=some b->(match x,y with
   | some x,some y=>if inR x y=true/\text x y=text a b then some (x,y) else none
   | _,_=>none)=some (a,b):=by
  rintro _ _ rfl rfl
  simp only
  rw [if_pos ⟨h,trivial⟩]
 unfold JI
 refine fin _ _ ?_ ?_
 · rcases KC a b with ⟨hb,e⟩ | ⟨hb,ha,e⟩ | ⟨hb,ha,e⟩ | ⟨hb,ha,e⟩
   · rw [e]
     unfold cutAt
     rw [if_neg (IZ a),if_pos (List.length_pos_iff.2 (Fg a)),List.take_length]
     exact Ja hr.1
   · rw [e]
     unfold cutAt
     simp only [DT,dropLast_i,if_true,NV]
     rw [ha];rfl
   · rw [e]
     unfold cutAt
     simp only [DT,dropLast_i,if_true,Ia hb]
     have hc:(max ((itoa a).length:Int) 0).toNat=(itoa a).length:=by omega
     rw [hc,if_pos (List.length_pos_iff.2 (Fg a)),(Ho _ _ (by simp)).2,List.take_left]
     exact Ja hr.1
   · rw [e]
     unfold cutAt
     simp only [DT,dropLast_i,if_true,Hz hb]
     have hc:(max ((itoa a).length:Int) 0).toNat=(itoa a).length:=by omega
     rw [hc,if_pos (List.length_pos_iff.2 (Fg a)),(Ho _ _ (by simp)).2,List.take_left]
     exact Ja hr.1
 · rcases KC a b with ⟨hb,e⟩ | ⟨hb,ha,e⟩ | ⟨hb,ha,e⟩ | ⟨hb,ha,e⟩
   · rw [e]
     unfold cutAt
     rw [if_neg (IZ a),if_neg (Nat.lt_irrefl _),hb]
   · rw [e]
     unfold cutAt
     simp only [DT,dropLast_i,if_true,NV,List.drop_zero]
     rw [if_pos (by simp),(Ho _ 0 (by simp)).1]
     exact TW hb hr.2
   · rw [e]
     unfold cutAt
     simp only [DT,dropLast_i,if_true,Ia hb]
     have hc:(max ((itoa a).length:Int) 0).toNat=(itoa a).length:=by omega
     rw [hc,if_pos (by simp),(Ho _ 0 (by simp)).1,List.drop_left]
     exact Sl hb hr.2
   · rw [e]
     unfold cutAt
     simp only [DT,dropLast_i,if_true,Hz hb]
     have hc:(max ((itoa a).length:Int) 0).toNat=(itoa a).length:=by omega
     rw [hc,if_pos (by simp),(Ho _ 0 (by simp)).1,List.drop_left]
     exact TW (by omega) hr.2
theorem TX {s:List UInt8} {a b:Int} (h:JI s=some (a,b)):inR a b=true/\text a b=s:=by
 unfold JI at h
 simp only at h
 split at h
 · split at h
   · rename_i hc
     have h5:=Option.some.inj h
     rw [Prod.mk.injEq] at h5
     rw [h5.1,h5.2] at hc
     exact hc
   · cases h
 · cases h
theorem take_snoc (s:ByteArray) (k:Nat) (h:k<s.size):s.data.toList.take (k+1)=s.data.toList.take k++[s[k]]:=by
 rw [List.take_succ_eq_append_getElem (by simpa using h)];rfl
theorem valFrom_snoc (l:List UInt8) (c:UInt8):valFrom 0 (l++[c])=valFrom 0 l*10+(c.toNat - 48):=by
 rw [JH];rfl
theorem valFrom_lt (l:List UInt8) (h:l.all isDig=true):valFrom 0 l<10 ^ l.length:=by
 suffices hs:∀(l:List UInt8) acc,l.all isDig=true->valFrom acc l<(acc+1)*10 ^ l.length by
  have:=hs l 0 h;simpa using this
 intro l
 induction l with
 | nil=>intro acc _;show acc<_;simp
 | cons c r ih=>
  intro acc hd
  rw [List.all_cons,Bool.and_eq_true] at hd
  have h1:48<=c.toNat/\c.toNat<=57:=of_decide_eq_true hd.1
  have h2:=ih (acc*10+(c.toNat - 48)) hd.2
  show valFrom (acc*10+(c.toNat - 48)) r<_
  rw [List.length_cons,Nat.pow_succ]
  have h3:(acc*10+(c.toNat - 48)+1)*10 ^ r.length<=((acc+1)*10)*10 ^ r.length:=Nat.mul_le_mul_right _ (by omega)
  have h4:(acc+1)*(10 ^ r.length*10)=((acc+1)*10)*10 ^ r.length:=by rw [Nat.mul_assoc,Nat.mul_comm 10 (10 ^ r.length)]
  omega
def numV (l:List UInt8):Int:=(numS l).getD 0
def numOk (l:List UInt8):Bool:=(numS l).isSome
theorem numS_yes {l u:List UInt8} (hb:bare l=u) (h1:1<=u.length) (h9:u.length<=9) (hd:u.all isDig=true):numS l=some (if l.head?=some 45 then -(valFrom 0 u:Int) else valFrom 0 u):=by
 subst hb;unfold numS;rw [if_pos ⟨h1,h9,hd⟩]
theorem numS_no {l u:List UInt8} (hb:bare l=u) (h:u.length<1\/9<u.length\/u.all isDig=false):numS l=none:=by
 subst hb;unfold numS;rw [if_neg]
 rintro ⟨h1,h2,h3⟩
 rcases h with h | h | h
 · omega
 · omega
 · rw [h3] at h;cases h
theorem numV_le (l:List UInt8):(numV l).natAbs<=1000000000:=by
 unfold numV numS
 split
 · rename_i h
   have h1:=valFrom_lt _ h.2.2
   have h2:10 ^ (bare l).length<=10 ^ 9:=Nat.pow_le_pow_right (by decide) h.2.1
   simp only [Option.getD_some]
   split <;> omega
 · simp
theorem parseR_eq (s:List UInt8):JI s=parseP s:=by
 cases hr:JI s with
 | some x=>
  obtain ⟨a,b⟩:=x
  exact (parseP_some.2 (TX hr)).symm
 | none=>
  cases hp:parseP s with
  | none=>rfl
  | some x=>
   obtain ⟨a,b⟩:=x
   obtain ⟨h1,h2⟩:=parseP_some.1 hp
   rw [<-h2,VU h1] at hr
   cases hr
end Go.Proofs.YtgngjfjaelgaeaaGreatDoor.PhS
namespace Go.Proofs.YtgngjfjaelgaeaaGreatDoor.Fl
open Ieee
abbrev dbl:Format:=Ieee.double
theorem LO (n k:Nat) (h:n≠0):(n*2 ^ k).log2=n.log2+k:=by
 induction k with
 | zero=>simp
 | succ k ih=>
  rw [Nat.pow_succ,<-Nat.mul_assoc,Nat.mul_comm (n*2 ^ k) 2,Nat.log2_two_mul (by
   have:0<2 ^ k:=Nat.two_pow_pos k
   exact Nat.mul_ne_zero h (by omega)),ih]
  omega
def EG (N:Nat):Nat:=if N=0 then 0 else (N.log2+1022)*2 ^ 52+N*2 ^ (52 - N.log2)
theorem TZ {N:Nat} (h:N≠0):EG N=(N.log2+1022)*2 ^ 52+N*2 ^ (52 - N.log2):=by unfold EG;rw [if_neg h]
theorem Im {N:Nat} (h:N<2 ^ 53) (h0:N≠0):N.log2<=52:=by
 have:=(Nat.log2_lt h0).2 h
 omega
theorem Jz {N:Nat} (h:N<2 ^ 53) (h0:N≠0):2 ^ 52<=N*2 ^ (52 - N.log2)/\N*2 ^ (52 - N.log2)<2 ^ 53:=by
 have hl:=Im h h0
 have h1:=Nat.log2_self_le h0
 have h2:N<2 ^ (N.log2+1):=Nat.lt_log2_self
 constructor
 · calc 2 ^ 52=2 ^ (N.log2+(52 - N.log2)):=by rw [Nat.add_sub_cancel' hl]
    _=2 ^ N.log2*2 ^ (52 - N.log2):=Nat.pow_add ..
    _<=N*2 ^ (52 - N.log2):=Nat.mul_le_mul_right _ h1
 · calc N*2 ^ (52 - N.log2)<2 ^ (N.log2+1)*2 ^ (52 - N.log2):=Nat.mul_lt_mul_of_pos_right h2 (Nat.two_pow_pos _)
    _=2 ^ (N.log2+1+(52 - N.log2)):=(Nat.pow_add ..).symm
    _=2 ^ 53:=by rw [show N.log2+1+(52 - N.log2)=53 by omega]
theorem NW (A0:Toward) (s:Bool) (n:Nat):A0.cut s n 0=n:=by
 unfold Toward.cut
 simp only [Nat.zero_le,Nat.min_eq_left,Nat.shiftLeft_zero,Nat.div_one,Nat.mod_one]
 cases A0 <;> simp
theorem LP (A0:Toward) (s:Bool) (n k:Nat) (hn:n≠0):A0.cut s (n*2 ^ k) k=n:=by
 unfold Toward.cut
 have hl:(n*2 ^ k).log2=n.log2+k:=LO n k hn
 have hm:min k ((n*2 ^ k).log2+2)=k:=by rw [hl];omega
 have hp:0<2 ^ k:=Nat.two_pow_pos k
 simp only [hm,Nat.one_shiftLeft,Nat.mul_div_cancel _ hp,Nat.mul_mod_left]
 have h2:(2 ^ k==2*0)=false:=by simp
 cases A0 <;> simp
theorem FX (s:Bool) (N k:Nat) (h:N<2 ^ 53) (h0:N≠0):dbl.nearest s (N*2 ^ k) (-(k:Int))=dbl.word s (EG N):=by
 have hl:=Im h h0
 have hm:=Jz h h0
 have hp:0<2 ^ k:=Nat.two_pow_pos k
 have A5:N*2 ^ k≠0:=Nat.mul_ne_zero h0 (by omega)
 unfold Format.nearest
 rw [if_neg A5]
 have A3:dbl.leastPlace=-1074:=by decide
 have A1:dbl.binade=2 ^ 52:=rfl
 have A2:dbl.infRung=2047*2 ^ 52:=by decide
 have A4:dbl.fractionBits=52:=rfl
 dsimp only
 rw [LO N k h0,A3,A1,A2,A4]
 have A0:max (-(k:Int)+((N.log2+k:Nat):Int) - ((52:Nat):Int)) (-1074)=(N.log2:Int) - 52:=by omega
 rw [A0]
 have e1:((N.log2:Int) - 52 - -1074).toNat=N.log2+1022:=by omega
 rw [e1]
 have hcut:Toward.even.cut s ((N*2 ^ k)<<<(-(k:Int) - ((N.log2:Int) - 52)).toNat) ((N.log2:Int) - 52 - -(k:Int)).toNat=N*2 ^ (52 - N.log2):=by
  by_cases hk:k+N.log2<=52
  · have a:(-(k:Int) - ((N.log2:Int) - 52)).toNat=52 - N.log2 - k:=by omega
    have b:((N.log2:Int) - 52 - -(k:Int)).toNat=0:=by omega
    rw [a,b,NW,Nat.shiftLeft_eq,Nat.mul_assoc,<-Nat.pow_add,show k+(52 - N.log2 - k)=52 - N.log2 by omega]
  · have a:(-(k:Int) - ((N.log2:Int) - 52)).toNat=0:=by omega
    have b:((N.log2:Int) - 52 - -(k:Int)).toNat=k - (52 - N.log2):=by omega
    rw [a,b,Nat.shiftLeft_zero]
    have:N*2 ^ k=(N*2 ^ (52 - N.log2))*2 ^ (k - (52 - N.log2)):=by
     rw [Nat.mul_assoc,<-Nat.pow_add,show 52 - N.log2+(k - (52 - N.log2))=k by omega]
    rw [this]
    exact LP _ _ _ _ (by omega)
 rw [hcut,TZ h0]
 generalize N*2 ^ (52 - N.log2)=K at*
 rw [Nat.min_eq_left (by omega)]
theorem Fh (s:Bool) (p:Int):dbl.nearest s 0 p=dbl.word s 0:=by unfold Format.nearest;simp
def D (n:Int):Nat:=dbl.word (decide (n<0)) (EG n.natAbs)
theorem D_eq (n:Int) (h:n.natAbs<2 ^ 53):FloatKind.f64.nearest n=D n:=by
 show dbl.nearest (decide (n<0)) n.natAbs 0=_
 by_cases h0:n.natAbs=0
 · have:n=0:=by omega
   subst this
   exact Fh _ _
 · have:=FX (decide (n<0)) n.natAbs 0 h h0
   rw [Int.natCast_zero,Int.neg_zero,Nat.pow_zero,Nat.mul_one] at this
   exact this
def Val (d:Datum) (n:Int):Prop:=∃(s:Bool) (k:Nat),d=.number s (n.natAbs*2 ^ k) (-(k:Int))/\(n≠0->s=decide (n<0))
def Ac9 (d:Datum) (n:Int):Prop:=∃(k:Nat),d=.number (decide (n<0)) (n.natAbs*2 ^ k) (-(k:Int))
theorem Ac9.val {d:Datum} {n:Int} (h:Ac9 d n):Val d n:=by
 obtain ⟨k,rfl⟩:=h;exact ⟨_,k,rfl,fun _=>rfl⟩
theorem Qg {N:Nat} (h:N<2 ^ 53):EG N<2047*2 ^ 52:=by
 unfold EG
 split
 · omega
 · rename_i h0
   have hl:=Im h h0
   have hm:=Jz h h0
   omega
theorem QX (s:Bool) (N:Nat) (h:N<2 ^ 53):∃k:Nat,dbl.read (dbl.word s (EG N))=.number s (N*2 ^ k) (-(k:Int)):=by
 have A5:dbl.signWeight=2 ^ 63:=by decide
 have A1:dbl.binade=2 ^ 52:=rfl
 have A2:dbl.infRung=2047*2 ^ 52:=by decide
 have A6:dbl.leastPlace=-1074:=by decide
 have hr:=Qg h
 have h63:EG N<2 ^ 63:=by omega
 have A3:(dbl.word s (EG N) / dbl.signWeight % 2==1)=s:=by
  unfold Format.word
  rw [A5]
  cases s
  · simp only [Bool.false_eq_true,if_false]
    rw [Nat.div_eq_of_lt h63];rfl
  · simp only [if_true]
    rw [Nat.add_div_left _ (by decide),Nat.div_eq_of_lt h63];rfl
 have A0:dbl.word s (EG N) % dbl.signWeight=EG N:=by
  unfold Format.word
  rw [A5]
  cases s
  · simp only [Bool.false_eq_true,if_false]
    exact Nat.mod_eq_of_lt h63
  · simp only [if_true]
    rw [Nat.add_mod_left];exact Nat.mod_eq_of_lt h63
 unfold Format.read
 dsimp only
 rw [A3,A0,A1,A2,A6]
 by_cases h0:N=0
 · subst h0
   refine ⟨1074,?_⟩
   generalize hp:(2:Nat) ^ 1074=p
   clear hp
   have e:EG 0=0:=rfl
   rw [e,if_pos (Nat.two_pow_pos 52),Nat.zero_mul]
   exact congrArg (Datum.number s 0) (by decide)
 · have hl:=Im h h0
   have hm:=Jz h h0
   have A4:=TZ h0
   refine ⟨52 - N.log2,?_⟩
   generalize N*2 ^ (52 - N.log2)=K at*
   generalize EG N=R at*
   generalize N.log2=L at*
   have hd:R / 2 ^ 52=L+1023:=by omega
   have A7:R % 2 ^ 52=K - 2 ^ 52:=by omega
   rw [if_neg (by omega),if_pos (by omega),hd,A7,show 2 ^ 52+(K - 2 ^ 52)=K by omega,show (-1074:Int)+((L+1023 - 1:Nat):Int)=-((52 - L:Nat):Int) by omega]
theorem read_D (n:Int) (h:n.natAbs<2 ^ 53):Ac9 (dbl.read (D n)) n:=QX _ _ h
theorem Gx {s:Bool} {n:Int} {k u:Nat} (hs:n≠0->s=decide (n<0)) (_hk:k<=u):signed s (n.natAbs*2 ^ k) (u - k)=n*2 ^ u:=by
 unfold signed
 rw [Nat.shiftLeft_eq,Nat.mul_assoc,<-Nat.pow_add,Nat.add_sub_cancel' _hk]
 by_cases h0:n=0
 · subst h0;simp
 · rw [hs h0]
   by_cases hn:n<0
   · simp only [hn,decide_true,if_true]
     have:((n.natAbs*2 ^ u:Nat):Int)=-n*2 ^ u:=by
      push_cast
      rw [show ((n.natAbs:Nat):Int)=-n by omega]
     rw [this];simp [Int.neg_mul]
   · simp only [hn,decide_false,Bool.false_eq_true,if_false]
     push_cast
     rw [show (n.natAbs:Int)=n by omega]
theorem cmp_lt {a b:Int} (h:a<b):compare a b=.lt:=by
 show compareOfLessAndEq a b=_
 simp [compareOfLessAndEq,h]
theorem cmp_gt {a b:Int} (h:b<a):compare a b=.gt:=by
 show compareOfLessAndEq a b=_
 have h1:¬a<b:=by omega
 have h2:¬a=b:=by omega
 simp [compareOfLessAndEq,h1,h2]
theorem Aan {d e:Datum} {a b:Int} (hd:Val d a) (he:Val e b):d.order e=some (compare a b):=by
 obtain ⟨s,k,rfl,hs⟩:=hd
 obtain ⟨t,l,rfl,ht⟩:=he
 have A0:min (-(k:Int)) (-(l:Int))=-((max k l:Nat):Int):=by omega
 show some (compare (signed s (a.natAbs*2 ^ k) (-(k:Int) - min (-(k:Int)) (-(l:Int))).toNat) (signed t (b.natAbs*2 ^ l) (-(l:Int) - min (-(k:Int)) (-(l:Int))).toNat))=_
 rw [A0]
 have e1:(-(k:Int) - -((max k l:Nat):Int)).toNat=max k l - k:=by omega
 have e2:(-(l:Int) - -((max k l:Nat):Int)).toNat=max k l - l:=by omega
 rw [e1,e2,Gx hs (Nat.le_max_left ..),Gx ht (Nat.le_max_right ..)]
 have hp:(0:Int)<2 ^ max k l:=Int.pow_pos (by decide)
 congr 1
 rcases Int.lt_trichotomy a b with h | h | h
 · have:=Int.mul_lt_mul_of_pos_right h hp
   rw [cmp_lt this,cmp_lt h]
 · subst h;simp
 · have:=Int.mul_lt_mul_of_pos_right h hp
   rw [cmp_gt this,cmp_gt h]
theorem Aao {d:Datum} {n:Int} (h:Val d n) (hn:n.natAbs<2 ^ 53):∃s,dbl.write d=dbl.word s (EG n.natAbs)/\(n≠0->s=decide (n<0)):=by
 obtain ⟨s,k,rfl,hs⟩:=h
 refine ⟨s,?_,hs⟩
 show dbl.nearest s (n.natAbs*2 ^ k) (-(k:Int))=_
 by_cases h0:n.natAbs=0
 · rw [h0,Nat.zero_mul];exact Fh _ _
 · exact FX s n.natAbs k hn h0
def IsW (b:Nat) (n:Int):Prop:=∃s,b=dbl.word s (EG n.natAbs)/\(n≠0->s=decide (n<0))
theorem IsW.val {b:Nat} {n:Int} (h:IsW b n) (hn:n.natAbs<2 ^ 53):Val (dbl.read b) n:=by
 obtain ⟨s,rfl,hs⟩:=h
 obtain ⟨k,hk⟩:=QX s n.natAbs hn
 exact ⟨s,k,hk,hs⟩
theorem isW_D (n:Int):IsW (D n) n:=⟨_,rfl,fun _=>rfl⟩
theorem order_W {x y:Nat} {a b:Int} (hx:IsW x a) (hy:IsW y b) (ha:a.natAbs<2 ^ 53) (hb:b.natAbs<2 ^ 53):dbl.order x y=some (compare a b):=Aan (hx.val ha) (hy.val hb)
theorem toInt_val {d:Datum} {n:Int} (h:Val d n):d.toInt .zero=some n:=by
 obtain ⟨s,k,rfl,hs⟩:=h
 unfold Datum.toInt Datum.integral
 have e1:(-(k:Int)).toNat=0:=by omega
 have e2:(- -(k:Int)).toNat=k:=by omega
 simp only [e1,e2,Nat.shiftLeft_zero]
 by_cases h0:n=0
 · subst h0
   have:Toward.zero.cut s (Int.natAbs 0*2 ^ k) k=0:=by
    unfold Toward.cut;simp
   rw [this]
   unfold signed;cases s <;> simp
 · rw [LP _ _ _ _ (by omega)]
   have:=Gx (s:=s) (n:=n) (k:=0) (u:=0) hs (Nat.le_refl _)
   simp only [Nat.pow_zero,Nat.mul_one,Nat.sub_self,Int.pow_zero,Int.mul_one] at this
   rw [this]
theorem Qh {m a:Nat} (h1:2 ^ a<=m) (h2:m<2 ^ (a+1)):m.log2=a:=by
 have hp:0<2 ^ a:=Nat.two_pow_pos a
 have h0:m≠0:=by omega
 have:=(Nat.log2_lt h0).2 h2
 have:=(Nat.le_log2 h0).2 h1
 omega
theorem KD {b:Nat} (hb:b<2 ^ 64) {s:Bool} {m:Nat} {e:Int} (h:dbl.read b=.number s m e):
  m<2 ^ 53/\(-1074<=e)/\(0<=e->2 ^ 52<=m)/\dbl.nearest s m e=b/\(s=decide (2 ^ 63<=b))/\dbl.read (b % 2 ^ 63)=.number false m e:=by
 have A5:dbl.signWeight=2 ^ 63:=by decide
 have A1:dbl.binade=2 ^ 52:=rfl
 have A2:dbl.infRung=2047*2 ^ 52:=by decide
 have A4:dbl.leastPlace=-1074:=by decide
 have A6:dbl.fractionBits=52:=rfl
 have A7:(b / 2 ^ 63 % 2==1)=decide (2 ^ 63<=b):=by
  by_cases hh:2 ^ 63<=b
  · have:b / 2 ^ 63=1:=by omega
    rw [this];simp [hh]
  · have:b / 2 ^ 63=0:=by omega
    rw [this];simp [hh]
 have hw:dbl.word (decide (2 ^ 63<=b)) (b % 2 ^ 63)=b:=by
  unfold Format.word
  rw [A5]
  by_cases hh:2 ^ 63<=b
  · simp only [hh,decide_true,if_true];omega
  · simp only [hh,decide_false,Bool.false_eq_true,if_false];omega
 have hf:((b % 2 ^ 63) / 2 ^ 63 % 2==1)=false:=by
  have:(b % 2 ^ 63) / 2 ^ 63=0:=by omega
  rw [this];rfl
 have A8:b % 2 ^ 63 % 2 ^ 63=b % 2 ^ 63:=by omega
 unfold Format.read at h⊢
 dsimp only at h⊢
 rw [A5,A1,A2,A4,A7] at h
 rw [A5,A1,A2,A4,hf,A8]
 have hr:b % 2 ^ 63<2 ^ 63:=Nat.mod_lt _ (by decide)
 generalize b % 2 ^ 63=r at*
 by_cases h1:r<2 ^ 52
 · rw [if_pos h1] at h
   injection h with e1 e2 e3
   subst e1;subst e2;subst e3
   refine ⟨by omega,by omega,fun h=>absurd h (by decide),?_,rfl,by rw [if_pos h1]⟩
   unfold Format.nearest
   by_cases h0:r=0
   · rw [if_pos h0];rw [<-h0];exact hw
   · rw [if_neg h0]
     dsimp only
     have A3:=(Nat.log2_lt h0).2 h1
     rw [A4,A1,A2,A6]
     have A0:max (-1074+(r.log2:Int) - ((52:Nat):Int)) (-1074)=-1074:=by omega
     rw [A0]
     have e1:((-1074:Int) - -1074).toNat=0:=by decide
     rw [e1,NW,Nat.shiftLeft_zero,Nat.zero_mul,Nat.zero_add,Nat.min_eq_left (by omega)]
     exact hw
 · rw [if_neg h1] at h
   by_cases h2:r<2047*2 ^ 52
   · rw [if_pos h2] at h
     injection h with e1 e2 e3
     subst e1;subst e2;subst e3
     have hq:1<=r / 2 ^ 52:=by omega
     have A3:(2 ^ 52+r % 2 ^ 52).log2=52:=Qh (by omega) (by omega)
     refine ⟨by omega,by omega,fun h=>by omega,?_,rfl,by rw [if_neg h1,if_pos h2]⟩
     unfold Format.nearest
     rw [if_neg (by omega)]
     dsimp only
     rw [A4,A1,A2,A6,A3]
     have A0:max (-1074+((r / 2 ^ 52 - 1:Nat):Int)+((52:Nat):Int) - ((52:Nat):Int)) (-1074)=-1074+((r / 2 ^ 52 - 1:Nat):Int):=by omega
     rw [A0]
     have e1:(-1074+((r / 2 ^ 52 - 1:Nat):Int) - (-1074+((r / 2 ^ 52 - 1:Nat):Int))).toNat=0:=by omega
     have e2:(-1074+((r / 2 ^ 52 - 1:Nat):Int) - -1074).toNat=r / 2 ^ 52 - 1:=by omega
     rw [e1,e2,NW,Nat.shiftLeft_zero]
     have e3:(r / 2 ^ 52 - 1)*2 ^ 52+(2 ^ 52+r % 2 ^ 52)=r:=by omega
     rw [e3,Nat.min_eq_left (by omega)]
     exact hw
   · rw [if_neg h2] at h
     split at h <;> cases h
theorem compare_eq {a b:Int} (h:compare a b=.eq):a=b:=by
 rcases Int.lt_trichotomy a b with h1 | h1 | h1
 · rw [cmp_lt h1] at h;cases h
 · exact h1
 · rw [cmp_gt h1] at h;cases h
theorem compare_self' (a:Int):compare a a=.eq:=by
 show compareOfLessAndEq a a=_
 simp [compareOfLessAndEq]
theorem QY {s:Bool} {m:Nat} {e:Int} {r:Nat} {c:Int} (hr:IsW r c) (hc:c.natAbs<2 ^ 53):
  ∃u:Nat,(0:Int)<2 ^ u/\(e<0->(-e).toNat<=u)/\(Datum.number s m e).order (dbl.read r)=some (compare (signed s m (e+u).toNat) (c*2 ^ u)):=by
 obtain ⟨t,k,hk,ht⟩:=hr.val hc
 rw [hk]
 by_cases he:e< -(k:Int)
 · refine ⟨(-e).toNat,Int.pow_pos (by decide),fun _=>Nat.le_refl _,?_⟩
   show some (compare (signed s m (e - min e (-(k:Int))).toNat) (signed t (c.natAbs*2 ^ k) (-(k:Int) - min e (-(k:Int))).toNat))=_
   have e1:min e (-(k:Int))=e:=by omega
   have e2:(-(k:Int) - e).toNat=(-e).toNat - k:=by omega
   have e3:(e - e).toNat=(e+((-e).toNat:Int)).toNat:=by omega
   rw [e1,e2,e3,Gx ht (by omega)]
 · refine ⟨k,Int.pow_pos (by decide),fun _=>by omega,?_⟩
   show some (compare (signed s m (e - min e (-(k:Int))).toNat) (signed t (c.natAbs*2 ^ k) (-(k:Int) - min e (-(k:Int))).toNat))=_
   have e1:min e (-(k:Int))=-(k:Int):=by omega
   have e2:(-(k:Int) - -(k:Int)).toNat=k - k:=by omega
   have e3:(e - -(k:Int)).toNat=(e+(k:Int)).toNat:=by omega
   rw [e1,e2,e3,Gx ht (Nat.le_refl _)]
theorem AeL {b:Nat} (hb:b<2 ^ 64) {s:Bool} {N j:Nat} {e:Int} (he:e=-(j:Int)) (h:dbl.read b=.number s (N*2 ^ j) e) (hN:N<2 ^ 53) {n:Int} (hn:n.natAbs=N) (hs:n≠0->s=decide (n<0)):IsW b n:=by
 subst he
 obtain ⟨_,_,_,hw,_,_⟩:=KD hb h
 refine ⟨s,?_,hs⟩
 rw [hn,<-hw]
 by_cases h0:N=0
 · subst h0;rw [Nat.zero_mul];exact Fh _ _
 · exact FX s N j hN h0
theorem Aap {b r:Nat} (hb:b<2 ^ 64) {n:Int} (hr:IsW r n) (hn:n.natAbs<2 ^ 53) (h:dbl.order b r=some .eq):IsW b n:=by
 unfold Format.order at h
 cases hd:dbl.read b with
 | nan s t=>rw [hd] at h;cases h
 | infinity s=>
  rw [hd] at h
  obtain ⟨t,k,hk,_⟩:=hr.val hn
  rw [hk] at h
  simp only [Datum.order] at h
  cases s <;> cases h
 | number s m e=>
  rw [hd] at h
  obtain ⟨hm,B2,A8,_,_,_⟩:=KD hb hd
  obtain ⟨u,hu,A9,ho⟩:=QY (s:=s) (m:=m) (e:=e) hr hn
  rw [ho] at h
  have A1:=compare_eq (Option.some.inj h)
  have A0:m*2 ^ (e+u).toNat=n.natAbs*2 ^ u:=by
   have:=congrArg Int.natAbs A1
   rw [Int.natAbs_mul,Int.natAbs_pow] at this
   unfold signed at this
   rw [Nat.shiftLeft_eq] at this
   rw [show (2:Int).natAbs ^ u=2 ^ u from rfl] at this
   cases s
   · simpa only [Bool.false_eq_true,if_false,Int.natAbs_natCast] using this
   · simpa only [if_true,Int.natAbs_neg,Int.natAbs_natCast] using this
  have B0:0<2 ^ u:=Nat.two_pow_pos u
  have A5:e<=0:=by
   rcases Int.lt_or_le 0 e with A2 | h0
   · exfalso
     have h52:=A8 (by omega)
     have e1:(e+(u:Int)).toNat=e.toNat+u:=by omega
     rw [e1,Nat.pow_add,<-Nat.mul_assoc] at A0
     have:=Nat.eq_of_mul_eq_mul_right B0 A0
     have h2:2<=2 ^ e.toNat:=by
      calc 2=2 ^ 1:=rfl
       _<=2 ^ e.toNat:=Nat.pow_le_pow_right (by decide) (by omega)
     have:m*2<=m*2 ^ e.toNat:=Nat.mul_le_mul_left _ h2
     omega
   · exact h0
  obtain ⟨j,hj⟩:∃j:Nat,e=-(j:Int):=⟨(-e).toNat,by omega⟩
  have A7:j<=u:=by
   rcases Nat.eq_zero_or_pos j with h0 | h0
   · omega
   · have:=A9 (by omega);omega
  have A6:m=n.natAbs*2 ^ j:=by
   have e1:(e+(u:Int)).toNat=u - j:=by omega
   rw [e1] at A0
   have e2:n.natAbs*2 ^ u=n.natAbs*2 ^ j*2 ^ (u - j):=by rw [Nat.mul_assoc,<-Nat.pow_add,Nat.add_sub_cancel' A7]
   rw [e2] at A0
   exact Nat.eq_of_mul_eq_mul_right (Nat.two_pow_pos _) A0
  subst A6
  refine AeL hb hj hd hn rfl fun h0=>?_
  have A2:0<n.natAbs*2 ^ j:=Nat.mul_pos (by omega) (Nat.two_pow_pos _)
  have B1:0<n.natAbs*2 ^ j*2 ^ (e+(u:Int)).toNat:=Nat.mul_pos A2 (Nat.two_pow_pos _)
  unfold signed at A1
  rw [Nat.shiftLeft_eq] at A1
  cases s
  · simp only [Bool.false_eq_true,if_false] at A1
    have:¬n<0:=fun A3=>by
     have:=Int.mul_neg_of_neg_of_pos A3 hu
     omega
    simp [this]
  · simp only [if_true] at A1
    have:n<0:=by
     rcases Int.lt_or_le n 0 with A3 | A4
     · exact A3
     · have:=Int.mul_nonneg A4 (Int.le_of_lt hu)
       omega
    simp [this]
theorem QZ {x y:Nat} {n:Int} (hx:IsW x n) (hy:IsW y n) (hn:n.natAbs<2 ^ 53):dbl.order x y=some .eq:=by
 rw [order_W hx hy hn hn,compare_self']
theorem IsW.eq_D {b:Nat} {n:Int} (h:IsW b n) (h0:n≠0\/b<2 ^ 63):b=D n:=by
 obtain ⟨s,rfl,hs⟩:=h
 by_cases hz:n=0
 · subst hz
   cases s
   · rfl
   · exfalso
     rcases h0 with h0 | h0
     · exact h0 rfl
     · revert h0;decide
 · rw [hs hz];rfl
theorem D_lt (n:Int) (hn:n.natAbs<2 ^ 53):D n<2 ^ 64:=by
 have:=Qg hn
 unfold D Format.word
 have A0:dbl.signWeight=2 ^ 63:=by decide
 rw [A0]
 split <;> omega
def numOf (b:Nat):Option Int:=
 match (dbl.read b).toInt .zero with
 | some n=>if n.natAbs<=1000000/\D n=b then some n else none
 | none=>none
theorem numOf_D {n:Int} (h:n.natAbs<=1000000):numOf (D n)=some n:=by
 unfold numOf
 rw [toInt_val (read_D n (by omega)).val]
 simp only
 rw [if_pos ⟨h,trivial⟩]
theorem numOf_some {b:Nat} {n:Int} (h:numOf b=some n):n.natAbs<=1000000/\b=D n:=by
 unfold numOf at h
 split at h
 · split at h
   · rename_i hc
     have:=Option.some.inj h
     subst this
     exact ⟨hc.1,hc.2.symm⟩
   · cases h
 · cases h
theorem D_million:D 1000000=4696837146684686336:=by decide+kernel
theorem D_one:D 1=4607182418800017408:=by decide+kernel
theorem D_minus:D (-1)=13830554455654793216:=by decide+kernel
theorem D_zero:D 0=0:=by decide+kernel
theorem Ua {d:Datum} {n:Int} (h:Val d n):∃s,d.integral .zero=.number s n.natAbs 0/\(n≠0->s=decide (n<0)):=by
 obtain ⟨s,k,rfl,hs⟩:=h
 refine ⟨s,?_,hs⟩
 unfold Datum.integral
 have e1:(-(k:Int)).toNat=0:=by omega
 have e2:(- -(k:Int)).toNat=k:=by omega
 simp only [e1,e2,Nat.shiftLeft_zero]
 by_cases h0:n.natAbs=0
 · rw [h0,Nat.zero_mul]
   congr 1
   unfold Toward.cut;simp
 · rw [LP _ _ _ _ h0]
def whole (b:Nat):Bool:=
 match dbl.read b with
 | .nan ..=>false
 | d=>dbl.order b (dbl.write (d.integral .zero))==some .eq
theorem AdS (s:Bool) (m c j:Nat) (h:m<=c*2 ^ j):Toward.zero.cut s m j<=c:=by
 unfold Toward.cut
 simp only [Bool.toNat_false,Nat.add_zero,Nat.one_shiftLeft]
 rcases Nat.le_total j (m.log2+2) with hj | hj
 · rw [Nat.min_eq_left hj]
   exact Nat.div_le_of_le_mul (by rw [Nat.mul_comm];exact h)
 · rw [Nat.min_eq_right hj]
   have:m<2 ^ (m.log2+2):=by
    have h1:m<2 ^ (m.log2+1):=Nat.lt_log2_self
    have h2:2 ^ (m.log2+1)<=2 ^ (m.log2+2):=Nat.pow_le_pow_right (by decide) (by omega)
    omega
   rw [Nat.div_eq_of_lt this]
   exact Nat.zero_le _
theorem Aaq {b:Nat} (hb:b<2 ^ 64) {s:Bool} {m:Nat} {e:Int} (hr:dbl.read b=.number s m e)
  {u:Nat} (A0:m*2 ^ (e+u).toNat<=1000000*2 ^ u) (hu:e<0->(-e).toNat<=u):
  ∃n:Int,n.natAbs<=1000000/\(Datum.number s m e).toInt .zero=some n/\dbl.write ((Datum.number s m e).integral .zero)=dbl.word s (EG n.natAbs)/\(n≠0->s=decide (n<0)):=by
 obtain ⟨hm,A7,A5,_,_,_⟩:=KD hb hr
 have A6:0<2 ^ u:=Nat.two_pow_pos u
 have A1:e<0:=by
  rcases Int.lt_or_le e 0 with h | h
  · exact h
  · exfalso
    have h52:=A5 h
    have e1:(e+(u:Int)).toNat=e.toNat+u:=by omega
    rw [e1,Nat.pow_add,<-Nat.mul_assoc] at A0
    have:=Nat.le_of_mul_le_mul_right A0 A6
    have h2:1<=2 ^ e.toNat:=Nat.one_le_two_pow
    have:m*1<=m*2 ^ e.toNat:=Nat.mul_le_mul_left _ h2
    omega
 obtain ⟨j,hj⟩:∃j:Nat,e=-(j:Int):=⟨(-e).toNat,by omega⟩
 have A4:j<=u:=by have:=hu A1;omega
 have A3:m<=1000000*2 ^ j:=by
  have e1:(e+(u:Int)).toNat=u - j:=by omega
  have e2:1000000*2 ^ u=1000000*2 ^ j*2 ^ (u - j):=by rw [Nat.mul_assoc,<-Nat.pow_add,Nat.add_sub_cancel' A4]
  rw [e1,e2] at A0
  exact Nat.le_of_mul_le_mul_right A0 (Nat.two_pow_pos _)
 have hN:=AdS s m 1000000 j A3
 have hint:(Datum.number s m e).integral .zero=.number s (Toward.zero.cut s m j) 0:=by
  unfold Datum.integral
  have e1:e.toNat=0:=by omega
  have e2:(-e).toNat=j:=by omega
  simp only [e1,e2,Nat.shiftLeft_zero]
 generalize Toward.zero.cut s m j=N at*
 refine ⟨if s then -(N:Int) else N,by split <;> omega,?_,?_,?_⟩
 · unfold Datum.toInt
   rw [hint]
   simp only [signed,Nat.shiftLeft_zero]
 · rw [hint]
   have A2:(if s then -(N:Int) else (N:Int)).natAbs=N:=by split <;> omega
   rw [A2]
   show dbl.nearest s N 0=_
   by_cases h0:N=0
   · subst h0;exact Fh _ _
   · have:=FX s N 0 (by omega) h0
     rw [Int.natCast_zero,Int.neg_zero,Nat.pow_zero,Nat.mul_one] at this
     exact this
 · intro h0
   cases s
   · simp only [Bool.false_eq_true,if_false] at h0⊢
     have:¬(N:Int)<0:=by omega
     simp [this]
   · simp only [if_true] at h0⊢
     exact (decide_eq_true (show -(N:Int)<0 by omega)).symm
theorem AdT {b:Nat} {s:Bool} (h:dbl.read b=.infinity s):dbl.read (b % 2 ^ 63)=.infinity false:=by
 have A1:dbl.signWeight=2 ^ 63:=by decide
 unfold Format.read at h⊢
 dsimp only at h⊢
 rw [A1] at h⊢
 have A0:b % 2 ^ 63 % 2 ^ 63=b % 2 ^ 63:=by omega
 have hf:((b % 2 ^ 63) / 2 ^ 63 % 2==1)=false:=by
  have:(b % 2 ^ 63) / 2 ^ 63=0:=by omega
  rw [this];rfl
 rw [hf,A0]
 split at h
 · cases h
 · split at h
   · cases h
   · split at h
     · rename_i h1 h2 h3;rw [if_neg h1,if_neg h2,if_pos h3]
     · cases h
theorem part_yes {b:Nat} (hb:b<2 ^ 64) (hw:whole b=true) (ho:dbl.order (b % 2 ^ 63) (D 1000000)=some .lt\/dbl.order (b % 2 ^ 63) (D 1000000)=some .eq)
  (hs:dbl.order b 0≠some .eq\/b<2 ^ 63):∃n,numOf b=some n:=by
 have hD:=isW_D 1000000
 cases hr:dbl.read b with
 | nan s t=>unfold whole at hw;rw [hr] at hw;cases hw
 | infinity s=>
  exfalso
  unfold Format.order at ho
  rw [AdT hr] at ho
  obtain ⟨t,k,hk,_⟩:=hD.val (by decide)
  rw [hk] at ho
  simp only [Datum.order] at ho
  rcases ho with h | h <;> cases h
 | number s m e=>
  obtain ⟨_,_,_,_,_,A0⟩:=KD hb hr
  unfold Format.order at ho
  rw [A0] at ho
  obtain ⟨u,hu,A4,hc⟩:=QY (s:=false) (m:=m) (e:=e) hD (by decide)
  rw [hc] at ho
  have A6:m*2 ^ (e+u).toNat<=1000000*2 ^ u:=by
   have A7:signed false m (e+u).toNat=((m*2 ^ (e+u).toNat:Nat):Int):=by
    unfold signed;rw [Nat.shiftLeft_eq];rfl
   rw [A7] at ho
   have h2:((1000000*2 ^ u:Nat):Int)=1000000*2 ^ u:=by rw [Int.natCast_mul,Int.natCast_pow];rfl
   rw [<-h2] at ho
   rcases ho with h | h
   · rcases Int.lt_trichotomy ((m*2 ^ (e+u).toNat:Nat):Int) ((1000000*2 ^ u:Nat):Int) with h1 | h1 | h1
     · omega
     · omega
     · rw [cmp_gt h1] at h;cases h
   · have:=compare_eq (Option.some.inj h);omega
  obtain ⟨n,hn,_,A3,A8⟩:=Aaq hb hr A6 A4
  have hW:IsW (dbl.word s (EG n.natAbs)) n:=⟨s,rfl,A8⟩
  have A2:dbl.order b (dbl.word s (EG n.natAbs))=some .eq:=by
   unfold whole at hw
   rw [hr] at hw
   rw [<-A3]
   simpa using hw
  have A1:=Aap hb hW (by omega) A2
  refine ⟨n,?_⟩
  have A5:b=D n:=A1.eq_D (by
   by_cases h0:n=0
   · right
     rcases hs with h | h
     · subst h0
       exact absurd (D_zero ▸ QZ A1 (isW_D 0) (by decide)) h
     · exact h
   · exact .inl h0)
  rw [A5]
  exact numOf_D hn
theorem Afj {n:Int} (hn:n.natAbs<2 ^ 53):D n % 2 ^ 63=D n.natAbs:=by
 have hr:=Qg hn
 have A0:dbl.signWeight=2 ^ 63:=by decide
 unfold D Format.word
 rw [A0,show ((n.natAbs:Int)).natAbs=n.natAbs by omega,show decide ((n.natAbs:Int)<0)=false by simp]
 simp only [Bool.false_eq_true,if_false]
 split
 · omega
 · omega
theorem part_num {n:Int} (hn:n.natAbs<=1000000):whole (D n)=true/\(dbl.order (D n % 2 ^ 63) (D 1000000)=some .lt\/dbl.order (D n % 2 ^ 63) (D 1000000)=some .eq)/\(dbl.order (D n) 0≠some .eq\/D n<2 ^ 63):=by
 have hb:n.natAbs<2 ^ 53:=by omega
 have hv:=(read_D n hb).val
 refine ⟨?_,?_,?_⟩
 · unfold whole
   obtain ⟨s,hi,hs⟩:=Ua hv
   obtain ⟨k,hk⟩:=read_D n hb
   rw [hk] at hi⊢
   simp only
   rw [hi]
   have A0:IsW (dbl.write (.number s n.natAbs 0)) n:=by
    obtain ⟨t,ht,A1⟩:=Aao (d:=.number s n.natAbs 0) (n:=n) ⟨s,0,by simp,hs⟩ hb
    exact ⟨t,ht,A1⟩
   rw [QZ (isW_D n) A0 hb]
   rfl
 · rw [Afj hb,order_W (isW_D _) (isW_D _) (by omega) (by decide)]
   rcases Int.lt_trichotomy (n.natAbs:Int) 1000000 with h | h | h
   · left;rw [cmp_lt h]
   · right;rw [h,compare_self']
   · omega
 · by_cases h0:n=0
   · right;subst h0;rw [D_zero];decide
   · left
     rw [<-D_zero,order_W (isW_D _) (isW_D _) hb (by decide)]
     intro h
     exact h0 (compare_eq (Option.some.inj h))
end Go.Proofs.YtgngjfjaelgaeaaGreatDoor.Fl
