/- The walks of the reference's numbers: their texts, what they are read of, how they are held against the program's. Conditions: as stated. -/
import Derived.Deep.RegionHeld3
import Derived.Test.YtgngjfjaelgaeaaGreatDoorKPhi
set_option maxRecDepth 100000
set_option maxHeartbeats 1000000
namespace Go.Proofs.YtgngjfjaelgaeaaGreatDoor
section
open Go.RowKit
def Afz (a b:Int):Value:=.agg #[.int .i64 a,.int .i64 b]
theorem NY (b:Int) (hb:b.natAbs<=1000000) (w:World) (hE:Env w):
  Calls Tryz.prog 193 #[.int .i64 b] w fun e w'=>e=.returned (.string ⟨(PhS.sec b).toArray⟩)/\Below w.heap.size w w':=by
 have hl:=PhS.itoa_len (n:=b) (by omega)
 by_cases h1:b=1
 · subst h1
   go_enter Tryz.func193,Tryz.ntmps193
   go_wp2_with fail
   go_ret
   exact ⟨rfl,Below.refl _ _⟩
 · by_cases h2:b=-1
   · subst h2
     go_enter Tryz.func193,Tryz.ntmps193
     go_wp2_with fail
     go_ret
     exact ⟨rfl,Below.refl _ _⟩
   · have A0:PhS.sec b=Lib.itoa b++[105]:=by unfold PhS.sec;rw [if_neg h1,if_neg h2]
     have HF:=hZ9 A0
     have t1:(b==1)=false:=by simpa using h1
     have t2:(b==-1)=false:=by simpa using h2
     clear A0 h1 h2
     go_enter Tryz.func193,Tryz.ntmps193
     go_wp2_with fail
     refine (JF b (by omega) (by omega) _ hE).mono ?_;rintro e w1 ⟨rfl,A1⟩
     go_wp2_with fail
     go_ret
     exact ⟨by rw [HF.out,<-BF];rfl,A1⟩
theorem Ad3 {w W w':World} {v0 v1:Value} (h0:W.cell? ⟨w.heap.size,0,none⟩=some v0) (h1:W.cell? ⟨w.heap.size,1,none⟩=some v1) (hE:Env W) (hb:Below w.heap.size w W) (h:Below W.heap.size W w'):
  w'.cell? ⟨w.heap.size,0,none⟩=some v0/\w'.cell? ⟨w.heap.size,1,none⟩=some v1/\Env w'/\Below w.heap.size w w':=
 ⟨Ds h (Nat.le_refl _) h0,Ds h (Nat.le_refl _) h1,hE.below h,hb.trans (h.mono hb.size)⟩
theorem Aar {w:World} {v0 v1:Value} {t:TypeId} (hE:Env w):
  (w.alloc (Obj.cells #[v0,v1] t)).drew.cell? ⟨w.heap.size,0,none⟩=some v0/\(w.alloc (Obj.cells #[v0,v1] t)).drew.cell? ⟨w.heap.size,1,none⟩=some v1/\Env (w.alloc (Obj.cells #[v0,v1] t)).drew/\Below w.heap.size w (w.alloc (Obj.cells #[v0,v1] t)).drew:=
 ⟨by simp [go_sem],by simp [go_sem],(hE.alloc _).drew,((Below.refl _ _).alloc (Nat.le_refl _) _).drew⟩
theorem AcA (a b:Int) (ha:a.natAbs<=1000000) (hb:b.natAbs<=1000000) (A1:a≠0) (h0:0<b) (w:World) (hE:Env w):
  Calls Tryz.prog 166 #[.agg #[.int .i64 a,.int .i64 b]] w fun e w'=>e=.returned (.string ⟨(PhS.text a b).toArray⟩)/\Below w.heap.size w w':=by
 have hl:=PhS.itoa_len (n:=a) (by omega)
 have A3:=PhS.sec_len (b:=b) hb
 have t1:(b==0)=false:=by simp;omega
 have t2:(a==0)=false:=by simpa using A1
 have A0:PhS.text a b=(Lib.itoa a++[43])++PhS.sec b:=by unfold PhS.text;rw [if_neg (by omega),if_neg A1,if_pos h0];simp
 have HF:=hZ9 A0
 have z1:¬9223372036854775807<(Lib.itoa a).length+1:=by omega
 have z2:¬9223372036854775807<(Lib.itoa a).length+1+(PhS.sec b).length:=by omega
 clear A0 A1
 go_enter Tryz.func166,Tryz.ntmps166
 go_wp2_with fail
 go_region_held3 (fun w'=>w'.cell? ⟨w.heap.size,0,none⟩=some (.int .i64 a)/\w'.cell? ⟨w.heap.size,1,none⟩=some (.int .i64 b)/\Env w'/\Below w.heap.size w w')
  (first | exact Aar hE | (go_split_ands;exact Ad3 (by assumption) (by assumption) (by assumption) (by assumption) A2) | go_keep)
  (first
    | (go_at_call 184;go_split_ands;refine (JF a (by omega) (by omega) _ ?_).mono ?_;assumption;rintro e w1 ⟨rfl,A2⟩)
    | (go_at_call 193;go_split_ands;refine (NY b hb _ ?_).mono ?_;assumption;rintro e w2 ⟨rfl,A2⟩))
 all_goals go_wp2_with fail
 all_goals go_split_ands
 all_goals go_ret
 all_goals exact ⟨by rw [HF.out,<-BF,<-BF];rfl,by (first | assumption | exact Aa (by assumption) (by assumption))⟩
theorem AcB (a b:Int) (ha:a.natAbs<=1000000) (hb:b.natAbs<=1000000) (A1:a≠0) (h0:b<0) (w:World) (hE:Env w):
  Calls Tryz.prog 166 #[.agg #[.int .i64 a,.int .i64 b]] w fun e w'=>e=.returned (.string ⟨(PhS.text a b).toArray⟩)/\Below w.heap.size w w':=by
 have hl:=PhS.itoa_len (n:=a) (by omega)
 have A3:=PhS.sec_len (b:=b) hb
 have t1:(b==0)=false:=by simp;omega
 have t2:(a==0)=false:=by simpa using A1
 have A0:PhS.text a b=Lib.itoa a++PhS.sec b:=by unfold PhS.text;rw [if_neg (by omega),if_neg A1,if_neg (by omega)]
 have HF:=hZ9 A0
 have z2:¬9223372036854775807<(Lib.itoa a).length+(PhS.sec b).length:=by omega
 clear A0 A1
 go_enter Tryz.func166,Tryz.ntmps166
 go_wp2_with fail
 go_region_held3 (fun w'=>w'.cell? ⟨w.heap.size,0,none⟩=some (.int .i64 a)/\w'.cell? ⟨w.heap.size,1,none⟩=some (.int .i64 b)/\Env w'/\Below w.heap.size w w')
  (first | exact Aar hE | (go_split_ands;exact Ad3 (by assumption) (by assumption) (by assumption) (by assumption) A2) | go_keep)
  (first
    | (go_at_call 184;go_split_ands;refine (JF a (by omega) (by omega) _ ?_).mono ?_;assumption;rintro e w1 ⟨rfl,A2⟩)
    | (go_at_call 193;go_split_ands;refine (NY b hb _ ?_).mono ?_;assumption;rintro e w2 ⟨rfl,A2⟩))
 all_goals go_wp2_with fail
 all_goals go_split_ands
 all_goals go_ret
 all_goals exact ⟨by rw [HF.out,<-BF];rfl,by (first | assumption | exact Aa (by assumption) (by assumption))⟩
theorem Aas (a:Int) (ha:a.natAbs<=1000000) (w:World) (hE:Env w):
  Calls Tryz.prog 166 #[.agg #[.int .i64 a,.int .i64 0]] w fun e w'=>e=.returned (.string ⟨(PhS.text a 0).toArray⟩)/\Below w.heap.size w w':=by
 go_enter Tryz.func166,Tryz.ntmps166
 go_wp2_with fail
 refine (JF a (by omega) (by omega) _ (hE.alloc _)).mono ?_;rintro e w1 ⟨rfl,A0⟩
 go_wp2_with fail
 go_ret
 exact ⟨rfl,Aa ((Below.refl _ _).alloc (Nat.le_refl _) _) A0⟩
theorem VV (b:Int) (hb:b.natAbs<=1000000) (h0:b≠0) (w:World) (hE:Env w):
  Calls Tryz.prog 166 #[.agg #[.int .i64 0,.int .i64 b]] w fun e w'=>e=.returned (.string ⟨(PhS.text 0 b).toArray⟩)/\Below w.heap.size w w':=by
 have t1:(b==0)=false:=by simpa using h0
 have A0:PhS.text 0 b=PhS.sec b:=by unfold PhS.text;rw [if_neg h0,if_pos rfl]
 have HF:=hZ9 A0
 clear A0 h0
 go_enter Tryz.func166,Tryz.ntmps166
 go_wp2_with fail
 refine (NY b hb _ (hE.alloc _)).mono ?_;rintro e w1 ⟨rfl,A1⟩
 go_wp2_with fail
 go_ret
 exact ⟨by rw [HF.out];rfl,Aa ((Below.refl _ _).alloc (Nat.le_refl _) _) A1⟩
theorem Aat (a b:Int) (h:PhS.inR a b=true) (w:World) (hE:Env w):
  Calls Tryz.prog 166 #[.agg #[.int .i64 a,.int .i64 b]] w fun e w'=>e=.returned (.string ⟨(PhS.text a b).toArray⟩)/\Below w.heap.size w w':=by
 have hr:a.natAbs<=1000000/\b.natAbs<=1000000:=of_decide_eq_true h
 obtain ⟨ha,hb⟩:=hr
 by_cases b0:b=0
 · subst b0;exact Aas a ha w hE
 by_cases a0:a=0
 · subst a0;exact VV b hb b0 w hE
 by_cases hp:0<b
 · exact AcA a b ha hb a0 hp w hE
 · exact AcB a b ha hb a0 (by omega) w hE
theorem Ub (a b:Int) (ha:a.natAbs<=9223372036854775807) (hb:b.natAbs<=9223372036854775807) (w:World):
  Calls Tryz.prog 165 #[.agg #[.int .i64 a,.int .i64 b]] w fun e w'=>e=.returned (.bool (PhS.inR a b))/\Below w.heap.size w w':=by
 go_enter Tryz.func165,Tryz.ntmps165
 go_wp2_with fail
 all_goals go_ret
 all_goals refine ⟨Qo ?_,(Below.refl _ _).alloc (Nat.le_refl _) _⟩
 all_goals unfold PhS.inR
 all_goals first | (rw [decide_eq_decide];omega) | (symm;rw [decide_eq_false_iff_not];omega)
end
section
open Go.RowKit
def Qi (u:ByteArray) (n i:Value):Prop:=∃k:Nat,k<=u.size/\i=.int .i64 k/\n=.int .i64 (PhS.valFrom 0 (u.data.toList.take k))/\(u.data.toList.take k).all PhS.isDig=true
def BX (l:List UInt8) (w:World) (e:Ending) (w':World):Prop:=e=.returned (.tuple #[.int .i64 (PhS.numV l),.bool (PhS.numOk l)])/\w=w'
theorem BX.yes {l:List UInt8} {w:World} {v:Int} (h:PhS.numS l=some v):BX l w (.returned (.tuple #[.int .i64 v,.bool true])) w:=by
 refine ⟨?_,rfl⟩;unfold PhS.numV PhS.numOk;rw [h];rfl
theorem BX.no {l:List UInt8} {w:World} (h:PhS.numS l=none):BX l w (.returned (.tuple #[.int .i64 0,.bool false])) w:=by
 refine ⟨?_,rfl⟩;unfold PhS.numV PhS.numOk;rw [h];rfl
theorem NZ {s:ByteArray} (h:0<s.size):∃r,s.data.toList=s[0] :: r:=by
 obtain ⟨⟨l⟩⟩:=s
 cases l with
 | nil=>exact absurd h (by decide)
 | cons c r=>exact ⟨r,rfl⟩
theorem Fj {c:UInt8} {n:Nat} (hn:n<256) (h:(c.toNat:Int)=n):c=UInt8.ofNat n:=by
 apply UInt8.toNat_inj.1
 rw [UInt8.toNat_ofNat'];omega
theorem Jb {s:ByteArray} (h:0<s.size) (hs:(s[0].toNat:Int)=45\/(s[0].toNat:Int)=43):PhS.bare s.data.toList=(s.extract 1 s.size).data.toList:=by
 obtain ⟨r,hr⟩:=NZ h
 rw [Lib.extract_to_end,hr]
 have:PhS.isSign s[0]=true:=by
  rcases hs with h | h
  · rw [Fj (n:=45) (by decide) h];rfl
  · rw [Fj (n:=43) (by decide) h];rfl
 unfold PhS.bare
 simp only
 rw [this];rfl
theorem Rb {s:ByteArray} (h:0<s.size) (h1:¬(s[0].toNat:Int)=45) (h2:¬(s[0].toNat:Int)=43):PhS.bare s.data.toList=s.data.toList:=by
 obtain ⟨r,hr⟩:=NZ h
 rw [hr]
 have:PhS.isSign s[0]=false:=by
  unfold PhS.isSign
  rw [Bool.or_eq_false_iff,beq_eq_false_iff_ne,beq_eq_false_iff_ne]
  exact ⟨fun e=>h2 (by rw [e];rfl),fun e=>h1 (by rw [e];rfl)⟩
 unfold PhS.bare
 simp only
 rw [this];rfl
theorem Gl {s:ByteArray} (h:0<s.size):s.data.toList.head?=some s[0]:=by
 obtain ⟨r,hr⟩:=NZ h
 rw [hr];rfl
theorem II {c:UInt8} (h:48<=(c.toNat:Int)/\(c.toNat:Int)<=57):PhS.isDig c=true:=decide_eq_true (by omega)
theorem JJ {c:UInt8} (h:¬(48<=(c.toNat:Int)/\(c.toNat:Int)<=57)):PhS.isDig c=false:=decide_eq_false (by omega)
theorem JK (u:ByteArray) (k:Nat) (hk:k<u.size) (h:PhS.isDig u[k]=false):u.data.toList.all PhS.isDig=false:=by
 rw [List.all_eq_false]
 exact ⟨u[k],List.getElem_mem (by simpa using hk),by rw [h];simp⟩
theorem GV {k:IntKind} {a b:Int} (h:a=b):Value.int k a=Value.int k b:=by rw [h]
theorem Uc (s:ByteArray) (h0:s.size=0) (w:World):Calls Tryz.prog 164 #[.string s] w (BX s.data.toList w):=by
 have hs:s=ByteArray.empty:=by
  obtain ⟨⟨l⟩⟩:=s
  cases l with
  | nil=>rfl
  | cons c r=>have h1:(c :: r).length=0:=h0;cases h1
 subst hs
 go_enter Tryz.func164,Tryz.ntmps164
 go_wp2_with fail
 go_ret2
 exact BX.no rfl
set_option linter.unusedVariables false in
theorem Yb (s:ByteArray) (h1:2<=s.size) (hm:s.size<=10) (A2:(s[0].toNat:Int)=45) (w:World):
  Calls Tryz.prog 164 #[.string s] w (BX s.data.toList w):=by
 have HB:=hZ9 (Jb (s:=s) (by omega) (.inl A2))
 have HH:s.data.toList.head?=some 45:=by rw [Gl (by omega),Fj (n:=45) (by decide) A2];rfl
 have HH:=hZ9 HH
 go_enter Tryz.func164,Tryz.ntmps164
 go_wp2_with fail
 have A8:(s.extract 1 s.size).size<=9:=by simp;omega
 have A7:1<=(s.extract 1 s.size).size:=by simp;omega
 generalize s.extract 1 s.size=u at*
 clear A2
 go_loop [4,6] (fun n i=>Qi u n i) (fun _ i=>u.size - (intOf i).toNat)
 case atStart=>exact ⟨0,Nat.zero_le _,rfl,rfl,rfl⟩
 case round=>
  obtain ⟨k,hk,rfl,rfl,hd⟩:=hrel
  have hv:PhS.valFrom 0 (u.data.toList.take k)<1000000000:=by
   have:=PhS.valFrom_lt _ hd
   have h2:(u.data.toList.take k).length<=9:=by simp;omega
   have h3:10 ^ (u.data.toList.take k).length<=10 ^ 9:=Nat.pow_le_pow_right (by decide) h2
   omega
  by_cases A5:k<u.size
  · have HT:=hZ9 (PhS.take_snoc u k A5)
    have HD:=hZ9 hd
    clear hd
    generalize A3:PhS.valFrom 0 (u.data.toList.take k)=v at*
    have HV:=hZ9 A3
    clear A3
    by_cases A0:48<=(u[k].toNat:Int)/\(u[k].toNat:Int)<=57
    · have HG:=hZ9 (II A0)
      have HQ:=hZ9 A0
      obtain ⟨d1,d2⟩:=A0
      go_wp2
      go_round
      case rel=>
       refine ⟨k+1,by omega,by go_num,GV ?_,?_⟩
       · rw [HT.out,PhS.valFrom_snoc,HV.out]
         have:=HQ.out
         omega
       · rw [HT.out,List.all_append,HD.out];simp [HG.out]
      case measure=>simp [intOf];omega
    · have A4:=JK u k A5 (JJ A0)
      have HN:=hZ9 (PhS.numS_no HB.out (.inr (.inr A4)))
      clear A4
      go_wp2
      all_goals go_ret2
      all_goals exact BX.no HN.out
  · have A6:k=u.size:=by omega
    have A1:u.data.toList.take k=u.data.toList:=List.take_of_length_le (by simp;omega)
    rw [A1] at hd hv⊢
    have hlen:u.data.toList.length=u.size:=(Lib.size_eq u).symm
    have HY:=hZ9 (PhS.numS_yes HB.out (by omega) (by omega) hd)
    clear A1 hd hlen
    generalize PhS.valFrom 0 u.data.toList=v at*
    subst A6
    go_wp2
    go_ret2
    exact BX.yes (by rw [HY.out];rw [if_pos HH.out])
set_option linter.unusedVariables false in
theorem VW (s:ByteArray) (h1:2<=s.size) (hm:s.size<=10) (A2:(s[0].toNat:Int)=43) (w:World):
  Calls Tryz.prog 164 #[.string s] w (BX s.data.toList w):=by
 have HB:=hZ9 (Jb (s:=s) (by omega) (.inr A2))
 have HH:¬s.data.toList.head?=some 45:=by rw [Gl (by omega),Fj (n:=43) (by decide) A2];decide
 have HH:=hZ9 HH
 go_enter Tryz.func164,Tryz.ntmps164
 go_wp2_with fail
 have A8:(s.extract 1 s.size).size<=9:=by simp;omega
 have A7:1<=(s.extract 1 s.size).size:=by simp;omega
 generalize s.extract 1 s.size=u at*
 clear A2
 go_loop [4,6] (fun n i=>Qi u n i) (fun _ i=>u.size - (intOf i).toNat)
 case atStart=>exact ⟨0,Nat.zero_le _,rfl,rfl,rfl⟩
 case round=>
  obtain ⟨k,hk,rfl,rfl,hd⟩:=hrel
  have hv:PhS.valFrom 0 (u.data.toList.take k)<1000000000:=by
   have:=PhS.valFrom_lt _ hd
   have h2:(u.data.toList.take k).length<=9:=by simp;omega
   have h3:10 ^ (u.data.toList.take k).length<=10 ^ 9:=Nat.pow_le_pow_right (by decide) h2
   omega
  by_cases A4:k<u.size
  · have HT:=hZ9 (PhS.take_snoc u k A4)
    have HD:=hZ9 hd
    clear hd
    generalize A3:PhS.valFrom 0 (u.data.toList.take k)=v at*
    have HV:=hZ9 A3
    clear A3
    by_cases A0:48<=(u[k].toNat:Int)/\(u[k].toNat:Int)<=57
    · have HG:=hZ9 (II A0)
      have HQ:=hZ9 A0
      obtain ⟨d1,d2⟩:=A0
      go_wp2
      go_round
      case rel=>
       refine ⟨k+1,by omega,by go_num,GV ?_,?_⟩
       · rw [HT.out,PhS.valFrom_snoc,HV.out]
         have:=HQ.out
         omega
       · rw [HT.out,List.all_append,HD.out];simp [HG.out]
      case measure=>simp [intOf];omega
    · have A5:=JK u k A4 (JJ A0)
      have HN:=hZ9 (PhS.numS_no HB.out (.inr (.inr A5)))
      clear A5
      go_wp2
      all_goals go_ret2
      all_goals exact BX.no HN.out
  · have A6:k=u.size:=by omega
    have A1:u.data.toList.take k=u.data.toList:=List.take_of_length_le (by simp;omega)
    rw [A1] at hd hv⊢
    have hlen:u.data.toList.length=u.size:=(Lib.size_eq u).symm
    have HY:=hZ9 (PhS.numS_yes HB.out (by omega) (by omega) hd)
    clear A1 hd hlen
    generalize PhS.valFrom 0 u.data.toList=v at*
    subst A6
    go_wp2
    go_ret2
    exact BX.yes (by rw [HY.out];rw [if_neg HH.out])
set_option linter.unusedVariables false in
theorem VX (u:ByteArray) (B0:1<=u.size) (B1:u.size<=9) (A8:((u[0].toNat:Int)==45)=false) (A4:((u[0].toNat:Int)==43)=false) (w:World):
  Calls Tryz.prog 164 #[.string u] w (BX u.data.toList w):=by
 have A2:¬(u[0].toNat:Int)=45:=beq_eq_false_iff_ne.1 A8
 have A6:¬(u[0].toNat:Int)=43:=beq_eq_false_iff_ne.1 A4
 have HB:=hZ9 (Rb (s:=u) (by omega) A2 A6)
 have HH:¬u.data.toList.head?=some 45:=by
  rw [Gl (by omega)]
  intro e
  have e2:=Option.some.inj e
  rw [e2] at A2
  exact A2 rfl
 have HH:=hZ9 HH
 clear A2 A6
 go_enter Tryz.func164,Tryz.ntmps164
 go_wp2_with fail
 clear A8 A4
 go_loop [4,6] (fun n i=>Qi u n i) (fun _ i=>u.size - (intOf i).toNat)
 case atStart=>exact ⟨0,Nat.zero_le _,rfl,rfl,rfl⟩
 case round=>
  obtain ⟨k,hk,rfl,rfl,hd⟩:=hrel
  have hv:PhS.valFrom 0 (u.data.toList.take k)<1000000000:=by
   have:=PhS.valFrom_lt _ hd
   have h2:(u.data.toList.take k).length<=9:=by simp;omega
   have h3:10 ^ (u.data.toList.take k).length<=10 ^ 9:=Nat.pow_le_pow_right (by decide) h2
   omega
  by_cases A7:k<u.size
  · have HT:=hZ9 (PhS.take_snoc u k A7)
    have HD:=hZ9 hd
    clear hd
    generalize A3:PhS.valFrom 0 (u.data.toList.take k)=v at*
    have HV:=hZ9 A3
    clear A3
    by_cases A0:48<=(u[k].toNat:Int)/\(u[k].toNat:Int)<=57
    · have HG:=hZ9 (II A0)
      have HQ:=hZ9 A0
      obtain ⟨d1,d2⟩:=A0
      go_wp2
      go_round
      case rel=>
       refine ⟨k+1,by omega,by go_num,GV ?_,?_⟩
       · rw [HT.out,PhS.valFrom_snoc,HV.out]
         have:=HQ.out
         omega
       · rw [HT.out,List.all_append,HD.out];simp [HG.out]
      case measure=>simp [intOf];omega
    · have A5:=JK u k A7 (JJ A0)
      have HN:=hZ9 (PhS.numS_no HB.out (.inr (.inr A5)))
      clear A5
      go_wp2
      all_goals go_ret2
      all_goals exact BX.no HN.out
  · have A9:k=u.size:=by omega
    have A1:u.data.toList.take k=u.data.toList:=List.take_of_length_le (by simp;omega)
    rw [A1] at hd hv⊢
    have hlen:u.data.toList.length=u.size:=(Lib.size_eq u).symm
    have HY:=hZ9 (PhS.numS_yes HB.out (by omega) (by omega) hd)
    clear A1 hd hlen
    generalize PhS.valFrom 0 u.data.toList=v at*
    subst A9
    go_wp2
    go_ret2
    exact BX.yes (by rw [HY.out];rw [if_neg HH.out])
theorem Qj (s:ByteArray) (h1:0<s.size) (hm:s.size<=9223372036854775807) (hz:s.size<2\/10<s.size) (A0:(s[0].toNat:Int)=45) (w:World):
  Calls Tryz.prog 164 #[.string s] w (BX s.data.toList w):=by
 have HN:=hZ9 (PhS.numS_no (Jb (s:=s) h1 (.inl A0)) (by rw [<-Lib.size_eq];simp only [ByteArray.size_extract];omega))
 rcases hz with hz | hz
 all_goals
  go_enter Tryz.func164,Tryz.ntmps164
  go_wp2_with fail
  go_ret2
  exact BX.no HN.out
theorem OW (s:ByteArray) (h1:0<s.size) (hm:s.size<=9223372036854775807) (hz:s.size<2\/10<s.size) (A0:(s[0].toNat:Int)=43) (w:World):
  Calls Tryz.prog 164 #[.string s] w (BX s.data.toList w):=by
 have HN:=hZ9 (PhS.numS_no (Jb (s:=s) h1 (.inr A0)) (by rw [<-Lib.size_eq];simp only [ByteArray.size_extract];omega))
 rcases hz with hz | hz
 all_goals
  go_enter Tryz.func164,Tryz.ntmps164
  go_wp2_with fail
  go_ret2
  exact BX.no HN.out
theorem OX (s:ByteArray) (h1:9<s.size) (hm:s.size<=9223372036854775807) (A1:((s[0].toNat:Int)==45)=false) (A0:((s[0].toNat:Int)==43)=false) (w:World):
  Calls Tryz.prog 164 #[.string s] w (BX s.data.toList w):=by
 have HN:=hZ9 (PhS.numS_no (Rb (s:=s) (by omega) (beq_eq_false_iff_ne.1 A1) (beq_eq_false_iff_ne.1 A0)) (by rw [<-Lib.size_eq];omega))
 go_enter Tryz.func164,Tryz.ntmps164
 go_wp2_with fail
 go_ret2
 exact BX.no HN.out
theorem Ud (s:ByteArray) (hm:s.size<=9223372036854775807) (w:World):Calls Tryz.prog 164 #[.string s] w (BX s.data.toList w):=by
 by_cases h0:s.size=0
 · exact Uc s h0 w
 have h1:0<s.size:=by omega
 by_cases A1:(s[0].toNat:Int)=45
 · by_cases hz:s.size<2\/10<s.size
   · exact Qj s h1 hm hz A1 w
   · exact Yb s (by omega) (by omega) A1 w
 by_cases A0:(s[0].toNat:Int)=43
 · by_cases hz:s.size<2\/10<s.size
   · exact OW s h1 hm hz A0 w
   · exact VW s (by omega) (by omega) A0 w
 by_cases hz:9<s.size
 · exact OX s hz hm (beq_eq_false_iff_ne.2 A1) (beq_eq_false_iff_ne.2 A0) w
 · exact VX s (by omega) (by omega) (beq_eq_false_iff_ne.2 A1) (beq_eq_false_iff_ne.2 A0) w
end
section
open Go.RowKit
def Cf (l:List UInt8) (w:World) (e:Ending) (w':World):Prop:=
 (match PhS.parseP l with
 | some (a,b)=>e=.returned (.tuple #[.agg #[.int .i64 a,.int .i64 b],.int .i64 0])
 | none=>e=.returned (.tuple #[.agg #[.int .i64 0,.int .i64 0],.int .i64 2]))/\Below w.heap.size w w'
theorem Cf.no {l:List UInt8} {w w':World} (h:PhS.parseP l=none) (hb:Below w.heap.size w w'):Cf l w (.returned (.tuple #[.agg #[.int .i64 0,.int .i64 0],.int .i64 2])) w':=by
 unfold Cf;rw [h];exact ⟨rfl,hb⟩
theorem Cf.yes {l:List UInt8} {a b:Int} {w w':World} (h:PhS.parseP l=some (a,b)) (hb:Below w.heap.size w w'):Cf l w (.returned (.tuple #[.agg #[.int .i64 a,.int .i64 b],.int .i64 0])) w':=by
 unfold Cf;rw [h];exact ⟨rfl,hb⟩
def Qk (s:ByteArray) (v:Value):Prop:=v=.int .i64 (PhS.cutAt s.data.toList)
def AeM (s:ByteArray) (a i:Value):Prop:=∃k:Nat,1<=k/\k<=s.size/\i=.int .i64 k/\a=.int .i64 ((max (PhS.lastW PhS.isSign (s.data.toList.take k)) 0).toNat:Int)
theorem Re {s:ByteArray} (h:0<s.size):s.data.toList.getLast?=some s[s.size - 1]:=by
 obtain ⟨⟨l⟩⟩:=s
 have hl:0<l.length:=h
 show l.getLast?=some (l[l.length - 1])
 rw [List.getLast?_eq_getElem?,List.getElem?_eq_getElem]
theorem Yc {c:UInt8} (h:(c.toNat:Int)=43\/(c.toNat:Int)=45):PhS.isSign c=true:=by
 rcases h with h | h
 · rw [Fj (n:=43) (by decide) h];rfl
 · rw [Fj (n:=45) (by decide) h];rfl
theorem Yd {c:UInt8} (h1:¬(c.toNat:Int)=43) (h2:¬(c.toNat:Int)=45):PhS.isSign c=false:=by
 unfold PhS.isSign
 rw [Bool.or_eq_false_iff,beq_eq_false_iff_ne,beq_eq_false_iff_ne]
 exact ⟨fun e=>h1 (by rw [e];rfl),fun e=>h2 (by rw [e];rfl)⟩
theorem AdU {s:ByteArray} (h:0<s.size) (ci:(s[s.size - 1].toNat:Int)=105):PhS.cutAt s.data.toList=(max (PhS.lastW PhS.isSign s.data.toList) 0).toNat:=by
 unfold PhS.cutAt
 have hg:=Re h
 rw [show s[s.size - 1]=105 from Fj (n:=105) (by decide) ci] at hg
 rw [if_pos hg]
 obtain ⟨ys,hd⟩:=List.getLast?_eq_some_iff.1 hg
 rw [hd,PhS.dropLast_i,PhS.lastW_snoc]
 rfl
theorem AeN (l:List UInt8):PhS.cutAt l<=l.length:=by
 unfold PhS.cutAt
 split
 · have h:=PhS.lastW_lt PhS.isSign l.dropLast
   have h2:l.dropLast.length<=l.length:=by simp
   omega
 · exact Nat.le_refl _
def FP (l:List UInt8):Option Int:=if 0<PhS.cutAt l then PhS.numS (l.take (PhS.cutAt l)) else some 0
def KE (l:List UInt8):List UInt8:=(l.take (l.length - 1)).drop (PhS.cutAt l)
def EE (l:List UInt8):Option Int:=if PhS.cutAt l<l.length then (if KE l=[]\/KE l=[43] then some 1 else if KE l=[45] then some (-1) else PhS.numS (KE l)) else some 0
theorem AcC (l:List UInt8):PhS.parseP l=match FP l,EE l with
 | some x,some y=>if PhS.inR x y=true/\PhS.text x y=l then some (x,y) else none
 | _,_=>none:=(PhS.parseR_eq l).symm
theorem AdV {s:ByteArray} (h:s.size=0\/∃h:0<s.size,¬(s[s.size - 1].toNat:Int)=105):PhS.cutAt s.data.toList=s.size:=by
 unfold PhS.cutAt
 rw [if_neg,<-Lib.size_eq]
 rcases h with h | ⟨h,hn⟩
 · have:s.data.toList=[]:=List.eq_nil_of_length_eq_zero (by rw [<-Lib.size_eq];exact h)
   rw [this];simp
 · rw [Re h]
   intro e
   have e2:=Option.some.inj e
   rw [e2] at hn
   exact hn rfl
def Bo (w wc:World) (x y:Int):Prop:=Below w.heap.size w wc/\Whole wc w.heap.size 184 #[.int .i64 0,.int .i64 0]/\Whole wc (w.heap.size+1) 184 #[.int .i64 x,.int .i64 y]
theorem Bo.made {w:World} {x y:Int}:Bo w ((w.alloc (Obj.cells #[Value.int IntKind.i64 0,Value.int IntKind.i64 0] 184)).alloc (Obj.cells #[Value.int IntKind.i64 x,Value.int IntKind.i64 y] 184)) x y:=by
 refine ⟨((Below.refl _ _).alloc (Nat.le_refl _) _).alloc (by simp) _,(Whole.made w _ _).alloc _,?_⟩
 have:=Whole.made (w.alloc (Obj.cells #[Value.int IntKind.i64 0,Value.int IntKind.i64 0] 184)) 184 #[.int .i64 x,.int .i64 y]
 simpa using this
theorem Bo.facts {w wc:World} {x y:Int} (h:Bo w wc x y):wc.cell? ⟨w.heap.size,0,none⟩=some (.int .i64 0)/\wc.cell? ⟨w.heap.size,1,none⟩=some (.int .i64 0)/\wc.cell? ⟨w.heap.size+1,0,none⟩=some (.int .i64 x)/\wc.cell? ⟨w.heap.size+1,1,none⟩=some (.int .i64 y):=
 ⟨h.2.1.cell 0,h.2.1.cell 1,h.2.2.cell 0,h.2.2.cell 1⟩
theorem Bo.thaw {w wc:World} {x y:Int} (h:Bo w wc x y):wc.frozen? ⟨w.heap.size,0,none⟩=false/\wc.frozen? ⟨w.heap.size,1,none⟩=false/\wc.frozen? ⟨w.heap.size+1,0,none⟩=false/\wc.frozen? ⟨w.heap.size+1,1,none⟩=false:=
 ⟨h.2.1.thaw 0,h.2.1.thaw 1,h.2.2.thaw 0,h.2.2.thaw 1⟩
theorem Bo.call {w wc w':World} {x y:Int} (h:Bo w wc x y) (hb:Below wc.heap.size wc w'):Bo w w' x y:=
 ⟨h.1.trans (hb.mono h.1.size),h.2.1.call hb,h.2.2.call hb⟩
theorem Bo.last {w wc:World} {x y:Int} (h:Bo w wc x y) (a b:Int):(wc.setCell ⟨w.heap.size,0,none⟩ (.int .i64 a)).cell? ⟨w.heap.size,0,none⟩=some (.int .i64 a)/\
  ((wc.setCell ⟨w.heap.size,0,none⟩ (.int .i64 a)).setCell ⟨w.heap.size,1,none⟩ (.int .i64 b)).cell? ⟨w.heap.size,1,none⟩=some (.int .i64 b)/\
  (wc.setCell ⟨w.heap.size,0,none⟩ (.int .i64 a)).frozen? ⟨w.heap.size,1,none⟩=false/\(wc.setCell ⟨w.heap.size,0,none⟩ (.int .i64 a)).cell? ⟨w.heap.size,1,none⟩=some (.int .i64 0):=by
 have h1:=h.2.1.put 0 (.int .i64 a)
 have h2:=h1.put 1 (.int .i64 b)
 exact ⟨h1.cell 0,h2.cell 1,h1.thaw 1,h1.cell 1⟩
theorem Bo.ends {w wc:World} {x y:Int} (h:Bo w wc x y) (a b:Int):Below w.heap.size w ((wc.setCell ⟨w.heap.size,0,none⟩ (.int .i64 a)).setCell ⟨w.heap.size,1,none⟩ (.int .i64 b)):=
 (h.1.setCell (Nat.le_refl _) _).setCell (Nat.le_refl _) _
theorem Bo.second {w wc:World} {x y z:Int} (h:Bo w wc x y):Bo w (wc.setCell ⟨w.heap.size+1,1,none⟩ (.int .i64 z)) x z:=by
 refine ⟨h.1.setCell (by simp) _,h.2.1.other (by simp) _,?_⟩
 have:=h.2.2.put 1 (.int .i64 z)
 simpa using this
theorem AcD {l:List UInt8} {x:Int} (h:FP l=some x):x.natAbs<=1000000000:=by
 unfold FP at h
 split at h
 · have:=PhS.numV_le (l.take (PhS.cutAt l));unfold PhS.numV at this;rw [h] at this;exact this
 · have:=Option.some.inj h;subst this;decide
theorem Aau {l:List UInt8} {x:Int} (h:EE l=some x):x.natAbs<=1000000000:=by
 unfold EE at h
 split at h
 · split at h
   · have:=Option.some.inj h;subst this;decide
   · split at h
     · have:=Option.some.inj h;subst this;decide
     · have:=PhS.numV_le (KE l);unfold PhS.numV at this;rw [h] at this;exact this
 · have:=Option.some.inj h;subst this;decide
theorem AcE {s:ByteArray} {c:Nat} (hc:PhS.cutAt s.data.toList=c):KE s.data.toList=(s.extract c (s.size - 1)).toList:=by
 unfold KE
 rw [hc,Lib.extract_toList,<-Lib.size_eq,List.drop_take]
def AeO (s:ByteArray) (w:World) (ok:Value) (wc:World):Prop:=ok=.bool (FP s.data.toList).isSome/\Bo w wc ((FP s.data.toList).getD 0) 0
def Ql (s:ByteArray) (w:World) (x:Int) (ok:Value) (wc:World):Prop:=ok=.bool (EE s.data.toList).isSome/\Bo w wc x ((EE s.data.toList).getD 0)
theorem Sm (s:ByteArray) (h1:0<s.size) (hm:s.size<=9223372036854775807) (w:World) (hE:Env w):
  Calls Tryz.prog 136 #[.string s] w (Cf s.data.toList w):=by
 go_enter Tryz.func136,Tryz.ntmps136
 go_upto_if 21 with fail
 go_cut [4] (fun a wc=>Qk s a/\wc=w.alloc (Obj.cells #[Value.int IntKind.i64 0,Value.int IntKind.i64 0] 184))
 case first=>
  by_cases ci:(s[s.size - 1].toNat:Int)=105
  · have HC:=hZ9 (AdU h1 ci)
    go_wp2_with fail
    go_loop [4,5] (fun a i=>AeM s a i) (fun _ i=>s.size - (intOf i).toNat)
    case atStart=>
     refine ⟨1,Nat.le_refl _,h1,rfl,?_⟩
     have h2:=PhS.lastW_lt PhS.isSign (s.data.toList.take 1)
     have h3:(s.data.toList.take 1).length<=1:=by simp;omega
     have:(max (PhS.lastW PhS.isSign (s.data.toList.take 1)) 0).toNat=0:=by omega
     rw [this];rfl
    case round=>
     obtain ⟨k,B6,hk,rfl,rfl⟩:=hrel
     by_cases A1:k<s.size
     · have HT:=hZ9 (PhS.take_snoc s k A1)
       have hlen:(s.data.toList.take k).length=k:=by simp;omega
       have HL:=hZ9 hlen
       clear hlen
       generalize A7:(max (PhS.lastW PhS.isSign (s.data.toList.take k)) 0).toNat=v at*
       have HV:=hZ9 A7
       clear A7
       by_cases cs:(s[k].toNat:Int)=43\/(s[k].toNat:Int)=45
       · have HS:=hZ9 (Yc cs)
         rcases cs with cs | cs
         all_goals
          go_wp2
          go_round
          case rel=>
           refine ⟨k+1,by omega,by omega,by go_num,?_⟩
           rw [HT.out,PhS.lastW_snoc,HS.out,if_pos rfl,HL.out]
           exact GV (by omega)
          case measure=>simp [intOf];omega
       · have HS:=hZ9 (Yd (fun h=>cs (.inl h)) (fun h=>cs (.inr h)))
         have B5:((s[k].toNat:Int)==43)=false:=beq_eq_false_iff_ne.2 (fun h=>cs (.inl h))
         have B8:((s[k].toNat:Int)==45)=false:=beq_eq_false_iff_ne.2 (fun h=>cs (.inr h))
         clear cs
         go_wp2
         go_round
         case rel=>
          refine ⟨k+1,by omega,by omega,by go_num,?_⟩
          rw [HT.out,PhS.lastW_snoc,HS.out,if_neg (by decide),HV.out]
         case measure=>simp [intOf];omega
     · have B4:k=s.size:=by omega
       have A4:s.data.toList.take k=s.data.toList:=List.take_of_length_le (by simp;omega)
       have A2:Qk s (.int .i64 ((max (PhS.lastW PhS.isSign (s.data.toList.take k)) 0).toNat:Int)):=by
        unfold Qk;rw [A4,HC.out]
       clear A4 B4
       generalize (max (PhS.lastW PhS.isSign (s.data.toList.take k)) 0).toNat=v at*
       go_wp2
       go_meet
       exact ⟨A2,rfl⟩
  · have A2:Qk s (.int .i64 s.size):=by
     unfold Qk;rw [AdV (.inr ⟨h1,ci⟩)]
    go_wp2
    go_meet
    exact ⟨A2,rfl⟩
 case rest=>
  obtain ⟨ha,rfl⟩:=hcut
  unfold Qk at ha
  subst ha
  have B2:=AeN s.data.toList
  rw [<-Lib.size_eq] at B2
  generalize A9:PhS.cutAt s.data.toList=c at*
  have HC:=hZ9 A9
  clear A9
  go_upto_if 41 with fail
  go_cut [7] (fun ok wc=>AeO s w ok wc)
  case first=>
   by_cases A8:0<c
   · have hf:FP s.data.toList=PhS.numS (s.data.toList.take c):=by
      unfold FP
      rw [HC.out,if_pos A8]
     have HF:=hZ9 hf
     clear hf
     go_wp2_with fail
     refine (Ud (s.extract 0 c) (by simp;omega) _).mono ?_
     rintro e w1 ⟨rfl,rfl⟩
     go_wp2_with fail
     go_meet
     unfold AeO
     rw [HF.out]
     exact ⟨rfl,Bo.made⟩
   · have hf:FP s.data.toList=some 0:=by
      unfold FP
      rw [HC.out,if_neg A8]
     go_wp2_with fail
     go_meet
     exact ⟨by rw [hf];rfl,by rw [hf];exact Bo.made⟩
  case rest=>
   obtain ⟨rfl,hp⟩:=hcut
   have HR:=hZ9 (AcC s.data.toList)
   cases hx:FP s.data.toList with
   | none=>
    rw [hx] at hp
    replace hp:Bo w wc 0 0:=hp
    have A0:PhS.parseP s.data.toList=none:=by rw [HR.out,hx]
    have HN:=hZ9 A0
    have HP:=hZ9 hp
    obtain ⟨f1,f2,f3,f4⟩:=hp.facts
    obtain ⟨g1,g2,g3,g4⟩:=hp.thaw
    obtain ⟨k1,k2,_,_⟩:=hp.last 0 0
    clear hx A0 hp
    go_wp2_with fail
    refine bodyPost_ret (v:=.tuple #[.agg #[.int .i64 0,.int .i64 0],.int .i64 2]) (by simp [results,Tryz.results136,go_sem,k1,k2]) rfl ?_
    exact Cf.no HN.out (HP.out.ends 0 0)
   | some x=>
    rw [hx] at hp
    replace hp:Bo w wc x 0:=hp
    have B7:=AcD hx
    have HX:=hZ9 hx
    clear hx
    go_upto_if 56 with fail
    go_cut [7] (fun ok wd=>Ql s w x ok wd)
    case first=>
     have HP:=hZ9 hp
     obtain ⟨f1,f2,f3,f4⟩:=hp.facts
     obtain ⟨g1,g2,g3,g4⟩:=hp.thaw
     clear hp
     by_cases A1:c<s.size
     · have hb:=AcE (s:=s) HC.out
       have A3:EE s.data.toList=if (s.extract c (s.size - 1)).toList=[]\/(s.extract c (s.size - 1)).toList=[43] then some 1 else if (s.extract c (s.size - 1)).toList=[45] then some (-1) else PhS.numS (s.extract c (s.size - 1)).toList:=by
        unfold EE
        rw [HC.out,<-Lib.size_eq,if_pos A1,hb]
       have HS:=hZ9 A3
       clear A3 hb
       by_cases u0:(s.extract c (s.size - 1)).toList=[]
       · have t0:(s.extract c (s.size - 1)).toList.isEmpty=true:=by rw [u0];rfl
         have HT:=hZ9 u0
         clear u0
         go_wp2_with fail
         go_meet
         unfold Ql
         rw [HS.out,if_pos (.inl HT.out)]
         exact ⟨rfl,HP.out.second⟩
       · have t0:(s.extract c (s.size - 1)).toList.isEmpty=false:=by
          cases hl:(s.extract c (s.size - 1)).toList with
          | nil=>exact absurd hl u0
          | cons a b=>rfl
         by_cases u1:(s.extract c (s.size - 1)).toList=[43]
         · have t1:((s.extract c (s.size - 1)).toList==[43])=true:=by rw [u1];rfl
           have HT:=hZ9 u1
           clear u0 u1
           go_wp2_with fail
           go_meet
           unfold Ql
           rw [HS.out,if_pos (.inr HT.out)]
           exact ⟨rfl,HP.out.second⟩
         · have t1:((s.extract c (s.size - 1)).toList==[43])=false:=beq_eq_false_iff_ne.2 u1
           have HA:=hZ9 (fun h:(s.extract c (s.size - 1)).toList=[]\/(s.extract c (s.size - 1)).toList=[43]=>h.elim u0 u1)
           by_cases u2:(s.extract c (s.size - 1)).toList=[45]
           · have t2:((s.extract c (s.size - 1)).toList==[45])=true:=by rw [u2];rfl
             have HT:=hZ9 u2
             clear u0 u1 u2
             go_wp2_with fail
             go_meet
             unfold Ql
             rw [HS.out,if_neg HA.out,if_pos HT.out]
             exact ⟨rfl,HP.out.second⟩
           · have t2:((s.extract c (s.size - 1)).toList==[45])=false:=beq_eq_false_iff_ne.2 u2
             have HT:=hZ9 u2
             clear u0 u1 u2
             go_wp2_with fail
             refine (Ud (s.extract c (s.size - 1)) (by simp;omega) _).mono ?_
             rintro e w1 ⟨rfl,rfl⟩
             go_wp2_with fail
             go_meet
             unfold Ql
             rw [HS.out,if_neg HA.out,if_neg HT.out,Lib.extract_toList]
             exact ⟨rfl,HP.out.second⟩
     · have A3:EE s.data.toList=some 0:=by
        unfold EE
        rw [HC.out,<-Lib.size_eq,if_neg A1]
       have HS:=hZ9 A3
       clear A3
       go_wp2_with fail
       go_meet
       unfold Ql
       rw [HS.out]
       exact ⟨rfl,HP.out⟩
    case rest=>
     obtain ⟨rfl,hq⟩:=hcut
     cases hy:EE s.data.toList with
     | none=>
      rw [hy] at hq
      replace hq:Bo w wc x 0:=hq
      have A0:PhS.parseP s.data.toList=none:=by rw [HR.out,hy,HX.out]
      have HN:=hZ9 A0
      have HQ:=hZ9 hq
      obtain ⟨f1,f2,f3,f4⟩:=hq.facts
      obtain ⟨g1,g2,g3,g4⟩:=hq.thaw
      obtain ⟨k1,k2,_,_⟩:=hq.last 0 0
      clear hy A0 hq
      go_wp2_with fail
      refine bodyPost_ret (v:=.tuple #[.agg #[.int .i64 0,.int .i64 0],.int .i64 2]) (by simp [results,Tryz.results136,go_sem,k1,k2]) rfl ?_
      exact Cf.no HN.out (HQ.out.ends 0 0)
     | some y=>
      rw [hy] at hq
      replace hq:Bo w wc x y:=hq
      have B9:=Aau hy
      have HY:=hZ9 hy
      have HQ:=hZ9 hq
      obtain ⟨f1,f2,f3,f4⟩:=hq.facts
      clear hy hq
      go_wp2_with fail
      refine (Ub x y (by omega) (by omega) _).mono ?_
      rintro e w1 ⟨rfl,B1⟩
      have hq:=HQ.out.call B1
      clear f1 f2 f3 f4
      obtain ⟨f1,f2,f3,f4⟩:=hq.facts
      have A5:=hZ9 hq
      cases hi:PhS.inR x y with
      | false=>
       have HN:Hid (PhS.parseP s.data.toList=none):=by
        show PhS.parseP s.data.toList=none
        rw [HR.out,HY.out,HX.out]
        simp only
        rw [if_neg (by rw [hi];simp)]
       obtain ⟨g1,g2,g3,g4⟩:=hq.thaw
       obtain ⟨k1,k2,_,_⟩:=hq.last 0 0
       clear hq
       go_wp2_with fail
       refine bodyPost_ret (v:=.tuple #[.agg #[.int .i64 0,.int .i64 0],.int .i64 2]) (by simp [results,Tryz.results136,go_sem,k1,k2]) rfl ?_
       exact Cf.no HN.out (A5.out.ends 0 0)
      | true=>
       clear hq
       go_wp2_with fail
       refine (Aat x y hi _ (hE.below A5.out.1)).mono ?_
       rintro e w2 ⟨rfl,B0⟩
       have hq:=A5.out.call B0
       obtain ⟨f1,f2,f3,f4⟩:=hq.facts
       obtain ⟨g1,g2,g3,g4⟩:=hq.thaw
       have A6:=hZ9 hq
       have A1:=Lib.toList_data s
       by_cases ht:PhS.text x y=s.toList
       · have HN:Hid (PhS.parseP s.data.toList=some (x,y)):=by
          show PhS.parseP s.data.toList=some (x,y)
          rw [HR.out,HY.out,HX.out]
          simp only
          rw [if_pos ⟨hi,ht.trans A1⟩]
         have B3:(PhS.text x y==s.toList)=true:=by rw [ht];exact beq_self_eq_true _
         obtain ⟨k1,k2,_,_⟩:=hq.last x y
         clear ht A1 hq
         go_wp2_with fail
         refine bodyPost_ret (v:=.tuple #[.agg #[.int .i64 x,.int .i64 y],.int .i64 0]) (by simp [results,Tryz.results136,go_sem,k1,k2]) rfl ?_
         exact Cf.yes HN.out (A6.out.ends x y)
       · have HN:Hid (PhS.parseP s.data.toList=none):=by
          show PhS.parseP s.data.toList=none
          rw [HR.out,HY.out,HX.out]
          simp only
          rw [if_neg (fun h=>ht (h.2.trans A1.symm))]
         have B3:(PhS.text x y==s.toList)=false:=beq_eq_false_iff_ne.2 ht
         obtain ⟨k1,k2,_,_⟩:=hq.last 0 0
         clear ht A1 hq
         go_wp2_with fail
         refine bodyPost_ret (v:=.tuple #[.agg #[.int .i64 0,.int .i64 0],.int .i64 2]) (by simp [results,Tryz.results136,go_sem,k1,k2]) rfl ?_
         exact Cf.no HN.out (A6.out.ends 0 0)
theorem Sr (w:World) (hE:Env w):
  Calls Tryz.prog 136 #[.string ByteArray.empty] w (Cf [] w):=by
 have HN:Hid (PhS.parseP []=none):=by
  show PhS.parseP []=none
  cases h:PhS.parseP [] with
  | none=>rfl
  | some p=>
   obtain ⟨a,b⟩:=p
   have h2:=(PhS.parseP_some.1 h).2
   have:PhS.firstOf []=[]:=rfl
   unfold PhS.parseP at h
   rw [if_neg (by rintro ⟨h3,_⟩;revert h3;decide)] at h
   cases h
 have hp:Bo w ((w.alloc (Obj.cells #[Value.int IntKind.i64 0,Value.int IntKind.i64 0] 184)).alloc (Obj.cells #[Value.int IntKind.i64 0,Value.int IntKind.i64 0] 184)) 0 0:=Bo.made
 go_enter Tryz.func136,Tryz.ntmps136
 go_wp2_with fail
 refine (Ub 0 0 (by omega) (by omega) _).mono ?_
 rintro e w1 ⟨rfl,A2⟩
 have hi:PhS.inR 0 0=true:=by decide
 have hq:=hp.call A2
 obtain ⟨f1,f2,f3,f4⟩:=hq.facts
 have A1:=hZ9 hq
 clear hp A2
 go_wp2_with fail
 refine (Aat 0 0 hi _ (hE.below A1.out.1)).mono ?_
 rintro e w2 ⟨rfl,A0⟩
 have hq:=A1.out.call A0
 obtain ⟨f1,f2,f3,f4⟩:=hq.facts
 obtain ⟨g1,g2,g3,g4⟩:=hq.thaw
 obtain ⟨k1,k2,_,_⟩:=hq.last 0 0
 have A3:=hZ9 hq
 have ht:PhS.text 0 0=[48]:=PhS.itoa_zero
 clear hq A0
 go_wp2_with fail
 refine bodyPost_ret (v:=.tuple #[.agg #[.int .i64 0,.int .i64 0],.int .i64 2]) (by simp [results,Tryz.results136,go_sem,k1,k2]) rfl ?_
 exact Cf.no HN.out (A3.out.ends 0 0)
theorem Ye (s:ByteArray) (hm:s.size<=9223372036854775807) (w:World) (hE:Env w):
  Calls Tryz.prog 136 #[.string s] w (Cf s.data.toList w):=by
 by_cases h0:s.size=0
 · have hs:s=ByteArray.empty:=by
    obtain ⟨⟨l⟩⟩:=s
    cases l with
    | nil=>rfl
    | cons c r=>have h1:(c :: r).length=0:=h0;cases h1
   subst hs
   exact Sr w hE
 · exact Sm s (by omega) hm w hE
end
end Go.Proofs.YtgngjfjaelgaeaaGreatDoor
