/- The walks of the document's 'text' and 'Integer'. Conditions: as stated. -/
import Derived.Deep.DrawnRows
import Derived.Test.YtgngjfjaelgaeaaGreatDoorKPhc
import Derived.Test.YtgngjfjaelgaeaaGreatDoorKRue
set_option maxRecDepth 100000
set_option maxHeartbeats 1000000
namespace Go.Proofs.YtgngjfjaelgaeaaGreatDoor
section
open Go.RowKit
def Io (l:List UInt8):List UInt8:=if RuS.hasNul l then [] else RuS.textS l
def Xb (l:List UInt8) (w:World) (e:Ending) (w':World):Prop:=e=.returned (.string ⟨(Io l).toArray⟩)/\Below w.heap.size w w'
def AcN (lo:List UInt8) (w0:World) (out gap i:Value) (wr:World):Prop:=
 ∃k:Nat,k<=lo.length/\i=.int .i64 k/\gap=.bool (RuS.gapB (lo.take k))/\OwnB wr w0.heap.size out (Lib.join (RuS.wordsL (lo.take k)) [32])/\(∀c ∈ lo.take k,c≠0)/\Below w0.heap.size w0 wr
theorem Aa6 (l:List UInt8):RuS.hasNul l=decide ((0:UInt8) ∈ RuS.lower l):=by
 unfold RuS.hasNul
 exact decide_eq_decide.2 (RuS.lower_zero l).symm
theorem Aa7 (s:ByteArray) (hs:s.size<=1000000) (w:World):Calls Tryz.prog 134 #[.string s] w (Xb s.data.toList w):=by
 have hl:=fun w=>Bi s (by omega) w
 unfold BO at hl
 have hlen:=RuS.lower_length s.data.toList
 rw [<-Lib.size_eq] at hlen
 have HT:Hid (RuS.textS s.data.toList=Lib.join (RuS.wordsL (RuS.lower s.data.toList)) [32]):=hZ9 rfl
 have HZ:=hZ9 (Aa6 s.data.toList)
 generalize RuS.lower s.data.toList=lo at*
 have C9:lo.length<=1000000:=by omega
 clear hlen
 go_enter Tryz.func134,Tryz.ntmps134
 go_wp2_with fail
 refine (hl _).mono ?_;rintro e w0 ⟨rfl,hb0⟩
 go_wp2_with fail
 go_loopw [3,4,6] (fun out gap i wr=>AcN lo w0 out gap i wr) (fun _ _ i _=>lo.length - (intOf i).toNat)
 case atStart=>exact ⟨0,Nat.zero_le _,rfl,rfl,OwnB.empty _ _,by simp,Below.refl _ _⟩
 case round=>
  obtain ⟨k,hk,rfl,rfl,A2,B4,hb⟩:=hrel
  have B9:=hZ9 B4
  clear B4
  by_cases B5:k<lo.length
  · have B1:=RuS.joinW_le (lo.take k)
    have C0:(lo.take k).length=k:=by simp;omega
    rw [C0] at B1
    have HJ:=hZ9 B1
    have C8:(Lib.join (RuS.wordsL (lo.take k)) [32]).length<=1000000:=by omega
    clear B1 C0
    have HS:Hid (lo.take (k+1)=lo.take k++[lo[k]]):=hZ9 (List.take_succ_eq_append_getElem B5)
    have HM:Hid (lo[k] ∈ lo):=hZ9 (List.getElem_mem B5)
    have HG:Hid (RuS.gapB (lo.take k++[lo[k]])=(lo[k]==32)):=hZ9 (RuS.gap_snoc _ _)
    have C3:Hid (Lib.join (RuS.wordsL (lo.take k++[32])) [32]=Lib.join (RuS.wordsL (lo.take k)) [32]):=hZ9 (by rw [RuS.wordsL_blank])
    have B3:=hZ9 (fun (h:lo[k]≠32)=>RuS.wordsL_letter (lo.take k) h)
    generalize B7:lo[k]=c at*
    have C6:∀h,(⟨lo.toArray⟩:ByteArray)[k]'h=c:=fun _=>B7
    clear B7
    generalize Lib.join (RuS.wordsL (lo.take k)) [32]=acc at*
    generalize RuS.gapB (lo.take k)=gp at*
    by_cases c0:(c.toNat:Int)=0
    · have HN:Hid (Io s.data.toList=[]):=hZ9 (by
       unfold Io
       rw [HZ.out,decide_eq_true (by have h1:=HM.out;rw [Fj (n:=0) (by decide) c0] at h1;exact h1)];rfl)
      have kz:((c.toNat:Int)==0)=true:=beq_iff_eq.2 c0
      clear c0
      go_wp2_with fail
      go_ret
      exact ⟨by rw [HN.out];rfl,hb0.trans (hb.mono hb0.size)⟩
    · have H0:Hid (c≠0):=hZ9 (fun e=>c0 (by rw [e];rfl))
      have k0:((c.toNat:Int)==0)=false:=beq_eq_false_iff_ne.2 c0
      have B6:∀x ∈ lo.take (k+1),x≠0:=by
       intro x hx
       rw [HS.out] at hx
       rcases List.mem_append.1 hx with hx | hx
       · exact B9.out x hx
       · rw [List.mem_singleton.1 hx];exact H0.out
      have A8:=hZ9 B6
      clear c0 B6
      by_cases A4:(c.toNat:Int)=32
      · have HC:Hid (c=32):=hZ9 (Fj (n:=32) (by decide) A4)
        have C4:((c.toNat:Int)==32)=true:=beq_iff_eq.2 A4
        clear A4
        go_wp2_with fail
        go_roundw
        case rel=>
         refine ⟨k+1,by omega,by go_num,?_,?_,A8.out,hb⟩
         · rw [HS.out,HG.out,HC.out];rfl
         · rw [HS.out,HC.out,C3.out];exact A2
        case measure=>simp [intOf];omega
      · have HC:Hid (c≠32):=hZ9 (fun e=>A4 (by rw [e];rfl))
        have C4:((c.toNat:Int)==32)=false:=beq_eq_false_iff_ne.2 A4
        clear A4
        have B0:Hid (RuS.gapB (lo.take k++[c])=false):=hZ9 (by rw [HG.out];simpa using HC.out)
        cases gp with
        | false=>
         have A5:Hid (Lib.join (RuS.wordsL (lo.take k++[c])) [32]=acc++[c]):=hZ9 (by rw [B3.out HC.out];simp)
         go_wp2_with (at_builtin;refine DN (by rfl) _ _ (by rfl) w0.heap.size _ acc (by rfl) (A2.alloc _) wr.heap.size 1 1 (by rfl) [c] (by rfl) ?c1 ?c2 ?c3 ?_)
         case c1=>first | exact one_cell (by simp [go_sem,Ag]) | exact EN _
         case c2=>omega
         case c3=>have:=hb.size;simp;omega
         intro v' w2 A0 A6
         go_wp2_with fail
         go_roundw
         case rel=>
          refine ⟨k+1,by omega,by go_num,?_,?_,A8.out,(hb.alloc hb.size _).trans A6⟩
          · rw [HS.out,B0.out]
          · rw [HS.out,A5.out];exact A0
         case measure=>simp [intOf];omega
        | true=>
         obtain ⟨a,cp,rfl⟩:=A2.form
         by_cases A1:acc=[]
         · have A9:acc.length=0:=by rw [A1];rfl
           have A5:Hid (Lib.join (RuS.wordsL (lo.take k++[c])) [32]=acc++[c]):=hZ9 (by rw [B3.out HC.out,A1];rfl)
           have C2:decide ((0:Int)<(acc.length:Int))=false:=decide_eq_false (by omega)
           have HA:=hZ9 A1
           have C7:acc.length<=0:=by omega
           clear A1 A9
           go_wp2_with (at_builtin;refine DN (by rfl) _ _ (by rfl) w0.heap.size _ acc (by rfl) (A2.alloc _) wr.heap.size 1 1 (by rfl) [c] (by rfl) ?d1 ?d2 ?d3 ?_)
           case d1=>first | exact one_cell (by simp [go_sem,Ag]) | exact EN _
           case d2=>omega
           case d3=>have:=hb.size;simp;omega
           intro v' w2 A0 A6
           go_wp2_with fail
           go_roundw
           case rel=>
            refine ⟨k+1,by omega,by go_num,?_,?_,A8.out,(hb.alloc hb.size _).trans A6⟩
            · rw [HS.out,B0.out]
            · rw [HS.out,A5.out];exact A0
           case measure=>simp [intOf];omega
         · have C5:0<acc.length:=List.length_pos_iff.2 A1
           have A5:Hid (Lib.join (RuS.wordsL (lo.take k++[c])) [32]=acc++[32]++[c]):=hZ9 (by
            rw [B3.out HC.out]
            have:acc.isEmpty=false:=by cases acc with
             | nil=>exact absurd rfl A1
             | cons a b=>rfl
            rw [this];rfl)
           have C2:decide ((0:Int)<(acc.length:Int))=true:=decide_eq_true (by omega)
           clear A1
           go_wp2_with (at_builtin;refine DN (by rfl) _ _ (by rfl) w0.heap.size _ acc (by rfl) (A2.alloc _) wr.heap.size 1 1 (by rfl) [32] (by rfl) ?e1 ?e2 ?e3 ?_)
           case e1=>first | exact one_cell (by simp [go_sem,Ag]) | exact EN _
           case e2=>omega
           case e3=>have:=hb.size;simp;omega
           intro v' w2 A0 A6
           have B2:=(hb.alloc hb.size (.cells #[.int .u8 32] 5)).trans A6
           go_wp2_with (at_builtin;refine DN (by rfl) _ _ (by rfl) w0.heap.size _ (acc++[32]) (by rfl) (A0.alloc _) w2.heap.size 1 1 (by rfl) [c] (by rfl) ?f1 ?f2 ?f3 ?_)
           case f1=>first | exact one_cell (by simp [go_sem,Ag]) | exact EN _
           case f2=>simp;omega
           case f3=>have:=B2.size;simp;omega
           intro v2 w3 A7 C1
           go_wp2_with fail
           go_roundw
           case rel=>
            refine ⟨k+1,by omega,by go_num,?_,?_,A8.out,(B2.alloc B2.size _).trans C1⟩
            · rw [HS.out,B0.out]
            · rw [HS.out,A5.out,show acc++[32]++[c]=acc++[32,c] from by simp];exact A7
           case measure=>simp [intOf];omega
  · have A3:lo.take k=lo:=List.take_of_length_le (by omega)
    rw [A3] at A2
    have HN:Hid (Io s.data.toList=Lib.join (RuS.wordsL lo) [32]):=hZ9 (by
     unfold Io
     rw [HZ.out,decide_eq_false (fun h=>B9.out 0 (by rw [A3];exact h) rfl),HT.out];rfl)
    clear A3
    have B8:=A2.back
    go_wp2_with fail
    go_ret
    exact ⟨by rw [HN.out];rfl,hb0.trans (hb.mono hb0.size)⟩
def BZ (l:List UInt8) (w:World) (e:Ending) (w':World):Prop:=e=.returned (.tuple #[.int .i64 ((RuS.intR l).getD 0),.bool (RuS.intR l).isSome])/\w=w'
theorem BZ.yes {l:List UInt8} {w:World} {v:Int} (h:RuS.intR l=some v):BZ l w (.returned (.tuple #[.int .i64 v,.bool true])) w:=by
 unfold BZ;rw [h];exact ⟨rfl,rfl⟩
theorem BZ.no {l:List UInt8} {w:World} (h:RuS.intR l=none):BZ l w (.returned (.tuple #[.int .i64 0,.bool false])) w:=by
 unfold BZ;rw [h];exact ⟨rfl,rfl⟩
theorem Jc {l d:List UInt8} {neg:Bool} (hn:(l.head?==some 45)=neg) (hd:(if neg=true then l.tail else l)=d)
  (h:d.length<1\/18<d.length\/(d.head?=some 48/\(1<d.length\/neg=true))\/d.all PhS.isDig=false):RuS.intR l=none:=by
 unfold RuS.intR
 simp only [hn,hd]
 rw [if_pos h]
theorem Us {l d:List UInt8} {neg:Bool} (hn:(l.head?==some 45)=neg) (hd:(if neg=true then l.tail else l)=d)
  (h:¬(d.length<1\/18<d.length\/(d.head?=some 48/\(1<d.length\/neg=true))\/d.all PhS.isDig=false)):RuS.intR l=some (if neg=true then -(PhS.valFrom 0 d:Int) else PhS.valFrom 0 d):=by
 unfold RuS.intR
 simp only [hn,hd]
 rw [if_neg h]
def Xc (u:ByteArray) (n i:Value):Prop:=∃k:Nat,k<=u.size/\i=.int .i64 k/\n=.int .i64 (PhS.valFrom 0 (u.data.toList.take k))/\(u.data.toList.take k).all PhS.isDig=true
theorem Sz (s:ByteArray) (h0:s.size=0) (w:World):Calls Tryz.prog 135 #[.string s] w (BZ s.data.toList w):=by
 have hs:s=ByteArray.empty:=by
  obtain ⟨⟨l⟩⟩:=s
  cases l with
  | nil=>rfl
  | cons c r=>have h1:(c :: r).length=0:=h0;cases h1
 subst hs
 go_enter Tryz.func135,Tryz.ntmps135
 go_wp2_with fail
 go_ret2
 exact BZ.no rfl
theorem KF {s:ByteArray} (h:0<s.size) (n:UInt8):(s.data.toList.head?==some n)=decide (s[0]=n):=by
 rw [Gl h,Bool.eq_iff_iff,beq_iff_eq,decide_eq_true_eq]
 exact ⟨fun e=>Option.some.inj e,fun e=>by rw [e]⟩
theorem Xd (s:ByteArray):s.data.toList.tail=(s.extract 1 s.size).data.toList:=by
 rw [Lib.extract_to_end];simp
set_option linter.unusedVariables false in
theorem Ns (u:ByteArray) (h1:1<=u.size) (hm:u.size<=18) (B0:((u[0].toNat:Int)==45)=false) (A1:((u[0].toNat:Int)==48)=false\/(((u[0].toNat:Int)==48)=true/\u.size<=1)) (w:World):
  Calls Tryz.prog 135 #[.string u] w (BZ u.data.toList w):=by
 have A5:¬(u[0].toNat:Int)=45:=beq_eq_false_iff_ne.1 B0
 have A2:(u.data.toList.head?==some 45)=false:=by
  rw [KF (by omega),decide_eq_false_iff_not]
  intro e;rw [e] at A5;exact A5 rfl
 have hl:=Lib.size_eq u
 have NO:=hZ9 (fun h=>Jc A2 (d:=u.data.toList) rfl h)
 have h48:¬(u.data.toList.head?=some 48/\(1<u.data.toList.length\/(false:Bool)=true)):=by
  rintro ⟨e,h⟩
  rcases A1 with A1 | A1
  · have:=beq_eq_false_iff_ne.1 A1
    rw [Gl (by omega)] at e
    have e2:=Option.some.inj e
    rw [e2] at this
    exact this rfl
  · rcases h with h | h
    · omega
    · cases h
 have A4:=hZ9 (fun (hd:u.data.toList.all PhS.isDig=true)=>Us A2 (d:=u.data.toList) rfl (by
  rintro (h | h | h | h)
  · omega
  · omega
  · exact h48 h
  · rw [hd] at h;cases h))
 replace NO:=NO.out
 replace A4:=A4.out
 have B2:=hZ9 NO
 have A6:=hZ9 A4
 clear NO A4 A5 A2 hl h48
 rcases A1 with A1 | ⟨A1,c1⟩
 all_goals
  go_enter Tryz.func135,Tryz.ntmps135
  go_wp2_with fail
  clear B0 A1
  go_loop [6,7] (fun n i=>Xc u n i) (fun _ i=>u.size - (intOf i).toNat)
  case atStart=>exact ⟨0,Nat.zero_le _,rfl,rfl,rfl⟩
  case round=>
   obtain ⟨k,hk,rfl,rfl,hd⟩:=hrel
   have hv:PhS.valFrom 0 (u.data.toList.take k)<1000000000000000000:=RuS.val18 hd (by simp;omega)
   by_cases A9:k<u.size
   · have B3:PhS.valFrom 0 (u.data.toList.take k)<100000000000000000:=by
      have h1:=PhS.valFrom_lt _ hd
      have h2:(u.data.toList.take k).length<=17:=by simp;omega
      have h3:10 ^ (u.data.toList.take k).length<=10 ^ 17:=Nat.pow_le_pow_right (by decide) h2
      omega
     have HT:=hZ9 (PhS.take_snoc u k A9)
     have HD:=hZ9 hd
     clear hd
     generalize A7:PhS.valFrom 0 (u.data.toList.take k)=v at*
     have HV:=hZ9 A7
     clear A7
     by_cases A0:48<=(u[k].toNat:Int)/\(u[k].toNat:Int)<=57
     · have HG:=hZ9 (II A0)
       have HQ:=hZ9 A0
       obtain ⟨d1,d2⟩:=A0
       go_wp2
       go_round
       case rel=>
        refine ⟨k+1,by omega,by go_num,GV ?_,?_⟩
        · rw [HT.out,PhS.valFrom_snoc,HV.out]
          have:=HQ.out
          omega
        · rw [HT.out,List.all_append,HD.out];simp [HG.out]
       case measure=>simp [intOf];omega
     · have A8:=JK u k A9 (JJ A0)
       have HN:=hZ9 (B2.out (.inr (.inr (.inr A8))))
       clear A8
       go_wp2
       all_goals go_ret2
       all_goals exact BZ.no HN.out
   · have B1:k=u.size:=by omega
     have A3:u.data.toList.take k=u.data.toList:=List.take_of_length_le (by simp;omega)
     rw [A3] at hd hv⊢
     have HY:=hZ9 (A6.out hd)
     clear A3 hd
     generalize PhS.valFrom 0 u.data.toList=v at*
     subst B1
     go_wp2
     go_ret2
     exact BZ.yes (by rw [HY.out];rfl)
set_option linter.unusedVariables false in
theorem Wa (s u:ByteArray) (h1:1<=s.size) (hu:s.extract 1 s.size=u) (B5:1<=u.size) (hm:u.size<=18) (B0:(s[0].toNat:Int)=45) (A8:((u[0].toNat:Int)==48)=false) (w:World):
  Calls Tryz.prog 135 #[.string s] w (BZ s.data.toList w):=by
 have A1:(s.data.toList.head?==some 45)=true:=by
  rw [KF (by omega),decide_eq_true_eq];exact Fj (n:=45) (by decide) B0
 have A3:(if true=true then s.data.toList.tail else s.data.toList)=u.data.toList:=by rw [if_pos rfl,Xd,hu]
 have hl:=Lib.size_eq u
 have NO:=fun h=>Jc A1 A3 h
 have h48:¬u.data.toList.head?=some 48:=by
  intro e
  have:=beq_eq_false_iff_ne.1 A8
  rw [Gl (by omega)] at e
  have e2:=Option.some.inj e
  rw [e2] at this
  exact this rfl
 have A6:=fun (hd:u.data.toList.all PhS.isDig=true)=>Us A1 A3 (by
  rintro (h | h | h | h)
  · omega
  · omega
  · exact h48 h.1
  · rw [hd] at h;cases h)
 have B2:=hZ9 NO
 have A4:=hZ9 A6
 have B3:u.size=s.size - 1:=by rw [<-hu];simp
 have B6:2<=s.size:=by omega
 clear NO A6 A1 hl h48 A3 B3
 go_enter Tryz.func135,Tryz.ntmps135
 go_wp2_with fail
 clear B0 A8 hu
 go_loop [6,7] (fun n i=>Xc u n i) (fun _ i=>u.size - (intOf i).toNat)
 case atStart=>exact ⟨0,Nat.zero_le _,rfl,rfl,rfl⟩
 case round=>
  obtain ⟨k,hk,rfl,rfl,hd⟩:=hrel
  have hv:PhS.valFrom 0 (u.data.toList.take k)<1000000000000000000:=RuS.val18 hd (by simp;omega)
  by_cases A9:k<u.size
  · have B4:PhS.valFrom 0 (u.data.toList.take k)<100000000000000000:=by
     have h1:=PhS.valFrom_lt _ hd
     have h2:(u.data.toList.take k).length<=17:=by simp;omega
     have h3:10 ^ (u.data.toList.take k).length<=10 ^ 17:=Nat.pow_le_pow_right (by decide) h2
     omega
    have HT:=hZ9 (PhS.take_snoc u k A9)
    have HD:=hZ9 hd
    clear hd
    generalize A5:PhS.valFrom 0 (u.data.toList.take k)=v at*
    have HV:=hZ9 A5
    clear A5
    by_cases A0:48<=(u[k].toNat:Int)/\(u[k].toNat:Int)<=57
    · have HG:=hZ9 (II A0)
      have HQ:=hZ9 A0
      obtain ⟨d1,d2⟩:=A0
      go_wp2
      go_round
      case rel=>
       refine ⟨k+1,by omega,by go_num,GV ?_,?_⟩
       · rw [HT.out,PhS.valFrom_snoc,HV.out]
         have:=HQ.out
         omega
       · rw [HT.out,List.all_append,HD.out];simp [HG.out]
      case measure=>simp [intOf];omega
    · have A7:=JK u k A9 (JJ A0)
      have HN:=hZ9 (B2.out (.inr (.inr (.inr A7))))
      clear A7
      go_wp2
      all_goals go_ret2
      all_goals exact BZ.no HN.out
  · have B1:k=u.size:=by omega
    have A2:u.data.toList.take k=u.data.toList:=List.take_of_length_le (by simp;omega)
    rw [A2] at hd hv⊢
    have HY:=hZ9 (A4.out hd)
    clear A2 hd
    generalize PhS.valFrom 0 u.data.toList=v at*
    subst B1
    go_wp2
    go_ret2
    exact BZ.yes (by rw [HY.out];rfl)
theorem Jd (u:ByteArray) (h1:1<=u.size) (hm:u.size<=1000000) (A3:((u[0].toNat:Int)==45)=false) (hz:18<u.size\/(u.size<=18/\2<=u.size/\((u[0].toNat:Int)==48)=true)) (w:World):
  Calls Tryz.prog 135 #[.string u] w (BZ u.data.toList w):=by
 have A1:¬(u[0].toNat:Int)=45:=beq_eq_false_iff_ne.1 A3
 have A0:(u.data.toList.head?==some 45)=false:=by
  rw [KF (by omega),decide_eq_false_iff_not]
  intro e;rw [e] at A1;exact A1 rfl
 have hl:=Lib.size_eq u
 have HN:=hZ9 (Jc A0 (d:=u.data.toList) rfl (by
  rcases hz with hz | ⟨_,hz,A2⟩
  · right;left;omega
  · right;right;left
    refine ⟨?_,.inl (by omega)⟩
    rw [Gl (by omega),Fj (n:=48) (by decide) (beq_iff_eq.1 A2)];rfl))
 clear A1 A0 hl
 rcases hz with hz | ⟨h18,hz,A2⟩
 all_goals
  go_enter Tryz.func135,Tryz.ntmps135
  go_wp2_with fail
  go_ret2
  exact BZ.no HN.out
theorem Gy (s u:ByteArray) (h1:1<=s.size) (hm:s.size<=1000000) (hu:s.extract 1 s.size=u) (A4:(s[0].toNat:Int)=45) (hz:u.size<1\/18<u.size\/(u.size<=18/\∃h:1<=u.size,((u[0].toNat:Int)==48)=true)) (w:World):
  Calls Tryz.prog 135 #[.string s] w (BZ s.data.toList w):=by
 have A0:(s.data.toList.head?==some 45)=true:=by
  rw [KF (by omega),decide_eq_true_eq];exact Fj (n:=45) (by decide) A4
 have A1:(if true=true then s.data.toList.tail else s.data.toList)=u.data.toList:=by rw [if_pos rfl,Xd,hu]
 have hl:=Lib.size_eq u
 have A3:u.size=s.size - 1:=by rw [<-hu];simp
 have HN:=hZ9 (Jc A0 A1 (by
  rcases hz with hz | hz | ⟨_,hz,A2⟩
  · left;omega
  · right;left;omega
  · right;right;left
    refine ⟨?_,.inr rfl⟩
    rw [Gl (by omega),Fj (n:=48) (by decide) (beq_iff_eq.1 A2)];rfl))
 have A5:u.size<=1000000:=by omega
 clear A0 hl A1 A3
 rcases hz with hz | hz | ⟨h18,hz,A2⟩
 · go_enter Tryz.func135,Tryz.ntmps135
   go_wp2_with fail
   go_ret2
   exact BZ.no HN.out
 · go_enter Tryz.func135,Tryz.ntmps135
   go_wp2_with fail
   go_ret2
   exact BZ.no HN.out
 · have e1:decide ((u.size:Int)<1)=false:=decide_eq_false (by omega)
   have e2:decide ((18:Int)<(u.size:Int))=false:=decide_eq_false (by omega)
   go_enter Tryz.func135,Tryz.ntmps135
   go_wp2_with fail
   all_goals go_ret2
   all_goals exact BZ.no HN.out
theorem AcO (s:ByteArray) (hs:s.size<=1000000) (w:World):Calls Tryz.prog 135 #[.string s] w (BZ s.data.toList w):=by
 by_cases h0:s.size=0
 · exact Sz s h0 w
 have h1:1<=s.size:=by omega
 by_cases A1:(s[0].toNat:Int)=45
 · by_cases hz:(s.extract 1 s.size).size<1
   · exact Gy s _ h1 hs rfl A1 (.inl hz) w
   · by_cases A3:18<(s.extract 1 s.size).size
     · exact Gy s _ h1 hs rfl A1 (.inr (.inl A3)) w
     · have hp:1<=(s.extract 1 s.size).size:=by omega
       cases A0:(((s.extract 1 s.size)[0].toNat:Int)==48) with
       | true=>exact Gy s _ h1 hs rfl A1 (.inr (.inr ⟨by omega,hp,A0⟩)) w
       | false=>exact Wa s _ h1 rfl hp (by omega) A1 A0 w
 · have A2:((s[0].toNat:Int)==45)=false:=beq_eq_false_iff_ne.2 A1
   by_cases hz:18<s.size
   · exact Jd s h1 hs A2 (.inl hz) w
   · cases A0:((s[0].toNat:Int)==48) with
     | false=>exact Ns s h1 (by omega) A2 (.inl A0) w
     | true=>
      by_cases h2:2<=s.size
      · exact Jd s h1 hs A2 (.inr ⟨by omega,h2,A0⟩) w
      · exact Ns s h1 (by omega) A2 (.inr ⟨A0,by omega⟩) w
end
section
open Go.RowKit
theorem Aa8 (l:List UInt8):RuS.normV 1 l=if (Io l).isEmpty=true then none else some (Io l):=by
 show (if (RuS.textS l).isEmpty||RuS.hasNul l then none else some (RuS.textS l))=_
 unfold Io
 cases h:RuS.hasNul l with
 | true=>simp
 | false=>simp
theorem Wb (l:List UInt8):RuS.normV 3 l=if (RuS.intR l).isSome=true then some l else none:=by
 rw [RuS.intR_eq];rfl
theorem Yl (l:List UInt8):RuS.normV 4 l=if (PhS.parseP l).isSome=true then some l else none:=rfl
theorem Nu (nm s:ByteArray) (hn:nm.size<=9223372036854775807) (hs:s.size<=9223372036854775807) (w:World) (hE:Env w):
  Calls Tryz.prog 102 #[.string nm,.string s] w (Ba nm.data.toList s.data.toList w):=by
 have A1:=fun w=>MD nm hn w
 unfold Am at A1
 have A4:=RuS.typeM_all (RuS.lower nm.data.toList)
 have HN:Hid (RuS.normal nm.data.toList s.data.toList=RuS.normalR (RuS.typeOf nm.data.toList).2 s.data.toList):=hZ9 rfl
 have A2:RuS.typeOf nm.data.toList=([],0)\/(1<=(RuS.typeOf nm.data.toList).2/\(RuS.typeOf nm.data.toList).2<=5/\1<=(RuS.typeOf nm.data.toList).1.length/\(RuS.typeOf nm.data.toList).1.length<=17):=A4
 clear A4
 generalize RuS.typeOf nm.data.toList=r at*
 obtain ⟨t,sy⟩:=r
 simp only at A1 HN A2
 have A6:=Lib.size_eq s
 by_cases h0:sy=0
 · subst h0
   go_enter Tryz.func102,Tryz.ntmps102
   go_wp2_with fail
   refine (A1 _).mono ?_;rintro e w1 ⟨rfl,A0⟩
   go_wp2_with fail
   go_ret2
   exact Ba.mk' (r:=([],5)) (by rw [HN.out];rfl) A0
 by_cases h5:sy=5
 · subst h5
   go_enter Tryz.func102,Tryz.ntmps102
   go_wp2_with fail
   refine (A1 _).mono ?_;rintro e w1 ⟨rfl,A0⟩
   go_wp2_with fail
   go_ret2
   exact Ba.mk' (r:=([],1)) (by rw [HN.out];rfl) A0
 have A5:sy=1\/sy=2\/sy=3\/sy=4:=by
  rcases A2 with h | h
  · injection h with _ h;exact absurd h h0
  · omega
 have g0:(sy==0)=false:=by simpa using h0
 have g5:(sy==5)=false:=by simpa using h5
 have H0:=hZ9 h0
 have H5:=hZ9 h5
 have HB:=hZ9 A5
 clear h0 h5 A2 A5
 by_cases he:s.data.toList.length<1\/200<s.data.toList.length
 · have HE:=hZ9 he
   rw [<-A6] at he
   clear A6
   rcases he with he | he
   all_goals
    go_enter Tryz.func102,Tryz.ntmps102
    go_wp2_with fail
    refine (A1 _).mono ?_;rintro e w1 ⟨rfl,A0⟩
    go_wp2_with fail
    go_ret2
    exact Ba.mk' (r:=([],2)) (by rw [HN.out];unfold RuS.normalR;rw [if_neg H0.out,if_neg H5.out,if_pos HE.out]) A0
 have HG:=hZ9 he
 have B0:1<=s.size:=by omega
 have A9:s.size<=200:=by omega
 clear he A6
 have A8:decide ((200:Int)<(s.size:Int))=false:=decide_eq_false (by omega)
 have A7:decide ((s.size:Int)<1)=false:=decide_eq_false (by omega)
 have HF:∀r,(match RuS.normV sy s.data.toList with | none=>([],2) | some s=>(s,0))=r->RuS.normal nm.data.toList s.data.toList=r:=by
  intro r hr
  rw [HN.out];unfold RuS.normalR;rw [if_neg H0.out,if_neg H5.out,if_neg HG.out];exact hr
 have HF:=hZ9 HF
 rcases HB.out with rfl | rfl | rfl | rfl
 · have ht:=fun w=>Aa7 s (by omega) w
   unfold Xb at ht
   have HV:=hZ9 (Aa8 s.data.toList)
   generalize Io s.data.toList=tx at*
   cases hx:tx.isEmpty with
   | true=>
    have HX:=hZ9 hx
    go_enter Tryz.func102,Tryz.ntmps102
    go_wp2_with fail
    refine (A1 _).mono ?_;rintro e w1 ⟨rfl,A0⟩
    go_wp2_with fail
    refine (ht _).mono ?_;rintro e w2 ⟨rfl,A3⟩
    go_wp2_with fail
    go_ret2
    exact Ba.mk' (r:=([],2)) (HF.out _ (by rw [HV.out,if_pos HX.out])) (Aa A0 A3)
   | false=>
    have HX:Hid (¬tx.isEmpty=true):=hZ9 (by rw [hx];decide)
    go_enter Tryz.func102,Tryz.ntmps102
    go_wp2_with fail
    refine (A1 _).mono ?_;rintro e w1 ⟨rfl,A0⟩
    go_wp2_with fail
    refine (ht _).mono ?_;rintro e w2 ⟨rfl,A3⟩
    go_wp2_with fail
    go_ret2
    exact Ba.mk' (r:=(_,0)) (HF.out _ (by rw [HV.out,if_neg HX.out])) (Aa A0 A3)
 · go_enter Tryz.func102,Tryz.ntmps102
   go_wp2_with fail
   refine (A1 _).mono ?_;rintro e w1 ⟨rfl,A0⟩
   go_wp2_with fail
   go_ret2
   have:=Ba.mk' (r:=(s.data.toList,0)) (HF.out _ rfl) A0
   rw [Vf] at this
   exact this
 · have hi:=fun w=>AcO s (by omega) w
   unfold BZ at hi
   have HV:=hZ9 (Wb s.data.toList)
   generalize RuS.intR s.data.toList=iv at*
   cases iv with
   | none=>
    simp only [Option.isSome_none] at hi
    go_enter Tryz.func102,Tryz.ntmps102
    go_wp2_with fail
    refine (A1 _).mono ?_;rintro e w1 ⟨rfl,A0⟩
    go_wp2_with fail
    refine (hi _).mono ?_;rintro e w2 ⟨rfl,rfl⟩
    go_wp2_with fail
    go_ret2
    exact Ba.mk' (r:=([],2)) (HF.out _ (by rw [HV.out];rfl)) A0
   | some n=>
    simp only [Option.isSome_some,Option.getD_some] at hi
    go_enter Tryz.func102,Tryz.ntmps102
    go_wp2_with fail
    refine (A1 _).mono ?_;rintro e w1 ⟨rfl,A0⟩
    go_wp2_with fail
    refine (hi _).mono ?_;rintro e w2 ⟨rfl,rfl⟩
    go_wp2_with fail
    go_ret2
    have:=Ba.mk' (r:=(s.data.toList,0)) (HF.out _ (by rw [HV.out];rfl)) A0
    rw [Vf] at this
    exact this
 · have hp:=fun w hE=>Ye s (by omega) w hE
   unfold Cf at hp
   have HV:=hZ9 (Yl s.data.toList)
   generalize PhS.parseP s.data.toList=pv at*
   cases pv with
   | none=>
    simp only at hp
    go_enter Tryz.func102,Tryz.ntmps102
    go_wp2_with fail
    refine (A1 _).mono ?_;rintro e w1 ⟨rfl,A0⟩
    go_wp2_with fail
    refine (hp _ (hE.below A0)).mono ?_;rintro e w2 ⟨rfl,A3⟩
    go_wp2_with fail
    go_ret2
    exact Ba.mk' (r:=([],2)) (HF.out _ (by rw [HV.out];rfl)) (BQ (Aa A0 A3) _)
   | some p=>
    obtain ⟨pa,pb⟩:=p
    simp only at hp
    go_enter Tryz.func102,Tryz.ntmps102
    go_wp2_with fail
    refine (A1 _).mono ?_;rintro e w1 ⟨rfl,A0⟩
    go_wp2_with fail
    refine (hp _ (hE.below A0)).mono ?_;rintro e w2 ⟨rfl,A3⟩
    go_wp2_with fail
    go_ret2
    have:=Ba.mk' (r:=(s.data.toList,0)) (HF.out _ (by rw [HV.out];rfl)) (BQ (Aa A0 A3) (.cells #[.int .i64 pa,.int .i64 pb] 184))
    rw [Vf] at this
    exact this
end
section
open Go.RowKit
def Dp (nm a b:List UInt8):Int:=if (RuS.normal nm a).2≠0 then (RuS.normal nm a).2 else (RuS.normal nm b).2
def GW (nm a b:List UInt8) (w:World) (e:Ending) (w':World):Prop:=
 ∃x y:List UInt8,e=.returned (.tuple #[.string ⟨x.toArray⟩,.string ⟨y.toArray⟩,.int .i64 (Dp nm a b)])/\(Dp nm a b=0->x=(RuS.normal nm a).1/\y=(RuS.normal nm b).1)/\Below w.heap.size w w'
theorem GW.mk' {nm a b x y:List UInt8} {w w':World} {n:Int} (h:Dp nm a b=n) (A0:n=0->x=(RuS.normal nm a).1/\y=(RuS.normal nm b).1) (hb:Below w.heap.size w w'):
  GW nm a b w (.returned (.tuple #[.string ⟨x.toArray⟩,.string ⟨y.toArray⟩,.int .i64 n])) w':=⟨x,y,by rw [h],by rw [h];exact A0,hb⟩
theorem Ym {nm a b:List UInt8} {n:Int} (h:(RuS.normal nm a).2=n) (hn:n≠0):Dp nm a b=n:=by unfold Dp;rw [h,if_pos hn]
theorem Wc {nm a b:List UInt8} {n:Int} (h:(RuS.normal nm a).2=0) (h2:(RuS.normal nm b).2=n):Dp nm a b=n:=by unfold Dp;rw [h,if_neg (by simp),h2]
theorem Aa9 (nm a b:ByteArray) (hn:nm.size<=9223372036854775807) (ha:a.size<=9223372036854775807) (hb:b.size<=9223372036854775807) (w:World) (hE:Env w):
  Calls Tryz.prog 211 #[.string nm,.string a,.string b] w (GW nm.data.toList a.data.toList b.data.toList w):=by
 have h1:=fun w hE=>EX nm a hn ha w hE
 have h2:=fun w hE=>EX nm b hn hb w hE
 unfold Ba at h1 h2
 have A5:Hid ((RuS.normal nm.data.toList a.data.toList).1=(RuS.normal nm.data.toList a.data.toList).1):=hZ9 rfl
 generalize A3:RuS.normal nm.data.toList a.data.toList=r1 at*
 generalize A4:RuS.normal nm.data.toList b.data.toList=r2 at*
 obtain ⟨x,e1⟩:=r1
 obtain ⟨y,e2⟩:=r2
 simp only at h1 h2
 have A1:=hZ9 A3
 have A2:=hZ9 A4
 clear A3 A4 A5
 by_cases z1:e1=0
 · subst z1
   go_enter Tryz.func211,Tryz.ntmps211
   go_wp2_with fail
   refine (h1 _ hE).mono ?_;rintro e w1 ⟨rfl,A0⟩
   go_wp2_with fail
   refine (h2 _ (hE.below A0)).mono ?_;rintro e w2 ⟨rfl,A6⟩
   go_wp2_with fail
   go_ret3
   exact GW.mk' (Wc (by rw [A1.out]) (by rw [A2.out])) (fun _=>⟨by rw [A1.out],by rw [A2.out]⟩) (Aa A0 A6)
 · have hz:(e1==0)=false:=by simpa using z1
   have HZ:=hZ9 z1
   clear z1
   go_enter Tryz.func211,Tryz.ntmps211
   go_wp2_with fail
   refine (h1 _ hE).mono ?_;rintro e w1 ⟨rfl,A0⟩
   go_wp2_with fail
   go_ret3
   exact GW.mk' (y:=[]) (Ym (by rw [A1.out]) HZ.out) (fun h=>absurd h HZ.out) A0
def Ad5 (nm a b:List UInt8):Bool:=decide (Dp nm a b=0)&&((RuS.normal nm a).1==(RuS.normal nm b).1)
def Qq (nm a b:List UInt8) (w:World) (e:Ending) (w':World):Prop:=e=.returned (.tuple #[.bool (Ad5 nm a b),.int .i64 (Dp nm a b)])/\Below w.heap.size w w'
theorem Qq.mk' {nm a b:List UInt8} {w w':World} {q:Bool} {n:Int} (h:Dp nm a b=n) (hq:Ad5 nm a b=q) (hb:Below w.heap.size w w'):Qq nm a b w (.returned (.tuple #[.bool q,.int .i64 n])) w':=by
 unfold Qq;rw [h,hq];exact ⟨rfl,hb⟩
end
section
open Go.RowKit
theorem AaA (nm a b:List UInt8):Dp nm a b=0↔(RuS.normal nm a).2=0/\(RuS.normal nm b).2=0:=by
 unfold Dp
 by_cases h:(RuS.normal nm a).2=0
 · rw [if_neg (by simpa using h)];exact ⟨fun h2=>⟨h,h2⟩,fun h2=>h2.2⟩
 · rw [if_pos h];exact ⟨fun h2=>absurd h2 h,fun h2=>h2.1⟩
end
section
open Go.RowKit
theorem Xe {n:Int} (h:n.natAbs<2 ^ 53) (h1:1000000<n.natAbs):okB (Fl.D n)=false:=by
 unfold okB Fl.numOf
 rw [Fl.toInt_val (Fl.read_D n h).val]
 simp only
 rw [if_neg (by omega)]
 rfl
theorem Qr {n m:Int} (hn:n.natAbs<2 ^ 53) (hm:m.natAbs<2 ^ 53):(okB (Fl.D n)&&okB (Fl.D m))=PhS.inR n m:=by
 by_cases h1:n.natAbs<=1000000
 · by_cases h2:m.natAbs<=1000000
   · rw [DC h1,DC h2]
     exact (decide_eq_true (show n.natAbs<=1000000/\m.natAbs<=1000000 from ⟨h1,h2⟩)).symm
   · rw [Xe hm (by omega),Bool.and_false]
     exact (decide_eq_false (show ¬(n.natAbs<=1000000/\m.natAbs<=1000000) from fun h=>h2 h.2)).symm
 · rw [Xe hn (by omega),Bool.false_and]
   exact (decide_eq_false (show ¬(n.natAbs<=1000000/\m.natAbs<=1000000) from fun h=>h1 h.1)).symm
theorem AaB {a c:Int} (ha:a.natAbs<=1000000) (hc:c.natAbs<=1000000):(a*c).natAbs<=1000000000000:=by
 rw [Int.natAbs_mul]
 exact Nat.mul_le_mul ha hc
theorem Pg (a b:Int) (h:PhS.inR a b=true) (w:World):
  Calls Tryz.prog 213 #[.complex .f64 (Fl.D a) (Fl.D b)] w fun e w'=>e=.returned (.int .i64 (a*a+b*b))/\Below w.heap.size w w':=by
 have hr:a.natAbs<=1000000/\b.natAbs<=1000000:=of_decide_eq_true h
 have f:=fun w=>Dn (Fl.D a) (Fl.D b) (Dt (by omega)) (Dt (by omega)) w
 rw [Qr (by omega) (by omega),h] at f
 have c1:=fun w=>run_convert_float_int (P:=Tryz.prog) w 241 2 .f64 .i64 (Fl.D a) a (by kernel_rfl) Tryz.underlying2 (Qp hr.1)
 have c2:=fun w=>run_convert_float_int (P:=Tryz.prog) w 241 2 .f64 .i64 (Fl.D b) b (by kernel_rfl) Tryz.underlying2 (Qp hr.2)
 have m1:=AaB hr.1 hr.1
 have m2:=AaB hr.2 hr.2
 have p1:IntKind.i64.wrap (a*a)=a*a:=Go.IntWalk.i64_in _ (by omega)
 have p2:IntKind.i64.wrap (b*b)=b*b:=Go.IntWalk.i64_in _ (by omega)
 have p3:IntKind.i64.wrap (a*a+b*b)=a*a+b*b:=Go.IntWalk.i64_in _ (by omega)
 clear h hr
 go_enter Tryz.func213,Tryz.ntmps213
 go_wp2_with fail
 refine (f _).mono ?_;rintro e w1 ⟨rfl,A0⟩
 go_wp2_with fail
 go_ret
 exact ⟨by go_num,A0⟩
end
section
open Go.RowKit
def EP (a b:Int):Int:=if a<b then -1 else if b<a then 1 else 0
theorem Ut (a:Int) (w:World):Calls Tryz.prog 243 #[.int .i64 a] w fun e w'=>e=.returned (.bool false)/\w=w':=by
 go_enter Tryz.func243,Tryz.ntmps243
 go_wp2_with fail
 go_ret
 exact ⟨rfl,rfl⟩
theorem Uu (a b:Int) (w:World):Calls Tryz.prog 214 #[.int .i64 a,.int .i64 b] w fun e w'=>e=.returned (.int .i64 (EP a b))/\w=w':=by
 have HC:Hid (EP a b=if a<b then -1 else if b<a then 1 else 0):=hZ9 rfl
 rcases Int.lt_trichotomy a b with h | h | h
 all_goals
  go_enter Tryz.func214,Tryz.ntmps214
  go_wp2_with fail
  refine (Ut _ _).mono ?_;rintro e w1 ⟨rfl,rfl⟩
  go_wp2_with fail
  refine (Ut _ _).mono ?_;rintro e w1 ⟨rfl,rfl⟩
  go_wp2_with fail
 · go_ret
   exact ⟨by rw [HC.out,if_pos h];rfl,rfl⟩
 · go_ret
   exact ⟨by rw [HC.out,if_neg (by omega),if_neg (by omega)];rfl,rfl⟩
 · go_ret
   exact ⟨by rw [HC.out,if_neg (by omega),if_pos h];rfl,rfl⟩
theorem Xf (a:Int) (ha:a.natAbs<=1000000) (w:World):Calls Tryz.prog 268 #[.float .f64 (Fl.D a)] w fun e w'=>e=.returned (.bool false)/\w=w':=by
 have e1:(FloatKind.f64.format.order (Fl.D a) (Fl.D a)==some .eq)=true:=by rw [OZ ha ha];simp
 have e2:(FloatKind.f64.format.order (Fl.D a) (Fl.D a) !=some .eq)=false:=by rw [bne,e1];rfl
 go_enter Tryz.func268,Tryz.ntmps268
 go_wp2_with fail
 go_ret
 exact ⟨rfl,rfl⟩
theorem Afk {a c:Int} (ha:a.natAbs<=1000000) (hc:c.natAbs<=1000000):(FloatKind.f64.format.order (Fl.D a) (Fl.D c)==some .lt)=decide (a<c):=by
 rw [Yh ha hc]
 rcases Int.lt_trichotomy a c with h | h | h
 · rw [Fl.cmp_lt h];simp;omega
 · subst h;rw [Fl.compare_self'];simp
 · rw [Fl.cmp_gt h];simp;omega
theorem Xg (a b:Int) (ha:a.natAbs<=1000000) (hb:b.natAbs<=1000000) (w:World):Calls Tryz.prog 245 #[.float .f64 (Fl.D a),.float .f64 (Fl.D b)] w fun e w'=>e=.returned (.int .i64 (EP a b))/\w=w':=by
 have HC:Hid (EP a b=if a<b then -1 else if b<a then 1 else 0):=hZ9 rfl
 have e1:=Afk ha hb
 have e2:=Ad4 ha hb
 rcases Int.lt_trichotomy a b with h | h | h
 all_goals
  first | rw [decide_eq_true h] at e1 | rw [decide_eq_false (by omega)] at e1
  first | rw [decide_eq_true h] at e2 | rw [decide_eq_false (by omega)] at e2
  have H:=hZ9 h
  clear h
  go_enter Tryz.func245,Tryz.ntmps245
  go_wp2_with fail
  refine (Xf _ ha _).mono ?_;rintro e w1 ⟨rfl,rfl⟩
  go_wp2_with fail
  refine (Xf _ hb _).mono ?_;rintro e w1 ⟨rfl,rfl⟩
  go_wp2_with fail
 · go_ret
   exact ⟨by rw [HC.out,if_pos H.out];rfl,rfl⟩
 · go_ret
   have h:=H.out
   exact ⟨by rw [HC.out,if_neg (by omega),if_neg (by omega)];rfl,rfl⟩
 · go_ret
   have h:=H.out
   exact ⟨by rw [HC.out,if_neg (by omega),if_pos h];rfl,rfl⟩
def orI (x y z:Int):Int:=if x≠0 then x else if y≠0 then y else z
theorem Afu (x y z:Int) (b:Nat) (w:World) (h0:w.cell? ⟨b,0,none⟩=some (.int .i64 x)) (h1:w.cell? ⟨b,1,none⟩=some (.int .i64 y)) (h2:w.cell? ⟨b,2,none⟩=some (.int .i64 z)):
  Calls Tryz.prog 244 #[.slice (some ⟨b,0,none⟩) 3 3] w fun e w'=>e=.returned (.int .i64 (orI x y z))/\w=w':=by
 have HC:Hid (orI x y z=if x≠0 then x else if y≠0 then y else z):=hZ9 rfl
 by_cases hx:x=0
 · subst hx
   by_cases hy:y=0
   · subst hy
     by_cases hz:z=0
     · subst hz
       go_enter Tryz.func244,Tryz.ntmps244
       go_wp2_with fail
       refine wp_loop_rounds 4 ?_
       repeat any_goals (rw [rounds_succ];go_wp2_with fail)
       go_ret
       exact ⟨by rw [HC.out];rfl,rfl⟩
     · have A1:(z !=0)=true:=by simpa using hz
       have HZ:=hZ9 hz
       clear hz
       go_enter Tryz.func244,Tryz.ntmps244
       go_wp2_with fail
       refine wp_loop_rounds 4 ?_
       repeat any_goals (rw [rounds_succ];go_wp2_with fail)
       go_ret
       exact ⟨by rw [HC.out];rfl,rfl⟩
   · have A0:(y !=0)=true:=by simpa using hy
     have HY:=hZ9 hy
     clear hy
     go_enter Tryz.func244,Tryz.ntmps244
     go_wp2_with fail
     refine wp_loop_rounds 4 ?_
     repeat any_goals (rw [rounds_succ];go_wp2_with fail)
     go_ret
     exact ⟨by rw [HC.out,if_neg (by simp),if_pos HY.out];rfl,rfl⟩
 · have A2:(x !=0)=true:=by simpa using hx
   have HX:=hZ9 hx
   clear hx
   go_enter Tryz.func244,Tryz.ntmps244
   go_wp2_with fail
   refine wp_loop_rounds 4 ?_
   repeat any_goals (rw [rounds_succ];go_wp2_with fail)
   go_ret
   exact ⟨by rw [HC.out,if_pos HX.out];rfl,rfl⟩
end
section
open Go.RowKit
def Qs (a b c d:Int):Int:=orI (EP (a*a+b*b) (c*c+d*d)) (EP a c) (EP b d)
theorem AaC (a b c d:Int) (h1:PhS.inR a b=true) (h2:PhS.inR c d=true) (w:World):
  Calls Tryz.prog 215 #[.complex .f64 (Fl.D a) (Fl.D b),.complex .f64 (Fl.D c) (Fl.D d)] w fun e w'=>e=.returned (.int .i64 (Qs a b c d))/\Below w.heap.size w w':=by
 have A0:a.natAbs<=1000000/\b.natAbs<=1000000:=of_decide_eq_true h1
 have A1:c.natAbs<=1000000/\d.natAbs<=1000000:=of_decide_eq_true h2
 have f1:=fun w=>Dn (Fl.D a) (Fl.D b) (Dt (by omega)) (Dt (by omega)) w
 have f2:=fun w=>Dn (Fl.D c) (Fl.D d) (Dt (by omega)) (Dt (by omega)) w
 rw [Qr (by omega) (by omega),h1] at f1
 rw [Qr (by omega) (by omega),h2] at f2
 have n1:=Pg a b h1
 have n2:=Pg c d h2
 have k1:=Xg a c A0.1 A1.1
 have k2:=Xg b d A0.2 A1.2
 have k0:=Uu (a*a+b*b) (c*c+d*d)
 have HP:Hid (Qs a b c d=orI (EP (a*a+b*b) (c*c+d*d)) (EP a c) (EP b d)):=hZ9 rfl
 generalize EP (a*a+b*b) (c*c+d*d)=q0 at*
 generalize a*a+b*b=m1 at*
 generalize c*c+d*d=m2 at*
 generalize EP a c=q1 at*
 generalize EP b d=q2 at*
 clear h1 h2 A0 A1
 go_enter Tryz.func215,Tryz.ntmps215
 go_wp2_with fail
 refine (f1 _).mono ?_;rintro e w1 ⟨rfl,A5⟩
 go_wp2_with fail
 refine (f2 _).mono ?_;rintro e w2 ⟨rfl,A4⟩
 go_wp2_with fail
 refine (n1 _).mono ?_;rintro e w3 ⟨rfl,A3⟩
 go_wp2_with fail
 refine (n2 _).mono ?_;rintro e w4 ⟨rfl,A2⟩
 go_wp2_with fail
 refine (k0 _).mono ?_;rintro e w5 ⟨rfl,rfl⟩
 go_wp2_with fail
 refine (k1 _).mono ?_;rintro e w6 ⟨rfl,rfl⟩
 go_wp2_with fail
 refine (k2 _).mono ?_;rintro e w7 ⟨rfl,rfl⟩
 go_wp2_with fail
 refine (Afu q0 q1 q2 _ _ (by go_simp) (by go_simp) (by go_simp)).mono ?_;rintro e w8 ⟨rfl,rfl⟩
 go_wp2_with fail
 go_ret
 exact ⟨by rw [HP.out];rfl,BQ (Aa A5 (Aa A4 (Aa A3 A2))) _⟩
end
section
open Go.RowKit
attribute [local go_sem ↓] Go.wp_at_zero Go.wp_at_succ
def Yn (w:World) (g:Nat) (p q r t:Int) (w':World):Prop:=
 w'.cell? ⟨g,0,none⟩=some (.int .i64 p)/\w'.cell? ⟨g,1,none⟩=some (.int .i64 q)/\w'.cell? ⟨g+1,0,none⟩=some (.int .i64 r)/\w'.cell? ⟨g+1,1,none⟩=some (.int .i64 t)/\Below w.heap.size w w'
theorem Yn.drew {w w':World} {g:Nat} {p q r t:Int} (h:Yn w g p q r t w'):Yn w g p q r t w'.drew:=
 ⟨h.1,h.2.1,h.2.2.1,h.2.2.2.1,h.2.2.2.2.drew⟩
end
end Go.Proofs.YtgngjfjaelgaeaaGreatDoor
