/- The walks of strings.Join at a comma, of the program's 'fit' and of the document's 'joined'. Conditions: as stated. -/
import Derived.Test.YtgngjfjaelgaeaaGreatDoorKRdx
import Derived.Test.YtgngjfjaelgaeaaGreatDoorKRdu
import Derived.Test.YtgngjfjaelgaeaaGreatDoorKDni
set_option maxRecDepth 100000
set_option maxHeartbeats 4000000
namespace Go.Proofs.YtgngjfjaelgaeaaGreatDoor
section
open Go.RowKit
namespace DnS
open RdS
theorem join_snoc:∀(l:List (List UInt8)) (x:List UInt8),Ak (l++[x])=if l=[] then x else Ak l++[44]++x
 | [],x=>by rw [if_pos rfl];exact Lib.join_one x [44]
 | [a],x=>by
  rw [if_neg (by simp)]
  show Lib.join (a :: x :: []) [44]=Lib.join [a] [44]++[44]++x
  rw [RuS.join_cons_cons,Lib.join_one,Lib.join_one]
 | a :: b :: l,x=>by
  have ih:=join_snoc (b :: l) x
  rw [if_neg (by simp)] at ih⊢
  unfold Ak at ih⊢
  rw [List.cons_append,List.cons_append,RuS.join_cons_cons,RuS.join_cons_cons,<-List.cons_append,ih]
  simp
theorem ZI {ts:List (List UInt8)} {k:Nat} (h:k<ts.length):Ak (ts.take (k+1))=if k=0 then ts[k] else Ak (ts.take k)++[44]++ts[k]:=by
 rw [List.take_succ_eq_append_getElem h,join_snoc]
 by_cases hk:k=0
 · subst hk;simp
 · rw [if_neg hk,if_neg]
   intro h0
   have:=congrArg List.length h0
   rw [List.length_take,List.length_nil,Nat.min_eq_left (by omega)] at this
   exact hk this
theorem Kr {M:Nat}:∀(ts:List (List UInt8)),(∀t ∈ ts,t.length<=M)->(Ak ts).length<=ts.length*(M+1)
 | [],_=>by simp [Ak,Lib.join,List.intercalate]
 | [a],h=>by
  unfold Ak
  rw [Lib.join_one]
  have:=h a (List.mem_singleton.2 rfl)
  simp;omega
 | a :: b :: l,h=>by
  have ih:=Kr (b :: l) (fun t ht=>h t (List.mem_cons_of_mem _ ht))
  have:=h a (List.mem_cons_self ..)
  unfold Ak at ih⊢
  rw [RuS.join_cons_cons,List.length_append,List.length_append,List.length_singleton]
  have e:(a :: b :: l).length*(M+1)=(b :: l).length*(M+1)+(M+1):=by rw [List.length_cons (a:=a),Nat.succ_mul]
  omega
theorem RX {ts:List (List UInt8)} {M:Nat} (h:∀t ∈ ts,t.length<=M) {n:Nat} (hn:ts.length<=n) (k:Nat):(Ak (ts.take k)).length<=n*(M+1):=by
 have h1:=Kr (ts.take k) (fun t ht=>h t (List.mem_of_mem_take ht))
 refine Nat.le_trans h1 (Nat.mul_le_mul_right _ ?_)
 rw [List.length_take];omega
end DnS
theorem IV {xs:List RdS.Pr} (h:RdS.formedS xs=true):Es xs:=fun p hp=>by
 have:=(RdS.Ej h).2 p hp
 omega
theorem OC (v:Value) (ts:List (List UInt8)) (w:World) (h:Ai w v ts) (hn:ts.length<=1000000) (hl:(DnS.Ak ts).length<=1000000000):Calls Tryz.prog 71 #[v,.string ⟨#[44]⟩] w fun e w'=>e=.returned (.string ⟨(DnS.Ak ts).toArray⟩)/\Below w.heap.size w w':=by
 obtain ⟨a,c,rfl,hc,A0⟩:=h
 by_cases h0:ts=[]
 · subst h0
   refine (Tryz.strings_Join_none a c ⟨#[44]⟩ w).mono ?_
   rintro e w' ⟨rfl,rfl⟩
   exact ⟨by simp [DnS.Ak,Lib.join,List.intercalate],Below.refl _ _⟩
 · rcases A0 with A0 | ⟨g,o,rfl,hg,hcell⟩
   · exact absurd A0 h0
   have hm:(ts.map (fun t:List UInt8=>(⟨t.toArray⟩:ByteArray))).map (·.data.toList)=ts:=by
    rw [List.map_map]
    conv=>rhs;rw [<-List.map_id ts]
    exact List.map_congr_left fun t _=>rfl
   have hj:=Tryz.strings_Join g o c (ts.map (fun t:List UInt8=>(⟨t.toArray⟩:ByteArray))) ⟨#[44]⟩ w (fun j x hx=>by
    rw [List.getElem?_map] at hx
    obtain ⟨t,ht,rfl⟩:=Option.map_eq_some_iff.1 hx
    exact hcell j t ht) hg (by rw [List.length_map];omega) (by rw [List.length_map];exact hc) (by
    rw [hm]
    exact Nat.le_trans hl (by decide))
   rw [hm,List.length_map] at hj
   exact hj
theorem Adz (v:Value) (ts:List (List UInt8)) (w:World) (h:Ai w v ts) (hn:ts.length<=1000000) (hl:(DnS.Ak ts).length<=1000000000):Calls Tryz.prog 109 #[v] w fun e w'=>e=.returned (.tuple #[.string ⟨(DnS.GY ts).1.toArray⟩,.int .i64 (DnS.GY ts).2])/\Below w.heap.size w w':=by
 have hj:=OC v ts w h hn hl
 obtain ⟨a,c,rfl,hc,A0⟩:=h
 clear A0
 have HF:Hid (DnS.GY ts=if 12<ts.length\/1000<(DnS.Ak ts).length then ([],4) else (DnS.Ak ts,0)):=hZ9 rfl
 generalize DnS.Ak ts=J at*
 generalize DnS.GY ts=F at*
 generalize ts.length=n at*
 by_cases h12:12<n
 · have hz:(12:Int)<(n:Int):=by omega
   go_enter Tryz.func109,Tryz.ntmps109
   go_wp2_with fail
   refine hj.mono ?_;rintro e w1 ⟨rfl,hb⟩
   go_wp2_with fail
   go_ret2
   exact ⟨by rw [HF.out,if_pos (.inl h12)];rfl,hb⟩
 · have hz:decide ((12:Int)<(n:Int))=false:=decide_eq_false (by omega)
   by_cases h1000:1000<J.length
   · have A1:(1000:Int)<(J.length:Int):=by omega
     go_enter Tryz.func109,Tryz.ntmps109
     go_wp2_with fail
     refine hj.mono ?_;rintro e w1 ⟨rfl,hb⟩
     go_wp2_with fail
     go_ret2
     exact ⟨by rw [HF.out,if_pos (.inr h1000)];rfl,hb⟩
   · have A1:decide ((1000:Int)<(J.length:Int))=false:=decide_eq_false (by omega)
     go_enter Tryz.func109,Tryz.ntmps109
     go_wp2_with fail
     refine hj.mono ?_;rintro e w1 ⟨rfl,hb⟩
     go_wp2_with fail
     go_ret2
     exact ⟨by rw [HF.out,if_neg (fun h=>h.elim h12 h1000)];rfl,hb⟩
theorem TD (v:Value) (ts:List (List UInt8)) (w:World) (h:Ai w v ts) (hn:ts.length<=100) (hl:∀t ∈ ts,t.length<=3000):Calls Tryz.prog 79 #[v] w fun e w'=>e=.returned (.string ⟨(DnS.Ak ts).toArray⟩)/\w=w':=by
 obtain ⟨a,c,rfl,hc,A1⟩:=h
 have B3:=hZ9 (DnS.RX hl hn)
 have HL:=hZ9 hl
 clear hl
 generalize B0:ts.length=n at*
 have HN:=hZ9 B0
 clear B0
 have HC:Hid (∀k (h:k<ts.length),∃g o,a=some ⟨g,o,none⟩/\g<w.heap.size/\w.cell? ⟨g,o+k,none⟩=some (Ac ts[k])):=hZ9 (fun k hk=>by
  rcases A1 with rfl | ⟨g,o,rfl,hg,hcell⟩
  · simp at hk
  · exact ⟨g,o,rfl,hg,hcell k _ (List.getElem?_eq_getElem hk)⟩)
 clear A1
 go_enter Tryz.func79,Tryz.ntmps79
 go_wp2_with fail
 go_loop [3,7] (fun s i=>∃k:Nat,k<=n/\i=.int .i64 k/\s=.string ⟨(DnS.Ak (ts.take k)).toArray⟩) (fun _ i=>n - (intOf i).toNat)
 case atStart=>exact ⟨0,Nat.zero_le _,rfl,by simp [DnS.Ak,Lib.join,List.intercalate]⟩
 case round=>
  obtain ⟨k,hk,rfl,rfl⟩:=hrel
  by_cases B1:k<n
  · have A0:k<ts.length:=by rw [HN.out];exact B1
    obtain ⟨g,o,rfl,hg,B5⟩:=HC.out k A0
    have A8:=hZ9 (DnS.ZI A0)
    have A5:Hid (k=0->DnS.Ak (ts.take k)=[]):=hZ9 (fun h=>by subst h;simp [DnS.Ak,Lib.join,List.intercalate])
    have B9:=B3.out k
    have B8:=HL.out ts[k] (List.getElem_mem A0)
    generalize ts[k]=p at*
    unfold Ac at B5
    generalize DnS.Ak (ts.take k)=acc at*
    clear A0
    by_cases A2:k=0
    · have B2:decide ((0:Int)<(k:Int))=false:=decide_eq_false (by omega)
      have A7:decide (0<k)=false:=decide_eq_false (by omega)
      have A4:Hid (DnS.Ak (ts.take (k+1))=acc++p):=hZ9 (by
       rw [A8.out,if_pos A2,A5.out A2];rfl)
      have ha:=Ek acc p (by omega) (by omega)
      clear A2
      go_wp2_with fail
      go_round
      case rel=>exact ⟨k+1,by omega,by go_num,by rw [A4.out]⟩
      case measure=>simp [intOf];omega
    · have B2:(0:Int)<(k:Int):=by omega
      have A7:0<k:=by omega
      have A4:Hid (DnS.Ak (ts.take (k+1))=acc++[44]++p):=hZ9 (by
       rw [A8.out,if_neg A2])
      have ha:=Ek acc [44] (by omega) (by decide)
      have A3:(acc++[44]).length<=2000000:=by rw [List.length_append,List.length_singleton];omega
      have B6:=Lt acc [44]
      obtain ⟨y1,A9⟩:∃y1,y1=acc++[44]:=⟨_,rfl⟩
      rw [<-A9] at ha A3 A4 B6
      have B7:=Ek y1 p A3 (by omega)
      clear A2 A9
      go_wp2_with fail
      go_round
      case rel=>exact ⟨k+1,by omega,by go_num,by rw [A4.out]⟩
      case measure=>simp [intOf];omega
  · have B4:k=n:=by omega
    subst B4
    have A6:Hid (ts.take k=ts):=hZ9 (List.take_of_length_le (by rw [HN.out];omega))
    go_wp2_with fail
    go_ret
    exact ⟨by rw [A6.out];rfl,rfl⟩
end
section
open Go.RowKit
def CL (l:List UInt8) (w:World) (e:Ending) (w':World):Prop:=∃v,e=.returned (.tuple #[v,.int .i64 (DnS.Ad l).2])/\Own w' w.heap.size v (DnS.Ad l).1/\Below w.heap.size w w'
theorem CL.none {l:List UInt8} {w w':World} {e:Int} (h:DnS.Ad l=([],e)) (hb:Below w.heap.size w w'):CL l w (.returned (.tuple #[.slice none 0 0,.int .i64 e])) w':=by
 refine ⟨.slice Option.none 0 0,?_,?_,hb⟩
 · rw [h]
 · rw [h];exact Own.empty w' _
def QJ (ls:List (List RdS.Pr)) (w0:World) (out i:Value) (wr:World):Prop:=
 ∃k:Nat,k<=ls.length/\i=.int .i64 k/\Own wr w0.heap.size out ((ls.take k).map DnS.AC)/\Below w0.heap.size w0 wr
namespace DnS
theorem TE {s:List UInt8} (h:(Bg s).2≠0):(Bg s).1=[]:=by
 unfold Bg at h⊢
 split
 · rfl
 · rename_i h1
   rw [if_neg h1] at h
   split
   · rfl
   · rename_i h2
     rw [if_neg h2] at h
     split
     · rfl
     · rename_i h3
       rw [if_neg h3] at h
       cases hp:partsS (RdS.Aj 44 s) with
       | none=>rfl
       | some l=>rw [hp] at h;exact absurd rfl h
theorem TF {s:List UInt8} {ls:List (List RdS.Pr)} {e:Int} (h:Bg s=(ls,e)) (he:e≠0):Ad s=([],e):=by
 unfold Ad;rw [h,if_neg he]
theorem OD {s:List UInt8} {ls:List (List RdS.Pr)} (h:Bg s=(ls,0)) (hl:1000<(Ak (ls.map AC)).length):Ad s=([],4):=by
 unfold Ad;rw [h,if_pos rfl,if_pos hl]
theorem QK {s:List UInt8} {ls:List (List RdS.Pr)} (h:Bg s=(ls,0)) (hl:¬1000<(Ak (ls.map AC)).length):Ad s=(ls.map AC,0):=by
 unfold Ad;rw [h,if_pos rfl,if_neg hl]
theorem Jt {ls:List (List RdS.Pr)} (hf:∀q ∈ ls,RdS.formedS q=true):∀t ∈ ls.map AC,t.length<=3000:=fun t ht=>by
 obtain ⟨q,hq,rfl⟩:=List.mem_map.1 ht
 exact NM (hf q hq)
theorem map_take {ls:List (List RdS.Pr)} {k:Nat} (h:k<ls.length):(ls.take (k+1)).map AC=(ls.take k).map AC++[AC ls[k]]:=by
 rw [List.take_succ_eq_append_getElem h,List.map_append];rfl
theorem join_small {ls:List (List RdS.Pr)} (hl:ls.length<=12) (hf:∀q ∈ ls,RdS.formedS q=true):(Ak (ls.map AC)).length<=100000:=by
 have h:=Kr (ls.map AC) (Jt hf)
 rw [List.length_map] at h
 have:ls.length*(3000+1)<=12*3001:=Nat.mul_le_mul_right _ hl
 omega
end DnS
theorem XN (l:List UInt8) (hl:l.length<=1000000) (w:World) (hE:Env w):Calls Tryz.prog 44 #[.string ⟨l.toArray⟩] w (CL l w):=by
 have A8:=AaY l hl w hE
 unfold Gm at A8
 obtain ⟨P,hP⟩:∃P,DnS.Bg l=P:=⟨_,rfl⟩
 obtain ⟨ls,e0⟩:=P
 rw [hP] at A8
 simp only at A8
 by_cases he:e0=0
 · subst he
   have A7:=DnS.EY hP
   have D0:=hZ9 A7.2.1
   have B9:ls.length<=12:=A7.1
   have D4:=hZ9 (DnS.join_small A7.1 A7.2.1)
   have C8:=hZ9 (DnS.Jt A7.2.1)
   have A1:=hZ9 (DnS.OD hP)
   have A6:=hZ9 (DnS.QK hP)
   clear A7 hP
   go_enter Tryz.func44,Tryz.ntmps44
   go_wp2_with fail
   refine A8.mono ?_
   rintro e w0 ⟨v,rfl,hv,hb0⟩
   obtain ⟨a,c,rfl,hc,A3⟩:=hv.at
   have HC:Hid (∀k (h:k<ls.length),∃g o,a=some ⟨g,o,none⟩/\g<w0.heap.size/\∃u,w0.cell? ⟨g,o+k,none⟩=some u/\AK w0 u ls[k]):=hZ9 (fun k hk=>by
    rcases A3 with rfl | ⟨g,o,rfl,hg,hcell⟩
    · simp at hk
    · exact ⟨g,o,rfl,hg,hcell k _ (List.getElem?_eq_getElem hk)⟩)
   have B8:=hZ9 (fun k (h:k<ls.length)=>D0.out ls[k] (List.getElem_mem h))
   clear A3 hv A8
   generalize C4:ls.length=n at B9 hc⊢
   have HN:=hZ9 C4
   clear C4
   go_wp2_with fail
   go_loopw [6,22] (fun out i wr=>QJ ls w0 out i wr) (fun _ i _=>n - (intOf i).toNat)
   case atStart=>exact ⟨0,Nat.zero_le _,rfl,Own.empty _ _,Below.refl _ _⟩
   case round=>
    obtain ⟨k,hk,rfl,A0,hb⟩:=hrel
    rw [HN.out] at hk
    have hsz:=hb.size
    have A5:Below w.heap.size w wr:=hb0.trans (hb.mono hb0.size)
    have C3:=hE.below A5
    have B1:=hZ9 A0
    clear A0
    by_cases C7:k<n
    · have A2:k<ls.length:=by rw [HN.out];exact C7
      obtain ⟨g,o,rfl,hg,u,C2,B4⟩:=HC.out k A2
      replace C2:wr.cell? ⟨g,o+k,none⟩=some u:=(hb.cell (p:=⟨g,o+k,none⟩) hg).trans C2
      replace B4:AK wr u ls[k]:=B4.call hb (Nat.le_refl _)
      have C9:=hZ9 (DnS.map_take A2)
      have hq:=B8.out k A2
      generalize ls[k]=q at*
      obtain ⟨a1,n1,c1,rfl⟩:∃a1 n1 c1,u=.slice a1 n1 c1:=by
       obtain ⟨a1,c1,e,_⟩:=B4
       exact ⟨a1,_,c1,e⟩
      have B6:=SC _ q wr B4 (IV hq) C3
      unfold Eu at B6
      rw [DnS.MG hq] at B6
      have B5:=fun v w h hE=>Yy v (RdS.AH q) w h (IV (RdS.Dw hq).1) hE
      unfold Et at B5
      rw [DnS.NP hq] at B5
      simp only at B6 B5
      generalize RdS.AH q=qn at*
      generalize DnS.AC q=t at*
      clear A2 B4 hq
      go_wp2_with fail
      refine B6.mono ?_;rintro e w1 ⟨v1,rfl,A9,C0⟩
      obtain ⟨a2,n2,c2,rfl⟩:∃a2 n2 c2,v1=.slice a2 n2 c2:=by
       obtain ⟨a1,c1,e,_⟩:=A9
       exact ⟨a1,_,c1,e⟩
      go_wp2_with fail
      refine (B5 _ _ A9 (C3.below C0)).mono ?_;rintro e w2 ⟨rfl,C6⟩
      have B7:=Aa C0 C6
      have D3:=B7.size
      go_wp2_with (at_builtin;refine GR (by rfl) _ _ (by rfl) w0.heap.size _ ((ls.take k).map DnS.AC) (by rfl) ((B1.out.call B7).alloc _) w2.heap.size (by rfl) t ?e1 ?e3 ?e4 ?_)
      case e1=>simp [go_sem,Ac]
      case e3=>rw [List.length_map,List.length_take];omega
      case e4=>simp;omega
      intro v' w4 A4 C5
      have B3:=hZ9 A4
      clear A4
      go_wp2_with fail
      go_roundw
      case rel=>exact ⟨k+1,by rw [HN.out];omega,by go_num,by rw [C9.out,List.map_take];exact B3.out,((hb.trans (B7.mono hsz)).alloc (by omega) _).trans C5⟩
      case measure=>simp [intOf];omega
    · have D2:k=n:=by omega
      subst D2
      have B0:ls.take k=ls:=List.take_of_length_le (by rw [HN.out];omega)
      have A0:=B1.out
      rw [B0] at A0
      have C1:=TD _ _ wr A0.strs (by rw [List.length_map,HN.out];omega) C8.out
      have D5:=D4.out
      have B2:=hZ9 A0
      generalize DnS.Ak (ls.map DnS.AC)=J at*
      clear B0 A0
      by_cases h1000:1000<J.length
      · have hz:(1000:Int)<(J.length:Int):=by omega
        have HR:=hZ9 (A1.out h1000)
        clear A1 A6
        go_wp2_with fail
        refine C1.mono ?_;rintro e w1 ⟨rfl,rfl⟩
        go_wp2_with fail
        go_ret2
        exact CL.none HR.out A5
      · have hz:decide ((1000:Int)<(J.length:Int))=false:=decide_eq_false (by omega)
        have HR:=hZ9 (A6.out h1000)
        clear A1 A6
        go_wp2_with fail
        refine C1.mono ?_;rintro e w1 ⟨rfl,rfl⟩
        go_wp2_with fail
        go_ret2
        exact ⟨_,by rw [HR.out];rfl,by rw [HR.out];exact B2.out.mono hb0.size,A5⟩
 · have HR:=hZ9 (DnS.TF hP he)
   have D1:ls=[]:=by
    have:=DnS.TE (s:=l) (by rw [hP];exact he)
    rw [hP] at this;exact this
   subst D1
   clear hP
   have D6:(e0 !=0)=true:=by simpa using he
   go_enter Tryz.func44,Tryz.ntmps44
   go_wp2_with fail
   refine A8.mono ?_
   rintro e w0 ⟨v,rfl,hv,hb0⟩
   go_wp2_with fail
   go_ret2
   exact CL.none HR.out hb0
end
section
open Go.RowKit
theorem Du (l:List UInt8) (hl:l.length<=1000000) (w:World) (hE:Env w):Calls Tryz.prog 70 #[.string ⟨l.toArray⟩] w (CL l w):=by
 have B0:=Abb l hl w hE
 unfold ET at B0
 obtain ⟨P,hP⟩:∃P,DnS.Bg l=P:=⟨_,rfl⟩
 obtain ⟨ls,e0⟩:=P
 rw [hP] at B0
 simp only at B0
 by_cases he:e0=0
 · subst he
   have A8:=DnS.EY hP
   have D3:=hZ9 A8.2.1
   have C3:ls.length<=12:=A8.1
   have C5:=hZ9 (DnS.join_small A8.1 A8.2.1)
   have D7:=hZ9 (DnS.Jt A8.2.1)
   have A2:=hZ9 (DnS.OD hP)
   have A7:=hZ9 (DnS.QK hP)
   clear A8 hP
   go_enter Tryz.func70,Tryz.ntmps70
   go_wp2_with fail
   refine B0.mono ?_
   rintro e w0 ⟨v,rfl,hv,hb0⟩
   obtain ⟨a,c,rfl,hc,A4⟩:=hv.at
   have HC:Hid (∀k (h:k<ls.length),∃g o,a=some ⟨g,o,none⟩/\g<w0.heap.size/\∃u,w0.cell? ⟨g,o+k,none⟩=some u/\AK w0 u ls[k]):=hZ9 (fun k hk=>by
    rcases A4 with rfl | ⟨g,o,rfl,hg,hcell⟩
    · simp at hk
    · exact ⟨g,o,rfl,hg,hcell k _ (List.getElem?_eq_getElem hk)⟩)
   have C2:=hZ9 (fun k (h:k<ls.length)=>D3.out ls[k] (List.getElem_mem h))
   clear A4 hv B0
   generalize C8:ls.length=n at C3 hc⊢
   have HN:=hZ9 C8
   clear C8
   go_wp2_with fail
   go_loopw [6,26] (fun out i wr=>QJ ls w0 out i wr) (fun _ i _=>n - (intOf i).toNat)
   case atStart=>exact ⟨0,Nat.zero_le _,rfl,Own.empty _ _,Af w0 _⟩
   case round=>
    obtain ⟨k,hk,rfl,A0,hb⟩:=hrel
    rw [HN.out] at hk
    have hsz:=hb.size
    have A1:Below w.heap.size w wr:=hb0.trans (hb.mono hb0.size)
    have C7:=hE.below A1
    have B3:=hZ9 A0
    clear A0
    by_cases D1:k<n
    · have A3:k<ls.length:=by rw [HN.out];exact D1
      obtain ⟨g,o,rfl,hg,u,C6,B6⟩:=HC.out k A3
      replace C6:wr.cell? ⟨g,o+k,none⟩=some u:=(hb.cell (p:=⟨g,o+k,none⟩) hg).trans C6
      replace B6:AK wr u ls[k]:=B6.call hb (Nat.le_refl _)
      have D2:=hZ9 (DnS.map_take A3)
      have hq:=C2.out k A3
      generalize ls[k]=q at*
      obtain ⟨a1,n1,c1,rfl⟩:∃a1 n1 c1,u=.slice a1 n1 c1:=by
       obtain ⟨a1,c1,e,_⟩:=B6
       exact ⟨a1,_,c1,e⟩
      have B8:=Yx _ q wr B6 (IV hq) C7
      unfold Eu at B8
      rw [DnS.MG hq] at B8
      have B7:=fun v w h hE=>AaT v (RdS.AH q) w h (IV (RdS.Dw hq).1) hE
      unfold Et at B7
      rw [DnS.NP hq] at B7
      simp only at B8 B7
      generalize RdS.AH q=qn at*
      generalize DnS.AC q=t at*
      clear A3 B6 hq
      go_wp2_with fail
      refine B8.mono ?_;rintro e w1 ⟨v1,rfl,B1,A6⟩
      obtain ⟨a2,n2,c2,rfl⟩:∃a2 n2 c2,v1=.slice a2 n2 c2:=by
       obtain ⟨a1,c1,e,_⟩:=B1
       exact ⟨a1,_,c1,e⟩
      go_wp2_with fail
      refine (B7 _ _ B1 (C7.below A6)).mono ?_;rintro e w2 ⟨rfl,D0⟩
      have C0:=Aa A6 D0
      have D6:=C0.size
      go_wp2_with (at_builtin;refine GR (by rfl) _ _ (by rfl) w0.heap.size _ ((ls.take k).map DnS.AC) (by rfl) ((B3.out.call C0).alloc _) w2.heap.size (by rfl) t ?e1 ?e3 ?e4 ?_)
      case e1=>simp [go_sem,Ac]
      case e3=>rw [List.length_map,List.length_take];omega
      case e4=>simp;omega
      intro v' w4 A5 C9
      have B5:=hZ9 A5
      clear A5
      go_wp2_with fail
      go_roundw
      case rel=>exact ⟨k+1,by rw [HN.out];omega,by go_num,by rw [D2.out,List.map_take];exact B5.out,((hb.trans (C0.mono hsz)).alloc (by omega) _).trans C9⟩
      case measure=>simp [intOf];omega
    · have D5:k=n:=by omega
      subst D5
      have B2:ls.take k=ls:=List.take_of_length_le (by rw [HN.out];omega)
      have A0:=B3.out
      rw [B2] at A0
      have A9:=Adz _ _ wr A0.strs (by rw [List.length_map,HN.out];omega) (by have:=C5.out;omega)
      have D8:=C5.out
      have B4:=hZ9 A0
      have C1:Hid (1000<(DnS.Ak (ls.map DnS.AC)).length->DnS.GY (ls.map DnS.AC)=([],4)):=hZ9 (fun h=>by unfold DnS.GY;rw [if_pos (.inr h)])
      have B9:Hid (¬1000<(DnS.Ak (ls.map DnS.AC)).length->DnS.GY (ls.map DnS.AC)=(DnS.Ak (ls.map DnS.AC),0)):=hZ9 (fun h=>DnS.Afc (by rw [List.length_map,HN.out];omega) (by omega))
      generalize DnS.Ak (ls.map DnS.AC)=J at*
      clear B2 A0
      by_cases h1000:1000<J.length
      · have hz:(1000:Int)<(J.length:Int):=by omega
        have HR:=hZ9 (A2.out h1000)
        rw [C1.out h1000] at A9
        simp only at A9
        have C4:=A1
        clear C1 B9
        clear A2 A7
        go_wp2_with fail
        refine A9.mono ?_;rintro e w1 ⟨rfl,A6⟩
        go_wp2_with fail
        go_ret2
        exact CL.none HR.out (A1.trans (A6.mono A1.size))
      · have hz:decide ((1000:Int)<(J.length:Int))=false:=decide_eq_false (by omega)
        have HR:=hZ9 (A7.out h1000)
        rw [B9.out h1000] at A9
        simp only at A9
        clear C1 B9
        clear A2 A7
        go_wp2_with fail
        refine A9.mono ?_;rintro e w1 ⟨rfl,A6⟩
        go_wp2_with fail
        go_ret2
        exact ⟨_,by rw [HR.out];rfl,by rw [HR.out];exact (B4.out.call A6).mono hb0.size,A1.trans (A6.mono A1.size)⟩
 · have HR:=hZ9 (DnS.TF hP he)
   have D4:ls=[]:=by
    have:=DnS.TE (s:=l) (by rw [hP];exact he)
    rw [hP] at this;exact this
   subst D4
   clear hP
   have D9:(e0 !=0)=true:=by simpa using he
   go_enter Tryz.func70,Tryz.ntmps70
   go_wp2_with fail
   refine B0.mono ?_
   rintro e w0 ⟨v,rfl,hv,hb0⟩
   obtain ⟨a,c,rfl,hc,-⟩:=hv.at
   go_wp2_with fail
   go_ret2
   exact CL.none HR.out (BQ hb0 _)
end
section
open Go.RowKit
def BM (r:List UInt8 × Int) (w:World) (e:Ending) (w':World):Prop:=e=.returned (.tuple #[.string ⟨r.1.toArray⟩,.int .i64 r.2])/\Below w.heap.size w w'
def OE (r:List UInt8 × Bool) (w:World) (e:Ending) (w':World):Prop:=e=.returned (.tuple #[.string ⟨r.1.toArray⟩,.bool r.2])/\Below w.heap.size w w'
def SJ (n:Int) (w:World) (e:Ending) (w':World):Prop:=e=.returned (.int .i64 n)/\Below w.heap.size w w'
def DK (b:Bool) (w:World) (e:Ending) (w':World):Prop:=e=.returned (.bool b)/\Below w.heap.size w w'
theorem VH {l:List UInt8} {ts:List (List UInt8)} {e:Int} (h:DnS.Ad l=(ts,e)) (h0:ts=[]):DnS.EF l=([],false):=by
 unfold DnS.EF;rw [h,if_pos h0]
theorem VI {l:List UInt8} {ts:List (List UInt8)} {e:Int} (h:DnS.Ad l=(ts,e)) (h0:ts≠[]):DnS.EF l=(DnS.Ak (ts.drop 1),true):=by
 unfold DnS.EF;rw [h,if_neg h0]
theorem XO {s:List UInt8} {ts:List (List UInt8)} {e:Int} (h:DnS.Ad s=(ts,e)):(DnS.Ak (ts.drop 1)).length<=1000:=by
 have hl:=(DnS.Da s).2
 rw [h] at hl
 cases ts with
 | nil=>exact hl
 | cons t ts=>exact Nat.le_trans (DnS.AbC t ts) hl
theorem Ik (l:List UInt8) (hl:l.length<=1000000) (w:World) (hE:Env w):Calls Tryz.prog 37 #[.string ⟨l.toArray⟩] w (BM (DnS.Au l) w):=by
 have hp:=Du l hl w hE
 unfold CL at hp
 have HN:Hid (DnS.Au l=(DnS.Ak (DnS.Ad l).1,(DnS.Ad l).2)):=hZ9 rfl
 have A2:=DnS.Da l
 have HE:=hZ9 (DnS.GG (s:=l))
 generalize DnS.Ad l=T at*
 obtain ⟨ts,e0⟩:=T
 simp only at hp A2 HE HN
 go_enter Tryz.func37,Tryz.ntmps37
 go_wp2_with fail
 refine hp.mono ?_;rintro e w1 ⟨v,rfl,A0,hb⟩
 obtain ⟨a,c,rfl⟩:=A0.form
 go_wp2_with fail
 refine (OC _ ts _ A0.strs (by omega) (by omega)).mono ?_;rintro e w2 ⟨rfl,A1⟩
 go_wp2_with fail
 go_ret2
 exact ⟨by rw [HN.out];rfl,Aa hb A1⟩
theorem ZJ (l:List UInt8) (hl:l.length<=1000000) (w:World) (hE:Env w):Calls Tryz.prog 72 #[.string ⟨l.toArray⟩] w (SJ (DnS.Ad l).1.length w):=by
 have hp:=Du l hl w hE
 unfold CL at hp
 generalize DnS.Ad l=T at*
 obtain ⟨ts,e0⟩:=T
 simp only at hp
 go_enter Tryz.func72,Tryz.ntmps72
 go_wp2_with fail
 refine hp.mono ?_;rintro e w1 ⟨v,rfl,A0,hb⟩
 obtain ⟨a,c,rfl⟩:=A0.form
 go_wp2_with fail
 go_ret
 exact ⟨rfl,hb⟩
theorem XP (l:List UInt8) (hl:l.length<=1000000) (w:World) (hE:Env w):Calls Tryz.prog 46 #[.string ⟨l.toArray⟩] w (OE (DnS.EF l) w):=by
 have hp:=Du l hl w hE
 unfold CL at hp
 have A8:=DnS.Da l
 have A5:=hZ9 (DnS.GG (s:=l))
 obtain ⟨T,hT⟩:∃T,DnS.Ad l=T:=⟨_,rfl⟩
 rw [hT] at hp A8 A5
 obtain ⟨ts,e0⟩:=T
 simp only at hp A8 A5
 have hd:=XO hT
 have A3:=hZ9 (VH hT)
 have A1:=hZ9 (VI hT)
 have A0:Hid (e0≠0->ts=[]):=hZ9 (fun h=>by
  have:=DnS.MH (s:=l) (by rw [hT];exact h)
  rw [hT] at this;exact this)
 clear hT
 go_enter Tryz.func46,Tryz.ntmps46
 go_wp2_with fail
 refine hp.mono ?_;rintro e w1 ⟨v,rfl,A2,hb⟩
 obtain ⟨a,c,rfl⟩:=A2.form
 by_cases h0:ts=[]
 · have HR:=hZ9 (A3.out h0)
   clear A3 A1 A0
   subst h0
   go_wp2_with fail
   go_ret2
   exact ⟨by rw [HR.out];rfl,hb⟩
 · have HR:=hZ9 (A1.out h0)
   have B0:e0=0:=by
    by_cases he:e0=0
    · exact he
    · exact absurd (A0.out he) h0
   subst B0
   have B2:0<ts.length:=by
    rcases Nat.eq_zero_or_pos ts.length with h | h
    · exact absurd (List.eq_nil_of_length_eq_zero h) h0
    · exact h
   have hs:=A2.strs
   have HE:Hid (∀t ∈ ts.drop 1,t.length<=3000):=hZ9 (fun t ht=>A5.out t (List.mem_of_mem_drop ht))
   clear A3 A1 A0
   have B1:ts.length<=c:=by
    obtain ⟨_,_,e,hc,_⟩:=hs
    cases e;exact hc
   obtain ⟨g,o,rfl,hdr⟩:=hs.drop (k:=1) (by omega) (by omega)
   have B5:(ts.drop 1).length<=100:=by rw [List.length_drop];omega
   generalize hn:ts.length=n at*
   have HN:=hZ9 hn
   have hz:((n:Int)==0)=false:=by simp;omega
   have B4:(1:Int)<=(n:Int):=by omega
   have B6:(n:Int)<=(c:Int):=by omega
   clear hn h0
   by_cases A7:1=c
   · subst A7
     have A9:n=1:=by omega
     subst A9
     have A6:ts.drop 1=[]:=List.drop_of_length_le (by rw [HN.out];exact Nat.le_refl _)
     rw [A6] at HR HE hd
     clear hdr A6
     go_wp2_with fail
     refine (OC _ [] _ (Ai.nil _ _ _) (by simp) (by omega)).mono ?_;rintro e w2 ⟨rfl,A4⟩
     go_wp2_with fail
     go_ret2
     exact ⟨by rw [HR.out];rfl,Aa hb A4⟩
   · have B7:(1:Int)<(c:Int):=by omega
     have B3:¬c=1:=fun h=>A7 h.symm
     generalize ts.drop 1=ds at*
     go_wp2_with fail
     refine (OC _ ds _ hdr (by omega) (by omega)).mono ?_;rintro e w2 ⟨rfl,A4⟩
     go_wp2_with fail
     go_ret2
     exact ⟨by rw [HR.out];rfl,Aa hb A4⟩
theorem OG (l:List UInt8) (hl:l.length<=1000000) (w:World) (hE:Env w):Calls Tryz.prog 53 #[.string ⟨l.toArray⟩] w (BM (DnS.Au l) w):=by
 have hp:=XN l hl w hE
 unfold CL at hp
 have HN:Hid (DnS.Au l=(DnS.Ak (DnS.Ad l).1,(DnS.Ad l).2)):=hZ9 rfl
 have A1:=DnS.Da l
 have HE:=hZ9 (DnS.GG (s:=l))
 generalize DnS.Ad l=T at*
 obtain ⟨ts,e0⟩:=T
 simp only at hp A1 HE HN
 go_enter Tryz.func53,Tryz.ntmps53
 go_wp2_with fail
 refine hp.mono ?_;rintro e w1 ⟨v,rfl,A0,hb⟩
 obtain ⟨a,c,rfl⟩:=A0.form
 go_wp2_with fail
 refine (TD _ ts _ A0.strs (by omega) HE.out).mono ?_;rintro e w2 ⟨rfl,rfl⟩
 go_wp2_with fail
 go_ret2
 exact ⟨by rw [HN.out];rfl,hb⟩
end
section
open Go.RowKit
theorem Qc (v1 v2:Value) (xs ys:List (List UInt8)) (w:World) (h1:Ai w v1 xs) (h2:Ai w v2 ys) (hl:xs.length<=1000000) (A7:ys.length<=1000000):Calls Tryz.prog 119 #[v1,v2] w (DK (decide (xs=ys)) w):=by
 obtain ⟨a1,c1,rfl,A8,A0⟩:=h1
 obtain ⟨a2,c2,rfl,B0,A1⟩:=h2
 by_cases hlen:xs.length=ys.length
 · by_cases h0:xs=[]
   · subst h0
     have hy:ys=[]:=List.eq_nil_of_length_eq_zero hlen.symm
     subst hy
     refine (Tryz.slices_Equal_string_empty a1 a2 c1 0 c2 w (by omega)).mono ?_
     rintro e w' ⟨rfl,rfl⟩
     exact ⟨rfl,Below.refl _ _⟩
   · have A6:ys≠[]:=fun h=>h0 (List.eq_nil_of_length_eq_zero (by rw [hlen,h];rfl))
     rcases A0 with A0 | ⟨g1,o1,rfl,B1,A3⟩
     · exact absurd A0 h0
     rcases A1 with A1 | ⟨g2,o2,rfl,A9,A2⟩
     · exact absurd A1 A6
     have hm:∀(zs:List (List UInt8)) (g o:Nat),(∀(j:Nat) (y:List UInt8),zs[j]?=some y->w.cell? ⟨g,o+j,none⟩=some (Ac y))->∀j,j<(zs.map (fun t:List UInt8=>(⟨t.toArray⟩:ByteArray))).length->w.cell? ⟨g,o+j,none⟩=some (.string ((zs.map (fun t:List UInt8=>(⟨t.toArray⟩:ByteArray))).getD j ByteArray.empty)):=fun zs g o hz j hj=>by
      have A5:j<zs.length:=by simpa using hj
      rw [hz j zs[j] (List.getElem?_eq_getElem A5),List.getD_eq_getElem?_getD,List.getElem?_map,List.getElem?_eq_getElem A5]
      rfl
     refine (Tryz.slices_Equal_string g1 o1 xs.length c1 g2 o2 ys.length c2 _ _ w (by rw [List.length_map];omega) (by rw [List.length_map];omega) (by omega) (by omega) (hm xs g1 o1 A3) (hm ys g2 o2 A2)).mono ?_
     rintro e w' ⟨rfl,q,rfl⟩
     refine ⟨?_,below_drewN w q⟩
     have A4:((xs.map (fun t:List UInt8=>(⟨t.toArray⟩:ByteArray))).take xs.length=(ys.map (fun t:List UInt8=>(⟨t.toArray⟩:ByteArray))).take ys.length)↔xs=ys:=by
      rw [List.take_of_length_le (by rw [List.length_map];exact Nat.le_refl _),List.take_of_length_le (by rw [List.length_map];exact Nat.le_refl _)]
      constructor
      · intro h
        have h2:=congrArg (List.map (fun b:ByteArray=>b.data.toList)) h
        rw [List.map_map,List.map_map] at h2
        have e:((fun b:ByteArray=>b.data.toList) ∘ fun t:List UInt8=>(⟨t.toArray⟩:ByteArray))=id:=by funext t;simp
        rw [e,List.map_id,List.map_id] at h2
        exact h2
      · intro h;rw [h]
     simp only [A4]
 · refine (Tryz.slices_Equal_string_lens a1 a2 xs.length c1 ys.length c2 w hlen).mono ?_
   rintro e w' ⟨rfl,rfl⟩
   exact ⟨by rw [decide_eq_false (fun h=>hlen (by rw [h]))],Below.refl _ _⟩
def PartOf (r:Option (List (List UInt8))) (w:World) (e:Ending) (w':World):Prop:=∃v,e=.returned (.tuple #[v,.bool r.isSome])/\Ai w' v (r.getD [])/\Below w.heap.size w w'
theorem PartOf.no {r:Option (List (List UInt8))} {w w':World} (h:r=none) (hb:Below w.heap.size w w'):PartOf r w (.returned (.tuple #[.slice none 0 0,.bool false])) w':=by
 subst h;exact ⟨_,rfl,Ai.empty w',hb⟩
theorem PartOf.yes {r:Option (List (List UInt8))} {q:List (List UInt8)} {v:Value} {w w':World} (h:r=some q) (hv:Ai w' v q) (hb:Below w.heap.size w w'):PartOf r w (.returned (.tuple #[v,.bool true])) w':=by
 subst h;exact ⟨_,rfl,hv,hb⟩
theorem ZK {a b:List (List UInt8)} (h:a.length<b.length):DnS.CS a b=none:=by unfold DnS.CS;rw [if_pos h]
theorem ZM {a b:List (List UInt8)} (h:¬a.length<b.length) (h2:a.drop (a.length - b.length)=b):DnS.CS a b=some (a.take (a.length - b.length)):=by unfold DnS.CS;rw [if_neg h,if_pos h2]
theorem Acf {a b:List (List UInt8)} (h:¬a.length<b.length) (h2:¬a.drop (a.length - b.length)=b):DnS.CS a b=none:=by unfold DnS.CS;rw [if_neg h,if_neg h2]
theorem Own.plain {w:World} {B:Nat} {v:Value} {xs:List (List UInt8)} (h:Own w B v xs):(v=.slice none 0 0/\xs=[])\/∃g c,v=.slice (some ⟨g,0,none⟩) xs.length c/\xs.length<=c:=by
 rcases h.2 with ⟨rfl,hn⟩ | ⟨g,cap,cur,rfl,_,_,hn,_⟩
 · exact .inl ⟨rfl,List.eq_nil_of_length_eq_zero hn⟩
 · exact .inr ⟨g,cap,rfl,hn⟩
theorem TG (v1 v2:Value) (xs ys:List (List UInt8)) (w:World) (B1:Nat) (h1:Own w B1 v1 xs) (h2:Ai w v2 ys) (hl:xs.length<=1000) (B5:ys.length<=1000):Calls Tryz.prog 81 #[v1,v2] w (PartOf (DnS.CS xs ys) w):=by
 have A1:=h1.strs
 obtain ⟨a2,c2,rfl⟩:=h2.form
 by_cases A2:xs.length<ys.length
 · have HR:=hZ9 (ZK A2)
   obtain ⟨a1,c1,rfl⟩:=h1.form
   clear h1 h2 A1
   generalize xs.length=n at*
   generalize ys.length=m at*
   have hz:(n:Int) - (m:Int)<0:=by omega
   go_enter Tryz.func81,Tryz.ntmps81
   go_wp2_with fail
   go_ret2
   exact PartOf.no HR.out (Below.refl _ _)
 · obtain ⟨k,hk⟩:∃k,xs.length=k+ys.length:=⟨xs.length - ys.length,by omega⟩
   have A3:xs.length - ys.length=k:=by omega
   have HY:=hZ9 (ZM A2)
   have A0:=hZ9 (Acf A2)
   rw [A3] at HY A0
   rcases h1.plain with ⟨rfl,rfl⟩ | ⟨g,c1,rfl,A8⟩
   · have A9:k=0:=by simp at hk;omega
     have B3:ys=[]:=List.eq_nil_of_length_eq_zero (by simp at hk;omega)
     subst A9;subst B3
     have HR:=hZ9 (HY.out rfl)
     clear HY A0 A3 hk A1 h1 A2
     go_enter Tryz.func81,Tryz.ntmps81
     go_wp2_with fail
     refine (Qc _ _ [] [] _ (Ai.nil _ _ _) h2 (by simp) (by simp)).mono ?_;rintro e w1 ⟨rfl,hb⟩
     rw [decide_eq_true rfl]
     go_wp2_with fail
     go_ret2
     exact PartOf.yes HR.out (Ai.nil _ _ _) hb
   · have A5:Ai w (.slice (some ⟨g,0,none⟩) k c1) (xs.take k):=A1.take (k:=k) (by omega)
     have A7:=hZ9 A5
     have A4:(xs.drop k).length=ys.length:=by rw [List.length_drop];omega
     by_cases B0:k=c1
     · have hy:ys=[]:=List.eq_nil_of_length_eq_zero (by omega)
       subst hy
       have hd:xs.drop k=[]:=List.eq_nil_of_length_eq_zero (by rw [A4];rfl)
       have HR:=hZ9 (HY.out hd)
       subst B0
       have A6:xs.length=k:=by simpa using hk
       rw [A6] at hl⊢
       have H2:=hZ9 h2
       clear h1 h2 hk A3 HY A0 A5 A4 hd A2 A8 A6 A1
       go_enter Tryz.func81,Tryz.ntmps81
       go_wp2_with fail
       refine (Qc _ _ [] [] _ (Ai.nil _ _ _) H2.out (by simp) (by simp)).mono ?_;rintro e w1 ⟨rfl,hb⟩
       rw [decide_eq_true rfl]
       go_wp2_with fail
       go_ret2
       exact PartOf.yes HR.out (A7.out.call hb (Nat.le_refl _)) hb
     · have hdr:Ai w (.slice (some ⟨g,0+k,none⟩) (xs.length - k) (c1 - k)) (xs.drop k):=by
        rcases Nat.eq_zero_or_pos xs.length with h0 | h0
        · have:xs=[]:=List.eq_nil_of_length_eq_zero h0
          subst this
          simpa using Ai.nil w _ _
        · obtain ⟨g',o',e,h⟩:=A1.drop (k:=k) (by omega) h0
          cases e;exact h
       rw [Nat.zero_add,hk,Nat.add_sub_cancel_left] at hdr
       have B4:=hZ9 hdr
       have H2:=hZ9 h2
       have B2:k<=c1:=by omega
       rw [hk] at hl A8⊢
       generalize hm:ys.length=m at*
       have HX:=hZ9 (⟨by omega,by omega⟩:(xs.drop k).length<=1000000/\ys.length<=1000000)
       clear h1 h2 hk A3 A5 A4 A1 hm A2 hdr
       go_enter Tryz.func81,Tryz.ntmps81
       go_wp2_with fail
       refine (Qc _ _ (xs.drop k) ys _ B4.out H2.out HX.out.1 HX.out.2).mono ?_;rintro e w1 ⟨rfl,hb⟩
       by_cases hd:xs.drop k=ys
       · have HR:=hZ9 (HY.out hd)
         rw [decide_eq_true hd]
         clear hd HY A0
         go_wp2_with fail
         go_ret2
         exact PartOf.yes HR.out (A7.out.call hb (Nat.le_refl _)) hb
       · have HR:=hZ9 (A0.out hd)
         rw [decide_eq_false hd]
         clear hd HY A0
         go_wp2_with fail
         go_ret2
         exact PartOf.no HR.out hb
theorem QM (a b:List UInt8) (ha:a.length<=1000000) (hb0:b.length<=1000000) (w:World) (hE:Env w):Calls Tryz.prog 47 #[.string ⟨a.toArray⟩,.string ⟨b.toArray⟩] w (DK (DnS.ED a b) w):=by
 have hp:=Du a ha w hE
 have hq:=fun w hE=>Du b hb0 w hE
 unfold CL at hp hq
 have HU:Hid (DnS.ED a b=(decide ((DnS.Ad a).2=0)&&decide ((DnS.Ad b).2=0)&&(DnS.CS (DnS.Ad a).1 (DnS.Ad b).1).isSome)):=hZ9 rfl
 have A8:=(DnS.Da a).1
 have A7:=(DnS.Da b).1
 generalize DnS.Ad a=X at*
 generalize DnS.Ad b=Y at*
 obtain ⟨tx,ex⟩:=X
 obtain ⟨ty,ey⟩:=Y
 simp only at hp hq A8 A7 HU
 go_enter Tryz.func47,Tryz.ntmps47
 go_wp2_with fail
 refine hp.mono ?_;rintro e w1 ⟨v1,rfl,A3,A1⟩
 go_wp2_with fail
 refine (hq _ (hE.below A1)).mono ?_;rintro e w2 ⟨v2,rfl,A2,A0⟩
 have A5:=Aa A1 A0
 go_wp2_with fail
 refine (TG _ _ tx ty _ w.heap.size (A3.call A0) A2.strs (by omega) (by omega)).mono ?_;rintro e w3 ⟨v3,rfl,-,A4⟩
 have HB:=hZ9 (Aa A5 A4)
 generalize (DnS.CS tx ty).isSome=r at*
 clear hp hq A3 A2 A1 A0 A4 A5
 by_cases hx:ex=0 <;> by_cases hy:ey=0 <;> cases r
 all_goals
  have hx1:(ex==0)=decide (ex=0):=rfl
  have A6:(ey==0)=decide (ey=0):=rfl
  have HV:=HU.out
  simp only [hx,hy,decide_true,decide_false,Bool.and_true,Bool.and_false] at hx1 A6 HV
  have HR:=hZ9 HV
  clear HV HU
  try subst hx
  try subst hy
  go_wp2_with fail
  go_ret
  exact ⟨by rw [HR.out];rfl,HB.out⟩
end
section
open Go.RowKit
theorem VJ {nm v:List UInt8} {t:List UInt8} {sy:Int} (h:RuS.typeOf nm=(t,sy)) (h5:sy≠5):DnS.AB nm v=RuS.normal nm v:=by
 unfold DnS.AB;rw [h,if_neg h5]
theorem XQ {nm v:List UInt8} {t:List UInt8} (h:RuS.typeOf nm=(t,5)):DnS.AB nm v=if (DnS.Au v).2≠0\/(DnS.Au v).1=[]\/200<v.length then ([],2) else ((DnS.Au v).1,0):=by
 rw [DnS.Zo,h,if_pos rfl]
theorem BM.mk' {r q:List UInt8 × Int} {w w':World} (h:r=q) (hb:Below w.heap.size w w'):BM r w (.returned (.tuple #[.string ⟨q.1.toArray⟩,.int .i64 q.2])) w':=by subst h;exact ⟨rfl,hb⟩
theorem Gj (nm v:List UInt8) (hn:nm.length<=1048576) (hv:v.length<=1000000) (w:World) (hE:Env w):Calls Tryz.prog 92 #[.string ⟨nm.toArray⟩,.string ⟨v.toArray⟩] w (BM (DnS.AB nm v) w):=by
 have f1:(⟨nm.toArray⟩:ByteArray).size<=9223372036854775807:=by show nm.toArray.size<=_;rw [List.size_toArray];omega
 have f2:(⟨v.toArray⟩:ByteArray).size<=9223372036854775807:=by show v.toArray.size<=_;rw [List.size_toArray];omega
 have A1:=FW ⟨nm.toArray⟩ f1 w
 have A4:=fun w hE=>EX ⟨nm.toArray⟩ ⟨v.toArray⟩ f1 f2 w hE
 have A3:=fun w hE=>Ik v hv w hE
 unfold Am at A1
 unfold Ba at A4
 unfold BM at A3
 simp only at A1 A4
 obtain ⟨T,hT⟩:∃T,RuS.typeOf nm=T:=⟨_,rfl⟩
 rw [hT] at A1
 obtain ⟨t,sy⟩:=T
 have HT:=hZ9 hT
 simp only at A1
 clear hT f1 f2
 by_cases h5:sy=5
 · subst h5
   have HV:=hZ9 (XQ (v:=v) HT.out)
   clear A4
   generalize DnS.Au v=N at*
   obtain ⟨n,e0⟩:=N
   simp only at A3 HV
   by_cases he:e0=0
   · subst he
     by_cases A5:n=[]
     · have HR:=hZ9 (HV.out.trans (if_pos (.inr (.inl A5))))
       have A7:n.isEmpty=true:=by rw [A5];rfl
       clear HV
       go_enter Tryz.func92,Tryz.ntmps92
       go_wp2_with fail
       refine A1.mono ?_;rintro e w1 ⟨rfl,A0⟩
       go_wp2_with fail
       refine (A3 _ (hE.below A0)).mono ?_;rintro e w2 ⟨rfl,A2⟩
       go_wp2_with fail
       go_ret2
       exact BM.mk' HR.out (Aa A0 A2)
     · have A7:n.isEmpty=false:=by simpa using A5
       by_cases h200:200<v.length
       · have HR:=hZ9 (HV.out.trans (if_pos (.inr (.inr h200))))
         have hz:(200:Int)<(v.length:Int):=by omega
         clear HV
         go_enter Tryz.func92,Tryz.ntmps92
         go_wp2_with fail
         refine A1.mono ?_;rintro e w1 ⟨rfl,A0⟩
         go_wp2_with fail
         refine (A3 _ (hE.below A0)).mono ?_;rintro e w2 ⟨rfl,A2⟩
         go_wp2_with fail
         go_ret2
         exact BM.mk' HR.out (Aa A0 A2)
       · have HR:=hZ9 (HV.out.trans (if_neg (fun h=>h.elim (fun h=>h rfl) (fun h=>h.elim A5 h200))))
         have hz:decide ((200:Int)<(v.length:Int))=false:=decide_eq_false (by omega)
         clear HV
         go_enter Tryz.func92,Tryz.ntmps92
         go_wp2_with fail
         refine A1.mono ?_;rintro e w1 ⟨rfl,A0⟩
         go_wp2_with fail
         refine (A3 _ (hE.below A0)).mono ?_;rintro e w2 ⟨rfl,A2⟩
         go_wp2_with fail
         go_ret2
         exact BM.mk' HR.out (Aa A0 A2)
   · have HR:=hZ9 (HV.out.trans (if_pos (.inl he)))
     have A6:(e0 !=0)=true:=by simpa using he
     clear HV
     go_enter Tryz.func92,Tryz.ntmps92
     go_wp2_with fail
     refine A1.mono ?_;rintro e w1 ⟨rfl,A0⟩
     go_wp2_with fail
     refine (A3 _ (hE.below A0)).mono ?_;rintro e w2 ⟨rfl,A2⟩
     go_wp2_with fail
     go_ret2
     exact BM.mk' HR.out (Aa A0 A2)
 · have HR:=hZ9 (VJ (v:=v) HT.out h5)
   have A6:(sy !=5)=true:=by simpa using h5
   generalize RuS.normal nm v=R at*
   obtain ⟨r,e0⟩:=R
   simp only at A4
   clear A3
   go_enter Tryz.func92,Tryz.ntmps92
   go_wp2_with fail
   refine A1.mono ?_;rintro e w1 ⟨rfl,A0⟩
   go_wp2_with fail
   refine (A4 _ (hE.below A0)).mono ?_;rintro e w2 ⟨rfl,A2⟩
   go_wp2_with fail
   go_ret2
   exact BM.mk' HR.out (Aa A0 A2)
end
section
open Go.RowKit
theorem XR {ts:List (List UInt8)} (h:∀t ∈ ts,t.length<=3000) (hn:ts.length<=100):(DnS.Ak ts).length<=1000000:=by
 have h1:=DnS.Kr ts h
 have:ts.length*(3000+1)<=100*3001:=Nat.mul_le_mul_right _ hn
 omega
end
end Go.Proofs.YtgngjfjaelgaeaaGreatDoor
