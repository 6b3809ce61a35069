/- The walks of a trail of names, of 'In' and 'At', and of finding a name, the program's. Conditions: as stated. -/
import Derived.Test.YtgngjfjaelgaeaaGreatDoorKRes
set_option maxRecDepth 100000
set_option maxHeartbeats 8000000
namespace Go.Proofs.YtgngjfjaelgaeaaGreatDoor
section
open Go.RowKit
theorem Abc {a b:List UInt8} (h:(⟨a.toArray⟩:ByteArray)=⟨b.toArray⟩):a=b:=by
 have:=congrArg (fun x:ByteArray=>x.data.toList) h
 simpa using this
theorem UK (xs:List (List UInt8)) (l:List UInt8):Lib.containsS (xs.map fun l=>(⟨l.toArray⟩:ByteArray)) ⟨l.toArray⟩=xs.contains l:=by
 rw [Bool.eq_iff_iff,Lib.containsS_iff,List.contains_iff_mem,List.mem_map]
 constructor
 · rintro ⟨x,hx,he⟩
   rw [<-Abc he]
   exact hx
 · intro h
   exact ⟨l,h,rfl⟩
theorem contains_c (v:Value) (xs:List (List UInt8)) (l:List UInt8) (w:World) (h:Ai w v xs) (hl:xs.length<=1048576):Calls Tryz.prog 50 #[v,.string ⟨l.toArray⟩] w fun e w'=>e=.returned (.bool (xs.contains l))/\w'=w:=by
 obtain ⟨a,c,rfl,hc,A0⟩:=h
 rcases A0 with rfl | ⟨g,o,rfl,hg,hcell⟩
 · exact Tryz.slices_Contains_string_empty a c ⟨l.toArray⟩ w
 · refine (Tryz.slices_Contains_string g o xs.length c (xs.map fun l=>⟨l.toArray⟩) ⟨l.toArray⟩ w (by simp) (by omega) (fun j hj=>?_)).mono ?_
   · have A1:j<xs.length:=by simpa using hj
     rw [hcell j _ (List.getElem?_eq_getElem A1)]
     unfold Ac
     simp [List.getD,A1]
   · rintro e w' ⟨rfl,rfl⟩
     rw [List.take_of_length_le (by simp),UK]
     exact ⟨rfl,rfl⟩
theorem Yz {w:World} {ops:Array Oper} {rest:List Oper} {o:Oper} {a:Act} {Q:Exit->Act->World->Prop} (A4:o.guard=none) (s x:Operand)
  (ho:o.op=.call { callee:=.builtin .append,args:=#[s,x],argTypes:=#[23,23] })
  (B:Nat) (v:Value) (xs:List (List UInt8)) (hs:a.eval s=v) (A0:Own w B v xs) (g:Nat) (hx:a.eval x=.slice (some ⟨g,0,Option.none⟩) 1 1)
  (y:List UInt8) (hc:w.cell? ⟨g,0,Option.none⟩=some (Ac y)) (hn:xs.length<=1000000000) (hB:B<=w.heap.size)
  (h:∀v' w',Own w' B v' (xs++[y])->Below B w w'->w.grownBy w' v.ownBlock->wpList Tryz.prog ops Q rest (a.put o.dst v') w'):wpList Tryz.prog ops Q (o :: rest) a w:=by
 obtain ⟨i0,hi,A5,A3,A6⟩:=info_parts GQ
 refine wpList_append_own w A4 s x _ ho B 9 i0 (.string ⟨#[]⟩) 1 16 Tryz.underlying23 hi A5 A3 A6 rfl (by decide) v xs.length (xs.map Ac) hs A0 ⟨g,0,Option.none⟩ 1 1 [Ac y] hx rfl
  (fun j u hj=>?_) (fun u hu=>?_) (by unfold maxLen;omega) (by omega) hB (fun v' w' h1 h2 _=>h v' w' ?_ ?_ h2)
 · have A2:j=0:=by
    rcases Nat.eq_zero_or_pos j with h | h
    · exact h
    · rw [List.getElem?_eq_none (by simp;omega)] at hj;cases hj
   subst A2
   have A1:(⟨g,0,Option.none⟩:Addr).add 0=⟨g,0,Option.none⟩:=by unfold Addr.add;split <;> simp_all
   rw [A1,hc]
   simpa using hj
 · rw [List.mem_singleton] at hu;subst hu;rfl
 · unfold Own
   rw [List.map_append,List.length_append]
   exact h1
 · exact (Below.refl B w).grown h2 hB (fun k hk=>(World.ownsRow.lt A0 k hk).1)
def Em (w:World) (B b:Nat) (seen:List (List UInt8)):Prop:=∃v,Whole w b 116 #[v]/\Own w B v seen/\B<=b
theorem Own.apart {w:World} {B:Nat} {v:Value} {xs:List (List UInt8)} (h:Own w B v xs) {b:Nat} {T:TypeId} {cs:Array Value} (hb:Whole w b T cs) (hT:T≠9):v.ownBlock≠some b:=fun e=>by
 rcases h.2 with ⟨rfl,_⟩ | ⟨g,cap,cur,rfl,_,hh,_⟩
 · cases e
 · have:g=b:=by simpa [Value.ownBlock] using e
   subst this
   unfold Whole at hb
   rw [hh] at hb
   simp only [Option.some.injEq,Obj.cells.injEq] at hb
   exact hT hb.2.1.symm
theorem Em.call {w w':World} {B b:Nat} {seen:List (List UInt8)} (h:Em w B b seen) (hb:Below w.heap.size w w'):Em w' B b seen:=by
 obtain ⟨v,h1,h2,h3⟩:=h
 exact ⟨v,h1.call hb,h2.call hb,h3⟩
def AcV (l:List UInt8) (w:World) (e:Ending) (w':World):Prop:=∃b,e=.returned (.pointer (some ⟨b,0,none⟩))/\Em w' w.heap.size b [l]/\Below w.heap.size w w'
theorem Xq (l:List UInt8) (w:World):Calls Tryz.prog 38 #[.string ⟨l.toArray⟩] w (AcV l w):=by
 have A2:=Af w (.cells #[.string ⟨l.toArray⟩] 9)
 have A0:=Af (w.alloc (.cells #[.string ⟨l.toArray⟩] 9)) (.cells #[.slice (some ⟨w.heap.size,0,none⟩) 1 1] 116)
 have A1:=Whole.made (w.alloc (.cells #[.string ⟨l.toArray⟩] 9)) 116 #[.slice (some ⟨w.heap.size,0,none⟩) 1 1]
 have ho:Own (w.alloc (.cells #[.string ⟨l.toArray⟩] 9)) w.heap.size (.slice (some ⟨w.heap.size,0,none⟩) 1 1) [l]:=by
  refine ⟨rfl,.inr ⟨w.heap.size,1,#[.string ⟨l.toArray⟩],rfl,Nat.le_refl _,heap_alloc_new w _,Nat.le_refl _,by unfold maxLen;omega,rfl,rfl⟩⟩
 have hsz:(w.alloc (.cells #[.string ⟨l.toArray⟩] 9)).heap.size=w.heap.size+1:=by show (w.heap.push _).size=_;simp
 rw [hsz] at A1
 go_enter Tryz.func38,Tryz.ntmps38
 go_wp2_with fail
 go_ret
 exact ⟨_,rfl,⟨_,A1,ho.call A0,Nat.le_succ _⟩,Aa A2 A0⟩
def Og (seen:List (List UInt8)) (w:World) (e:Ending) (w':World):Prop:=e=.returned (.bool (decide (1<seen.length)))/\w=w'
theorem JR (b B:Nat) (seen:List (List UInt8)) (w:World) (h:Em w B b seen):Calls Tryz.prog 43 #[.pointer (some ⟨b,0,none⟩)] w (Og seen w):=by
 obtain ⟨v,h1,h2,h3⟩:=h
 obtain ⟨a,c,rfl⟩:=h2.form
 have q0:=h1.cell 0
 simp only [List.getElem?_toArray,List.getElem?_cons_zero] at q0
 have hd:decide ((1:Int)<(seen.length:Int))=decide (1<seen.length):=by
  by_cases h:1<seen.length
  · rw [decide_eq_true h,decide_eq_true (by omega)]
  · rw [decide_eq_false h,decide_eq_false (by omega)]
 have HD:=hZ9 hd
 clear h1 h2 hd
 unfold Og
 generalize seen.length=n at*
 go_enter Tryz.func43,Tryz.ntmps43
 go_wp2_with fail
 go_ret
 exact ⟨by rw [<-HD.out];rfl,rfl⟩
def MS (seen:List (List UInt8)):Int:=if 1<seen.length then 33 else 32
theorem AcW {seen:List (List UInt8)} (h:1<seen.length):MS seen=33:=if_pos h
theorem Aei {seen:List (List UInt8)} (h:¬1<seen.length):MS seen=32:=if_neg h
def Aej (seen:List (List UInt8)) (w:World) (e:Ending) (w':World):Prop:=e=.returned (.int .i64 (MS seen))/\w=w'
theorem Abd (b B:Nat) (seen:List (List UInt8)) (w:World) (h:Em w B b seen):Calls Tryz.prog 42 #[.pointer (some ⟨b,0,none⟩)] w (Aej seen w):=by
 have hm:=JR b B seen w h
 unfold Og at hm
 by_cases hs:1<seen.length
 · rw [decide_eq_true hs] at hm
   have HR:Hid (MS seen=33):=hZ9 (AcW hs)
   go_enter Tryz.func42,Tryz.ntmps42
   go_wp2_with fail
   refine hm.mono ?_;rintro e w1 ⟨rfl,rfl⟩
   go_wp2_with fail
   go_ret
   exact ⟨by rw [HR.out];rfl,rfl⟩
 · rw [decide_eq_false hs] at hm
   have HR:Hid (MS seen=32):=hZ9 (Aei hs)
   go_enter Tryz.func42,Tryz.ntmps42
   go_wp2_with fail
   refine hm.mono ?_;rintro e w1 ⟨rfl,rfl⟩
   go_wp2_with fail
   go_ret
   exact ⟨by rw [HR.out];rfl,rfl⟩
def Ad6 (b B:Nat) (seen:List (List UInt8)) (l:List UInt8) (w:World) (e:Ending) (w':World):Prop:=
 (seen.contains l=true\/16<seen.length)/\e=.returned (.bool false)/\w=w'\/
 (¬(seen.contains l=true\/16<seen.length))/\e=.returned (.bool true)/\Em w' B b (seen++[l])/\Below B w w'
theorem Abe (b B:Nat) (seen:List (List UInt8)) (l:List UInt8) (w:World) (h:Em w B b seen) (hl:seen.length<=1000):Calls Tryz.prog 40 #[.pointer (some ⟨b,0,none⟩),.string ⟨l.toArray⟩] w (Ad6 b B seen l w):=by
 obtain ⟨v,h1,h2,h3⟩:=h
 have A1:=contains_c v seen l w h2.strs (by omega)
 have A7:=h2.apart h1 (by decide)
 have A3:=h2.form
 obtain ⟨a,c,B5⟩:=A3
 unfold Ad6
 have q0:=h1.cell 0
 have q1:=h1.thaw 0
 simp only [List.getElem?_toArray,List.getElem?_cons_zero] at q0
 subst B5
 cases A4:seen.contains l with
 | true=>
  rw [A4] at A1
  clear A4 h1 h2 A7
  generalize seen.length=n at*
  go_enter Tryz.func40,Tryz.ntmps40
  go_wp2_with fail
  refine A1.mono ?_;rintro e w1 ⟨rfl,rfl⟩
  go_wp2_with fail
  go_ret
  exact .inl ⟨.inl (by trivial),rfl,rfl⟩
 | false=>
  rw [A4] at A1
  by_cases h16:16<seen.length
  · have HR:Hid (16<seen.length):=hZ9 h16
    have hz:(16:Int)<(seen.length:Int):=by omega
    clear A4 h1 h2 A7
    generalize seen.length=n at*
    go_enter Tryz.func40,Tryz.ntmps40
    go_wp2_with fail
    refine A1.mono ?_;rintro e w1 ⟨rfl,rfl⟩
    go_wp2_with fail
    go_ret
    exact .inl ⟨.inr HR.out,rfl,rfl⟩
  · have HR:Hid (¬16<seen.length):=hZ9 h16
    have hz:decide ((16:Int)<(seen.length:Int))=false:=decide_eq_false (by omega)
    have A5:=h1.lt
    have B1:B<=w.heap.size:=Nat.le_trans h3 (Nat.le_of_lt A5)
    have B0:=Af w (.cells #[.string ⟨l.toArray⟩] 9)
    have HW:=hZ9 (h1.call B0)
    have HO:=hZ9 (h2.call B0)
    have HA:=hZ9 A7
    have HL:=hZ9 A5
    have B3:=hZ9 ((Below.refl B w).alloc B1 (.cells #[.string ⟨l.toArray⟩] 9))
    clear A4 h1 h2 A7 B0
    generalize B6:seen.length=n at*
    go_enter Tryz.func40,Tryz.ntmps40
    go_wp2_with fail
    refine A1.mono ?_;rintro e w1 ⟨rfl,rfl⟩
    go_wp2_with (at_builtin;refine Yz (by rfl) _ _ (by rfl) B _ seen (by rfl) HO.out w1.heap.size (by rfl) l ?e1 ?e2 ?e3 ?_)
    case e1=>simp [go_sem,Ac]
    case e2=>omega
    case e3=>exact Nat.le_trans B1 (B3.out.size)
    intro v' w2 A0 B4 B8
    obtain ⟨va,vc,B2⟩:=A0.form
    rw [List.length_append,List.length_singleton,B6] at B2
    subst B2
    have A6:Whole w2 b 116 #[.slice a n c]:=(B8.block b (Nat.lt_of_lt_of_le HL.out (Af w1 _).size) (fun e=>HA.out e.symm)).trans HW.out
    have q2:=A6.cell 0
    have q3:=A6.thaw 0
    simp only [List.getElem?_toArray,List.getElem?_cons_zero] at q2
    have A9:=A0.apart A6 (by decide)
    have A8:=A6.put 0 (.slice va (n+1) vc)
    have A2:=ownsRow_setCell_other A0 (a:=⟨b,0,none⟩) A9 (.slice va (n+1) vc)
    have B7:=(B3.out.trans B4).setCell (p:=⟨b,0,none⟩) h3 (.slice va (n+1) vc)
    clear A1 HO HW
    go_wp2_with fail
    go_ret
    exact .inr ⟨fun h=>h.elim (fun h=>by cases h) HR.out,rfl,⟨_,A8,A2,h3⟩,B7⟩
theorem Aek (name n:List UInt8) (u:Value) (b1:Nat) (w:World) (h1:w.cell? ⟨b1,0,none⟩=some (.string ⟨n.toArray⟩)):
  Calls Tryz.prog 75 #[.agg #[.string ⟨name.toArray⟩,u],.pointer (some ⟨b1,0,none⟩)] w (DK (name==n) w):=by
 have A0:=Af w (.cells #[.string ⟨name.toArray⟩,u] 52)
 have h2:=Ab h1 A0
 go_enter Tryz.func75,Tryz.ntmps75
 go_wp2_with fail
 go_ret
 exact ⟨rfl,A0⟩
def EU (n:List UInt8) (e:EnS.En):Bool:=e.name==n
theorem Ael (n:List UInt8) (v:Value) (xs:List EnS.En) (b1:Nat) (w:World) (h1:w.cell? ⟨b1,0,none⟩=some (.string ⟨n.toArray⟩)) (h:Bq w v xs) (hl:xs.length<=1048576):
  Calls Tryz.prog 114 #[v,.func (.func 75) #[] #[.pointer (some ⟨b1,0,none⟩)]] w (Gk (xs.findIdx? (EU n)) w):=by
 obtain ⟨a,c,rfl,hc,A8⟩:=Ae.at h
 have B1:=hZ9 A8
 have A3:=hZ9 (fun k (hk:k<xs.length)=>IW (p:=EU n) hk)
 have A2:=hZ9 (NS (p:=EU n) (xs:=xs))
 have A9:=hZ9 (fun k (hk:k<xs.length)=>take_miss (p:=EU n) hk)
 have HP:Hid (∀e:EnS.En,EU n e=(e.name==n)):=hZ9 (fun _=>rfl)
 generalize xs.findIdx? (EU n)=R at*
 generalize EU n=p at*
 clear A8 h
 generalize B0:xs.length=m at hc hl⊢
 have HN:=hZ9 B0
 clear B0
 go_enter Tryz.func114,Tryz.ntmps114
 go_wp2_with fail
 go_loopw [8] (fun i wr=>∃k:Nat,k<=m/\i=.int .i64 k/\Hid (∀x ∈ xs.take k,p x=false)/\Below w.heap.size w wr) (fun i _=>m - (intOf i).toNat)
 case atStart=>exact ⟨0,Nat.zero_le _,rfl,hZ9 (fun x hx=>by cases hx),Below.refl _ _⟩
 case round=>
  obtain ⟨k,hk,rfl,HA,hb⟩:=hrel
  by_cases B2:k<m
  · have A0:k<xs.length:=by rw [HN.out];exact B2
    obtain ⟨g,o,rfl,hg,_,hra⟩:=B1.out k A0
    obtain ⟨c0,a1,p1,c1,B3,A1⟩:=Db.parts (Db.call hra hg trivial hb)
    have k1:=Ab h1 hb
    have HF:=hZ9 (A3.out k A0 HA.out)
    have HT:=hZ9 (A9.out k A0 HA.out)
    have A7:=hZ9 (HP.out xs[k])
    generalize xs[k]=x at*
    obtain ⟨name,attrs⟩:=x
    simp only at c0 c1 A7
    have A4:=Aek name n (.slice a1 attrs.length p1) b1 wr k1
    unfold DK at A4
    clear hra A0 A3 A2 A9 A1 HP
    generalize attrs.length=n1 at*
    cases hq:(name==n) with
    | true=>
     have HR:=hZ9 (HF.out (A7.out.trans hq))
     rw [hq] at A4
     clear hq HF HT
     go_wp2_with fail
     refine A4.mono ?_;rintro e w1 ⟨rfl,A6⟩
     go_wp2_with fail
     go_ret
     exact ⟨by rw [HR.out];rfl,hb.trans (A6.mono hb.size)⟩
    | false=>
     have HR:=hZ9 (HT.out (A7.out.trans hq))
     rw [hq] at A4
     clear hq HF HT
     go_wp2_with fail
     refine A4.mono ?_;rintro e w1 ⟨rfl,A6⟩
     go_wp2_with fail
     go_roundw
     case rel=>exact ⟨k+1,by omega,by go_num,HR,hb.trans (A6.mono hb.size)⟩
     case measure=>simp [intOf];omega
  · have A5:Hid (R=none):=hZ9 (A2.out (by have:=HA.out;rwa [List.take_of_length_le (by rw [HN.out];omega)] at this))
    go_wp2_with fail
    go_ret
    exact ⟨by rw [A5.out];rfl,hb⟩
theorem Aem (n:List UInt8) (v:Value) (xs:List EnS.En) (b1:Nat) (w:World) (h1:w.cell? ⟨b1,0,none⟩=some (.string ⟨n.toArray⟩)) (h:Bq w v xs) (hl:xs.length<=1048576):
  Calls Tryz.prog 74 #[v,.func (.func 75) #[] #[.pointer (some ⟨b1,0,none⟩)]] w (DK (EnS.inS xs n) w):=by
 have hi:=Ael n v xs b1 w h1 h hl
 have HR:Hid (EnS.inS xs n=(xs.findIdx? (EU n)).isSome):=hZ9 (by rw [List.findIdx?_isSome];rfl)
 unfold Gk at hi
 generalize EnS.inS xs n=R at*
 generalize xs.findIdx? (EU n)=I at*
 have HI:=hZ9 (WR I)
 generalize Ks I=z at*
 obtain ⟨a,c,rfl,_⟩:=Ae.form h
 generalize xs.length=m at*
 go_enter Tryz.func74,Tryz.ntmps74
 go_wp2_with fail
 refine hi.mono ?_;rintro e w1 ⟨rfl,A0⟩
 go_wp2_with fail
 go_ret
 exact ⟨by rw [HR.out,<-HI.out];rfl,A0⟩
theorem Afv (n:List UInt8) (v:Value) (xs:List EnS.En) (w:World) (h:Bq w v xs) (hl:xs.length<=1048576):
  Calls Tryz.prog 41 #[v,.string ⟨n.toArray⟩] w (DK (EnS.inS xs n) w):=by
 have A2:∀(fn:Fn) (first cap:Array Value) (w:World),(Instr.makeFunc fn first cap).run Tryz.prog w=.ok (.func fn first cap) w:=fun _ _ _ _=>rfl
 have hb0:=Af w (.cells #[.string ⟨n.toArray⟩] 9)
 have A1:=Whole.made w 9 #[.string ⟨n.toArray⟩]
 have hc:=Aem n v xs w.heap.size _ (A1.cell 0) (h.call hb0) hl
 unfold DK at hc
 obtain ⟨a,c,rfl,_⟩:=Ae.form h
 generalize xs.length=m at*
 go_enter Tryz.func41,Tryz.ntmps41
 go_wp2_with fail
 refine hc.mono ?_;rintro e w1 ⟨rfl,A0⟩
 go_wp2_with fail
 go_ret
 exact ⟨rfl,Aa hb0 A0⟩
end
section
open Go.RowKit
namespace EnS
theorem YA {l:List En} {k:Nat} {seen:List (List UInt8)} {n tn:List UInt8} {more:Bool} {code:Int} (h:stepS l n=(tn,more,code)) (hc:code≠0):Dz l (k+1) seen n=([],[],code):=by
 unfold Dz;rw [h];exact if_neg hc
theorem YB {l:List En} {k:Nat} {seen:List (List UInt8)} {n tn:List UInt8} (h:stepS l n=(tn,false,0)):Dz l (k+1) seen n=(seen,n,0):=by
 unfold Dz;rw [h,if_pos rfl];exact if_neg (by simp)
theorem AcX {l:List En} {k:Nat} {seen:List (List UInt8)} {n tn:List UInt8} (h:stepS l n=(tn,true,0)) (hx:seen.contains tn=true\/16<seen.length):Dz l (k+1) seen n=([],[],36):=by
 unfold Dz;rw [h,if_pos rfl,if_pos rfl];exact if_pos hx
theorem AcY {l:List En} {k:Nat} {seen:List (List UInt8)} {n tn:List UInt8} (h:stepS l n=(tn,true,0)) (hx:¬(seen.contains tn=true\/16<seen.length)):Dz l (k+1) seen n=Dz l k (seen++[tn]) tn:=by
 conv=>lhs;unfold Dz
 rw [h,if_pos rfl,if_pos rfl];exact if_neg hx
theorem UL (l:List En) {code:Int} (hc:code≠0):Hk l ([],[],code)=([],false,code):=by unfold Hk;exact if_neg hc
theorem Abf (l:List En) (seen:List (List UInt8)) (n:List UInt8):Hk l (seen,n,0)=Gg l seen n:=by unfold Hk;exact if_pos rfl
theorem Ru {l:List En} {seen:List (List UInt8)} {n:List UInt8} (h:n=[]):Gg l seen n=(n,decide (1<seen.length),0):=by unfold Gg;exact if_neg (fun k=>k.1 h)
theorem Abg {l:List En} {seen:List (List UInt8)} {n:List UInt8} (h:inS l n=true):Gg l seen n=(n,decide (1<seen.length),0):=by unfold Gg;exact if_neg (fun k=>by rw [h] at k;cases k.2)
theorem Xr {l:List En} {seen:List (List UInt8)} {n:List UInt8} (h0:n≠[]) (h:inS l n=false):Gg l seen n=([],false,MS seen):=by unfold Gg;exact if_pos ⟨h0,h⟩
theorem YC {l:List En} {s tn:List UInt8} {more:Bool} (h:stepS l s=(tn,more,0)):tn.length<=1000/\DnS.Au tn=(tn,0):=by
 have:=WI h
 have h2:=DnS.GZ tn
 rw [this] at h2
 exact ⟨h2,this⟩
theorem AcZ {l:List En} {s n:List UInt8} {e:Int} {f:Bool} (h:DnS.Au s=(n,e)) (he:e≠0):AG l s f=([],false,34):=by unfold AG;rw [h];exact if_neg he
theorem Ada {l:List En} {s n:List UInt8} (h:DnS.Au s=(n,0)):AG l s false=Gg l [n] n:=by unfold AG;rw [h,if_pos rfl];exact if_neg (by simp)
theorem Aen {l:List En} {s n:List UInt8} (h:DnS.Au s=(n,0)):AG l s true=Hk l (Dz l 17 [n] n):=by unfold AG;rw [h,if_pos rfl];exact if_pos rfl
end EnS
def YD (w:World) (b:Nat):Nat:=match w.cell? ⟨b,0,none⟩ with | some (.slice _ n _)=>n | _=>0
theorem Em.len {w:World} {B b:Nat} {seen:List (List UInt8)} (h:Em w B b seen):YD w b=seen.length:=by
 obtain ⟨v,h1,h2,_⟩:=h
 have q:=h1.cell 0
 simp only [List.getElem?_toArray,List.getElem?_cons_zero] at q
 unfold YD
 rw [q]
 obtain ⟨a,c,rfl⟩:=h2.form
 rfl
theorem Own.one (w:World) (l:List UInt8):Own (w.alloc (.cells #[.string ⟨l.toArray⟩] 9)) w.heap.size (.slice (some ⟨w.heap.size,0,none⟩) 1 1) [l]:=
 ⟨rfl,.inr ⟨w.heap.size,1,#[.string ⟨l.toArray⟩],rfl,Nat.le_refl _,heap_alloc_new w _,Nat.le_refl _,by unfold maxLen;omega,rfl,rfl⟩⟩
def atI (xs:List EnS.En) (s:List UInt8):Option Nat:=if (DnS.Au s).2=0 then xs.findIdx? (EU (DnS.Au s).1) else none
theorem Afw (v:Value) (xs:List EnS.En) (s:List UInt8) (w:World) (hE:Env w) (h:Bq w v xs) (hl:xs.length<=1048576) (hs:s.length<=1000000):
  Calls Tryz.prog 55 #[v,.string ⟨s.toArray⟩] w (Gk (atI xs s) w):=by
 have h1:=OG s hs w hE
 unfold BM at h1
 have A3:Hid (atI xs s=if (DnS.Au s).2=0 then xs.findIdx? (EU (DnS.Au s).1) else none):=hZ9 rfl
 generalize atI xs s=R at*
 generalize DnS.Au s=N at*
 obtain ⟨n,e0⟩:=N
 simp only at h1 A3
 obtain ⟨a,c,rfl,hc,A8⟩:=Ae.at h
 have B2:=hZ9 A8
 have A2:=hZ9 (fun k (hk:k<xs.length)=>IW (p:=EU n) hk)
 have A5:=hZ9 (NS (p:=EU n) (xs:=xs))
 have A9:=hZ9 (fun k (hk:k<xs.length)=>take_miss (p:=EU n) hk)
 have HP:Hid (∀e:EnS.En,EU n e=(e.name==n)):=hZ9 (fun _=>rfl)
 generalize xs.findIdx? (EU n)=I at*
 generalize EU n=q at*
 clear A8 h
 generalize B1:xs.length=m at hc hl⊢
 have HN:=hZ9 B1
 clear B1
 by_cases he:e0=0
 · subst he
   have HR:Hid (R=I):=hZ9 (A3.out.trans (if_pos rfl))
   clear A3
   go_enter Tryz.func55,Tryz.ntmps55
   go_wp2_with fail
   refine h1.mono ?_;rintro e w1 ⟨rfl,A4⟩
   go_wp2_with fail
   go_loop [15] (fun i=>∃k:Nat,k<=m/\i=.int .i64 k/\Hid (∀x ∈ xs.take k,q x=false)) (fun i=>m - (intOf i).toNat)
   case atStart=>exact ⟨0,Nat.zero_le _,rfl,hZ9 (fun x hx=>by cases hx)⟩
   case round=>
    obtain ⟨k,hk,rfl,HA⟩:=hrel
    by_cases B0:k<m
    · have A0:k<xs.length:=by rw [HN.out];exact B0
      obtain ⟨g,o,rfl,hg,_,hra⟩:=B2.out k A0
      obtain ⟨c0,a1,p1,c1,B4,A1⟩:=Db.parts (Db.call hra hg trivial A4)
      have HF:=hZ9 (A2.out k A0 HA.out)
      have HT:=hZ9 (A9.out k A0 HA.out)
      have A7:=hZ9 (HP.out xs[k])
      generalize xs[k]=x at*
      obtain ⟨name,attrs⟩:=x
      simp only at c0 c1 A7
      clear hra A0 A2 A5 A9 A1 HP
      cases hq:(name==n) with
      | true=>
       have HZ:=hZ9 (HF.out (A7.out.trans hq))
       go_wp2_with fail
       go_ret
       exact ⟨by rw [HR.out,HZ.out];rfl,A4⟩
      | false=>
       have HZ:=hZ9 (HT.out (A7.out.trans hq))
       go_wp2_with fail
       go_round
       case rel=>exact ⟨k+1,by omega,by go_num,HZ⟩
       case measure=>simp [intOf];omega
    · have A6:Hid (I=none):=hZ9 (A5.out (by have:=HA.out;rwa [List.take_of_length_le (by rw [HN.out];omega)] at this))
      go_wp2_with fail
      go_ret
      exact ⟨by rw [HR.out,A6.out];rfl,A4⟩
 · have B5:(e0==0)=false:=by simpa using he
   have HR:Hid (R=none):=hZ9 (A3.out.trans (if_neg he))
   clear A3
   go_enter Tryz.func55,Tryz.ntmps55
   go_wp2_with fail
   refine h1.mono ?_;rintro e w1 ⟨rfl,A4⟩
   go_wp2_with fail
   go_loop [15] (fun i=>∃k:Nat,k<=m/\i=.int .i64 k) (fun i=>m - (intOf i).toNat)
   case atStart=>exact ⟨0,Nat.zero_le _,rfl⟩
   case round=>
    obtain ⟨k,hk,rfl⟩:=hrel
    by_cases B0:k<m
    · go_wp2_with fail
      go_round
      case rel=>exact ⟨k+1,by omega,by go_num⟩
      case measure=>simp [intOf];omega
    · have B3:k=m:=by omega
      subst B3
      go_wp2_with fail
      go_ret
      exact ⟨by rw [HR.out];rfl,A4⟩
theorem UM (v:Value) (xs:List EnS.En) (s:List UInt8) (follow:Bool) (w:World) (hE:Env w) (h:Bq w v xs) (hf:FH xs) (hs:s.length<=1000000):
  Calls Tryz.prog 14 #[v,.string ⟨s.toArray⟩,.bool follow] w (BL (EnS.AG xs s follow) w):=by
 have h1:=Ik s hs w hE
 unfold BM at h1
 have C5:=DnS.GZ s
 have HB:=hZ9 (fun n e=>EnS.AcZ (l:=xs) (s:=s) (n:=n) (e:=e) (f:=follow))
 have B1:=hZ9 (fun n=>EnS.Ada (l:=xs) (s:=s) (n:=n))
 have B0:=hZ9 (fun n=>EnS.Aen (l:=xs) (s:=s) (n:=n))
 have B4:=hZ9 (fun h=>DnS.RF (s:=s) h)
 obtain ⟨n,e0,B3⟩:∃n e,DnS.Au s=(n,e):=⟨_,_,rfl⟩
 rw [B3] at h1 C5 B4
 simp only at h1 C5 B4
 obtain ⟨a,c,D3,hc⟩:=Ae.form h
 subst D3
 by_cases he:e0=0
 case neg=>
  have HR:=hZ9 (HB.out n e0 B3 he)
  have D4:(e0 !=0)=true:=by simpa using he
  clear HB B1 B0 B3 B4 h hf
  generalize xs.length=m at*
  go_enter Tryz.func14,Tryz.ntmps14
  go_wp2_with fail
  refine h1.mono ?_;rintro e w1 ⟨rfl,A9⟩
  go_wp2_with fail
  go_ret3
  exact BL.mk' HR.out A9
 subst he
 have D8:Hid (DnS.Au n=(n,0)):=hZ9 (B4.out rfl)
 have B1:=hZ9 (B1.out n B3)
 have B0:=hZ9 (B0.out n B3)
 have C4:=fun n w (hw:Bq w (.slice a xs.length c) xs)=>Afv n _ xs w hw hf.1
 have B2:=fun n w hE (hw:Bq w (.slice a xs.length c) xs) hn=>AeU _ xs n w hE hw hf hn
 unfold DK at C4
 unfold BL at B2
 have HI:=hZ9 h
 clear HB B3 B4 h hf hc
 generalize D2:xs.length=m at*
 clear D2
 cases follow with
 | false=>
  have HX:=B1
  clear B1 B0 B2
  go_enter Tryz.func14,Tryz.ntmps14
  go_wp2_with fail
  refine h1.mono ?_;rintro e w1 ⟨rfl,A9⟩
  go_wp2_with fail
  refine (Xq n w1).mono ?_;rintro e w2 ⟨b,rfl,B5,C0⟩
  have A4:=Aa A9 C0
  go_wp2_with fail
  refine wp_loop_rounds 1 ?_
  rw [rounds_succ]
  have C1:Bq w2 (.slice a m c) xs:=HI.out.call A4
  by_cases A0:n=[]
  · have HZ:=hZ9 (HX.out.trans (EnS.Ru A0))
    clear HX
    subst A0
    go_wp2_with fail
    refine (JR _ _ _ _ B5).mono ?_;rintro e wz ⟨rfl,rfl⟩
    go_wp2_with fail
    go_ret3
    exact BL.mk' HZ.out A4
  · have D5:n.isEmpty=false:=by simpa using A0
    have C9:(n==[])=false:=by simpa using A0
    have D0:(n !=[])=true:=by simpa using A0
    have A6:=hZ9 (fun h=>HX.out.trans (EnS.Xr A0 h))
    have A8:=hZ9 (fun h=>HX.out.trans (EnS.Abg h))
    clear A0 HX
    have A3:=C4 n w2 C1
    cases hq:EnS.inS xs n with
    | true=>
     rw [hq] at A3
     have HZ:=hZ9 (A8.out hq)
     clear A8 A6 hq
     go_wp2_with fail
     refine A3.mono ?_;rintro e wy ⟨rfl,A1⟩
     have A5:=B5.call A1
     go_wp2_with fail
     refine (JR _ _ [n] _ A5).mono ?_;rintro e wz ⟨rfl,rfl⟩
     go_wp2_with fail
     go_ret3
     exact BL.mk' HZ.out (A4.trans (A1.mono A4.size))
    | false=>
     rw [hq] at A3
     have HZ:=hZ9 (A6.out hq)
     clear A8 A6 hq
     go_wp2_with fail
     refine A3.mono ?_;rintro e wy ⟨rfl,A1⟩
     have A5:=B5.call A1
     go_wp2_with fail
     refine (Abd _ _ [n] _ A5).mono ?_;rintro e wz ⟨rfl,rfl⟩
     go_wp2_with fail
     go_ret3
     exact BL.mk' HZ.out (A4.trans (A1.mono A4.size))
 | true=>
  have HX:=B0
  clear B1 B0
  generalize EnS.AG xs s true=R at*
  go_enter Tryz.func14,Tryz.ntmps14
  go_wp2_with fail
  refine h1.mono ?_;rintro e w1 ⟨rfl,A9⟩
  go_wp2_with fail
  refine (Xq n w1).mono ?_;rintro e w2 ⟨b,rfl,B5,C0⟩
  have A4:=Aa A9 C0
  have C8:w.heap.size<=w1.heap.size:=A9.size
  go_wp2_with fail
  go_loopw [9] (fun nv wr=>∃(seen:List (List UInt8)) (q:List UInt8),nv=.string ⟨q.toArray⟩/\Em wr w1.heap.size b seen/\1<=seen.length/\seen.length<=17/\Hid (R=EnS.Hk xs (EnS.Dz xs (18 - seen.length) seen q))/\q.length<=1000000/\Below w.heap.size w wr) (fun _ wr=>18 - YD wr b)
  case atStart=>exact ⟨[n],n,rfl,B5,by simp,by simp,HX,by omega,A4⟩
  case round=>
   obtain ⟨seen,q,rfl,hT,D7,D6,HQ,D1,hb⟩:=hrel
   clear HX
   have hlen:=hT.len
   obtain ⟨k,hk⟩:∃k,18 - seen.length=k+1:=⟨17 - seen.length,by omega⟩
   rw [hk] at HQ
   have B7:=B2 q wr (hE.below hb) (HI.out.call hb) D1
   obtain ⟨tn,more,code,hS⟩:∃tn more code,EnS.stepS xs q=(tn,more,code):=⟨_,_,_,rfl⟩
   rw [hS] at B7
   simp only at B7
   by_cases B9:code=0
   case neg=>
    have D4:(code !=0)=true:=by simpa using B9
    have HZ:Hid (R=([],false,code)):=hZ9 (by rw [HQ.out,EnS.YA hS B9,EnS.UL xs B9])
    clear hS HQ B2 hk
    go_wp2_with fail
    refine B7.mono ?_;rintro e w3 ⟨rfl,A7⟩
    go_wp2_with fail
    go_ret3
    exact BL.mk' HZ.out (hb.trans (A7.mono hb.size))
   subst B9
   cases more with
   | false=>
    have HX:Hid (R=EnS.Gg xs seen q):=hZ9 (by rw [HQ.out,EnS.YB hS,EnS.Abf])
    clear hS HQ B2 hk
    go_wp2_with fail
    refine B7.mono ?_;rintro e w3 ⟨rfl,A7⟩
    have B8:=hT.call A7
    have A2:=hb.trans (A7.mono hb.size)
    have C1:Bq w3 (.slice a m c) xs:=HI.out.call A2
    by_cases A0:q=[]
    · have HZ:=hZ9 (HX.out.trans (EnS.Ru A0))
      clear HX
      subst A0
      go_wp2_with fail
      refine (JR _ _ _ _ B8).mono ?_;rintro e wz ⟨rfl,rfl⟩
      go_wp2_with fail
      go_ret3
      exact BL.mk' HZ.out A2
    · have D5:q.isEmpty=false:=by simpa using A0
      have C9:(q==[])=false:=by simpa using A0
      have D0:(q !=[])=true:=by simpa using A0
      have A6:=hZ9 (fun h=>HX.out.trans (EnS.Xr A0 h))
      have A8:=hZ9 (fun h=>HX.out.trans (EnS.Abg h))
      clear A0 HX
      have A3:=C4 q w3 C1
      cases hq:EnS.inS xs q with
      | true=>
       rw [hq] at A3
       have HZ:=hZ9 (A8.out hq)
       clear A8 A6 hq
       go_wp2_with fail
       refine A3.mono ?_;rintro e wy ⟨rfl,A1⟩
       have A5:=B8.call A1
       go_wp2_with fail
       refine (JR _ _ seen _ A5).mono ?_;rintro e wz ⟨rfl,rfl⟩
       go_wp2_with fail
       go_ret3
       exact BL.mk' HZ.out (A2.trans (A1.mono A2.size))
      | false=>
       rw [hq] at A3
       have HZ:=hZ9 (A6.out hq)
       clear A8 A6 hq
       go_wp2_with fail
       refine A3.mono ?_;rintro e wy ⟨rfl,A1⟩
       have A5:=B8.call A1
       go_wp2_with fail
       refine (Abd _ _ seen _ A5).mono ?_;rintro e wz ⟨rfl,rfl⟩
       go_wp2_with fail
       go_ret3
       exact BL.mk' HZ.out (A2.trans (A1.mono A2.size))
   | true=>
    have D9:=EnS.YC hS
    have C2:=hZ9 (fun hx=>(EnS.AcX (k:=k) (seen:=seen) hS hx))
    have C3:=hZ9 (fun hx=>(EnS.AcY (k:=k) (seen:=seen) hS hx))
    clear hS B2
    go_wp2_with fail
    refine B7.mono ?_;rintro e w3 ⟨rfl,A7⟩
    have B8:=hT.call A7
    have A2:=hb.trans (A7.mono hb.size)
    go_wp2_with fail
    refine (Abe b _ seen tn _ B8 (by omega)).mono ?_;rintro e w4 (⟨hx,rfl,rfl⟩ | ⟨hx,rfl,C6,C7⟩)
    · have HZ:Hid (R=([],false,36)):=hZ9 (by rw [HQ.out,C2.out hx,EnS.UL xs (by decide)])
      clear hx C2 C3 HQ hk
      go_wp2_with fail
      go_ret3
      exact BL.mk' HZ.out A2
    · have HZ:Hid (R=EnS.Hk xs (EnS.Dz xs (18 - (seen++[tn]).length) (seen++[tn]) tn)):=hZ9 (by
       rw [HQ.out,C3.out hx,show 18 - (seen++[tn]).length=k by rw [List.length_append,List.length_singleton];omega])
      have E0:¬16<seen.length:=fun h=>hx (.inr h)
      have B6:=C6.len
      clear hx C2 C3 HQ
      go_wp2_with fail
      go_roundw
      case rel=>exact ⟨seen++[tn],tn,rfl,C6,by simp,by simp;omega,HZ,by omega,A2.trans (C7.mono C8)⟩
      case measure=>rw [B6,hlen,List.length_append,List.length_singleton];omega
end
section
open Go.RowKit
theorem Adb {w:World} {g:Nat} {T:TypeId} {cs:Array Value} {ok:Nat->Prop} (hw:Whole w g T cs) (A0:ok g) {xs:List (List UInt8)} {n:Nat} (hn:xs.length=n) (h:∀(j:Nat) (x:List UInt8),xs[j]?=some x->cs[j]?=some (Ac x)):
  Ap ok w (.slice (some ⟨g,0,none⟩) n n) xs:=by
 subst hn
 refine ⟨_,_,rfl,Nat.le_refl _,.inr ⟨g,0,rfl,hw.lt,A0,fun j x hj=>?_⟩⟩
 show w.cell? ⟨g,0+j*1,none⟩=_
 rw [Nat.zero_add,Nat.mul_one,hw.cell]
 exact h j x hj
theorem Abh {w:World} {g:Nat} {T:TypeId} {cs:Array Value} {ok:Nat->Prop} (hw:Whole w g T cs) (A0:ok g) {xs:List EnS.At} {n:Nat} (hn:xs.length=n)
  (h:∀(j:Nat) (x:EnS.At),xs[j]?=some x->cs[j*2]?=some (Ac x.typ)/\∃u,cs[j*2+1]?=some u/\Ap ok w u x.vals):Ao ok w (.slice (some ⟨g,0,none⟩) n n) xs:=by
 subst hn
 refine ⟨_,_,rfl,Nat.le_refl _,.inr ⟨g,0,rfl,hw.lt,A0,fun j x hj=>?_⟩⟩
 obtain ⟨h1,u,h2,h3⟩:=h j x hj
 rw [Nat.zero_add]
 exact ⟨(hw.cell _).trans h1,u,(hw.cell _).trans h2,h3⟩
theorem Aeo {w:World} {g:Nat} {T:TypeId} {cs:Array Value} {ok:Nat->Prop} (hw:Whole w g T cs) (A0:ok g) {xs:List EnS.En} {n:Nat} (hn:xs.length=n)
  (h:∀(j:Nat) (x:EnS.En),xs[j]?=some x->cs[j*2]?=some (Ac x.name)/\∃u,cs[j*2+1]?=some u/\Ao ok w u x.attrs):Ce ok w (.slice (some ⟨g,0,none⟩) n n) xs:=by
 subst hn
 refine ⟨_,_,rfl,Nat.le_refl _,.inr ⟨g,0,rfl,hw.lt,A0,fun j x hj=>?_⟩⟩
 obtain ⟨h1,u,h2,h3⟩:=h j x hj
 rw [Nat.zero_add]
 exact ⟨(hw.cell _).trans h1,u,(hw.cell _).trans h2,h3⟩
theorem KT (w:World) (o:Obj):(w.alloc o).heap.size=w.heap.size+1:=by
 show (w.heap.push _).size=_
 simp
def Ad7 (xs:List EnS.En):Prop:=∀x ∈ xs,DnS.Au x.name=(x.name,0)/\x.name≠[]
theorem UN {xs:List EnS.En} (h:EnS.Ax EnS.cE xs<=3000):FH xs:=by
 refine ⟨Nat.le_trans (JY xs) (by omega),fun x hx=>?_⟩
 have h1:=EnS.IX (f:=EnS.cE) hx
 have h2:EnS.cE x=1+x.name.length / 100+EnS.Ax EnS.cA x.attrs:=rfl
 refine ⟨by omega,Nat.le_trans (Oy x.attrs) (by omega),fun y hy=>?_⟩
 have h3:=EnS.IX (f:=EnS.cA) hy
 have h4:EnS.cA y=1+y.vals.length+EnS.Ax EnS.cV y.vals:=rfl
 refine ⟨by omega,fun v hv=>?_⟩
 have h5:=EnS.IX (f:=EnS.cV) hv
 have h6:EnS.cV v=v.length / 100:=rfl
 omega
def UO (xs:List EnS.En) (s:List UInt8) (w:World) (e:Ending) (w':World):Prop:=∃b,e=.returned (.bool b)/\(b=true->FH xs/\s.length<=3000/\Ad7 xs)/\Below w.heap.size w w'
theorem Aep (v:Value) (xs:List EnS.En) (s:List UInt8) (w:World) (hE:Env w) (h:Bq w v xs) (hN:EnS.Ax EnS.cE xs<=1048576) (hs:s.length<=1048576):Calls Tryz.prog 21 #[v,.string ⟨s.toArray⟩] w (UO xs s w):=by
 have A6:=AdC v xs w h hN
 unfold Tj at A6
 obtain ⟨a,c,rfl,hc,B0⟩:=Ae.at h
 have B4:=hZ9 B0
 have hl:=JY xs
 have HF:=hZ9 (fun h=>UN (xs:=xs) h)
 have A9:Hid (∀k (hk:k<xs.length),(∀x ∈ xs.take k,DnS.Au x.name=(x.name,0)/\x.name≠[])->(DnS.Au xs[k].name=(xs[k].name,0)/\xs[k].name≠[])->∀x ∈ xs.take (k+1),DnS.Au x.name=(x.name,0)/\x.name≠[]):=hZ9 (fun k hk h1 h2 x hx=>by
  rw [List.take_succ_eq_append_getElem hk] at hx
  rcases List.mem_append.1 hx with hx | hx
  · exact h1 x hx
  · have:=List.mem_singleton.1 hx;subst this;exact h2)
 clear B0 h
 have B2:=hZ9 (fun h x (hx:x ∈ xs)=>((UN (xs:=xs) h).2 x hx).1)
 generalize hn:xs.length=n at hc hl A6⊢
 have HN:=hZ9 hn
 clear hn
 go_enter Tryz.func21,Tryz.ntmps21
 go_wp2_with fail
 refine A6.mono ?_;rintro e w1 ⟨b,rfl,rfl,hb⟩
 cases b with
 | false=>
  go_wp2_with fail
  go_ret
  exact ⟨false,rfl,fun h=>(by cases h),Below.refl _ _⟩
 | true=>
 have HC:=hZ9 (hb rfl)
 clear hb A6
 by_cases h3:3000<s.length
 · have hz:(3000:Int)<(s.length:Int):=by omega
   go_wp2_with fail
   go_ret
   exact ⟨false,rfl,fun h=>(by cases h),Below.refl _ _⟩
 have hz:decide ((3000:Int)<(s.length:Int))=false:=decide_eq_false (by omega)
 have HS:Hid (s.length<=3000):=hZ9 (by omega)
 clear h3
 go_wp2_with fail
 go_loopw [18] (fun i wr=>∃k:Nat,k<=n/\i=.int .i64 k/\Hid (∀x ∈ xs.take k,DnS.Au x.name=(x.name,0)/\x.name≠[])/\Below w.heap.size w wr) (fun i _=>n - (intOf i).toNat)
 case atStart=>exact ⟨0,Nat.zero_le _,rfl,hZ9 (fun x hx=>by cases hx),Below.refl _ _⟩
 case round=>
  obtain ⟨k,hk,rfl,HA,A0⟩:=hrel
  by_cases B3:k<n
  · have A2:k<xs.length:=by rw [HN.out];exact B3
    obtain ⟨g,o,rfl,hg,_,hra⟩:=B4.out k A2
    obtain ⟨c0,a1,p1,c1,B5,A3⟩:=Db.parts (Db.call hra hg trivial A0)
    have B1:=B2.out HC.out xs[k] (List.getElem_mem A2)
    have A7:=hZ9 (A9.out k A2 HA.out)
    clear hra A9 A3
    generalize xs[k]=x at*
    clear A2
    obtain ⟨name,attrs⟩:=x
    simp only at c0 c1 B1 A7
    have A4:=OG name B1 wr (hE.below A0)
    unfold BM at A4
    generalize DnS.Au name=NN at*
    obtain ⟨q,e0⟩:=NN
    simp only at A4
    by_cases he:e0=0
    case neg=>
     have B8:(e0 !=0)=true:=by simpa using he
     go_wp2_with fail
     refine A4.mono ?_;rintro e w2 ⟨rfl,A1⟩
     go_wp2_with fail
     go_ret
     exact ⟨false,rfl,fun h=>(by cases h),A0.trans (A1.mono A0.size)⟩
    subst he
    by_cases hq:q=name
    case neg=>
     have C0:(q !=name)=true:=by simpa using hq
     have B6:(q==name)=false:=by simpa using hq
     go_wp2_with fail
     refine A4.mono ?_;rintro e w2 ⟨rfl,A1⟩
     have q0:=Ab c0 A1
     go_wp2_with fail
     go_ret
     exact ⟨false,rfl,fun h=>(by cases h),A0.trans (A1.mono A0.size)⟩
    subst hq
    by_cases A5:q=[]
    · subst A5
      go_wp2_with fail
      refine A4.mono ?_;rintro e w2 ⟨rfl,A1⟩
      have q0:=Ab c0 A1
      go_wp2_with fail
      go_ret
      exact ⟨false,rfl,fun h=>(by cases h),A0.trans (A1.mono A0.size)⟩
    · have B9:q.isEmpty=false:=by simpa using A5
      have B7:(q==[])=false:=by simpa using A5
      have HZ:=hZ9 (A7.out ⟨rfl,A5⟩)
      clear A5 A7
      go_wp2_with fail
      refine A4.mono ?_;rintro e w2 ⟨rfl,A1⟩
      have q0:=Ab c0 A1
      go_wp2_with fail
      go_roundw
      case rel=>exact ⟨k+1,by omega,by go_num,HZ,A0.trans (A1.mono A0.size)⟩
      case measure=>simp [intOf];omega
  · have A8:Hid (Ad7 xs):=hZ9 (by have:=HA.out;rwa [List.take_of_length_le (by rw [HN.out];omega)] at this)
    go_wp2_with fail
    go_ret
    exact ⟨true,rfl,fun _=>⟨HF.out HC.out,HS.out,A8.out⟩,A0⟩
end
end Go.Proofs.YtgngjfjaelgaeaaGreatDoor
