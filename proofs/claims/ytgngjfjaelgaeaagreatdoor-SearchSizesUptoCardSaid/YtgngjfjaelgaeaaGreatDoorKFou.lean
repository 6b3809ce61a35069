/- The walk of search.Select. Conditions: as stated. -/
import Derived.Test.YtgngjfjaelgaeaaGreatDoorKOwm
set_option maxRecDepth 100000
set_option maxHeartbeats 8000000
namespace Go.Proofs.YtgngjfjaelgaeaaGreatDoor
section
open Go.RowKit
attribute [local go_sem ↓] Go.wp_at_zero Go.wp_at_succ
theorem QU (l:List UInt8):(RuS.typeOf l).2≠0↔(RuS.typeOf l).1≠[]:=by
 unfold RuS.typeOf RuS.typeM
 split
 · rename_i r h
   have:=RuS.tab_all r (List.mem_of_find?_eq_some h)
   constructor
   · intro _ e
     rw [e] at this
     simp at this
   · intro _
     omega
 · simp
theorem type_17 (l:List UInt8):(RuS.typeOf l).1.length<=17:=by
 unfold RuS.typeOf RuS.typeM
 split
 · rename_i r h
   exact (RuS.tab_all r (List.mem_of_find?_eq_some h)).2.2.1
 · exact Nat.zero_le _
def DL (at_:List (List UInt8)):List UInt8->Option Value:=fun s=>if at_.any (fun x=>(RuS.typeOf x).1 !=[]&&(RuS.typeOf x).1==s) then some (.bool true) else none
theorem Ac0 {at_:List (List UInt8)} {k:Nat} (hk:k<at_.length) (h:(RuS.typeOf (at_[k]'hk)).2≠0):NU (DL (at_.take k)) (RuS.typeOf (at_[k]'hk)).1 (.bool true)=DL (at_.take (k+1)):=by
 have h1:=(QU _).1 h
 funext s
 unfold NU DL
 rw [List.take_succ_eq_append_getElem hk,List.any_append]
 simp only [List.any_cons,List.any_nil,Bool.or_false]
 generalize RuS.typeOf at_[k]=t at*
 by_cases hs:s=t.1
 · subst hs
   simp [h1]
 · rw [if_neg hs]
   have h2:(t.1==s)=false:=by simpa using fun e=>hs e.symm
   simp [h2]
theorem AdO {at_:List (List UInt8)} {k:Nat} (hk:k<at_.length) (h:(RuS.typeOf (at_[k]'hk)).2=0):DL (at_.take (k+1))=DL (at_.take k):=by
 have h1:(RuS.typeOf (at_[k]'hk)).1=[]:=Classical.byContradiction fun hn=>(QU _).2 hn h
 funext s
 unfold DL
 rw [List.take_succ_eq_append_getElem hk,List.any_append]
 simp only [List.any_cons,List.any_nil,Bool.or_false]
 generalize RuS.typeOf at_[k]=t at*
 simp [h1]
theorem Ac1 (at_:List (List UInt8)) (s:List UInt8):(DL at_ s).getD (.bool false)=.bool (DL at_ s).isSome:=by
 unfold DL
 split <;> rfl
theorem Aag {α:Type} (p q:α->Bool):∀l:List α,l.any (fun x=>p x||q x)=(l.any p||l.any q)
 | []=>rfl
 | x :: l=>by
  rw [List.any_cons,List.any_cons,List.any_cons,Aag p q l]
  cases p x <;> cases q x <;> simp
theorem AdP (at_:List (List UInt8)) (a:EnS.At):SeS.Hg at_ a=((at_.isEmpty||at_.contains [42])||(DL at_ a.typ).isSome):=by
 unfold SeS.Hg DL
 rw [Aag,List.contains_eq_any_beq]
 have e:at_.any (fun x=>x==[42])=at_.any (fun x=>[42]==x):=by
  congr 1
  funext x
  exact BEq.comm
 rw [e,Bool.or_assoc]
 congr 2
 cases at_.any (fun x=>(RuS.typeOf x).1 !=[]&&(RuS.typeOf x).1==a.typ) <;> rfl
theorem Ac2 {P:EnS.At->Bool} {f:EnS.At->EnS.At} {l:List EnS.At} {k:Nat} (hk:k<l.length):((l.take (k+1)).filter P).map f=if P (l[k]'hk)=true then ((l.take k).filter P).map f++[f (l[k]'hk)] else ((l.take k).filter P).map f:=by
 cases h:P (l[k]'hk) with
 | true=>rw [KB hk h,List.map_append,if_pos rfl];rfl
 | false=>rw [MR hk h,if_neg (by simp)]
theorem Av.lt {α:Type} {L:KLay α} {T:TypeId} {Ts:List TypeId} {C:Nat} {w:World} {B:Nat} {v:Value} {xs:List α} (h:Av L T Ts C w B v xs) {k:Nat} (hk:v.ownBlock=some k):k<w.heap.size:=by
 obtain ⟨us,h1,_⟩:=h
 exact (World.ownsRow.lt h1 k hk).2
theorem Av.cells {α:Type} {L:KLay α} {T:TypeId} {Ts:List TypeId} {C:Nat} {w:World} {B:Nat} {v:Value} {xs:List α} (h:Av L T Ts C w B v xs) {k:Nat} (hk:some k=v.ownBlock):∃cur,w.heap[k]?=some (.cells cur T (0,0)):=by
 obtain ⟨us,h1,_⟩:=h
 rcases h1.2 with ⟨rfl,_⟩ | ⟨g,cap,cur,rfl,_,hh,_⟩
 · cases hk
 · cases hk
   exact ⟨cur,hh⟩
theorem Hn {w:World} (g:Nat) (i:Nat) (v:Value):w.grownBy (w.setCell ⟨g,i,none⟩ v) (some g):=
 ⟨rfl,rfl,rfl,Nat.le_of_eq (World.size_setCell ..).symm,fun k _ hn=>Below.heap_setCell w ⟨g,i,none⟩ v k (fun e=>hn (by rw [e]))⟩
theorem Av.far {α:Type} {L:KLay α} {T:TypeId} {Ts:List TypeId} {C:Nat} {w:World} {B:Nat} {v:Value} {xs:List α} (h:Av L T Ts C w B v xs) {g:Nat} {T':TypeId} {cs:Array Value} (hw:Whole w g T' cs) (hg:C<=g) (hT:T' ∉ Ts) (A2:v.ownBlock≠some g) (i:Nat) (y:Value):Av L T Ts C (w.setCell ⟨g,i,none⟩ y) B v xs:=by
 obtain ⟨us,h1,h2,h3⟩:=h
 have hk:∀k,okT Ts C w k->k≠g:=fun k A0 e=>by
  subst e
  rcases A0 with A0 | ⟨A3,T2,fz,hc,A1⟩
  · omega
  · unfold Whole at hw
    rw [hw] at hc
    cases hc
    exact hT A1
 refine ⟨us,h1.kept (Hn g i y) (.inr A2),h2,fun j u x hu hx=>?_⟩
 exact L.keep (h3 j u x hu hx) (Nat.le_of_eq (World.size_setCell ..).symm) (fun k _ A0=>Below.heap_setCell w ⟨g,i,none⟩ y k (hk k A0)) (fun k _ A0=>A0.same (Below.heap_setCell w ⟨g,i,none⟩ y k (hk k A0)))
theorem Ap.far {C:Nat} {w:World} {u:Value} {vs:List (List UInt8)} {Ts:List TypeId} (h:Ap (okT Ts C w) w u vs) {g:Nat} {T':TypeId} {cs:Array Value} (hw:Whole w g T' cs) (hg:C<=g) (hT:T' ∉ Ts) (i:Nat) (y:Value):Ap (okT Ts C (w.setCell ⟨g,i,none⟩ y)) (w.setCell ⟨g,i,none⟩ y) u vs:=by
 have hk:∀k,okT Ts C w k->k≠g:=fun k A0 e=>by
  subst e
  rcases A0 with A0 | ⟨A2,T2,fz,hc,A1⟩
  · omega
  · unfold Whole at hw
    rw [hw] at hc
    cases hc
    exact hT A1
 exact Ap.keep h (Nat.le_of_eq (World.size_setCell ..).symm) (fun k _ A0=>Below.heap_setCell w ⟨g,i,none⟩ y k (hk k A0)) (fun k _ A0=>A0.same (Below.heap_setCell w ⟨g,i,none⟩ y k (hk k A0)))
theorem Ac3 (w:World):(zeroValue 4).run Tryz.prog w=.ok (.bool false) w:=by kernel_rfl
theorem XW (n:Nat) (q:SeS.Rq) (rv:Value) (C:Nat) (name:List UInt8) (xs:List EnS.At) (u:Value) (w:World) (hC:C<=w.heap.size) (h:FI [9] C w u xs) (hf:GP xs) (ht:∀x ∈ xs,x.typ.length<=1048576) (hq:Fb n w rv q) (J6:q.attrs.length<=1048576/\∀s ∈ q.attrs,s.length<=1048576):
  Calls Tryz.prog 18 #[.agg #[.string ⟨name.toArray⟩,u],rv] w (JD C name (SeS.DZ q.attrs q.tonly ⟨name,xs⟩).attrs w):=by
 obtain ⟨a5,a6,aa,c5,c6,ca,rfl,_,F6⟩:=hq
 obtain ⟨bs,sc,dr,x,at_,tn,sz⟩:=q
 simp only at F6 J6⊢
 generalize x.any.length=XL at*
 generalize x.parts.length=PL at*
 generalize x.kind=kd at*
 generalize x.attr=at0 at*
 generalize x.value=vl at*
 generalize x.first=fs at*
 generalize x.last=ls at*
 obtain ⟨E8,D5⟩:=J6
 have H8:=hZ9 (fun k (hk:k<at_.length)=>D5 _ (List.getElem_mem hk))
 obtain ⟨a,c,rfl,hc,K2⟩:=Ae.at h
 have H9:=hZ9 K2
 have H0:=hZ9 (fun k (hk:k<xs.length)=>ht _ (List.getElem_mem hk))
 have K4:=hZ9 (show GP (SeS.DZ at_ tn ⟨name,xs⟩).attrs from ⟨by
   unfold SeS.DZ
   rw [List.length_map]
   exact Nat.le_trans (List.length_filter_le _ _) hf.1,fun y hy=>by
   unfold SeS.DZ at hy
   obtain ⟨z,hz,rfl⟩:=List.mem_map.1 hy
   have h2:=hf.2 z (List.mem_filter.1 hz).1
   split
   · exact ⟨Nat.zero_le _,fun v hv=>by cases hv⟩
   · exact h2⟩)
 have C6:Hid ((SeS.DZ at_ tn ⟨name,xs⟩).attrs=(xs.filter (SeS.Hg at_)).map (fun a=>if tn=true then ⟨a.typ,[]⟩ else a)):=hZ9 rfl
 have A7:=hZ9 (fun k (hk:k<xs.length)=>Ac2 (P:=SeS.Hg at_) (f:=fun a=>if tn=true then ⟨a.typ,[]⟩ else a) hk)
 have I4:=hZ9 (fun k=>show (((xs.take k).filter (SeS.Hg at_)).map (fun a=>if tn=true then ⟨a.typ,[]⟩ else a)).length<=1048576 from by
  rw [List.length_map]
  exact Nat.le_trans (List.length_filter_le _ _) (Nat.le_trans (by rw [List.length_take];omega) hf.1))
 have A8:=hZ9 (fun a=>AdP at_ a)
 have N2:xs.length<=1048576:=hf.1
 obtain ⟨AL,C0⟩:∃b,(at_.isEmpty||at_.contains [42])=b:=⟨_,rfl⟩
 rw [C0] at A8
 have I1:Hid (∀k (hk:k<at_.length),∃g o,aa=some ⟨g,o,none⟩/\g<w.heap.size/\w.cell? ⟨g,o+k,none⟩=some (Ac (at_[k]'hk))):=hZ9 (fun k hk=>by
  obtain ⟨a',c',e,_,D4⟩:=F6
  injection e with e1 _ _
  rcases D4 with hn | ⟨g,o,ha,hg,hcell⟩
  · subst hn
    simp at hk
  · exact ⟨g,o,e1.trans ha,hg,hcell k _ (List.getElem?_eq_getElem hk)⟩)
 have C2:=hZ9 (fun k (hk:k<at_.length) h=>Ac0 hk h)
 have C3:=hZ9 (fun k (hk:k<at_.length) h=>AdO hk h)
 have C9:=fun W hb=>contains_c _ at_ [42] W (F6.call (B:=w.heap.size) hb (Nat.le_refl _)) E8
 have F0:Hid (at_.isEmpty=decide (at_.length=0)):=hZ9 (by cases at_ <;> simp)
 obtain ⟨QL,D2⟩:∃n,at_.length=n:=⟨_,rfl⟩
 have J8:Hid (at_.take QL=at_):=hZ9 (by rw [<-D2];exact List.take_length)
 have F4:=hZ9 D2
 have E5:=hZ9 C0
 rw [D2] at C9 E8
 obtain ⟨L,hL⟩:∃n,xs.length=n:=⟨_,rfl⟩
 have HL:=hZ9 hL
 have K6:Hid (xs.take L=xs):=hZ9 (by rw [<-hL];exact List.take_length)
 rw [hL] at hc N2⊢
 rw [D2]
 clear D2 C0 F6 hL h K2 hf ht D5
 have J1:=Af w (.cells #[.string ⟨name.toArray⟩,.slice a L c] 52)
 have K0:=Whole.made w 52 #[.string ⟨name.toArray⟩,.slice a L c]
 have G8:=Af (w.alloc (.cells #[.string ⟨name.toArray⟩,.slice a L c] 52)) (.cells #[.string ⟨bs.toArray⟩,.int .i64 sc,.int .i64 dr,.int .i64 kd,.string ⟨at0.toArray⟩,.string ⟨vl.toArray⟩,.string ⟨fs.toArray⟩,.string ⟨ls.toArray⟩,.slice a5 XL c5,.slice a6 PL c6,.slice aa QL ca,.bool tn,.int .i64 sz] 38)
 have G0:=Whole.made (w.alloc (.cells #[.string ⟨name.toArray⟩,.slice a L c] 52)) 38 #[.string ⟨bs.toArray⟩,.int .i64 sc,.int .i64 dr,.int .i64 kd,.string ⟨at0.toArray⟩,.string ⟨vl.toArray⟩,.string ⟨fs.toArray⟩,.string ⟨ls.toArray⟩,.slice a5 XL c5,.slice a6 PL c6,.slice aa QL ca,.bool tn,.int .i64 sz]
 have s1:(w.alloc (.cells #[.string ⟨name.toArray⟩,.slice a L c] 52)).heap.size=w.heap.size+1:=by show (w.heap.push _).size=_;exact Array.size_push _
 rw [s1] at G0
 have B1:=Aa J1 G8
 have B2:=K0.call G8
 clear J1 G8 K0
 obtain ⟨W2,G5⟩:∃W,W=(w.alloc (.cells #[.string ⟨name.toArray⟩,.slice a L c] 52)).alloc (.cells #[.string ⟨bs.toArray⟩,.int .i64 sc,.int .i64 dr,.int .i64 kd,.string ⟨at0.toArray⟩,.string ⟨vl.toArray⟩,.string ⟨fs.toArray⟩,.string ⟨ls.toArray⟩,.slice a5 XL c5,.slice a6 PL c6,.slice aa QL ca,.bool tn,.int .i64 sz] 38):=⟨_,rfl⟩
 have s2:W2.heap.size=w.heap.size+2:=by
  rw [G5]
  show (World.heap _ |>.push _).size=_
  rw [Array.size_push,s1]
 rw [<-G5] at G0 B1 B2
 have B0:=Af W2 (.cells #[.string ⟨#[]⟩,.slice none 0 0] 52)
 have D6:=Whole.made W2 52 #[.string ⟨#[]⟩,.slice none 0 0]
 rw [s2] at D6
 have G1:=Aa B1 B0
 have F3:=B2.call B0
 have E6:=G0.call B0
 clear B0 B2 G0 B1
 obtain ⟨W3,F1⟩:∃W,W=W2.alloc (.cells #[.string ⟨#[]⟩,.slice none 0 0] 52):=⟨_,rfl⟩
 have s3:W3.heap.size=w.heap.size+3:=by
  rw [F1]
  show (World.heap _ |>.push _).size=_
  rw [Array.size_push,s2]
 rw [<-F1] at D6 G1 F3 E6
 have C9:=C9 W3 G1
 have A5:=CW.made Tryz.prog 9 W3
 have F9:=Af W3 (.map #[] 0)
 rw [s3] at A5
 have E4:=G1.trans (F9.mono G1.size)
 have D3:=F3.call F9
 have C8:=E6.call F9
 have E7:=D6.call F9
 subst F1
 subst G5
 have I9:=@run_makeMap Tryz.prog
 have F8:=E6.cell 10
 simp only [List.getElem?_toArray,List.getElem?_cons_zero,List.getElem?_cons_succ] at F8
 go_enter Tryz.func18,Tryz.ntmps18
 go_upto_region 1 with fail
 generalize F1:(World.alloc _ (.cells #[.string ⟨#[]⟩,.slice none 0 0] 52))=W3 at*
 clear F1
 obtain ⟨B,hB⟩:∃n,W3.heap.size=n:=⟨_,rfl⟩
 have HB:=hZ9 (hB.symm.trans s3)
 rw [<-s3,hB] at A5
 clear s1 s2 s3 I9
 have I9:=@run_makeMap Tryz.prog
 go_cut [5] (fun v wd=>v=.bool AL/\wd=W3)
 case first=>
  by_cases h0:QL=0
  · have HP:Hid (true=AL):=hZ9 (by rw [<-E5.out,F0.out,decide_eq_true (F4.out.trans h0)];rfl)
    have d0:((QL:Int)==0)=true:=by simpa using h0
    clear E5 F0 C9 h0
    go_wp2_with fail
    go_meet
    exact ⟨by (rw [<-HP.out]) <;> rfl,rfl⟩
  · have HP:Hid (at_.contains [42]=AL):=hZ9 (by rw [<-E5.out,F0.out,decide_eq_false (fun e=>h0 (F4.out.symm.trans e))];rfl)
    have d0:((QL:Int)==0)=false:=by simpa using h0
    clear E5 F0 h0
    generalize at_.contains [42]=CB at*
    go_wp2_with fail
    refine C9.mono ?_
    rintro e w1 ⟨rfl,rfl⟩
    go_wp2_with fail
    go_meet
    exact ⟨by (rw [<-HP.out]) <;> rfl,rfl⟩
 case rest=>
 obtain ⟨rfl,H1⟩:=hcut
 subst H1
 clear C9 E5 F0 F8
 have F8:=C8.cell 10
 simp only [List.getElem?_toArray,List.getElem?_cons_zero,List.getElem?_cons_succ] at F8
 go_wp2_with fail
 go_loopw [27] (fun iv wr=>∃k N:Nat,k<=QL/\iv=.int .i64 k/\N<=k/\CW Tryz.prog 9 wr B N (DL (at_.take k))/\Whole wr w.heap.size 52 #[.string ⟨name.toArray⟩,.slice a L c]/\Whole wr (w.heap.size+1) 38 #[.string ⟨bs.toArray⟩,.int .i64 sc,.int .i64 dr,.int .i64 kd,.string ⟨at0.toArray⟩,.string ⟨vl.toArray⟩,.string ⟨fs.toArray⟩,.string ⟨ls.toArray⟩,.slice a5 XL c5,.slice a6 PL c6,.slice aa QL ca,.bool tn,.int .i64 sz]/\Whole wr (w.heap.size+2) 52 #[.string ⟨#[]⟩,.slice none 0 0]/\Below w.heap.size w wr) (fun iv _=>QL - (intOf iv).toNat)
 case atStart=>exact ⟨0,0,Nat.zero_le _,rfl,Nat.le_refl _,A5,D3,C8,E7,E4⟩
 case round=>
  obtain ⟨k,N,hk,rfl,N6,hm,hw,hr,hz,hb⟩:=hrel
  clear A5 D3 C8 E7 E4
  by_cases M1:k<QL
  · have A4:k<at_.length:=by rw [F4.out];exact M1
    obtain ⟨g,o,rfl,hg,hcell⟩:=I1.out k A4
    have c0:=(hb.cell (p:=⟨g,o+k,none⟩) hg).trans hcell
    have J5:=C2.out k A4
    have J2:=C3.out k A4
    have O2:=H8.out k A4
    have L8:=type_17 (at_[k]'A4)
    clear hcell I1 C2 C3 H8
    generalize at_[k]=s at*
    unfold Ac at c0
    have D0:Calls Tryz.prog 51 #[.string ⟨s.toArray⟩] wr (Am s wr):=FW ⟨s.toArray⟩ (by rw [Ef];omega) wr
    unfold Am at D0
    have L7:(0:Int)<=(k:Int):=by omega
    have K7:(k:Int)<(QL:Int):=by omega
    have C2:=hZ9 J5
    have C3:=hZ9 J2
    clear J5 J2
    generalize RuS.typeOf s=T at*
    obtain ⟨T1,T2⟩:=T
    simp only at D0 L8
    go_wp2_with fail
    refine D0.mono ?_
    rintro e w2 ⟨rfl,B1⟩
    have B7:=hm.kept (AX B1) (by simp)
    have B2:=hw.call B1
    have G3:=hr.call B1
    have C7:=hz.call B1
    have H7:=hb.trans (B1.mono hb.size)
    clear hm hw hr hz c0 D0
    by_cases h0:T2=0
    · have d0:(T2 !=0)=false:=by simpa using h0
      have HW:=hZ9 (C3.out h0)
      clear C2 C3 h0
      go_wp2_with fail
      go_roundw
      case rel=>exact ⟨k+1,N,by omega,by go_num,by omega,by rw [HW.out];exact B7,B2,G3,C7,H7⟩
      case measure=>simp [intOf];omega
    · have d0:(T2 !=0)=true:=by simpa using h0
      have HW:=hZ9 (C2.out h0)
      have N7:=B7.lt
      have nw:=Dk B7 B2
      have nr:=Dk B7 G3
      have nz:=Dk B7 C7
      obtain ⟨w3,L2,K9,B0,_⟩:=B7.store (t:=98) Tryz.underlying9 Tryz.underlying98 (by unfold maxLen;omega) T1 (by unfold maxLen;omega) (.bool true)
      have F3:=B2.mapped B0 nw
      have E6:=G3.mapped B0 nr
      have D6:=C7.mapped B0 nz
      have K8:=H7.grown B0 (by have:=H7.size;omega) (fun i e=>by have e:=Option.some.inj e;have:=HB.out;omega)
      clear C2 C3 h0 B7 B2 G3 C7 nw nr nz
      go_wp2_with fail
      go_roundw
      case rel=>exact ⟨k+1,N+1,by omega,by go_num,by omega,by rw [<-HW.out];exact K9,F3,E6,D6,K8⟩
      case measure=>simp [intOf];omega
  have L0:k=QL:=by omega
  subst L0
  have L1:=hZ9 (show DL (at_.take k)=DL at_ by rw [J8.out])
  rw [L1.out] at hm
  clear I1 C2 C3 H8 J8 F4
  have J3:Hid (∀s,(DL at_ s).getD (.bool false)=.bool (DL at_ s).isSome):=hZ9 (Ac1 at_)
  generalize M4:DL at_=WF at*
  clear M4
  have q0:=hw.cell 0
  simp only [List.getElem?_toArray,List.getElem?_cons_zero] at q0
  have hgo:=Af wr (.cells #[.string ⟨name.toArray⟩,.slice none 0 0] 52)
  have J0:=Whole.made wr 52 #[.string ⟨name.toArray⟩,.slice none 0 0]
  have D3:=hw.call hgo
  have C8:=hr.call hgo
  have E7:=hz.call hgo
  have K5:=hm.kept (AX hgo) (by simp)
  have E4:=hb.trans (hgo.mono hb.size)
  have N5:=hz.lt
  have q1:=D3.cell 1
  simp only [List.getElem?_toArray,List.getElem?_cons_zero,List.getElem?_cons_succ] at q1
  clear hm hw hr hz hgo
  go_wp2_with fail
  generalize wr.heap.size=bo at*
  go_loopw [47] (fun iv wr=>∃(j:Nat) (y:Value),j<=L/\iv=.int .i64 j/\Av atK 56 [9] C wr w.heap.size y (((xs.take j).filter (SeS.Hg at_)).map (fun a=>if tn=true then ⟨a.typ,[]⟩ else a))/\Whole wr bo 52 #[.string ⟨name.toArray⟩,y]/\Whole wr w.heap.size 52 #[.string ⟨name.toArray⟩,.slice a L c]/\Whole wr (w.heap.size+1) 38 #[.string ⟨bs.toArray⟩,.int .i64 sc,.int .i64 dr,.int .i64 kd,.string ⟨at0.toArray⟩,.string ⟨vl.toArray⟩,.string ⟨fs.toArray⟩,.string ⟨ls.toArray⟩,.slice a5 XL c5,.slice a6 PL c6,.slice aa k ca,.bool tn,.int .i64 sz]/\Whole wr (w.heap.size+2) 52 #[.string ⟨#[]⟩,.slice none 0 0]/\CW Tryz.prog 9 wr B N WF/\Below w.heap.size w wr) (fun iv _=>L - (intOf iv).toNat)
  case atStart=>exact ⟨0,_,Nat.zero_le _,rfl,Av.empty _ _ _ _ _ _,J0,D3,C8,E7,K5,E4⟩
  case round=>
   obtain ⟨j,y,hj,rfl,A3,ho,hw,hr,hz,hm,hb⟩:=hrel
   obtain ⟨ya,yc,rfl⟩:=A3.form
   clear E4 J0 D3 C8 E7 K5 q0 q1
   have M6:=I4.out j
   by_cases A4:j<L
   · have G4:j<xs.length:=by rw [HL.out];exact A4
     obtain ⟨g,o,rfl,hg,_,hra⟩:=H9.out j G4
     obtain ⟨c0,a2,p2,c1,M7,hu⟩:=Bl.partsT (Bl.callE hra hg hb)
     have D0:=H0.out j G4
     have F7:=hZ9 (A7.out j G4)
     have H3:=A8.out (xs[j]'G4)
     clear hra H9 H0 A7 A8 C6 K4
     generalize xs[j]=z at*
     obtain ⟨ty,vals⟩:=z
     simp only at c0 c1 M7 hu D0 H3
     generalize hQ:((xs.take j).filter (SeS.Hg at_)).map (fun a=>if tn=true then ⟨a.typ,[]⟩ else a)=Q at*
     clear hQ
     have A8:=hZ9 H3
     clear H3
     have L7:(0:Int)<=(j:Int):=by omega
     have K7:(j:Int)<(L:Int):=by omega
     generalize O3:vals.length=VL at*
     have B4:=Af wr (.cells #[.string ⟨ty.toArray⟩,.slice a2 VL p2] 56)
     have A9:=Whole.made wr 56 #[.string ⟨ty.toArray⟩,.slice a2 VL p2]
     have E9:=hb.trans (B4.mono hb.size)
     have A2:=A3.call B4
     have B3:=ho.call B4
     have D9:=hw.call B4
     have E3:=hr.call B4
     have D8:=hz.call B4
     have C5:=hm.kept (AX B4) (by simp)
     have I0:=Ap.callT hu B4
     have L3:∀i,(Value.slice ya Q.length yc).ownBlock=some i->i<wr.heap.size:=fun i e=>A3.lt e
     have I8:=(C5.look (t:=98) Tryz.underlying9 Tryz.underlying98 (Ac3 _) ty (by unfold maxLen;omega)).2
     rw [J3.out] at I8
     generalize (WF ty).isSome=D at*
     have d0:=A9.cell 0
     have d1:=A9.cell 1
     have K3:=E3.cell 11
     simp only [List.getElem?_toArray,List.getElem?_cons_zero,List.getElem?_cons_succ] at d0 d1 K3
     have N8:=A9.lt
     have O0:=ho.lt
     clear A3 ho hw hr hz hm hu
     go_upto_region 14 with fail
     generalize L5:wr.alloc (.cells #[.string ⟨ty.toArray⟩,.slice a2 VL p2] 56)=wA at*
     clear L5
     generalize wr.heap.size=ab at*
     go_cut [59] (fun v wd=>v=.bool (!(AL||D))/\wd=wA)
     case first=>
      cases AL with
      | true=>
       go_wp2_with fail
       go_meet
       exact ⟨by first | rfl | simp,rfl⟩
      | false=>
       go_wp2_with fail
       go_meet
       exact ⟨by first | rfl | simp,rfl⟩
     case rest=>
     obtain ⟨rfl,H1⟩:=hcut
     subst H1
     obtain ⟨w6,rfl⟩:∃x,x=wc:=⟨_,rfl⟩
     clear I8
     obtain ⟨PX,G7⟩:∃b,(AL||D)=b:=⟨_,rfl⟩
     rw [G7] at A8
     rw [G7]
     clear G7
     cases PX with
     | false=>
      have E1:=hZ9 (F7.out.trans (if_neg (by rw [A8.out];simp)))
      clear F7 A8
      go_wp2_with fail
      go_roundw
      case rel=>exact ⟨j+1,_,by omega,by go_num,by rw [E1.out];exact A2,B3,D9,E3,D8,C5,E9⟩
      case measure=>simp [intOf];omega
     | true=>
      have E1:=hZ9 (F7.out.trans (if_pos A8.out))
      simp only at E1
      clear F7 A8
      obtain ⟨V,hV⟩:∃V,(if tn=true then [] else vals)=V:=⟨_,rfl⟩
      have G6:=hZ9 (E1.out.trans (show Q++[if tn=true then (⟨ty,[]⟩:EnS.At) else ⟨ty,vals⟩]=Q++[⟨ty,V⟩] by rw [<-hV];cases tn <;> rfl))
      clear E1
      have HV:=hZ9 hV
      clear hV
      generalize D2:Q.length=QN at*
      go_upto_if 61 with fail
      go_cut [61] (fun v wd=>v=.bool tn/\∃u,Whole wd ab 56 #[.string ⟨ty.toArray⟩,u]/\Ap (okT [9] C wd) wd u V/\Av atK 56 [9] C wd w.heap.size (.slice ya QN yc) Q/\Whole wd bo 52 #[.string ⟨name.toArray⟩,.slice ya QN yc]/\Whole wd w.heap.size 52 #[.string ⟨name.toArray⟩,.slice (some ⟨g,o,none⟩) L c]/\Whole wd (w.heap.size+1) 38 #[.string ⟨bs.toArray⟩,.int .i64 sc,.int .i64 dr,.int .i64 kd,.string ⟨at0.toArray⟩,.string ⟨vl.toArray⟩,.string ⟨fs.toArray⟩,.string ⟨ls.toArray⟩,.slice a5 XL c5,.slice a6 PL c6,.slice aa k ca,.bool tn,.int .i64 sz]/\Whole wd (w.heap.size+2) 52 #[.string ⟨#[]⟩,.slice none 0 0]/\CW Tryz.prog 9 wd B N WF/\Below w.heap.size w wd)
      case first=>
       clear G6
       cases tn with
       | false=>
        have H2:Hid (vals=V):=hZ9 (by rw [<-HV.out];rfl)
        clear HV
        go_wp2_with fail
        go_meet
        exact ⟨rfl,_,A9,by rw [<-H2.out];exact I0,A2,B3,D9,E3,D8,C5,E9⟩
       | true=>
        have H2:Hid ([]=V):=hZ9 (by rw [<-HV.out];rfl)
        clear HV
        have t1:=A9.thaw 1
        have E2:=A9.put 1 (.slice none 0 0)
        have G9:=Dk C5 A9
        have H6:=C5.kept (Hn ab 1 (.slice none 0 0)) (fun e=>G9 (Option.some.inj e).symm)
        have A6:=A2.far A9 (by omega) (by decide) (fun e=>by have:=L3 _ e;omega) 1 (.slice none 0 0)
        have B9:=B3.other (p:=⟨ab,1,none⟩) (by show bo≠ab;omega) (.slice none 0 0)
        have B8:=D9.other (p:=⟨ab,1,none⟩) (by show w.heap.size≠ab;omega) (.slice none 0 0)
        have C1:=E3.other (p:=⟨ab,1,none⟩) (by show w.heap.size+1≠ab;omega) (.slice none 0 0)
        have C4:=D8.other (p:=⟨ab,1,none⟩) (by show w.heap.size+2≠ab;omega) (.slice none 0 0)
        have D1:=E9.setCell (p:=⟨ab,1,none⟩) (by show w.heap.size<=ab;omega) (.slice none 0 0)
        simp only [List.setIfInBounds_toArray,List.set_cons_succ,List.set_cons_zero] at E2
        clear I0 A2 B3 D9 D8 C5 E9
        go_wp2_with fail
        go_meet
        exact ⟨rfl,_,E2,by rw [<-H2.out];exact Ae.nil _ _,A6,B9,B8,C1,C4,H6,D1⟩
      case rest=>
      obtain ⟨rfl,u,E2,I6,A6,B9,B8,C1,C4,H6,D1⟩:=hcut
      obtain ⟨w7,rfl⟩:∃x,x=wc:=⟨_,rfl⟩
      clear HV I0 A2 B3 D9 E3 D8 C5 E9 d0 d1 K3 A9
      obtain ⟨a3,p3,rfl,_⟩:=Ae.form I6
      generalize N9:V.length=VN at*
      have e1:=B9.cell 1
      have f0:=E2.cell 0
      have f1:=E2.cell 1
      simp only [List.getElem?_toArray,List.getElem?_cons_zero,List.getElem?_cons_succ] at e1 f0 f1
      have B5:=Af w7 (.cells #[.string ⟨ty.toArray⟩,.slice a3 VN p3] 56)
      have I5:=Whole.made w7 56 #[.string ⟨ty.toArray⟩,.slice a3 VN p3]
      have J9:=D1.trans (B5.mono D1.size)
      have A1:=A6.call B5
      have N3:=Ap.callT I6 B5
      have b0:=I5.cell 0
      have b1:=I5.cell 1
      have H4:=J9.size
      simp only [List.getElem?_toArray,List.getElem?_cons_zero,List.getElem?_cons_succ] at b0 b1
      obtain ⟨i0,hi,M8,M3,C7⟩:=info_parts NQ
      go_wp2_with (at_builtin;refine OA atK 56 50 [9] (by decide) Tryz.underlying50 hi M8 M3 C7 (by rfl) (by rfl) _ _ (by rfl) w.heap.size hC _ Q (by rfl) A1 w7.heap.size (by rfl) ⟨ty,V⟩ _ b0 b1 N3 (by omega) H4 ?_)
      intro v8 w8 A0 G2 E0
      have F2:=(B9.call B5).grown A1 (by decide) E0
      have L9:=(B8.call B5).grown A1 (by decide) E0
      have M9:=(C1.call B5).grown A1 (by decide) E0
      have B6:=(C4.call B5).grown A1 (by decide) E0
      have K1:=H6.kept (AX B5) (by simp)
      have I7:=K1.kept E0 (fun e=>by obtain ⟨cur,hc⟩:=A1.cells e;exact Dk K1 hc rfl)
      rw [<-G6.out] at A0
      obtain ⟨yb,yd,rfl⟩:=A0.form
      generalize I2:(((xs.take (j+1)).filter (SeS.Hg at_)).map (fun a=>if tn=true then ⟨a.typ,[]⟩ else a))=Q2 at*
      have M2:=hZ9 I2
      clear I2 G6
      generalize O1:Q2.length=N1 at*
      have tq:=F2.thaw 1
      have tz:=F2.cell 1
      simp only [List.getElem?_toArray,List.getElem?_cons_zero,List.getElem?_cons_succ] at tz
      have J7:=F2.put 1 (.slice yb N1 yd)
      have D7:=A0.other F2 (by omega) (by decide) (by decide) 1 (.slice yb N1 yd)
      have L4:=L9.other (p:=⟨bo,1,none⟩) (by show w.heap.size≠bo;omega) (.slice yb N1 yd)
      have N4:=M9.other (p:=⟨bo,1,none⟩) (by show w.heap.size+1≠bo;omega) (.slice yb N1 yd)
      have M5:=B6.other (p:=⟨bo,1,none⟩) (by show w.heap.size+2≠bo;omega) (.slice yb N1 yd)
      have H5:=Dk I7 F2
      have M0:=I7.kept (Hn bo 1 (.slice yb N1 yd)) (fun e=>H5 (Option.some.inj e).symm)
      have F5:=(J9.trans G2).setCell (p:=⟨bo,1,none⟩) (by show w.heap.size<=bo;omega) (.slice yb N1 yd)
      simp only [List.setIfInBounds_toArray,List.set_cons_succ,List.set_cons_zero] at J7
      go_wp2_with fail
      go_roundw
      case rel=>exact ⟨j+1,_,by omega,by go_num,by rw [M2.out];exact D7,J7,L4,N4,M5,M0,F5⟩
      case measure=>simp [intOf];omega
   · have N0:j=L:=by omega
     subst N0
     have I3:=hZ9 (show ((xs.take j).filter (SeS.Hg at_)).map (fun a=>if tn=true then ⟨a.typ,[]⟩ else a)=(SeS.DZ at_ tn ⟨name,xs⟩).attrs by rw [K6.out,C6.out])
     rw [I3.out] at A3 ho
     clear I3 C6 H9 H0 A7 A8 K6 J3 hm M6 I4
     generalize (SeS.DZ at_ tn ⟨name,xs⟩).attrs=SA at*
     have J4:=Ti C name SA _ wr (Nat.le_trans hC hb.size) A3.attrsE K4.out
     unfold JD at J4⊢
     generalize L6:SA.length=SN at*
     have o0:=ho.cell 0
     have o1:=ho.cell 1
     simp only [List.getElem?_toArray,List.getElem?_cons_zero,List.getElem?_cons_succ] at o0 o1
     go_wp2_with fail
     refine J4.mono ?_
     rintro e w8 ⟨u8,rfl,A0,G2⟩
     have B6:=hz.call G2
     have D1:=hb.trans (G2.mono hb.size)
     obtain ⟨yb,yd,rfl⟩:=A0.form
     have A0:=A0.mono hb.size
     rw [L6] at*
     have s0:=B6.thaw 0
     have s1:=B6.thaw 1
     have t0:=B6.cell 0
     have t1:=B6.cell 1
     simp only [List.getElem?_toArray,List.getElem?_cons_zero,List.getElem?_cons_succ] at t0 t1
     have hA:=B6.put 0 (.string ⟨name.toArray⟩)
     have B3:=A0.other B6 (by omega) (by decide) (by decide) 0 (.string ⟨name.toArray⟩)
     simp only [List.setIfInBounds_toArray,List.set_cons_zero] at hA
     have hB:=hA.put 1 (.slice yb SN yd)
     have B9:=B3.other hA (by omega) (by decide) (by decide) 1 (.slice yb SN yd)
     simp only [List.setIfInBounds_toArray,List.set_cons_succ,List.set_cons_zero] at hB
     have F5:=(D1.setCell (p:=⟨w.heap.size+2,0,none⟩) (by show w.heap.size<=w.heap.size+2;omega) (.string ⟨name.toArray⟩)).setCell (p:=⟨w.heap.size+2,1,none⟩) (by show w.heap.size<=w.heap.size+2;omega) (.slice yb SN yd)
     have y0:=hB.cell 0
     have y1:=hB.cell 1
     simp only [List.getElem?_toArray,List.getElem?_cons_zero,List.getElem?_cons_succ] at y0 y1
     go_wp2_with fail
     (try simp only [Exit.inBlock,Exit.then])
     refine bodyPost_ret (v:=.agg #[.string ⟨name.toArray⟩,.slice yb SN yd]) ?_ rfl ⟨_,rfl,B9,F5⟩
     clear hA B3 hB B9 F5 A3 ho hw hr hz hb
     generalize (w8.setCell ⟨w.heap.size+2,0,none⟩ (.string ⟨name.toArray⟩)).setCell ⟨w.heap.size+2,1,none⟩ (.slice yb SN yd)=wf at*
     rw [Bv rfl]
     go_simp
end
section
open Go.RowKit
abbrev okA (C:Nat) (w:World):Nat->Prop:=okT [9,56] C w
def Be (C:Nat) (w:World) (m:Option Nat) (N:Nat) (R:List EnS.En):Prop:=
 (m=none/\R=[])\/∃b f,m=some b/\C<=b/\CW Tryz.prog 9 w b N f/\(∀s,(f s).isSome=true↔∃e ∈ R,e.name=s)/\∀e ∈ R,∃u,f e.name=some (.agg #[.string ⟨e.name.toArray⟩,u])/\Ao (okA C w) w u e.attrs
theorem IY {C:Nat} {w w':World} {u:Value} {xs:List EnS.At} {S:Nat->Prop} (h:Ao (okA C w) w u xs) (hs:w.heap.size<=w'.heap.size) (hb:∀k,k<w.heap.size->¬S k->w'.heap[k]?=w.heap[k]?) (hS:∀k,k<w.heap.size->okA C w k->¬S k):Ao (okA C w') w' u xs:=
 Ao.keep h hs (fun g hg A0=>hb g hg (hS g hg A0)) (fun g hg A0=>A0.same (hb g hg (hS g hg A0)))
theorem Be.call {C:Nat} {w w':World} {m:Option Nat} {N:Nat} {R:List EnS.En} (h:Be C w m N R) (hb:Below w.heap.size w w'):Be C w' m N R:=by
 rcases h with h | ⟨b,f,rfl,hC,hm,h1,h2⟩
 · exact .inl h
 · refine .inr ⟨b,f,rfl,hC,hm.kept (AX hb) (by simp),h1,fun e he=>?_⟩
   obtain ⟨u,hu,ha⟩:=h2 e he
   exact ⟨u,hu,Ao.callT ha hb⟩
theorem Be.pushed {C:Nat} {w w':World} {m:Option Nat} {N:Nat} {R:List EnS.En} (h:Be C w m N R) {α:Type} {L:KLay α} {T:TypeId} {Ts:List TypeId} {B:Nat} {v:Value} {xs:List α} (ho:Av L T Ts C w B v xs) (A8:C<=B) (hT:T ∉ [9,56]) (hg:w.grownBy w' v.ownBlock):Be C w' m N R:=by
 obtain ⟨us,A3,_,_⟩:=ho
 have A0:∀k,v.ownBlock=some k->∃cs fz,B<=k/\w.heap[k]?=some (.cells cs T fz):=fun k hk=>by
  rcases A3.2 with ⟨rfl,_⟩ | ⟨g,cap,cur,rfl,A4,hh,_⟩
  · cases hk
  · cases hk
    exact ⟨cur,_,A4,hh⟩
 rcases h with h | ⟨b,f,rfl,hC,hm,h1,h2⟩
 · exact .inl h
 · refine .inr ⟨b,f,rfl,hC,hm.kept hg (fun e=>?_),h1,fun e he=>?_⟩
   · obtain ⟨cs,fz,_,hc⟩:=A0 b e.symm
     exact Dk hm hc rfl
   · obtain ⟨u,hu,ha⟩:=h2 e he
     refine ⟨u,hu,IY (S:=fun k=>v.ownBlock=some k) ha hg.size (fun k hk hn=>hg.block k hk (fun e=>hn e.symm)) (fun k hk A1 hS=>?_)⟩
     obtain ⟨cs,fz,hB,hc⟩:=A0 k hS
     rcases A1 with A1 | ⟨A6,T',A7,A2,A5⟩
     · omega
     · rw [hc] at A2
       cases A2
       exact hT A5
theorem Be.store {C:Nat} {w w':World} {b N:Nat} {R:List EnS.En} {f:List UInt8->Option Value} (hC:C<=b) (hm:CW Tryz.prog 9 w b N f) (h1:∀s,(f s).isSome=true↔∃e ∈ R,e.name=s) (h2:∀e ∈ R,∃u,f e.name=some (.agg #[.string ⟨e.name.toArray⟩,u])/\Ao (okA C w) w u e.attrs)
  {x:EnS.En} {u:Value} (hu:Ao (okA C w) w u x.attrs) (hn:f x.name=none) (A2:CW Tryz.prog 9 w' b (N+1) (NU f x.name (.agg #[.string ⟨x.name.toArray⟩,u]))) (hg:w.grownBy w' (some b)):Be C w' (some b) (N+1) (R++[x]):=by
 have hk:∀{z:Value} {ys:List EnS.At},Ao (okA C w) w z ys->Ao (okA C w') w' z ys:=fun h=>IY (S:=fun k=>k=b) h hg.size (fun k hk hn=>hg.block k hk (fun e=>hn (Option.some.inj e))) (fun k hk A0 hS=>by
  subst hS
  rcases A0 with A0 | ⟨A3,T',A4,A1,_⟩
  · omega
  · exact Dk hm A1 rfl)
 have hx:∀e ∈ R,e.name≠x.name:=fun e he h=>by
  have:=(h1 x.name).2 ⟨e,he,h⟩
  rw [hn] at this
  cases this
 refine .inr ⟨b,_,rfl,hC,A2,fun s=>?_,fun e he=>?_⟩
 · unfold NU
   by_cases hs:s=x.name
   · rw [if_pos hs]
     exact ⟨fun _=>⟨x,List.mem_append_right _ (List.mem_singleton.2 rfl),hs.symm⟩,fun _=>rfl⟩
   · rw [if_neg hs,h1]
     constructor
     · rintro ⟨e,he,h⟩
       exact ⟨e,List.mem_append_left _ he,h⟩
     · rintro ⟨e,he,h⟩
       rcases List.mem_append.1 he with he | he
       · exact ⟨e,he,h⟩
       · rw [List.mem_singleton] at he
         subst he
         exact absurd h.symm hs
 · unfold NU
   rcases List.mem_append.1 he with he | he
   · obtain ⟨z,hz,ha⟩:=h2 e he
     exact ⟨z,by rw [if_neg (hx e he)];exact hz,hk ha⟩
   · rw [List.mem_singleton] at he
     subst he
     exact ⟨u,if_pos rfl,hk hu⟩
theorem Be.same {C:Nat} {w:World} {m:Option Nat} {N:Nat} {R:List EnS.En} (h:Be C w m N R) {x:EnS.En} (hx:x ∈ R):Be C w m N (R++[x]):=by
 rcases h with ⟨_,rfl⟩ | ⟨b,f,rfl,hC,hm,h1,h2⟩
 · cases hx
 · refine .inr ⟨b,f,rfl,hC,hm,fun s=>?_,fun e he=>?_⟩
   · rw [h1]
     constructor
     · rintro ⟨e,he,h⟩
       exact ⟨e,List.mem_append_left _ he,h⟩
     · rintro ⟨e,he,h⟩
       rcases List.mem_append.1 he with he | he
       · exact ⟨e,he,h⟩
       · rw [List.mem_singleton] at he
         subst he
         exact ⟨e,hx,h⟩
   · rcases List.mem_append.1 he with he | he
     · exact h2 e he
     · rw [List.mem_singleton] at he
       subst he
       exact h2 e hx
end
end Go.Proofs.YtgngjfjaelgaeaaGreatDoor
