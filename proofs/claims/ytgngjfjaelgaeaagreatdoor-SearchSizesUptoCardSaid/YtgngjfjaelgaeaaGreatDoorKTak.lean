/- The walk of taking what is found in a place. Conditions: as stated. -/
import Derived.StillTailTactics
import Derived.Test.YtgngjfjaelgaeaaGreatDoorKFou
import Derived.Test.YtgngjfjaelgaeaaGreatDoorKFiv
set_option maxRecDepth 100000
set_option maxHeartbeats 16000000
namespace Go.Proofs.YtgngjfjaelgaeaaGreatDoor
open Go.RowKit
attribute [local go_sem ↓] Go.wp_at_zero Go.wp_at_succ
theorem Av.base_le {α:Type} {L:KLay α} {T:TypeId} {Ts:List TypeId} {C:Nat} {w:World} {B:Nat} {v:Value} {xs:List α} (h:Av L T Ts C w B v xs) {k:Nat} (hk:v.ownBlock=some k):B<=k:=by
 obtain ⟨us,h1,_⟩:=h
 exact (World.ownsRow.lt h1 k hk).1
theorem AbU (w:World):(zeroValue 52).run Tryz.prog w=.ok (.agg #[.string ⟨#[]⟩,.slice none 0 0]) w:=by kernel_rfl
theorem Be.made {C:Nat} {w:World} {fb:Nat} (hC:C<=w.heap.size) (A0:fb<w.heap.size) (v:Value):Be C ((w.alloc (.map #[] 0)).setCell ⟨fb,0,none⟩ v) (some w.heap.size) 0 []:=
 .inr ⟨w.heap.size,fun _=>none,rfl,hC,(CW.made _ _ w).kept (Hn fb 0 v) (fun e=>by have:=Option.some.inj e;omega),fun s=>⟨fun h=>(by cases h),fun ⟨e,he,_⟩=>(by cases he)⟩,fun e he=>(by cases he)⟩
theorem Ae5 {goes holds:EnS.En->Bool} {R l:List EnS.En} {k:Nat} (hk:k<l.length):R++((l.take (k+1)).filter (fun e=>!goes e)).filter holds=if goes (l[k]'hk)=true then R++((l.take k).filter (fun e=>!goes e)).filter holds else if holds (l[k]'hk)=true then (R++((l.take k).filter (fun e=>!goes e)).filter holds)++[l[k]'hk] else R++((l.take k).filter (fun e=>!goes e)).filter holds:=by
 cases hg:goes (l[k]'hk) with
 | true=>rw [MR (p:=fun e=>!goes e) hk (by simp [hg]),if_pos rfl]
 | false=>
  rw [KB (p:=fun e=>!goes e) hk (by simp [hg]),if_neg (by simp),List.filter_append,List.filter_cons,List.filter_nil]
  cases holds (l[k]'hk) <;> simp
theorem RO {d:Int} (h0:0<=d) (h3:d<=3):d=0\/d=1\/d=2\/d=3:=by omega
theorem Afd (w0:World) (u:Value) (l:List EnS.En) (n:Nat) (q:SeS.Rq) (rv:Value) (pn:List UInt8) (ps:Int) (fb:Nat) (m:Option Nat) (N:Nat) (R:List EnS.En) (w:World) (h:Bq w0 u l) (hb0:Below w0.heap.size w0 w) (hf:FH l) (E7:∀e ∈ l,LJ e.attrs) (ho:SeS.BD l) (O9:SeS.BW l) (M3:∀e ∈ l,e.name≠[]) (hE:Env w0)
  (hq:Fb n w0 rv q) (M0:FiS.wdF 20000 q.filter) (J2:SeS.CM q=true) (P7:pn.length<=1000000) (hW:Whole w fb 63 #[.map m]) (hC:w0.heap.size<=fb) (hk:Be w0.heap.size w m N R) (hR:∀e ∈ R,e ∈ l) (hN:N<=1000000000000):
  Calls Tryz.prog 25 #[.pointer (some ⟨fb,0,none⟩),u,.agg #[.string ⟨pn.toArray⟩,.int .i64 ps],rv] w (fun e w'=>∃v b N',e=.returned v/\Av enK 52 [9,56] w0.heap.size w' w.heap.size v ((SeS.AV l pn ps).filter (SeS.FY (SeS.dr1 q) (pn,ps)))/\Whole w' fb 63 #[.map (some b)]/\Be w0.heap.size w' (some b) N' (R++(SeS.Fa l (SeS.dr1 q) (pn,ps)).filter (SeS.FN q.filter))/\N'<=N+l.length/\(∀i,i<w.heap.size->i=b->m=some i)/\But (fun i=>i=fb\/i=b) w w'):=by
 have K4:=hZ9 (fun V W A U h hA hf hE=>Acx n q.filter V U A W h M0 hA hf hE)
 have G2:=hZ9 (fun W hb hE=>Aaj w0 u l pn ps W h hb hf P7 ho M3 hE)
 have G6:Hid (∀e ∈ SeS.AV l pn ps,e ∈ l):=hZ9 (fun e he=>by
  unfold SeS.AV at he
  split at he
  · exact SeS.Bc he
  · cases he)
 have R5:Hid (∀e:EnS.En,SeS.FY (SeS.dr1 q) (pn,ps) e=(SeS.dr1 q&&(EnS.CZ e).2&&!(e.name==pn))):=hZ9 (fun _=>rfl)
 have J9:Hid (SeS.Fa l (SeS.dr1 q) (pn,ps)=((SeS.AV l pn ps).take (SeS.AV l pn ps).length).filter (fun e=>!SeS.FY (SeS.dr1 q) (pn,ps) e)):=hZ9 (by rw [List.take_length];rfl)
 have L5:Hid ((SeS.AV l pn ps).take (SeS.AV l pn ps).length=SeS.AV l pn ps):=hZ9 (List.take_length)
 have E1:Hid (0<=q.deref/\q.deref<=3):=hZ9 (by
  unfold SeS.CM at J2
  simp only [Bool.and_eq_true,decide_eq_true_eq] at J2
  omega)
 have B6:Hid (SeS.dr1 q=(decide (q.deref=1)||decide (q.deref=3))):=hZ9 rfl
 have J3:=hZ9 E7
 have R7:=hZ9 hf.2
 have O3:Hid ((SeS.AV l pn ps).length<=l.length/\l.length<=1048576):=hZ9 ⟨by
  unfold SeS.AV
  split
  · exact List.length_filter_le _ _
  · exact Nat.zero_le _,hf.1⟩
 have K5:=hZ9 O9
 have HR:=hZ9 hR
 have J0:=hZ9 (fun W (hb:Below w0.heap.size w0 W)=>hE.below hb)
 have O8:=hZ9 (fun W (hb:Below w0.heap.size w0 W)=>hq.call hb)
 have C9:=hZ9 (fun k (hk:k<(SeS.AV l pn ps).length)=>Ae5 (goes:=SeS.FY (SeS.dr1 q) (pn,ps)) (holds:=SeS.FN q.filter) (R:=R) hk)
 have F8:=hZ9 (fun k (hk:k<(SeS.AV l pn ps).length) h=>KB (p:=SeS.FY (SeS.dr1 q) (pn,ps)) hk h)
 have C4:=hZ9 (fun k (hk:k<(SeS.AV l pn ps).length) h=>MR (p:=SeS.FY (SeS.dr1 q) (pn,ps)) hk h)
 have N6:Hid (∀e:EnS.En,SeS.FN q.filter e=decide (FiS.MO e.attrs q.filter=1)):=hZ9 (fun _=>rfl)
 generalize SeS.FN q.filter=holds at*
 generalize hgo:SeS.FY (SeS.dr1 q) (pn,ps)=goes at*
 clear hgo
 generalize SeS.Fa l (SeS.dr1 q) (pn,ps)=FO at*
 generalize SeS.dr1 q=D1 at*
 generalize SeS.AV l pn ps=SL at*
 obtain ⟨a5,a6,aa,c5,c6,ca,rfl,J5,_⟩:=hq
 obtain ⟨ua,uc,rfl,_⟩:=Ae.form h
 obtain ⟨bs,sc,dr,x,at_,tn,sz⟩:=q
 simp only at J5 K4 O8 E1 B6 N6
 clear h hf E7 ho O9 M3 hE M0 J2 P7 hR
 have M6:Hid (∀W,Below w0.heap.size w0 W->Dq n W (.agg #[.int .i64 x.kind,.string ⟨x.attr.toArray⟩,.string ⟨x.value.toArray⟩,.string ⟨x.first.toArray⟩,.string ⟨x.last.toArray⟩,.slice a5 x.any.length c5,.slice a6 x.parts.length c6]) x):=hZ9 (fun W hb=>J5.call hb)
 clear J5 O8
 have C8:=hZ9 (fun A U W (hb:Below w0.heap.size w0 W) hA hf=>K4.out _ W A U (M6.out W hb) hA hf (J0.out W hb))
 unfold LK at C8
 clear K4 M6
 generalize at_.length=QL at*
 generalize x.any.length=XL at*
 generalize x.parts.length=PL at*
 generalize x.kind=kd at*
 generalize x.attr=at0 at*
 generalize x.value=vl at*
 generalize x.first=fs at*
 generalize x.last=ls at*
 have O0:=Af w (.cells #[.string ⟨pn.toArray⟩,.int .i64 ps] 65)
 have M8:=Whole.made w 65 #[.string ⟨pn.toArray⟩,.int .i64 ps]
 have K1:=Af (w.alloc (.cells #[.string ⟨pn.toArray⟩,.int .i64 ps] 65)) (.cells #[.string ⟨bs.toArray⟩,.int .i64 sc,.int .i64 dr,.int .i64 kd,.string ⟨at0.toArray⟩,.string ⟨vl.toArray⟩,.string ⟨fs.toArray⟩,.string ⟨ls.toArray⟩,.slice a5 XL c5,.slice a6 PL c6,.slice aa QL ca,.bool tn,.int .i64 sz] 38)
 have D9:=Whole.made (w.alloc (.cells #[.string ⟨pn.toArray⟩,.int .i64 ps] 65)) 38 #[.string ⟨bs.toArray⟩,.int .i64 sc,.int .i64 dr,.int .i64 kd,.string ⟨at0.toArray⟩,.string ⟨vl.toArray⟩,.string ⟨fs.toArray⟩,.string ⟨ls.toArray⟩,.slice a5 XL c5,.slice a6 PL c6,.slice aa QL ca,.bool tn,.int .i64 sz]
 have s1:(w.alloc (.cells #[.string ⟨pn.toArray⟩,.int .i64 ps] 65)).heap.size=w.heap.size+1:=by show (w.heap.push _).size=_;exact Array.size_push _
 rw [s1] at D9
 have F1:=Aa O0 K1
 have I8:=M8.call K1
 have D2:=hW.call F1
 have I2:=hk.call F1
 obtain ⟨W2,F4⟩:∃W,W=(w.alloc (.cells #[.string ⟨pn.toArray⟩,.int .i64 ps] 65)).alloc (.cells #[.string ⟨bs.toArray⟩,.int .i64 sc,.int .i64 dr,.int .i64 kd,.string ⟨at0.toArray⟩,.string ⟨vl.toArray⟩,.string ⟨fs.toArray⟩,.string ⟨ls.toArray⟩,.slice a5 XL c5,.slice a6 PL c6,.slice aa QL ca,.bool tn,.int .i64 sz] 38):=⟨_,rfl⟩
 have s2:W2.heap.size=w.heap.size+2:=by
  rw [F4]
  show (World.heap _ |>.push _).size=_
  rw [Array.size_push,s1]
 rw [<-F4] at D9 F1 I8 D2 I2
 have S1:=hW.lt
 clear O0 K1 M8 s1 hW hk
 have B1:=D2.cell 0
 have P8:=D2.thaw 0
 simp only [List.getElem?_toArray,List.getElem?_cons_zero] at B1
 have Q9:=@run_makeMap Tryz.prog
 have Q4:=fun W=>run_eql_map_nil (P:=Tryz.prog) W 61 _ _ m Tryz.underlying61
 subst F4
 go_enter Tryz.func25,Tryz.ntmps25
 go_upto_if 20 with fail
 go_cut [20] (fun v wd=>v=.bool m.isNone/\∃b N1,Whole wd fb 63 #[.map (some b)]/\Be w0.heap.size wd (some b) N1 R/\N1<=N/\(∀i,i<w.heap.size->i=b->m=some i)/\But (fun i=>i=fb) ((w.alloc (.cells #[.string ⟨pn.toArray⟩,.int .i64 ps] 65)).alloc (.cells #[.string ⟨bs.toArray⟩,.int .i64 sc,.int .i64 dr,.int .i64 kd,.string ⟨at0.toArray⟩,.string ⟨vl.toArray⟩,.string ⟨fs.toArray⟩,.string ⟨ls.toArray⟩,.slice a5 XL c5,.slice a6 PL c6,.slice aa QL ca,.bool tn,.int .i64 sz] 38)) wd)
 case first=>
  generalize F4:((w.alloc (.cells #[.string ⟨pn.toArray⟩,.int .i64 ps] 65)).alloc (.cells #[.string ⟨bs.toArray⟩,.int .i64 sc,.int .i64 dr,.int .i64 kd,.string ⟨at0.toArray⟩,.string ⟨vl.toArray⟩,.string ⟨fs.toArray⟩,.string ⟨ls.toArray⟩,.slice a5 XL c5,.slice a6 PL c6,.slice aa QL ca,.bool tn,.int .i64 sz] 38))=W2 at*
  cases m with
  | none=>
   rcases I2 with ⟨_,rfl⟩ | ⟨b,f,e,_⟩
   case inr=>cases e
   have E2:=D2.call (Af W2 (.map #[] 0))
   have S6:=E2.thaw 0
   have m3:=E2.cell 0
   simp only [List.getElem?_toArray,List.getElem?_cons_zero] at m3
   have M7:=Be.made (C:=w0.heap.size) (w:=W2) (fb:=fb) (by have:=hb0.size;omega) (by omega) (.map (some W2.heap.size))
   have L2:=E2.put 0 (.map (some W2.heap.size))
   have M9:But (fun i=>i=fb) W2 ((W2.alloc (.map #[] 0)).setCell ⟨fb,0,none⟩ (.map (some W2.heap.size))):=((But.refl _ W2).call (Af W2 (.map #[] 0))).grown (Hn fb 0 _) (fun i _ e=>(Option.some.inj e).symm)
   simp only [List.setIfInBounds_toArray,List.set_cons_zero] at L2
   have R0:W2.heap.size=w.heap.size+2:=s2
   rw [R0] at M7 L2 M9
   clear D2 B1 P8 E2
   go_wp2_with fail
   go_meet
   exact ⟨rfl,w.heap.size+2,0,L2,M7,Nat.zero_le _,fun i hi e=>by omega,M9⟩
  | some b=>
   go_wp2_with fail
   go_meet
   exact ⟨rfl,b,N,D2,I2,Nat.le_refl _,fun i _ e=>by rw [e],But.refl _ _⟩
 case rest=>
 obtain ⟨rfl,b,N1,E2,N7,T3,hbm,H0⟩:=hcut
 obtain ⟨w3,rfl⟩:∃x,x=wc:=⟨_,rfl⟩
 generalize F4:((w.alloc (.cells #[.string ⟨pn.toArray⟩,.int .i64 ps] 65)).alloc (.cells #[.string ⟨bs.toArray⟩,.int .i64 sc,.int .i64 dr,.int .i64 kd,.string ⟨at0.toArray⟩,.string ⟨vl.toArray⟩,.string ⟨fs.toArray⟩,.string ⟨ls.toArray⟩,.slice a5 XL c5,.slice a6 PL c6,.slice aa QL ca,.bool tn,.int .i64 sz] 38))=W2 at*
 have T0:=I8.lt
 have T4:=D9.lt
 have I6:=H0.whole I8 (fun e=>by omega)
 have O2:=H0.whole D9 (fun e=>by omega)
 have L1:=hb0.size
 have B0:Below w0.heap.size w0 w3:=(hb0.trans (F1.mono L1)).trans (H0.below (by omega) (fun i e=>by rw [e];exact hC))
 have H3:But (fun i=>i=fb\/i=b) w w3:=((But.refl (fun i=>i=fb\/i=b) w).call F1).trans H0 (fun i _ e=>.inl e)
 clear H0 F1 D2 I2 B1 P8 Q4 Q9 I8 D9 F4
 have p0:=I6.cell 0
 have p1:=I6.cell 1
 simp only [List.getElem?_toArray,List.getElem?_cons_zero,List.getElem?_cons_succ] at p0 p1
 have M2:=G2.out w3 B0 (J0.out w3 B0)
 clear G2
 go_wp2_with fail
 refine M2.mono ?_
 rintro e w5 ⟨v5,rfl,B2,D6⟩
 obtain ⟨ya,yc,rfl⟩:=B2.form
 have K8:=E2.call D6
 have N4:=N7.call D6
 have O6:=I6.call D6
 have O1:=O2.call D6
 have D8:=B0.trans (D6.mono B0.size)
 have C6:=H3.call D6
 have J8:=C6.size
 obtain ⟨M5,f5,I0⟩:w0.heap.size<=b/\∃f,CW Tryz.prog 9 w5 b N1 f:=by
  rcases N4 with ⟨e,_⟩ | ⟨b',f,e,h1,h2,_⟩
  · cases e
  · cases e
    exact ⟨h1,f,h2⟩
 clear E2 N7 I6 O2 B0 H3 p0 p1 D6 M2
 have J1:Hid (∀k,okA w0.heap.size w5 k->¬(k=fb\/k=b)):=hZ9 (fun k E4 hs=>by
  rcases hs with rfl | rfl
  · rcases E4 with E4 | ⟨cs,T,fz,hc,hT⟩
    · omega
    · have h1:=K8
      unfold Whole at h1
      rw [h1] at hc
      cases hc
      revert hT
      decide
  · rcases E4 with E4 | ⟨cs,T,fz,hc,_⟩
    · omega
    · exact Dk I0 hc rfl)
 have L9:Hid (∀k (hk:k<SL.length),∃g us,ya=some ⟨g,0,none⟩/\g<w5.heap.size/\¬(g=fb\/g=b)/\w5.cell? ⟨g,k*2,none⟩=some (Ac (SL[k]'hk).name)/\w5.cell? ⟨g,k*2+1,none⟩=some us/\Ao (okA w0.heap.size w5) w5 us (SL[k]'hk).attrs):=hZ9 (fun k hk=>by
  obtain ⟨g,cap,us,ea,_,_,⟨cur,C2⟩,_,c0,c1,F0⟩:=B2.slice hk
  injection ea with e1 _ _
  refine ⟨g,us,e1,(Array.getElem?_eq_some_iff.1 C2).1,fun hs=>?_,c0,c1,F0⟩
  rcases hs with rfl | rfl
  · have h1:=K8
    unfold Whole at h1
    rw [h1] at C2
    cases C2
  · exact Dk I0 C2 rfl)
 have S0:w.heap.size≠b:=fun e=>Dk I0 O6 e
 have T1:w.heap.size+1≠b:=fun e=>Dk I0 O1 e
 have L4:=hZ9 (fun W (hb:But (fun i=>i=fb\/i=b) w5 W)=>hb.whole O6 (fun e=>by omega))
 have P2:=hZ9 (fun W (hb:But (fun i=>i=fb\/i=b) w5 W)=>hb.whole O1 (fun e=>by omega))
 have K3:=hZ9 (fun W (hb:But (fun i=>i=fb\/i=b) w5 W)=>D8.trans (hb.below (by have:=D8.size;omega) (fun i e=>by omega)))
 clear B2
 obtain ⟨L,hL⟩:∃n,SL.length=n:=⟨_,rfl⟩
 have HL:=hZ9 hL
 rw [hL] at J9 L5 O3⊢
 have T2:=O3.out
 clear hL
 go_wp2_with fail
 go_loopw [9,32] (fun al i wr=>∃k N2:Nat,k<=L/\i=.int .i64 k/\Av enK 52 [9,56] w0.heap.size wr w5.heap.size al ((SL.take k).filter goes)/\Whole wr fb 63 #[.map (some b)]/\Be w0.heap.size wr (some b) N2 (R++((SL.take k).filter (fun e=>!goes e)).filter holds)/\N2<=N1+k/\But (fun i=>i=fb\/i=b) w5 wr) (fun _ i _=>L - (intOf i).toNat)
 case atStart=>exact ⟨0,N1,Nat.zero_le _,rfl,Av.empty _ _ _ _ _ _,K8,by simpa using N4,by omega,But.refl _ _⟩
 case round=>
  obtain ⟨k,N2,S2,rfl,B7,L3,H9,T5,D3⟩:=hrel
  obtain ⟨oa,oc,rfl⟩:=B7.form
  by_cases R1:k<L
  case neg=>
   have R3:k=L:=by omega
   subst R3
   have Q3:=hZ9 (show (SL.take k).filter goes=SL.filter goes by rw [L5.out])
   have R6:Hid (FO.filter holds=((SL.take k).filter (fun e=>!goes e)).filter holds):=hZ9 (by rw [J9.out])
   rw [<-R6.out] at H9
   generalize (SL.take k).filter goes=Q at*
   clear C8 L9 C9 F8 C4 J1 L4 P2 K3 J9 L5
   go_wp2_with fail
   go_ret
   exact ⟨_,b,N2,rfl,by rw [<-Q3.out];exact B7.mono J8,L3,H9,by omega,hbm,C6.trans D3 (fun i _ e=>e)⟩
  have A2:k<SL.length:=by rw [HL.out];exact R1
  obtain ⟨g,us,rfl,hg,Q0,d0,d1,F0⟩:=L9.out k A2
  have hblk:=D3.block g hg Q0
  have e0:=(World.cell?_of_block (a:=⟨g,k*2,none⟩) hblk).trans d0
  have e1:=(World.cell?_of_block (a:=⟨g,k*2+1,none⟩) hblk).trans d1
  have A8:=IY (S:=fun i=>i=fb\/i=b) F0 D3.size (fun i hi hn=>D3.block i hi hn) (fun i _ E4=>J1.out i E4)
  have D5:=G6.out _ (List.getElem_mem A2)
  have E7:=J3.out _ D5
  have K7:=R7.out _ D5
  have HG:=hZ9 (R5.out (SL[k]'A2))
  have HH:=hZ9 (N6.out (SL[k]'A2))
  have A3:=C9.out k A2
  have I7:=F8.out k A2
  have I3:=C4.out k A2
  have F3:Hid ((∃e ∈ R++((SL.take k).filter (fun e=>!goes e)).filter holds,e.name=(SL[k]'A2).name)->(SL[k]'A2) ∈ R++((SL.take k).filter (fun e=>!goes e)).filter holds):=hZ9 (fun ⟨e,he,hn⟩=>by
   have F0:e ∈ l:=by
    rcases List.mem_append.1 he with h | h
    · exact HR.out e h
    · exact G6.out e (List.mem_of_mem_take (SeS.Bc (SeS.Bc h)))
   rw [<-K5.out e F0 _ D5 hn]
   exact he)
  clear d0 d1 F0 hblk L9 C9 F8 C4 J1
  generalize SL[k]=z at*
  obtain ⟨name,B8⟩:=z
  simp only at e0 e1 A8 E7 K7 HG HH A3 F3
  unfold Ac at e0
  obtain ⟨ax,cx,rfl,S4⟩:=Ae.form A8
  generalize hQ:(SL.take k).filter goes=Q at*
  have S9:Q.length<=1048576:=by rw [<-hQ];exact Nat.le_trans (List.length_filter_le _ _) (by rw [List.length_take];omega)
  clear hQ
  generalize R++((SL.take k).filter (fun e=>!goes e)).filter holds=RR at*
  generalize S5:goes ⟨name,B8⟩=G at*
  generalize R8:holds ⟨name,B8⟩=HO at*
  have S7:(0:Int)<=(k:Int):=by omega
  have R9:(k:Int)<(L:Int):=by omega
  obtain ⟨AL,L8⟩:∃n,B8.length=n:=⟨_,rfl⟩
  have G3:=Af wr (.cells #[.string ⟨name.toArray⟩,.slice ax AL cx] 52)
  have H7:=Whole.made wr 52 #[.string ⟨name.toArray⟩,.slice ax AL cx]
  have P4:=D3.call G3
  have C0:=WS name B8 (.slice ax AL cx) _ (J0.out _ (K3.out _ P4)) (by rw [<-L8];exact (Ao.callT A8 (by rw [L8];exact G3)).any) K7.2
  rw [L8] at A8 e1
  unfold OE at C0
  generalize EnS.CZ ⟨name,B8⟩=AA at*
  obtain ⟨S8,al⟩:=AA
  simp only at C0 HG
  have x0:=H7.cell 0
  have x1:=H7.cell 1
  simp only [List.getElem?_toArray,List.getElem?_cons_zero,List.getElem?_cons_succ] at x0 x1
  go_wp2_with fail
  refine C0.mono ?_
  rintro e w6 ⟨rfl,K9⟩
  have F5:=G3.trans (K9.mono G3.size)
  have A1:=B7.call F5
  have E8:=L3.call F5
  have D0:=H9.call F5
  have F7:=H7.call K9
  have A9:=Ao.callT A8 F5
  have A6:=D3.call F5
  have N3:=L4.out _ A6
  have L6:=P2.out _ A6
  clear B7 L3 H9 H7 A8 x0 x1 C0 P4 G3 K9 e0 e1
  have x0:=F7.cell 0
  have x1:=F7.cell 1
  have O4:=N3.cell 0
  have M1:=L6.cell 2
  simp only [List.getElem?_toArray,List.getElem?_cons_zero,List.getElem?_cons_succ] at x0 x1 O4 M1
  have P9:=A6.size
  have R4:=F7.lt
  have H2:w0.heap.size<=w5.heap.size:=D8.size
  generalize wr.heap.size=eb at*
  clear L4 D3 F5
  go_upto_region 8 with fail
  go_cut [54] (fun v wd=>v=.bool G/\wd=w6)
  case first=>
   clear A3 I7 I3 A1 E8 D0 A9 C8
   have E9:=E1.out
   cases al with
   | false=>
    have HP:Hid (false=G):=hZ9 (by rw [HG.out];cases D1 <;> rfl)
    clear HG
    go_wp2_with fail
    go_meet
    exact ⟨by (rw [<-HP.out]) <;> rfl,rfl⟩
   | true=>
    rcases RO E9.1 E9.2 with rfl | rfl | rfl | rfl
    · have HP:Hid (false=G):=hZ9 (by rw [HG.out,B6.out];rfl)
      clear HG B6 E1 E9
      go_wp2_with fail
      go_meet
      exact ⟨by (rw [<-HP.out]) <;> rfl,rfl⟩
    · have HP:Hid ((name !=pn)=G):=hZ9 (by rw [HG.out,B6.out];rfl)
      clear HG B6 E1 E9
      go_wp2_with fail
      go_meet
      exact ⟨by (rw [<-HP.out]) <;> rfl,rfl⟩
    · have HP:Hid (false=G):=hZ9 (by rw [HG.out,B6.out];rfl)
      clear HG B6 E1 E9
      go_wp2_with fail
      go_meet
      exact ⟨by (rw [<-HP.out]) <;> rfl,rfl⟩
    · have HP:Hid ((name !=pn)=G):=hZ9 (by rw [HG.out,B6.out];rfl)
      clear HG B6 E1 E9
      go_wp2_with fail
      go_meet
      exact ⟨by (rw [<-HP.out]) <;> rfl,rfl⟩
  case rest=>
  obtain ⟨rfl,Q6⟩:=hcut
  subst Q6
  obtain ⟨w7,rfl⟩:∃x,x=wc:=⟨_,rfl⟩
  clear HG B6 E1 O4 M1
  cases G with
  | true=>
   have G7:=Af w7 (.cells #[.string ⟨name.toArray⟩,.slice ax AL cx] 52)
   have N8:=Whole.made w7 52 #[.string ⟨name.toArray⟩,.slice ax AL cx]
   have A5:=A1.call G7
   have Q1:=E8.call G7
   have Q7:=D0.call G7
   have G0:=Ao.callT A9 G7
   have H5:=A6.call G7
   have b0:=N8.cell 0
   have b1:=N8.cell 1
   have K6:=H5.size
   simp only [List.getElem?_toArray,List.getElem?_cons_zero,List.getElem?_cons_succ] at b0 b1
   have F8:=hZ9 (I7 rfl)
   rw [if_pos rfl] at A3
   have C3:=hZ9 A3
   have Q5:=hZ9 G0
   obtain ⟨i0,hi,L1,R2,Q2⟩:=info_parts LM
   clear A3 I7 I3 A1 E8 D0 A9 C8 F3 HH G0 E7 K7
   go_wp2_with (at_builtin;refine OA enK 52 22 [9,56] (by decide) Tryz.underlying22 hi L1 R2 Q2 (by rfl) (by rfl) _ _ (by rfl) w5.heap.size H2 _ Q (by rfl) A5 w7.heap.size (by rfl) ⟨name,B8⟩ _ b0 b1 Q5.out (by omega) K6 ?_)
   intro v8 w8 A4 C5 K0
   have F6:=Q1.grown A5 (by decide) K0
   have F2:=Q7.pushed A5 H2 (by decide) K0
   have A7:=H5.grown K0 (fun i hi e=>absurd (A5.base_le e) (by omega))
   go_wp2_with fail
   go_roundw
   case rel=>exact ⟨k+1,N2,by omega,by go_num,by rw [F8.out];exact A4,F6,by rw [C3.out];exact F2,by omega,A7⟩
   case measure=>simp [intOf];omega
  | false=>
   rw [if_neg (by simp)] at A3
   have C3:=hZ9 A3
   have C4:=hZ9 (I3 rfl)
   clear A3 I7 I3
   obtain ⟨f6,P3,h61,h62⟩:∃f,CW Tryz.prog 9 w7 b N2 f/\(∀s,(f s).isSome=true↔∃e ∈ RR,e.name=s)/\∀e ∈ RR,∃u,f e.name=some (.agg #[.string ⟨e.name.toArray⟩,u])/\Ao (okA w0.heap.size w7) w7 u e.attrs:=by
    rcases D0 with ⟨e,_⟩ | ⟨b',f,e,_,h2,h3,h4⟩
    · cases e
    · cases e
      exact ⟨f,h2,h3,h4⟩
   obtain ⟨ys,ya,ym,yc,hy⟩:∃(ys:List UInt8) (ya:Option Addr) (ym yc:Nat),(f6 name).getD (.agg #[.string ⟨#[]⟩,.slice none 0 0])=.agg #[.string ⟨ys.toArray⟩,.slice ya ym yc]:=by
    cases hf:f6 name with
    | none=>exact ⟨[],_,_,_,rfl⟩
    | some v=>
     obtain ⟨e,he,hn⟩:=(h61 name).1 (by rw [hf];rfl)
     obtain ⟨u,hu,ha⟩:=h62 e he
     obtain ⟨a,c,rfl,_⟩:=Ae.form ha
     rw [hn,hf] at hu
     exact ⟨_,_,_,_,Option.some.inj hu⟩
   have H1:=hZ9 (fun W (hm:CW Tryz.prog 9 W b N2 f6)=>(hm.look Tryz.underlying9 Tryz.underlying61 (AbU W) name (by unfold maxLen;omega)).1)
   have H8:=hZ9 (fun W (hb:Below w7.heap.size w7 W)=>P3.kept (AX hb) (by simp))
   have E5:Hid ((f6 name).isSome=true↔∃e ∈ RR,e.name=name):=hZ9 (h61 name)
   rw [hy] at H1
   generalize (f6 name).isSome=TT at*
   clear h61 h62 P3 hy
   have B1:=E8.cell 0
   simp only [List.getElem?_toArray,List.getElem?_cons_zero] at B1
   go_upto_region 10 with fail
   go_cut [15] (fun v wd=>v=.bool TT/\Below w7.heap.size w7 wd)
   case first=>
    clear C3 C4 A1 D0 A9 C8 F3 E5
    have Q8:=H1.out w7.drew (H8.out _ (below_drewN w7 1))
    have L7:=(Af w7 (.cells #[.string ⟨#[]⟩,.slice none 0 0] 52)).drew
    have I4:=(Whole.made w7 52 #[.string ⟨#[]⟩,.slice none 0 0]).drew
    have K2:=H1.out (w7.alloc (.cells #[.string ⟨#[]⟩,.slice none 0 0] 52)).drew (H8.out _ L7)
    have m2:=Ab B1 L7
    have x2:=Ab x0 L7
    have t0:=I4.thaw 0
    have t1:=I4.thaw 1
    have b0:=I4.cell 0
    have b1:=I4.cell 1
    simp only [List.getElem?_toArray,List.getElem?_cons_zero,List.getElem?_cons_succ] at b0 b1
    have I9:=(Af w7 (.cells #[.string ⟨ys.toArray⟩,.slice ya ym yc] 52)).drew
    have m3:=Ab B1 I9
    have x3:=Ab x0 I9
    have J7:=H1.out (w7.alloc (.cells #[.string ⟨ys.toArray⟩,.slice ya ym yc] 52)).drew (H8.out _ I9)
    refine Gp 12 (fun W=>W.cell? ⟨fb,0,none⟩=some (.map (some b))/\W.cell? ⟨eb,0,none⟩=some (.string ⟨name.toArray⟩)/\(Instr.lookup 61 (.map (some b)) (.string ⟨name.toArray⟩) true).run Tryz.prog W=.ok (.tuple #[.agg #[.string ⟨ys.toArray⟩,.slice ya ym yc],.bool TT]) W) (by kernel_rfl) (by kernel_rfl) ⟨B1,x0,Q8⟩ (fun A0=>?_)
    refine Ah 0 ?_ (by simp only [List.length_cons,List.length_nil];decide) (by kernel_rfl) (fun _ _ _ h=>h) (by rfl) ?_ A0 ?_
    rotate_left
    · intro W C1;(try simp only [List.getElem_cons_zero]);(try go_split_ands);go_simp;(try with_reducible rfl)
    (try simp only [List.getElem_cons_zero,Act.put,List.setIfInBounds_toArray,List.set_cons_zero,List.set_cons_succ])
    refine Ah 1 ?_ (by simp only [List.length_cons,List.length_nil];decide) (by kernel_rfl) (fun _ _ _ h=>h) (by rfl) ?_ A0 ?_
    rotate_left
    · intro W C1;(try simp only [List.getElem_cons_succ,List.getElem_cons_zero]);(try go_split_ands);go_simp;(try with_reducible rfl)
    (try simp only [List.getElem_cons_succ,List.getElem_cons_zero,Act.put,List.setIfInBounds_toArray,List.set_cons_zero,List.set_cons_succ])
    refine Ah 2 ?_ (by simp only [List.length_cons,List.length_nil];decide) (by kernel_rfl) (fun _ _ _ h=>h) (by rfl) ?_ A0 ?_
    rotate_left
    · intro W C1;(try simp only [List.getElem_cons_succ,List.getElem_cons_zero]);(try go_split_ands);go_simp;(try with_reducible rfl)
    (try simp only [List.getElem_cons_succ,List.getElem_cons_zero,Act.put,List.setIfInBounds_toArray,List.set_cons_zero,List.set_cons_succ])
    refine Ah 3 ?_ (by simp only [List.length_cons,List.length_nil];decide) (by kernel_rfl) (fun _ _ _ h=>h) (by rfl) ?_ A0 ?_
    rotate_left
    · intro W C1;(try simp only [List.getElem_cons_succ,List.getElem_cons_zero]);(try go_split_ands);go_simp;(try with_reducible rfl)
    (try simp only [List.getElem_cons_succ,List.getElem_cons_zero,Act.put,List.setIfInBounds_toArray,List.set_cons_zero,List.set_cons_succ])
    refine Ah 4 ?_ (by simp only [List.length_cons,List.length_nil];decide) (by kernel_rfl) (fun _ _ _ h=>h) (by rfl) ?_ A0 ?_
    rotate_left
    · intro W C1;(try simp only [List.getElem_cons_succ,List.getElem_cons_zero]);(try go_split_ands);go_simp;(try with_reducible rfl)
    (try simp only [List.getElem_cons_succ,List.getElem_cons_zero,Act.put,List.setIfInBounds_toArray,List.set_cons_zero,List.set_cons_succ])
    refine Ah 5 ?_ (by simp only [List.length_cons,List.length_nil];decide) (by kernel_rfl) (fun _ _ _ h=>h) (by rfl) ?_ A0 ?_
    rotate_left
    · intro W C1;(try simp only [List.getElem_cons_succ,List.getElem_cons_zero]);(try go_split_ands);go_simp;(try with_reducible rfl)
    (try simp only [List.getElem_cons_succ,List.getElem_cons_zero,Act.put,List.setIfInBounds_toArray,List.set_cons_zero,List.set_cons_succ])
    refine Ah 6 ?_ (by simp only [List.length_cons,List.length_nil];decide) (by kernel_rfl) (fun _ _ _ h=>h) (by rfl) ?_ A0 ?_
    rotate_left
    · intro W C1;(try simp only [List.getElem_cons_succ,List.getElem_cons_zero]);(try go_split_ands);go_simp;(try with_reducible rfl)
    (try simp only [List.getElem_cons_succ,List.getElem_cons_zero,Act.put,List.setIfInBounds_toArray,List.set_cons_zero,List.set_cons_succ])
    refine Ah 7 ?_ (by simp only [List.length_cons,List.length_nil];decide) (by kernel_rfl) (fun _ _ _ h=>h) (by rfl) ?_ A0 ?_
    rotate_left
    · intro W C1;(try simp only [List.getElem_cons_succ,List.getElem_cons_zero]);(try go_split_ands);go_simp;(try with_reducible rfl)
    (try simp only [List.getElem_cons_succ,List.getElem_cons_zero,Act.put,List.setIfInBounds_toArray,List.set_cons_zero,List.set_cons_succ])
    refine Ah 8 ?_ (by simp only [List.length_cons,List.length_nil];decide) (by kernel_rfl) (fun _ _ _ h=>h) (by rfl) ?_ A0 ?_
    rotate_left
    · intro W C1;(try simp only [List.getElem_cons_succ,List.getElem_cons_zero]);(try go_split_ands);go_simp;(try with_reducible rfl)
    (try simp only [List.getElem_cons_succ,List.getElem_cons_zero,Act.put,List.setIfInBounds_toArray,List.set_cons_zero,List.set_cons_succ])
    refine Ah 9 ?_ (by simp only [List.length_cons,List.length_nil];decide) (by kernel_rfl) (fun _ _ _ h=>h) (by rfl) ?_ A0 ?_
    rotate_left
    · intro W C1;(try simp only [List.getElem_cons_succ,List.getElem_cons_zero]);(try go_split_ands);go_simp;(try with_reducible rfl)
    (try simp only [List.getElem_cons_succ,List.getElem_cons_zero,Act.put,List.setIfInBounds_toArray,List.set_cons_zero,List.set_cons_succ])
    refine BN 10 (by simp only [List.length_cons,List.length_nil];decide) (by kernel_rfl) (fun K hK=>?_)
    (try simp only [List.getElem_cons_succ,List.getElem_cons_zero])
    refine BA (by rfl) ?_
    go_simp
    refine hK.out _ _ ?_ (fun A0=>?_)
    · exact ⟨m2,x2,K2⟩
    clear hK K
    (try simp only [List.getElem_cons_succ,List.getElem_cons_zero,Act.put,List.setIfInBounds_toArray,List.set_cons_zero,List.set_cons_succ])
    refine BN 11 (by simp only [List.length_cons,List.length_nil];decide) (by kernel_rfl) (fun K hK=>?_)
    (try simp only [List.getElem_cons_succ,List.getElem_cons_zero])
    refine BA (by rfl) ?_
    go_simp
    refine hK.out _ _ ?_ (fun A0=>?_)
    · exact ⟨m3,x3,J7⟩
    clear hK K
    (try simp only [List.getElem_cons_succ,List.getElem_cons_zero,Act.put,List.setIfInBounds_toArray,List.set_cons_zero,List.set_cons_succ])
    refine EK (by kernel_rfl) ?_
    simp only [List.drop_succ_cons,List.drop_zero]
    clear A0
    go_wp2_with fail
    go_meet
    exact ⟨rfl,I9⟩
   case rest=>
   obtain ⟨rfl,C5⟩:=hcut
   obtain ⟨w8,rfl⟩:∃x,x=wc:=⟨_,rfl⟩
   have A4:=A1.call C5
   have F6:=E8.call C5
   have F2:=D0.call C5
   have E0:=Ao.callT A9 C5
   have A7:=A6.call C5
   have C7:=L6.call C5
   have B9:=F7.call C5
   clear A1 E8 D0 A9 A6 N3 L6 F7 x0 x1 H1 H8 B1
   cases TT with
   | true=>
    have M4:=F3.out (E5.out.1 rfl)
    have G8:Be w0.heap.size w8 (some b) N2 (R++((SL.take (k+1)).filter (fun e=>!goes e)).filter holds):=by
     rw [C3.out]
     cases HO with
     | true=>rw [if_pos rfl];exact F2.same M4
     | false=>rw [if_neg (by simp)];exact F2
    clear F3 E5 C8 HH M4
    go_wp2_with fail
    go_roundw
    case rel=>exact ⟨k+1,N2,by omega,by go_num,by rw [C4.out];exact A4,F6,G8,by omega,A7⟩
    case measure=>simp [intOf];omega
   | false=>
    have O7:=C8.out B8 (.slice ax AL cx) w8 (K3.out _ A7) E0.any E7
    generalize FiS.MO B8 x=r at*
    have N0:=C7.cell 3
    have P5:=C7.cell 4
    have N9:=C7.cell 5
    have P6:=C7.cell 6
    have P1:=C7.cell 7
    have N5:=C7.cell 8
    have P0:=C7.cell 9
    have x0:=B9.cell 0
    have x1:=B9.cell 1
    simp only [List.getElem?_toArray,List.getElem?_cons_zero,List.getElem?_cons_succ] at N0 P5 N9 P6 P1 N5 P0 x0 x1
    clear C8 F3 C7
    go_wp2_with fail
    refine O7.mono ?_
    rintro e w9 ⟨rfl,E6⟩
    have B3:=A4.call E6
    have L0:=F6.call E6
    have G8:=F2.call E6
    have F9:=Ao.callT E0 E6
    have G9:=A7.call E6
    have G4:=B9.call E6
    clear A4 F6 F2 E0 A7 B9 x0 x1 N0 P5 N9 P6 P1 N5 P0 O7
    by_cases I5:r=1
    case neg=>
     have D9:(r==1)=false:=by simpa using I5
     have D4:Be w0.heap.size w9 (some b) N2 (R++((SL.take (k+1)).filter (fun e=>!goes e)).filter holds):=by
      rw [C3.out,HH.out,decide_eq_false I5,if_neg (by simp)]
      exact G8
     clear C3 HH E5
     go_wp2_with fail
     go_roundw
     case rel=>exact ⟨k+1,N2,by omega,by go_num,by rw [C4.out];exact B3,L0,D4,by omega,G9⟩
     case measure=>simp [intOf];omega
    have D9:(r==1)=true:=by simpa using I5
    have H6:=below_drewN w9 1
    have B4:=B3.call H6
    have I1:=L0.call H6
    have J6:=G8.call H6
    have held:=Ao.callT F9 H6
    have E3:=G9.call H6
    change Av _ _ _ _ w9.drew _ _ _ at B4
    change Whole w9.drew _ _ _ at I1
    change Be _ w9.drew _ _ _ at J6
    change Ao (okA w0.heap.size w9.drew) w9.drew _ _ at held
    change But _ _ w9.drew at E3
    obtain ⟨f9,G1,h91,h92⟩:∃f,CW Tryz.prog 9 w9.drew b N2 f/\(∀s,(f s).isSome=true↔∃e ∈ RR,e.name=s)/\∀e ∈ RR,∃u,f e.name=some (.agg #[.string ⟨e.name.toArray⟩,u])/\Ao (okA w0.heap.size w9.drew) w9.drew u e.attrs:=by
     rcases J6 with ⟨e,_⟩ | ⟨b',f,e,_,h2,h3,h4⟩
     · cases e
     · cases e
       exact ⟨f,h2,h3,h4⟩
    have O5:f9 name=none:=by
     cases h:f9 name with
     | none=>rfl
     | some v=>
      have:=E5.out.2 ((h91 name).1 (by rw [h];rfl))
      cases this
    obtain ⟨w10,S3,G5,B5,_⟩:=G1.store Tryz.underlying9 Tryz.underlying61 (by unfold maxLen;omega) name (by unfold maxLen;omega) (.agg #[.string ⟨name.toArray⟩,.slice ax AL cx])
    have D4:Be w0.heap.size w10 (some b) (N2+1) (R++((SL.take (k+1)).filter (fun e=>!goes e)).filter holds):=by
     rw [C3.out,HH.out,decide_eq_true I5,if_pos rfl]
     exact Be.store M5 G1 h91 h92 (x:=⟨name,B8⟩) held O5 G5 B5
    have D7:=B4.mapped G1 M5 B5
    have J4:=I1.mapped B5 (Dk G1 I1)
    have H4:=E3.grown B5 (fun i _ e=>.inr (Option.some.inj e).symm)
    have B1:=L0.cell 0
    have x0:=G4.cell 0
    have x1:=G4.cell 1
    simp only [List.getElem?_toArray,List.getElem?_cons_zero,List.getElem?_cons_succ] at B1 x0 x1
    clear C3 HH E5 h91 h92 O5 G1 G5 J6 G8 B4 B3 held F9 I1 E3 B5
    go_wp2_with fail
    go_still_tail 7,(by kernel_rfl)
    change wpList _ _ _ _ _ w9.drew
    go_wp2_with fail
    go_roundw
    case rel=>exact ⟨k+1,N2+1,by omega,by go_num,by rw [C4.out];exact D7,J4,D4,by omega,H4⟩
    case measure=>simp [intOf];omega
end Go.Proofs.YtgngjfjaelgaeaaGreatDoor
