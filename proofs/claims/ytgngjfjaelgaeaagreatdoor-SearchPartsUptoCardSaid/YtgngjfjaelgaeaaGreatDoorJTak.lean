/- The walk of taking what is found in a place. Conditions: as stated. -/
import Derived.StillTailTactics
import Derived.Test.YtgngjfjaelgaeaaGreatDoorJSel
import Derived.Test.YtgngjfjaelgaeaaGreatDoorJFiv
set_option maxRecDepth 100000
set_option maxHeartbeats 16000000
namespace Go.Proofs.YtgngjfjaelgaeaaGreatDoor
open Go.Proofs.Tryz
open Go.RowKit
attribute [local go_sem ↓] Go.wp_at_zero Go.wp_at_succ
theorem Ao.base_le {α:Type} {L:KLay α} {T:TypeId} {Ts:List TypeId} {C:Nat} {w:World} {B:Nat} {v:Value} {xs:List α} (h:Ao L T Ts C w B v xs) {k:Nat} (hk:v.ownBlock=some k):B<=k:=by obtain ⟨a,h1,_⟩:=h;exact (World.ownsRow.lt h1 k hk).1
theorem AcK (w:World):(zeroValue 52).run prog w=.ok (.agg #[.string ⟨#[]⟩,.slice none 0 0]) w:=by kernel_rfl
theorem Bz.made {C:Nat} {w:World} {fb:Nat} (hC:C<=w.heap.size) (b:fb<w.heap.size) (v:Value):Bz C ((w.alloc (.map #[] 0)).setCell ⟨fb,0,none⟩ v) (some w.heap.size) 0 []:=
 .inr ⟨w.heap.size,fun _=>none,rfl,hC,(Dn.made _ _ w).kept (Ix fb 0 v) (fun e=>by have:=aU e;omega),fun s=>⟨fun h=>(by cases h),fun ⟨e,a,_⟩=>(by cases a)⟩,fun e a=>(by cases a)⟩
theorem Afz {goes holds:EnS.En->Bool} {R l:List EnS.En} {k:Nat} (hk:k<l.length):R++((l.take (k+1)).filter (fun e=>!goes e)).filter holds=if goes (l[k]'hk)=true then R++((l.take k).filter (fun e=>!goes e)).filter holds else if holds (l[k]'hk)=true then (R++((l.take k).filter (fun e=>!goes e)).filter holds)++[l[k]'hk] else R++((l.take k).filter (fun e=>!goes e)).filter holds:=by
 cases a:goes (l[k]'hk) with
 | true=>rw [NI (p:=fun e=>!goes e) hk (by simp [a]),aP rfl]
 | false=>rw [Lq (p:=fun e=>!goes e) hk (by simp [a]),aG (by simp),cM,eQ,List.filter_nil];cases holds (l[k]'hk) <;> simp
theorem Tc {d:Int} (h0:0<=d) (h3:d<=3):d=0\/d=1\/d=2\/d=3:=by omega
theorem Age (w0 Z:World) (u:Value) (l:List EnS.En) (n:Nat) (q:SeS.Rq) (rv:Value) (j:List UInt8) (ps:Int) (fb:Nat) (m:Option Nat) (N:Nat) (R:List EnS.En) (w:World) (h:Cm w0 u l) (hb0:Below w0.heap.size w0 Z) (G3:Below Z.heap.size Z w) (hf:Eb l) (E1:∀e ∈ l,MB e.attrs) (ho:SeS.Bt l) (L5:SeS.BD l) (M2:∀e ∈ l,e.name≠[]) (hE:Env Z)
  (hq:EC n Z rv q) (K8:FiS.wdF 20000 q.filter) (H9:SeS.AW q=true) (L1:j.length<=1000000) (hW:Whole w fb 63 #[.map m]) (hC:Z.heap.size<=fb) (Q1:∀b,m=some b->Z.heap.size<=b) (hk:Bz w0.heap.size w m N R) (hR:∀e ∈ R,e ∈ l) (hN:N<=1000000000000):
  Calls prog 25 #[.pointer (some ⟨fb,0,none⟩),u,.agg #[.string ⟨j.toArray⟩,.int .i64 ps],rv] w (fun e w'=>∃v b N',e=.returned v/\Ao (enQ w0.heap.size) 52 [9,56] w0.heap.size w' w.heap.size v ((SeS.Bf l j ps).filter (SeS.Gv (SeS.dr1 q) (j,ps)))/\Whole w' fb 63 #[.map (some b)]/\Bz w0.heap.size w' (some b) N' (R++(SeS.FK l (SeS.dr1 q) (j,ps)).filter (SeS.Cc q.filter))/\N'<=N+l.length/\(∀i,i<w.heap.size->i=b->m=some i)/\But (fun i=>i=fb\/i=b) w w'/\Z.heap.size<=b):=by
 have J9:=hZ9 (fun V W A U h hA hf hE=>Ada n q.filter V U A W h K8 hA hf hE);have G1:=hZ9 (fun W hb hE=>Ac0 w0 u l j ps W h hb hf L1 ho M2 hE);have F8:Hid (∀e ∈ SeS.Bf l j ps,e ∈ l):=hZ9 (fun e he=>by
  unfold SeS.Bf at he;split at he
  · exact SeS.AP he
  · cases he)
 have O9:Hid (∀e:EnS.En,SeS.Gv (SeS.dr1 q) (j,ps) e=(SeS.dr1 q&&(EnS.Dm e).2&&!(e.name==j))):=hZ9 (fun _=>rfl);have J0:Hid (SeS.FK l (SeS.dr1 q) (j,ps)=((SeS.Bf l j ps).take (SeS.Bf l j ps).length).filter (fun e=>!SeS.Gv (SeS.dr1 q) (j,ps) e)):=hZ9 (by rw [bE];rfl);have I9:Hid ((SeS.Bf l j ps).take (SeS.Bf l j ps).length=SeS.Bf l j ps):=hZ9 (bE);have C0:Hid (0<=q.deref/\q.deref<=3):=hZ9 (by
  unfold SeS.AW at H9;simp only [bA,az] at H9;omega)
 have F:Hid (SeS.dr1 q=(decide (q.deref=1)||decide (q.deref=3))):=hZ9 rfl;have K4:=hZ9 E1;have O6:=hZ9 hf.2;have L0:Hid ((SeS.Bf l j ps).length<=l.length/\l.length<=1048576):=hZ9 ⟨by
  unfold SeS.Bf;split
  · exact bL _ _
  · exact aR _,hf.1⟩
 have K3:=hZ9 L5;have HR:=hZ9 hR;have J7:=hZ9 (fun W (hb:Below Z.heap.size Z W)=>hE.below hb);have O4:=hZ9 (fun W (hb:Below Z.heap.size Z W)=>hq.call hb);have C6:=hZ9 (fun k (hk:k<(SeS.Bf l j ps).length)=>Afz (goes:=SeS.Gv (SeS.dr1 q) (j,ps)) (holds:=SeS.Cc q.filter) (R:=R) hk);have E4:=hZ9 (fun k (hk:k<(SeS.Bf l j ps).length) h=>Lq (p:=SeS.Gv (SeS.dr1 q) (j,ps)) hk h);have B3:=hZ9 (fun k (hk:k<(SeS.Bf l j ps).length) h=>NI (p:=SeS.Gv (SeS.dr1 q) (j,ps)) hk h);have L2:Hid (∀e:EnS.En,SeS.Cc q.filter e=decide (FiS.Jn e.attrs q.filter=1)):=hZ9 (fun _=>rfl);generalize SeS.Cc q.filter=holds at*;generalize hgo:SeS.Gv (SeS.dr1 q) (j,ps)=goes at*;clear hgo;generalize SeS.FK l (SeS.dr1 q) (j,ps)=FO at*;generalize SeS.dr1 q=D1 at*;generalize SeS.Bf l j ps=SL at*;obtain ⟨a5,a6,aa,c5,c6,ca,rfl,I3,_⟩:=hq;obtain ⟨ua,uc,rfl,_⟩:=Ad.form h;obtain ⟨bs,sc,dr,x,at_,tn,sz⟩:=q;simp only at I3 J9 O4 C0 F L2;clear h hf E1 ho L5 M2 hE K8 H9 L1 hR;have M3:Hid (∀W,Below Z.heap.size Z W->Dh n W (.agg #[.int .i64 x.kind,.string ⟨x.attr.toArray⟩,.string ⟨x.value.toArray⟩,.string ⟨x.first.toArray⟩,.string ⟨x.last.toArray⟩,.slice a5 x.any.length c5,.slice a6 x.parts.length c6]) x):=hZ9 (fun W hb=>I3.call hb);clear I3 O4;have B2:=hZ9 (fun A U W (hb:Below Z.heap.size Z W) hA hf=>J9.out _ W A U (M3.out W hb) hA hf (J7.out W hb));unfold MC at B2;clear J9 M3;generalize at_.length=QL at*;generalize x.any.length=XL at*;generalize x.parts.length=PL at*;generalize x.kind=kd at*;generalize x.attr=at0 at*;generalize x.value=vl at*;generalize x.first=fs at*;generalize x.last=ls at*;have M4:=Af w (.cells #[.string ⟨j.toArray⟩,.int .i64 ps] 65);have L3:=Whole.made w 65 #[.string ⟨j.toArray⟩,.int .i64 ps];have J5:=Af (w.alloc (.cells #[.string ⟨j.toArray⟩,.int .i64 ps] 65)) (.cells #[.string ⟨bs.toArray⟩,.int .i64 sc,.int .i64 dr,.int .i64 kd,.string ⟨at0.toArray⟩,.string ⟨vl.toArray⟩,.string ⟨fs.toArray⟩,.string ⟨ls.toArray⟩,.slice a5 XL c5,.slice a6 PL c6,.slice aa QL ca,.bool tn,.int .i64 sz] 38);have B7:=Whole.made (w.alloc (.cells #[.string ⟨j.toArray⟩,.int .i64 ps] 65)) 38 #[.string ⟨bs.toArray⟩,.int .i64 sc,.int .i64 dr,.int .i64 kd,.string ⟨at0.toArray⟩,.string ⟨vl.toArray⟩,.string ⟨fs.toArray⟩,.string ⟨ls.toArray⟩,.slice a5 XL c5,.slice a6 PL c6,.slice aa QL ca,.bool tn,.int .i64 sz];have s1:(w.alloc (.cells #[.string ⟨j.toArray⟩,.int .i64 ps] 65)).heap.size=w.heap.size+1:=by show (w.heap.push _).size=_;exact bh _
 rw [s1] at B7;have D2:=Aa M4 J5;have H3:=L3.call J5;have B6:=hW.call D2;have G7:=hk.call D2;obtain ⟨W2,D8⟩:∃W,W=(w.alloc (.cells #[.string ⟨j.toArray⟩,.int .i64 ps] 65)).alloc (.cells #[.string ⟨bs.toArray⟩,.int .i64 sc,.int .i64 dr,.int .i64 kd,.string ⟨at0.toArray⟩,.string ⟨vl.toArray⟩,.string ⟨fs.toArray⟩,.string ⟨ls.toArray⟩,.slice a5 XL c5,.slice a6 PL c6,.slice aa QL ca,.bool tn,.int .i64 sz] 38):=⟨_,rfl⟩
 have s2:W2.heap.size=w.heap.size+2:=by
  rw [D8];show (World.heap _ |>.push _).size=_
  rw [bh,s1]
 rw [<-D8] at B7 D2 H3 B6 G7;have R8:=hW.lt;clear M4 J5 L3 s1 hW hk;have B:=B6.cell 0;have N9:=B6.thaw 0;simp only [aI,aH] at B;have P7:=@run_makeMap prog;have P8:=fun W=>run_eql_map_nil (P:=prog) W 61 _ _ m underlying61;subst D8;go_enter func25,ntmps25
 go_upto_if 20 with fail
 go_cut [20] (fun v wd=>v=.bool m.isNone/\∃b N1,Whole wd fb 63 #[.map (some b)]/\Bz w0.heap.size wd (some b) N1 R/\N1<=N/\(∀i,i<w.heap.size->i=b->m=some i)/\Z.heap.size<=b/\But (fun i=>i=fb) ((w.alloc (.cells #[.string ⟨j.toArray⟩,.int .i64 ps] 65)).alloc (.cells #[.string ⟨bs.toArray⟩,.int .i64 sc,.int .i64 dr,.int .i64 kd,.string ⟨at0.toArray⟩,.string ⟨vl.toArray⟩,.string ⟨fs.toArray⟩,.string ⟨ls.toArray⟩,.slice a5 XL c5,.slice a6 PL c6,.slice aa QL ca,.bool tn,.int .i64 sz] 38)) wd)
 case first=>
  generalize D8:((w.alloc (.cells #[.string ⟨j.toArray⟩,.int .i64 ps] 65)).alloc (.cells #[.string ⟨bs.toArray⟩,.int .i64 sc,.int .i64 dr,.int .i64 kd,.string ⟨at0.toArray⟩,.string ⟨vl.toArray⟩,.string ⟨fs.toArray⟩,.string ⟨ls.toArray⟩,.slice a5 XL c5,.slice a6 PL c6,.slice aa QL ca,.bool tn,.int .i64 sz] 38))=W2 at*;cases m with
  | none=>
   rcases G7 with ⟨_,rfl⟩ | ⟨b,f,e,_⟩
   case inr=>cases e
   have B8:=B6.call (Af W2 (.map #[] 0));have R4:=B8.thaw 0;have m3:=B8.cell 0;simp only [aI,aH] at m3;have N6:=Bz.made (C:=w0.heap.size) (w:=W2) (fb:=fb) (by have:=hb0.size;have:=G3.size;omega) (by omega) (.map (some W2.heap.size));have I8:=B8.put 0 (.map (some W2.heap.size));have N4:But (fun i=>i=fb) W2 ((W2.alloc (.map #[] 0)).setCell ⟨fb,0,none⟩ (.map (some W2.heap.size))):=((But.refl _ W2).call (Af W2 (.map #[] 0))).grown (Ix fb 0 _) (fun i _ e=>(aU e).symm);simp only [aF,aN] at I8;have O8:W2.heap.size=w.heap.size+2:=s2;rw [O8] at N6 I8 N4;clear B6 B N9 B8;go_wp2_with fail;go_meet;exact ⟨rfl,w.heap.size+2,0,I8,N6,aR _,fun i hi e=>by omega,by have:=G3.size;omega,N4⟩
  | some b=>go_wp2_with fail;go_meet;exact ⟨rfl,b,N,B6,G7,aA _,fun i _ e=>by rw [e],Q1 b rfl,But.refl _ _⟩
 case rest=>
 obtain ⟨rfl,b,N1,B8,N7,R0,hbm,P4,F0⟩:=hcut;obtain ⟨w3,rfl⟩:∃x,x=wc:=⟨_,rfl⟩
 generalize D8:((w.alloc (.cells #[.string ⟨j.toArray⟩,.int .i64 ps] 65)).alloc (.cells #[.string ⟨bs.toArray⟩,.int .i64 sc,.int .i64 dr,.int .i64 kd,.string ⟨at0.toArray⟩,.string ⟨vl.toArray⟩,.string ⟨fs.toArray⟩,.string ⟨ls.toArray⟩,.slice a5 XL c5,.slice a6 PL c6,.slice aa QL ca,.bool tn,.int .i64 sz] 38))=W2 at*;have Q8:=H3.lt;have S1:=B7.lt;have H7:=F0.whole H3 (fun e=>by omega);have K7:=F0.whole B7 (fun e=>by omega);have G8:=hb0.size;have Q3:=G3.size;have A0:Below Z.heap.size Z w3:=(G3.trans (D2.mono Q3)).trans (F0.below (by omega) (fun i e=>by rw [e];exact hC));have F3:But (fun i=>i=fb\/i=b) w w3:=((But.refl (fun i=>i=fb\/i=b) w).call D2).trans F0 (fun i _ e=>.inl e);clear F0 D2 B6 G7 B N9 P8 P7 H3 B7 D8;have p0:=H7.cell 0;have p1:=H7.cell 1;simp only [aI,aH,aK] at p0 p1;have M9:=G1.out w3 (hb0.trans (A0.mono G8)) (J7.out w3 A0);clear G1;go_wp2_with fail;refine M9.mono ?_;rintro e w5 ⟨v5,rfl,A3,C1⟩;obtain ⟨ya,yc,rfl⟩:=A3.form;have I2:=B8.call C1;have L4:=N7.call C1;have N3:=H7.call C1;have K9:=K7.call C1;have C5:=A0.trans (C1.mono A0.size);have B4:=F3.call C1;have K1:=B4.size;obtain ⟨L6,f5,H4⟩:w0.heap.size<=b/\∃f,Dn prog 9 w5 b N1 f:=by
  rcases L4 with ⟨e,_⟩ | ⟨b',f,e,h1,h2,_⟩
  · cases e
  · cases e;exact ⟨h1,f,h2⟩
 clear B8 N7 H7 K7 A0 F3 p0 p1 C1 M9;have I1:Hid (∀k,okA w0.heap.size w5 k->¬(k=fb\/k=b)):=hZ9 (fun k D5 hs=>by
  rcases hs with rfl | rfl
  · rcases D5 with D5 | ⟨cs,T,fz,hc,hT⟩
    · omega
    · have h1:=I2;unfold Whole at h1;rw [h1] at hc;cases hc
      revert hT
      decide
  · rcases D5 with D5 | ⟨cs,T,fz,hc,_⟩
    · omega
    · exact Dx H4 hc rfl)
 have J8:Hid (∀k (hk:k<SL.length),∃g us,ya=some ⟨g,0,none⟩/\g<w5.heap.size/\¬(g=fb\/g=b)/\w5.cell? ⟨g,k*2,none⟩=some (Ac (SL[k]'hk).name)/\w5.cell? ⟨g,k*2+1,none⟩=some us/\AQ w0.heap.size (okA w0.heap.size w5) w5 us (SL[k]'hk).attrs):=hZ9 (fun k hk=>by
  obtain ⟨g,cap,us,ea,_,_,⟨cur,A5⟩,_,c0,c1,D4⟩:=A3.slice hk;injection ea with e1 _ _;refine ⟨g,us,e1,(ah.1 A5).1,fun hs=>?_,c0,c1,D4⟩;rcases hs with rfl | rfl
  · have h1:=I2;unfold Whole at h1;rw [h1] at A5;cases A5
  · exact Dx H4 A5 rfl)
 have R6:w.heap.size≠b:=fun e=>Dx H4 N3 e;have R9:w.heap.size+1≠b:=fun e=>Dx H4 K9 e;have H8:=hZ9 (fun W (hb:But (fun i=>i=fb\/i=b) w5 W)=>hb.whole N3 (fun e=>by omega));have N5:=hZ9 (fun W (hb:But (fun i=>i=fb\/i=b) w5 W)=>hb.whole K9 (fun e=>by omega));have J6:=hZ9 (fun W (hb:But (fun i=>i=fb\/i=b) w5 W)=>C5.trans (hb.below (by have:=C5.size;omega) (fun i e=>by omega)));clear A3;obtain ⟨L,hL⟩:∃n,SL.length=n:=⟨_,rfl⟩
 have HL:=hZ9 hL;rw [hL] at J0 I9 L0⊢;have Q9:=L0.out;clear hL;go_wp2_with fail;go_loopw [9,32] (fun al i wr=>∃k N2:Nat,k<=L/\i=.int .i64 k/\Ao (enQ w0.heap.size) 52 [9,56] w0.heap.size wr w5.heap.size al ((SL.take k).filter goes)/\Whole wr fb 63 #[.map (some b)]/\Bz w0.heap.size wr (some b) N2 (R++((SL.take k).filter (fun e=>!goes e)).filter holds)/\N2<=N1+k/\But (fun i=>i=fb\/i=b) w5 wr) (fun _ i _=>L - (intOf i).toNat)
 case atStart=>exact ⟨0,N1,aR _,rfl,Ao.empty _ _ _ _ _ _,I2,by simpa using L4,by omega,But.refl _ _⟩
 case round=>
  obtain ⟨k,N2,R5,rfl,A8,J1,H0,R2,B9⟩:=hrel;obtain ⟨oa,oc,rfl⟩:=A8.form;by_cases P9:k<L
  case neg=>
   have P3:k=L:=by omega
   subst P3;have Q0:=hZ9 (show (SL.take k).filter goes=SL.filter goes by rw [I9.out]);have P1:Hid (FO.filter holds=((SL.take k).filter (fun e=>!goes e)).filter holds):=hZ9 (by rw [J0.out]);rw [<-P1.out] at H0;generalize (SL.take k).filter goes=Q at*;clear B2 J8 C6 E4 B3 I1 H8 N5 J6 J0 I9;go_wp2_with fail;go_ret;exact ⟨_,b,N2,rfl,by rw [<-Q0.out];exact A8.mono K1,J1,H0,by omega,hbm,B4.trans B9 (fun i _ e=>e),P4⟩
  have o:k<SL.length:=by rw [HL.out];exact P9
  obtain ⟨g,us,rfl,hg,Q5,d0,d1,D4⟩:=J8.out k o;have hblk:=B9.block g hg Q5;have e0:=(World.cell?_of_block (a:=⟨g,k*2,none⟩) hblk).trans d0;have e1:=(World.cell?_of_block (a:=⟨g,k*2+1,none⟩) hblk).trans d1;have J:=JK (S:=fun i=>i=fb\/i=b) D4 B9.size (fun i hi hn=>B9.block i hi hn) (fun i _ D5=>I1.out i D5);have C2:=F8.out _ (aZ o);have E1:=K4.out _ C2;have J4:=O6.out _ C2;have HG:=hZ9 (O9.out (SL[k]'o));have HH:=hZ9 (L2.out (SL[k]'o));have y:=C6.out k o;have G6:=E4.out k o;have G5:=B3.out k o;have D9:Hid ((∃e ∈ R++((SL.take k).filter (fun e=>!goes e)).filter holds,e.name=(SL[k]'o).name)->(SL[k]'o) ∈ R++((SL.take k).filter (fun e=>!goes e)).filter holds):=hZ9 (fun ⟨e,he,hn⟩=>by
   have D4:e ∈ l:=by
    rcases b9.1 he with h | h
    · exact HR.out e h
    · exact F8.out e (dN (SeS.AP (SeS.AP h)))
   rw [<-K3.out e D4 _ C2 hn];exact he)
  clear d0 d1 D4 hblk J8 C6 E4 B3 I1;generalize SL[k]=z at*;obtain ⟨name,Y⟩:=z;simp only at e0 e1 J E1 J4 HG HH y D9;unfold Ac at e0;obtain ⟨ax,cx,rfl,S2⟩:=Ad.form J;generalize hQ:(SL.take k).filter goes=Q at*;have R7:Q.length<=1048576:=by rw [<-hQ];exact aY (bL _ _) (by rw [au];omega)
  clear hQ;generalize R++((SL.take k).filter (fun e=>!goes e)).filter holds=RR at*;generalize S5:goes ⟨name,Y⟩=G at*;generalize R1:holds ⟨name,Y⟩=HO at*;have S4:(0:Int)<=(k:Int):=by omega
  have S3:(k:Int)<(L:Int):=by omega
  obtain ⟨AL,I7⟩:∃n,Y.length=n:=⟨_,rfl⟩
  have E2:=Af wr (.cells #[.string ⟨name.toArray⟩,.slice ax AL cx] 52);have G4:=Whole.made wr 52 #[.string ⟨name.toArray⟩,.slice ax AL cx];have M1:=B9.call E2;have A6:=XM name Y (.slice ax AL cx) _ (J7.out _ (J6.out _ M1)) (by rw [<-I7];exact (AQ.callT J (by rw [I7];exact E2)).p.any) J4.2;rw [I7] at J e1;unfold Px at A6;generalize EnS.Dm ⟨name,Y⟩=AA at*;obtain ⟨R3,al⟩:=AA;simp only at A6 HG;have x0:=G4.cell 0;have x1:=G4.cell 1;simp only [aI,aH,aK] at x0 x1;go_wp2_with fail;refine A6.mono ?_;rintro e w6 ⟨rfl,J3⟩;have E0:=E2.trans (J3.mono E2.size);have t:=A8.call E0;have D6:=J1.call E0;have B5:=H0.call E0;have E5:=G4.call J3;have H:=AQ.callT J E0;have I:=B9.call E0;have O1:=H8.out _ I;have J2:=N5.out _ I;clear A8 J1 H0 G4 J x0 x1 A6 M1 E2 J3 e0 e1;have x0:=E5.cell 0;have x1:=E5.cell 1;have M8:=O1.cell 0;have N0:=J2.cell 2;simp only [aI,aH,aK] at x0 x1 M8 N0;have Q7:=I.size;have Q6:=E5.lt;have F2:w0.heap.size<=w5.heap.size:=aY G8 C5.size;generalize wr.heap.size=eb at*;clear H8 B9 E0;go_upto_region 8 with fail;go_cut [54] (fun v wd=>v=.bool G/\wd=w6)
  case first=>
   clear y G6 G5 t D6 B5 H B2;have D3:=C0.out;cases al with
   | false=>have HP:Hid (false=G):=hZ9 (by rw [HG.out];cases D1 <;> rfl);clear HG;go_wp2_with fail;go_meet;exact ⟨by (rw [<-HP.out]) <;> rfl,rfl⟩
   | true=>
    rcases Tc D3.1 D3.2 with rfl | rfl | rfl | rfl
    · have HP:Hid (false=G):=hZ9 (by rw [HG.out,F.out];rfl);clear HG F C0 D3;go_wp2_with fail;go_meet;exact ⟨by (rw [<-HP.out]) <;> rfl,rfl⟩
    · have HP:Hid ((name !=j)=G):=hZ9 (by rw [HG.out,F.out];rfl);clear HG F C0 D3;go_wp2_with fail;go_meet;exact ⟨by (rw [<-HP.out]) <;> rfl,rfl⟩
    · have HP:Hid (false=G):=hZ9 (by rw [HG.out,F.out];rfl);clear HG F C0 D3;go_wp2_with fail;go_meet;exact ⟨by (rw [<-HP.out]) <;> rfl,rfl⟩
    · have HP:Hid ((name !=j)=G):=hZ9 (by rw [HG.out,F.out];rfl);clear HG F C0 D3;go_wp2_with fail;go_meet;exact ⟨by (rw [<-HP.out]) <;> rfl,rfl⟩
  case rest=>
  obtain ⟨rfl,Q4⟩:=hcut;subst Q4;obtain ⟨w7,rfl⟩:∃x,x=wc:=⟨_,rfl⟩
  clear HG F C0 M8 N0;cases G with
  | true=>
   have E6:=Af w7 (.cells #[.string ⟨name.toArray⟩,.slice ax AL cx] 52);have O3:=Whole.made w7 52 #[.string ⟨name.toArray⟩,.slice ax AL cx];have X:=t.call E6;have Q2:=D6.call E6;have P5:=B5.call E6;have G0:=AQ.callT H E6;have F4:=I.call E6;have b0:=O3.cell 0;have b1:=O3.cell 1;have K2:=F4.size;simp only [aI,aH,aK] at b0 b1;have E4:=hZ9 (G6 rfl);rw [aP rfl] at y;have A9:=hZ9 y;have P6:=hZ9 G0;obtain ⟨i0,hi,G8,P2,P0⟩:=info_parts GU;clear y G6 G5 t D6 B5 H B2 D9 HH G0 E1 J4;go_wp2_with (at_builtin;refine MS (enQ w0.heap.size) 52 22 [9,56] (by decide) underlying22 hi G8 P2 P0 (by rfl) (by rfl) _ _ (by rfl) w5.heap.size F2 _ Q (by rfl) X w7.heap.size (by rfl) ⟨name,Y⟩ _ b0 b1 P6.out (by omega) K2 ?_)
   intro v8 w8 E B1 I0;have E8:=Q2.grown X (by decide) I0;have C9:=P5.pushed X F2 (by decide) I0;have M:=F4.grown I0 (fun i hi e=>absurd (X.base_le e) (by omega));go_wp2_with fail;go_roundw
   case rel=>exact ⟨k+1,N2,by omega,by go_num,by rw [E4.out];exact E,E8,by rw [A9.out];exact C9,by omega,M⟩
   case measure=>simp [intOf];omega
  | false=>
   rw [aG (by simp)] at y;have A9:=hZ9 y;have B3:=hZ9 (G5 rfl);clear y G6 G5;obtain ⟨f6,L7,h61,h62⟩:∃f,Dn prog 9 w7 b N2 f/\(∀s,(f s).isSome=true↔∃e ∈ RR,e.name=s)/\∀e ∈ RR,∃u,f e.name=some (.agg #[.string ⟨e.name.toArray⟩,u])/\AQ w0.heap.size (okA w0.heap.size w7) w7 u e.attrs:=by
    rcases B5 with ⟨e,_⟩ | ⟨b',f,e,_,h2,h3,h4⟩
    · cases e
    · cases e;exact ⟨f,h2,h3,h4⟩
   obtain ⟨ys,ya,ym,yc,hy⟩:∃(ys:List UInt8) (ya:Option Addr) (ym yc:Nat),(f6 name).getD (.agg #[.string ⟨#[]⟩,.slice none 0 0])=.agg #[.string ⟨ys.toArray⟩,.slice ya ym yc]:=by
    cases hf:f6 name with
    | none=>exact ⟨[],_,_,_,rfl⟩
    | some v=>obtain ⟨e,he,hn⟩:=(h61 name).1 (by rw [hf];rfl);obtain ⟨u,hu,ha⟩:=h62 e he;obtain ⟨a,c,rfl,_⟩:=Ad.form ha;rw [hn,hf] at hu;exact ⟨_,_,_,_,aU hu⟩
   have E7:=hZ9 (fun W (hm:Dn prog 9 W b N2 f6)=>(hm.look underlying9 underlying61 (AcK W) name (by unfold maxLen;omega)).1);have H2:=hZ9 (fun W (hb:Below w7.heap.size w7 W)=>L7.kept (Ba hb) (by simp));have D0:Hid ((f6 name).isSome=true↔∃e ∈ RR,e.name=name):=hZ9 (h61 name);rw [hy] at E7;generalize (f6 name).isSome=TT at*;clear h61 h62 L7 hy;have B:=D6.cell 0;simp only [aI,aH] at B;go_upto_region 10 with fail;go_cut [15] (fun v wd=>v=.bool TT/\Below w7.heap.size w7 wd)
   case first=>
    clear A9 B3 t B5 H B2 D9 D0;have O7:=E7.out w7.drew (H2.out _ (below_drewN w7 1));have I6:=(Af w7 (.cells #[.string ⟨#[]⟩,.slice none 0 0] 52)).drew;have H5:=(Whole.made w7 52 #[.string ⟨#[]⟩,.slice none 0 0]).drew;have K5:=E7.out (w7.alloc (.cells #[.string ⟨#[]⟩,.slice none 0 0] 52)).drew (H2.out _ I6);have m2:=Ab B I6;have x2:=Ab x0 I6;have t0:=H5.thaw 0;have t1:=H5.thaw 1;have b0:=H5.cell 0;have b1:=H5.cell 1;simp only [aI,aH,aK] at b0 b1;have H6:=(Af w7 (.cells #[.string ⟨ys.toArray⟩,.slice ya ym yc] 52)).drew;have m3:=Ab B H6;have x3:=Ab x0 H6;have K6:=E7.out (w7.alloc (.cells #[.string ⟨ys.toArray⟩,.slice ya ym yc] 52)).drew (H2.out _ H6);refine FU 12 (fun W=>W.cell? ⟨fb,0,none⟩=some (.map (some b))/\W.cell? ⟨eb,0,none⟩=some (.string ⟨name.toArray⟩)/\(Instr.lookup 61 (.map (some b)) (.string ⟨name.toArray⟩) true).run prog W=.ok (.tuple #[.agg #[.string ⟨ys.toArray⟩,.slice ya ym yc],.bool TT]) W) (by kernel_rfl) (by kernel_rfl) ⟨B,x0,O7⟩ (fun d=>?_);refine Ag 0 ?_ (by simp only [aO,aS];decide) (by kernel_rfl) (fun _ _ _ h=>h) (by rfl) ?_ d ?_
    rotate_left
    · intro W O;(try simp only [aB]);(try go_split_ands);go_simp;(try with_reducible rfl)
    (try simp only [aB,Act.put,aF,aN,aQ])
    refine Ag 1 ?_ (by simp only [aO,aS];decide) (by kernel_rfl) (fun _ _ _ h=>h) (by rfl) ?_ d ?_
    rotate_left
    · intro W O;(try simp only [aD,aB]);(try go_split_ands);go_simp;(try with_reducible rfl)
    (try simp only [aD,aB,Act.put,aF,aN,aQ])
    refine Ag 2 ?_ (by simp only [aO,aS];decide) (by kernel_rfl) (fun _ _ _ h=>h) (by rfl) ?_ d ?_
    rotate_left
    · intro W O;(try simp only [aD,aB]);(try go_split_ands);go_simp;(try with_reducible rfl)
    (try simp only [aD,aB,Act.put,aF,aN,aQ])
    refine Ag 3 ?_ (by simp only [aO,aS];decide) (by kernel_rfl) (fun _ _ _ h=>h) (by rfl) ?_ d ?_
    rotate_left
    · intro W O;(try simp only [aD,aB]);(try go_split_ands);go_simp;(try with_reducible rfl)
    (try simp only [aD,aB,Act.put,aF,aN,aQ])
    refine Ag 4 ?_ (by simp only [aO,aS];decide) (by kernel_rfl) (fun _ _ _ h=>h) (by rfl) ?_ d ?_
    rotate_left
    · intro W O;(try simp only [aD,aB]);(try go_split_ands);go_simp;(try with_reducible rfl)
    (try simp only [aD,aB,Act.put,aF,aN,aQ])
    refine Ag 5 ?_ (by simp only [aO,aS];decide) (by kernel_rfl) (fun _ _ _ h=>h) (by rfl) ?_ d ?_
    rotate_left
    · intro W O;(try simp only [aD,aB]);(try go_split_ands);go_simp;(try with_reducible rfl)
    (try simp only [aD,aB,Act.put,aF,aN,aQ])
    refine Ag 6 ?_ (by simp only [aO,aS];decide) (by kernel_rfl) (fun _ _ _ h=>h) (by rfl) ?_ d ?_
    rotate_left
    · intro W O;(try simp only [aD,aB]);(try go_split_ands);go_simp;(try with_reducible rfl)
    (try simp only [aD,aB,Act.put,aF,aN,aQ])
    refine Ag 7 ?_ (by simp only [aO,aS];decide) (by kernel_rfl) (fun _ _ _ h=>h) (by rfl) ?_ d ?_
    rotate_left
    · intro W O;(try simp only [aD,aB]);(try go_split_ands);go_simp;(try with_reducible rfl)
    (try simp only [aD,aB,Act.put,aF,aN,aQ])
    refine Ag 8 ?_ (by simp only [aO,aS];decide) (by kernel_rfl) (fun _ _ _ h=>h) (by rfl) ?_ d ?_
    rotate_left
    · intro W O;(try simp only [aD,aB]);(try go_split_ands);go_simp;(try with_reducible rfl)
    (try simp only [aD,aB,Act.put,aF,aN,aQ])
    refine Ag 9 ?_ (by simp only [aO,aS];decide) (by kernel_rfl) (fun _ _ _ h=>h) (by rfl) ?_ d ?_
    rotate_left
    · intro W O;(try simp only [aD,aB]);(try go_split_ands);go_simp;(try with_reducible rfl)
    (try simp only [aD,aB,Act.put,aF,aN,aQ])
    refine Bq 10 (by simp only [aO,aS];decide) (by kernel_rfl) (fun K hK=>?_)
    (try simp only [aD,aB])
    refine Bo (by rfl) ?_;go_simp;refine hK.out _ _ ?_ (fun d=>?_)
    · exact ⟨m2,x2,K5⟩
    clear hK K
    (try simp only [aD,aB,Act.put,aF,aN,aQ])
    refine Bq 11 (by simp only [aO,aS];decide) (by kernel_rfl) (fun K hK=>?_)
    (try simp only [aD,aB])
    refine Bo (by rfl) ?_;go_simp;refine hK.out _ _ ?_ (fun d=>?_)
    · exact ⟨m3,x3,K6⟩
    clear hK K
    (try simp only [aD,aB,Act.put,aF,aN,aQ])
    refine EL (by kernel_rfl) ?_;simp only [bU,bQ];clear d;go_wp2_with fail;go_meet;exact ⟨rfl,H6⟩
   case rest=>
   obtain ⟨rfl,B1⟩:=hcut;obtain ⟨w8,rfl⟩:∃x,x=wc:=⟨_,rfl⟩
   have E:=t.call B1;have E8:=D6.call B1;have C9:=B5.call B1;have C3:=AQ.callT H B1;have M:=I.call B1;have B0:=J2.call B1;have A7:=E5.call B1;clear t D6 B5 H I O1 J2 E5 x0 x1 E7 H2 B;cases TT with
   | true=>
    have O0:=D9.out (D0.out.1 rfl);have F1:Bz w0.heap.size w8 (some b) N2 (R++((SL.take (k+1)).filter (fun e=>!goes e)).filter holds):=by
     rw [A9.out];cases HO with
     | true=>rw [aP rfl];exact C9.same O0
     | false=>rw [aG (by simp)];exact C9
    clear D9 D0 B2 HH O0;go_wp2_with fail;go_roundw
    case rel=>exact ⟨k+1,N2,by omega,by go_num,by rw [B3.out];exact E,E8,F1,by omega,M⟩
    case measure=>simp [intOf];omega
   | false=>
    have M7:=B2.out Y (.slice ax AL cx) w8 (J6.out _ M) C3.p.any E1;generalize FiS.Jn Y x=r at*;have O5:=B0.cell 3;have M5:=B0.cell 4;have L8:=B0.cell 5;have L9:=B0.cell 6;have N8:=B0.cell 7;have M6:=B0.cell 8;have O2:=B0.cell 9;have x0:=A7.cell 0;have x1:=A7.cell 1;simp only [aI,aH,aK] at O5 M5 L8 L9 N8 M6 O2 x0 x1;clear B2 D9 B0;go_wp2_with fail;refine M7.mono ?_;rintro e w9 ⟨rfl,D7⟩;have A2:=E.call D7;have I5:=E8.call D7;have F1:=C9.call D7;have F9:=AQ.callT C3 D7;have F5:=M.call D7;have F6:=A7.call D7;clear E E8 C9 C3 M A7 x0 x1 O5 M5 L8 L9 N8 M6 O2 M7;by_cases G9:r=1
    case neg=>
     have B7:(r==1)=false:=by simpa using G9
     have C7:Bz w0.heap.size w9 (some b) N2 (R++((SL.take (k+1)).filter (fun e=>!goes e)).filter holds):=by rw [A9.out,HH.out,aC G9,aG (by simp)];exact F1
     clear A9 HH D0;go_wp2_with fail;go_roundw
     case rel=>exact ⟨k+1,N2,by omega,by go_num,by rw [B3.out];exact A2,I5,C7,by omega,F5⟩
     case measure=>simp [intOf];omega
    have B7:(r==1)=true:=by simpa using G9
    have E9:=below_drewN w9 1;have A4:=A2.call E9;have H1:=I5.call E9;have I4:=F1.call E9;have held:=AQ.callT F9 E9;have C4:=F5.call E9;change Ao _ _ _ _ w9.drew _ _ _ at A4;change Whole w9.drew _ _ _ at H1;change Bz _ w9.drew _ _ _ at I4;change AQ w0.heap.size (okA w0.heap.size w9.drew) w9.drew _ _ at held;change But _ _ w9.drew at C4;obtain ⟨f9,E3,h91,h92⟩:∃f,Dn prog 9 w9.drew b N2 f/\(∀s,(f s).isSome=true↔∃e ∈ RR,e.name=s)/\∀e ∈ RR,∃u,f e.name=some (.agg #[.string ⟨e.name.toArray⟩,u])/\AQ w0.heap.size (okA w0.heap.size w9.drew) w9.drew u e.attrs:=by
     rcases I4 with ⟨e,_⟩ | ⟨b',f,e,_,h2,h3,h4⟩
     · cases e
     · cases e;exact ⟨f,h2,h3,h4⟩
    have M0:f9 name=none:=by
     cases h:f9 name with
     | none=>rfl
     | some v=>have:=D0.out.2 ((h91 name).1 (by rw [h];rfl));cases this
    obtain ⟨w10,S0,F7,A1,_⟩:=E3.store underlying9 underlying61 (by unfold maxLen;omega) name (by unfold maxLen;omega) (.agg #[.string ⟨name.toArray⟩,.slice ax AL cx]);have C7:Bz w0.heap.size w10 (some b) (N2+1) (R++((SL.take (k+1)).filter (fun e=>!goes e)).filter holds):=by rw [A9.out,HH.out,aL G9,aP rfl];exact Bz.store L6 E3 h91 h92 (x:=⟨name,Y⟩) held M0 F7 A1
    have C8:=A4.mapped E3 L6 A1;have K0:=H1.mapped A1 (Dx E3 H1);have G2:=C4.grown A1 (fun i _ e=>.inr (aU e).symm);have B:=I5.cell 0;have x0:=F6.cell 0;have x1:=F6.cell 1;simp only [aI,aH,aK] at B x0 x1;clear A9 HH D0 h91 h92 M0 E3 F7 I4 F1 A4 A2 held F9 H1 C4 A1;go_wp2_with fail
    go_still_tail 7,(by kernel_rfl)
    change wpList _ _ _ _ _ w9.drew;go_wp2_with fail;go_roundw
    case rel=>exact ⟨k+1,N2+1,by omega,by go_num,by rw [B3.out];exact C8,K0,C7,by omega,G2⟩
    case measure=>simp [intOf];omega
end Go.Proofs.YtgngjfjaelgaeaaGreatDoor
