/- The walk of taking what is found in a place. Conditions: as stated. -/
import Derived.StillTailTactics
import Derived.Test.YtgngjfjaelgaeaaGreatDoorZSel
import Derived.Test.YtgngjfjaelgaeaaGreatDoorZFiv
set_option maxRecDepth 100000
set_option maxHeartbeats 16000000
namespace Go.Proofs.YtgngjfjaelgaeaaGreatDoor
open Go.Proofs.Tryz
open Go.RowKit
attribute [local go_sem ↓] Go.wp_at_zero Go.wp_at_succ
theorem Ao.base_le{α:Type}{L:KLay α}{T:TypeId}{Ts:List TypeId}{C:Nat}{w:World}{B:Nat}{v:Value}{xs:List α}(h:Ao L T Ts C w B v xs){k:Nat}(hk:v.ownBlock=some k):B<=k:=by obtain⟨a,h1,_⟩:=h;exact(World.ownsRow.lt h1 k hk).1
theorem Adx(w:World):(zeroValue 52).run prog w=.ok (.agg #[.string ⟨#[]⟩,.slice none 0 0]) w:=by kernel_rfl
theorem Bt.made{C:Nat}{w:World}{fb:Nat}(hC:C<=w.heap.size)(b:fb<w.heap.size)(v:Value):Bt C ((w.alloc (.map #[] 0)).setCell ⟨fb,0,none⟩ v) (some w.heap.size) 0 []:=
 .inr ⟨w.heap.size,λ_=>none,rfl,hC,(Dt.made _ _ w).kept (IJ fb 0 v) (λe=>by have:=aU e;omega),λs=>⟨λh=>(by cases h),λ⟨e,a,_⟩=>(by cases a)⟩,λe a=>(by cases a)⟩
theorem Agf{goes holds:EnS.En->Bool}{R l:List EnS.En}{k:Nat}(hk:k<l.length):R++((l.take (k+1)).filter (λe=>!goes e)).filter holds=if goes (l[k]'hk)=true then R++((l.take k).filter (λe=>!goes e)).filter holds else if holds (l[k]'hk)=true then(R++((l.take k).filter (λe=>!goes e)).filter holds)++[l[k]'hk] else R++((l.take k).filter (λe=>!goes e)).filter holds:=by
 cases a:goes (l[k]'hk) with
 |true=>rw[Ol (p:=λe=>!goes e) hk (by simp[a]),aJ rfl]
 |false=>rw[LW (p:=λe=>!goes e) hk (by simp[a]),aG (by simp),bi,eY,List.filter_nil];cases holds (l[k]'hk)<;>simp
theorem TZ{d:Int}(h0:0<=d)(h3:d<=3):d=0\/d=1\/d=2\/d=3:=by omega
theorem AgI(w0 Z:World)(u:Value)(l:List EnS.En)(n:Nat)(q:SeS.Rq)(rv:Value)(j:iK)(ps:Int)(fb:Nat)(m:Option Nat)(N:Nat)(R:List EnS.En)(w:World)(h:Ci w0 u l)(hb0:Below w0.heap.size w0 Z)(G5:Below Z.heap.size Z w)(hf:Eo l)(E0:∀e∈l,KC e.attrs)(ho:SeS.BU l)(M8:SeS.CL l)(O2:∀e∈l,e.name≠[])(hE:Env Z)
  (hq:FI n Z rv q)(N3:FiS.wdF 20000 q.filter)(J7:SeS.CU q=true)(N8:j.length<=1000000)(hW:Whole w fb 63 #[.map m])(hC:Z.heap.size<=fb)(Q5:∀b,m=some b->Z.heap.size<=b)(hk:Bt w0.heap.size w m N R)(hR:∀e∈R,e∈l)(hN:N<=1000000000000):
  Calls prog 25 #[.pointer (some ⟨fb,0,none⟩),u,.agg #[.string ⟨j.toArray⟩,.int .i64 ps],rv] w (λe w'=>∃v b N',e=.returned v/\Ao (enQ w0.heap.size) 52 [9,56] w0.heap.size w' w.heap.size v ((SeS.AO l j ps).filter (SeS.GG (SeS.dr1 q) (j,ps)))/\Whole w' fb 63 #[.map (some b)]/\Bt w0.heap.size w' (some b) N' (R++(SeS.Gg l (SeS.dr1 q) (j,ps)).filter (SeS.Ez q.filter))/\N'<=N+l.length/\(∀i,i<w.heap.size->i=b->m=some i)/\But (λi=>i=fb\/i=b) w w'/\Z.heap.size<=b):=by
 have J3:=hZ9 (λV W A U h hA hf hE=>AdG n q.filter V U A W h N3 hA hf hE);have F4:=hZ9 (λW hb hE=>TK w0 u l j ps W h hb hf N8 ho O2 hE);have G1:Hid (∀e∈SeS.AO l j ps,e∈l):=hZ9 (λe he=>by
  unfold SeS.AO at he;split at he
  ·exact SeS.Be he
  ·cases he)
 have O6:Hid (∀e:EnS.En,SeS.GG (SeS.dr1 q) (j,ps) e=(SeS.dr1 q&&(EnS.Ds e).2&&!(e.name==j))):=hZ9 (λ_=>rfl);have I1:Hid (SeS.Gg l (SeS.dr1 q) (j,ps)=((SeS.AO l j ps).take (SeS.AO l j ps).length).filter (λe=>!SeS.GG (SeS.dr1 q) (j,ps) e)):=hZ9 (by rw[bA];rfl);have I9:Hid ((SeS.AO l j ps).take (SeS.AO l j ps).length=SeS.AO l j ps):=hZ9 (bA);have B8:Hid (0<=q.deref/\q.deref<=3):=hZ9 (by
  unfold SeS.CU at J7;simp only[bC,az] at J7;omega)
 have F:Hid (SeS.dr1 q=(decide (q.deref=1)||decide (q.deref=3))):=hZ9 rfl;have K1:=hZ9 E0;have P2:=hZ9 hf.2;have N9:Hid ((SeS.AO l j ps).length<=l.length/\l.length<=1048576):=hZ9 ⟨by
  unfold SeS.AO;split
  ·exact bJ _ _
  ·exact aR _,hf.1⟩
 have K5:=hZ9 M8;have HR:=hZ9 hR;have H9:=hZ9 (λW (hb:Below Z.heap.size Z W)=>hE.below hb);have O5:=hZ9 (λW (hb:Below Z.heap.size Z W)=>hq.call hb);have C6:=hZ9 (λk (hk:k<(SeS.AO l j ps).length)=>Agf (goes:=SeS.GG (SeS.dr1 q) (j,ps)) (holds:=SeS.Ez q.filter) (R:=R) hk);have E9:=hZ9 (λk (hk:k<(SeS.AO l j ps).length) h=>LW (p:=SeS.GG (SeS.dr1 q) (j,ps)) hk h);have B3:=hZ9 (λk (hk:k<(SeS.AO l j ps).length) h=>Ol (p:=SeS.GG (SeS.dr1 q) (j,ps)) hk h);have M5:Hid (∀e:EnS.En,SeS.Ez q.filter e=decide (FiS.Hh e.attrs q.filter=1)):=hZ9 (λ_=>rfl);generalize SeS.Ez q.filter=holds at*;generalize hgo:SeS.GG (SeS.dr1 q) (j,ps)=goes at*;clear hgo;generalize SeS.Gg l (SeS.dr1 q) (j,ps)=FO at*;generalize SeS.dr1 q=D1 at*;generalize SeS.AO l j ps=SL at*;obtain⟨a5,a6,aa,c5,c6,ca,rfl,J2,_⟩:=hq;obtain⟨ua,uc,rfl,_⟩:=Ad.form h;obtain⟨bs,sc,dr,x,at_,tn,sz⟩:=q;simp only at J2 J3 O5 B8 F M5;clear h hf E0 ho M8 O2 hE N3 J7 N8 hR;have L0:Hid (∀W,Below Z.heap.size Z W->BF n W (.agg #[.int .i64 x.kind,.string ⟨x.attr.toArray⟩,.string ⟨x.value.toArray⟩,.string ⟨x.first.toArray⟩,.string ⟨x.last.toArray⟩,.slice a5 x.any.length c5,.slice a6 x.parts.length c6]) x):=hZ9 (λW hb=>J2.call hb);clear J2 O5;have B1:=hZ9 (λA U W (hb:Below Z.heap.size Z W) hA hf=>J3.out _ W A U (L0.out W hb) hA hf (H9.out W hb));unfold Gq at B1;clear J3 L0;generalize at_.length=QL at*;generalize x.any.length=XL at*;generalize x.parts.length=PL at*;generalize x.kind=kd at*;generalize x.attr=at0 at*;generalize x.value=vl at*;generalize x.first=fs at*;generalize x.last=ls at*;have O1:=Af w (.cells #[.string ⟨j.toArray⟩,.int .i64 ps] 65);have M2:=Whole.made w 65 #[.string ⟨j.toArray⟩,.int .i64 ps];have I3:=Af (w.alloc (.cells #[.string ⟨j.toArray⟩,.int .i64 ps] 65)) (.cells #[bs,sc,dr,kd,at0,vl,fs,ls,.slice a5 XL c5,.slice a6 PL c6,.slice aa QL ca,tn,sz] 38);have B7:=Whole.made (w.alloc (.cells #[.string ⟨j.toArray⟩,.int .i64 ps] 65)) 38 #[bs,sc,dr,kd,at0,vl,fs,ls,.slice a5 XL c5,.slice a6 PL c6,.slice aa QL ca,tn,sz];have s1:(w.alloc (.cells #[.string ⟨j.toArray⟩,.int .i64 ps] 65)).heap.size=w.heap.size+1:=by show (w.heap.push _).size=_;exact br _
 rw[s1] at B7;have D3:=Aa O1 I3;have H5:=M2.call I3;have C0:=hW.call D3;have H3:=hk.call D3;obtain⟨W2,D0⟩:∃W,W=(w.alloc (.cells #[.string ⟨j.toArray⟩,.int .i64 ps] 65)).alloc (.cells #[bs,sc,dr,kd,at0,vl,fs,ls,.slice a5 XL c5,.slice a6 PL c6,.slice aa QL ca,tn,sz] 38):=⟨_,rfl⟩
 have s2:W2.heap.size=w.heap.size+2:=by
  rw[D0];show (World.heap _ |>.push _).size=_
  rw[br,s1]
 rw[<-D0] at B7 D3 H5 C0 H3;have R5:=hW.lt;clear O1 I3 M2 s1 hW hk;have B:=C0.cell 0;have L1:=C0.thaw 0;simp only[aO,aH] at B;have P8:=@run_makeMap prog;have O7:=λW=>run_eql_map_nil (P:=prog) W 61 _ _ m underlying61;subst D0;go_enter func25,ntmps25
 go_upto_if 20 with fail
 go_cut [20] (λv wd=>v=.bool m.isNone/\∃b N1,Whole wd fb 63 #[.map (some b)]/\Bt w0.heap.size wd (some b) N1 R/\N1<=N/\(∀i,i<w.heap.size->i=b->m=some i)/\Z.heap.size<=b/\But (λi=>i=fb) ((w.alloc (.cells #[.string ⟨j.toArray⟩,.int .i64 ps] 65)).alloc (.cells #[bs,sc,dr,kd,at0,vl,fs,ls,.slice a5 XL c5,.slice a6 PL c6,.slice aa QL ca,tn,sz] 38)) wd)
 case first=>
  generalize D0:((w.alloc (.cells #[.string ⟨j.toArray⟩,.int .i64 ps] 65)).alloc (.cells #[bs,sc,dr,kd,at0,vl,fs,ls,.slice a5 XL c5,.slice a6 PL c6,.slice aa QL ca,tn,sz] 38))=W2 at*;cases m with
  |none=>
   rcases H3 with⟨_,rfl⟩|⟨b,f,e,_⟩
   case inr=>cases e
   have B9:=C0.call (Af W2 (.map #[] 0));have S1:=B9.thaw 0;have m3:=B9.cell 0;simp only[aO,aH] at m3;have K8:=Bt.made (C:=w0.heap.size) (w:=W2) (fb:=fb) (by have:=hb0.size;have:=G5.size;omega) (by omega) (.map (some W2.heap.size));have J5:=B9.put 0 (.map (some W2.heap.size));have O3:But (λi=>i=fb) W2 ((W2.alloc (.map #[] 0)).setCell ⟨fb,0,none⟩ (.map (some W2.heap.size))):=((But.refl _ W2).call (Af W2 (.map #[] 0))).grown (IJ fb 0 _) (λi _ e=>(aU e).symm);simp only[aF,aL] at J5;have O9:W2.heap.size=w.heap.size+2:=s2;rw[O9] at K8 J5 O3;clear C0 B L1 B9;go_wp2_with fail;go_meet;exact⟨rfl,w.heap.size+2,0,J5,K8,aR _,λi hi e=>by omega,by have:=G5.size;omega,O3⟩
  |some b=>go_wp2_with fail;go_meet;exact⟨rfl,b,N,C0,H3,aA _,λi _ e=>by rw[e],Q5 b rfl,But.refl _ _⟩
 case rest=>
 obtain⟨rfl,b,N1,B9,L9,R1,hbm,P5,E5⟩:=hcut;obtain⟨w3,rfl⟩:∃x,x=wc:=⟨_,rfl⟩
 generalize D0:((w.alloc (.cells #[.string ⟨j.toArray⟩,.int .i64 ps] 65)).alloc (.cells #[bs,sc,dr,kd,at0,vl,fs,ls,.slice a5 XL c5,.slice a6 PL c6,.slice aa QL ca,tn,sz] 38))=W2 at*;have Q9:=H5.lt;have R7:=B7.lt;have H4:=E5.whole H5 (λe=>by omega);have M0:=E5.whole B7 (λe=>by omega);have G3:=hb0.size;have Q0:=G5.size;have A1:Below Z.heap.size Z w3:=(G5.trans (D3.mono Q0)).trans (E5.below (by omega) (λi e=>by rw[e];exact hC));have G0:But (λi=>i=fb\/i=b) w w3:=((But.refl (λi=>i=fb\/i=b) w).call D3).trans E5 (λi _ e=>.inl e);clear E5 D3 C0 H3 B L1 O7 P8 H5 B7 D0;have p0:=H4.cell 0;have p1:=H4.cell 1;simp only[aO,aH,aP] at p0 p1;have L4:=F4.out w3 (hb0.trans (A1.mono G3)) (H9.out w3 A1);clear F4;go_wp2_with fail;refine L4.mono ?_;rintro e w5 ⟨v5,rfl,A2,B5⟩;obtain⟨ya,yc,rfl⟩:=A2.form;have I0:=B9.call B5;have N7:=L9.call B5;have L6:=H4.call B5;have O0:=M0.call B5;have C7:=A1.trans (B5.mono A1.size);have B4:=G0.call B5;have K2:=B4.size;obtain⟨L8,f5,G6⟩:w0.heap.size<=b/\∃f,Dt prog 9 w5 b N1 f:=by
  rcases N7 with⟨e,_⟩|⟨b',f,e,h1,h2,_⟩
  ·cases e
  ·cases e;exact⟨h1,f,h2⟩
 clear B9 L9 H4 M0 A1 G0 p0 p1 B5 L4;have H8:Hid (∀k,okA w0.heap.size w5 k->¬(k=fb\/k=b)):=hZ9 (λk D5 hs=>by
  rcases hs with rfl|rfl
  ·rcases D5 with D5|⟨cs,T,fz,hc,hT⟩
   ·omega
   ·have h1:=I0;unfold Whole at h1;rw[h1] at hc;cases hc
    revert hT
    decide
  ·rcases D5 with D5|⟨cs,T,fz,hc,_⟩
   ·omega
   ·exact DI G6 hc rfl)
 have J0:Hid (∀k (hk:k<SL.length),∃g us,ya=some ⟨g,0,none⟩/\g<w5.heap.size/\¬(g=fb\/g=b)/\w5.cell? ⟨g,k*2,none⟩=some (Ac (SL[k]'hk).name)/\w5.cell? ⟨g,k*2+1,none⟩=some us/\AV w0.heap.size (okA w0.heap.size w5) w5 us (SL[k]'hk).attrs):=hZ9 (λk hk=>by
  obtain⟨g,cap,us,ea,_,_,⟨cur,A6⟩,_,c0,c1,D9⟩:=A2.slice hk;injection ea with e1 _ _;refine⟨g,us,e1,(ah.1 A6).1,λhs=>?_,c0,c1,D9⟩;rcases hs with rfl|rfl
  ·have h1:=I0;unfold Whole at h1;rw[h1] at A6;cases A6
  ·exact DI G6 A6 rfl)
 have R9:w.heap.size≠b:=λe=>DI G6 L6 e;have S2:w.heap.size+1≠b:=λe=>DI G6 O0 e;have J1:=hZ9 (λW (hb:But (λi=>i=fb\/i=b) w5 W)=>hb.whole L6 (λe=>by omega));have L3:=hZ9 (λW (hb:But (λi=>i=fb\/i=b) w5 W)=>hb.whole O0 (λe=>by omega));have J4:=hZ9 (λW (hb:But (λi=>i=fb\/i=b) w5 W)=>C7.trans (hb.below (by have:=C7.size;omega) (λi e=>by omega)));clear A2;obtain⟨L,hL⟩:∃n,SL.length=n:=⟨_,rfl⟩
 have HL:=hZ9 hL;rw[hL] at I1 I9 N9⊢;have S0:=N9.out;clear hL;go_wp2_with fail;go_loopw [9,32] (λal i wr=>∃k N2:Nat,k<=L/\i=.int .i64 k/\Ao (enQ w0.heap.size) 52 [9,56] w0.heap.size wr w5.heap.size al ((SL.take k).filter goes)/\Whole wr fb 63 #[.map (some b)]/\Bt w0.heap.size wr (some b) N2 (R++((SL.take k).filter (λe=>!goes e)).filter holds)/\N2<=N1+k/\But (λi=>i=fb\/i=b) w5 wr) (λ_ i _=>L-(intOf i).toNat)
 case atStart=>exact⟨0,N1,aR _,rfl,Ao.empty _ _ _ _ _ _,I0,by simpa using N7,by omega,But.refl _ _⟩
 case round=>
  obtain⟨k,N2,R4,rfl,A5,I8,G8,Q8,C1⟩:=hrel;obtain⟨oa,oc,rfl⟩:=A5.form;by_cases P3:k<L
  case neg=>
   have O8:k=L:=by omega
   subst O8;have Q3:=hZ9 (show (SL.take k).filter goes=SL.filter goes by rw[I9.out]);have Q1:Hid (FO.filter holds=((SL.take k).filter (λe=>!goes e)).filter holds):=hZ9 (by rw[I1.out]);rw[<-Q1.out] at G8;generalize (SL.take k).filter goes=Q at*;clear B1 J0 C6 E9 B3 H8 J1 L3 J4 I1 I9;go_wp2_with fail;go_ret;exact⟨_,b,N2,rfl,by rw[<-Q3.out];exact A5.mono K2,I8,G8,by omega,hbm,B4.trans C1 (λi _ e=>e),P5⟩
  have o:k<SL.length:=by rw[HL.out];exact P3
  obtain⟨g,us,rfl,hg,P6,d0,d1,D9⟩:=J0.out k o;have hblk:=C1.block g hg P6;have e0:=(World.cell?_of_block (a:=⟨g,k*2,none⟩) hblk).trans d0;have e1:=(World.cell?_of_block (a:=⟨g,k*2+1,none⟩) hblk).trans d1;have H:=Kv (S:=λi=>i=fb\/i=b) D9 C1.size (λi hi hn=>C1.block i hi hn) (λi _ D5=>H8.out i D5);have C2:=G1.out _ (aZ o);have E0:=K1.out _ C2;have I4:=P2.out _ C2;have HG:=hZ9 (O6.out (SL[k]'o));have HH:=hZ9 (M5.out (SL[k]'o));have y:=C6.out k o;have H2:=E9.out k o;have G4:=B3.out k o;have D8:Hid ((∃e∈R++((SL.take k).filter (λe=>!goes e)).filter holds,e.name=(SL[k]'o).name)->(SL[k]'o)∈R++((SL.take k).filter (λe=>!goes e)).filter holds):=hZ9 (λ⟨e,he,hn⟩=>by
   have D9:e∈l:=by
    rcases bB.1 he with h|h
    ·exact HR.out e h
    ·exact G1.out e (dO (SeS.Be (SeS.Be h)))
   rw[<-K5.out e D9 _ C2 hn];exact he)
  clear d0 d1 D9 hblk J0 C6 E9 B3 H8;generalize SL[k]=z at*;obtain⟨name,X⟩:=z;simp only at e0 e1 H E0 I4 HG HH y D8;unfold Ac at e0;obtain⟨ax,cx,rfl,S3⟩:=Ad.form H;generalize hQ:(SL.take k).filter goes=Q at*;have R8:Q.length<=1048576:=by rw[<-hQ];exact aX (bJ _ _) (by rw[ar];omega)
  clear hQ;generalize R++((SL.take k).filter (λe=>!goes e)).filter holds=RR at*;generalize S5:goes ⟨name,X⟩=G at*;generalize R3:holds ⟨name,X⟩=HO at*;have R0:(0:Int)<=(k:Int):=by omega
  have R6:(k:Int)<(L:Int):=by omega
  obtain⟨AL,I7⟩:∃n,X.length=n:=⟨_,rfl⟩
  have E7:=Af wr (.cells #[name,.slice ax AL cx] 52);have H0:=Whole.made wr 52 #[name,.slice ax AL cx];have M7:=C1.call E7;have A8:=Yv name X (.slice ax AL cx) _ (H9.out _ (J4.out _ M7)) (by rw[<-I7];exact(AV.callT H (by rw[I7];exact E7)).p.any) I4.2;rw[I7] at H e1;unfold Qj at A8;generalize EnS.Ds ⟨name,X⟩=AA at*;obtain⟨S4,al⟩:=AA;simp only at A8 HG;have x0:=H0.cell 0;have x1:=H0.cell 1;simp only[aO,aH,aP] at x0 x1;go_wp2_with fail;refine A8.mono ?_;rintro e w6 ⟨rfl,I2⟩;have D4:=E7.trans (I2.mono E7.size);have t:=A5.call D4;have D2:=I8.call D4;have B6:=G8.call D4;have E6:=H0.call I2;have I:=AV.callT H D4;have J:=C1.call D4;have L5:=J1.out _ J;have J8:=L3.out _ J;clear A5 I8 G8 H0 H x0 x1 A8 M7 E7 I2 e0 e1;have x0:=E6.cell 0;have x1:=E6.cell 1;have N5:=L5.cell 0;have K7:=J8.cell 2;simp only[aO,aH,aP] at x0 x1 N5 K7;have Q6:=J.size;have Q7:=E6.lt;have F2:w0.heap.size<=w5.heap.size:=aX G3 C7.size;generalize wr.heap.size=eb at*;clear J1 C1 D4;go_upto_region 8 with fail;go_cut [54] (λv wd=>v=.bool G/\wd=w6)
  case first=>
   clear y H2 G4 t D2 B6 I B1;have D6:=B8.out;cases al with
   |false=>have HP:Hid (false=G):=hZ9 (by rw[HG.out];cases D1<;>rfl);clear HG;go_wp2_with fail;go_meet;exact⟨by(rw[<-HP.out])<;>rfl,rfl⟩
   |true=>
    rcases TZ D6.1 D6.2 with rfl|rfl|rfl|rfl
    ·have HP:Hid (false=G):=hZ9 (by rw[HG.out,F.out];rfl);clear HG F B8 D6;go_wp2_with fail;go_meet;exact⟨by(rw[<-HP.out])<;>rfl,rfl⟩
    ·have HP:Hid ((name !=j)=G):=hZ9 (by rw[HG.out,F.out];rfl);clear HG F B8 D6;go_wp2_with fail;go_meet;exact⟨by(rw[<-HP.out])<;>rfl,rfl⟩
    ·have HP:Hid (false=G):=hZ9 (by rw[HG.out,F.out];rfl);clear HG F B8 D6;go_wp2_with fail;go_meet;exact⟨by(rw[<-HP.out])<;>rfl,rfl⟩
    ·have HP:Hid ((name !=j)=G):=hZ9 (by rw[HG.out,F.out];rfl);clear HG F B8 D6;go_wp2_with fail;go_meet;exact⟨by(rw[<-HP.out])<;>rfl,rfl⟩
  case rest=>
  obtain⟨rfl,P0⟩:=hcut;subst P0;obtain⟨w7,rfl⟩:∃x,x=wc:=⟨_,rfl⟩
  clear HG F B8 N5 K7;cases G with
  |true=>
   have E3:=Af w7 (.cells #[name,.slice ax AL cx] 52);have L7:=Whole.made w7 52 #[name,.slice ax AL cx];have O:=t.call E3;have Q2:=D2.call E3;have P7:=B6.call E3;have F8:=AV.callT I E3;have F3:=J.call E3;have b0:=L7.cell 0;have b1:=L7.cell 1;have K6:=F3.size;simp only[aO,aH,aP] at b0 b1;have E9:=hZ9 (H2 rfl);rw[aJ rfl] at y;have A9:=hZ9 y;have P1:=hZ9 F8;obtain⟨i0,hi,G3,P9,Q4⟩:=info_parts II;clear y H2 G4 t D2 B6 I B1 D8 HH F8 E0 I4;go_wp2_with (at_builtin;refine NE (enQ w0.heap.size) 52 22 [9,56] (by decide) underlying22 hi G3 P9 Q4 (by rfl) (by rfl) _ _ (by rfl) w5.heap.size F2 _ Q (by rfl) O w7.heap.size (by rfl) ⟨name,X⟩ _ b0 b1 P1.out (by omega) K6 ?_)
   intro v8 w8 E B0 I6;have E2:=Q2.grown O (by decide) I6;have D7:=P7.pushed O F2 (by decide) I6;have M:=F3.grown I6 (λi hi e=>absurd (O.base_le e) (by omega));go_wp2_with fail;go_roundw
   case rel=>exact⟨k+1,N2,by omega,by go_num,by rw[E9.out];exact E,E2,by rw[A9.out];exact D7,by omega,M⟩
   case measure=>simp[intOf];omega
  |false=>
   rw[aG (by simp)] at y;have A9:=hZ9 y;have B3:=hZ9 (G4 rfl);clear y H2 G4;obtain⟨f6,L2,h61,h62⟩:∃f,Dt prog 9 w7 b N2 f/\(∀s,(f s).isSome=true↔∃e∈RR,e.name=s)/\∀e∈RR,∃u,f e.name=some (.agg #[.string ⟨e.name.toArray⟩,u])/\AV w0.heap.size (okA w0.heap.size w7) w7 u e.attrs:=by
    rcases B6 with⟨e,_⟩|⟨b',f,e,_,h2,h3,h4⟩
    ·cases e
    ·cases e;exact⟨f,h2,h3,h4⟩
   obtain⟨ys,ya,ym,yc,hy⟩:∃(ys:iK) (ya:Option Addr) (ym yc:Nat),(f6 name).getD (.agg #[.string ⟨#[]⟩,.slice none 0 0])=.agg #[ys,.slice ya ym yc]:=by
    cases hf:f6 name with
    |none=>exact⟨[],_,_,_,rfl⟩
    |some v=>obtain⟨e,he,hn⟩:=(h61 name).1 (by rw[hf];rfl);obtain⟨u,hu,ha⟩:=h62 e he;obtain⟨a,c,rfl,_⟩:=Ad.form ha;rw[hn,hf] at hu;exact⟨_,_,_,_,aU hu⟩
   have E4:=hZ9 (λW (hm:Dt prog 9 W b N2 f6)=>(hm.look underlying9 underlying61 (Adx W) name (by unfold maxLen;omega)).1);have H6:=hZ9 (λW (hb:Below w7.heap.size w7 W)=>L2.kept (Bc hb) (by simp));have E1:Hid ((f6 name).isSome=true↔∃e∈RR,e.name=name):=hZ9 (h61 name);rw[hy] at E4;generalize (f6 name).isSome=TT at*;clear h61 h62 L2 hy;have B:=D2.cell 0;simp only[aO,aH] at B;go_upto_region 10 with fail;go_cut [15] (λv wd=>v=.bool TT/\Below w7.heap.size w7 wd)
   case first=>
    clear A9 B3 t B6 I B1 D8 E1;have P4:=E4.out w7.drew (H6.out _ (below_drewN w7 1));have J9:=(Af w7 (.cells #[.string ⟨#[]⟩,.slice none 0 0] 52)).drew;have H1:=(Whole.made w7 52 #[.string ⟨#[]⟩,.slice none 0 0]).drew;have K3:=E4.out (w7.alloc (.cells #[.string ⟨#[]⟩,.slice none 0 0] 52)).drew (H6.out _ J9);have m2:=Ab B J9;have x2:=Ab x0 J9;have t0:=H1.thaw 0;have t1:=H1.thaw 1;have b0:=H1.cell 0;have b1:=H1.cell 1;simp only[aO,aH,aP] at b0 b1;have H7:=(Af w7 (.cells #[ys,.slice ya ym yc] 52)).drew;have m3:=Ab B H7;have x3:=Ab x0 H7;have K0:=E4.out (w7.alloc (.cells #[ys,.slice ya ym yc] 52)).drew (H6.out _ H7);refine Gi 12 (λW=>W.cell? ⟨fb,0,none⟩=some (.map (some b))/\W.cell? ⟨eb,0,none⟩=some (.string ⟨name.toArray⟩)/\(Instr.lookup 61 (.map (some b)) (.string ⟨name.toArray⟩) true).run prog W=.ok (.tuple #[.agg #[ys,.slice ya ym yc],TT]) W) (by kernel_rfl) (by kernel_rfl) ⟨B,x0,P4⟩ (λd=>?_);refine Ai 0 ?_ (by simp only[aN,aS];decide) (by kernel_rfl) (λ_ _ _ h=>h) (by rfl) ?_ d ?_
    rotate_left
    ·intro W Y;(try simp only[aC]);(try go_split_ands);go_simp;(try with_reducible rfl)
    (try simp only[aC,Act.put,aF,aL,aQ])
    refine Ai 1 ?_ (by simp only[aN,aS];decide) (by kernel_rfl) (λ_ _ _ h=>h) (by rfl) ?_ d ?_
    rotate_left
    ·intro W Y;(try simp only[aD,aC]);(try go_split_ands);go_simp;(try with_reducible rfl)
    (try simp only[aD,aC,Act.put,aF,aL,aQ])
    refine Ai 2 ?_ (by simp only[aN,aS];decide) (by kernel_rfl) (λ_ _ _ h=>h) (by rfl) ?_ d ?_
    rotate_left
    ·intro W Y;(try simp only[aD,aC]);(try go_split_ands);go_simp;(try with_reducible rfl)
    (try simp only[aD,aC,Act.put,aF,aL,aQ])
    refine Ai 3 ?_ (by simp only[aN,aS];decide) (by kernel_rfl) (λ_ _ _ h=>h) (by rfl) ?_ d ?_
    rotate_left
    ·intro W Y;(try simp only[aD,aC]);(try go_split_ands);go_simp;(try with_reducible rfl)
    (try simp only[aD,aC,Act.put,aF,aL,aQ])
    refine Ai 4 ?_ (by simp only[aN,aS];decide) (by kernel_rfl) (λ_ _ _ h=>h) (by rfl) ?_ d ?_
    rotate_left
    ·intro W Y;(try simp only[aD,aC]);(try go_split_ands);go_simp;(try with_reducible rfl)
    (try simp only[aD,aC,Act.put,aF,aL,aQ])
    refine Ai 5 ?_ (by simp only[aN,aS];decide) (by kernel_rfl) (λ_ _ _ h=>h) (by rfl) ?_ d ?_
    rotate_left
    ·intro W Y;(try simp only[aD,aC]);(try go_split_ands);go_simp;(try with_reducible rfl)
    (try simp only[aD,aC,Act.put,aF,aL,aQ])
    refine Ai 6 ?_ (by simp only[aN,aS];decide) (by kernel_rfl) (λ_ _ _ h=>h) (by rfl) ?_ d ?_
    rotate_left
    ·intro W Y;(try simp only[aD,aC]);(try go_split_ands);go_simp;(try with_reducible rfl)
    (try simp only[aD,aC,Act.put,aF,aL,aQ])
    refine Ai 7 ?_ (by simp only[aN,aS];decide) (by kernel_rfl) (λ_ _ _ h=>h) (by rfl) ?_ d ?_
    rotate_left
    ·intro W Y;(try simp only[aD,aC]);(try go_split_ands);go_simp;(try with_reducible rfl)
    (try simp only[aD,aC,Act.put,aF,aL,aQ])
    refine Ai 8 ?_ (by simp only[aN,aS];decide) (by kernel_rfl) (λ_ _ _ h=>h) (by rfl) ?_ d ?_
    rotate_left
    ·intro W Y;(try simp only[aD,aC]);(try go_split_ands);go_simp;(try with_reducible rfl)
    (try simp only[aD,aC,Act.put,aF,aL,aQ])
    refine Ai 9 ?_ (by simp only[aN,aS];decide) (by kernel_rfl) (λ_ _ _ h=>h) (by rfl) ?_ d ?_
    rotate_left
    ·intro W Y;(try simp only[aD,aC]);(try go_split_ands);go_simp;(try with_reducible rfl)
    (try simp only[aD,aC,Act.put,aF,aL,aQ])
    refine BB 10 (by simp only[aN,aS];decide) (by kernel_rfl) (λK hK=>?_)
    (try simp only[aD,aC])
    refine Bz (by rfl) ?_;go_simp;refine hK.out _ _ ?_ (λd=>?_)
    ·exact⟨m2,x2,K3⟩
    clear hK K
    (try simp only[aD,aC,Act.put,aF,aL,aQ])
    refine BB 11 (by simp only[aN,aS];decide) (by kernel_rfl) (λK hK=>?_)
    (try simp only[aD,aC])
    refine Bz (by rfl) ?_;go_simp;refine hK.out _ _ ?_ (λd=>?_)
    ·exact⟨m3,x3,K0⟩
    clear hK K
    (try simp only[aD,aC,Act.put,aF,aL,aQ])
    refine EX (by kernel_rfl) ?_;simp only[bW,bI];clear d;go_wp2_with fail;go_meet;exact⟨rfl,H7⟩
   case rest=>
   obtain⟨rfl,B0⟩:=hcut;obtain⟨w8,rfl⟩:∃x,x=wc:=⟨_,rfl⟩
   have E:=t.call B0;have E2:=D2.call B0;have D7:=B6.call B0;have C3:=AV.callT I B0;have M:=J.call B0;have B2:=J8.call B0;have A7:=E6.call B0;clear t D2 B6 I J L5 J8 E6 x0 x1 E4 H6 B;cases TT with
   |true=>
    have M9:=D8.out (E1.out.1 rfl);have F1:Bt w0.heap.size w8 (some b) N2 (R++((SL.take (k+1)).filter (λe=>!goes e)).filter holds):=by
     rw[A9.out];cases HO with
     |true=>rw[aJ rfl];exact D7.same M9
     |false=>rw[aG (by simp)];exact D7
    clear D8 E1 B1 HH M9;go_wp2_with fail;go_roundw
    case rel=>exact⟨k+1,N2,by omega,by go_num,by rw[B3.out];exact E,E2,F1,by omega,M⟩
    case measure=>simp[intOf];omega
   |false=>
    have N0:=B1.out X (.slice ax AL cx) w8 (J4.out _ M) C3.p.any E0;generalize FiS.Hh X x=r at*;have O4:=B2.cell 3;have M1:=B2.cell 4;have N6:=B2.cell 5;have M3:=B2.cell 6;have N4:=B2.cell 7;have M6:=B2.cell 8;have K9:=B2.cell 9;have x0:=A7.cell 0;have x1:=A7.cell 1;simp only[aO,aH,aP] at O4 M1 N6 M3 N4 M6 K9 x0 x1;clear B1 D8 B2;go_wp2_with fail;refine N0.mono ?_;rintro e w9 ⟨rfl,C9⟩;have A4:=E.call C9;have I5:=E2.call C9;have F1:=D7.call C9;have F7:=AV.callT C3 C9;have F6:=M.call C9;have F9:=A7.call C9;clear E E2 D7 C3 M A7 x0 x1 O4 M1 N6 M3 N4 M6 K9 N0;by_cases G9:r=1
    case neg=>
     have B7:(r==1)=false:=by simpa using G9
     have C5:Bt w0.heap.size w9 (some b) N2 (R++((SL.take (k+1)).filter (λe=>!goes e)).filter holds):=by rw[A9.out,HH.out,aB G9,aG (by simp)];exact F1
     clear A9 HH E1;go_wp2_with fail;go_roundw
     case rel=>exact⟨k+1,N2,by omega,by go_num,by rw[B3.out];exact A4,I5,C5,by omega,F6⟩
     case measure=>simp[intOf];omega
    have B7:(r==1)=true:=by simpa using G9
    have E8:=below_drewN w9 1;have A3:=A4.call E8;have G7:=I5.call E8;have J6:=F1.call E8;have held:=AV.callT F7 E8;have C4:=F6.call E8;change Ao _ _ _ _ w9.drew _ _ _ at A3;change Whole w9.drew _ _ _ at G7;change Bt _ w9.drew _ _ _ at J6;change AV w0.heap.size (okA w0.heap.size w9.drew) w9.drew _ _ at held;change But _ _ w9.drew at C4;obtain⟨f9,F0,h91,h92⟩:∃f,Dt prog 9 w9.drew b N2 f/\(∀s,(f s).isSome=true↔∃e∈RR,e.name=s)/\∀e∈RR,∃u,f e.name=some (.agg #[.string ⟨e.name.toArray⟩,u])/\AV w0.heap.size (okA w0.heap.size w9.drew) w9.drew u e.attrs:=by
     rcases J6 with⟨e,_⟩|⟨b',f,e,_,h2,h3,h4⟩
     ·cases e
     ·cases e;exact⟨f,h2,h3,h4⟩
    have M4:f9 name=none:=by
     cases h:f9 name with
     |none=>rfl
     |some v=>have:=E1.out.2 ((h91 name).1 (by rw[h];rfl));cases this
    obtain⟨w10,R2,F5,A0,_⟩:=F0.store underlying9 underlying61 (by unfold maxLen;omega) name (by unfold maxLen;omega) (.agg #[name,.slice ax AL cx]);have C5:Bt w0.heap.size w10 (some b) (N2+1) (R++((SL.take (k+1)).filter (λe=>!goes e)).filter holds):=by rw[A9.out,HH.out,aI G9,aJ rfl];exact Bt.store L8 F0 h91 h92 (x:=⟨name,X⟩) held M4 F5 A0
    have C8:=A3.mapped F0 L8 A0;have K4:=G7.mapped A0 (DI F0 G7);have G2:=C4.grown A0 (λi _ e=>.inr (aU e).symm);have B:=I5.cell 0;have x0:=F9.cell 0;have x1:=F9.cell 1;simp only[aO,aH,aP] at B x0 x1;clear A9 HH E1 h91 h92 M4 F0 F5 J6 F1 A3 A4 held F7 G7 C4 A0;go_wp2_with fail
    go_still_tail 7,(by kernel_rfl)
    change wpList _ _ _ _ _ w9.drew;go_wp2_with fail;go_roundw
    case rel=>exact⟨k+1,N2+1,by omega,by go_num,by rw[B3.out];exact C8,K4,C5,by omega,G2⟩
    case measure=>simp[intOf];omega
