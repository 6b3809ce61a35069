/- The walk of the law SearchPlain. Conditions: as stated. -/
import Derived.Test.YtgngjfjaelgaeaaGreatDoorZMki
set_option maxRecDepth 100000
set_option maxHeartbeats 16000000
namespace Go.Proofs.YtgngjfjaelgaeaaGreatDoor
open Go.Proofs.Tryz
open Go.RowKit
open FiS (Fi)
attribute [local go_sem ↓] Go.wp_at_zero Go.wp_at_succ
theorem Zl(C:Nat):∀(xs:List EnS.En) (a:List Value),flatK (enQ C) xs a=flatK enK xs a
 |[],_=>by unfold flatK;rfl
 |x :: xs,[]=>by unfold flatK;rfl
 |x :: xs,u :: a=>by unfold flatK;rw[Zl C xs a];rfl
theorem Ao.ofQ{T:TypeId}{Ts:List TypeId}{C D:Nat}{w:World}{B:Nat}{v:Value}{xs:List EnS.En}(h:Ao (enQ D) T Ts C w B v xs):Ao enK T Ts C w B v xs:=by obtain⟨a,h1,h2,h3⟩:=h;rw[Zl] at h1;exact⟨a,h1,h2,λi u x hu hx=>(h3 i u x hu hx).p⟩
theorem Xg{l:List EnS.En}{s:iK}{sc:Int}:∀e∈SeS.AO l s sc,e∈l:=λe a=>by
 unfold SeS.AO at a;split at a
 ·exact SeS.Be a
 ·cases a
theorem TP(l:List EnS.En)(s:iK)(sc:Int):(SeS.AO l s sc).length<=l.length:=by
 unfold SeS.AO;split
 ·exact bJ _ _
 ·exact aR _
theorem Zm{α:Type}(f:α->Nat):∀{l:List α} {e:α},e∈l->f e<=EnS.Av f l
 |x :: l,e,h=>by
  show _<=f x+EnS.Av f l
  rcases ay.1 h with rfl|h
  ·omega
  ·have:=Zm f h;omega
theorem Agb{l:List EnS.En}(g:EnS.Av EnS.cE l<=1048576)(d:Eo l)(c:∀e∈l,Xq 1048576 e):∀e∈l,AdU e.attrs:=λe b=>by refine⟨⟨(d.2 e b).2,λa f=>((c e b).2.2 a f).1⟩,?_⟩;have h1:=Zm EnS.cE b;have h2:=EnS.Vx e.attrs;have h4:EnS.cE e=1+e.name.length / 100+EnS.Av EnS.cA e.attrs:=rfl;omega
theorem PU(n:Nat)(l:List EnS.En)(q:SeS.Rq)(u v:Value)(w:World)(hu:Ci w u l)(hN:EnS.Av EnS.cE l<=1048576)(H1:∀e∈l,Xq 1048576 e)(h:FI n w v q)(L5:q.base.length<=1048576)(L7:∀s∈q.attrs,s.length<=1048576)(hE:Env w):
  Calls prog 5 #[u,v] w (NZ w):=by
 have D5:=hZ9 (λW hE=>Ady W hE);have G9:=hZ9 (λv W hE hu h=>Aft n u v l q W hE hu hN h L5);have F:=hZ9 (λW (hb:Below w.heap.size w W)=>hE.below hb);have C4:=hZ9 (λW (hb:Below w.heap.size w W)=>CE.call hu hb);have C5:=hZ9 (λu xs W h t hE=>AbC u xs W h t hE);have B4:=hZ9 (λv1 v2 ys W h1 h2 (hb:AgJ ys)=>Adz v1 v2 ys W h1 h2 hb.1 hb.2);have O:=hZ9 (λv W (t:He l q) h=>ZP n q v W h (FiS.Jo (by decide) _ t.2.2.2.2.2.1) (aX t.2.2.2.2.2.2.1 (by decide)));have C9:=hZ9 (λrv W (t:He l q) hb hE h=>Zt w u l (n+1) q rv W hu hb t.1 (aX t.2.2.2.2.1 (by decide)) (λe he=>⟨(t.1.2 e he).2,λa ha=>((H1 e he).2.2 a ha).1⟩) t.2.1 t.2.2.2.1 t.2.2.1 hE h (FiS.Jo (by decide) _ t.2.2.2.2.2.1) ⟨aX t.2.2.2.2.2.2.1 (by decide),L7⟩ (aX t.2.2.2.2.2.2.2 (by decide)));have C1:=hZ9 (λW (t:He l q) hu hE=>PI u l q.base false W hE hu t.1 (aX t.2.2.2.2.2.2.2 (by decide)));have C3:=hZ9 (λs W (t:He l q) hb hs hE=>TK w u l s q.scope W hu hb t.1 hs t.2.1 t.2.2.1 hE);have A8:=hZ9 (λvx ua A W (t:He l q) h hA B3 hE=>AbK n q.filter vx ua A W h (FiS.Jo (by decide) _ t.2.2.2.2.2.1) hA B3 hE);have U:=hZ9 (λC name xs ua rv W (t:He l q) hC h hfa ht hq=>Rf (n+1) q rv C name xs ua W hC h hfa ht hq ⟨aX t.2.2.2.2.2.2.1 (by decide),L7⟩);have D8:=hZ9 (λc ys (t:He l q) E4 hd hz h=>SeS.SD (l:=l) (q:=q) (c:=c) (ys:=ys) t.2.1 t.2.2.2.1 E4 hd hz h);have F8:=hZ9 (λc ys (t:He l q) h=>Agh (l:=l) (q:=q) (c:=c) (ys:=ys) t.2.1 t.2.2.2.1 t.1 h);have A9:Hid (He l q->(EnS.AQ l q.base false).2.2=0->(EnS.AQ l q.base false).1.length<=1000000):=hZ9 (λt h=>by
  rcases SeS.find_in h with h2|h2
  ·rw[h2];exact aR _
  ·obtain⟨x,hx,hn⟩:=dx.1 h2;have N9:x.name=(EnS.AQ l q.base false).1:=by simpa using hn
   rw[<-N9];exact(t.1.2 x hx).1)
 have E0:=hZ9 (λ(t:He l q)=>Agb hN t.1 H1);have D2:=hZ9 (λs sc (t:He l q)=>(⟨t.1.sub (Xg (s:=s) (sc:=sc)) (aX (TP l s sc) t.1.1),aX (TP l s sc) t.1.1⟩:Eo (SeS.AO l s sc)/\(SeS.AO l s sc).length<=1048576));have C8:=hZ9 (λs sc e (h:e∈SeS.BM (SeS.AO l s sc))=>Xg e (SeS.WW h));have F7:=hZ9 (λv W (hw:FiS.wdF 20000 q.filter) h=>Uc n q v W h hw);unfold YF at C5;unfold AP at F7;unfold BR at C1;unfold Gq at A8;unfold Jj at U;unfold NZ at*;obtain⟨a5,a6,aa,c5,c6,ca,rfl,G4,I0⟩:=h;obtain⟨bs,sc,dr,x,at_,tn,sz⟩:=q;simp only at G4 I0 G9 O C9 C1 C3 A8 U D8 A9 F7;have L:Hid (∀W,Below w.heap.size w W->FI n W (.agg #[bs,sc,dr,.int .i64 x.kind,.string ⟨x.attr.toArray⟩,.string ⟨x.value.toArray⟩,.string ⟨x.first.toArray⟩,.string ⟨x.last.toArray⟩,.slice a5 x.any.length c5,.slice a6 x.parts.length c6,.slice aa at_.length ca,tn,sz]) ⟨bs,sc,dr,x,at_,tn,sz⟩):=hZ9 (λW hb=>⟨a5,a6,aa,c5,c6,ca,rfl,G4.call hb,I0.call hb (aA _)⟩);have H9:=hZ9 (λW (hb:Below w.heap.size w W)=>G9.out _ W (F.out W hb) (C4.out W hb) (L.out W hb));have H5:=hZ9 (λW (hb:Below w.heap.size w W) hw=>F7.out _ W hw (L.out W hb));have C0:Hid (∀W,Below w.heap.size w W->BF n W (.agg #[.int .i64 x.kind,.string ⟨x.attr.toArray⟩,.string ⟨x.value.toArray⟩,.string ⟨x.first.toArray⟩,.string ⟨x.last.toArray⟩,.slice a5 x.any.length c5,.slice a6 x.parts.length c6]) x):=hZ9 (λW hb=>G4.call hb);clear G9 F7 G4 I0 hN H1 L5 hE;obtain⟨ua,uc,N7,_⟩:∃a c,u=.slice a l.length c/\l.length<=c:=Ad.form hu;clear hu;subst N7;generalize at_.length=QL at*;generalize l.length=LN at*;have B8:=Af w (.cells #[bs,sc,dr,.int .i64 x.kind,.string ⟨x.attr.toArray⟩,.string ⟨x.value.toArray⟩,.string ⟨x.first.toArray⟩,.string ⟨x.last.toArray⟩,.slice a5 x.any.length c5,.slice a6 x.parts.length c6,.slice aa QL ca,tn,sz] 28);have I7:=Whole.made w 28 #[bs,sc,dr,.int .i64 x.kind,.string ⟨x.attr.toArray⟩,.string ⟨x.value.toArray⟩,.string ⟨x.first.toArray⟩,.string ⟨x.last.toArray⟩,.slice a5 x.any.length c5,.slice a6 x.parts.length c6,.slice aa QL ca,tn,sz];have D3:=D5.out _ (F.out _ B8);go_enter func5,ntmps5;go_upto_region 1 with fail;go_cut [34] (λb wd=>∃bb,b=.bool bb/\Hid (bb=false->He l ⟨bs,sc,dr,x,at_,tn,sz⟩/\dr=0/\sz=0/\SeS.CU ⟨bs,sc,dr,x,at_,tn,sz⟩=true)/\Below (w.alloc (.cells #[bs,sc,dr,.int .i64 x.kind,.string ⟨x.attr.toArray⟩,.string ⟨x.value.toArray⟩,.string ⟨x.first.toArray⟩,.string ⟨x.last.toArray⟩,.slice a5 x.any.length c5,.slice a6 x.parts.length c6,.slice aa QL ca,tn,sz] 28)).heap.size (w.alloc (.cells #[bs,sc,dr,.int .i64 x.kind,.string ⟨x.attr.toArray⟩,.string ⟨x.value.toArray⟩,.string ⟨x.first.toArray⟩,.string ⟨x.last.toArray⟩,.slice a5 x.any.length c5,.slice a6 x.parts.length c6,.slice aa QL ca,tn,sz] 28)) wd)
 case first=>
  clear C9 O C5 B4 C0 F8 C1 C3 A8 U D8 A9 E0 D2 C8 L;go_wp2_with fail;refine D3.mono ?_;rintro e w1 ⟨rfl,H3⟩;have B:=B8.trans (H3.mono B8.size);have d:=I7.call H3;have L0:=H9.out _ B;have r0:=d.cell 0;have r1:=d.cell 1;have r2:=d.cell 2;have r3:=d.cell 3;have r4:=d.cell 4;have r5:=d.cell 5;have r6:=d.cell 6;have r7:=d.cell 7;have r8:=d.cell 8;have r9:=d.cell 9;have A7:=d.cell 10;have Z:=d.cell 11;have V:=d.cell 12;simp only[aO,aH,aP] at r0 r1 r2 r3 r4 r5 r6 r7 r8 r9 A7 Z V;clear D3 H9 D5;go_wp2_with fail;refine L0.mono ?_;rintro e w2 ⟨b,rfl,HB,B1⟩;have R:=B.trans (B1.mono B.size);have A1:=Aa H3 B1;have y:=d.call B1;clear L0 d r0 r1 r2 r3 r4 r5 r6 r7 r8 r9 A7 Z V;cases b with
  |false=>go_wp2_with fail;go_meet;exact⟨true,rfl,hZ9 (λh=>by cases h),A1⟩
  |true=>
  have I3:=hZ9 (HB.out rfl);have G0:=H5.out _ R (FiS.Jo (by decide) _ I3.out.2.2.2.2.2.1);have r0:=y.cell 0;have r1:=y.cell 1;have r2:=y.cell 2;have r3:=y.cell 3;have r4:=y.cell 4;have r5:=y.cell 5;have r6:=y.cell 6;have r7:=y.cell 7;have r8:=y.cell 8;have r9:=y.cell 9;have A7:=y.cell 10;have Z:=y.cell 11;have V:=y.cell 12;simp only[aO,aH,aP] at r0 r1 r2 r3 r4 r5 r6 r7 r8 r9 A7 Z V;clear HB H5;by_cases p1:dr=0
  case neg=>
   have d1:(dr !=0)=true:=by simpa using p1
   clear G0 p1;go_wp2_with fail;go_meet;exact⟨true,rfl,hZ9 (λh=>by cases h),A1⟩
  have d1:(dr !=0)=false:=by simpa using p1
  by_cases p2:sz=0
  case neg=>
   have d2:(sz !=0)=true:=by simpa using p2
   clear G0 p1 p2;go_wp2_with fail;go_meet;exact⟨true,rfl,hZ9 (λh=>by cases h),A1⟩
  have d2:(sz !=0)=false:=by simpa using p2
  have HP:=hZ9 (cn p1 p2);clear p1 p2;go_wp2_with fail;refine G0.mono ?_;rintro e w3 ⟨rfl,B5⟩;have E9:=Aa A1 B5;clear G0 y r0 r1 r2 r3 r4 r5 r6 r7 r8 r9 A7 Z V;cases E4:SeS.CU ⟨bs,sc,dr,x,at_,tn,sz⟩ with
  |false=>clear E4;go_wp2_with fail;go_meet;exact⟨true,rfl,hZ9 (λh=>by cases h),E9⟩
  |true=>
  have HK:=hZ9 (cn I3.out (cn HP.out.1 (cn HP.out.2 E4)));clear I3 E4 HP;go_wp2_with fail;go_meet;exact⟨false,rfl,hZ9 (λ_=>HK.out),E9⟩
 case rest=>
 obtain⟨bb,rfl,HK,I8⟩:=hcut;obtain⟨w1,rfl⟩:∃x,x=wc:=⟨_,rfl⟩
 have B:=B8.trans (I8.mono B8.size);have d:=I7.call I8;clear D3 I7 B8 I8 H9 H5;cases bb with
 |true=>have D3:=D5.out _ (F.out _ B);clear D5 F C4 C9 B4 O C5 HK C0 F8 C1 C3 A8 U D8 A9 E0 D2 C8 L;go_wp2_with fail;refine D3.mono ?_;rintro e w3 ⟨rfl,B5⟩;have D0:=B.trans (B5.mono B.size);go_wp2_with fail;go_ret;exact⟨by first|rfl|trivial,D0⟩
 |false=>
 have HF:=hZ9 (HK.out rfl).1;have HQ:=hZ9 (HK.out rfl).2;clear HK D5;have E1:=O.out _ w1 HF.out (L.out w1 B);have r0:=d.cell 0;have r1:=d.cell 1;have r2:=d.cell 2;have r3:=d.cell 3;have r4:=d.cell 4;have r5:=d.cell 5;have r6:=d.cell 6;have r7:=d.cell 7;have r8:=d.cell 8;have r9:=d.cell 9;have A7:=d.cell 10;have Z:=d.cell 11;have V:=d.cell 12;simp only[aO,aH,aP] at r0 r1 r2 r3 r4 r5 r6 r7 r8 r9 A7 Z V;have K1:=trivial;go_wp2_with fail;refine E1.mono ?_;rintro e w2 ⟨v2,rfl,M3,B1⟩;have R:=B.trans (B1.mono B.size);have y:=d.call B1;have L8:=C9.out v2 w2 HF.out R (F.out _ R) M3;clear E1 d B1 B M3 r0 r1 r2 r3 r4 r5 r6 r7 r8 r9 A7 Z V;go_wp2_with fail;refine L8.mono ?_;rintro e w3 ⟨c1,v3,ys,rfl,H6,T,B5⟩;have D0:=R.trans (B5.mono R.size);have I6:=y.call B5;replace T:=CE.any T;obtain⟨y1,k1,rfl,_⟩:=Ad.form T;have C7:=hZ9 (D8.out c1 ys HF.out HQ.out.2.2 HQ.out.1 HQ.out.2.1 H6);have G6:=hZ9 (F8.out c1 ys HF.out H6);clear L8 y B5 R H6 D8 F8 C9;generalize L2:ys.length=YN at*;have I9:=hZ9 L2;clear L2;obtain⟨ab,F6⟩:∃k,k=w3.heap.size:=⟨_,rfl⟩
 have O4:w.heap.size<ab:=by rw[F6];exact I6.lt
 have G1:=Af w3 (.cells #[c1,.slice y1 YN k1] 32);have hA4:=Whole.made w3 32 #[c1,.slice y1 YN k1];rw[<-F6] at hA4;have I1:=I6.call G1;have E8:=CE.call T G1;have D4:=D0.trans (G1.mono D0.size);clear T G1 D0 I6;have K0:=trivial;go_upto_region 4 with fail;rw[<-F6];generalize w3.alloc (.cells #[c1,.slice y1 YN k1] 32)=w4 at*;clear F6;have G7:=C1.out w4 HF.out (C4.out _ D4) (F.out _ D4);have r0:=I1.cell 0;simp only[aO,aH] at r0;obtain⟨FN,K7⟩:∃p,EnS.AQ l bs false=p:=⟨_,rfl⟩
 rw[K7] at G7 C7 A9;clear K7;obtain⟨F1,FM,F3⟩:=FN;simp only at G7 C7 A9;go_wp2_with fail;refine G7.mono ?_;rintro e w5 ⟨rfl,z⟩;have I:=D4.trans (z.mono D4.size);have G5:=I1.call z;have hA5:=hA4.call z;have B7:=CE.call E8 z;clear G7 I1 hA4 E8 z D4 r0 C1;have a0:=hA5.cell 0;have a1:=hA5.cell 1;simp only[aO,aH,aP] at a0 a1;by_cases p3:F3=0
 case neg=>
  have hp:=C7.out;rw[aJ p3] at hp;obtain⟨rfl,rfl⟩:=hp;have N8:YN=0:=I9.out.symm;subst N8;have d1:(c1 !=0)=true:=by simpa using p3
  have d2:(c1==c1)=true:=by simp
  clear C4 F O C5 B4 C0 C3 A8 U A9 E0 D2 C8 L C7 G6 I9 HF HQ p3 G5 hA5 B7;go_wp2_with fail;go_ret;exact⟨by first|rfl|trivial,I⟩
 have d1:(F3 !=0)=false:=by simpa using p3
 have hp:=C7.out;rw[aG (λh=>h p3)] at hp;obtain⟨rfl,M0⟩:=hp;have F5:=hZ9 M0;have L4:=C3.out F1 w5 HF.out I (A9.out HF.out p3) (F.out _ I);have r1:=G5.cell 1;simp only[aO,aH,aP] at r1;clear M0 C7 p3 C3 A9;have J1:=hZ9 (D2.out F1 sc HF.out);have E6:=hZ9 (C8.out F1 sc);generalize SeS.AO l F1 sc=SC at*;clear D2 C8;have K2:=trivial;go_wp2_with fail;refine L4.mono ?_;rintro e w6 ⟨v6,rfl,B0,Y⟩;have F9:=I.trans (Y.mono I.size);have K9:=C5.out v6 SC w6 B0.ofQ.ens J1.out.1 (F.out _ F9);clear L4 C5;go_wp2_with fail;refine K9.mono ?_;rintro e w7 ⟨v7,M,rfl,G,rfl,J0,D9⟩;have A4:=Aa Y D9;have A6:=F9.trans (D9.mono F9.size);have M2:=G5.call A4;have hA7:=hA5.call A4;have E7:=CE.call B7 A4;have O1:(SeS.BM SC).length<=1048576:=aX J0 J1.out.2;have L3:=G.ens;clear K9 J0 B0 G Y D9 A4 I F9 G5 hA5 B7 J1 a0 a1 r1;have L1:Hid (∀e∈SeS.BM SC,e∈l):=hZ9 (λe he=>E6.out e he);generalize SeS.BM SC=M at*;clear E6;obtain⟨sa,sk,rfl,N3,M4⟩:=Ad.at L3;have I5:=hZ9 M4;clear M4 L3;have G8:=hZ9 (λk (hk:k<M.length)=>E0.out HF.out _ (L1.out _ (aZ hk)));have H2:=hZ9 (λk (hk:k<M.length)=>Xf (P:=SeS.Ez x) (f:=SeS.DN at_ tn) hk);have I2:Hid (∀e,SeS.Ez x e=decide (FiS.Hh e.attrs x=1)):=hZ9 (λ_=>rfl);have H7:Hid (∀e,(SeS.DN at_ tn e).name=e.name):=hZ9 (λ_=>rfl);have A2:Hid (∀k,(((M.take k).filter (SeS.Ez x)).map (SeS.DN at_ tn)).length<=M.length):=hZ9 (λk=>by
  rw[b9];exact aX (bJ _ _) (by rw[ar];omega))
 have D7:Hid (M.take M.length=M):=hZ9 (bA);generalize SeS.DN at_ tn=sel at*;generalize SeS.Ez x=holds at*;clear E0 L1;obtain⟨SN,B6⟩:∃m,M.length=m:=⟨_,rfl⟩
 have M9:=hZ9 B6;rw[B6] at O1 N3 D7 A2⊢;clear B6;obtain⟨wl,rfl⟩:∃x,x=w7:=⟨_,rfl⟩
 have j:Hid (∀W,Below wl.heap.size wl W->Below w.heap.size w W/\Whole W w.heap.size 28 #[bs,sc,dr,.int .i64 x.kind,.string ⟨x.attr.toArray⟩,.string ⟨x.value.toArray⟩,.string ⟨x.first.toArray⟩,.string ⟨x.last.toArray⟩,.slice a5 x.any.length c5,.slice a6 x.parts.length c6,.slice aa QL ca,tn,sz]/\Whole W ab 32 #[.int .i64 0,.slice y1 YN k1]/\Ci W (.slice y1 YN k1) ys):=hZ9 (λW hb=>⟨A6.trans (hb.mono A6.size),M2.call hb,hA7.call hb,CE.call E7 hb⟩);obtain⟨i0,hi,M7,B,R⟩:=info_parts II;have HI:=hZ9 hi;clear hi A6 M2 hA7 E7;have K3:=trivial;go_wp2_with fail;go_loopw [10,68] (λout i wr=>∃k:Nat,k<=SN/\i=.int .i64 k/\Ao enK 52 [9,56] wl.heap.size wr wl.heap.size out (((M.take k).filter holds).map sel)/\Below wl.heap.size wl wr) (λ_ i _=>SN-(intOf i).toNat)
 case atStart=>exact⟨0,aR _,rfl,Ao.empty _ _ _ _ _ _,Below.refl _ _⟩
 case round=>
  obtain⟨k,hk,rfl,N,hb⟩:=hrel;obtain⟨oa,oc,rfl⟩:=N.form;have H0:=A2.out k;by_cases N4:k<SN
  ·have S:k<M.length:=by rw[M9.out];exact N4
   obtain⟨g,o,rfl,hg,_,hra⟩:=I5.out k S;obtain⟨c0,a2,p2,c1,M5,J3⟩:=Xt [9] hra hg;have B3:=G8.out k S;have G3:=hZ9 (H2.out k S);have A3:=hZ9 (H7.out (M[k]'S));have D1:=hZ9 (I2.out (M[k]'S));have A5:=hZ9 (λrv W hC h hq=>U.out wl.heap.size (M[k]'S).name (M[k]'S).attrs (.slice a2 (M[k]'S).attrs.length p2) rv W HF.out hC h B3.1.1 B3.1.2 hq);have H4:Hid ((((M.take k).filter holds).map sel).length<=SN):=hZ9 H0;clear hra I5 G8 H2 H7 I2 U A2 D7;generalize M[k]=en at*;obtain⟨name,C2⟩:=en;simp only at c0 c1 M5 J3 B3 A3 A5 D1;generalize J6:sel ⟨name,C2⟩=se at*;have F4:Eg [9] wl.heap.size wl (.slice a2 C2.length p2) C2:=Aw.exp J3;generalize M8:C2.length=AL at*;generalize O6:((M.take k).filter holds).map sel=ZS at*;have C6:=hb.drew;have H8:=(j.out _ C6).1;have G2:=A8.out _ (.slice a2 AL p2) C2 wr.drew HF.out (C0.out _ H8) (Eg.ins (F4.callT C6)) B3 (F.out _ H8);have E3:Hid (∀W,Below wl.heap.size wl W->W.cell? ⟨w.heap.size,3,none⟩=some (.int .i64 x.kind)/\W.cell? ⟨w.heap.size,4,none⟩=some (.string ⟨x.attr.toArray⟩)/\W.cell? ⟨w.heap.size,5,none⟩=some (.string ⟨x.value.toArray⟩)/\W.cell? ⟨w.heap.size,6,none⟩=some (.string ⟨x.first.toArray⟩)/\W.cell? ⟨w.heap.size,7,none⟩=some (.string ⟨x.last.toArray⟩)/\W.cell? ⟨w.heap.size,8,none⟩=some (.slice a5 x.any.length c5)/\W.cell? ⟨w.heap.size,9,none⟩=some (.slice a6 x.parts.length c6)/\W.cell? ⟨g,o+k*2+1,none⟩=some (.slice a2 AL p2)):=hZ9 (λW hb=>⟨(j.out W hb).2.1.cell 3,(j.out W hb).2.1.cell 4,(j.out W hb).2.1.cell 5,(j.out W hb).2.1.cell 6,(j.out W hb).2.1.cell 7,(j.out W hb).2.1.cell 8,(j.out W hb).2.1.cell 9,Ab c1 hb⟩);have B2:Hid (∀W,Below wl.heap.size wl W->W.cell? ⟨g,o+k*2,none⟩=some (.string ⟨name.toArray⟩)/\W.cell? ⟨g,o+k*2+1,none⟩=some (.slice a2 AL p2)/\W.cell? ⟨w.heap.size,0,none⟩=some (.string ⟨bs.toArray⟩)/\W.cell? ⟨w.heap.size,1,none⟩=some (.int .i64 sc)/\W.cell? ⟨w.heap.size,2,none⟩=some (.int .i64 dr)/\W.cell? ⟨w.heap.size,3,none⟩=some (.int .i64 x.kind)/\W.cell? ⟨w.heap.size,4,none⟩=some (.string ⟨x.attr.toArray⟩)/\W.cell? ⟨w.heap.size,5,none⟩=some (.string ⟨x.value.toArray⟩)/\W.cell? ⟨w.heap.size,6,none⟩=some (.string ⟨x.first.toArray⟩)/\W.cell? ⟨w.heap.size,7,none⟩=some (.string ⟨x.last.toArray⟩)/\W.cell? ⟨w.heap.size,8,none⟩=some (.slice a5 x.any.length c5)/\W.cell? ⟨w.heap.size,9,none⟩=some (.slice a6 x.parts.length c6)/\W.cell? ⟨w.heap.size,10,none⟩=some (.slice aa QL ca)/\W.cell? ⟨w.heap.size,11,none⟩=some (.bool tn)/\W.cell? ⟨w.heap.size,12,none⟩=some (.int .i64 sz)):=hZ9 (λW hb=>⟨Ab c0 hb,Ab c1 hb,(j.out W hb).2.1.cell 0,(j.out W hb).2.1.cell 1,(j.out W hb).2.1.cell 2,(j.out W hb).2.1.cell 3,(j.out W hb).2.1.cell 4,(j.out W hb).2.1.cell 5,(j.out W hb).2.1.cell 6,(j.out W hb).2.1.cell 7,(j.out W hb).2.1.cell 8,(j.out W hb).2.1.cell 9,(j.out W hb).2.1.cell 10,(j.out W hb).2.1.cell 11,(j.out W hb).2.1.cell 12⟩);have J:=N.call (below_drewN wr 1);change Ao _ _ _ _ wr.drew _ _ _ at J;have B9:=E3.out _ C6;have D6:=hZ9 (λW (hb:Below wr.drew.heap.size wr.drew W)=>C6.trans (hb.mono C6.size));clear C0 A8 B3 c0 c1 J3 M5 M8 H8 N H0 J6;generalize FiS.Hh C2 x=X at*;have O5:(0:Int)<=(k:Int):=by omega
   have O8:(k:Int)<(SN:Int):=by omega
   by_cases hX:X=1
   case neg=>
    have d2:(X==1)=false:=by simpa using hX
    have O2:Hid (((M.take (k+1)).filter holds).map sel=ZS):=hZ9 (by rw[G3.out,aG (by rw[D1.out];simpa using hX)]);clear G3 D1 A5 O L B2 hX F4 B4 A3 H4;have K5:=trivial;go_upto_region 12 with fail
    go_region_held3 (λW=>W.cell? ⟨w.heap.size,3,none⟩=some (.int .i64 x.kind)/\W.cell? ⟨w.heap.size,4,none⟩=some (.string ⟨x.attr.toArray⟩)/\W.cell? ⟨w.heap.size,5,none⟩=some (.string ⟨x.value.toArray⟩)/\W.cell? ⟨w.heap.size,6,none⟩=some (.string ⟨x.first.toArray⟩)/\W.cell? ⟨w.heap.size,7,none⟩=some (.string ⟨x.last.toArray⟩)/\W.cell? ⟨w.heap.size,8,none⟩=some (.slice a5 x.any.length c5)/\W.cell? ⟨w.heap.size,9,none⟩=some (.slice a6 x.parts.length c6)/\W.cell? ⟨g,o+k*2+1,none⟩=some (.slice a2 AL p2)) (first|exact B9|exact E3.out _ (D6.out _ z))
     (first|(go_at_call 17;(with_reducible refine G2.mono ?_);rintro e w5 ⟨rfl,z⟩))
    have I:=D6.out _ z;have Q:=J.call z;clear G2 B9 E3 J;go_wp2_with fail;go_roundw
    case rel=>exact⟨k+1,by omega,by go_num,by rw[O2.out];exact Q,I⟩
    case measure=>simp[intOf];omega
   have d2:(X==1)=true:=by simpa using hX
   have J7:Hid (((M.take (k+1)).filter holds).map sel=ZS++[se]):=hZ9 (by rw[G3.out,aJ (by rw[D1.out];simpa using hX)]);clear G3 D1 hX B4;have K4:=trivial;go_upto_region 12 with fail
   go_region_held3 (λW=>W.cell? ⟨w.heap.size,3,none⟩=some (.int .i64 x.kind)/\W.cell? ⟨w.heap.size,4,none⟩=some (.string ⟨x.attr.toArray⟩)/\W.cell? ⟨w.heap.size,5,none⟩=some (.string ⟨x.value.toArray⟩)/\W.cell? ⟨w.heap.size,6,none⟩=some (.string ⟨x.first.toArray⟩)/\W.cell? ⟨w.heap.size,7,none⟩=some (.string ⟨x.last.toArray⟩)/\W.cell? ⟨w.heap.size,8,none⟩=some (.slice a5 x.any.length c5)/\W.cell? ⟨w.heap.size,9,none⟩=some (.slice a6 x.parts.length c6)/\W.cell? ⟨g,o+k*2+1,none⟩=some (.slice a2 AL p2)) (first|exact B9|exact E3.out _ (D6.out _ z))
    (first|(go_at_call 17;(with_reducible refine G2.mono ?_);rintro e w5 ⟨rfl,z⟩))
   have I:=D6.out _ z;have Q:=J.call z;clear G2 B9 E3 J D6;go_upto_region 13 with fail;have E:=I.drew;have A0:=Q.call (below_drewN w5 1);change Ao _ _ _ _ w5.drew _ _ _ at A0;have B9:=B2.out _ E;have H:=E.size;have E1:=O.out _ w5.drew HF.out (L.out _ (j.out _ E).1);have M1:=hZ9 (λrv W (hb:Below w5.drew.heap.size w5.drew W) hq=>A5.out rv W (aX H hb.size) (F4.callT (E.trans (hb.mono H))) hq);have L6:=hZ9 (λW (hb:Below w5.drew.heap.size w5.drew W)=>A0.call hb);have N5:Hid (se.name=name):=A3;have O9:=H4.out;clear O L A5 F4 Q A0 I j F C4 A3 H4 G6 F5 I9 hb C6;refine Gi 10 (λW=>W.cell? ⟨g,o+k*2,none⟩=some (.string ⟨name.toArray⟩)/\W.cell? ⟨g,o+k*2+1,none⟩=some (.slice a2 AL p2)/\W.cell? ⟨w.heap.size,0,none⟩=some (.string ⟨bs.toArray⟩)/\W.cell? ⟨w.heap.size,1,none⟩=some (.int .i64 sc)/\W.cell? ⟨w.heap.size,2,none⟩=some (.int .i64 dr)/\W.cell? ⟨w.heap.size,3,none⟩=some (.int .i64 x.kind)/\W.cell? ⟨w.heap.size,4,none⟩=some (.string ⟨x.attr.toArray⟩)/\W.cell? ⟨w.heap.size,5,none⟩=some (.string ⟨x.value.toArray⟩)/\W.cell? ⟨w.heap.size,6,none⟩=some (.string ⟨x.first.toArray⟩)/\W.cell? ⟨w.heap.size,7,none⟩=some (.string ⟨x.last.toArray⟩)/\W.cell? ⟨w.heap.size,8,none⟩=some (.slice a5 x.any.length c5)/\W.cell? ⟨w.heap.size,9,none⟩=some (.slice a6 x.parts.length c6)/\W.cell? ⟨w.heap.size,10,none⟩=some (.slice aa QL ca)/\W.cell? ⟨w.heap.size,11,none⟩=some (.bool tn)/\W.cell? ⟨w.heap.size,12,none⟩=some (.int .i64 sz)) (by kernel_rfl) (by kernel_rfl) B9 (λr=>?_);generalize w5.drew=wd at*;have K6:=trivial;refine Ai 0 ?_ (by simp only[aN,aS];decide) (by kernel_rfl) (λ_ _ _ h=>h) (by rfl) ?_ r ?_
   rotate_left
   ·intro W E2;(try simp only[aC]);(try go_split_ands);go_simp;(try with_reducible rfl)
   (try simp only[aC,Act.put,aF,aL,aQ])
   refine Ai 1 ?_ (by simp only[aN,aS];decide) (by kernel_rfl) (λ_ _ _ h=>h) (by rfl) ?_ r ?_
   rotate_left
   ·intro W E2;(try simp only[aD,aC]);(try go_split_ands);go_simp;(try with_reducible rfl)
   (try simp only[aD,aC,Act.put,aF,aL,aQ])
   refine Ai 2 ?_ (by simp only[aN,aS];decide) (by kernel_rfl) (λ_ _ _ h=>h) (by rfl) ?_ r ?_
   rotate_left
   ·intro W E2;(try simp only[aD,aC]);(try go_split_ands);go_simp;(try with_reducible rfl)
   (try simp only[aD,aC,Act.put,aF,aL,aQ])
   refine Ai 3 ?_ (by simp only[aN,aS];decide) (by kernel_rfl) (λ_ _ _ h=>h) (by rfl) ?_ r ?_
   rotate_left
   ·intro W E2;(try simp only[aD,aC]);(try go_split_ands);go_simp;(try with_reducible rfl)
   (try simp only[aD,aC,Act.put,aF,aL,aQ])
   refine Ai 4 ?_ (by simp only[aN,aS];decide) (by kernel_rfl) (λ_ _ _ h=>h) (by rfl) ?_ r ?_
   rotate_left
   ·intro W E2;(try simp only[aD,aC]);(try go_split_ands);go_simp;(try with_reducible rfl)
   (try simp only[aD,aC,Act.put,aF,aL,aQ])
   refine Ai 5 ?_ (by simp only[aN,aS];decide) (by kernel_rfl) (λ_ _ _ h=>h) (by rfl) ?_ r ?_
   rotate_left
   ·intro W E2;(try simp only[aD,aC]);(try go_split_ands);go_simp;(try with_reducible rfl)
   (try simp only[aD,aC,Act.put,aF,aL,aQ])
   refine BB 6 (by simp only[aN,aS];decide) (by kernel_rfl) (λK hK=>?_)
   (try simp only[aD,aC])
   refine Bz (by rfl) ?_;go_simp
   (go_at_call 10;(with_reducible refine E1.mono ?_);rintro e w6 ⟨v6,rfl,O0,Y⟩)
   have E5:=M1.out v6 w6 Y O0;refine hK.out _ _ ?_ (λr=>?_)
   ·exact B2.out _ (E.trans (Y.mono H))
   clear hK K
   (try simp only[Act.put,aF,aL,aQ])
   refine BB 7 (by simp only[aN,aS];decide) (by kernel_rfl) (λK hK=>?_)
   (try simp only[aD,aC])
   refine Bz (by rfl) ?_;go_simp
   (go_at_call 18;(with_reducible refine E5.mono ?_);rintro e w7 ⟨u7,rfl,G,D9⟩)
   have A6:=Y.trans (D9.mono Y.size);have J5:=G.attrsB (Ts':=[9,56]) (by simp) (by simp);obtain⟨ya,yc,rfl⟩:=G.form;generalize J0:se.attrs.length=SL2 at*;refine hK.out _ _ ?_ (λr=>?_)
   ·exact B2.out _ (E.trans (A6.mono H))
   clear hK K
   (try simp only[Act.put,aF,aL,aQ])
   refine BB 8 (by simp only[aN,aS];decide) (by kernel_rfl) (λK hK=>?_)
   (try simp only[aD,aC])
   refine Bz (by rfl) ?_;go_simp;have I4:=Af w7 (.cells #[name,.slice ya SL2 yc] 52);have K8:=Whole.made w7 52 #[name,.slice ya SL2 yc];have J2:=A6.trans (I4.mono A6.size);have J4:=Aw.callT J5 I4;have F0:=(L6.out _ A6).call I4;have b0:=K8.cell 0;have b1:=K8.cell 1;simp only[aO,aH,aP] at b0 b1;have b2:_=some (Ac (enK.key se)):=b0.trans (by show _=some (Ac se.name);rw[N5.out];rfl);have J8:=aX H J2.size;refine hK.out _ _ ?_ (λr=>?_)
   ·exact B2.out _ (E.trans (J2.mono H))
   clear hK K
   (try simp only[aD,aC,Act.put,aF,aL,aQ])
   refine BB 9 (by simp only[aN,aS];decide) (by kernel_rfl) (λK hK=>?_)
   (try simp only[aD,aC])
   refine Bz (by rfl) ?_;refine Ahc enK 52 22 [9,56] (by decide) underlying22 HI.out M7 B R (by rfl) (.tmp 80) (.tmp 88) (by rfl) wl.heap.size (aA _) _ ZS (by rfl) F0 w7.heap.size (by rfl) se _ b2 b1 J4 (by omega) J8 ?_;intro v9 w9 F2 N0 O7;have L9:=E.trans ((J2.mono H).trans N0);refine hK.out _ _ ?_ (λr=>?_)
   ·exact B2.out _ L9
   clear hK K
   (try simp only[Act.put,aF,aL,aQ])
   refine EX (by kernel_rfl) ?_;simp only[bW,bI];clear r B2 E1 E5 M1 L6;go_wp2_with fail;go_roundw
   case rel=>exact⟨k+1,by omega,by go_num,by rw[J7.out];exact F2,L9⟩
   case measure=>simp[intOf];omega
  ·have N1:k=SN:=by omega
   subst N1;rw[D7.out,<-F5.out] at N;have hL:=j.out _ hb;have O3:=B4.out (.slice y1 YN k1) _ ys wr hL.2.2.2 N.ens G6.out;have a0:=hL.2.2.1.cell 0;have a1:=hL.2.2.1.cell 1;have M6:=hL.1;simp only[aO,aH,aP] at a0 a1;rw[D7.out,<-F5.out];clear I5 G8 H2 H7 I2 U A2 D7 F5 G6 N H0 B4 j O L C0 A8 F C4 hL;have J9:=trivial;go_wp2_with fail;refine O3.mono ?_;rintro e wz ⟨rfl,N2⟩;have N6:=M6.trans (N2.mono M6.size);go_wp2_with fail;go_ret;exact⟨by first|rfl|trivial,N6⟩
