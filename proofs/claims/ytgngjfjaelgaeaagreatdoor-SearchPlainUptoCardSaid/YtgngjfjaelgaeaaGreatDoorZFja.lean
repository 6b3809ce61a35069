/- The walks of entries in order: the document's CopyAll, ahead and Sorted. Conditions: as stated. -/
import Derived.Test.YtgngjfjaelgaeaaGreatDoorZVir
set_option maxRecDepth 100000
set_option maxHeartbeats 4000000
namespace Go.Proofs.YtgngjfjaelgaeaaGreatDoor
open Go.Proofs.Tryz
variable {p t:iK} {j k n:Nat}
section
open Go.RowKit
attribute [local go_sem ↓] Go.wp_at_zero Go.wp_at_succ
theorem Ad.get{α:Type}{El:World->Nat->Nat->α->Prop}{ok:Nat->Prop}{w:World}{a:Option Addr}{c:Nat}{xs:List α}(h:Ad k El ok w (.slice a n c) xs)(d:j<xs.length):∃g o,a=some ⟨g,o,none⟩/\g<w.heap.size/\ok g/\El w g (o+j*k) (xs[j]'d):=by obtain⟨f,i,e,_,b⟩:=Ad.at h;cases e;exact b j d
theorem Ao.readE{α:Type}{L:KLay α}{T:TypeId}{Ts:List TypeId}{C:Nat}{w:World}{B:Nat}{v:Value}{xs:List α}(h:Ao L T Ts C w B v xs):
  Ad 2 (λw g o x=>w.cell? ⟨g,o,none⟩=some (Ac (L.key x))/\∃u,w.cell? ⟨g,o+1,none⟩=some u/\L.El (okT Ts C w) w u x) (λ_=>True) w v xs:=by
 obtain⟨d,h1,h2,h3⟩:=h;rcases h1.2 with⟨rfl,b⟩|⟨g,cap,cur,rfl,q,f,b,r,hsz,l⟩
 ·exact⟨none,0,by rw[b],by omega,.inl (aY b)⟩
 ·refine⟨some ⟨g,0,none⟩,cap,rfl,b,.inr ⟨g,0,rfl,(ah.1 f).1,trivial,λj x c=>?_⟩⟩;have e:j<d.length:=by rw[h2];exact(ak.1 c).1
  have hu:=aK e;obtain⟨m,f1⟩:=GI L xs d j x _ c hu;have c0:=World.ownsRow.cells h1 (g:=g) rfl (j*2) _ m;have c1:=World.ownsRow.cells h1 (g:=g) rfl (j*2+1) _ f1;have a:∀i,(⟨g,0,none⟩:Addr).add i=⟨g,0+i,none⟩:=λi=>by unfold Addr.add;split<;>simp_all
  rw[a] at c0 c1;exact⟨c0,d[j],c1,h3 j _ x hu c⟩
theorem Afq:(prog.info? 92).map (λi=>(i.zero,i.size,i.bytes))=some (some (.agg #[.slice none 0 0,false]),2,32):=by kernel_rfl
end
section
open Go.RowKit
attribute [local go_sem ↓] Go.wp_at_zero Go.wp_at_succ
def KJ(x y:Ky):Bool:=x.2&&(y.2&&decide (DnS.ER x.1 y.1<0))
def kyE(e:EnS.En):Ky:=((DnS.Ae e.name).1,(DnS.Ae e.name).2==0)
theorem AbB(a b:EnS.En):KJ (kyE a) (kyE b)=decide (DnS.Aq a.name b.name<0):=by
 unfold KJ kyE DnS.Aq;by_cases c:(DnS.Ae a.name).2=0
 ·by_cases hb:(DnS.Ae b.name).2=0
  ·simp[c,hb]
  ·simp[c,hb]
 ·simp[c]
theorem Agy{xs ys:List EnS.En}(hk:k<xs.length)(h:ys=SeS.BM (xs.take k))(hp:SeS.DG (xs[k]'hk).name ys=n)(a:n<ys.length)(e:(ys[n]'a).name=(xs[k]'hk).name):ys=SeS.BM (xs.take (k+1)):=by rw[SeS.TG hk,<-h];subst hp;exact(SeS.WU a e).symm
theorem AgQ{xs ys:List EnS.En}(hk:k<xs.length)(h:ys=SeS.BM (xs.take k))(hp:SeS.DG (xs[k]'hk).name ys=n)(e:∀a:n<ys.length,(ys[n]'a).name≠(xs[k]'hk).name):ys.take n++[xs[k]'hk]++ys.drop n=SeS.BM (xs.take (k+1)):=by rw[SeS.TG hk,<-h];subst hp;rw[SeS.Zf e,bL];rfl
theorem AdH(u1 u2:Value)(x y:Ky)(w:World)(h1:Ah w u1 x.1)(h2:Ah w u2 y.1)(h:x.1.length<=1000)(g:y.1.length<=1000):
  Calls prog 45 #[.agg #[u1,x.2],.agg #[u2,y.2]] w (λe w'=>e=.returned (.bool (KJ x y))/\Below w.heap.size w w'):=by
 have m:=λW (hb:Below w.heap.size w W)=>AfB u1 u2 x.1 y.1 W (h1.call hb (aA _)) (h2.call hb (aA _)) h g;unfold Wj at m;obtain⟨xs,bx⟩:=x;obtain⟨ys,d⟩:=y;unfold KJ;simp only at h1 h2 m⊢;generalize DnS.ER xs ys=N at*;obtain⟨a1,c1,v,u,_⟩:=h1;obtain⟨a2,c2,s,r,_⟩:=h2;subst v s;clear u r h g;generalize xs.length=L1 at*;generalize ys.length=L2 at*;have i:=Af w (.cells #[.slice a1 L1 c1,bx] 92);have a:=Whole.made w 92 #[.slice a1 L1 c1,bx];have f:=Af (w.alloc (.cells #[.slice a1 L1 c1,bx] 92)) (.cells #[.slice a2 L2 c2,d] 92);have b:=Whole.made (w.alloc (.cells #[.slice a1 L1 c1,bx] 92)) 92 #[.slice a2 L2 c2,d];have l:(w.alloc (.cells #[.slice a1 L1 c1,bx] 92)).heap.size=w.heap.size+1:=by show (w.heap.push _).size=_;exact br _
 rw[l] at b;have a:=a.call f;have c:=Aa i f;have a0:=a.cell 0;have o:=a.cell 1;have C:=b.cell 0;have B:=b.cell 1;simp only[aO,aH,aP] at a0 o C B;have z:=m _ c;clear m i f a b l;go_enter func45,ntmps45;cases bx with
 |false=>go_wp2_with fail;go_ret;exact⟨by first|rfl|simp,c⟩
 |true=>
  cases d with
  |false=>go_wp2_with fail;go_ret;exact⟨by first|rfl|simp,c⟩
  |true=>go_wp2_with fail;refine z.mono ?_;rintro e w2 ⟨rfl,q⟩;have A:=Aa c q;go_wp2_with fail;go_ret;exact⟨by first|rfl|simp,A⟩
def YF(xs:List EnS.En)(w:World)(e:Ending)(w':World):Prop:=∃v ys,e=.returned v/\Ao enK 52 [9,56] w.heap.size w' w.heap.size v ys/\ys=SeS.BM xs/\ys.length<=xs.length/\Below w.heap.size w w'
def Pq(xs:List EnS.En)(w:World)(out keys i:Value)(wr:World):Prop:=∃(k:Nat) (ys:List EnS.En) (a:List Ky),k<=xs.length/\i=.int .i64 k/\Ao enK 52 [9,56] w.heap.size wr w.heap.size out ys/\Ei 92 wr w.heap.size w.heap.size keys a/\ys=SeS.BM (xs.take k)/\ys.length<=k/\a.length=ys.length/\Hid (a=ys.map kyE)/\(∀q∈a,q.1.length<=12)/\Below w.heap.size w wr
theorem AbC(u:Value)(xs:List EnS.En)(w:World)(h:Ci w u xs)(hf:Eo xs)(hE:Env w):
  Calls prog 15 #[u] w (YF xs w):=by
 have G1:=hZ9 (λk (hk:k<xs.length) W hE=>Qi (xs[k]'hk).name ((hf.2 _ (aZ hk)).1) W hE);unfold CP at G1;obtain⟨a,c,rfl,hc,J8⟩:=Ad.at h;have J5:=hZ9 J8;have M4:=hZ9 (λW (hb:Below w.heap.size w W)=>hE.below hb);have O8:xs.length<=1048576:=hf.1;have J6:=hZ9 (λk (hk:k<xs.length) (ys:List EnS.En) n (h:ys=SeS.BM (xs.take k)) hp hn e=>Agy (n:=n) hk h hp hn e);have J7:=hZ9 (λk (hk:k<xs.length) (ys:List EnS.En) n (h:ys=SeS.BM (xs.take k)) hp e=>AgQ (n:=n) hk h hp e);obtain⟨i0,hi,D3,E2,E9⟩:=info_parts II;have HI:=hZ9 hi;obtain⟨j0,hj,E0,E5,O2⟩:=info_parts Afq;have HJ:=hZ9 hj;clear J8 h hf hE hi hj;go_enter func15,ntmps15;go_wp2_with fail;go_loopw [3,4,14] (Pq xs w) (λ_ _ i _=>xs.length-(intOf i).toNat)
 case atStart=>exact⟨0,[],[],aR _,rfl,Ao.empty _ _ _ _ _ _,Ei.empty _ _ _ _,rfl,aA _,rfl,hZ9 rfl,by simp,Below.refl _ _⟩
 case round=>
  obtain⟨k,ys,A,hk,rfl,Z,G3,O,M8,M3,D6,A3,hb⟩:=hrel;have A7:=hZ9 O;clear O;by_cases M:k<xs.length
  ·obtain⟨g,o,rfl,hg,_,hra⟩:=J5.out k M;obtain⟨c0,a2,p2,c1,N0,G9⟩:=Xt [9,56] hra hg;have E:=hZ9 (λ(ys:List EnS.En) n (h:ys=SeS.BM (xs.take k)) hp hn e=>J6.out k M ys n h hp hn e);have B1:Hid (kyE (xs[k]'M)=((DnS.Ae (xs[k]'M).name).1,(DnS.Ae (xs[k]'M).name).2==0)):=hZ9 rfl;have F:=hZ9 (λ(ys:List EnS.En) n (h:ys=SeS.BM (xs.take k)) hp e=>J7.out k M ys n h hp e);have F0:=G1.out k M wr (M4.out _ hb);have G2:=DnS.Dh (xs[k]'M).name;clear hra J5 J6 J7 G1;generalize xs[k]=x at*;obtain⟨name,y⟩:=x;simp only at c0 c1 N0 G9 F0 G2 E F B1;generalize DnS.Ae name=TS at*;obtain⟨ts,e0⟩:=TS;simp only at F0 G2 B1;have d0:=Ab c0 hb;have d1:=Ab c1 hb;have C5:=Aw.callT G9 hb;clear c0 c1 G9;generalize N6:y.length=L at*;obtain⟨oa,oc,rfl,O1⟩:=Ad.form Z.ens;obtain⟨qa,qc,rfl,O7⟩:=G3.form;generalize K2:ys.length=Y at*;generalize M5:A.length=J at*;subst M3;have O0:(0:Int)<=(k:Int):=by omega
   have O6:(k:Int)<(xs.length:Int):=by omega
   go_wp2_with fail;refine F0.mono ?_;rintro e w1 ⟨vp,rfl,F5,R⟩;have G8:=hb.trans (R.mono hb.size);obtain⟨va,vc,rfl⟩:=F5.form;have N9:ts.length<=12:=G2.1;have J1:=Own.typed (B:=w.heap.size) F5 (Ts:=[9]) (by simp);generalize N7:ts.length=TL at*;have N:=Af w1 (.cells #[.slice va TL vc,.bool (e0==0)] 92);have D5:=Whole.made w1 92 #[.slice va TL vc,.bool (e0==0)];have G6:=G8.trans (N.mono G8.size);have b0:=D5.cell 0;have b1:=D5.cell 1;have L3:=D5.lt;simp only[aO,aH,aP] at b0 b1;have T:=(Z.call R).call N;have A8:=(G3.call R).call N;have A4:=Am.callT J1 N;have F1:=Ab (Ab d0 R) N;have F2:=Ab (Ab d1 R) N;have A9:=Aw.callT (Aw.callT C5 R) N;clear Z G3 J1 F5 d0 d1 C5 F0 D5;go_upto_block 2 with fail;generalize w1.alloc (.cells #[.slice va TL vc,.bool (e0==0)] 92)=wK at*;generalize w1.heap.size=bk at*;generalize L5:(e0==(0:Int))=eb at*;obtain⟨EN,A5⟩:∃x:EnS.En,x=⟨name,y⟩:=⟨_,rfl⟩
   have C4:Hid (EN.name=name):=hZ9 (by rw[A5]);rw[<-A5] at B1;have G4:Hid (∀(j:Nat) (hj:j<A.length) (hy:j<ys.length),A[j]'hj=kyE (ys[j]'hy)):=hZ9 (λj hj hy=>by
    have:=D6.out;subst this;rw[fg])
   have C2:EN=⟨name,y⟩:=A5;have H8:=hZ9 C2;clear A5 C2;clear L5 N G8 R hb;go_cut [9] (λn wx=>∃j:Nat,j<=J/\n=.int .i64 j/\Hid (SeS.DG name ys=j)/\Below wK.heap.size wK wx)
   case first=>
    go_wp2_with fail;go_loopw [9] (λn wn=>∃j:Nat,j<=J/\n=.int .i64 j/\Hid (∀i (hi:i<ys.length),i<j->DnS.Aq (ys[i]'hi).name name<0)/\Below wK.heap.size wK wn) (λn _=>J-(intOf n).toNat)
    case atStart=>exact⟨0,aR _,rfl,hZ9 (λi hi h=>absurd h (bj _)),Below.refl _ _⟩
    case round=>
     obtain⟨j,hj,rfl,B3,d⟩:=hrel;by_cases D9:j<J
     ·have U:j<A.length:=by rw[M5];exact D9
      obtain⟨gk,ok,rfl,O5,_,⟨uk,k0,E3⟩,k1⟩:=Ad.get (Ei.read A8) U;obtain⟨ua,uc,rfl,_⟩:=Ad.form E3;have E6:=A3 _ (aZ U);have Q:j<ys.length:=by rw[K2];exact D9
      have F4:Hid (KJ (A[j]'U) (ts,eb)=decide (DnS.Aq (ys[j]'Q).name name<0)):=hZ9 (by rw[G4.out j U Q,<-B1.out,AbB,C4.out]);have M6:Hid (DnS.Aq (ys[j]'Q).name name<0->∀i (hi:i<ys.length),i<j+1->DnS.Aq (ys[i]'hi).name name<0):=hZ9 (λh i hi D4=>by
       rcases bV (bX D4) with h2|rfl
       ·exact B3.out i hi h2
       ·exact h)
      have M7:Hid (¬DnS.Aq (ys[j]'Q).name name<0->SeS.DG name ys=j):=hZ9 (λh=>SeS.WT (dF Q) (λi hi D4=>B3.out i hi D4) (λ_=>h));generalize DnS.Aq (ys[j]'Q).name name=CV at*;generalize A[j]=q at*;obtain⟨kt,kb⟩:=q;simp only at k0 k1 E3 E6;have F7:=λW (hb:Below wK.heap.size wK W)=>AdH (.slice ua kt.length uc) (.slice va TL vc) (kt,kb) (ts,eb) W (E3.strs.call hb (aA _)) (A4.strs.call hb (aA _)) (by show kt.length<=1000;omega) (by show ts.length<=1000;omega);simp only at F7;obtain⟨AB,J0⟩:∃b,KJ (kt,kb) (ts,eb)=b:=⟨_,rfl⟩
      rw[J0] at F7 F4;clear J0;generalize kt.length=KL at*;have n0:=Ab k0 d;have n1:=Ab k1 d;have n2:=Ab b0 d;have n3:=Ab b1 d;have G5:Below wr.heap.size wr wr.drew:=below_drewN wr 1;have I3:(0:Int)<=(j:Int):=by omega
      have E7:(j:Int)<(J:Int):=by omega
      clear E3 E6 U Q k0 k1 T F1 F2 A9 HI HJ E F A4 B3 G4 D6 A7 B1 C4;go_wp2_with fail
      go_region_held3 (λW=>W.cell? ⟨gk,ok+j*2,none⟩=some (.slice ua KL uc)/\W.cell? ⟨gk,ok+j*2+1,none⟩=some (.bool kb)/\W.cell? ⟨bk,0,none⟩=some (.slice va TL vc)/\W.cell? ⟨bk,1,none⟩=some (.bool eb)/\Below wK.heap.size wK W)
       (first|exact⟨n0,n1,n2,n3,d.trans (G5.mono d.size)⟩|(go_split_ands;exact⟨Ab (by assumption) B5,Ab (by assumption) B5,Ab (by assumption) B5,Ab (by assumption) B5,Below.trans (by assumption) (B5.mono (Below.size (by assumption)))⟩)|go_keep)
       (first|(go_at_call 45;go_split_ands;with_reducible refine(F7 _ (by assumption)).mono ?_;rintro e wN ⟨rfl,B5⟩))
      go_split_ands;have hbm:Below wK.heap.size wK wN:=by assumption
      cases AB with
      |true=>
       have M1:=hZ9 (M6.out (b7 F4.out.symm));go_wp2_with fail;go_roundw
       case rel=>exact⟨j+1,by omega,by go_num,M1,hbm⟩
       case measure=>simp[intOf];omega
      |false=>go_wp2_with fail;go_meet;exact⟨j,hj,rfl,hZ9 (M7.out (by have:=bf F4.out.symm;omega)),hbm⟩
     ·have U:j=J:=by omega
      have E7:¬(j:Int)<(J:Int):=by omega
      have L2:Hid (SeS.DG name ys=J):=hZ9 (SeS.WT (by omega) (λi hi D4=>B3.out i hi (by omega)) (λh=>by omega));clear B3;go_wp2_with fail
      go_quiet (fail)
      go_wp2_with fail;go_meet;exact⟨J,aA _,rfl,L2,d.trans ((below_drewN wr _).mono d.size)⟩
   case rest=>
    obtain⟨j,hj,rfl,C7,d⟩:=hcut;obtain⟨w5,rfl⟩:∃x,x=wc:=⟨_,rfl⟩
    have r:=T.call d;have K:=A8.call d;have A1:=Am.callT A4 d;have A6:=Aw.callT A9 d;have J4:=Ab F1 d;have I2:=Ab F2 d;have I5:=Ab b0 d;have I4:=Ab b1 d;have B7:=G6.trans (d.mono G6.size);clear T A8 A4 A9 F1 F2 b0 b1 G6;go_upto_region 11 with fail;go_cut [60] (λb wx=>∃bb:Bool,b=.bool bb/\(bb=true->∃(s:j<ys.length),ys[j].name=name)/\(bb=false->∀(s:j<ys.length),ys[j].name≠name)/\Below w5.heap.size w5 wx)
    case first=>
     by_cases D9:j<J
     ·have s:j<ys.length:=by rw[K2];exact D9
      obtain⟨gy,oy,rfl,P0,_,N2⟩:=Ad.get r.readE s;obtain⟨y0,uy,y1,H9⟩:=N2;change w5.cell? ⟨gy,oy+j*2,none⟩=some (.string ⟨ys[j].name.toArray⟩) at y0;obtain⟨nj,E8⟩:∃n,n=ys[j].name:=⟨_,rfl⟩
      rw[<-E8] at y0;have HX:=hZ9 (λe:nj=name=>show ∃(s:j<ys.length),ys[j].name=name from⟨s,by rw[<-E8];exact e⟩);have I3:(0:Int)<=(j:Int):=by omega
      have E7:(j:Int)<(J:Int):=by omega
      have K4:=hZ9 (λe:nj≠name=>show ∀(s:j<ys.length),ys[j].name≠name from λs=>by rw[<-E8];exact e);clear H9 E8 r K A1 A6 E F s;cases hq:(nj==name) with
      |true=>
       have L9:=hZ9 (HX.out (by simpa using hq));go_wp2_with fail
       go_quiet (fail)
       go_wp2_with fail;go_meet;exact⟨true,rfl,λ_=>L9.out,(λh=>by cases h),below_drewN w5 _⟩
      |false=>
       have H3:=hZ9 (K4.out (by simpa using hq));go_wp2_with fail
       go_quiet (fail)
       go_wp2_with fail;go_meet;exact⟨false,rfl,(λh=>by cases h),λ_=>H3.out,below_drewN w5 _⟩
     ·have E7:¬(j:Int)<(J:Int):=by omega
      have L7:¬j<ys.length:=by omega
      clear r K A1 A6 E F;go_wp2_with fail
      go_quiet (fail)
      go_wp2_with fail;go_meet;exact⟨false,rfl,(λh=>by cases h),λ_ s=>absurd s L7,below_drewN w5 _⟩
    case rest=>
     obtain⟨bb,rfl,K1,I1,m⟩:=hcut;cases bb with
     |true=>
      obtain⟨s,K5⟩:=K1 rfl;have M2:=E.out ys j A7.out C7.out s K5;go_wp2_with fail;go_roundw
      case rel=>
       have hR:Pq xs w (.slice oa J oc) (.slice qa J qc) (.int .i64 ((k:Int)+1)) wc:=⟨k+1,ys,A,by omega,by go_num,r.call m,K.call m,M2,by omega,by omega,D6,A3,B7.trans (m.mono B7.size)⟩
       exact hR
      case measure=>simp[intOf];omega
     |false=>
      obtain⟨w6,rfl⟩:∃x,x=wc:=⟨_,rfl⟩
      have S:=r.call m;have B0:=K.call m;have B9:=Am.callT A1 m;have D0:=Aw.callT A6 m;have d0:=Ab J4 m;have d1:=Ab I2 m;have b0:=Ab I5 m;have b1:=Ab I4 m;have F3:=B7.trans (m.mono B7.size);have B4:=F3.size;have N3:bk<w6.heap.size:=ae L3 (d.trans (m.mono d.size)).size;have H2:=hZ9 (F.out ys j A7.out C7.out (I1 rfl));have K8:Hid (A.take j++[((ts,eb):Ky)]++A.drop j=(ys.take j++[(⟨name,y⟩:EnS.En)]++ys.drop j).map kyE):=hZ9 (by
       rw[bQ,bQ,gX,List.map_drop,<-D6.out];have e1:[(⟨name,y⟩:EnS.En)].map kyE=[((ts,eb):Ky)]:=by rw[cT,fh];exact congrArg (· :: []) (by have:=B1.out;rw[H8.out] at this;exact this)
       rw[e1])
      have J2:(ys.take j).length=j:=by rw[ar];omega
      have J3:(ys.drop j).length=J-j:=by rw[bD];omega
      have D8:(A.take j).length=j:=by rw[ar];omega
      have I7:(A.drop j).length=J-j:=by rw[bD];omega
      have I9:=Ad.take S.readE hj;have N1:=Ad.take B0.read hj;have O4:j<=oc:=by omega
      have U:j<=qc:=by omega
      have I3:(0:Int)<=(j:Int):=by omega
      have E7:(j:Int)<=(oc:Int):=by omega
      have N8:(j:Int)<=(qc:Int):=by omega
      clear r K A1 A6 J4 I2 I5 I4 B7 d m E F K1 I1 G4;go_wp2_with (at_builtin;(refine RV enK 52 22 [9,56] (by decide) underlying22 HI.out D3 E2 E9 (by rfl) (by rfl) _ _ (by rfl) w6.heap.size B4 _ [] (by rfl) (Ao.empty _ _ _ _ _ _) _ (ys.take j) (by rfl) I9 (by simp;omega) (aA _) ?_))
      intro v1 w7 G B2 L6;obtain⟨n1,m1,rfl⟩:=G.form;rw[J2] at G⊢;have L4:=Ab d0 B2;have K6:=Ab d1 B2;have C6:=Aw.callT D0 B2;have B6:=Af w7 (.cells #[name,.slice a2 L p2] 52);have F6:=Whole.made w7 52 #[name,.slice a2 L p2];have H:=B2.trans (B6.mono B2.size);have f:=G.call B6;have C9:=Aw.callT C6 B6;have f0:=F6.cell 0;have f1:=F6.cell 1;have H1:=H.size;simp only[aO,aH,aP] at f0 f1;clear G C6 F6 I9;go_wp2_with (at_builtin;(refine NE enK 52 22 [9,56] (by decide) underlying22 HI.out D3 E2 E9 (by rfl) (by rfl) _ _ (by rfl) w6.heap.size B4 _ (ys.take j) (by rfl) f w7.heap.size (by rfl) ⟨name,y⟩ _ f0 f1 C9 (by omega) H1 ?_))
      intro v2 w8 v I6 M0;obtain⟨n2,m2,rfl⟩:=v.form;have D7:(ys.take j++[(⟨name,y⟩:EnS.En)]).length=j+1:=by rw[aT,J2];rfl
      rw[D7] at v⊢;have P:=H.trans I6;have A0:=S.call P;have J9:=A0.readE;have D1:=P.size;go_upto_region 15 with fail;go_cut [3] (λx wd=>Ao enK 52 [9,56] w.heap.size wd w6.heap.size x (ys.take j++[(⟨name,y⟩:EnS.En)]++ys.drop j)/\Below w6.heap.size w6 wd)
      case first=>
       by_cases G0:oc=j
       ·subst G0;have h1:ys.drop oc=[]:=dI (by omega);have X:=Ad.nil (k:=2) (El:=λw1 g o (x:EnS.En)=>w1.cell? ⟨g,o,none⟩=some (Ac (enK.key x))/\∃u,w1.cell? ⟨g,o+1,none⟩=some u/\enK.El (okT [9,56] w.heap.size w1) w1 u x) (ok:=λ_=>True) (w:=w8) oa 0;go_wp2_with (at_builtin;(refine RV enK 52 22 [9,56] (by decide) underlying22 HI.out D3 E2 E9 (by rfl) (by rfl) _ _ (by rfl) w6.heap.size B4 _ (ys.take oc++[(⟨name,y⟩:EnS.En)]) (by rfl) v _ [] (by rfl) X (by rw[D7];simp;omega) D1 ?_))
        intro v3 w9 l z L8;go_wp2_with fail;go_meet;exact⟨by rw[h1,bK];exact l,P.trans z⟩
       ·have H5:¬oc-j=0:=by omega
        have X:=Ad.drop J9 hj;go_wp2_with (at_builtin;(refine RV enK 52 22 [9,56] (by decide) underlying22 HI.out D3 E2 E9 (by rfl) (by rfl) _ _ (by rfl) w6.heap.size B4 _ (ys.take j++[(⟨name,y⟩:EnS.En)]) (by rfl) v _ (ys.drop j) (by rfl) X (by rw[D7,J3];omega) D1 ?_))
        intro v3 w9 l z L8;go_wp2_with fail;go_meet;exact⟨by rw[bL];exact l,P.trans z⟩
      case rest=>
       obtain⟨l,z⟩:=hcut;obtain⟨w9,rfl⟩:∃x,x=wc:=⟨_,rfl⟩
       obtain⟨n3,m3,rfl⟩:=l.form;have F9:(ys.take j++[(⟨name,y⟩:EnS.En)]++ys.drop j).length=J+1:=by rw[aT,D7,J3];omega
       rw[F9] at l⊢;have F8:=F3.trans (z.mono F3.size);have B8:=F8.size;have C3:=B0.call z;have I0:=Am.callT B9 z;have L0:=Ab b0 z;have K7:=Ab b1 z;have N4:=z.size;have M9:=Ad.take C3.read hj;clear v P A0 J9 I6 B6 H f C9 f0 f1 B2 S D0 d0 d1 L4 K6 L6 M0 B0 B9 b0 b1 N1;go_wp2_with (at_builtin;(refine Oo 92 88 (by decide) underlying88 HJ.out E0 E5 (by omega) (by rfl) (by rfl) _ _ (by rfl) w9.heap.size B8 _ [] (by rfl) (Ei.empty _ _ _ _) _ (A.take j) (by rfl) M9 (by rw[D8];simp;omega) (aA _) ?_))
       intro v4 wA f H B6;obtain⟨n4,m4,rfl,_⟩:=f.form;rw[D8] at f⊢;have O9:=Ab L0 H;have O3:=Ab K7 H;have C0:=Am.callT I0 H;have H0:=Af wA (.cells #[.slice va TL vc,eb] 92);have E4:=Whole.made wA 92 #[.slice va TL vc,eb];have K0:=H.trans (H0.mono H.size);have D2:=f.call H0;have H6:=Am.callT C0 H0;have g0:=E4.cell 0;have g1:=E4.cell 1;have H7:=K0.size;simp only[aO,aH,aP] at g0 g1;have K3:=AgK (C:=w.heap.size) (x:=(ts,eb)) E4.lt g0 g1 H6;clear f C0 E4;go_wp2_with (at_builtin;(refine Oo 92 88 (by decide) underlying88 HJ.out E0 E5 (by omega) (by rfl) (by rfl) _ _ (by rfl) w9.heap.size B8 _ (A.take j) (by rfl) D2 _ [(ts,eb)] (by rfl) K3 (by rw[D8];simp;omega) H7 ?_))
       intro v5 wD I G5 N5;have E1:(A.take j++[((ts,eb):Ky)]).length=j+1:=by rw[aT,D8];rfl
       obtain⟨n5,m5,rfl,_⟩:=I.form;rw[E1] at I⊢;have A2:=K0.trans G5;have H4:=C3.call A2;have L1:=H4.read;have C8:=A2.size;have I8:∀(v6:Value) (wF:World),Ei 92 wF w.heap.size w9.heap.size v6 (A.take j++[((ts,eb):Ky)]++A.drop j)->Below w9.heap.size w9 wF->Pq xs w (.slice n3 (J+1) m3) v6 (.int .i64 ((k:Int)+1)) wF:=λv6 wF h1 h2=>
        ⟨k+1,_,_,by omega,by go_num,(l.mono B4).call h2,h1.mono B8,H2.out,by rw[F9];omega,by rw[F9,aT,E1,I7];omega,K8,λq hq=>by
         rcases bB.1 hq with hq|hq
         ·rcases bB.1 hq with hq|hq
          ·exact A3 q (dO hq)
          ·rw[aj] at hq;subst hq;show ts.length<=12;omega
         ·exact A3 q (gU hq),F8.trans (h2.mono F8.size)⟩
       have C1:=hZ9 I8;clear I8;by_cases G0:qc=j
       ·subst G0;have h1:A.drop qc=[]:=dI (by omega);have X:=Ad.nil (k:=2) (El:=Xm w.heap.size) (ok:=λ_=>True) (w:=wD) qa 0;go_wp2_with (at_builtin;(refine Oo 92 88 (by decide) underlying88 HJ.out E0 E5 (by omega) (by rfl) (by rfl) _ _ (by rfl) w9.heap.size B8 _ (A.take qc++[((ts,eb):Ky)]) (by rfl) I _ [] (by rfl) X (by rw[E1];simp;omega) C8 ?_))
        intro v6 wF V G7 K9;have hR:=C1.out v6 wF (by rw[h1,bK];exact V) (A2.trans G7);go_wp2_with fail;go_roundw
        case rel=>exact hR
        case measure=>simp[intOf];omega
       ·have H5:¬qc-j=0:=by omega
        have X:=Ad.drop L1 hj;go_wp2_with (at_builtin;(refine Oo 92 88 (by decide) underlying88 HJ.out E0 E5 (by omega) (by rfl) (by rfl) _ _ (by rfl) w9.heap.size B8 _ (A.take j++[((ts,eb):Ky)]) (by rfl) I _ (A.drop j) (by rfl) X (by rw[E1,I7];omega) C8 ?_))
        intro v6 wF V G7 K9;have hR:=C1.out v6 wF (by rw[bL];exact V) (A2.trans G7);go_wp2_with fail;go_roundw
        case rel=>exact hR
        case measure=>simp[intOf];omega
  ·have E6:k=xs.length:=by omega
   subst E6;have O:=A7.out;simp only[bA] at O;go_wp2_with fail;go_ret;exact⟨_,ys,rfl,Z,O,M8,hb⟩
end
section
namespace FiS
theorem MC(t:iK):∀(A B:List EnS.At),BC t (A++B)=BC t A++BC t B
 |[],_=>rfl
 |a :: r,B=>by
  show (if(RuS.typeOf a.typ).1=t then a.vals else [])++BC t (r++B)=_
  rw[MC t r B,BC,bL]
theorem XC(t:iK)(A:List EnS.At)(j:Nat)(a:j<A.length):BC t (A.take (j+1))=BC t (A.take j)++(if(RuS.typeOf (A[j]'a).typ).1=t then(A[j]'a).vals else []):=by
 rw[aW a,MC];show _++((if(RuS.typeOf (A[j]'a).typ).1=t then(A[j]'a).vals else [])++[])=_
 rw[bK]
theorem Lp(t:iK):∀A:List EnS.At,(BC t A).length<=EnS.Av (λa=>a.vals.length) A
 |[]=>aA _
 |a :: r=>by
  have:=Lp t r;rw[BC,aT];show _<=a.vals.length+EnS.Av _ r
  split
  ·omega
  ·simp only[aS];omega
def Gy(t p:iK)(k:Nat):Int:=if 0<=Lib.index (t.drop k) p then(k:Int)+Lib.index (t.drop k) p else -1
theorem Jp(t p:iK)(k i:Nat):Lib.occAt (t.drop k) p i=Lib.occAt t p (k+i):=by unfold Lib.occAt;rw[List.drop_drop]
theorem AdI(_:j+p.length<=t.length):Lib.occAt t p j=((t.take (j+p.length)).drop j==p):=by unfold Lib.occAt;rw[eO,dY,bR,dN,List.prefix_iff_eq_take,ag];exact⟨λh=>h.symm,λh=>h.symm⟩
theorem YG(a:j<=t.length)(h:Lib.occAt t p j=true):j+p.length<=t.length:=by unfold Lib.occAt at h;have:=(dN.1 h).length_le;rw[bD] at this;omega
theorem AbD(hk:k<=j)(c:j<=t.length)(a:Lib.occAt t p j=true)(b:∀m,k<=m->m<j->Lib.occAt t p m=false):Gy t p k=j:=by
 unfold Gy;rcases Lib.index_spec (t.drop k) p with⟨_,h⟩|⟨i,h1,h2,h3,h4⟩
 ·have:=h (j-k) (by rw[bD];omega);rw[Jp,show k+(j-k)=j by omega,a] at this;cases this
 ·rw[h1,aJ (by omega)];rw[Jp] at h3;have e:i=j-k:=by
   rcases fP i (j-k) with h|h|h
   ·have:=b (k+i) (by omega) (by omega);rw[h3] at this;cases this
   ·exact h
   ·have:=h4 (j-k) h;rw[Jp,show k+(j-k)=j by omega,a] at this;cases this
  omega
theorem AdJ(hk:k<=t.length)(b:t.length<j+p.length)(a:∀m,k<=m->m<j->Lib.occAt t p m=false):Gy t p k=-1:=by
 unfold Gy;rcases Lib.index_spec (t.drop k) p with⟨h0,_⟩|⟨i,h1,h2,h3,_⟩
 ·rw[h0];rfl
 ·rw[Jp] at h3;rw[bD] at h2;have:=YG (j:=k+i) (by omega) h3;have h5:=a (k+i) (by omega) (by omega);rw[h3] at h5;cases h5
theorem Oy(h:0<=Lib.index (t.drop k) p)(hk:k<=t.length):∃i:Nat,Lib.index (t.drop k) p=i/\Gy t p k=((k+i:Nat):Int)/\k+i+p.length<=t.length/\(t.drop k).drop (i+p.length)=t.drop (k+i+p.length):=by
 rcases Lib.index_spec (t.drop k) p with⟨h0,_⟩|⟨i,h1,h2,h3,_⟩
 ·omega
 ·refine⟨i,h1,by unfold Gy;rw[aJ h,h1];rfl,?_,by rw[List.drop_drop];congr 1;omega⟩;rw[Jp] at h3;rw[bD] at h2;exact YG (by omega) h3
end FiS
open Go.RowKit
open FiS (Fi)
attribute [local go_sem ↓] Go.wp_at_zero Go.wp_at_succ
theorem Qp(b:Bool)(w:World):Calls prog 121 #[b] w λe w'=>e=.returned (.int .i64 (if b=true then 1 else 0))/\w=w':=by
 cases b
 all_goals
  go_enter func121,ntmps121;go_wp2_with fail;go_ret;exact⟨rfl,rfl⟩
theorem Qq(t p:iK)(k:Nat)(s:Int)(l:s=(k:Int))(hk:k<=t.length)(I:t.length<=20000)(hp:p.length<=20000)(w:World):Calls prog 150 #[t,p,s] w λe w'=>e=.returned (.int .i64 (FiS.Gy t p k))/\w=w':=by
 have c:=hZ9 (λj=>@FiS.AbD p t j k);have d:=hZ9 (λj=>@FiS.AdJ p t j k hk);have HX:Hid (∀a b,(⟨t.toArray⟩:ByteArray).extract a b=⟨((t.take b).drop a).toArray⟩):=hZ9 (λa b=>Eu t a b);have g:=hZ9 (λj=>@FiS.AdI p t j);obtain⟨R,hR⟩:∃r,FiS.Gy t p k=r:=⟨_,rfl⟩
 rw[hR] at c d⊢;clear hR;have A:(0:Int)<=s:=by omega
 have v:s<=(t.length:Int):=by omega
 have f:=hZ9 l;clear l;go_enter func150,ntmps150;go_wp2_with fail;go_loop [7] (λi=>∃(j:Nat),k<=j/\j<=t.length+1/\i=.int .i64 j/\Hid (∀m,k<=m->m<j->Lib.occAt t p m=false)) (λi=>t.length+1-(intOf i).toNat)
 case atStart=>exact⟨k,aA _,by omega,by rw[f.out],hZ9 (λm h1 h2=>by omega)⟩
 case round=>
  obtain⟨j,x,H,rfl,h⟩:=hrel;clear A v;by_cases u:j+p.length<=t.length
  ·have G:(0:Int)<=(j:Int):=by omega
   have y:(j:Int)+(p.length:Int)<=(t.length:Int):=by omega
   have E:(j:Int)<=(j:Int)+(p.length:Int):=by omega
   have B:decide ((j:Int)+(p.length:Int)<=(t.length:Int))=true:=aI y;have hx:=HX.out j (j+p.length);have o:Hid (Lib.occAt t p j=(((t.take (j+p.length)).drop j)==p)):=hZ9 (by rw[g.out j u]);generalize (t.take (j+p.length)).drop j=q at*;clear HX g;cases C:(q==p) with
   |true=>have HR:Hid (R=j):=hZ9 (c.out j x (by omega) (by rw[o.out,C]) h.out);clear c d o h f;go_wp2_with fail;go_ret;exact⟨by(rw[HR.out])<;>rfl,by first|rfl|trivial⟩
   |false=>
    have z:Hid (∀m,k<=m->m<j+1->Lib.occAt t p m=false):=hZ9 (λm h1 h2=>by
     rcases bV (bX h2) with h3|rfl
     ·exact h.out m h1 h3
     ·rw[o.out,C])
    clear c d o h f;go_wp2_with fail;go_round
    case rel=>exact⟨j+1,by omega,by omega,by go_num,z⟩
    case measure=>simp[intOf];omega
  ·have B:decide ((j:Int)+(p.length:Int)<=(t.length:Int))=false:=aB (by omega);have F:(t.length:Int)<(j:Int)+(p.length:Int):=by omega
   have HR:Hid (R=-1):=hZ9 (d.out j (by omega) h.out);clear c d h HX g f;go_wp2_with fail;go_ret;exact⟨by(rw[HR.out])<;>rfl,by first|rfl|trivial⟩
theorem ZO(A:List EnS.At)(u:Value)(t:iK)(w:World)(hA:BA w u A)(hf:GZ A/\∀x∈A,x.typ.length<=1048576)(H:EnS.Av (λa=>a.vals.length) A<=1048576)(ht:t.length<=20000):
  Calls prog 120 #[u,t] w λe w'=>∃v,e=.returned v/\Own w' w.heap.size v (FiS.BC (RuS.typeOf t).1 A)/\Below w.heap.size w w':=by
 obtain⟨⟨A2,A8⟩,Y⟩:=hf;have G:∀W,Calls prog 66 #[t] W (Ak t W):=λW=>Eb ⟨t.toArray⟩ (by rw[BZ];omega) W;unfold Ak at G;generalize RuS.typeOf t=TT at*;obtain⟨B,sy⟩:=TT;simp only at G⊢;obtain⟨aa,ac,rfl,A9,T⟩:=Ad.at hA;have O:=hZ9 T;have C:=hZ9 (λj (hj:j<A.length)=>Y A[j] (aZ hj));have M:=hZ9 (λj (hj:j<A.length)=>FiS.XC B A j hj);have z:Hid (∀j,(FiS.BC B (A.take j)).length<=1048576):=hZ9 (λj=>aX (FiS.Lp B _) (aX (EnS.Lt A j) H));have I:Hid (A.take A.length=A):=hZ9 (bA);clear T hA Y H A8;obtain⟨X,P⟩:∃k,A.length=k:=⟨_,rfl⟩
 have V:=hZ9 P;rw[P] at A9 A2 I⊢;clear P;go_enter func120,ntmps120;go_wp2_with fail;refine(G _).mono ?_;rintro e w1 ⟨rfl,U⟩;clear G;go_wp2_with fail;go_loopw [7,18] (λo i wr=>∃j:Nat,j<=X/\i=.int .i64 j/\Own wr w.heap.size o (FiS.BC B (A.take j))/\Below w.heap.size w wr) (λ_ i _=>X-(intOf i).toNat)
 case atStart=>exact⟨0,aR _,rfl,Own.empty _ _,U⟩
 case round=>
  obtain⟨j,hj,rfl,b,hb⟩:=hrel;clear U;obtain⟨oa,oc,rfl⟩:=b.form;by_cases A3:j<X
  ·have y:j<A.length:=by rw[V.out];exact A3
   obtain⟨g,o,rfl,hg,_,hra⟩:=O.out j y;obtain⟨c0,a2,p2,c1,A7,hu⟩:=BG.parts hra;have A0:=C.out j y;have E:=M.out j y;have l:=z.out (j+1);rw[E,aT] at l;clear hra O C M z;generalize A[j]=at1 at*;obtain⟨ty,vals⟩:=at1;simp only at c0 c1 A7 hu A0 E l;have hu:=hu.strs;have c0:wr.cell? ⟨g,o+j*2,none⟩=some (.string ⟨ty.toArray⟩):=(hb.cell (p:=⟨g,o+j*2,none⟩) hg).trans c0;have c1:wr.cell? ⟨g,o+j*2+1,none⟩=some (.slice a2 vals.length p2):=(hb.cell (p:=⟨g,o+j*2+1,none⟩) hg).trans c1;have s:∀W,Calls prog 66 #[ty] W (Ak ty W):=λW=>Eb ⟨ty.toArray⟩ (by rw[BZ];omega) W;unfold Ak at s;have B1:(0:Int)<=(j:Int):=by omega
   have B0:(j:Int)<(X:Int):=by omega
   have r:=s wr;clear s;generalize RuS.typeOf ty=TY at*;obtain⟨L,B2⟩:=TY;simp only at r E l;have c:=hZ9 E;clear E;generalize FiS.BC B (A.take j)=Q at*;obtain⟨QL,J⟩:∃m,Q.length=m:=⟨_,rfl⟩
   have A1:=hZ9 J;rw[J] at b l⊢;clear J;go_wp2_with fail;refine r.mono ?_;rintro e w4 ⟨rfl,F⟩;have q:=hb.trans (F.mono hb.size);have d1:=Ab c1 F;have d:=b.call F;have N:=hu.call q (aA _);clear r b c0 c1 F hu;by_cases R:L=B
   case neg=>
    have A5:(L==B)=false:=by simpa using R
    rw[aG R,bK] at c;clear l N R;go_wp2_with fail;go_roundw
    case rel=>exact⟨j+1,by omega,by go_num,by rw[c.out];exact d,q⟩
    case measure=>simp[intOf];omega
   have A5:(L==B)=true:=by simpa using R
   rw[aJ R] at c l;have Z:=q.size;clear R;go_wp2_with (at_builtin;refine Nj (by rfl) _ _ (by rfl) w.heap.size _ Q (by rfl) d _ vals (by rfl) N ?e1 ?e2 ?_)
   case e1=>rw[A1.out];omega
   case e2=>exact Z
   intro v5 w5 f S;obtain⟨va,vc,rfl⟩:=f.form;have A4:=q.trans S;have K:Hid (Own w5 w.heap.size (.slice va (Q++vals).length vc) (FiS.BC B (A.take (j+1)))):=hZ9 (by rw[c.out];exact f);clear d f N S q d1 c;go_wp2_with fail;go_roundw
   case rel=>exact⟨j+1,by omega,by go_num,K.out,A4⟩
   case measure=>simp[intOf];omega
  ·have A6:j=X:=by omega
   subst A6;have K:=hZ9 b;clear O C M z b V;go_wp2_with fail;go_ret;exact⟨_,rfl,by
    have h:=K.out;have e:A.take j=A:=I.out;rw[e] at h;exact(by rw[e];exact h:Own wr w.heap.size (.slice oa (FiS.BC B (A.take j)).length oc) (FiS.BC B A)),hb⟩
end
