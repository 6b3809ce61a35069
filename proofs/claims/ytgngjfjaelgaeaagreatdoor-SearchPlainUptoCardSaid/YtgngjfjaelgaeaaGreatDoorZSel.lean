/- The walk of search.Select. Conditions: as stated. -/
import Derived.Test.YtgngjfjaelgaeaaGreatDoorZSeb
set_option maxRecDepth 100000
set_option maxHeartbeats 8000000
namespace Go.Proofs.YtgngjfjaelgaeaaGreatDoor
open Go.Proofs.Tryz
variable {Ts:List TypeId} {B C k:Nat} {T:TypeId} {v:Value} {w:World}
open Go.RowKit
attribute [local go_sem ↓] Go.wp_at_zero Go.wp_at_succ
theorem TN(l:iK):(RuS.typeOf l).2≠0↔(RuS.typeOf l).1≠[]:=by
 unfold RuS.typeOf RuS.typeM;split
 ·rename_i r h;have:=RuS.tab_all r (dP h);constructor
  ·intro _ e;rw[e] at this;simp at this
  ·intro _;omega
 ·simp
theorem AfY(l:iK):(RuS.typeOf l).1.length<=17:=by
 unfold RuS.typeOf RuS.typeM;split
 ·rename_i r h;exact(RuS.tab_all r (dP h)).2.2.1
 ·exact aR _
def EF(at_:List iK):iK->Option Value:=λs=>if at_.any (λx=>(RuS.typeOf x).1 !=[]&&(RuS.typeOf x).1==s) then some (.bool true) else none
theorem AeB{at_:List iK}(hk:k<at_.length)(h:(RuS.typeOf (at_[k]'hk)).2≠0):PT (EF (at_.take k)) (RuS.typeOf (at_[k]'hk)).1 (.bool true)=EF (at_.take (k+1)):=by
 have h1:=(TN _).1 h;funext s;unfold PT EF;rw[aW hk,List.any_append];simp only[List.any_cons,List.any_nil,fJ];generalize RuS.typeOf at_[k]=t at*;by_cases a:s=t.1
 ·subst a;simp[h1]
 ·rw[aG a];have h2:(t.1==s)=false:=by simpa using λe=>a e.symm
  simp[h2]
theorem AfZ{at_:List iK}(hk:k<at_.length)(h:(RuS.typeOf (at_[k]'hk)).2=0):EF (at_.take (k+1))=EF (at_.take k):=by have h1:(RuS.typeOf (at_[k]'hk)).1=[]:=fX λa=>(TN _).2 a h;funext s;unfold EF;rw[aW hk,List.any_append];simp only[List.any_cons,List.any_nil,fJ];generalize RuS.typeOf at_[k]=t at*;simp[h1]
theorem AeC(at_:List iK)(s:iK):(EF at_ s).getD (.bool false)=.bool (EF at_ s).isSome:=by unfold EF;split<;>rfl
theorem Adl{α:Type}(p q:α->Bool):∀l:List α,l.any (λx=>p x||q x)=(l.any p||l.any q)
 |[]=>rfl
 |x :: l=>by rw[List.any_cons,List.any_cons,List.any_cons,Adl p q l];cases p x<;>cases q x<;>simp
theorem Aga(at_:List iK)(a:EnS.At):SeS.Ip at_ a=((at_.isEmpty||at_.contains [42])||(EF at_ a.typ).isSome):=by
 unfold SeS.Ip EF;rw[Adl,gA];have e:at_.any (λx=>x==[42])=at_.any (λx=>[42]==x):=by congr 1;funext x;exact BEq.comm
 rw[e,Bool.or_assoc];congr 2;cases at_.any (λx=>(RuS.typeOf x).1 !=[]&&(RuS.typeOf x).1==a.typ)<;>rfl
theorem Xf{α β:Type}{P:α->Bool}{f:α->β}{l:List α}(hk:k<l.length):((l.take (k+1)).filter P).map f=if P (l[k]'hk)=true then((l.take k).filter P).map f++[f (l[k]'hk)] else((l.take k).filter P).map f:=by
 cases h:P (l[k]'hk) with
 |true=>rw[LW hk h,bQ,aJ rfl];rfl
 |false=>rw[Ol hk h,aG (by simp)]
theorem Ao.lt{α:Type}{L:KLay α}{xs:List α}(h:Ao L T Ts C w B v xs)(hk:v.ownBlock=some k):k<w.heap.size:=by obtain⟨a,h1,_⟩:=h;exact(World.ownsRow.lt h1 k hk).2
theorem Ao.cells{α:Type}{L:KLay α}{xs:List α}(h:Ao L T Ts C w B v xs)(hk:some k=v.ownBlock):∃cur,w.heap[k]?=some (.cells cur T (0,0)):=by
 obtain⟨b,h1,_⟩:=h;rcases h1.2 with⟨rfl,_⟩|⟨g,cap,cur,rfl,_,a,_⟩
 ·cases hk
 ·cases hk;exact⟨cur,a⟩
theorem IJ(g:Nat)(i:Nat)(v:Value):w.grownBy (w.setCell ⟨g,i,none⟩ v) (some g):=
 ⟨rfl,rfl,rfl,cu (World.size_setCell ..).symm,λk _ a=>Below.heap_setCell w ⟨g,i,none⟩ v k (λe=>a (by rw[e]))⟩
theorem Ao.far{α:Type}{L:KLay α}{xs:List α}(h:Ao L T Ts C w B v xs){g:Nat}{d:TypeId}{cs:Array Value}(f:Whole w g d cs)(o:C<=g)(l:d∉Ts)(c:v.ownBlock≠some g)(i:Nat)(y:Value):Ao L T Ts C (w.setCell ⟨g,i,none⟩ y) B v xs:=by
 obtain⟨n,h1,h2,h3⟩:=h;have hk:∀k,okT Ts C w k->k≠g:=λk a e=>by
  subst e;rcases a with a|⟨m,T2,fz,hc,b⟩
  ·omega
  ·unfold Whole at f;rw[f] at hc;cases hc;exact l b
 refine⟨n,h1.kept (IJ g i y) (.inr c),h2,λj u x hu hx=>?_⟩;exact L.keep (h3 j u x hu hx) (cu (World.size_setCell ..).symm) (λk _ a=>Below.heap_setCell w ⟨g,i,none⟩ y k (hk k a)) (λk _ a=>a.same (Below.heap_setCell w ⟨g,i,none⟩ y k (hk k a)))
theorem Am.far{u:Value}{vs:List iK}(h:Am (okT Ts C w) w u vs){g:Nat}{c:TypeId}{cs:Array Value}(d:Whole w g c cs)(l:C<=g)(f:c∉Ts)(i:Nat)(y:Value):Am (okT Ts C (w.setCell ⟨g,i,none⟩ y)) (w.setCell ⟨g,i,none⟩ y) u vs:=by
 have hk:∀k,okT Ts C w k->k≠g:=λk a e=>by
  subst e;rcases a with a|⟨j,T2,fz,hc,b⟩
  ·omega
  ·unfold Whole at d;rw[d] at hc;cases hc;exact f b
 exact Am.keep h (cu (World.size_setCell ..).symm) (λk _ a=>Below.heap_setCell w ⟨g,i,none⟩ y k (hk k a)) (λk _ a=>a.same (Below.heap_setCell w ⟨g,i,none⟩ y k (hk k a)))
theorem AeD(w:World):(zeroValue 4).run prog w=.ok (.bool false) w:=by kernel_rfl
theorem Rf(n:Nat)(q:SeS.Rq)(rv:Value)(C:Nat)(name:iK)(xs:List EnS.At)(u:Value)(w:World)(hC:C<=w.heap.size)(h:Eg [9] C w u xs)(hf:GZ xs)(ht:∀x∈xs,x.typ.length<=1048576)(hq:FI n w rv q)(I1:q.attrs.length<=1048576/\∀s∈q.attrs,s.length<=1048576):
  Calls prog 18 #[.agg #[name,u],rv] w (Jj C name (SeS.DN q.attrs q.tonly ⟨name,xs⟩).attrs w):=by
 obtain⟨a5,a6,aa,c5,c6,ca,rfl,_,E0⟩:=hq;obtain⟨bs,sc,dr,x,at_,E,sz⟩:=q;simp only at E0 I1⊢;generalize x.any.length=XL at*;generalize x.parts.length=PL at*;generalize x.kind=kd at*;generalize x.attr=at0 at*;generalize x.value=vl at*;generalize x.first=fs at*;generalize x.last=ls at*;obtain⟨D0,D1⟩:=I1;have F4:=hZ9 (λk (hk:k<at_.length)=>D1 _ (aZ hk));obtain⟨a,c,rfl,hc,I5⟩:=Ad.at h;have F3:=hZ9 I5;have F8:=hZ9 (λk (hk:k<xs.length)=>ht _ (aZ hk));have H9:=hZ9 (show GZ (SeS.DN at_ E ⟨name,xs⟩).attrs from⟨by
   unfold SeS.DN;rw[b9];exact aX (bJ _ _) hf.1,λy hy=>by
   unfold SeS.DN at hy;obtain⟨z,hz,rfl⟩:=bG.1 hy;have h2:=hf.2 z (cf.1 hz).1;split
   ·exact⟨aR _,λv hv=>by cases hv⟩
   ·exact h2⟩)
 have A3:Hid ((SeS.DN at_ E ⟨name,xs⟩).attrs=(xs.filter (SeS.Ip at_)).map (λa=>if E=true then ⟨a.typ,[]⟩ else a)):=hZ9 rfl;have U:=hZ9 (λk (hk:k<xs.length)=>Xf (P:=SeS.Ip at_) (f:=λa=>if E=true then ⟨a.typ,[]⟩ else a) hk);have I2:=hZ9 (λk=>show (((xs.take k).filter (SeS.Ip at_)).map (λa=>if E=true then ⟨a.typ,[]⟩ else a)).length<=1048576 from by
  rw[b9];exact aX (bJ _ _) (aX (by rw[ar];omega) hf.1))
 have F:=hZ9 (λa=>Aga at_ a);have K9:xs.length<=1048576:=hf.1;obtain⟨AL,A7⟩:∃b,(at_.isEmpty||at_.contains [42])=b:=⟨_,rfl⟩
 rw[A7] at F;have F6:Hid (∀k (hk:k<at_.length),∃g o,aa=some ⟨g,o,none⟩/\g<w.heap.size/\w.cell? ⟨g,o+k,none⟩=some (Ac (at_[k]'hk))):=hZ9 (λk hk=>by
  obtain⟨a',c',e,_,D3⟩:=E0;injection e with e1 _ _;rcases D3 with hn|⟨g,o,ha,hg,hcell⟩
  ·subst hn;simp at hk
  ·exact⟨g,o,e1.trans ha,hg,hcell k _ (aK hk)⟩)
 have A2:=hZ9 (λk (hk:k<at_.length) h=>AeB hk h);have Z:=hZ9 (λk (hk:k<at_.length) h=>AfZ hk h);have A9:=λW hb=>contains_c _ at_ [42] W (E0.call (B:=w.heap.size) hb (aA _)) D0;have C0:Hid (at_.isEmpty=decide (at_.length=0)):=hZ9 (by cases at_<;>simp);obtain⟨QL,B1⟩:∃n,at_.length=n:=⟨_,rfl⟩
 have G6:Hid (at_.take QL=at_):=hZ9 (by rw[<-B1];exact bA);have D4:=hZ9 B1;have C3:=hZ9 A7;rw[B1] at A9 D0;obtain⟨L,hL⟩:∃n,xs.length=n:=⟨_,rfl⟩
 have HL:=hZ9 hL;have H8:Hid (xs.take L=xs):=hZ9 (by rw[<-hL];exact bA);rw[hL] at hc K9⊢;rw[B1];clear B1 A7 E0 hL h I5 hf ht D1;have I4:=Af w (.cells #[name,.slice a L c] 52);have I3:=Whole.made w 52 #[name,.slice a L c];have E9:=Af (w.alloc (.cells #[name,.slice a L c] 52)) (.cells #[bs,sc,dr,kd,at0,vl,fs,ls,.slice a5 XL c5,.slice a6 PL c6,.slice aa QL ca,E,sz] 38);have D9:=Whole.made (w.alloc (.cells #[name,.slice a L c] 52)) 38 #[bs,sc,dr,kd,at0,vl,fs,ls,.slice a5 XL c5,.slice a6 PL c6,.slice aa QL ca,E,sz];have s1:(w.alloc (.cells #[name,.slice a L c] 52)).heap.size=w.heap.size+1:=by show (w.heap.push _).size=_;exact br _
 rw[s1] at D9;have H:=Aa I4 E9;have S:=I3.call E9;clear I4 E9 I3;obtain⟨W2,F7⟩:∃W,W=(w.alloc (.cells #[name,.slice a L c] 52)).alloc (.cells #[bs,sc,dr,kd,at0,vl,fs,ls,.slice a5 XL c5,.slice a6 PL c6,.slice aa QL ca,E,sz] 38):=⟨_,rfl⟩
 have s2:W2.heap.size=w.heap.size+2:=by
  rw[F7];show (World.heap _ |>.push _).size=_
  rw[br,s1]
 rw[<-F7] at D9 H S;have G:=Af W2 (.cells #[.string ⟨#[]⟩,.slice none 0 0] 52);have B7:=Whole.made W2 52 #[.string ⟨#[]⟩,.slice none 0 0];rw[s2] at B7;have E5:=Aa H G;have E2:=S.call G;have B8:=D9.call G;clear G S D9 H;obtain⟨W3,C7⟩:∃W,W=W2.alloc (.cells #[.string ⟨#[]⟩,.slice none 0 0] 52):=⟨_,rfl⟩
 have s3:W3.heap.size=w.heap.size+3:=by
  rw[C7];show (World.heap _ |>.push _).size=_
  rw[br,s2]
 rw[<-C7] at B7 E5 E2 B8;have A9:=A9 W3 E5;have J:=Dt.made prog 9 W3;have E1:=Af W3 (.map #[] 0);rw[s3] at J;have B5:=E5.trans (E1.mono E5.size);have B0:=E2.call E1;have B4:=B8.call E1;have B9:=B7.call E1;subst C7;subst F7;have H2:=@run_makeMap prog;have E3:=B8.cell 10;simp only[aO,aH,aP] at E3;go_enter func18,ntmps18;go_upto_region 1 with fail;generalize C7:(World.alloc _ (.cells #[.string ⟨#[]⟩,.slice none 0 0] 52))=W3 at*;clear C7;obtain⟨B,hB⟩:∃n,W3.heap.size=n:=⟨_,rfl⟩
 have HB:=hZ9 (hB.symm.trans s3);rw[<-s3,hB] at J;clear s1 s2 s3 H2;have H2:=@run_makeMap prog;go_cut [5] (λv wd=>v=.bool AL/\wd=W3)
 case first=>
  by_cases h0:QL=0
  ·have HP:Hid (true=AL):=hZ9 (by rw[<-C3.out,C0.out,aI (D4.out.trans h0)];rfl);have d0:((QL:Int)==0)=true:=by simpa using h0
   clear C3 C0 A9 h0;go_wp2_with fail;go_meet;exact⟨by(rw[<-HP.out])<;>rfl,rfl⟩
  ·have HP:Hid (at_.contains [42]=AL):=hZ9 (by rw[<-C3.out,C0.out,aB (λe=>h0 (D4.out.symm.trans e))];rfl);have d0:((QL:Int)==0)=false:=by simpa using h0
   clear C3 C0 h0;generalize at_.contains [42]=CB at*;go_wp2_with fail;refine A9.mono ?_;rintro e w1 ⟨rfl,rfl⟩;go_wp2_with fail;go_meet;exact⟨by(rw[<-HP.out])<;>rfl,rfl⟩
 case rest=>
 obtain⟨rfl,E7⟩:=hcut;subst E7;clear A9 C3 C0 E3;have E3:=B4.cell 10;simp only[aO,aH,aP] at E3;go_wp2_with fail;go_loopw [27] (λiv wr=>∃k N:Nat,k<=QL/\iv=.int .i64 k/\N<=k/\Dt prog 9 wr B N (EF (at_.take k))/\Whole wr w.heap.size 52 #[name,.slice a L c]/\Whole wr (w.heap.size+1) 38 #[bs,sc,dr,kd,at0,vl,fs,ls,.slice a5 XL c5,.slice a6 PL c6,.slice aa QL ca,E,sz]/\Whole wr (w.heap.size+2) 52 #[.string ⟨#[]⟩,.slice none 0 0]/\Below w.heap.size w wr) (λiv _=>QL-(intOf iv).toNat)
 case atStart=>exact⟨0,0,aR _,rfl,aA _,J,B0,B4,B9,B5⟩
 case round=>
  obtain⟨k,N,hk,rfl,L8,hm,hw,hr,hz,hb⟩:=hrel;clear J B0 B4 B9 B5;by_cases J6:k<QL
  ·have A:k<at_.length:=by rw[D4.out];exact J6
   obtain⟨g,o,rfl,hg,hcell⟩:=F6.out k A;have c0:=(hb.cell (p:=⟨g,o+k,none⟩) hg).trans hcell;have G8:=A2.out k A;have H6:=Z.out k A;have M0:=F4.out k A;have L0:=AfY (at_[k]'A);clear hcell F6 A2 Z F4;generalize at_[k]=s at*;unfold Ac at c0;have A8:Calls prog 51 #[.string ⟨s.toArray⟩] wr (Ak s wr):=Gx ⟨s.toArray⟩ (by rw[BZ];omega) wr;unfold Ak at A8;have J5:(0:Int)<=(k:Int):=by omega
   have K4:(k:Int)<(QL:Int):=by omega
   have A2:=hZ9 G8;have Z:=hZ9 H6;clear G8 H6;generalize RuS.typeOf s=T at*;obtain⟨T1,T2⟩:=T;simp only at A8 L0;go_wp2_with fail;refine A8.mono ?_;rintro e w2 ⟨rfl,H⟩;have A0:=hm.kept (Bc H) (by simp);have S:=hw.call H;have D7:=hr.call H;have B2:=hz.call H;have F9:=hb.trans (H.mono hb.size);clear hm hw hr hz c0 A8;by_cases h0:T2=0
   ·have d0:(T2 !=0)=false:=by simpa using h0
    have HW:=hZ9 (Z.out h0);clear A2 Z h0;go_wp2_with fail;go_roundw
    case rel=>exact⟨k+1,N,by omega,by go_num,by omega,by rw[HW.out];exact A0,S,D7,B2,F9⟩
    case measure=>simp[intOf];omega
   ·have d0:(T2 !=0)=true:=by simpa using h0
    have HW:=hZ9 (A2.out h0);have M1:=A0.lt;have nw:=DI A0 S;have nr:=DI A0 D7;have nz:=DI A0 B2;obtain⟨w3,L4,I8,G,_⟩:=A0.store (t:=98) underlying9 underlying98 (by unfold maxLen;omega) T1 (by unfold maxLen;omega) (.bool true);have E2:=S.mapped G nw;have B8:=D7.mapped G nr;have B7:=B2.mapped G nz;have K8:=F9.grown G (by have:=F9.size;omega) (λi e=>by have e:=aU e;have:=HB.out;omega);clear A2 Z h0 A0 S D7 B2 nw nr nz;go_wp2_with fail;go_roundw
    case rel=>exact⟨k+1,N+1,by omega,by go_num,by omega,by rw[<-HW.out];exact I8,E2,B8,B7,K8⟩
    case measure=>simp[intOf];omega
  have K3:k=QL:=by omega
  subst K3;have K5:=hZ9 (show EF (at_.take k)=EF at_ by rw[G6.out]);rw[K5.out] at hm;clear F6 A2 Z F4 G6 D4;have G5:Hid (∀s,(EF at_ s).getD (.bool false)=.bool (EF at_ s).isSome):=hZ9 (AeC at_);generalize J3:EF at_=WF at*;clear J3;have q0:=hw.cell 0;simp only[aO,aH] at q0;have hgo:=Af wr (.cells #[name,.slice none 0 0] 52);have H4:=Whole.made wr 52 #[name,.slice none 0 0];have B0:=hw.call hgo;have B4:=hr.call hgo;have B9:=hz.call hgo;have H7:=hm.kept (Bc hgo) (by simp);have B5:=hb.trans (hgo.mono hb.size);have M3:=hz.lt;have q1:=B0.cell 1;simp only[aO,aH,aP] at q1;clear hm hw hr hz hgo;go_wp2_with fail;generalize wr.heap.size=bo at*;go_loopw [47] (λiv wr=>∃(j:Nat) (y:Value),j<=L/\iv=.int .i64 j/\Ao atK 56 [9] C wr w.heap.size y (((xs.take j).filter (SeS.Ip at_)).map (λa=>if E=true then ⟨a.typ,[]⟩ else a))/\Whole wr bo 52 #[name,y]/\Whole wr w.heap.size 52 #[name,.slice a L c]/\Whole wr (w.heap.size+1) 38 #[bs,sc,dr,kd,at0,vl,fs,ls,.slice a5 XL c5,.slice a6 PL c6,.slice aa k ca,E,sz]/\Whole wr (w.heap.size+2) 52 #[.string ⟨#[]⟩,.slice none 0 0]/\Dt prog 9 wr B N WF/\Below w.heap.size w wr) (λiv _=>L-(intOf iv).toNat)
  case atStart=>exact⟨0,_,aR _,rfl,Ao.empty _ _ _ _ _ _,H4,B0,B4,B9,H7,B5⟩
  case round=>
   obtain⟨j,y,hj,rfl,m,ho,hw,hr,hz,hm,hb⟩:=hrel;obtain⟨ya,yc,rfl⟩:=m.form;clear B5 H4 B0 B4 B9 H7 q0 q1;have L1:=I2.out j;by_cases A:j<L
   ·have D5:j<xs.length:=by rw[HL.out];exact A
    obtain⟨g,o,rfl,hg,_,hra⟩:=F3.out j D5;obtain⟨c0,a2,p2,c1,L3,hu⟩:=BG.partsT (BG.callE hra hg hb);have A8:=F8.out j D5;have D6:=hZ9 (U.out j D5);have E6:=F.out (xs[j]'D5);clear hra F3 F8 U F A3 H9;generalize xs[j]=z at*;obtain⟨ty,vals⟩:=z;simp only at c0 c1 L3 hu A8 E6;generalize hQ:((xs.take j).filter (SeS.Ip at_)).map (λa=>if E=true then ⟨a.typ,[]⟩ else a)=Q at*;clear hQ;have F:=hZ9 E6;clear E6;have J5:(0:Int)<=(j:Int):=by omega
    have K4:(j:Int)<(L:Int):=by omega
    generalize L7:vals.length=VL at*;have K:=Af wr (.cells #[ty,.slice a2 VL p2] 56);have I:=Whole.made wr 56 #[ty,.slice a2 VL p2];have C1:=hb.trans (K.mono hb.size);have r:=m.call K;have M:=ho.call K;have C8:=hw.call K;have C9:=hr.call K;have C2:=hz.call K;have A1:=hm.kept (Bc K) (by simp);have E8:=Am.callT hu K;have J8:∀i,(Value.slice ya Q.length yc).ownBlock=some i->i<wr.heap.size:=λi e=>m.lt e;have H0:=(A1.look (t:=98) underlying9 underlying98 (AeD _) ty (by unfold maxLen;omega)).2;rw[G5.out] at H0;generalize (WF ty).isSome=D at*;have d0:=I.cell 0;have d1:=I.cell 1;have H5:=C9.cell 11;simp only[aO,aH,aP] at d0 d1 H5;have L6:=I.lt;have M2:=ho.lt;clear m ho hw hr hz hm hu;go_upto_region 14 with fail;generalize J7:wr.alloc (.cells #[ty,.slice a2 VL p2] 56)=wA at*;clear J7;generalize wr.heap.size=ab at*;go_cut [59] (λv wd=>v=.bool (!(AL||D))/\wd=wA)
    case first=>
     cases AL with
     |true=>go_wp2_with fail;go_meet;exact⟨by first|rfl|simp,rfl⟩
     |false=>go_wp2_with fail;go_meet;exact⟨by first|rfl|simp,rfl⟩
    case rest=>
    obtain⟨rfl,E7⟩:=hcut;subst E7;obtain⟨w6,rfl⟩:∃x,x=wc:=⟨_,rfl⟩
    clear H0;obtain⟨PX,F1⟩:∃b,(AL||D)=b:=⟨_,rfl⟩
    rw[F1] at F;rw[F1];clear F1;cases PX with
    |false=>
     have C6:=hZ9 (D6.out.trans (aG (by rw[F.out];simp)));clear D6 F;go_wp2_with fail;go_roundw
     case rel=>exact⟨j+1,_,by omega,by go_num,by rw[C6.out];exact r,M,C8,C9,C2,A1,C1⟩
     case measure=>simp[intOf];omega
    |true=>
     have C6:=hZ9 (D6.out.trans (aJ F.out));simp only at C6;clear D6 F;obtain⟨V,hV⟩:∃V,(if E=true then [] else vals)=V:=⟨_,rfl⟩
     have F0:=hZ9 (C6.out.trans (show Q++[if E=true then(⟨ty,[]⟩:EnS.At) else ⟨ty,vals⟩]=Q++[⟨ty,V⟩] by rw[<-hV];cases E<;>rfl));clear C6;have HV:=hZ9 hV;clear hV;generalize B1:Q.length=QN at*
     go_upto_if 61 with fail
     go_cut [61] (λv wd=>v=.bool E/\∃u,Whole wd ab 56 #[ty,u]/\Am (okT [9] C wd) wd u V/\Ao atK 56 [9] C wd w.heap.size (.slice ya QN yc) Q/\Whole wd bo 52 #[name,.slice ya QN yc]/\Whole wd w.heap.size 52 #[name,.slice (some ⟨g,o,none⟩) L c]/\Whole wd (w.heap.size+1) 38 #[bs,sc,dr,kd,at0,vl,fs,ls,.slice a5 XL c5,.slice a6 PL c6,.slice aa k ca,E,sz]/\Whole wd (w.heap.size+2) 52 #[.string ⟨#[]⟩,.slice none 0 0]/\Dt prog 9 wd B N WF/\Below w.heap.size w wd)
     case first=>
      clear F0;cases E with
      |false=>have F2:Hid (vals=V):=hZ9 (by rw[<-HV.out];rfl);clear HV;go_wp2_with fail;go_meet;exact⟨rfl,_,I,by rw[<-F2.out];exact E8,r,M,C8,C9,C2,A1,C1⟩
      |true=>have F2:Hid ([]=V):=hZ9 (by rw[<-HV.out];rfl);clear HV;have t1:=I.thaw 1;have C4:=I.put 1 (.slice none 0 0);have G1:=DI A1 I;have F5:=A1.kept (IJ ab 1 (.slice none 0 0)) (λe=>G1 (aU e).symm);have Y:=r.far I (by omega) (by decide) (λe=>by have:=J8 _ e;omega) 1 (.slice none 0 0);have X:=M.other (p:=⟨ab,1,none⟩) (by show bo≠ab;omega) (.slice none 0 0);have A4:=C8.other (p:=⟨ab,1,none⟩) (by show w.heap.size≠ab;omega) (.slice none 0 0);have A5:=C9.other (p:=⟨ab,1,none⟩) (by show w.heap.size+1≠ab;omega) (.slice none 0 0);have A6:=C2.other (p:=⟨ab,1,none⟩) (by show w.heap.size+2≠ab;omega) (.slice none 0 0);have B3:=C1.setCell (p:=⟨ab,1,none⟩) (by show w.heap.size<=ab;omega) (.slice none 0 0);simp only[aF,aQ,aL] at C4;clear E8 r M C8 C2 A1 C1;go_wp2_with fail;go_meet;exact⟨rfl,_,C4,by rw[<-F2.out];exact Ad.nil _ _,Y,X,A4,A5,A6,F5,B3⟩
     case rest=>
     obtain⟨rfl,u,C4,I7,Y,X,A4,A5,A6,F5,B3⟩:=hcut;obtain⟨w7,rfl⟩:∃x,x=wc:=⟨_,rfl⟩
     clear HV E8 r M C8 C9 C2 A1 C1 d0 d1 H5 I;obtain⟨a3,p3,rfl,_⟩:=Ad.form I7;generalize L5:V.length=VN at*;have e1:=X.cell 1;have f0:=C4.cell 0;have f1:=C4.cell 1;simp only[aO,aH,aP] at e1 f0 f1;have O:=Af w7 (.cells #[ty,.slice a3 VN p3] 56);have I0:=Whole.made w7 56 #[ty,.slice a3 VN p3];have I6:=B3.trans (O.mono B3.size);have l:=Y.call O;have J4:=Am.callT I7 O;have b0:=I0.cell 0;have b1:=I0.cell 1;have G2:=I6.size;simp only[aO,aH,aP] at b0 b1;obtain⟨i0,hi,I9,K2,B2⟩:=info_parts Pi;go_wp2_with (at_builtin;refine NE atK 56 50 [9] (by decide) underlying50 hi I9 K2 B2 (by rfl) (by rfl) _ _ (by rfl) w.heap.size hC _ Q (by rfl) l w7.heap.size (by rfl) ⟨ty,V⟩ _ b0 b1 J4 (by omega) G2 ?_)
     intro v8 w8 d D8 C5;have B6:=(X.call O).grown l (by decide) C5;have J2:=(A4.call O).grown l (by decide) C5;have K1:=(A5.call O).grown l (by decide) C5;have R:=(A6.call O).grown l (by decide) C5;have G9:=F5.kept (Bc O) (by simp);have H3:=G9.kept C5 (λe=>by obtain⟨cur,hc⟩:=l.cells e;exact DI G9 hc rfl);rw[<-F0.out] at d;obtain⟨yb,yd,rfl⟩:=d.form;generalize H1:(((xs.take (j+1)).filter (SeS.Ip at_)).map (λa=>if E=true then ⟨a.typ,[]⟩ else a))=Q2 at*;have K7:=hZ9 H1;clear H1 F0;generalize L9:Q2.length=N1 at*;have tq:=B6.thaw 1;have tz:=B6.cell 1;simp only[aO,aH,aP] at tz;have G4:=B6.put 1 (.slice yb N1 yd);have D2:=d.other B6 (by omega) (by decide) (by decide) 1 (.slice yb N1 yd);have J9:=J2.other (p:=⟨bo,1,none⟩) (by show w.heap.size≠bo;omega) (.slice yb N1 yd);have K6:=K1.other (p:=⟨bo,1,none⟩) (by show w.heap.size+1≠bo;omega) (.slice yb N1 yd);have J0:=R.other (p:=⟨bo,1,none⟩) (by show w.heap.size+2≠bo;omega) (.slice yb N1 yd);have G0:=DI H3 B6;have J1:=H3.kept (IJ bo 1 (.slice yb N1 yd)) (λe=>G0 (aU e).symm);have E4:=(I6.trans D8).setCell (p:=⟨bo,1,none⟩) (by show w.heap.size<=bo;omega) (.slice yb N1 yd);simp only[aF,aQ,aL] at G4;go_wp2_with fail;go_roundw
     case rel=>exact⟨j+1,_,by omega,by go_num,by rw[K7.out];exact D2,G4,J9,K6,J0,J1,E4⟩
     case measure=>simp[intOf];omega
   ·have K0:j=L:=by omega
    subst K0;have G7:=hZ9 (show ((xs.take j).filter (SeS.Ip at_)).map (λa=>if E=true then ⟨a.typ,[]⟩ else a)=(SeS.DN at_ E ⟨name,xs⟩).attrs by rw[H8.out,A3.out]);rw[G7.out] at m ho;clear G7 A3 F3 F8 U F H8 G5 hm L1 I2;generalize (SeS.DN at_ E ⟨name,xs⟩).attrs=SA at*;have G3:=UX C name SA _ wr (aX hC hb.size) m.attrsE H9.out;unfold Jj at G3⊢;generalize L2:SA.length=SN at*;have o0:=ho.cell 0;have o1:=ho.cell 1;simp only[aO,aH,aP] at o0 o1;go_wp2_with fail;refine G3.mono ?_;rintro e w8 ⟨u8,rfl,d,D8⟩;have R:=hz.call D8;have B3:=hb.trans (D8.mono hb.size);obtain⟨yb,yd,rfl⟩:=d.form;have d:=d.mono hb.size;rw[L2] at*;have s0:=R.thaw 0;have s1:=R.thaw 1;have t0:=R.cell 0;have t1:=R.cell 1;simp only[aO,aH,aP] at t0 t1;have hA:=R.put 0 (.string ⟨name.toArray⟩);have M:=d.other R (by omega) (by decide) (by decide) 0 (.string ⟨name.toArray⟩);simp only[aF,aL] at hA;have hB:=hA.put 1 (.slice yb SN yd);have X:=M.other hA (by omega) (by decide) (by decide) 1 (.slice yb SN yd);simp only[aF,aQ,aL] at hB;have E4:=(B3.setCell (p:=⟨w.heap.size+2,0,none⟩) (by show w.heap.size<=w.heap.size+2;omega) (.string ⟨name.toArray⟩)).setCell (p:=⟨w.heap.size+2,1,none⟩) (by show w.heap.size<=w.heap.size+2;omega) (.slice yb SN yd);have y0:=hB.cell 0;have y1:=hB.cell 1;simp only[aO,aH,aP] at y0 y1;go_wp2_with fail
    (try simp only[Exit.inBlock,Exit.then])
    refine bodyPost_ret (v:=.agg #[name,.slice yb SN yd]) ?_ rfl ⟨_,rfl,X,E4⟩;clear hA M hB X E4 m ho hw hr hz hb;generalize (w8.setCell ⟨w.heap.size+2,0,none⟩ (.string ⟨name.toArray⟩)).setCell ⟨w.heap.size+2,1,none⟩ (.slice yb SN yd)=wf at*;rw[BO rfl];go_simp
