/- The walk of the document's leaf of a filter. Conditions: as stated. -/
import Derived.Test.YtgngjfjaelgaeaaGreatDoorZFjc
set_option maxRecDepth 100000
set_option maxHeartbeats 16000000
namespace Go.Proofs.YtgngjfjaelgaeaaGreatDoor
open Go.Proofs.Tryz
section
open Go.RowKit
open FiS (Fi)
attribute [local go_sem ↓] Go.wp_at_zero Go.wp_at_succ
theorem AdT{L:List iK}{P:iK->Bool}(h:∀y,P y=true):L.any P=decide (0<L.length):=by
 cases L with
 |nil=>rfl
 |cons y r=>simp[h y]
theorem AbJ{L:List iK}{P:iK->Bool}(h:∀t (a:t<L.length),P (L[t]'a)=false):L.any P=false:=by rw[fO];intro x hx;obtain⟨t,a,rfl⟩:=bc.1 hx;rw[h t a];simp
theorem Afw{L:List iK}{P:iK->Bool}{t:Nat}(a:t<L.length)(h:P (L[t]'a)=true):L.any P=true:=dx.2 ⟨_,aZ a,h⟩
theorem ZT(n:Nat)(x:Fi)(v u:Value)(A:List EnS.At)(w:World)(h:BF n w v x)(C0:FiS.wdF 20000 x)(hA:BA w u A)(hf:KC A)(B5:EnS.Av (λa=>a.vals.length) A<=1048576)(hE:Env w):Calls prog 84 #[v,u] w (Gq (FiS.Dx A x.kind x.attr x.value x.first x.last x.any) w):=by
 have hsz:x.attr.length<=20000/\x.value.length<=20000:=by cases x;rw[FiS.wdF] at C0;exact⟨C0.1.1,C0.1.2.1⟩
 have K:Hid (∀(t:iK) (W:World),x.kind≠4->BF n W v x->t.length<=1000000->Env W->Calls prog 123 #[v,.string ⟨t.toArray⟩] W (AP (FiS.CX x.kind x.attr x.value x.first x.last x.any t) W)):=hZ9 (λt W hk h H hE=>Vs n x v t W hk h C0 H hE);have A4:Hid (∀s W,(RuS.typeOf x.attr).2=1->BF n W v x->s.length<=20000->Calls prog 122 #[v,.string ⟨s.toArray⟩,true] W (AP (FiS.AH (FiS.Ag (RuS.typeOf x.attr).2 x.first) (FiS.Ag (RuS.typeOf x.attr).2 x.last) (x.any.map (FiS.Ag (RuS.typeOf x.attr).2)) s) W)):=hZ9 (λs W hs h hl=>Rn n x v s _ hs W h C0 hl);have A2:Hid (∀s W,(RuS.typeOf x.attr).2≠1->BF n W v x->s.length<=20000->Calls prog 122 #[v,.string ⟨s.toArray⟩,false] W (AP (FiS.AH (FiS.Ag (RuS.typeOf x.attr).2 x.first) (FiS.Ag (RuS.typeOf x.attr).2 x.last) (x.any.map (FiS.Ag (RuS.typeOf x.attr).2)) s) W)):=hZ9 (λs W hs h hl=>Uj n x v s _ hs W h C0 hl);obtain⟨PF,E5⟩:∃f:iK->Bool,(λy=>decide (x.kind=7)||FiS.CX x.kind x.attr x.value x.first x.last x.any y)=f:=⟨_,rfl⟩
 have z:Hid (∀y,PF y=(decide (x.kind=7)||FiS.CX x.kind x.attr x.value x.first x.last x.any y)):=hZ9 (λy=>(congrFun E5 y).symm);have p:Hid (FiS.Dx A x.kind x.attr x.value x.first x.last x.any=if FiS.Jt x.kind x.attr x.value=true then -1 else if(FiS.BC (RuS.typeOf x.attr).1 A).any PF=true then 1 else 0):=hZ9 (by unfold FiS.Dx;rw[<-E5]);obtain⟨R,hR⟩:∃r,FiS.Dx A x.kind x.attr x.value x.first x.last x.any=r:=⟨_,rfl⟩
 rw[hR] at p⊢;clear hR E5;have Z:Hid (x.kind=4->(RuS.typeOf x.attr).2≠5->∀y,FiS.CX x.kind x.attr x.value x.first x.last x.any y=if(RuS.normal x.attr y).2=0 then FiS.AH (FiS.Ag (RuS.typeOf x.attr).2 x.first) (FiS.Ag (RuS.typeOf x.attr).2 x.last) (x.any.map (FiS.Ag (RuS.typeOf x.attr).2)) (RuS.normal x.attr y).1 else false):=hZ9 (λh4 h5 y=>by
  have e:DnS.AC x.attr y=RuS.normal x.attr y:=by unfold DnS.AC;rw[aG h5]
  unfold FiS.CX;rw[e,aJ h4])
 obtain⟨VE,G8⟩:∃f:iK->Bool,(λy=>FiS.CX x.kind x.attr x.value x.first x.last x.any y)=f:=⟨_,rfl⟩
 have D4:∀y,FiS.CX x.kind x.attr x.value x.first x.last x.any y=VE y:=λy=>congrFun G8 y;simp only[D4] at K z Z;clear G8 D4;obtain⟨PC,G6⟩:∃f:iK->Bool,(λs=>FiS.AH (FiS.Ag (RuS.typeOf x.attr).2 x.first) (FiS.Ag (RuS.typeOf x.attr).2 x.last) (x.any.map (FiS.Ag (RuS.typeOf x.attr).2)) s)=f:=⟨_,rfl⟩
 have D5:∀s,FiS.AH (FiS.Ag (RuS.typeOf x.attr).2 x.first) (FiS.Ag (RuS.typeOf x.attr).2 x.last) (x.any.map (FiS.Ag (RuS.typeOf x.attr).2)) s=PC s:=λs=>congrFun G6 s;simp only[D5] at A4 A2 Z;clear G6 D5;have E:Hid (FiS.Jt x.kind x.attr x.value=(decide ((RuS.typeOf x.attr).2=0)||(decide (x.kind=4)&&decide (2<(RuS.typeOf x.attr).2))||((decide (x.kind=5)||decide (x.kind=6))&&(decide ((RuS.typeOf x.attr).2=2)||decide ((RuS.typeOf x.attr).2=5)))||(decide (x.kind≠4)&&decide (x.kind≠7)&&decide ((DnS.AC x.attr x.value).2≠0)))):=hZ9 rfl;have HH:=hZ9 h;obtain⟨a5,c5,a6,c6,hv,_,_,_⟩:=FiV.parts h;have D6:∀W,Calls prog 66 #[x.attr] W (Ak x.attr W):=λW=>Eb ⟨x.attr.toArray⟩ (by rw[BZ];omega) W;have A1:=λW hE=>MP x.attr x.value (by omega) (by omega) W hE;have C3:=λW hA=>ZO A u x.attr W hA hf B5 (by omega);have A0:∀(y:iK) W,y.length<=1000000->Env W->Calls prog 102 #[x.attr,.string ⟨y.toArray⟩] W (AX x.attr y W):=λy W hy hE=>Fq ⟨x.attr.toArray⟩ ⟨y.toArray⟩ (by rw[BZ];omega) (by rw[BZ];omega) W hE;have A9:Hid (∀y,(RuS.normal x.attr y).1.length<=20000):=hZ9 (λy=>aX (RuS.normal_len x.attr y) (by decide));have F:Hid (∀y∈FiS.BC (RuS.typeOf x.attr).1 A,y.length<=1000000):=hZ9 (λy hy=>by
  obtain⟨a,ha,_,h2⟩:=FiS.IY.1 hy;exact(hf.1.2 a ha).2 y h2)
 unfold Ak at D6;unfold Bo at A1;unfold AX at A0;obtain⟨B,hB⟩:∃b,FiS.Jt x.kind x.attr x.value=b:=⟨_,rfl⟩
 rw[hB] at E p;have H9:=hf.1.1;have F5:(FiS.BC (RuS.typeOf x.attr).1 A).length<=1048576:=aX (FiS.Lp _ A) B5;clear hB h hsz hf B5;generalize DnS.AC x.attr x.value=DV at*;generalize RuS.typeOf x.attr=TT at*;obtain⟨Tn,sy⟩:=TT;obtain⟨D1,D2⟩:=DV;simp only at D6 A1 C3 E p Z A4 A2 F F5;obtain⟨L,hL⟩:∃l,FiS.BC Tn A=l:=⟨_,rfl⟩
 rw[hL] at C3 p F F5;clear hL;generalize x.any.length=AL at*;generalize x.parts.length=PL at*;generalize x.kind=kd at*;generalize x.attr=at0 at*;generalize x.value=vl at*;generalize x.first=fs at*;generalize x.last=ls at*;subst hv;unfold Gq AP at*;have E6:=Af w (.cells #[kd,at0,vl,fs,ls,.slice a5 AL c5,.slice a6 PL c6] 26);have F9:=Whole.made w 26 #[kd,at0,vl,fs,ls,.slice a5 AL c5,.slice a6 PL c6];obtain⟨X,U,Q,Y,O,S,V⟩:=F9.seven;have E4:=hZ9 hA;obtain⟨aa,ac,rfl,I0⟩:=Ad.form hA;clear hA;have q:=hZ9 (λm (hm:m<L.length) (h:PF (L[m]'hm)=true)=>Afw (P:=PF) hm h);have G:=hZ9 (λh=>@AbJ L PF h);have B6:=hZ9 (λh=>@AdT L PF h);generalize A.length=NA at*;go_enter func84,ntmps84;go_wp2_with fail;refine(D6 _).mono ?_;rintro e w1 ⟨rfl,E9⟩;have C4:=E6.trans (E9.mono E6.size);have G0:=F9.call E9;clear X U Q Y O S V E9 D6 F9 E6;obtain⟨X,U,Q,Y,O,S,V⟩:=G0.seven;by_cases h0:sy=0
 case pos=>have j:Hid (R=-1):=hZ9 (by rw[p.out,E.out];simp[h0]);subst h0;clear p E K A4 A2 z Z q G B6 C3 A0 A1 HH E4 A9 F;go_wp2_with fail;go_ret;exact⟨by(rw[j.out])<;>rfl,C4⟩
 have e0:(sy==0)=false:=by simpa using h0
 have D3:=C3 w1 (Aw.call E4.out C4);clear C3 E4;go_wp2_with fail;refine D3.mono ?_;rintro e w2 ⟨l2,rfl,B3,F3⟩;have I:=C4.trans (F3.mono C4.size);have E2:=G0.call F3;have H2:=hE.below I;obtain⟨la,lc,rfl⟩:=B3.form;obtain⟨_,H1,G7⟩:=Ah.cells B3.strs;have B0:=hZ9 G7;clear D3 X U Q Y O S V G0 F3 C4 B3 G7;obtain⟨LN,E0⟩:∃k,L.length=k:=⟨_,rfl⟩
 have D9:=hZ9 E0;rw[E0] at H1 F5⊢;have B7:Hid ((∀y,PF y=true)->L.any PF=decide (0<LN)):=hZ9 (λh=>by rw[B6.out h,E0]);clear E0 B6;obtain⟨X,U,Q,Y,O,S,V⟩:=E2.seven;by_cases h7:kd=7
 case pos=>
  subst h7;have HB:Hid (B=false):=hZ9 (by rw[E.out];simp[h0]);have j:Hid (R=if 0<LN then 1 else 0):=hZ9 (by rw[p.out,HB.out,B7.out (λy=>by rw[z.out];rfl)];simp);clear p E K A4 A2 z Z q G B7 A0 A1 HH A9 F HB B0;by_cases hl:0<LN
  ·have H8:decide ((0:Int)<(LN:Int))=true:=aI (by omega);have H7:decide (0<LN)=true:=aI hl;have I1:(0:Int)<(LN:Int):=by omega
   have F0:=Qp true w2;have A6:Hid (R=1):=hZ9 (by rw[j.out,aJ hl]);clear j;go_wp2_with fail;refine F0.mono ?_;rintro e w3 ⟨rfl,rfl⟩;go_wp2_with fail;go_ret;exact⟨by(rw[A6.out])<;>rfl,I⟩
  ·have H8:decide ((0:Int)<(LN:Int))=false:=aB (by omega);have H7:decide (0<LN)=false:=aB hl;have F0:=Qp false w2;have A6:Hid (R=0):=hZ9 (by rw[j.out,aG hl]);have H3:LN=0:=by omega
   subst H3;clear j;go_wp2_with fail;refine F0.mono ?_;rintro e w3 ⟨rfl,rfl⟩;go_wp2_with fail;go_ret;exact⟨by(rw[A6.out])<;>rfl,I⟩
 have e7:(kd==7)=false:=by simpa using h7
 clear B7;by_cases h4:kd=4
 case pos=>
  subst h4;by_cases h2:2<sy
  case pos=>have HB:Hid (B=true):=hZ9 (by rw[E.out];simp[h2]);have j:Hid (R=-1):=hZ9 (by rw[p.out,HB.out];rfl);have e2:decide (2<sy)=true:=aI h2;clear p E K A4 A2 z Z q G A0 A1 HH A9 F HB B0;go_wp2_with fail;go_ret;exact⟨by(rw[j.out])<;>rfl,I⟩
  have e2:decide (2<sy)=false:=aB h2;have HB:Hid (B=false):=hZ9 (by rw[E.out];simp[h2,h0]);have j:Hid (R=if L.any PF=true then 1 else 0):=hZ9 (by rw[p.out,HB.out];rfl);have z:Hid (∀y,PF y=if(RuS.normal at0 y).2=0 then PC (RuS.normal at0 y).1 else false):=hZ9 (λy=>by rw[z.out,Z.out rfl (by omega)];rfl);clear p E HB K A1 Z;have D8:Hid (∀s W,BF n W (.agg #[.int .i64 4,at0,vl,fs,ls,.slice a5 AL c5,.slice a6 PL c6]) x->s.length<=20000->Calls prog 122 #[.agg #[.int .i64 4,at0,vl,fs,ls,.slice a5 AL c5,.slice a6 PL c6],.string ⟨s.toArray⟩,.bool (sy==1)] W λe w'=>e=.returned (.bool (PC s))/\Below W.heap.size W w'):=hZ9 (λs W h hl=>by
   by_cases D7:sy=1
   ·have e1:(sy==1)=true:=by simpa using D7
    rw[e1];exact A4.out s W D7 h hl
   ·have e1:(sy==1)=false:=by simpa using D7
    rw[e1];exact A2.out s W D7 h hl)
  clear A4 A2;go_wp2_with fail;clear X U Q Y O S V;go_loopw [40] (λi wr=>∃m:Nat,m<=LN/\i=.int .i64 m/\Whole wr w.heap.size 26 #[.int .i64 4,at0,vl,fs,ls,.slice a5 AL c5,.slice a6 PL c6]/\Below w2.heap.size w2 wr/\Hid (∀t (H:t<L.length),t<m->PF (L[t]'H)=false)) (λi _=>LN-(intOf i).toNat)
  case atStart=>exact⟨0,aR _,rfl,E2,Below.refl _ _,hZ9 (λt H h=>absurd h (bj _))⟩
  case round=>
   obtain⟨m,hm,rfl,hw,hb,HV⟩:=hrel;by_cases B4:m<LN
   case neg=>
    have E3:Hid (R=0):=hZ9 (by rw[j.out,G.out (λt H=>HV.out t H (by rw[D9.out] at H;omega))];simp);have F2:m=LN:=by omega
    subst F2;clear B0 F q G j HV D8 A9 z HH A0;go_wp2_with fail;go_ret;exact⟨by(rw[E3.out])<;>rfl,I.trans (hb.mono I.size)⟩
   have d:m<L.length:=by rw[D9.out];exact B4
   obtain⟨g,o,E7,hg,C9⟩:=B0.out m _ (aK d);subst E7;have y0:=Ab C9 hb.drew;have G2:=F.out _ (aZ d);have A3:Hid (PF (L[m]'d)=true->R=1):=hZ9 (λh=>by rw[j.out,q.out m d h];rfl);have T:Hid (PF (L[m]'d)=false->∀t (H:t<L.length),t<m+1->PF (L[t]'H)=false):=hZ9 (λh t H F1=>by
    rcases bV (bX F1) with h2|rfl
    ·exact HV.out t H h2
    ·exact h)
   have A5:=hZ9 (z.out (L[m]'d));clear C9 HV q G F j B0;generalize L[m]=y at*;unfold Ac at y0;have H0:(0:Int)<=(m:Int):=by omega
   have G9:(m:Int)<(LN:Int):=by omega
   have C5:=I.trans (hb.mono I.size);have A7:=hw.drew;have B1:=hb.drew;obtain⟨X,U,Q,Y,O,S,V⟩:=A7.seven;have J:Below w.heap.size w wr.drew:=C5.drew;have B2:=A0 y wr.drew G2 (hE.below J);have F7:=A9.out y;clear A0 A9 z;generalize RuS.normal at0 y=NY at*;obtain⟨N1,N2⟩:=NY;simp only at B2 F7 A5;go_wp2_with fail
   go_region_held3 (λW=>W.cell? ⟨w.heap.size,0,none⟩=some (.int .i64 4)/\W.cell? ⟨w.heap.size,1,none⟩=some (.string ⟨at0.toArray⟩)/\W.cell? ⟨w.heap.size,2,none⟩=some (.string ⟨vl.toArray⟩)/\W.cell? ⟨w.heap.size,3,none⟩=some (.string ⟨fs.toArray⟩)/\W.cell? ⟨w.heap.size,4,none⟩=some (.string ⟨ls.toArray⟩)/\W.cell? ⟨w.heap.size,5,none⟩=some (.slice a5 AL c5)/\W.cell? ⟨w.heap.size,6,none⟩=some (.slice a6 PL c6)/\W.cell? ⟨g,o+m,none⟩=some (.string ⟨y.toArray⟩)) (first|exact⟨X,U,Q,Y,O,S,V,y0⟩|exact⟨Ab X c,Ab U c,Ab Q c,Ab Y c,Ab O c,Ab S c,Ab V c,Ab y0 c⟩)
    (first|(go_at_call 102;(with_reducible refine B2.mono ?_);rintro e w5 ⟨rfl,c⟩))
   all_goals(
    have B9:=B1.trans (c.mono B1.size);have C1:=A7.call c;have M:=J.trans (c.mono J.size);clear X U Q Y O S V y0 B2 A7 B1 c hw hb C5 J)
   by_cases E1:N2=0
   case neg=>
    have en:(N2==0)=false:=by simpa using E1
    have C6:=hZ9 (T.out (by rw[A5.out,aG E1]));clear T A3 A5 D8 HH E1;go_wp2_with fail;go_roundw
    case rel=>exact⟨m+1,by omega,by go_num,C1,B9,C6⟩
    case measure=>simp[intOf];omega
   subst E1;have C:Hid (PF y=PC N1):=hZ9 (by rw[A5.out,aJ rfl]);have C7:=D8.out N1 w5 (HH.out.call M) F7;clear A5 D8 HH F7;obtain⟨pb,G3⟩:∃b,PC N1=b:=⟨_,rfl⟩
   rw[G3] at C7 C;clear G3;obtain⟨X,U,Q,Y,O,S,V⟩:=C1.seven;cases pb with
   |true=>have A6:=hZ9 (A3.out C.out);clear A3 T C;go_wp2_with fail;refine C7.mono ?_;rintro e w6 ⟨rfl,A8⟩;have F4:=M.trans (A8.mono M.size);clear C7 X U Q Y O S V;go_wp2_with fail;go_ret;exact⟨by(rw[A6.out])<;>rfl,F4⟩
   |false=>
    have C6:=hZ9 (T.out C.out);clear A3 T C;go_wp2_with fail;refine C7.mono ?_;rintro e w6 ⟨rfl,A8⟩;have F4:=B9.trans (A8.mono B9.size);have H4:=C1.call A8;clear C7 X U Q Y O S V C1 A8 B9 M;go_wp2_with fail;go_roundw
    case rel=>exact⟨m+1,by omega,by go_num,H4,F4,C6⟩
    case measure=>simp[intOf];omega
 have e4:(kd==4)=false:=by simpa using h4
 have D0:=A1 w2 H2;clear A1 Z A4 A2 A0 A9;go_wp2_with fail;refine D0.mono ?_;rintro e w3 ⟨rfl,C8⟩;have B8:=I.trans (C8.mono I.size);have G5:=E2.call C8;have N:Hid (∀(k:Nat) (y:iK),L[k]?=some y->∃g o,la=some ⟨g,o,none⟩/\g<w3.heap.size/\w3.cell? ⟨g,o+k,none⟩=some (Ac y)):=hZ9 (λk y hy=>by
  obtain⟨g,o,h1,h2,h3⟩:=B0.out k y hy;exact⟨g,o,h1,ae h2 C8.size,Ab h3 C8⟩)
 clear B0 D0 X U Q Y O S V E2 C8 I;obtain⟨X,U,Q,Y,O,S,V⟩:=G5.seven;by_cases hd:D2=0
 case neg=>
  have HB:Hid (B=true):=hZ9 (by rw[E.out];simp[h4,h7,hd]);have j:Hid (R=-1):=hZ9 (by rw[p.out,HB.out];rfl);have ed:(D2 !=0)=true:=by simpa using hd
  clear p E K z q G HH F HB N;go_wp2_with fail;go_ret;exact⟨by(rw[j.out])<;>rfl,B8⟩
 have ed:(D2 !=0)=false:=by simpa using hd
 obtain⟨PQ,F6⟩:∃b,(((kd==5)||(kd==6))&&((sy==2)||(sy==5)))=b:=⟨_,rfl⟩
 have C2:Hid (B=PQ):=hZ9 (by
  rw[E.out,<-F6];have e:(decide (kd=4)&&decide (2<sy))=false:=by rw[aB h4];rfl
  rw[e,aB h0,aB (λh:D2≠0=>h hd),bY,fJ,fK,fK];rfl)
 have G1:=hZ9 F6;clear F6 E;go_upto_region 19 with fail;go_cut [90] (λt wd=>t=.bool PQ/\w3=wd)
 case first=>
  clear p C2 K z q G HH F N;obtain⟨b5,c⟩:∃b,(kd==5)=b:=⟨_,rfl⟩
  obtain⟨b6,A8⟩:∃b,(kd==6)=b:=⟨_,rfl⟩
  obtain⟨c2,H5⟩:∃b,(sy==2)=b:=⟨_,rfl⟩
  obtain⟨c5,H6⟩:∃b,(sy==5)=b:=⟨_,rfl⟩
  rw[c,A8,H5,H6] at G1;cases b5<;>cases b6<;>cases c2<;>cases c5
  all_goals(
   go_wp2_with fail;go_meet;exact⟨by(rw[<-G1.out])<;>rfl,rfl⟩)
 case rest=>
 obtain⟨rfl,rfl⟩:=hcut;clear G1;cases PQ with
 |true=>have j:Hid (R=-1):=hZ9 (by rw[p.out,C2.out];rfl);clear p C2 K z q G HH F N;go_wp2_with fail;go_ret;exact⟨by(rw[j.out])<;>rfl,B8⟩
 |false=>
 have j:Hid (R=if L.any PF=true then 1 else 0):=hZ9 (by rw[p.out,C2.out];rfl);have z:Hid (∀y,PF y=VE y):=hZ9 (λy=>by rw[z.out,aB h7,fK]);have E8:=hZ9 (λt W h H hE=>K.out t W h4 h H hE);clear p C2 K;go_wp2_with fail;clear X U Q Y O S V;go_loopw [93] (λi wr=>∃m:Nat,m<=LN/\i=.int .i64 m/\Whole wr w.heap.size 26 #[kd,at0,vl,fs,ls,.slice a5 AL c5,.slice a6 PL c6]/\Below w3.heap.size w3 wr/\Hid (∀t (H:t<L.length),t<m->PF (L[t]'H)=false)) (λi _=>LN-(intOf i).toNat)
 case atStart=>exact⟨0,aR _,rfl,G5,Below.refl _ _,hZ9 (λt H h=>absurd h (bj _))⟩
 case round=>
  obtain⟨m,hm,rfl,hw,hb,HV⟩:=hrel;by_cases B4:m<LN
  case neg=>
   have E3:Hid (R=0):=hZ9 (by rw[j.out,G.out (λt H=>HV.out t H (by rw[D9.out] at H;omega))];simp);have F2:m=LN:=by omega
   subst F2;clear N F q G j HV E8 z HH;go_wp2_with fail;go_ret;exact⟨by(rw[E3.out])<;>rfl,B8.trans (hb.mono B8.size)⟩
  have d:m<L.length:=by rw[D9.out];exact B4
  obtain⟨g,o,E7,hg,C9⟩:=N.out m _ (aK d);subst E7;have y0:=Ab C9 hb.drew;have G2:=F.out _ (aZ d);have A3:Hid (PF (L[m]'d)=true->R=1):=hZ9 (λh=>by rw[j.out,q.out m d h];rfl);have T:Hid (PF (L[m]'d)=false->∀t (H:t<L.length),t<m+1->PF (L[t]'H)=false):=hZ9 (λh t H F1=>by
   rcases bV (bX F1) with h2|rfl
   ·exact HV.out t H h2
   ·exact h)
  have A5:=hZ9 (z.out (L[m]'d));clear C9 HV q G F j N;generalize L[m]=y at*;unfold Ac at y0;have H0:(0:Int)<=(m:Int):=by omega
  have G9:(m:Int)<(LN:Int):=by omega
  have C5:=B8.trans (hb.mono B8.size);have A7:=hw.drew;have B1:=hb.drew;obtain⟨X,U,Q,Y,O,S,V⟩:=A7.seven;have J:Below w.heap.size w wr.drew:=C5.drew;have F8:=E8.out y wr.drew (HH.out.call J) G2 (hE.below J);have C:Hid (PF y=VE y):=A5;obtain⟨vb,G4⟩:∃b,VE y=b:=⟨_,rfl⟩
  rw[G4] at F8 C;clear G4 E8 z A5 HH;go_wp2_with fail
  go_region_held3 (λW=>W.cell? ⟨w.heap.size,0,none⟩=some (.int .i64 kd)/\W.cell? ⟨w.heap.size,1,none⟩=some (.string ⟨at0.toArray⟩)/\W.cell? ⟨w.heap.size,2,none⟩=some (.string ⟨vl.toArray⟩)/\W.cell? ⟨w.heap.size,3,none⟩=some (.string ⟨fs.toArray⟩)/\W.cell? ⟨w.heap.size,4,none⟩=some (.string ⟨ls.toArray⟩)/\W.cell? ⟨w.heap.size,5,none⟩=some (.slice a5 AL c5)/\W.cell? ⟨w.heap.size,6,none⟩=some (.slice a6 PL c6)/\W.cell? ⟨g,o+m,none⟩=some (.string ⟨y.toArray⟩)) (first|exact⟨X,U,Q,Y,O,S,V,y0⟩|exact⟨Ab X c,Ab U c,Ab Q c,Ab Y c,Ab O c,Ab S c,Ab V c,Ab y0 c⟩)
   (first|(go_at_call 123;(with_reducible refine F8.mono ?_);rintro e w5 ⟨rfl,c⟩))
  all_goals(
   have B9:=B1.trans (c.mono B1.size);have C1:=A7.call c;have M:=J.trans (c.mono J.size);clear X U Q Y O S V y0 F8 A7 B1 c hw hb C5 J)
  cases vb with
  |true=>have A6:=hZ9 (A3.out C.out);clear A3 T C;go_wp2_with fail;go_ret;exact⟨by(rw[A6.out])<;>rfl,M⟩
  |false=>
   have C6:=hZ9 (T.out C.out);clear A3 T C;go_wp2_with fail;go_roundw
   case rel=>exact⟨m+1,by omega,by go_num,C1,B9,C6⟩
   case measure=>simp[intOf];omega
end
section
open Go.RowKit
open FiS (Fi)
attribute [local go_sem ↓] Go.wp_at_zero Go.wp_at_succ
def AdU(A:List EnS.At):Prop:=KC A/\EnS.Av (λa=>a.vals.length) A<=1048576
def ReC(A:List EnS.At)(n:Nat):Prop:=∀(x:Fi) (v u:Value) (w:World),BF n w v x->FiS.wdF 20000 x->FiS.Dm x=true->BA w u A->AdU A->Env w->Calls prog 49 #[v,u] w (Gq (FiS.Az A x) w)
theorem Afx(A:List EnS.At):∀n,ReC A n:=EU (λn IH=>by
 unfold ReC at*;intro x v u w h C0 B3 hA hf hE;have C8:=λW h hA hE=>ZT n x v u A W h C0 hA hf.1 hf.2 hE;have HH:=hZ9 h;obtain⟨kd,q,vl,Y,ls,an,ps⟩:=x;obtain⟨a5,c5,a6,c6,hv,B7,B8,A7⟩:=FiV.parts h;have hv:v=.agg #[kd,q,vl,Y,ls,.slice a5 an.length c5,.slice a6 ps.length c6]:=hv;subst hv;have B7:Ah w (.slice a5 an.length c5) an:=B7;have B8:ps.length<=c6:=B8;have A7:Bl n (λ_=>True) w (.slice a6 ps.length c6) ps:=A7;rw[FiS.wdF] at C0;obtain⟨_,_,_,D0,C6⟩:=C0;have K:=hZ9 (FiS.GX.1 C6);clear C6;rw[FiS.Dm,bC] at B3;obtain⟨J,B4⟩:=B3;have B:=hZ9 (FiS.Po B4);have M:Hid (FiS.Az A (.mk kd q vl Y ls an ps)=if kd=0\/kd=1 then FiS.DT A kd (1-kd) ps else if kd=2 then FiS.notE (FiS.ZQ A ps) else FiS.Dx A kd q vl Y ls an):=hZ9 (by rw[FiS.Az]);obtain⟨R,hR⟩:∃r,FiS.Az A (.mk kd q vl Y ls an ps)=r:=⟨_,rfl⟩
 rw[hR] at M⊢;clear hR;have A0:=hZ9 (λacc j (hj:j<ps.length)=>FiS.Nc (A:=A) (acc:=acc) hj);have s:=hZ9 (λk acc j (hj:j<ps.length) h=>FiS.Lr A k acc ps j hj h);have y:=hZ9 (λk acc h=>@FiS.Nh A k acc ps h);have O:Hid (ps.take ps.length=ps):=hZ9 (bA);obtain⟨AL,A6⟩:∃m,an.length=m:=⟨_,rfl⟩
 obtain⟨N,A1⟩:∃m,ps.length=m:=⟨_,rfl⟩
 have D2:=hZ9 A6;have B0:=hZ9 A1;rw[A6] at B7;rw[A1] at B8 A7
 try rw[A6]
 try rw[A1]
 have P:∀W,BF n W (.agg #[kd,q,vl,Y,ls,.slice a5 AL c5,.slice a6 N c6]) (.mk kd q vl Y ls an ps)->BA W u A->Env W->Calls prog 84 #[.agg #[kd,q,vl,Y,ls,.slice a5 AL c5,.slice a6 N c6],u] W (Gq (FiS.Dx A kd q vl Y ls an) W):=λW h hA hE=>by have:=C8 W (by rw[<-A6,<-A1] at h;exact h) hA hE;rw[<-A6,<-A1];exact this
 rw[A1] at O D0;have HH:Hid (BF n w (.agg #[kd,q,vl,Y,ls,.slice a5 AL c5,.slice a6 N c6]) (.mk kd q vl Y ls an ps)):=hZ9 (by rw[<-A6,<-A1];exact h);have f:=Af w (.cells #[kd,q,vl,Y,ls,.slice a5 AL c5,.slice a6 N c6] 26);have A8:=Whole.made w 26 #[kd,q,vl,Y,ls,.slice a5 AL c5,.slice a6 N c6];have L:=hZ9 (λj (hj:j<ps.length)=>Bl.at A7 j hj);obtain⟨V,q1,T,Z,S,X,U⟩:=A8.seven;have hA0:=Aw.call hA f;have B6:=hE.below f;unfold Gq at*;clear C8 h B7 A7;by_cases C1:kd=0
 ·subst C1;have HR:Hid (R=FiS.DT A 0 1 ps):=hZ9 (by rw[M.out,aJ (by decide)];rfl);clear M P HH J hA0 B6;go_enter func49,ntmps49;go_wp2_with fail;clear V q1 T Z S X U;go_loopw [6,30] (λr i wr=>∃(j:Nat) (b:Bool),j<=N/\i=.int .i64 j/\r=.bool b/\Hid ((if b=true then(-1:Int) else 1)=FiS.DU A 1 (ps.take j)/\∀t (F:t<ps.length),t<j->FiS.Az A (ps[t]'F)≠0)/\Whole wr w.heap.size 26 #[.int .i64 0,q,vl,Y,ls,.slice a5 AL c5,.slice a6 N c6]/\Below w.heap.size w wr) (λ_ i _=>N-(intOf i).toNat)
  case atStart=>exact⟨0,false,aR _,rfl,rfl,hZ9 ⟨rfl,λt F h=>absurd h (bj _)⟩,A8,f⟩
  case round=>
   obtain⟨j,b,hj,rfl,rfl,c,hw,hb⟩:=hrel;clear A8 f;by_cases C2:j<N
   ·have a:j<ps.length:=by rw[B0.out];exact C2
    have A9:=K.out j a;have B2:=B.out j a;have h3:=FiS.Fj A (ps[j]'a);have HS:Hid (FiS.Az A (ps[j]'a)=0->R=0):=hZ9 (λh=>by rw[HR.out];exact s.out 0 _ j a h);have HN:Hid (FiS.Az A (ps[j]'a)≠0->(if FiS.Az A (ps[j]'a)=-1 then -1 else(if b=true then(-1:Int) else 1))=FiS.DU A 1 (ps.take (j+1))/\∀t (F:t<ps.length),t<j+1->FiS.Az A (ps[t]'F)≠0):=hZ9 (λh=>⟨by rw[A0.out _ j a,<-c.out.1],λt F C3=>by
     rcases bV (bX C3) with h2|rfl
     ·exact c.out.2 t F h2
     ·exact h⟩)
    obtain⟨d,rfl,g,o,rfl,I,b5,d5,b6,d6,z,y0,y1,y2,y3,y4,y5,y6⟩:=L.out j a;have z:=z.call hb;have y0:=(hb.cell (p:=⟨g,o+j*7,none⟩) I).trans y0;have y1:=(hb.cell (p:=⟨g,o+j*7+1,none⟩) I).trans y1;have y2:=(hb.cell (p:=⟨g,o+j*7+2,none⟩) I).trans y2;have y3:=(hb.cell (p:=⟨g,o+j*7+3,none⟩) I).trans y3;have y4:=(hb.cell (p:=⟨g,o+j*7+4,none⟩) I).trans y4;have y5:=(hb.cell (p:=⟨g,o+j*7+5,none⟩) I).trans y5;have y6:=(hb.cell (p:=⟨g,o+j*7+6,none⟩) I).trans y6;have l:=λv W h hA hE=>IH d rfl (ps[j]'a) v u W h A9 B2 hA hf hE;clear IH L A0 s y K B c O;generalize ps[j]=p at*;generalize p.any.length=PA at*;generalize p.parts.length=PP at*;obtain⟨E,Q⟩:∃e,FiS.Az A p=e:=⟨_,rfl⟩
    rw[Q] at HS HN h3 l;clear Q;have D1:(0:Int)<=(j:Int):=by omega
    have C9:(j:Int)<(N:Int):=by omega
    have A2:=hb;have A4:=hw;have hc:=l _ _ z (Aw.call hA hb) (hE.below hb);clear l z hw hb;obtain⟨V,q1,T,Z,S,X,U⟩:=A4.seven;go_wp2_with fail;refine hc.mono ?_;rintro e w2 ⟨rfl,G⟩;have H:=A2.trans (G.mono A2.size);have A5:=A4.call G;clear hc y0 y1 y2 y3 y4 y5 y6 V q1 T Z S X U A4 G A2;obtain⟨V,q1,T,Z,S,X,U⟩:=A5.seven;rcases h3 with rfl|rfl|rfl
    ·have hn:=HN.out (by decide);have A3:Hid ((if true=true then(-1:Int) else 1)=FiS.DU A 1 (ps.take (j+1))/\∀t (F:t<ps.length),t<j+1->FiS.Az A (ps[t]'F)≠0):=hZ9 ⟨by rw[<-hn.1];rfl,hn.2⟩;clear HS HN hn;cases b
     all_goals(
      go_wp2_with fail;clear V q1 T Z S X U;go_roundw
      case rel=>exact⟨j+1,_,by omega,by go_num,rfl,A3,A5,H⟩
      case measure=>simp[intOf];omega)
    ·have C:=hZ9 (HS.out rfl);clear HS HN;go_wp2_with fail;go_ret;exact⟨by(rw[C.out])<;>rfl,H⟩
    ·have hn:=HN.out (by decide);have A3:Hid ((if b=true then(-1:Int) else 1)=FiS.DU A 1 (ps.take (j+1))/\∀t (F:t<ps.length),t<j+1->FiS.Az A (ps[t]'F)≠0):=hZ9 ⟨by rw[<-hn.1];rfl,hn.2⟩;clear HS HN hn;cases b
     all_goals(
      go_wp2_with fail;clear V q1 T Z S X U;go_roundw
      case rel=>exact⟨j+1,_,by omega,by go_num,rfl,A3,A5,H⟩
      case measure=>simp[intOf];omega)
   ·have B1:j=N:=by omega
    have C:Hid (R=if b=true then -1 else 1):=hZ9 (by
     rw[HR.out,y.out 0 1 (λt F=>c.out.2 t F (by rw[B0.out] at F;omega)),c.out.1,B1,O.out])
    subst B1;clear IH L A0 s y K B c O;obtain⟨V,q1,T,Z,S,X,U⟩:=hw.seven;cases b
    all_goals(
     go_wp2_with fail;go_ret;exact⟨by(rw[C.out])<;>rfl,hb⟩)
 by_cases B9:kd=1
 ·subst B9;have HR:Hid (R=FiS.DT A 1 0 ps):=hZ9 (by rw[M.out,aJ (by decide)];rfl);clear M P HH J hA0 B6;go_enter func49,ntmps49;go_wp2_with fail;clear V q1 T Z S X U;go_loopw [6,30] (λr i wr=>∃(j:Nat) (b:Bool),j<=N/\i=.int .i64 j/\r=.bool b/\Hid ((if b=true then(-1:Int) else 0)=FiS.DU A 0 (ps.take j)/\∀t (F:t<ps.length),t<j->FiS.Az A (ps[t]'F)≠1)/\Whole wr w.heap.size 26 #[.int .i64 1,q,vl,Y,ls,.slice a5 AL c5,.slice a6 N c6]/\Below w.heap.size w wr) (λ_ i _=>N-(intOf i).toNat)
  case atStart=>exact⟨0,false,aR _,rfl,rfl,hZ9 ⟨rfl,λt F h=>absurd h (bj _)⟩,A8,f⟩
  case round=>
   obtain⟨j,b,hj,rfl,rfl,c,hw,hb⟩:=hrel;clear A8 f;by_cases C2:j<N
   ·have a:j<ps.length:=by rw[B0.out];exact C2
    have A9:=K.out j a;have B2:=B.out j a;have h3:=FiS.Fj A (ps[j]'a);have HS:Hid (FiS.Az A (ps[j]'a)=1->R=1):=hZ9 (λh=>by rw[HR.out];exact s.out 1 _ j a h);have HN:Hid (FiS.Az A (ps[j]'a)≠1->(if FiS.Az A (ps[j]'a)=-1 then -1 else(if b=true then(-1:Int) else 0))=FiS.DU A 0 (ps.take (j+1))/\∀t (F:t<ps.length),t<j+1->FiS.Az A (ps[t]'F)≠1):=hZ9 (λh=>⟨by rw[A0.out _ j a,<-c.out.1],λt F C3=>by
     rcases bV (bX C3) with h2|rfl
     ·exact c.out.2 t F h2
     ·exact h⟩)
    obtain⟨d,rfl,g,o,rfl,I,b5,d5,b6,d6,z,y0,y1,y2,y3,y4,y5,y6⟩:=L.out j a;have z:=z.call hb;have y0:=(hb.cell (p:=⟨g,o+j*7,none⟩) I).trans y0;have y1:=(hb.cell (p:=⟨g,o+j*7+1,none⟩) I).trans y1;have y2:=(hb.cell (p:=⟨g,o+j*7+2,none⟩) I).trans y2;have y3:=(hb.cell (p:=⟨g,o+j*7+3,none⟩) I).trans y3;have y4:=(hb.cell (p:=⟨g,o+j*7+4,none⟩) I).trans y4;have y5:=(hb.cell (p:=⟨g,o+j*7+5,none⟩) I).trans y5;have y6:=(hb.cell (p:=⟨g,o+j*7+6,none⟩) I).trans y6;have l:=λv W h hA hE=>IH d rfl (ps[j]'a) v u W h A9 B2 hA hf hE;clear IH L A0 s y K B c O;generalize ps[j]=p at*;generalize p.any.length=PA at*;generalize p.parts.length=PP at*;obtain⟨E,Q⟩:∃e,FiS.Az A p=e:=⟨_,rfl⟩
    rw[Q] at HS HN h3 l;clear Q;have D1:(0:Int)<=(j:Int):=by omega
    have C9:(j:Int)<(N:Int):=by omega
    have A2:=hb;have A4:=hw;have hc:=l _ _ z (Aw.call hA hb) (hE.below hb);clear l z hw hb;obtain⟨V,q1,T,Z,S,X,U⟩:=A4.seven;go_wp2_with fail;refine hc.mono ?_;rintro e w2 ⟨rfl,G⟩;have H:=A2.trans (G.mono A2.size);have A5:=A4.call G;clear hc y0 y1 y2 y3 y4 y5 y6 V q1 T Z S X U A4 G A2;obtain⟨V,q1,T,Z,S,X,U⟩:=A5.seven;rcases h3 with rfl|rfl|rfl
    ·have hn:=HN.out (by decide);have A3:Hid ((if true=true then(-1:Int) else 0)=FiS.DU A 0 (ps.take (j+1))/\∀t (F:t<ps.length),t<j+1->FiS.Az A (ps[t]'F)≠1):=hZ9 ⟨by rw[<-hn.1];rfl,hn.2⟩;clear HS HN hn;cases b
     all_goals(
      go_wp2_with fail;clear V q1 T Z S X U;go_roundw
      case rel=>exact⟨j+1,_,by omega,by go_num,rfl,A3,A5,H⟩
      case measure=>simp[intOf];omega)
    ·have hn:=HN.out (by decide);have A3:Hid ((if b=true then(-1:Int) else 0)=FiS.DU A 0 (ps.take (j+1))/\∀t (F:t<ps.length),t<j+1->FiS.Az A (ps[t]'F)≠1):=hZ9 ⟨by rw[<-hn.1];rfl,hn.2⟩;clear HS HN hn;cases b
     all_goals(
      go_wp2_with fail;clear V q1 T Z S X U;go_roundw
      case rel=>exact⟨j+1,_,by omega,by go_num,rfl,A3,A5,H⟩
      case measure=>simp[intOf];omega)
    ·have C:=hZ9 (HS.out rfl);clear HS HN;go_wp2_with fail;go_ret;exact⟨by(rw[C.out])<;>rfl,H⟩
   ·have B1:j=N:=by omega
    have C:Hid (R=if b=true then -1 else 0):=hZ9 (by
     rw[HR.out,y.out 1 0 (λt F=>c.out.2 t F (by rw[B0.out] at F;omega)),c.out.1,B1,O.out])
    subst B1;clear IH L A0 s y K B c O;obtain⟨V,q1,T,Z,S,X,U⟩:=hw.seven;cases b
    all_goals(
     go_wp2_with fail;go_ret;exact⟨by(rw[C.out])<;>rfl,hb⟩)
 have k0:(kd==0)=false:=by simpa using C1
 have k1:(kd==1)=false:=by simpa using B9
 clear A0 s y O;by_cases B5:kd=2
 ·subst B5;have C4:ps.length=1:=FiS.YE J;have C5:N=1:=by rw[<-B0.out];exact C4
  subst C5;have a:0<ps.length:=by omega
  have HR:Hid (R=FiS.notE (FiS.Az A (ps[0]'a))):=hZ9 (by
   rw[M.out,aG (by decide),aJ rfl]
   match ps,a with
   |p :: r,_=>rfl)
  have A9:=K.out 0 a;have B2:=B.out 0 a;have h3:=FiS.Fj A (ps[0]'a);obtain⟨d,rfl,g,o,rfl,I,b5,d5,b6,d6,z,y0,y1,y2,y3,y4,y5,y6⟩:=L.out 0 a;have z:=z.call f;simp only[cN,Nat.add_zero] at y0 y1 y2 y3 y4 y5 y6;have y0:=(f.cell (p:=⟨g,o,none⟩) I).trans y0;have y1:=(f.cell (p:=⟨g,o+1,none⟩) I).trans y1;have y2:=(f.cell (p:=⟨g,o+2,none⟩) I).trans y2;have y3:=(f.cell (p:=⟨g,o+3,none⟩) I).trans y3;have y4:=(f.cell (p:=⟨g,o+4,none⟩) I).trans y4;have y5:=(f.cell (p:=⟨g,o+5,none⟩) I).trans y5;have y6:=(f.cell (p:=⟨g,o+6,none⟩) I).trans y6;have l:=λv W h hA hE=>IH d rfl (ps[0]'a) v u W h A9 B2 hA hf hE;clear IH L K B M P HH J;generalize ps[0]=p at*;generalize p.any.length=PA at*;generalize p.parts.length=PP at*;obtain⟨E,Q⟩:∃e,FiS.Az A p=e:=⟨_,rfl⟩
  rw[Q] at HR h3 l;clear Q;have hc:=l _ _ z hA0 B6;clear l z;go_enter func49,ntmps49;go_wp2_with fail;refine hc.mono ?_;rintro e w2 ⟨rfl,G⟩;have H:=f.trans (G.mono f.size);clear hc V q1 T Z S X U y0 y1 y2 y3 y4 y5 y6 G;rcases h3 with rfl|rfl|rfl
  ·have C:Hid (R=-1):=HR;clear HR;go_wp2_with fail;go_ret;exact⟨by(rw[C.out])<;>rfl,H⟩
  ·have C:Hid (R=1):=HR;clear HR;go_wp2_with fail;go_ret;exact⟨by(rw[C.out])<;>rfl,H⟩
  ·have C:Hid (R=0):=HR;clear HR;go_wp2_with fail;go_ret;exact⟨by(rw[C.out])<;>rfl,H⟩
 have k2:(kd==2)=false:=by simpa using B5
 have HR:Hid (R=FiS.Dx A kd q vl Y ls an):=hZ9 (by rw[M.out,aG (by omega),aG B5]);have hc:=P _ (HH.out.call f) hA0 B6;clear M P IH L K B J C1 B9 B5 HH;obtain⟨LE,C7⟩:∃r,FiS.Dx A kd q vl Y ls an=r:=⟨_,rfl⟩
 rw[C7] at hc HR;clear C7;go_enter func49,ntmps49;go_wp2_with fail;refine hc.mono ?_;rintro e w2 ⟨rfl,G⟩;have H:=f.trans (G.mono f.size);clear hc V q1 T Z S X U G;go_wp2_with fail;go_ret;exact⟨by(rw[HR.out])<;>rfl,H⟩)
theorem AbK(n:Nat)(x:Fi)(v u:Value)(A:List EnS.At)(w:World)(h:BF n w v x)(q:FiS.wdF 20000 x)(hA:BA w u A)(N:AdU A)(hE:Env w):Calls prog 17 #[v,u] w (Gq (FiS.Hh A x) w):=by
 have o:=λW h=>MB n x v W h q;have g:=λW M h hA hE=>Afx A n x v u W h q M hA N hE;have d:Hid (FiS.Hh A x=if FiS.formedS x=true then FiS.Az A x else -1):=hZ9 rfl;have m:Hid (FiS.formedS x=true->FiS.Dm x=true):=hZ9 (λh=>by unfold FiS.formedS at h;simp only[bC] at h;exact h.2.2);obtain⟨R,hR⟩:∃r,FiS.Hh A x=r:=⟨_,rfl⟩
 obtain⟨E,p⟩:∃r,FiS.Az A x=r:=⟨_,rfl⟩
 rw[hR] at d⊢;rw[p] at d g;clear hR p;unfold AP Gq at*;have F:=hZ9 h;obtain⟨a5,c5,L,K,O,_,_,_⟩:=FiV.parts h;generalize x.any.length=AL at*;generalize x.parts.length=PL at*;generalize x.kind=kd at*;generalize x.attr=at0 at*;generalize x.value=vl at*;generalize x.first=fs at*;generalize x.last=ls at*;subst O;have f:=Af w (.cells #[kd,at0,vl,fs,ls,.slice a5 AL c5,.slice L PL K] 26);have l:=Whole.made w 26 #[kd,at0,vl,fs,ls,.slice a5 AL c5,.slice L PL K];obtain⟨z,t,I,J,G,H,s⟩:=l.seven;have a:=o _ (h.call f);clear o h;cases b:FiS.formedS x with
 |false=>rw[b] at a;have k:Hid (R=-1):=hZ9 (by rw[d.out,b];rfl);clear b d m g F;go_enter func17,ntmps17;go_wp2_with fail;refine a.mono ?_;rintro e w2 ⟨rfl,i⟩;have c:=f.trans (i.mono f.size);clear a;go_wp2_with fail;go_ret;exact⟨by(rw[k.out])<;>rfl,c⟩
 |true=>rw[b] at a;have k:Hid (R=E):=hZ9 (by rw[d.out,b];rfl);have j:=λW h hA hE=>g W (m.out b) h hA hE;clear b d m g;go_enter func17,ntmps17;go_wp2_with fail;refine a.mono ?_;rintro e w2 ⟨rfl,i⟩;have c:=f.trans (i.mono f.size);have B:=l.call i;clear a z t I J G H s l;obtain⟨z,t,I,J,G,H,s⟩:=B.seven;have hc:=j _ (F.out.call c) (Aw.call hA c) (hE.below c);clear j F;go_wp2_with fail;refine hc.mono ?_;rintro e w3 ⟨rfl,C⟩;have y:=c.trans (C.mono c.size);clear hc z t I J G H s;go_wp2_with fail;go_ret;exact⟨by(rw[k.out])<;>rfl,y⟩
end
section
open Go.RowKit
attribute [local go_sem ↓] Go.wp_at_zero Go.wp_at_succ
theorem Eg.ins{w:World}{C:Nat}{u:Value}{xs:List EnS.At}{Ts:List TypeId}(h:Eg Ts C w u xs):BA w u xs:=
 Ad.imp h (aA _) (λ_ _ h=>h) λ_ _ _ _ _ hx=>by obtain⟨h1,u,h2,h3⟩:=hx;exact⟨h1,u,h2,h3.any⟩
end
section
namespace EnS
open Go.Lib DnS
theorem Vx:∀ys:List At,Av (λa=>a.vals.length) ys<=Av cA ys
 |[]=>aA _
 |a :: r=>by
  have:=Vx r;show a.vals.length+Av (λa=>a.vals.length) r<=cA a+Av cA r
  have h2:a.vals.length<=cA a:=by unfold cA;omega
  omega
end EnS
open Go.RowKit
attribute [local go_sem ↓] Go.wp_at_zero Go.wp_at_succ
end
