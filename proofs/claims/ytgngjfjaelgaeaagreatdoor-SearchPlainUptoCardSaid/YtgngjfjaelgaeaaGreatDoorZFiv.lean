/- The walks of how the program evaluates a filter. Conditions: as stated. -/
import Derived.Test.YtgngjfjaelgaeaaGreatDoorZFiq
import Derived.Test.YtgngjfjaelgaeaaGreatDoorZCpz
set_option maxRecDepth 100000
set_option maxHeartbeats 16000000
namespace Go.Proofs.YtgngjfjaelgaeaaGreatDoor
open Go.Proofs.Tryz
section
namespace FiS
theorem IY{t x:iK}:∀{A:List EnS.At},x∈BC t A↔∃a∈A,(RuS.typeOf a.typ).1=t/\x∈a.vals
 |[]=>by simp[BC]
 |a :: r=>by
  rw[BC,bB,IY (A:=r)];constructor
  ·rintro (h|⟨b,hb,h1,h2⟩)
   ·split at h
    ·rename_i c;exact⟨a,ai ..,c,h⟩
    ·cases h
   ·exact⟨b,au _ hb,h1,h2⟩
  ·rintro⟨b,hb,h1,h2⟩;rcases ay.1 hb with rfl|hb
   ·left;rw[aJ h1];exact h2
   ·exact .inr ⟨b,hb,h1,h2⟩
theorem Ab9{t:iK}{A:List EnS.At}{P:iK->Bool}{j m:Nat}(a:j<A.length)(c:(RuS.typeOf (A[j]'a).typ).1=t)(b:m<(A[j]'a).vals.length)(h:P ((A[j]'a).vals[m]'b)=true):(BC t A).any P=true:=
 dx.2 ⟨_,IY.2 ⟨_,aZ a,c,aZ b⟩,h⟩
theorem AdE{t:iK}{A:List EnS.At}{P:iK->Bool}(h:∀j (b:j<A.length),(RuS.typeOf (A[j]'b).typ).1=t->∀x∈(A[j]'b).vals,P x=false):(BC t A).any P=false:=by rw[fO];intro x hx;obtain⟨a,c,h1,h2⟩:=IY.1 hx;obtain⟨j,b,rfl⟩:=bc.1 c;rw[h j b h1 x h2];simp
end FiS
open Go.RowKit
open FiS (Fi)
attribute [local go_sem ↓] Go.wp_at_zero Go.wp_at_succ
def KC(A:List EnS.At):Prop:=GZ A/\∀x∈A,x.typ.length<=1048576
def Gq(r:Int)(w:World)(e:Ending)(w':World):Prop:=e=.returned r/\Below w.heap.size w w'
theorem AdF(n:Nat)(x:Fi)(v u:Value)(A:List EnS.At)(w:World)(h:BF n w v x)(A9:FiS.wdF 20000 x)(hA:BA w u A)(hf:KC A)(hE:Env w):Calls prog 128 #[v,u] w (Gq (FiS.Dx A x.kind x.attr x.value x.first x.last x.any) w):=by
 obtain⟨⟨G2,E3⟩,E7⟩:=hf;have hsz:x.attr.length<=20000/\x.value.length<=20000:=by cases x;rw[FiS.wdF] at A9;exact⟨A9.1.1,A9.1.2.1⟩
 have s:Hid (∀(t:iK) (z:Int) (W:World),(RuS.typeOf x.attr).2=z->BF n W v x->t.length<=1000000->Env W->Calls prog 160 #[v,.string ⟨t.toArray⟩,.int .i64 z] W (AP (FiS.CX x.kind x.attr x.value x.first x.last x.any t) W)):=hZ9 (λt z W S h q hE=>Ab8 n x v t z S W h A9 q hE);obtain⟨PF,B5⟩:∃f:iK->Bool,(λy=>decide (x.kind=7)||FiS.CX x.kind x.attr x.value x.first x.last x.any y)=f:=⟨_,rfl⟩
 have O:Hid (∀y,PF y=(decide (x.kind=7)||FiS.CX x.kind x.attr x.value x.first x.last x.any y)):=hZ9 (λy=>(congrFun B5 y).symm);have I:Hid (FiS.Dx A x.kind x.attr x.value x.first x.last x.any=if FiS.Jt x.kind x.attr x.value=true then -1 else if(FiS.BC (RuS.typeOf x.attr).1 A).any PF=true then 1 else 0):=hZ9 (by unfold FiS.Dx;rw[<-B5]);obtain⟨R,hR⟩:∃r,FiS.Dx A x.kind x.attr x.value x.first x.last x.any=r:=⟨_,rfl⟩
 rw[hR] at I⊢;clear hR B5;obtain⟨VE,E8⟩:∃f:iK->Bool,(λy=>FiS.CX x.kind x.attr x.value x.first x.last x.any y)=f:=⟨_,rfl⟩
 have A4:∀y,FiS.CX x.kind x.attr x.value x.first x.last x.any y=VE y:=λy=>congrFun E8 y;simp only[A4] at s O;clear E8 A4;have a:Hid (FiS.Jt x.kind x.attr x.value=(decide ((RuS.typeOf x.attr).2=0)||(decide (x.kind=4)&&decide (2<(RuS.typeOf x.attr).2))||((decide (x.kind=5)||decide (x.kind=6))&&(decide ((RuS.typeOf x.attr).2=2)||decide ((RuS.typeOf x.attr).2=5)))||(decide (x.kind≠4)&&decide (x.kind≠7)&&decide ((DnS.AC x.attr x.value).2≠0)))):=hZ9 rfl;have HH:=hZ9 h;obtain⟨a5,c5,a6,c6,hv,_,_,_⟩:=FiV.parts h;have A6:∀W,Calls prog 51 #[x.attr] W (Ak x.attr W):=λW=>Gx ⟨x.attr.toArray⟩ (by rw[BZ];omega) W;have A8:=λW hE=>GW x.attr x.value (by omega) (by omega) W hE;unfold Ak at A6;unfold Bo at A8;obtain⟨B,hB⟩:∃b,FiS.Jt x.kind x.attr x.value=b:=⟨_,rfl⟩
 rw[hB] at a I;clear hB h hsz;generalize DnS.AC x.attr x.value=DV at*;generalize RuS.typeOf x.attr=TT at*;obtain⟨Y,z⟩:=TT;obtain⟨D1,D2⟩:=DV;simp only at A6 A8 s a I;generalize x.any.length=AL at*;generalize x.parts.length=PL at*;generalize x.kind=kd at*;generalize x.attr=at0 at*;generalize x.value=vl at*;generalize x.first=fs at*;generalize x.last=ls at*;subst hv;unfold Gq AP at*;have B6:=Af w (.cells #[kd,at0,vl,fs,ls,.slice a5 AL c5,.slice a6 PL c6] 36);have C9:=Whole.made w 36 #[kd,at0,vl,fs,ls,.slice a5 AL c5,.slice a6 PL c6];obtain⟨q0,q1,q2,q3,q4,q5,q6⟩:=C9.seven;obtain⟨aa,ac,rfl,G7,E1⟩:=Ad.at hA;have B0:=hZ9 E1;have B2:=hZ9 (λj (Z:j<A.length)=>(E3 A[j] (aZ Z)));have J:=hZ9 (λj (Z:j<A.length)=>E7 A[j] (aZ Z));have M:=hZ9 (λj m (Z:j<A.length) (q:(RuS.typeOf (A[j]'Z).typ).1=Y) (hm:m<(A[j]'Z).vals.length) (h:PF ((A[j]'Z).vals[m]'hm)=true)=>FiS.Ab9 (P:=PF) Z q hm h);have B3:=hZ9 (@FiS.AdE Y A PF);clear E1 hA E3 E7;obtain⟨NA,D4⟩:∃k,A.length=k:=⟨_,rfl⟩
 have D7:=hZ9 D4;rw[D4] at G7 G2⊢;clear D4;go_enter func128,ntmps128;go_wp2_with fail;refine(A6 _).mono ?_;rintro e w2 ⟨rfl,B9⟩;have B1:=B6.trans (B9.mono B6.size);have D0:=C9.call B9;clear q0 q1 q2 q3 q4 q5 q6 B9;obtain⟨q0,q1,q2,q3,q4,q5,q6⟩:=D0.seven;have A2:=A8 w2 (hE.below B1);clear A8;go_wp2_with fail;refine A2.mono ?_;rintro e w3 ⟨rfl,D3⟩;have H:=B1.trans (D3.mono B1.size);have C7:=D0.call D3;clear q0 q1 q2 q3 q4 q5 q6 A2 D3 D0 C9 B1 B6;obtain⟨q0,q1,q2,q3,q4,q5,q6⟩:=C7.seven;go_upto_block 0 with fail;have N:Hid (B=true->R=-1):=hZ9 (λh=>by rw[I.out,h];rfl);go_cut [29] (λb wd=>B=false/\wd=w3)
 case first=>
  clear B0 B2 J M B3 s O I A6 HH;by_cases h0:z=0
  case pos=>have F:Hid (B=true):=hZ9 (by rw[a.out];simp[h0]);subst h0;clear a;have l:=hZ9 (N.out F.out);go_wp2_with fail;go_ret;exact⟨by(rw[l.out])<;>rfl,H⟩
  have e0:(z==0)=false:=by simpa using h0
  by_cases h4:kd=4
  case pos=>
   subst h4;by_cases h2:2<z
   ·have F:Hid (B=true):=hZ9 (by rw[a.out];simp[h2]);have e2:decide (2<z)=true:=aI h2;clear a;have l:=hZ9 (N.out F.out);go_wp2_with fail;go_ret;exact⟨by(rw[l.out])<;>rfl,H⟩
   ·have F:Hid (B=false):=hZ9 (by rw[a.out];simp[h2,h0]);have e2:decide (2<z)=false:=aB h2;clear a;go_wp2_with fail;go_meet;exact⟨F.out,rfl⟩
  have e4:(kd==4)=false:=by simpa using h4
  have H7:(kd !=4)=true:=by simpa using h4
  by_cases h7:kd=7
  case pos=>subst h7;have F:Hid (B=false):=hZ9 (by rw[a.out];simp[h0]);clear a;go_wp2_with fail;go_meet;exact⟨F.out,rfl⟩
  have e7:(kd==7)=false:=by simpa using h7
  have H8:(kd !=7)=true:=by simpa using h7
  by_cases S:z=2\/z=5
  case pos=>
   have es:(z==2)=true\/((z==2)=false/\(z==5)=true):=by
    by_cases h2:z=2
    ·exact .inl (by simpa using h2)
    ·exact .inr ⟨by simpa using h2,by simpa using S.resolve_left h2⟩
   by_cases h56:kd=5\/kd=6
   case pos=>
    have F:Hid (B=true):=hZ9 (by rw[a.out];rcases h56 with h|h<;>rcases S with h'|h'<;>simp[h,h']);have ek:(kd==5)=true\/((kd==5)=false/\(kd==6)=true):=by
     by_cases h2:kd=5
     ·exact .inl (by simpa using h2)
     ·exact .inr ⟨by simpa using h2,by simpa using h56.resolve_left h2⟩
    clear a S h56;rcases es with s2|⟨s2,s5⟩
    all_goals rcases ek with k5|⟨k5,k6⟩
    all_goals(
     have l:=hZ9 (N.out F.out);go_wp2_with fail;go_ret;exact⟨by(rw[l.out])<;>rfl,H⟩)
   have k5:(kd==5)=false:=by simpa using λh=>h56 (.inl h)
   have k6:(kd==6)=false:=by simpa using λh=>h56 (.inr h)
   by_cases hd:D2=0
   ·have F:Hid (B=false):=hZ9 (by rw[a.out];simp[h0,h4,hd];intro h;exact absurd h h56);have ed:(D2 !=0)=false:=by simpa using hd
    clear a S h56;go_wp2_with fail;go_meet;exact⟨F.out,rfl⟩
   ·have F:Hid (B=true):=hZ9 (by rw[a.out];simp[h4,h7,hd]);have ed:(D2 !=0)=true:=by simpa using hd
    clear a S h56;have l:=hZ9 (N.out F.out);go_wp2_with fail;go_ret;exact⟨by(rw[l.out])<;>rfl,H⟩
  have s2:(z==2)=false:=by simpa using λh=>S (.inl h)
  have s5:(z==5)=false:=by simpa using λh=>S (.inr h)
  have G6:¬z=2:=λh=>S (.inl h);have G9:¬z=5:=λh=>S (.inr h);have ek:(kd==5)=true\/((kd==5)=false/\(kd==6)=true)\/((kd==5)=false/\(kd==6)=false):=by cases (kd==5)<;>cases (kd==6)<;>simp
  by_cases hd:D2=0
  ·have F:Hid (B=false):=hZ9 (by rw[a.out];simp[h0,h4,hd,G6,G9]);have ed:(D2 !=0)=false:=by simpa using hd
   clear a S;rcases ek with k5|⟨k5,k6⟩|⟨k5,k6⟩
   all_goals(
    go_wp2_with fail;go_meet;exact⟨F.out,rfl⟩)
  ·have F:Hid (B=true):=hZ9 (by rw[a.out];simp[h4,h7,hd]);have ed:(D2 !=0)=true:=by simpa using hd
   clear a S;rcases ek with k5|⟨k5,k6⟩|⟨k5,k6⟩
   all_goals(
    have l:=hZ9 (N.out F.out);go_wp2_with fail;go_ret;exact⟨by(rw[l.out])<;>rfl,H⟩)
 case rest=>
  obtain⟨G0,rfl⟩:=hcut;subst G0;clear a N;have l:Hid (R=if(FiS.BC Y A).any PF=true then 1 else 0):=hZ9 (by rw[I.out];rfl);clear I;have D8:(kd==7)=decide (kd=7):=by by_cases h:kd=7<;>simp[h]
  go_wp2_with fail;clear q0 q1 q2 q3 q4 q5 q6;go_loopw [69] (λi wr=>∃j:Nat,j<=NA/\i=.int .i64 j/\Whole wr w.heap.size 36 #[kd,at0,vl,fs,ls,.slice a5 AL c5,.slice a6 PL c6]/\Below w.heap.size w wr/\Hid (∀t (q:t<A.length),t<j->(RuS.typeOf (A[t]'q).typ).1=Y->∀y∈(A[t]'q).vals,PF y=false)) (λi _=>NA-(intOf i).toNat)
  case atStart=>exact⟨0,aR _,rfl,C7,H,hZ9 (λt q h=>absurd h (bj _))⟩
  case round=>
   obtain⟨j,Z,rfl,hw,hb,L⟩:=hrel;clear C7 H;by_cases F6:j<NA
   ·have d:j<A.length:=by rw[D7.out];exact F6
    have D6:=M.out j;obtain⟨g,o,rfl,hg,_,hra⟩:=B0.out j d;obtain⟨c0,a2,p2,c1,E2,hu⟩:=BG.parts hra;have G1:=J.out j d;obtain⟨E4,A0⟩:=B2.out j d;have c:Hid (((RuS.typeOf (A[j]'d).typ).1=Y->∀y∈(A[j]'d).vals,PF y=false)->∀t (q:t<A.length),t<j+1->(RuS.typeOf (A[t]'q).typ).1=Y->∀y∈(A[t]'q).vals,PF y=false):=hZ9 (λh t q F7=>by
     rcases bV (bX F7) with h2|rfl
     ·exact L.out t q h2
     ·exact h)
    have Q:Hid (∀m (hm:m<(A[j]'d).vals.length),(RuS.typeOf (A[j]'d).typ).1=Y->PF ((A[j]'d).vals[m]'hm)=true->R=1):=hZ9 (λm hm q hp=>by rw[l.out,aJ (D6 m d q hm hp)]);clear hra B0 J B2 M B3 L D6 l;generalize A[j]=at1 at*;obtain⟨ty,vals⟩:=at1;simp only at c0 c1 E2 hu G1 E4 A0 c Q;obtain⟨n2,C6⟩:∃k,vals.length=k:=⟨_,rfl⟩
    have D9:=hZ9 C6;rw[C6] at c1 E2 E4 hu;clear C6;replace c0:wr.cell? ⟨g,o+j*2,none⟩=some (.string ⟨ty.toArray⟩):=(hb.cell (p:=⟨g,o+j*2,none⟩) hg).trans c0;replace c1:wr.cell? ⟨g,o+j*2+1,none⟩=some (.slice a2 n2 p2):=(hb.cell (p:=⟨g,o+j*2+1,none⟩) hg).trans c1;have K:∀W,Calls prog 51 #[ty] W (Ak ty W):=λW=>Gx ⟨ty.toArray⟩ (by rw[BZ];omega) W;unfold Ak at K;have C1:=Af wr (.cells #[ty,.slice a2 n2 p2] 56);have C0:=Whole.made wr 56 #[ty,.slice a2 n2 p2];have C4:=hb.trans (C1.mono hb.size);have A1:=hw.call C1;have z0:=C0.cell 0;simp only[aO,aH] at z0;have H2:(0:Int)<=(j:Int):=by omega
    have H5:(j:Int)<(NA:Int):=by omega
    generalize RuS.typeOf ty=TY at*;obtain⟨V,H6⟩:=TY;simp only at K c Q;clear hw C1 hb;go_wp2_with fail;refine(K _).mono ?_;rintro e w4 ⟨rfl,A5⟩;have C3:=C4.trans (A5.mono C4.size);have C2:=A1.call A5;have A3:=C0.call A5;have z1:=A3.cell 1;simp only[aO,aP,aH] at z1;clear K A1 C0 z0 c0 c1 C4 A5 A3;by_cases hq:V=Y
    case neg=>
     have F0:(V !=Y)=true:=by simpa using hq
     have H9:(V==Y)=false:=by simpa using hq
     have C8:=hZ9 (c.out (λh=>absurd h hq));clear c Q hq;go_wp2_with fail;go_roundw
     case rel=>exact⟨j+1,by omega,by go_num,C2,C3,C8⟩
     case measure=>simp[intOf];omega
    subst hq;have F0:(V !=V)=false:=by simp
    obtain⟨a3,c3,e3,F9,U⟩:=Ad.at hu;injection e3 with e4 e5 e6;rw[<-e4] at U;have B7:=hZ9 U;clear U e4 e5 e6 hu F9;go_wp2_with fail;clear z1;go_loopw [85] (λi wn=>∃m:Nat,m<=n2/\i=.int .i64 m/\Whole wn w.heap.size 36 #[kd,at0,vl,fs,ls,.slice a5 AL c5,.slice a6 PL c6]/\Below w.heap.size w wn/\Hid (∀t (q:t<vals.length),t<m->PF (vals[t]'q)=false)) (λi _=>n2-(intOf i).toNat)
    case atStart=>exact⟨0,aR _,rfl,C2,C3,hZ9 (λt q h=>absurd h (bj _))⟩
    case round=>
     obtain⟨m,hm,rfl,hw,hb,HV⟩:=hrel;clear C2 C3;obtain⟨q0,q1,q2,q3,q4,q5,q6⟩:=hw.seven;by_cases D5:m<n2
     ·have E:m<vals.length:=by rw[D9.out];exact D5
      obtain⟨g3,o3,F1,H3,_,E0⟩:=B7.out m E;have G5:=A0 _ (aZ E);have X:=hZ9 (Q.out m E (by first|rfl|trivial));have A7:Hid (PF (vals[m]'E)=false->∀t (q:t<vals.length),t<m+1->PF (vals[t]'q)=false):=hZ9 (λh t q F3=>by
       rcases bV (bX F3) with h2|rfl
       ·exact HV.out t q h2
       ·exact h)
      generalize vals[m]=y at*;have F5:wr.cell? ⟨g3,o3+m,none⟩=wr.cell? ⟨g3,o3+m,none⟩:=rfl;subst F1;have E5:∀W,Below w.heap.size w W->W.cell? ⟨g3,o3+m,none⟩=some (.string ⟨y.toArray⟩):=λW F2=>by have:w.cell? ⟨g3,o3+m*1,none⟩=some (Ac y):=E0;rw[bp] at this;exact Ab this F2
      have H4:=E5 _ hb;have H1:(0:Int)<=(m:Int):=by omega
      have H0:(m:Int)<(n2:Int):=by omega
      have B4:=hZ9 (O.out y);have C:=s.out y z _ rfl (HH.out.call hb) G5 (hE.below hb);clear E5 E0 F5 s HH B7 O Q HV;by_cases h7:kd=7
      case pos=>
       have G4:(kd==7)=true:=by simpa using h7
       have B8:Hid (R=1):=hZ9 (X.out (by rw[B4.out];simp[h7]));clear C X A7 B4 h7 D8 c;go_wp2_with fail;go_ret;exact⟨by(rw[B8.out])<;>rfl,hb⟩
      have G4:(kd==7)=false:=by simpa using h7
      have G:Hid (PF y=VE y):=hZ9 (by rw[B4.out];simp[h7]);obtain⟨vy,E6⟩:∃b,VE y=b:=⟨_,rfl⟩
      rw[E6] at C G;clear E6 B4 h7 D8;cases vy with
      |true=>have B8:Hid (R=1):=hZ9 (X.out G.out);clear X A7 G c;go_wp2_with fail;refine C.mono ?_;rintro e w5 ⟨rfl,T⟩;have C5:=hb.trans (T.mono hb.size);clear C q0 q1 q2 q3 q4 q5 q6;go_wp2_with fail;go_ret;exact⟨by(rw[B8.out])<;>rfl,C5⟩
      |false=>
       have G3:=hZ9 (A7.out G.out);clear X A7 G c;go_wp2_with fail;refine C.mono ?_;rintro e w5 ⟨rfl,T⟩;have C5:=hb.trans (T.mono hb.size);have G8:=hw.call T;clear C q0 q1 q2 q3 q4 q5 q6 hw T;go_wp2_with fail;go_roundw
       case rel=>exact⟨m+1,by omega,by go_num,G8,C5,G3⟩
       case measure=>simp[intOf];omega
     ·have F4:m=n2:=by omega
      have C8:=hZ9 (c.out (λ_ y hy=>by
       obtain⟨t,q,rfl⟩:=bc.1 hy;exact HV.out t q (by rw[D9.out] at q;omega)))
      subst F4;clear c Q s HH B7 O HV;go_wp2_with fail;go_roundw
      case rel=>exact⟨j+1,by omega,by go_num,hw,hb,C8⟩
      case measure=>simp[intOf];omega
   ·have F8:j=NA:=by omega
    have E9:Hid (R=0):=hZ9 (by rw[l.out,aG];rw[B3.out (λt q h y hy=>L.out t q (by rw[D7.out] at q;omega) h y hy)];simp);subst F8;clear B0 J B2 M B3 L l s O HH;go_wp2_with fail;go_ret;exact⟨by(rw[E9.out])<;>rfl,hb⟩
end
section
namespace FiS
theorem Po:∀{ps:List Fi},allL ps=true->∀j (hj:j<ps.length),Dm (ps[j]'hj)=true
 |[],_,j,hj=>by simp at hj
 |p :: r,h,0,_=>by rw[allL,bC] at h;exact h.1
 |p :: r,h,j+1,hj=>by rw[allL,bC] at h;exact Po h.2 j (by simpa using hj)
theorem YE{a v f l:iK}{s:List iK}{ps:List Fi}(h:Ho (.mk 2 a v f l s ps)=true):ps.length=1:=by have h:Ob 2 a v f l s ps.length=true:=h;unfold Ob at h;rw[aG (by decide),aJ rfl] at h;simp only[bC,az] at h;exact h.2
end FiS
open Go.RowKit
open FiS (Fi)
attribute [local go_sem ↓] Go.wp_at_zero Go.wp_at_succ
theorem AbA(b:Bool)(w:World):Calls prog 127 #[b] w λe w'=>e=.returned (.int .i64 (if b=true then 1 else 0))/\w=w':=by
 cases b
 all_goals
  go_enter func127,ntmps127;go_wp2_with fail;go_ret;exact⟨rfl,rfl⟩
def EvC(A:List EnS.At)(n:Nat):Prop:=∀(x:Fi) (v u:Value) (w:World),BF n w v x->FiS.wdF 20000 x->FiS.Dm x=true->BA w u A->KC A->Env w->Calls prog 93 #[v,u] w (Gq (FiS.Az A x) w)
theorem Agx(A:List EnS.At):∀n,EvC A n:=EU (λn IH=>by
 unfold EvC at*;intro x v u w h B8 B1 hA hf hE;have C7:=λW h hA hE=>AdF n x v u A W h B8 hA hf hE;have HH:=hZ9 h;obtain⟨kd,q,V,U,ls,an,ps⟩:=x;obtain⟨a5,c5,a6,c6,hv,B5,B6,A3⟩:=FiV.parts h;have hv:v=.agg #[kd,q,V,U,ls,.slice a5 an.length c5,.slice a6 ps.length c6]:=hv;subst hv;have B5:Ah w (.slice a5 an.length c5) an:=B5;have B6:ps.length<=c6:=B6;have A3:Bl n (λ_=>True) w (.slice a6 ps.length c6) ps:=A3;rw[FiS.wdF] at B8;obtain⟨_,_,_,C9,C5⟩:=B8;have L:=hZ9 (FiS.GX.1 C5);clear C5;rw[FiS.Dm,bC] at B1;obtain⟨J,B2⟩:=B1;have B:=hZ9 (FiS.Po B2);have O:Hid (FiS.Az A (.mk kd q V U ls an ps)=if kd=0\/kd=1 then FiS.DT A kd (1-kd) ps else if kd=2 then FiS.notE (FiS.ZQ A ps) else FiS.Dx A kd q V U ls an):=hZ9 (by rw[FiS.Az]);obtain⟨R,hR⟩:∃r,FiS.Az A (.mk kd q V U ls an ps)=r:=⟨_,rfl⟩
 rw[hR] at O⊢;clear hR;have X:=hZ9 (λacc j (hj:j<ps.length)=>FiS.Nc (A:=A) (acc:=acc) hj);have s:=hZ9 (λk acc j (hj:j<ps.length) h=>FiS.Lr A k acc ps j hj h);have y:=hZ9 (λk acc h=>@FiS.Nh A k acc ps h);have Q:Hid (ps.take ps.length=ps):=hZ9 (bA);obtain⟨AL,A2⟩:∃m,an.length=m:=⟨_,rfl⟩
 obtain⟨P,Z⟩:∃m,ps.length=m:=⟨_,rfl⟩
 have D1:=hZ9 A2;have A6:=hZ9 Z;rw[A2] at B5;rw[Z] at B6 A3
 try rw[A2]
 try rw[Z]
 have S:∀W,BF n W (.agg #[kd,q,V,U,ls,.slice a5 AL c5,.slice a6 P c6]) (.mk kd q V U ls an ps)->BA W u A->Env W->Calls prog 128 #[.agg #[kd,q,V,U,ls,.slice a5 AL c5,.slice a6 P c6],u] W (Gq (FiS.Dx A kd q V U ls an) W):=λW h hA hE=>by have:=C7 W (by rw[<-A2,<-Z] at h;exact h) hA hE;rw[<-A2,<-Z];exact this
 rw[Z] at Q C9;have HH:Hid (BF n w (.agg #[kd,q,V,U,ls,.slice a5 AL c5,.slice a6 P c6]) (.mk kd q V U ls an ps)):=hZ9 (by rw[<-A2,<-Z];exact h);have f:=Af w (.cells #[kd,q,V,U,ls,.slice a5 AL c5,.slice a6 P c6] 36);have A4:=Whole.made w 36 #[kd,q,V,U,ls,.slice a5 AL c5,.slice a6 P c6];have M:=hZ9 (λj (hj:j<ps.length)=>Bl.at A3 j hj);obtain⟨q0,q1,q2,q3,q4,q5,q6⟩:=A4.seven;have hA0:=Aw.call hA f;have B4:=hE.below f;unfold Gq at*;clear C7 h B5 A3;by_cases B9:kd=0
 ·subst B9;have HR:Hid (R=FiS.DT A 0 1 ps):=hZ9 (by rw[O.out,aJ (by decide)];rfl);clear O S HH J hA0 B4;go_enter func93,ntmps93;go_wp2_with fail;clear q0 q1 q2 q3 q4 q5 q6;go_loopw [5,21] (λr i wr=>∃(j:Nat) (acc:Int),j<=P/\i=.int .i64 j/\r=.int .i64 acc/\Hid (acc=FiS.DU A 1 (ps.take j)/\∀t (F:t<ps.length),t<j->FiS.Az A (ps[t]'F)≠0)/\Whole wr w.heap.size 36 #[.int .i64 0,q,V,U,ls,.slice a5 AL c5,.slice a6 P c6]/\Below w.heap.size w wr) (λ_ i _=>P-(intOf i).toNat)
  case atStart=>exact⟨0,_,aR _,rfl,rfl,hZ9 ⟨rfl,λt F h=>absurd h (bj _)⟩,A4,f⟩
  case round=>
   obtain⟨j,acc,hj,rfl,rfl,c,hw,hb⟩:=hrel;clear A4 f;by_cases C0:j<P
   ·have a:j<ps.length:=by rw[A6.out];exact C0
    have A5:=L.out j a;have B0:=B.out j a;have h3:=FiS.Fj A (ps[j]'a);have HS:Hid (FiS.Az A (ps[j]'a)=0->R=0):=hZ9 (λh=>by rw[HR.out];exact s.out 0 _ j a h);have HN:Hid (FiS.Az A (ps[j]'a)≠0->(if FiS.Az A (ps[j]'a)=-1 then -1 else acc)=FiS.DU A 1 (ps.take (j+1))/\∀t (F:t<ps.length),t<j+1->FiS.Az A (ps[t]'F)≠0):=hZ9 (λh=>⟨by rw[X.out _ j a,<-c.out.1],λt F C2=>by
     rcases bV (bX C2) with h2|rfl
     ·exact c.out.2 t F h2
     ·exact h⟩)
    obtain⟨d,rfl,g,o,rfl,I,b5,d5,b6,d6,z,y0,y1,y2,y3,y4,y5,y6⟩:=M.out j a;have z:=z.call hb;have y0:=(hb.cell (p:=⟨g,o+j*7,none⟩) I).trans y0;have y1:=(hb.cell (p:=⟨g,o+j*7+1,none⟩) I).trans y1;have y2:=(hb.cell (p:=⟨g,o+j*7+2,none⟩) I).trans y2;have y3:=(hb.cell (p:=⟨g,o+j*7+3,none⟩) I).trans y3;have y4:=(hb.cell (p:=⟨g,o+j*7+4,none⟩) I).trans y4;have y5:=(hb.cell (p:=⟨g,o+j*7+5,none⟩) I).trans y5;have y6:=(hb.cell (p:=⟨g,o+j*7+6,none⟩) I).trans y6;have l:=λv W h hA hE=>IH d rfl (ps[j]'a) v u W h A5 B0 hA hf hE;clear IH M X s y L B c Q;generalize ps[j]=p at*;generalize p.any.length=PA at*;generalize p.parts.length=PP at*;obtain⟨E,T⟩:∃e,FiS.Az A p=e:=⟨_,rfl⟩
    rw[T] at HS HN h3 l;clear T;have D0:(0:Int)<=(j:Int):=by omega
    have C8:(j:Int)<(P:Int):=by omega
    have N:=Af wr (.cells #[p.kind,p.attr,p.value,p.first,p.last,.slice b5 PA d5,.slice b6 PP d6] 36);have A9:=Whole.made wr 36 #[p.kind,p.attr,p.value,p.first,p.last,.slice b5 PA d5,.slice b6 PP d6];obtain⟨x0,x1,x2,x3,x4,x5,x6⟩:=A9.seven;have K:=hb.trans (N.mono hb.size);have A8:=hw.call N;have hc:=l _ _ (z.call N) (Aw.call hA K) (hE.below K);clear l z A9 N hw hb;go_wp2_with fail;refine hc.mono ?_;rintro e w2 ⟨rfl,G⟩;have H:=K.trans (G.mono K.size);have A1:=A8.call G;clear hc x0 x1 x2 x3 x4 x5 x6 A8 G K;obtain⟨q0,q1,q2,q3,q4,q5,q6⟩:=A1.seven;rcases h3 with rfl|rfl|rfl
    ·have Y:=HN.out (by decide);have A0:Hid ((-1:Int)=FiS.DU A 1 (ps.take (j+1))/\∀t (F:t<ps.length),t<j+1->FiS.Az A (ps[t]'F)≠0):=hZ9 ⟨by rw[<-Y.1];rfl,Y.2⟩;clear HS HN Y;go_wp2_with fail;clear q0 q1 q2 q3 q4 q5 q6;go_roundw
     case rel=>exact⟨j+1,_,by omega,by go_num,rfl,A0,A1,H⟩
     case measure=>simp[intOf];omega
    ·have C:=hZ9 (HS.out rfl);clear HS HN;go_wp2_with fail;go_ret;exact⟨by(rw[C.out])<;>rfl,H⟩
    ·have Y:=HN.out (by decide);have A0:Hid (acc=FiS.DU A 1 (ps.take (j+1))/\∀t (F:t<ps.length),t<j+1->FiS.Az A (ps[t]'F)≠0):=hZ9 ⟨by rw[<-Y.1];rfl,Y.2⟩;clear HS HN Y;go_wp2_with fail;clear q0 q1 q2 q3 q4 q5 q6;go_roundw
     case rel=>exact⟨j+1,_,by omega,by go_num,rfl,A0,A1,H⟩
     case measure=>simp[intOf];omega
   ·have A7:j=P:=by omega
    have C:Hid (R=acc):=hZ9 (by
     rw[HR.out,y.out 0 1 (λt F=>c.out.2 t F (by rw[A6.out] at F;omega)),c.out.1,A7,Q.out])
    subst A7;clear IH M X s y L B c Q;go_wp2_with fail;go_ret;exact⟨by(rw[C.out])<;>rfl,hb⟩
 by_cases B7:kd=1
 ·subst B7;have HR:Hid (R=FiS.DT A 1 0 ps):=hZ9 (by rw[O.out,aJ (by decide)];rfl);clear O S HH J hA0 B4;go_enter func93,ntmps93;go_wp2_with fail;clear q0 q1 q2 q3 q4 q5 q6;go_loopw [5,21] (λr i wr=>∃(j:Nat) (acc:Int),j<=P/\i=.int .i64 j/\r=.int .i64 acc/\Hid (acc=FiS.DU A 0 (ps.take j)/\∀t (F:t<ps.length),t<j->FiS.Az A (ps[t]'F)≠1)/\Whole wr w.heap.size 36 #[.int .i64 1,q,V,U,ls,.slice a5 AL c5,.slice a6 P c6]/\Below w.heap.size w wr) (λ_ i _=>P-(intOf i).toNat)
  case atStart=>exact⟨0,_,aR _,rfl,rfl,hZ9 ⟨rfl,λt F h=>absurd h (bj _)⟩,A4,f⟩
  case round=>
   obtain⟨j,acc,hj,rfl,rfl,c,hw,hb⟩:=hrel;clear A4 f;by_cases C0:j<P
   ·have a:j<ps.length:=by rw[A6.out];exact C0
    have A5:=L.out j a;have B0:=B.out j a;have h3:=FiS.Fj A (ps[j]'a);have HS:Hid (FiS.Az A (ps[j]'a)=1->R=1):=hZ9 (λh=>by rw[HR.out];exact s.out 1 _ j a h);have HN:Hid (FiS.Az A (ps[j]'a)≠1->(if FiS.Az A (ps[j]'a)=-1 then -1 else acc)=FiS.DU A 0 (ps.take (j+1))/\∀t (F:t<ps.length),t<j+1->FiS.Az A (ps[t]'F)≠1):=hZ9 (λh=>⟨by rw[X.out _ j a,<-c.out.1],λt F C2=>by
     rcases bV (bX C2) with h2|rfl
     ·exact c.out.2 t F h2
     ·exact h⟩)
    obtain⟨d,rfl,g,o,rfl,I,b5,d5,b6,d6,z,y0,y1,y2,y3,y4,y5,y6⟩:=M.out j a;have z:=z.call hb;have y0:=(hb.cell (p:=⟨g,o+j*7,none⟩) I).trans y0;have y1:=(hb.cell (p:=⟨g,o+j*7+1,none⟩) I).trans y1;have y2:=(hb.cell (p:=⟨g,o+j*7+2,none⟩) I).trans y2;have y3:=(hb.cell (p:=⟨g,o+j*7+3,none⟩) I).trans y3;have y4:=(hb.cell (p:=⟨g,o+j*7+4,none⟩) I).trans y4;have y5:=(hb.cell (p:=⟨g,o+j*7+5,none⟩) I).trans y5;have y6:=(hb.cell (p:=⟨g,o+j*7+6,none⟩) I).trans y6;have l:=λv W h hA hE=>IH d rfl (ps[j]'a) v u W h A5 B0 hA hf hE;clear IH M X s y L B c Q;generalize ps[j]=p at*;generalize p.any.length=PA at*;generalize p.parts.length=PP at*;obtain⟨E,T⟩:∃e,FiS.Az A p=e:=⟨_,rfl⟩
    rw[T] at HS HN h3 l;clear T;have D0:(0:Int)<=(j:Int):=by omega
    have C8:(j:Int)<(P:Int):=by omega
    have N:=Af wr (.cells #[p.kind,p.attr,p.value,p.first,p.last,.slice b5 PA d5,.slice b6 PP d6] 36);have A9:=Whole.made wr 36 #[p.kind,p.attr,p.value,p.first,p.last,.slice b5 PA d5,.slice b6 PP d6];obtain⟨x0,x1,x2,x3,x4,x5,x6⟩:=A9.seven;have K:=hb.trans (N.mono hb.size);have A8:=hw.call N;have hc:=l _ _ (z.call N) (Aw.call hA K) (hE.below K);clear l z A9 N hw hb;go_wp2_with fail;refine hc.mono ?_;rintro e w2 ⟨rfl,G⟩;have H:=K.trans (G.mono K.size);have A1:=A8.call G;clear hc x0 x1 x2 x3 x4 x5 x6 A8 G K;obtain⟨q0,q1,q2,q3,q4,q5,q6⟩:=A1.seven;rcases h3 with rfl|rfl|rfl
    ·have Y:=HN.out (by decide);have A0:Hid ((-1:Int)=FiS.DU A 0 (ps.take (j+1))/\∀t (F:t<ps.length),t<j+1->FiS.Az A (ps[t]'F)≠1):=hZ9 ⟨by rw[<-Y.1];rfl,Y.2⟩;clear HS HN Y;go_wp2_with fail;clear q0 q1 q2 q3 q4 q5 q6;go_roundw
     case rel=>exact⟨j+1,_,by omega,by go_num,rfl,A0,A1,H⟩
     case measure=>simp[intOf];omega
    ·have Y:=HN.out (by decide);have A0:Hid (acc=FiS.DU A 0 (ps.take (j+1))/\∀t (F:t<ps.length),t<j+1->FiS.Az A (ps[t]'F)≠1):=hZ9 ⟨by rw[<-Y.1];rfl,Y.2⟩;clear HS HN Y;go_wp2_with fail;clear q0 q1 q2 q3 q4 q5 q6;go_roundw
     case rel=>exact⟨j+1,_,by omega,by go_num,rfl,A0,A1,H⟩
     case measure=>simp[intOf];omega
    ·have C:=hZ9 (HS.out rfl);clear HS HN;go_wp2_with fail;go_ret;exact⟨by(rw[C.out])<;>rfl,H⟩
   ·have A7:j=P:=by omega
    have C:Hid (R=acc):=hZ9 (by
     rw[HR.out,y.out 1 0 (λt F=>c.out.2 t F (by rw[A6.out] at F;omega)),c.out.1,A7,Q.out])
    subst A7;clear IH M X s y L B c Q;go_wp2_with fail;go_ret;exact⟨by(rw[C.out])<;>rfl,hb⟩
 have k0:(kd==0)=false:=by simpa using B9
 have k1:(kd==1)=false:=by simpa using B7
 clear X s y Q;by_cases B3:kd=2
 ·subst B3;have C3:ps.length=1:=FiS.YE J;have C4:P=1:=by rw[<-A6.out];exact C3
  subst C4;have a:0<ps.length:=by omega
  have HR:Hid (R=FiS.notE (FiS.Az A (ps[0]'a))):=hZ9 (by
   rw[O.out,aG (by decide),aJ rfl]
   match ps,a with
   |p :: r,_=>rfl)
  have A5:=L.out 0 a;have B0:=B.out 0 a;have h3:=FiS.Fj A (ps[0]'a);obtain⟨d,rfl,g,o,rfl,I,b5,d5,b6,d6,z,y0,y1,y2,y3,y4,y5,y6⟩:=M.out 0 a;have z:=z.call f;simp only[cN,Nat.add_zero] at y0 y1 y2 y3 y4 y5 y6;have y0:=(f.cell (p:=⟨g,o,none⟩) I).trans y0;have y1:=(f.cell (p:=⟨g,o+1,none⟩) I).trans y1;have y2:=(f.cell (p:=⟨g,o+2,none⟩) I).trans y2;have y3:=(f.cell (p:=⟨g,o+3,none⟩) I).trans y3;have y4:=(f.cell (p:=⟨g,o+4,none⟩) I).trans y4;have y5:=(f.cell (p:=⟨g,o+5,none⟩) I).trans y5;have y6:=(f.cell (p:=⟨g,o+6,none⟩) I).trans y6;have l:=λv W h hA hE=>IH d rfl (ps[0]'a) v u W h A5 B0 hA hf hE;clear IH M L B O S HH J;generalize ps[0]=p at*;generalize p.any.length=PA at*;generalize p.parts.length=PP at*;obtain⟨E,T⟩:∃e,FiS.Az A p=e:=⟨_,rfl⟩
  rw[T] at HR h3 l;clear T;have hc:=l _ _ z hA0 B4;have C1:=λb w=>AbA b w;clear l z;go_enter func93,ntmps93;go_wp2_with fail;refine hc.mono ?_;rintro e w2 ⟨rfl,G⟩;have H:=f.trans (G.mono f.size);clear hc q0 q1 q2 q3 q4 q5 q6 y0 y1 y2 y3 y4 y5 y6 G;rcases h3 with rfl|rfl|rfl
  ·have C:Hid (R=-1):=HR;clear HR C1;go_wp2_with fail;go_ret;exact⟨by(rw[C.out])<;>rfl,H⟩
  ·have C:Hid (R=1):=HR;clear HR;go_wp2_with fail;refine(C1 _ _).mono ?_;rintro e w3 ⟨rfl,rfl⟩;go_wp2_with fail;go_ret;exact⟨by(rw[C.out])<;>rfl,H⟩
  ·have C:Hid (R=0):=HR;clear HR;go_wp2_with fail;refine(C1 _ _).mono ?_;rintro e w3 ⟨rfl,rfl⟩;go_wp2_with fail;go_ret;exact⟨by(rw[C.out])<;>rfl,H⟩
 have k2:(kd==2)=false:=by simpa using B3
 have HR:Hid (R=FiS.Dx A kd q V U ls an):=hZ9 (by rw[O.out,aG (by omega),aG B3]);have hc:=S _ (HH.out.call f) hA0 B4;clear O S IH M L B J B9 B7 B3 HH;obtain⟨LE,C6⟩:∃r,FiS.Dx A kd q V U ls an=r:=⟨_,rfl⟩
 rw[C6] at hc HR;clear C6;go_enter func93,ntmps93;go_wp2_with fail;refine hc.mono ?_;rintro e w2 ⟨rfl,G⟩;have H:=f.trans (G.mono f.size);clear hc q0 q1 q2 q3 q4 q5 q6 G;go_wp2_with fail;go_ret;exact⟨by(rw[HR.out])<;>rfl,H⟩)
theorem AdG(n:Nat)(x:Fi)(v u:Value)(A:List EnS.At)(w:World)(h:BF n w v x)(q:FiS.wdF 20000 x)(hA:BA w u A)(N:KC A)(hE:Env w):Calls prog 58 #[v,u] w (Gq (FiS.Hh A x) w):=by
 have o:=λW h=>Ql n x v W h q;have g:=λW M h hA hE=>Agx A n x v u W h q M hA N hE;have d:Hid (FiS.Hh A x=if FiS.formedS x=true then FiS.Az A x else -1):=hZ9 rfl;have m:Hid (FiS.formedS x=true->FiS.Dm x=true):=hZ9 (λh=>by unfold FiS.formedS at h;simp only[bC] at h;exact h.2.2);obtain⟨R,hR⟩:∃r,FiS.Hh A x=r:=⟨_,rfl⟩
 obtain⟨E,p⟩:∃r,FiS.Az A x=r:=⟨_,rfl⟩
 rw[hR] at d⊢;rw[p] at d g;clear hR p;unfold AP Gq at*;have F:=hZ9 h;obtain⟨a5,c5,L,K,O,_,_,_⟩:=FiV.parts h;generalize x.any.length=AL at*;generalize x.parts.length=PL at*;generalize x.kind=kd at*;generalize x.attr=at0 at*;generalize x.value=vl at*;generalize x.first=fs at*;generalize x.last=ls at*;subst O;have f:=Af w (.cells #[kd,at0,vl,fs,ls,.slice a5 AL c5,.slice L PL K] 36);have l:=Whole.made w 36 #[kd,at0,vl,fs,ls,.slice a5 AL c5,.slice L PL K];obtain⟨z,t,I,J,G,H,s⟩:=l.seven;have a:=o _ (h.call f);clear o h;cases b:FiS.formedS x with
 |false=>rw[b] at a;have k:Hid (R=-1):=hZ9 (by rw[d.out,b];rfl);clear b d m g F;go_enter func58,ntmps58;go_wp2_with fail;refine a.mono ?_;rintro e w2 ⟨rfl,i⟩;have c:=f.trans (i.mono f.size);clear a;go_wp2_with fail;go_ret;exact⟨by(rw[k.out])<;>rfl,c⟩
 |true=>rw[b] at a;have k:Hid (R=E):=hZ9 (by rw[d.out,b];rfl);have j:=λW h hA hE=>g W (m.out b) h hA hE;clear b d m g;go_enter func58,ntmps58;go_wp2_with fail;refine a.mono ?_;rintro e w2 ⟨rfl,i⟩;have c:=f.trans (i.mono f.size);have B:=l.call i;clear a z t I J G H s l;obtain⟨z,t,I,J,G,H,s⟩:=B.seven;have hc:=j _ (F.out.call c) (Aw.call hA c) (hE.below c);clear j F;go_wp2_with fail;refine hc.mono ?_;rintro e w3 ⟨rfl,C⟩;have y:=c.trans (C.mono c.size);clear hc z t I J G H s;go_wp2_with fail;go_ret;exact⟨by(rw[k.out])<;>rfl,y⟩
end
