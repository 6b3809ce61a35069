/- The walks of how the program evaluates a filter. Conditions: as stated. -/
import Derived.Test.YtgngjfjaelgaeaaGreatDoorJFiq
import Derived.Test.YtgngjfjaelgaeaaGreatDoorJEna
set_option maxRecDepth 100000
set_option maxHeartbeats 16000000
namespace Go.Proofs.YtgngjfjaelgaeaaGreatDoor
open Go.Proofs.Tryz
section
namespace FiS
theorem KO {t x:List UInt8}:∀{A:List EnS.At},x ∈ GZ t A↔∃a ∈ A,(RuS.typeOf a.typ).1=t/\x ∈ a.vals
 | []=>by simp [GZ]
 | a :: r=>by
  rw [GZ,b9,KO (A:=r)];constructor
  · rintro (h | ⟨b,hb,h1,h2⟩)
    · split at h
      · rename_i c;exact ⟨a,ai ..,c,h⟩
      · cases h
    · exact ⟨b,ar _ hb,h1,h2⟩
  · rintro ⟨b,hb,h1,h2⟩;rcases ay.1 hb with rfl | hb
    · left;rw [aP h1];exact h2
    · exact .inr ⟨b,hb,h1,h2⟩
theorem AaN {t:List UInt8} {A:List EnS.At} {P:List UInt8->Bool} {j m:Nat} (a:j<A.length) (c:(RuS.typeOf (A[j]'a).typ).1=t) (b:m<(A[j]'a).vals.length) (h:P ((A[j]'a).vals[m]'b)=true):(GZ t A).any P=true:=
 fV.2 ⟨_,KO.2 ⟨_,aZ a,c,aZ b⟩,h⟩
theorem AcY {t:List UInt8} {A:List EnS.At} {P:List UInt8->Bool} (h:∀j (b:j<A.length),(RuS.typeOf (A[j]'b).typ).1=t->∀x ∈ (A[j]'b).vals,P x=false):(GZ t A).any P=false:=by rw [gq];intro x hx;obtain ⟨a,c,h1,h2⟩:=KO.1 hx;obtain ⟨j,b,rfl⟩:=bf.1 c;rw [h j b h1 x h2];simp
end FiS
open Go.RowKit
open FiS (Fi)
attribute [local go_sem ↓] Go.wp_at_zero Go.wp_at_succ
def MB (A:List EnS.At):Prop:=GW A/\∀x ∈ A,x.typ.length<=1048576
def MC (r:Int) (w:World) (e:Ending) (w':World):Prop:=e=.returned (.int .i64 r)/\Below w.heap.size w w'
theorem AcZ (n:Nat) (x:Fi) (v u:Value) (A:List EnS.At) (w:World) (h:Dh n w v x) (Z:FiS.wdF 20000 x) (hA:Cj w u A) (hf:MB A) (hE:Env w):Calls prog 128 #[v,u] w (MC (FiS.FP A x.kind x.attr x.value x.first x.last x.any) w):=by
 obtain ⟨⟨G7,D9⟩,E2⟩:=hf;have hsz:x.attr.length<=20000/\x.value.length<=20000:=by cases x;rw [FiS.wdF] at Z;exact ⟨Z.1.1,Z.1.2.1⟩
 have s:Hid (∀(t:List UInt8) (z:Int) (W:World),(RuS.typeOf x.attr).2=z->Dh n W v x->t.length<=1000000->Env W->Calls prog 160 #[v,.string ⟨t.toArray⟩,.int .i64 z] W (BB (FiS.Gj x.kind x.attr x.value x.first x.last x.any t) W)):=hZ9 (fun t z W N h q hE=>AaM n x v t z N W h Z q hE);obtain ⟨PF,C6⟩:∃f:List UInt8->Bool,(fun y=>decide (x.kind=7)||FiS.Gj x.kind x.attr x.value x.first x.last x.any y)=f:=⟨_,rfl⟩
 have O:Hid (∀y,PF y=(decide (x.kind=7)||FiS.Gj x.kind x.attr x.value x.first x.last x.any y)):=hZ9 (fun y=>(congrFun C6 y).symm);have I:Hid (FiS.FP A x.kind x.attr x.value x.first x.last x.any=if FiS.PH x.kind x.attr x.value=true then -1 else if (FiS.GZ (RuS.typeOf x.attr).1 A).any PF=true then 1 else 0):=hZ9 (by unfold FiS.FP;rw [<-C6]);obtain ⟨R,hR⟩:∃r,FiS.FP A x.kind x.attr x.value x.first x.last x.any=r:=⟨_,rfl⟩
 rw [hR] at I⊢;clear hR C6;obtain ⟨VE,D8⟩:∃f:List UInt8->Bool,(fun y=>FiS.Gj x.kind x.attr x.value x.first x.last x.any y)=f:=⟨_,rfl⟩
 have A3:∀y,FiS.Gj x.kind x.attr x.value x.first x.last x.any y=VE y:=fun y=>congrFun D8 y;simp only [A3] at s O;clear D8 A3;have a:Hid (FiS.PH x.kind x.attr x.value=(decide ((RuS.typeOf x.attr).2=0)||(decide (x.kind=4)&&decide (2<(RuS.typeOf x.attr).2))||((decide (x.kind=5)||decide (x.kind=6))&&(decide ((RuS.typeOf x.attr).2=2)||decide ((RuS.typeOf x.attr).2=5)))||(decide (x.kind≠4)&&decide (x.kind≠7)&&decide ((DnS.AG x.attr x.value).2≠0)))):=hZ9 rfl;have HH:=hZ9 h;obtain ⟨a5,c5,a6,c6,hv,_,_,_⟩:=FiV.parts h;have B0:∀W,Calls prog 51 #[.string ⟨x.attr.toArray⟩] W (Ar x.attr W):=fun W=>Gq ⟨x.attr.toArray⟩ (by rw [Ez];omega) W;have B1:=fun W hE=>GM x.attr x.value (by omega) (by omega) W hE;unfold Ar at B0;unfold Cb at B1;obtain ⟨B,hB⟩:∃b,FiS.PH x.kind x.attr x.value=b:=⟨_,rfl⟩
 rw [hB] at a I;clear hB h hsz;generalize DnS.AG x.attr x.value=DV at*;generalize RuS.typeOf x.attr=TT at*;obtain ⟨Y,z⟩:=TT;obtain ⟨D1,D2⟩:=DV;simp only at B0 B1 s a I;generalize x.any.length=AL at*;generalize x.parts.length=PL at*;generalize x.kind=kd at*;generalize x.attr=at0 at*;generalize x.value=vl at*;generalize x.first=fs at*;generalize x.last=ls at*;subst hv;unfold MC BB at*;have B5:=Af w (.cells #[.int .i64 kd,.string ⟨at0.toArray⟩,.string ⟨vl.toArray⟩,.string ⟨fs.toArray⟩,.string ⟨ls.toArray⟩,.slice a5 AL c5,.slice a6 PL c6] 36);have C4:=Whole.made w 36 #[.int .i64 kd,.string ⟨at0.toArray⟩,.string ⟨vl.toArray⟩,.string ⟨fs.toArray⟩,.string ⟨ls.toArray⟩,.slice a5 AL c5,.slice a6 PL c6];obtain ⟨q0,q1,q2,q3,q4,q5,q6⟩:=C4.seven;obtain ⟨aa,ac,rfl,G3,E1⟩:=Ad.at hA;have B2:=hZ9 E1;have A5:=hZ9 (fun j (hj:j<A.length)=>(D9 A[j] (aZ hj)));have K:=hZ9 (fun j (hj:j<A.length)=>E2 A[j] (aZ hj));have L:=hZ9 (fun j m (hj:j<A.length) (q:(RuS.typeOf (A[j]'hj).typ).1=Y) (hm:m<(A[j]'hj).vals.length) (h:PF ((A[j]'hj).vals[m]'hm)=true)=>FiS.AaN (P:=PF) hj q hm h);have A6:=hZ9 (@FiS.AcY Y A PF);clear E1 hA D9 E2;obtain ⟨NA,C3⟩:∃k,A.length=k:=⟨_,rfl⟩
 have E6:=hZ9 C3;rw [C3] at G3 G7⊢;clear C3;go_enter func128,ntmps128;go_wp2_with fail;refine (B0 _).mono ?_;rintro e w2 ⟨rfl,B8⟩;have A8:=B5.trans (B8.mono B5.size);have C7:=C4.call B8;clear q0 q1 q2 q3 q4 q5 q6 B8;obtain ⟨q0,q1,q2,q3,q4,q5,q6⟩:=C7.seven;have A1:=B1 w2 (hE.below A8);clear B1;go_wp2_with fail;refine A1.mono ?_;rintro e w3 ⟨rfl,B9⟩;have H:=A8.trans (B9.mono A8.size);have C2:=C7.call B9;clear q0 q1 q2 q3 q4 q5 q6 A1 B9 C7 C4 A8 B5;obtain ⟨q0,q1,q2,q3,q4,q5,q6⟩:=C2.seven;go_upto_block 0 with fail;have S:Hid (B=true->R=-1):=hZ9 (fun h=>by rw [I.out,h];rfl);go_cut [29] (fun b wd=>B=false/\wd=w3)
 case first=>
  clear B2 A5 K L A6 s O I B0 HH;by_cases h0:z=0
  case pos=>have G:Hid (B=true):=hZ9 (by rw [a.out];simp [h0]);subst h0;clear a;have l:=hZ9 (S.out G.out);go_wp2_with fail;go_ret;exact ⟨by (rw [l.out]) <;> rfl,H⟩
  have e0:(z==0)=false:=by simpa using h0
  by_cases h4:kd=4
  case pos=>
   subst h4;by_cases h2:2<z
   · have G:Hid (B=true):=hZ9 (by rw [a.out];simp [h2]);have e2:decide (2<z)=true:=aL h2;clear a;have l:=hZ9 (S.out G.out);go_wp2_with fail;go_ret;exact ⟨by (rw [l.out]) <;> rfl,H⟩
   · have G:Hid (B=false):=hZ9 (by rw [a.out];simp [h2,h0]);have e2:decide (2<z)=false:=aC h2;clear a;go_wp2_with fail;go_meet;exact ⟨G.out,rfl⟩
  have e4:(kd==4)=false:=by simpa using h4
  have H4:(kd !=4)=true:=by simpa using h4
  by_cases h7:kd=7
  case pos=>subst h7;have G:Hid (B=false):=hZ9 (by rw [a.out];simp [h0]);clear a;go_wp2_with fail;go_meet;exact ⟨G.out,rfl⟩
  have e7:(kd==7)=false:=by simpa using h7
  have H5:(kd !=7)=true:=by simpa using h7
  by_cases N:z=2\/z=5
  case pos=>
   have es:(z==2)=true\/((z==2)=false/\(z==5)=true):=by
    by_cases h2:z=2
    · exact .inl (by simpa using h2)
    · exact .inr ⟨by simpa using h2,by simpa using N.resolve_left h2⟩
   by_cases h56:kd=5\/kd=6
   case pos=>
    have G:Hid (B=true):=hZ9 (by rw [a.out];rcases h56 with h | h <;> rcases N with h' | h' <;> simp [h,h']);have ek:(kd==5)=true\/((kd==5)=false/\(kd==6)=true):=by
     by_cases h2:kd=5
     · exact .inl (by simpa using h2)
     · exact .inr ⟨by simpa using h2,by simpa using h56.resolve_left h2⟩
    clear a N h56;rcases es with s2 | ⟨s2,s5⟩
    all_goals rcases ek with k5 | ⟨k5,k6⟩
    all_goals (
     have l:=hZ9 (S.out G.out);go_wp2_with fail;go_ret;exact ⟨by (rw [l.out]) <;> rfl,H⟩)
   have k5:(kd==5)=false:=by simpa using fun h=>h56 (.inl h)
   have k6:(kd==6)=false:=by simpa using fun h=>h56 (.inr h)
   by_cases hd:D2=0
   · have G:Hid (B=false):=hZ9 (by rw [a.out];simp [h0,h4,hd];intro h;exact absurd h h56);have ed:(D2 !=0)=false:=by simpa using hd
     clear a N h56;go_wp2_with fail;go_meet;exact ⟨G.out,rfl⟩
   · have G:Hid (B=true):=hZ9 (by rw [a.out];simp [h4,h7,hd]);have ed:(D2 !=0)=true:=by simpa using hd
     clear a N h56;have l:=hZ9 (S.out G.out);go_wp2_with fail;go_ret;exact ⟨by (rw [l.out]) <;> rfl,H⟩
  have s2:(z==2)=false:=by simpa using fun h=>N (.inl h)
  have s5:(z==5)=false:=by simpa using fun h=>N (.inr h)
  have F1:¬z=2:=fun h=>N (.inl h);have F3:¬z=5:=fun h=>N (.inr h);have ek:(kd==5)=true\/((kd==5)=false/\(kd==6)=true)\/((kd==5)=false/\(kd==6)=false):=by cases (kd==5) <;> cases (kd==6) <;> simp
  by_cases hd:D2=0
  · have G:Hid (B=false):=hZ9 (by rw [a.out];simp [h0,h4,hd,F1,F3]);have ed:(D2 !=0)=false:=by simpa using hd
    clear a N;rcases ek with k5 | ⟨k5,k6⟩ | ⟨k5,k6⟩
    all_goals (
     go_wp2_with fail;go_meet;exact ⟨G.out,rfl⟩)
  · have G:Hid (B=true):=hZ9 (by rw [a.out];simp [h4,h7,hd]);have ed:(D2 !=0)=true:=by simpa using hd
    clear a N;rcases ek with k5 | ⟨k5,k6⟩ | ⟨k5,k6⟩
    all_goals (
     have l:=hZ9 (S.out G.out);go_wp2_with fail;go_ret;exact ⟨by (rw [l.out]) <;> rfl,H⟩)
 case rest=>
  obtain ⟨F5,rfl⟩:=hcut;subst F5;clear a S;have l:Hid (R=if (FiS.GZ Y A).any PF=true then 1 else 0):=hZ9 (by rw [I.out];rfl);clear I;have D6:(kd==7)=decide (kd=7):=by by_cases h:kd=7 <;> simp [h]
  go_wp2_with fail;clear q0 q1 q2 q3 q4 q5 q6;go_loopw [69] (fun i wr=>∃j:Nat,j<=NA/\i=.int .i64 j/\Whole wr w.heap.size 36 #[.int .i64 kd,.string ⟨at0.toArray⟩,.string ⟨vl.toArray⟩,.string ⟨fs.toArray⟩,.string ⟨ls.toArray⟩,.slice a5 AL c5,.slice a6 PL c6]/\Below w.heap.size w wr/\Hid (∀t (q:t<A.length),t<j->(RuS.typeOf (A[t]'q).typ).1=Y->∀y ∈ (A[t]'q).vals,PF y=false)) (fun i _=>NA - (intOf i).toNat)
  case atStart=>exact ⟨0,aR _,rfl,C2,H,hZ9 (fun t q h=>absurd h (cu _))⟩
  case round=>
   obtain ⟨j,hj,rfl,hw,hb,M⟩:=hrel;clear C2 H;by_cases G2:j<NA
   · have d:j<A.length:=by rw [E6.out];exact G2
     have D7:=L.out j;obtain ⟨g,o,rfl,hg,_,hra⟩:=B2.out j d;obtain ⟨c0,a2,p2,c1,E7,hu⟩:=BH.parts hra;have F0:=K.out j d;obtain ⟨D5,A2⟩:=A5.out j d;have c:Hid (((RuS.typeOf (A[j]'d).typ).1=Y->∀y ∈ (A[j]'d).vals,PF y=false)->∀t (q:t<A.length),t<j+1->(RuS.typeOf (A[t]'q).typ).1=Y->∀y ∈ (A[t]'q).vals,PF y=false):=hZ9 (fun h t q F2=>by
      rcases br (cF F2) with h2 | rfl
      · exact M.out t q h2
      · exact h)
     have Q:Hid (∀m (hm:m<(A[j]'d).vals.length),(RuS.typeOf (A[j]'d).typ).1=Y->PF ((A[j]'d).vals[m]'hm)=true->R=1):=hZ9 (fun m hm q hp=>by rw [l.out,aP (D7 m d q hm hp)]);clear hra B2 K A5 L A6 M D7 l;generalize A[j]=at1 at*;obtain ⟨ty,vals⟩:=at1;simp only at c0 c1 E7 hu F0 D5 A2 c Q;obtain ⟨n2,C5⟩:∃k,vals.length=k:=⟨_,rfl⟩
     have E5:=hZ9 C5;rw [C5] at c1 E7 D5 hu;clear C5;replace c0:wr.cell? ⟨g,o+j*2,none⟩=some (.string ⟨ty.toArray⟩):=(hb.cell (p:=⟨g,o+j*2,none⟩) hg).trans c0;replace c1:wr.cell? ⟨g,o+j*2+1,none⟩=some (.slice a2 n2 p2):=(hb.cell (p:=⟨g,o+j*2+1,none⟩) hg).trans c1;have J:∀W,Calls prog 51 #[.string ⟨ty.toArray⟩] W (Ar ty W):=fun W=>Gq ⟨ty.toArray⟩ (by rw [Ez];omega) W;unfold Ar at J;have B4:=Af wr (.cells #[.string ⟨ty.toArray⟩,.slice a2 n2 p2] 56);have B7:=Whole.made wr 56 #[.string ⟨ty.toArray⟩,.slice a2 n2 p2];have C1:=hb.trans (B4.mono hb.size);have A4:=hw.call B4;have z0:=B7.cell 0;simp only [aI,aH] at z0;have H3:(0:Int)<=(j:Int):=by omega
     have H7:(j:Int)<(NA:Int):=by omega
     generalize RuS.typeOf ty=TY at*;obtain ⟨V,H0⟩:=TY;simp only at J c Q;clear hw B4 hb;go_wp2_with fail;refine (J _).mono ?_;rintro e w4 ⟨rfl,A7⟩;have D3:=C1.trans (A7.mono C1.size);have C0:=A4.call A7;have A0:=B7.call A7;have z1:=A0.cell 1;simp only [aI,aK,aH] at z1;clear J A4 B7 z0 c0 c1 C1 A7 A0;by_cases hq:V=Y
     case neg=>
      have F4:(V !=Y)=true:=by simpa using hq
      have G9:(V==Y)=false:=by simpa using hq
      have C9:=hZ9 (c.out (fun h=>absurd h hq));clear c Q hq;go_wp2_with fail;go_roundw
      case rel=>exact ⟨j+1,by omega,by go_num,C0,D3,C9⟩
      case measure=>simp [intOf];omega
     subst hq;have F4:(V !=V)=false:=by simp
     obtain ⟨a3,c3,e3,G0,T⟩:=Ad.at hu;injection e3 with e4 e5 e6;rw [<-e4] at T;have B6:=hZ9 T;clear T e4 e5 e6 hu G0;go_wp2_with fail;clear z1;go_loopw [85] (fun i wn=>∃m:Nat,m<=n2/\i=.int .i64 m/\Whole wn w.heap.size 36 #[.int .i64 kd,.string ⟨at0.toArray⟩,.string ⟨vl.toArray⟩,.string ⟨fs.toArray⟩,.string ⟨ls.toArray⟩,.slice a5 AL c5,.slice a6 PL c6]/\Below w.heap.size w wn/\Hid (∀t (q:t<vals.length),t<m->PF (vals[t]'q)=false)) (fun i _=>n2 - (intOf i).toNat)
     case atStart=>exact ⟨0,aR _,rfl,C0,D3,hZ9 (fun t q h=>absurd h (cu _))⟩
     case round=>
      obtain ⟨m,hm,rfl,hw,hb,HV⟩:=hrel;clear C0 D3;obtain ⟨q0,q1,q2,q3,q4,q5,q6⟩:=hw.seven;by_cases D4:m<n2
      · have E:m<vals.length:=by rw [E5.out];exact D4
        obtain ⟨g3,o3,F7,H2,_,E4⟩:=B6.out m E;have E8:=A2 _ (aZ E);have U:=hZ9 (Q.out m E (by first | rfl | trivial));have A9:Hid (PF (vals[m]'E)=false->∀t (q:t<vals.length),t<m+1->PF (vals[t]'q)=false):=hZ9 (fun h t q G6=>by
         rcases br (cF G6) with h2 | rfl
         · exact HV.out t q h2
         · exact h)
        generalize vals[m]=y at*;have E9:wr.cell? ⟨g3,o3+m,none⟩=wr.cell? ⟨g3,o3+m,none⟩:=rfl;subst F7;have E0:∀W,Below w.heap.size w W->W.cell? ⟨g3,o3+m,none⟩=some (.string ⟨y.toArray⟩):=fun W G8=>by have:w.cell? ⟨g3,o3+m*1,none⟩=some (Ac y):=E4;rw [cK] at this;exact Ab this G8
        have H6:=E0 _ hb;have H1:(0:Int)<=(m:Int):=by omega
        have H8:(m:Int)<(n2:Int):=by omega
        have B3:=hZ9 (O.out y);have C:=s.out y z _ rfl (HH.out.call hb) E8 (hE.below hb);clear E0 E4 E9 s HH B6 O Q HV;by_cases h7:kd=7
        case pos=>
         have F9:(kd==7)=true:=by simpa using h7
         have D0:Hid (R=1):=hZ9 (U.out (by rw [B3.out];simp [h7]));clear C U A9 B3 h7 D6 c;go_wp2_with fail;go_ret;exact ⟨by (rw [D0.out]) <;> rfl,hb⟩
        have F9:(kd==7)=false:=by simpa using h7
        have F:Hid (PF y=VE y):=hZ9 (by rw [B3.out];simp [h7]);obtain ⟨vy,E3⟩:∃b,VE y=b:=⟨_,rfl⟩
        rw [E3] at C F;clear E3 B3 h7 D6;cases vy with
        | true=>have D0:Hid (R=1):=hZ9 (U.out F.out);clear U A9 F c;go_wp2_with fail;refine C.mono ?_;rintro e w5 ⟨rfl,X⟩;have C8:=hb.trans (X.mono hb.size);clear C q0 q1 q2 q3 q4 q5 q6;go_wp2_with fail;go_ret;exact ⟨by (rw [D0.out]) <;> rfl,C8⟩
        | false=>
         have G4:=hZ9 (A9.out F.out);clear U A9 F c;go_wp2_with fail;refine C.mono ?_;rintro e w5 ⟨rfl,X⟩;have C8:=hb.trans (X.mono hb.size);have G5:=hw.call X;clear C q0 q1 q2 q3 q4 q5 q6 hw X;go_wp2_with fail;go_roundw
         case rel=>exact ⟨m+1,by omega,by go_num,G5,C8,G4⟩
         case measure=>simp [intOf];omega
      · have G1:m=n2:=by omega
        have C9:=hZ9 (c.out (fun _ y hy=>by
         obtain ⟨t,q,rfl⟩:=bf.1 hy;exact HV.out t q (by rw [E5.out] at q;omega)))
        subst G1;clear c Q s HH B6 O HV;go_wp2_with fail;go_roundw
        case rel=>exact ⟨j+1,by omega,by go_num,hw,hb,C9⟩
        case measure=>simp [intOf];omega
   · have F6:j=NA:=by omega
     have F8:Hid (R=0):=hZ9 (by rw [l.out,aG];rw [A6.out (fun t q h y hy=>M.out t q (by rw [E6.out] at q;omega) h y hy)];simp);subst F6;clear B2 K A5 L A6 M l s O HH;go_wp2_with fail;go_ret;exact ⟨by (rw [F8.out]) <;> rfl,hb⟩
end
section
namespace FiS
theorem UK:∀{ps:List Fi},allL ps=true->∀j (hj:j<ps.length),Dp (ps[j]'hj)=true
 | [],_,j,hj=>by simp at hj
 | p :: r,h,0,_=>by rw [allL,bA] at h;exact h.1
 | p :: r,h,j+1,hj=>by rw [allL,bA] at h;exact UK h.2 j (by simpa using hj)
theorem Ae8 {a v f l:List UInt8} {s:List (List UInt8)} {ps:List Fi} (h:Hj (.mk 2 a v f l s ps)=true):ps.length=1:=by have h:Ny 2 a v f l s ps.length=true:=h;unfold Ny at h;rw [aG (by decide),aP rfl] at h;simp only [bA,az] at h;exact h.2
end FiS
open Go.RowKit
open FiS (Fi)
attribute [local go_sem ↓] Go.wp_at_zero Go.wp_at_succ
theorem AaO (b:Bool) (w:World):Calls prog 127 #[.bool b] w fun e w'=>e=.returned (.int .i64 (if b=true then 1 else 0))/\w=w':=by
 cases b
 all_goals
  go_enter func127,ntmps127;go_wp2_with fail;go_ret;exact ⟨rfl,rfl⟩
def EvC (A:List EnS.At) (n:Nat):Prop:=∀(x:Fi) (v u:Value) (w:World),Dh n w v x->FiS.wdF 20000 x->FiS.Dp x=true->Cj w u A->MB A->Env w->Calls prog 93 #[v,u] w (MC (FiS.AE A x) w)
theorem AfF (A:List EnS.At):∀n,EvC A n:=Fg (fun n IH=>by
 unfold EvC at*;intro x v u w h B6 B1 hA hf hE;have C7:=fun W h hA hE=>AcZ n x v u A W h B6 hA hf hE;have HH:=hZ9 h;obtain ⟨kd,q,V,U,ls,an,ps⟩:=x;obtain ⟨a5,c5,a6,c6,hv,B3,B7,A8⟩:=FiV.parts h;have hv:v=.agg #[.int .i64 kd,.string ⟨q.toArray⟩,.string ⟨V.toArray⟩,.string ⟨U.toArray⟩,.string ⟨ls.toArray⟩,.slice a5 an.length c5,.slice a6 ps.length c6]:=hv;subst hv;have B3:Ah w (.slice a5 an.length c5) an:=B3;have B7:ps.length<=c6:=B7;have A8:BC n (fun _=>True) w (.slice a6 ps.length c6) ps:=A8;rw [FiS.wdF] at B6;obtain ⟨_,_,_,C8,C6⟩:=B6;have N:=hZ9 (FiS.Ho.1 C6);clear C6;rw [FiS.Dp,bA] at B1;obtain ⟨J,B2⟩:=B1;have z:=hZ9 (FiS.UK B2);have O:Hid (FiS.AE A (.mk kd q V U ls an ps)=if kd=0\/kd=1 then FiS.DG A kd (1 - kd) ps else if kd=2 then FiS.notE (FiS.TX A ps) else FiS.FP A kd q V U ls an):=hZ9 (by rw [FiS.AE]);obtain ⟨R,hR⟩:∃r,FiS.AE A (.mk kd q V U ls an ps)=r:=⟨_,rfl⟩
 rw [hR] at O⊢;clear hR;have A0:=hZ9 (fun acc j (hj:j<ps.length)=>FiS.Ru (A:=A) (acc:=acc) hj);have s:=hZ9 (fun k acc j (hj:j<ps.length) h=>FiS.PI A k acc ps j hj h);have y:=hZ9 (fun k acc h=>@FiS.Rw A k acc ps h);have T:Hid (ps.take ps.length=ps):=hZ9 (bE);obtain ⟨AL,A2⟩:∃m,an.length=m:=⟨_,rfl⟩
 obtain ⟨P,Z⟩:∃m,ps.length=m:=⟨_,rfl⟩
 have D1:=hZ9 A2;have A6:=hZ9 Z;rw [A2] at B3;rw [Z] at B7 A8
 try rw [A2]
 try rw [Z]
 have S:∀W,Dh n W (.agg #[.int .i64 kd,.string ⟨q.toArray⟩,.string ⟨V.toArray⟩,.string ⟨U.toArray⟩,.string ⟨ls.toArray⟩,.slice a5 AL c5,.slice a6 P c6]) (.mk kd q V U ls an ps)->Cj W u A->Env W->Calls prog 128 #[.agg #[.int .i64 kd,.string ⟨q.toArray⟩,.string ⟨V.toArray⟩,.string ⟨U.toArray⟩,.string ⟨ls.toArray⟩,.slice a5 AL c5,.slice a6 P c6],u] W (MC (FiS.FP A kd q V U ls an) W):=fun W h hA hE=>by have:=C7 W (by rw [<-A2,<-Z] at h;exact h) hA hE;rw [<-A2,<-Z];exact this
 rw [Z] at T C8;have HH:Hid (Dh n w (.agg #[.int .i64 kd,.string ⟨q.toArray⟩,.string ⟨V.toArray⟩,.string ⟨U.toArray⟩,.string ⟨ls.toArray⟩,.slice a5 AL c5,.slice a6 P c6]) (.mk kd q V U ls an ps)):=hZ9 (by rw [<-A2,<-Z];exact h);have f:=Af w (.cells #[.int .i64 kd,.string ⟨q.toArray⟩,.string ⟨V.toArray⟩,.string ⟨U.toArray⟩,.string ⟨ls.toArray⟩,.slice a5 AL c5,.slice a6 P c6] 36);have A5:=Whole.made w 36 #[.int .i64 kd,.string ⟨q.toArray⟩,.string ⟨V.toArray⟩,.string ⟨U.toArray⟩,.string ⟨ls.toArray⟩,.slice a5 AL c5,.slice a6 P c6];have L:=hZ9 (fun j (hj:j<ps.length)=>BC.at A8 j hj);obtain ⟨q0,q1,q2,q3,q4,q5,q6⟩:=A5.seven;have hA0:=Ax.call hA f;have B5:=hE.below f;unfold MC at*;clear C7 h B3 A8;by_cases C1:kd=0
 · subst C1;have HR:Hid (R=FiS.DG A 0 1 ps):=hZ9 (by rw [O.out,aP (by decide)];rfl);clear O S HH J hA0 B5;go_enter func93,ntmps93;go_wp2_with fail;clear q0 q1 q2 q3 q4 q5 q6;go_loopw [5,21] (fun r i wr=>∃(j:Nat) (acc:Int),j<=P/\i=.int .i64 j/\r=.int .i64 acc/\Hid (acc=FiS.Gg A 1 (ps.take j)/\∀t (F:t<ps.length),t<j->FiS.AE A (ps[t]'F)≠0)/\Whole wr w.heap.size 36 #[.int .i64 0,.string ⟨q.toArray⟩,.string ⟨V.toArray⟩,.string ⟨U.toArray⟩,.string ⟨ls.toArray⟩,.slice a5 AL c5,.slice a6 P c6]/\Below w.heap.size w wr) (fun _ i _=>P - (intOf i).toNat)
   case atStart=>exact ⟨0,_,aR _,rfl,rfl,hZ9 ⟨rfl,fun t F h=>absurd h (cu _)⟩,A5,f⟩
   case round=>
    obtain ⟨j,acc,hj,rfl,rfl,c,hw,hb⟩:=hrel;clear A5 f;by_cases B9:j<P
    · have a:j<ps.length:=by rw [A6.out];exact B9
      have A9:=N.out j a;have A3:=z.out j a;have h3:=FiS.Gk A (ps[j]'a);have HS:Hid (FiS.AE A (ps[j]'a)=0->R=0):=hZ9 (fun h=>by rw [HR.out];exact s.out 0 _ j a h);have HN:Hid (FiS.AE A (ps[j]'a)≠0->(if FiS.AE A (ps[j]'a)=-1 then -1 else acc)=FiS.Gg A 1 (ps.take (j+1))/\∀t (F:t<ps.length),t<j+1->FiS.AE A (ps[t]'F)≠0):=hZ9 (fun h=>⟨by rw [A0.out _ j a,<-c.out.1],fun t F C0=>by
       rcases br (cF C0) with h2 | rfl
       · exact c.out.2 t F h2
       · exact h⟩)
      obtain ⟨d,rfl,g,o,rfl,K,b5,d5,b6,d6,B,y0,y1,y2,y3,y4,y5,y6⟩:=L.out j a;have B:=B.call hb;have y0:=(hb.cell (p:=⟨g,o+j*7,none⟩) K).trans y0;have y1:=(hb.cell (p:=⟨g,o+j*7+1,none⟩) K).trans y1;have y2:=(hb.cell (p:=⟨g,o+j*7+2,none⟩) K).trans y2;have y3:=(hb.cell (p:=⟨g,o+j*7+3,none⟩) K).trans y3;have y4:=(hb.cell (p:=⟨g,o+j*7+4,none⟩) K).trans y4;have y5:=(hb.cell (p:=⟨g,o+j*7+5,none⟩) K).trans y5;have y6:=(hb.cell (p:=⟨g,o+j*7+6,none⟩) K).trans y6;have l:=fun v W h hA hE=>IH d rfl (ps[j]'a) v u W h A9 A3 hA hf hE;clear IH L A0 s y N z c T;generalize ps[j]=p at*;generalize p.any.length=PA at*;generalize p.parts.length=PP at*;obtain ⟨E,Q⟩:∃e,FiS.AE A p=e:=⟨_,rfl⟩
      rw [Q] at HS HN h3 l;clear Q;have D0:(0:Int)<=(j:Int):=by omega
      have C9:(j:Int)<(P:Int):=by omega
      have M:=Af wr (.cells #[.int .i64 p.kind,.string ⟨p.attr.toArray⟩,.string ⟨p.value.toArray⟩,.string ⟨p.first.toArray⟩,.string ⟨p.last.toArray⟩,.slice b5 PA d5,.slice b6 PP d6] 36);have B0:=Whole.made wr 36 #[.int .i64 p.kind,.string ⟨p.attr.toArray⟩,.string ⟨p.value.toArray⟩,.string ⟨p.first.toArray⟩,.string ⟨p.last.toArray⟩,.slice b5 PA d5,.slice b6 PP d6];obtain ⟨x0,x1,x2,x3,x4,x5,x6⟩:=B0.seven;have I:=hb.trans (M.mono hb.size);have A4:=hw.call M;have hc:=l _ _ (B.call M) (Ax.call hA I) (hE.below I);clear l B B0 M hw hb;go_wp2_with fail;refine hc.mono ?_;rintro e w2 ⟨rfl,C⟩;have G:=I.trans (C.mono I.size);have Y:=A4.call C;clear hc x0 x1 x2 x3 x4 x5 x6 A4 C I;obtain ⟨q0,q1,q2,q3,q4,q5,q6⟩:=Y.seven;rcases h3 with rfl | rfl | rfl
      · have X:=HN.out (by decide);have A1:Hid ((-1:Int)=FiS.Gg A 1 (ps.take (j+1))/\∀t (F:t<ps.length),t<j+1->FiS.AE A (ps[t]'F)≠0):=hZ9 ⟨by rw [<-X.1];rfl,X.2⟩;clear HS HN X;go_wp2_with fail;clear q0 q1 q2 q3 q4 q5 q6;go_roundw
        case rel=>exact ⟨j+1,_,by omega,by go_num,rfl,A1,Y,G⟩
        case measure=>simp [intOf];omega
      · have H:=hZ9 (HS.out rfl);clear HS HN;go_wp2_with fail;go_ret;exact ⟨by (rw [H.out]) <;> rfl,G⟩
      · have X:=HN.out (by decide);have A1:Hid (acc=FiS.Gg A 1 (ps.take (j+1))/\∀t (F:t<ps.length),t<j+1->FiS.AE A (ps[t]'F)≠0):=hZ9 ⟨by rw [<-X.1];rfl,X.2⟩;clear HS HN X;go_wp2_with fail;clear q0 q1 q2 q3 q4 q5 q6;go_roundw
        case rel=>exact ⟨j+1,_,by omega,by go_num,rfl,A1,Y,G⟩
        case measure=>simp [intOf];omega
    · have A7:j=P:=by omega
      have H:Hid (R=acc):=hZ9 (by
       rw [HR.out,y.out 0 1 (fun t F=>c.out.2 t F (by rw [A6.out] at F;omega)),c.out.1,A7,T.out])
      subst A7;clear IH L A0 s y N z c T;go_wp2_with fail;go_ret;exact ⟨by (rw [H.out]) <;> rfl,hb⟩
 by_cases C2:kd=1
 · subst C2;have HR:Hid (R=FiS.DG A 1 0 ps):=hZ9 (by rw [O.out,aP (by decide)];rfl);clear O S HH J hA0 B5;go_enter func93,ntmps93;go_wp2_with fail;clear q0 q1 q2 q3 q4 q5 q6;go_loopw [5,21] (fun r i wr=>∃(j:Nat) (acc:Int),j<=P/\i=.int .i64 j/\r=.int .i64 acc/\Hid (acc=FiS.Gg A 0 (ps.take j)/\∀t (F:t<ps.length),t<j->FiS.AE A (ps[t]'F)≠1)/\Whole wr w.heap.size 36 #[.int .i64 1,.string ⟨q.toArray⟩,.string ⟨V.toArray⟩,.string ⟨U.toArray⟩,.string ⟨ls.toArray⟩,.slice a5 AL c5,.slice a6 P c6]/\Below w.heap.size w wr) (fun _ i _=>P - (intOf i).toNat)
   case atStart=>exact ⟨0,_,aR _,rfl,rfl,hZ9 ⟨rfl,fun t F h=>absurd h (cu _)⟩,A5,f⟩
   case round=>
    obtain ⟨j,acc,hj,rfl,rfl,c,hw,hb⟩:=hrel;clear A5 f;by_cases B9:j<P
    · have a:j<ps.length:=by rw [A6.out];exact B9
      have A9:=N.out j a;have A3:=z.out j a;have h3:=FiS.Gk A (ps[j]'a);have HS:Hid (FiS.AE A (ps[j]'a)=1->R=1):=hZ9 (fun h=>by rw [HR.out];exact s.out 1 _ j a h);have HN:Hid (FiS.AE A (ps[j]'a)≠1->(if FiS.AE A (ps[j]'a)=-1 then -1 else acc)=FiS.Gg A 0 (ps.take (j+1))/\∀t (F:t<ps.length),t<j+1->FiS.AE A (ps[t]'F)≠1):=hZ9 (fun h=>⟨by rw [A0.out _ j a,<-c.out.1],fun t F C0=>by
       rcases br (cF C0) with h2 | rfl
       · exact c.out.2 t F h2
       · exact h⟩)
      obtain ⟨d,rfl,g,o,rfl,K,b5,d5,b6,d6,B,y0,y1,y2,y3,y4,y5,y6⟩:=L.out j a;have B:=B.call hb;have y0:=(hb.cell (p:=⟨g,o+j*7,none⟩) K).trans y0;have y1:=(hb.cell (p:=⟨g,o+j*7+1,none⟩) K).trans y1;have y2:=(hb.cell (p:=⟨g,o+j*7+2,none⟩) K).trans y2;have y3:=(hb.cell (p:=⟨g,o+j*7+3,none⟩) K).trans y3;have y4:=(hb.cell (p:=⟨g,o+j*7+4,none⟩) K).trans y4;have y5:=(hb.cell (p:=⟨g,o+j*7+5,none⟩) K).trans y5;have y6:=(hb.cell (p:=⟨g,o+j*7+6,none⟩) K).trans y6;have l:=fun v W h hA hE=>IH d rfl (ps[j]'a) v u W h A9 A3 hA hf hE;clear IH L A0 s y N z c T;generalize ps[j]=p at*;generalize p.any.length=PA at*;generalize p.parts.length=PP at*;obtain ⟨E,Q⟩:∃e,FiS.AE A p=e:=⟨_,rfl⟩
      rw [Q] at HS HN h3 l;clear Q;have D0:(0:Int)<=(j:Int):=by omega
      have C9:(j:Int)<(P:Int):=by omega
      have M:=Af wr (.cells #[.int .i64 p.kind,.string ⟨p.attr.toArray⟩,.string ⟨p.value.toArray⟩,.string ⟨p.first.toArray⟩,.string ⟨p.last.toArray⟩,.slice b5 PA d5,.slice b6 PP d6] 36);have B0:=Whole.made wr 36 #[.int .i64 p.kind,.string ⟨p.attr.toArray⟩,.string ⟨p.value.toArray⟩,.string ⟨p.first.toArray⟩,.string ⟨p.last.toArray⟩,.slice b5 PA d5,.slice b6 PP d6];obtain ⟨x0,x1,x2,x3,x4,x5,x6⟩:=B0.seven;have I:=hb.trans (M.mono hb.size);have A4:=hw.call M;have hc:=l _ _ (B.call M) (Ax.call hA I) (hE.below I);clear l B B0 M hw hb;go_wp2_with fail;refine hc.mono ?_;rintro e w2 ⟨rfl,C⟩;have G:=I.trans (C.mono I.size);have Y:=A4.call C;clear hc x0 x1 x2 x3 x4 x5 x6 A4 C I;obtain ⟨q0,q1,q2,q3,q4,q5,q6⟩:=Y.seven;rcases h3 with rfl | rfl | rfl
      · have X:=HN.out (by decide);have A1:Hid ((-1:Int)=FiS.Gg A 0 (ps.take (j+1))/\∀t (F:t<ps.length),t<j+1->FiS.AE A (ps[t]'F)≠1):=hZ9 ⟨by rw [<-X.1];rfl,X.2⟩;clear HS HN X;go_wp2_with fail;clear q0 q1 q2 q3 q4 q5 q6;go_roundw
        case rel=>exact ⟨j+1,_,by omega,by go_num,rfl,A1,Y,G⟩
        case measure=>simp [intOf];omega
      · have X:=HN.out (by decide);have A1:Hid (acc=FiS.Gg A 0 (ps.take (j+1))/\∀t (F:t<ps.length),t<j+1->FiS.AE A (ps[t]'F)≠1):=hZ9 ⟨by rw [<-X.1];rfl,X.2⟩;clear HS HN X;go_wp2_with fail;clear q0 q1 q2 q3 q4 q5 q6;go_roundw
        case rel=>exact ⟨j+1,_,by omega,by go_num,rfl,A1,Y,G⟩
        case measure=>simp [intOf];omega
      · have H:=hZ9 (HS.out rfl);clear HS HN;go_wp2_with fail;go_ret;exact ⟨by (rw [H.out]) <;> rfl,G⟩
    · have A7:j=P:=by omega
      have H:Hid (R=acc):=hZ9 (by
       rw [HR.out,y.out 1 0 (fun t F=>c.out.2 t F (by rw [A6.out] at F;omega)),c.out.1,A7,T.out])
      subst A7;clear IH L A0 s y N z c T;go_wp2_with fail;go_ret;exact ⟨by (rw [H.out]) <;> rfl,hb⟩
 have k0:(kd==0)=false:=by simpa using C1
 have k1:(kd==1)=false:=by simpa using C2
 clear A0 s y T;by_cases B4:kd=2
 · subst B4;have C3:ps.length=1:=FiS.Ae8 J;have C4:P=1:=by rw [<-A6.out];exact C3
   subst C4;have a:0<ps.length:=by omega
   have HR:Hid (R=FiS.notE (FiS.AE A (ps[0]'a))):=hZ9 (by
    rw [O.out,aG (by decide),aP rfl]
    match ps,a with
    | p :: r,_=>rfl)
   have A9:=N.out 0 a;have A3:=z.out 0 a;have h3:=FiS.Gk A (ps[0]'a);obtain ⟨d,rfl,g,o,rfl,K,b5,d5,b6,d6,B,y0,y1,y2,y3,y4,y5,y6⟩:=L.out 0 a;have B:=B.call f;simp only [cO,Nat.add_zero] at y0 y1 y2 y3 y4 y5 y6;have y0:=(f.cell (p:=⟨g,o,none⟩) K).trans y0;have y1:=(f.cell (p:=⟨g,o+1,none⟩) K).trans y1;have y2:=(f.cell (p:=⟨g,o+2,none⟩) K).trans y2;have y3:=(f.cell (p:=⟨g,o+3,none⟩) K).trans y3;have y4:=(f.cell (p:=⟨g,o+4,none⟩) K).trans y4;have y5:=(f.cell (p:=⟨g,o+5,none⟩) K).trans y5;have y6:=(f.cell (p:=⟨g,o+6,none⟩) K).trans y6;have l:=fun v W h hA hE=>IH d rfl (ps[0]'a) v u W h A9 A3 hA hf hE;clear IH L N z O S HH J;generalize ps[0]=p at*;generalize p.any.length=PA at*;generalize p.parts.length=PP at*;obtain ⟨E,Q⟩:∃e,FiS.AE A p=e:=⟨_,rfl⟩
   rw [Q] at HR h3 l;clear Q;have hc:=l _ _ B hA0 B5;have B8:=fun b w=>AaO b w;clear l B;go_enter func93,ntmps93;go_wp2_with fail;refine hc.mono ?_;rintro e w2 ⟨rfl,C⟩;have G:=f.trans (C.mono f.size);clear hc q0 q1 q2 q3 q4 q5 q6 y0 y1 y2 y3 y4 y5 y6 C;rcases h3 with rfl | rfl | rfl
   · have H:Hid (R=-1):=HR;clear HR B8;go_wp2_with fail;go_ret;exact ⟨by (rw [H.out]) <;> rfl,G⟩
   · have H:Hid (R=1):=HR;clear HR;go_wp2_with fail;refine (B8 _ _).mono ?_;rintro e w3 ⟨rfl,rfl⟩;go_wp2_with fail;go_ret;exact ⟨by (rw [H.out]) <;> rfl,G⟩
   · have H:Hid (R=0):=HR;clear HR;go_wp2_with fail;refine (B8 _ _).mono ?_;rintro e w3 ⟨rfl,rfl⟩;go_wp2_with fail;go_ret;exact ⟨by (rw [H.out]) <;> rfl,G⟩
 have k2:(kd==2)=false:=by simpa using B4
 have HR:Hid (R=FiS.FP A kd q V U ls an):=hZ9 (by rw [O.out,aG (by omega),aG B4]);have hc:=S _ (HH.out.call f) hA0 B5;clear O S IH L N z J C1 C2 B4 HH;obtain ⟨LE,C5⟩:∃r,FiS.FP A kd q V U ls an=r:=⟨_,rfl⟩
 rw [C5] at hc HR;clear C5;go_enter func93,ntmps93;go_wp2_with fail;refine hc.mono ?_;rintro e w2 ⟨rfl,C⟩;have G:=f.trans (C.mono f.size);clear hc q0 q1 q2 q3 q4 q5 q6 C;go_wp2_with fail;go_ret;exact ⟨by (rw [HR.out]) <;> rfl,G⟩)
theorem Ada (n:Nat) (x:Fi) (v u:Value) (A:List EnS.At) (w:World) (h:Dh n w v x) (p:FiS.wdF 20000 x) (hA:Cj w u A) (N:MB A) (hE:Env w):Calls prog 58 #[v,u] w (MC (FiS.Jn A x) w):=by
 have q:=fun W h=>PO n x v W h p;have g:=fun W O h hA hE=>AfF A n x v u W h p O hA N hE;have d:Hid (FiS.Jn A x=if FiS.formedS x=true then FiS.AE A x else -1):=hZ9 rfl;have m:Hid (FiS.formedS x=true->FiS.Dp x=true):=hZ9 (fun h=>by unfold FiS.formedS at h;simp only [bA] at h;exact h.2.2);obtain ⟨R,hR⟩:∃r,FiS.Jn A x=r:=⟨_,rfl⟩
 obtain ⟨E,o⟩:∃r,FiS.AE A x=r:=⟨_,rfl⟩
 rw [hR] at d⊢;rw [o] at d g;clear hR o;unfold BB MC at*;have t:=hZ9 h;obtain ⟨a5,c5,K,L,M,_,_,_⟩:=FiV.parts h;generalize x.any.length=AL at*;generalize x.parts.length=PL at*;generalize x.kind=kd at*;generalize x.attr=at0 at*;generalize x.value=vl at*;generalize x.first=fs at*;generalize x.last=ls at*;subst M;have f:=Af w (.cells #[.int .i64 kd,.string ⟨at0.toArray⟩,.string ⟨vl.toArray⟩,.string ⟨fs.toArray⟩,.string ⟨ls.toArray⟩,.slice a5 AL c5,.slice K PL L] 36);have k:=Whole.made w 36 #[.int .i64 kd,.string ⟨at0.toArray⟩,.string ⟨vl.toArray⟩,.string ⟨fs.toArray⟩,.string ⟨ls.toArray⟩,.slice a5 AL c5,.slice K PL L];obtain ⟨s,B,J,F,z,y,I⟩:=k.seven;have a:=q _ (h.call f);clear q h;cases b:FiS.formedS x with
 | false=>rw [b] at a;have l:Hid (R=-1):=hZ9 (by rw [d.out,b];rfl);clear b d m g t;go_enter func58,ntmps58;go_wp2_with fail;refine a.mono ?_;rintro e w2 ⟨rfl,i⟩;have c:=f.trans (i.mono f.size);clear a;go_wp2_with fail;go_ret;exact ⟨by (rw [l.out]) <;> rfl,c⟩
 | true=>rw [b] at a;have l:Hid (R=E):=hZ9 (by rw [d.out,b];rfl);have j:=fun W h hA hE=>g W (m.out b) h hA hE;clear b d m g;go_enter func58,ntmps58;go_wp2_with fail;refine a.mono ?_;rintro e w2 ⟨rfl,i⟩;have c:=f.trans (i.mono f.size);have H:=k.call i;clear a s B J F z y I k;obtain ⟨s,B,J,F,z,y,I⟩:=H.seven;have hc:=j _ (t.out.call c) (Ax.call hA c) (hE.below c);clear j t;go_wp2_with fail;refine hc.mono ?_;rintro e w3 ⟨rfl,G⟩;have C:=c.trans (G.mono c.size);clear hc s B J F z y I;go_wp2_with fail;go_ret;exact ⟨by (rw [l.out]) <;> rfl,C⟩
end
end Go.Proofs.YtgngjfjaelgaeaaGreatDoor
