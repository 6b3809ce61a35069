/- The walks of the document's 'Near' and 'Compare' of values. Conditions: as stated. -/
import Derived.Test.YtgngjfjaelgaeaaGreatDoorZFja
set_option maxRecDepth 100000
set_option maxHeartbeats 8000000
namespace Go.Proofs.YtgngjfjaelgaeaaGreatDoor
open Go.Proofs.Tryz
variable {f l s:iK}
section
open Go.RowKit
attribute [local go_sem ↓] Go.wp_at_zero Go.wp_at_succ
def UH(w _wz:World)(g1 g2:Nat)(p q r t:Int)(w':World):Prop:=
 w'.cell? ⟨g1,0,none⟩=some (.int .i64 p)/\w'.cell? ⟨g1,1,none⟩=some (.int .i64 q)/\w'.cell? ⟨g2,0,none⟩=some (.int .i64 r)/\w'.cell? ⟨g2,1,none⟩=some (.int .i64 t)/\Below w.heap.size w w'
theorem UH.drew{w a w':World}{g1 g2:Nat}{p q r t:Int}(h:UH w a g1 g2 p q r t w'):UH w a g1 g2 p q r t w'.drew:=⟨h.1,h.2.1,h.2.2.1,h.2.2.2.1,h.2.2.2.2.drew⟩
theorem AdK{w W w':World}{g1 g2:Nat}{v0 a v2 v3:Value}(h0:W.cell? ⟨g1,0,none⟩=some v0)(h1:W.cell? ⟨g1,1,none⟩=some a)
  (h2:W.cell? ⟨g2,0,none⟩=some v2)(h3:W.cell? ⟨g2,1,none⟩=some v3)(hb:Below w.heap.size w W)(h:Below W.heap.size W w'):
  w'.cell? ⟨g1,0,none⟩=some v0/\w'.cell? ⟨g1,1,none⟩=some a/\w'.cell? ⟨g2,0,none⟩=some v2/\w'.cell? ⟨g2,1,none⟩=some v3/\Below w.heap.size w w':=
 ⟨Ab h0 h,Ab h1 h,Ab h2 h,Ab h3 h,hb.trans (h.mono hb.size)⟩
theorem Ui(nm a b:ByteArray)(hn:nm.size<=9223372036854775807)(ha:a.size<=9223372036854775807)(hb:b.size<=9223372036854775807)(w:World)(hE:Env w):
  Calls prog 152 #[.string nm,.string a,.string b] w (CW nm.data.toList a.data.toList b.data.toList w):=by
 have h1:=SU nm a b hn ha hb w hE;have o:=λw=>Eb nm hn w;unfold Ak at o;unfold Ec at h1;have B:Hid (Hg nm.data.toList a.data.toList b.data.toList=if Dl nm.data.toList a.data.toList b.data.toList=0 then Js (RuS.typeOf nm.data.toList).2 (RuS.normal nm.data.toList a.data.toList).1 (RuS.normal nm.data.toList b.data.toList).1 else 0):=hZ9 rfl;generalize M:Dl nm.data.toList a.data.toList b.data.toList=er at*;have j:=hZ9 M;clear M;by_cases z1:er=0
 ·subst z1;go_enter func152,ntmps152;go_wp2_with fail;refine h1.mono ?_;rintro e w1 ⟨x,y,rfl,A,g⟩;obtain⟨hx,V⟩:=A (by trivial);clear A;obtain⟨S,fy⟩:=Ja j.out hx V;have P:=(RuS.normal_ok S).1;have lx:x.length<=200:=by rw[hx];exact RuS.normal_len _ _
  have ly:y.length<=200:=by rw[V];exact RuS.normal_len _ _
  have z:=DD S;have u:=DD fy;have v:=IZ S;have p:=IZ fy;rw[<-hx,<-V] at B;clear hx V S fy;generalize RuS.typeOf nm.data.toList=r at*;obtain⟨t,sy⟩:=r;simp only at o P z u v p B;have O:=hE.below g;rcases P with rfl|rfl|rfl|rfl
  ·clear z u v p;have C:Hid (Js 1 x y=Lib.compareBytes x y):=hZ9 rfl;have hl:=RuS.less_iff x y;have W:=RuS.eq_iff x y;have hr:=RuS.compare_range x y;generalize Lib.compareBytes x y=cb at*;have G:cb=-1\/cb=0\/cb=1:=by omega
   clear hr;rcases G with rfl|rfl|rfl
   all_goals
    simp only[Int.reduceNeg,eT,Int.reduceEq,eK] at hl W;go_wp2_with fail;refine(o _).mono ?_;rintro e w2 ⟨rfl,i⟩;go_wp2_with fail;go_ret2;exact CW.mk' j.out (by rw[B.out,aJ (by trivial),C.out]) (Aa g i)
  ·clear z u v p;have C:Hid (Js 2 x y=Lib.compareBytes x y):=hZ9 rfl;have hl:=RuS.less_iff x y;have W:=RuS.eq_iff x y;have hr:=RuS.compare_range x y;generalize Lib.compareBytes x y=cb at*;have G:cb=-1\/cb=0\/cb=1:=by omega
   clear hr;rcases G with rfl|rfl|rfl
   all_goals
    simp only[Int.reduceNeg,eT,Int.reduceEq,eK] at hl W;go_wp2_with fail;refine(o _).mono ?_;rintro e w2 ⟨rfl,i⟩;go_wp2_with fail;go_ret2;exact CW.mk' j.out (by rw[B.out,aJ (by trivial),C.out]) (Aa g i)
  ·obtain⟨m,X⟩:=v rfl;obtain⟨n,H⟩:=p rfl;clear z u v p;have J:=λw=>PG ⟨x.toArray⟩ (by show x.length<=_;omega) w;have i2:=λw=>PG ⟨y.toArray⟩ (by show y.length<=_;omega) w;unfold Cj at J i2;have L:(⟨x.toArray⟩:ByteArray).data.toList=x:=rfl;have K:(⟨y.toArray⟩:ByteArray).data.toList=y:=rfl;rw[L,RuS.intR_eq,X] at J;rw[K,RuS.intR_eq,H] at i2;simp only[Option.getD_some,Option.isSome_some] at J i2;have C:Hid (Js 3 x y=if m<n then -1 else if n<m then 1 else 0):=hZ9 (by
    show DF ((RuS.intS x).getD 0) ((RuS.intS y).getD 0)=_
    rw[X,H];rfl)
   clear X H L K;rcases cJ m n with h|h|h
   ·go_wp2_with fail;refine(o _).mono ?_;rintro e w2 ⟨rfl,i⟩;go_wp2_with fail;refine(J _).mono ?_;rintro e w3 ⟨rfl,rfl⟩;go_wp2_with fail;refine(i2 _).mono ?_;rintro e w4 ⟨rfl,rfl⟩;go_wp2_with fail;go_ret2;exact CW.mk' j.out (by rw[B.out,aJ (by trivial),C.out,aJ h]) (Aa g i)
   ·subst h;go_wp2_with fail;refine(o _).mono ?_;rintro e w2 ⟨rfl,i⟩;go_wp2_with fail;refine(J _).mono ?_;rintro e w3 ⟨rfl,rfl⟩;go_wp2_with fail;refine(i2 _).mono ?_;rintro e w4 ⟨rfl,rfl⟩;go_wp2_with fail;go_ret2;exact CW.mk' j.out (by rw[B.out,aJ (by trivial),C.out,aG (by omega),aG (by omega)]) (Aa g i)
   ·go_wp2_with fail;refine(o _).mono ?_;rintro e w2 ⟨rfl,i⟩;go_wp2_with fail;refine(J _).mono ?_;rintro e w3 ⟨rfl,rfl⟩;go_wp2_with fail;refine(i2 _).mono ?_;rintro e w4 ⟨rfl,rfl⟩;go_wp2_with fail;go_ret2;exact CW.mk' j.out (by rw[B.out,aJ (by trivial),C.out,aG (by omega),aJ h]) (Aa g i)
  ·obtain⟨pa,pb,U⟩:=z rfl;obtain⟨R,N,T⟩:=u rfl;clear z u v p;have p1:=λw hE=>Hk ⟨x.toArray⟩ (by show x.length<=_;omega) w hE;have p2:=λw hE=>Hk ⟨y.toArray⟩ (by show y.length<=_;omega) w hE;unfold BX at p1 p2;have L:(⟨x.toArray⟩:ByteArray).data.toList=x:=rfl;have K:(⟨y.toArray⟩:ByteArray).data.toList=y:=rfl;rw[L,U] at p1;rw[K,T] at p2;simp only at p1 p2;have E:pa.natAbs<=1000000/\pb.natAbs<=1000000:=b7 (PhS.parseP_some.1 U).1;have I:R.natAbs<=1000000/\N.natAbs<=1000000:=b7 (PhS.parseP_some.1 T).1;have C:Hid (Js 4 x y=JA pa pb R N):=hZ9 (by
    show (match PhS.parseP x,PhS.parseP y with|some (a,b),some (c,d)=>JA a b c d|_,_=>0)=_
    rw[U,T])
   have n1:=VV pa pb R N E.1 E.2 I.1 I.2;unfold Ack at n1;clear U T L K E I;generalize JA pa pb R N=q at*;go_wp2_with fail;refine(o _).mono ?_;rintro e w2 ⟨rfl,i⟩;go_wp2_with fail;refine(p1 _ (O.below i)).mono ?_;rintro e w3 ⟨rfl,Q⟩;have Z:=((O.below i).below Q).alloc (.cells #[pa,pb] 184);replace g:=Aa (Aa g (Aa i Q)) (Af w3 (.cells #[pa,pb] 184));go_wp2_with fail;refine(p2 _ Z).mono ?_;rintro e w4 ⟨rfl,F⟩;have c0:w4.cell? ⟨w3.heap.size,0,none⟩=some (.int .i64 pa):=Ab (by go_simp) F;have c1:w4.cell? ⟨w3.heap.size,1,none⟩=some (.int .i64 pb):=Ab (by go_simp) F;replace g:=Aa g F;have k:=Af w4 (Obj.cells #[Value.int .i64 R,Value.int .i64 N] 184);replace c0:=Ab c0 k;replace c1:=Ab c1 k;replace g:=Aa g k;go_wp2_with fail;refine(n1 _).mono ?_;rintro e w5 ⟨rfl,Y⟩;go_wp2_with fail;go_ret2;exact CW.mk' j.out (by rw[B.out,aJ (by trivial),C.out]) (Aa g Y)
 ·have hz:(er !=0)=true:=by simpa using z1
  have HZ:=hZ9 z1;clear z1;go_enter func152,ntmps152;go_wp2_with fail;refine h1.mono ?_;rintro e w1 ⟨x,y,rfl,A,g⟩;clear A;go_wp2_with fail;go_ret2;exact CW.mk' j.out (by rw[B.out,aG HZ.out]) g
theorem AbE(nm a b:ByteArray)(P:nm.size<=9223372036854775807)(S:a.size<=9223372036854775807)(hb:b.size<=9223372036854775807)(w:World)(hE:Env w):
  Calls prog 151 #[.string nm,.string a,.string b] w (CC nm.data.toList a.data.toList b.data.toList w):=by
 have h1:=SU nm a b P S hb w hE;have g:=λw=>Eb nm P w;unfold Ak at g;unfold Ec at h1;have z:Hid (Im nm.data.toList a.data.toList b.data.toList=(decide (Dl nm.data.toList a.data.toList b.data.toList=0)&&Hf (RuS.typeOf nm.data.toList).2 (RuS.normal nm.data.toList a.data.toList).1 (RuS.normal nm.data.toList b.data.toList).1)):=hZ9 rfl;generalize F:Dl nm.data.toList a.data.toList b.data.toList=er at*;have m:=hZ9 F;clear F;by_cases z1:er=0
 ·subst z1;go_enter func151,ntmps151;go_wp2_with fail;refine h1.mono ?_;rintro e w1 ⟨x,y,rfl,q,c⟩;obtain⟨hx,K⟩:=q (by trivial);clear q;obtain⟨L,Q⟩:=Ja m.out hx K;have G:=(RuS.normal_ok L).1;have W:x.length<=200:=by rw[hx];exact RuS.normal_len _ _
  have V:y.length<=200:=by rw[K];exact RuS.normal_len _ _
  have o:=DD L;have i:=DD Q;rw[<-hx,<-K] at z;clear hx K L Q;generalize RuS.typeOf nm.data.toList=r at*;obtain⟨t,Z⟩:=r;simp only at g G o i z;rcases G with rfl|rfl|rfl|rfl
  ·clear o i;have u:=hE.below c;have T:=SB x (by omega);have r2:=SB y (by omega);have A:Hid (Hf 1 x y=(RuS.bareL x==RuS.bareL y)):=hZ9 rfl;generalize RuS.bareL x=bx at*;generalize RuS.bareL y=by_ at*;go_wp2_with fail;refine(g _).mono ?_;rintro e w2 ⟨rfl,d⟩;go_wp2_with fail;refine(T _).mono ?_;rintro e w3 ⟨rfl,p⟩;go_wp2_with fail;refine(r2 _).mono ?_;rintro e w4 ⟨rfl,h⟩;go_wp2_with fail;go_ret2;exact CC.mk' m.out (by rw[z.out,A.out];simp) (Aa c (Aa d (Aa p h)))
  ·clear o i;have A:Hid (Hf 2 x y=(x==y)):=hZ9 rfl;go_wp2_with fail;refine(g _).mono ?_;rintro e w2 ⟨rfl,d⟩;go_wp2_with fail;go_ret2;exact CC.mk' m.out (by rw[z.out,A.out];simp) (Aa c d)
  ·clear o i;have A:Hid (Hf 3 x y=(x==y)):=hZ9 rfl;go_wp2_with fail;refine(g _).mono ?_;rintro e w2 ⟨rfl,d⟩;go_wp2_with fail;go_ret2;exact CC.mk' m.out (by rw[z.out,A.out];simp) (Aa c d)
  ·obtain⟨pa,pb,J⟩:=o rfl;obtain⟨n,j,I⟩:=i rfl;clear o i;have p1:=λw hE=>Hk ⟨x.toArray⟩ (by show x.length<=_;omega) w hE;have p2:=λw hE=>Hk ⟨y.toArray⟩ (by show y.length<=_;omega) w hE;unfold BX at p1 p2;have O:(⟨x.toArray⟩:ByteArray).data.toList=x:=rfl;have N:(⟨y.toArray⟩:ByteArray).data.toList=y:=rfl;rw[O,J] at p1;rw[N,I] at p2;simp only at p1 p2;have v:pa.natAbs<=1000000/\pb.natAbs<=1000000:=b7 (PhS.parseP_some.1 J).1;have B:n.natAbs<=1000000/\j.natAbs<=1000000:=b7 (PhS.parseP_some.1 I).1;have u:=hE.below c;have A:Hid (Hf 4 x y=decide (pa*pa+pb*pb=n*n+j*j)):=hZ9 (by
    show decide (normP x=normP y)=_
    unfold normP;rw[J,I])
   have U:=Je pa pb v.1 v.2;have X:=Je n j B.1 B.2;clear J I O N v B;generalize pa*pa+pb*pb=m1 at*;generalize n*n+j*j=m2 at*;go_wp2_with fail;refine(g _).mono ?_;rintro e w2 ⟨rfl,d⟩;go_wp2_with fail;refine(p1 _ (u.below d)).mono ?_;rintro e w3 ⟨rfl,p⟩;have C:=((u.below d).below p).alloc (.cells #[pa,pb] 184);replace c:=Aa (Aa c (Aa d p)) (Af w3 (.cells #[pa,pb] 184));go_wp2_with fail;refine(p2 _ C).mono ?_;rintro e w4 ⟨rfl,h⟩;have c0:w4.cell? ⟨w3.heap.size,0,none⟩=some (.int .i64 pa):=Ab (by go_simp) h;have c1:w4.cell? ⟨w3.heap.size,1,none⟩=some (.int .i64 pb):=Ab (by go_simp) h;replace c:=Aa c h;have k:=Af w4 (Obj.cells #[Value.int .i64 n,Value.int .i64 j] 184);have M:(w4.alloc (Obj.cells #[Value.int .i64 n,Value.int .i64 j] 184)).cell? ⟨w4.heap.size,0,none⟩=some (.int .i64 n):=by go_simp
   have d1:(w4.alloc (Obj.cells #[Value.int .i64 n,Value.int .i64 j] 184)).cell? ⟨w4.heap.size,1,none⟩=some (.int .i64 j):=by go_simp
   replace c0:=Ab c0 k;replace c1:=Ab c1 k;replace c:=Aa c k;go_wp2_with fail;clear k d p h u C p1 p2 g W V;generalize (w4.alloc (Obj.cells #[Value.int .i64 n,Value.int .i64 j] 184))=wz at*;generalize w3.heap.size=g1 at*;generalize w4.heap.size=g2 at*;have E:UH w wz g1 g2 pa pb n j wz:=⟨c0,c1,M,d1,c⟩
   clear c0 c1 M d1 c
   go_region_held3 (λw'=>w'.cell? ⟨g1,0,none⟩=some (.int .i64 pa)/\w'.cell? ⟨g1,1,none⟩=some (.int .i64 pb)/\w'.cell? ⟨g2,0,none⟩=some (.int .i64 n)/\w'.cell? ⟨g2,1,none⟩=some (.int .i64 j)/\Below w.heap.size w w')
    (first|exact E.drew|(go_split_ands;exact AdK (by assumption) (by assumption) (by assumption) (by assumption) (by assumption) H)|go_keep)
    (first
      |(go_at_call 180;((with_reducible refine(U _).mono ?_);rintro e w1 ⟨rfl,H⟩))
      |(go_at_call 180;((with_reducible refine(X _).mono ?_);rintro e w1 ⟨rfl,H⟩)))
   all_goals go_wp2_with fail
   all_goals go_split_ands
   all_goals go_ret2
   all_goals refine CC.mk' m.out ?_ (by assumption)
   all_goals rw[z.out,A.out]
   all_goals first|rfl|(simp;done)|(rw[bR];simp)
 ·have Y:(er !=0)=true:=by simpa using z1
  have R:=hZ9 z1;clear z1;go_enter func151,ntmps151;go_wp2_with fail;refine h1.mono ?_;rintro e w1 ⟨x,y,rfl,q,c⟩;clear q;go_wp2_with fail;go_ret2;exact CC.mk' m.out (by rw[z.out,aB R.out];rfl) c
end
section
namespace FiS
theorem MX{any:List iK}(h:s.length<f.length+l.length):AH f l any s=false:=by unfold AH;rw[Io,aJ (.inl h)]
theorem MZ{any:List iK}(h:(s.take f.length==f)=false):AH f l any s=false:=by unfold AH;rw[Io,aJ (.inr (.inl (by simpa using h)))]
theorem Oz{any:List iK}(h:(s.drop (s.length-l.length)==l)=false):AH f l any s=false:=by unfold AH;rw[Io,aJ (.inr (.inr (by simpa using h)))]
theorem Qr{any:List iK}(h:¬s.length<f.length+l.length)(h1:(s.take f.length==f)=true)(h2:(s.drop (s.length-l.length)==l)=true):AH f l any s=DJ any ((s.take (s.length-l.length)).drop f.length):=by
 unfold AH;rw[Io,aG (by
  rintro (h3|h3|h3)
  ·exact h h3
  ·exact h3 (by simpa using h1)
  ·exact h3 (by simpa using h2))]
end FiS
open Go.RowKit
open FiS (Fi)
attribute [local go_sem ↓] Go.wp_at_zero Go.wp_at_succ
theorem Rn(n:Nat)(x:Fi)(v:Value)(s:iK)(c:Int)(F6:c=1)(w:World)(h:BF n w v x)(C8:FiS.wdF 20000 x)(hs:s.length<=20000):Calls prog 122 #[v,s,true] w (AP (FiS.AH (FiS.Ag c x.first) (FiS.Ag c x.last) (x.any.map (FiS.Ag c)) s) w):=by
 have hG:∀(p:iK) (W:World),p.length<=20000->Calls prog 103 #[.string ⟨p.toArray⟩] W λe w'=>e=.returned (.string ⟨(FiS.Ag c p).toArray⟩)/\Below W.heap.size W w':=λp W hp=>by
  have h:=BD ⟨p.toArray⟩ (by rw[BZ];omega) W;unfold Cb at h;have e:FiS.Ag c p=RuS.lower p:=by unfold FiS.Ag;rw[aJ F6]
  rw[e];exact h
 have HG:=hZ9 hG;clear hG;have z:Hid (∀p,(FiS.Ag c p).length=p.length):=hZ9 (λp=>FiS.JK c p);obtain⟨kd,J,vl,X,ls,d,ps⟩:=x;obtain⟨a5,c5,a6,c6,hv,T,Z,Y⟩:=FiV.parts h;have hv:v=.agg #[kd,J,vl,X,ls,.slice a5 d.length c5,.slice a6 ps.length c6]:=hv;subst hv;have T:Ah w (.slice a5 d.length c5) d:=T;have Z:ps.length<=c6:=Z;have Y:Bl n (λ_=>True) w (.slice a6 ps.length c6) ps:=Y;rw[FiS.wdF] at C8;obtain⟨⟨G3,G6,D0,C4⟩,C0,V,_,_⟩:=C8;have t:=hZ9 (λj (hj:j<d.length)=>V d[j] (aZ hj));clear V;obtain⟨S,H⟩:∃m,d.length=m:=⟨_,rfl⟩
 obtain⟨PL,A3⟩:∃m,ps.length=m:=⟨_,rfl⟩
 have E5:=hZ9 H;have F3:=hZ9 A3;rw[H] at T;rw[A3] at Z Y
 try rw[H]
 try rw[A3]
 have B0:=Af w (.cells #[kd,J,vl,X,ls,.slice a5 S c5,.slice a6 PL c6] 26);have B1:=Whole.made w 26 #[kd,J,vl,X,ls,.slice a5 S c5,.slice a6 PL c6];obtain⟨q0,q1,q2,q3,q4,q5,q6⟩:=B1.seven;rw[H] at C0;obtain⟨a',c',e,E8,B4⟩:=Ad.at (T.strsP (λ_=>True) (λ_ _=>trivial));injection e with e1 e2 e3;rw[<-e1] at B4;have K:=hZ9 B4;have F:=hZ9 (λj (hj:j<d.length)=>av hj);have u:Hid (d.drop S=[]):=hZ9 (by rw[<-H];exact cj);show Calls _ _ _ _ (AP (FiS.AH (FiS.Ag c X) (FiS.Ag c ls) (d.map (FiS.Ag c)) s) w)
 clear B4 T e1 e2 e3 E8 h Y H A3 F3 Z;have D6:=λW=>HG.out X W D0;have D9:=λW=>HG.out ls W C4;have D7:=z.out X;have C7:=z.out ls;generalize FiS.Ag c X=F1 at*;generalize FiS.Ag c ls=L1 at*;rw[<-D7] at D0;rw[<-C7] at C4;clear D7 C7;have A6:=hZ9 (@FiS.MX F1 L1 s (d.map (FiS.Ag c)));have G:=hZ9 (@FiS.MZ F1 L1 s (d.map (FiS.Ag c)));have y:=hZ9 (@FiS.Oz F1 L1 s (d.map (FiS.Ag c)));have A5:=hZ9 (@FiS.Qr F1 L1 s (d.map (FiS.Ag c)));obtain⟨R,hR⟩:∃r,FiS.AH F1 L1 (d.map (FiS.Ag c)) s=r:=⟨_,rfl⟩
 rw[hR] at A6 G y A5⊢;clear hR;unfold AP;have HX:Hid (∀a b,(⟨s.toArray⟩:ByteArray).extract a b=⟨((s.take b).drop a).toArray⟩):=hZ9 (λa b=>Eu s a b);have P:Hid (s.take s.length=s):=hZ9 (bA);go_enter func122,ntmps122;go_wp2_with fail
 go_quiet (fail)
 have B3:=below_drewN (w.alloc (.cells #[kd,J,vl,X,ls,.slice a5 S c5,.slice a6 PL c6] 26)) nq;have B7:=B0.trans (B3.mono B0.size);have B2:=B1.call B3;generalize (w.alloc (.cells #[kd,J,vl,X,ls,.slice a5 S c5,.slice a6 PL c6] 26)).drewN nq=w1 at*;clear q0 q1 q2 q3 q4 q5 q6 B1 B0 B3;obtain⟨q0,q1,q2,q3,q4,q5,q6⟩:=B2.seven;go_wp2_with fail;refine(D6 _).mono ?_;rintro e w2 ⟨rfl,B5⟩;have B8:=B7.trans (B5.mono B7.size);have D8:=B2.call B5;clear D6 q0 q1 q2 q3 q4 q5 q6;go_wp2_with fail;refine(D9 _).mono ?_;rintro e w4 ⟨rfl,A8⟩;have N:=B8.trans (A8.mono B8.size);have A7:=D8.call A8;clear D9 D8 B5 A8 B8 B2 B7;by_cases D3:s.length<F1.length+L1.length
 case pos=>
  have F0:(s.length:Int)<(F1.length:Int)+(L1.length:Int):=by omega
  have E7:decide ((s.length:Int)<(F1.length:Int)+(L1.length:Int))=true:=aI F0;have Q:Hid (R=false):=hZ9 (A6.out D3);clear A6 G y A5 HX P K F u t z HG;go_wp2_with fail;go_ret;exact⟨by(rw[Q.out])<;>rfl,N⟩
 have E7:decide ((s.length:Int)<(F1.length:Int)+(L1.length:Int))=false:=aB (by omega);have G5:(F1.length:Int)+(L1.length:Int)<=(s.length:Int):=by omega
 have G9:(F1.length:Int)<=(s.length:Int):=by omega
 have hxa:=HX.out 0 F1.length;rw[bI] at hxa;have E:=hZ9 (A5.out D3);have G2:L1.length<=s.length:=by omega
 clear A6 A5;obtain⟨qa,C2⟩:∃q,s.take F1.length=q:=⟨_,rfl⟩
 rw[C2] at hxa G E;clear C2;cases hq:(qa==F1) with
 |false=>
  have E0:(qa !=F1)=true:=by simpa using hq
  have Q:Hid (R=false):=hZ9 (G.out hq);clear G y E HX P K F u t z HG;go_wp2_with fail;go_ret;exact⟨by(rw[Q.out])<;>rfl,N⟩
 |true=>
 have E0:(qa !=F1)=false:=by simpa using hq
 have A:=hZ9 (E.out hq);obtain⟨L,D5⟩:∃e,s.length-L1.length=e:=⟨_,rfl⟩
 have F8:(s.length:Int)-(L1.length:Int)=(L:Int):=by omega
 have H0:L<=s.length:=by omega
 have E9:F1.length<=L:=by omega
 have G4:(L:Int)<=(s.length:Int):=by omega
 have B9:=HX.out L s.length;rw[P.out] at B9;rw[D5] at y A;clear G E;obtain⟨qb,D2⟩:∃q,s.drop L=q:=⟨_,rfl⟩
 rw[D2] at B9 y A;clear D2 D5;cases hr:(qb==L1) with
 |false=>
  have D4:(qb !=L1)=true:=by simpa using hr
  have Q:Hid (R=false):=hZ9 (y.out hr);clear y A HX P K F u t z HG;go_wp2_with fail;go_ret;exact⟨by(rw[Q.out])<;>rfl,N⟩
 |true=>
 have D4:(qb !=L1)=false:=by simpa using hr
 have A9:=hZ9 (A.out hr);have E1:=HX.out 0 L;rw[bI] at E1;have F5:(s.take L).length=L:=by rw[ar];omega
 clear y A HX P;obtain⟨te,A1⟩:∃q,s.take L=q:=⟨_,rfl⟩
 rw[A1] at E1 F5 A9;clear A1;obtain⟨q0,q1,q2,q3,q4,q5,q6⟩:=A7.seven;go_wp2_with fail;clear q0 q1 q2 q3 q4 q5 q6 hxa B9 hq E0 hr D4;go_loopw [9,60] (λa i wr=>∃(j k:Nat),j<=S/\i=.int .i64 j/\a=.int .i64 k/\k<=L/\Hid (R=FiS.DJ ((d.drop j).map (FiS.Ag c)) (te.drop k))/\Whole wr w.heap.size 26 #[kd,J,vl,X,ls,.slice a5 S c5,.slice a6 PL c6]/\Below w.heap.size w wr) (λ_ i _=>S-(intOf i).toNat)
 case atStart=>exact⟨0,F1.length,aR _,rfl,rfl,E9,hZ9 (by rw[A9.out,bI]),A7,N⟩
 case round=>
  obtain⟨j,k,hj,rfl,rfl,hk,HQ,hw,hb⟩:=hrel;clear N A7 A9;obtain⟨q0,q1,q2,q3,q4,q5,q6⟩:=hw.seven;by_cases F4:j<S
  ·have O:j<d.length:=by rw[E5.out];exact F4
   have C6:=hZ9 (F.out j O);have A0:=t.out j O;obtain⟨g,o,E4,hg,_,hra⟩:=K.out j O;have F2:wr.cell? ⟨g,o+j,none⟩=some (Ac d[j]):=by have:w.cell? ⟨g,o+j*1,none⟩=some (Ac d[j]):=hra;rw[bp] at this;exact Ab this hb
   clear hra K F t u;subst E4;generalize d[j]=p at*;unfold Ac at F2;have E2:=z.out p;have A4:Hid (R=if 0<=Lib.index (te.drop k) (FiS.Ag c p) then FiS.DJ ((d.drop (j+1)).map (FiS.Ag c)) ((te.drop k).drop ((Lib.index (te.drop k) (FiS.Ag c p)).toNat+(FiS.Ag c p).length)) else false):=hZ9 (by rw[HQ.out,C6.out,cT,FiS.DJ]);clear HQ C6 z;have A2:=HG.out p wr A0;generalize FiS.Ag c p=P1 at*;clear HG;have G8:(0:Int)<=(j:Int):=by omega
   have G7:(j:Int)<(S:Int):=by omega
   have E3:P1.length<=20000:=by omega
   have B:=λW=>Qq te P1 k (k:Int) rfl (by omega) (by omega) E3 W;have F9:(0:Int)<=(L:Int):=by omega
   clear A0;by_cases I:0<=Lib.index (te.drop k) P1
   ·obtain⟨i,hi,U,C5,C3⟩:=FiS.Oy I (by omega);have M:Hid (R=FiS.DJ ((d.drop (j+1)).map (FiS.Ag c)) (te.drop (k+i+P1.length))):=hZ9 (by rw[A4.out,aJ I,hi,Int.toNat_natCast,C3]);rw[U] at B;have E6:decide (((k+i:Nat):Int)<0)=false:=aB (by omega);clear I hi U C3 A4;obtain⟨ki,C9⟩:∃m,k+i=m:=⟨_,rfl⟩
    rw[C9] at B M C5 E6;have C1:ki+P1.length<=L:=by omega
    have G1:(ki:Int)+(P1.length:Int)<=20000:=by omega
    have G0:(0:Int)<=(ki:Int):=by omega
    clear C9 C5;go_wp2_with fail;refine A2.mono ?_;rintro e w6 ⟨rfl,C⟩;have B6:=hb.trans (C.mono hb.size);have D1:=hw.call C;clear A2 q0 q1 q2 q3 q4 q5 q6 C;go_wp2_with fail;refine(B _).mono ?_;rintro e w7 ⟨rfl,rfl⟩;clear B;go_wp2_with fail;go_roundw
    case rel=>exact⟨j+1,ki+P1.length,by omega,by go_num,by first|rfl|go_num,C1,M,D1,B6⟩
    case measure=>simp[intOf];omega
   ·have M:Hid (R=false):=hZ9 (by rw[A4.out,aG I]);have U:FiS.Gy te P1 k=-1:=by unfold FiS.Gy;rw[aG I]
    rw[U] at B;clear I U A4;go_wp2_with fail;refine A2.mono ?_;rintro e w6 ⟨rfl,C⟩;have B6:=hb.trans (C.mono hb.size);have D1:=hw.call C;clear A2 q0 q1 q2 q3 q4 q5 q6 C;go_wp2_with fail;refine(B _).mono ?_;rintro e w7 ⟨rfl,rfl⟩;clear B;go_wp2_with fail;go_ret;exact⟨by(rw[M.out])<;>rfl,B6⟩
  ·have F7:j=S:=by omega
   subst F7;have M:Hid (R=true):=hZ9 (by rw[HQ.out,u.out];rfl);clear K F t u HQ z HG;go_wp2_with fail;go_ret;exact⟨by(rw[M.out])<;>rfl,hb⟩
theorem Uj(n:Nat)(x:Fi)(v:Value)(s:iK)(d:Int)(E5:d≠1)(w:World)(h:BF n w v x)(C2:FiS.wdF 20000 x)(hs:s.length<=20000):Calls prog 122 #[v,s,false] w (AP (FiS.AH (FiS.Ag d x.first) (FiS.Ag d x.last) (x.any.map (FiS.Ag d)) s) w):=by
 have B:Hid (∀p,FiS.Ag d p=p):=hZ9 (λp=>by unfold FiS.Ag;rw[aG E5]);have K:Hid (∀p,(FiS.Ag d p).length=p.length):=hZ9 (λp=>FiS.JK d p);obtain⟨kd,J,vl,fs,ls,c,ps⟩:=x;obtain⟨a5,c5,a6,c6,hv,V,A2,Z⟩:=FiV.parts h;have hv:v=.agg #[kd,J,vl,fs,ls,.slice a5 c.length c5,.slice a6 ps.length c6]:=hv;subst hv;have V:Ah w (.slice a5 c.length c5) c:=V;have A2:ps.length<=c6:=A2;have Z:Bl n (λ_=>True) w (.slice a6 ps.length c6) ps:=Z;rw[FiS.wdF] at C2;obtain⟨⟨F3,F7,G1,F5⟩,B5,Y,_,_⟩:=C2;have t:=hZ9 (λj (hj:j<c.length)=>Y c[j] (aZ hj));clear Y;obtain⟨U,H⟩:∃m,c.length=m:=⟨_,rfl⟩
 obtain⟨PL,A3⟩:∃m,ps.length=m:=⟨_,rfl⟩
 have D5:=hZ9 H;have E2:=hZ9 A3;rw[H] at V;rw[A3] at A2 Z
 try rw[H]
 try rw[A3]
 have A8:=Af w (.cells #[kd,J,vl,fs,ls,.slice a5 U c5,.slice a6 PL c6] 26);have A9:=Whole.made w 26 #[kd,J,vl,fs,ls,.slice a5 U c5,.slice a6 PL c6];obtain⟨q0,q1,q2,q3,q4,q5,q6⟩:=A9.seven;rw[H] at B5;obtain⟨a',c',e,D8,B2⟩:=Ad.at (V.strsP (λ_=>True) (λ_ _=>trivial));injection e with e1 e2 e3;rw[<-e1] at B2;have L:=hZ9 B2;have F:=hZ9 (λj (hj:j<c.length)=>av hj);have u:Hid (c.drop U=[]):=hZ9 (by rw[<-H];exact cj);show Calls _ _ _ _ (AP (FiS.AH (FiS.Ag d fs) (FiS.Ag d ls) (c.map (FiS.Ag d)) s) w)
 clear B2 V e1 e2 e3 D8 h Z H A3 E2 A2;rw[B.out fs,B.out ls];obtain⟨F1,D3⟩:∃f,f=fs:=⟨_,rfl⟩
 obtain⟨y,D1⟩:∃f,f=ls:=⟨_,rfl⟩
 subst D3;subst D1;have A5:=hZ9 (@FiS.MX F1 y s (c.map (FiS.Ag d)));have G:=hZ9 (@FiS.MZ F1 y s (c.map (FiS.Ag d)));have z:=hZ9 (@FiS.Oz F1 y s (c.map (FiS.Ag d)));have A4:=hZ9 (@FiS.Qr F1 y s (c.map (FiS.Ag d)));obtain⟨R,hR⟩:∃r,FiS.AH F1 y (c.map (FiS.Ag d)) s=r:=⟨_,rfl⟩
 rw[hR] at A5 G z A4⊢;clear hR;unfold AP;have HX:Hid (∀a b,(⟨s.toArray⟩:ByteArray).extract a b=⟨((s.take b).drop a).toArray⟩):=hZ9 (λa b=>Eu s a b);have Q:Hid (s.take s.length=s):=hZ9 (bA);go_enter func122,ntmps122;go_wp2_with fail
 go_quiet (fail)
 have B1:=below_drewN (w.alloc (.cells #[kd,J,vl,F1,y,.slice a5 U c5,.slice a6 PL c6] 26)) nq;have C4:=A8.trans (B1.mono A8.size);have B0:=A9.call B1;generalize (w.alloc (.cells #[kd,J,vl,F1,y,.slice a5 U c5,.slice a6 PL c6] 26)).drewN nq=w1 at*;clear q0 q1 q2 q3 q4 q5 q6 A9 A8 B1;obtain⟨q0,q1,q2,q3,q4,q5,q6⟩:=B0.seven;generalize w1=w4 at*;have O:=C4;have A6:=B0;clear q0 q1 q2 q3 q4 q5 q6 B0 C4;go_upto_region 4 with fail;by_cases C6:s.length<F1.length+y.length
 case pos=>
  have E0:(s.length:Int)<(F1.length:Int)+(y.length:Int):=by omega
  have D7:decide ((s.length:Int)<(F1.length:Int)+(y.length:Int))=true:=aI E0;have S:Hid (R=false):=hZ9 (A5.out C6);clear A5 G z A4 HX Q L F u t K B;go_wp2_with fail;go_ret;exact⟨by(rw[S.out])<;>rfl,O⟩
 have D7:decide ((s.length:Int)<(F1.length:Int)+(y.length:Int))=false:=aB (by omega);have F6:(F1.length:Int)+(y.length:Int)<=(s.length:Int):=by omega
 have G0:(F1.length:Int)<=(s.length:Int):=by omega
 have hxa:=HX.out 0 F1.length;rw[bI] at hxa;have E:=hZ9 (A4.out C6);have F2:y.length<=s.length:=by omega
 clear A5 A4;obtain⟨qa,B8⟩:∃q,s.take F1.length=q:=⟨_,rfl⟩
 rw[B8] at hxa G E;clear B8;cases hq:(qa==F1) with
 |false=>
  have C9:(qa !=F1)=true:=by simpa using hq
  have S:Hid (R=false):=hZ9 (G.out hq);clear G z E HX Q L F u t K B;go_wp2_with fail;go_ret;exact⟨by(rw[S.out])<;>rfl,O⟩
 |true=>
 have C9:(qa !=F1)=false:=by simpa using hq
 have A:=hZ9 (E.out hq);obtain⟨M,C8⟩:∃e,s.length-y.length=e:=⟨_,rfl⟩
 have E7:(s.length:Int)-(y.length:Int)=(M:Int):=by omega
 have G2:M<=s.length:=by omega
 have D9:F1.length<=M:=by omega
 have F4:(M:Int)<=(s.length:Int):=by omega
 have B3:=HX.out M s.length;rw[Q.out] at B3;rw[C8] at z A;clear G E;obtain⟨qb,C5⟩:∃q,s.drop M=q:=⟨_,rfl⟩
 rw[C5] at B3 z A;clear C5 C8;cases hr:(qb==y) with
 |false=>
  have C7:(qb !=y)=true:=by simpa using hr
  have S:Hid (R=false):=hZ9 (z.out hr);clear z A HX Q L F u t K B;go_wp2_with fail;go_ret;exact⟨by(rw[S.out])<;>rfl,O⟩
 |true=>
 have C7:(qb !=y)=false:=by simpa using hr
 have A7:=hZ9 (A.out hr);have D0:=HX.out 0 M;rw[bI] at D0;have E4:(s.take M).length=M:=by rw[ar];omega
 clear z A HX Q;obtain⟨te,A0⟩:∃q,s.take M=q:=⟨_,rfl⟩
 rw[A0] at D0 E4 A7;clear A0;obtain⟨q0,q1,q2,q3,q4,q5,q6⟩:=A6.seven;go_wp2_with fail;clear q0 q1 q2 q3 q4 q5 q6 hxa B3 hq C9 hr C7;go_loopw [9,60] (λa i wr=>∃(j k:Nat),j<=U/\i=.int .i64 j/\a=.int .i64 k/\k<=M/\Hid (R=FiS.DJ ((c.drop j).map (FiS.Ag d)) (te.drop k))/\Whole wr w.heap.size 26 #[kd,J,vl,F1,y,.slice a5 U c5,.slice a6 PL c6]/\Below w.heap.size w wr) (λ_ i _=>U-(intOf i).toNat)
 case atStart=>exact⟨0,F1.length,aR _,rfl,rfl,D9,hZ9 (by rw[A7.out,bI]),A6,O⟩
 case round=>
  obtain⟨j,k,hj,rfl,rfl,hk,HQ,hw,hb⟩:=hrel;clear O A6 A7;obtain⟨q0,q1,q2,q3,q4,q5,q6⟩:=hw.seven;by_cases E3:j<U
  ·have P:j<c.length:=by rw[D5.out];exact E3
   have C1:=hZ9 (F.out j P);have B4:=t.out j P;obtain⟨g,o,D4,hg,_,hra⟩:=L.out j P;have E1:wr.cell? ⟨g,o+j,none⟩=some (Ac c[j]):=by have:w.cell? ⟨g,o+j*1,none⟩=some (Ac c[j]):=hra;rw[bp] at this;exact Ab this hb
   clear hra L F t u;subst D4;generalize c[j]=p at*;unfold Ac at E1;have A1:=K.out p;have T:Hid (R=if 0<=Lib.index (te.drop k) (FiS.Ag d p) then FiS.DJ ((c.drop (j+1)).map (FiS.Ag d)) ((te.drop k).drop ((Lib.index (te.drop k) (FiS.Ag d p)).toNat+(FiS.Ag d p).length)) else false):=hZ9 (by rw[HQ.out,C1.out,cT,FiS.DJ]);clear HQ C1 K;obtain⟨P1,B7⟩:∃q,q=p:=⟨_,rfl⟩
   subst B7;rw[B.out P1] at T A1;clear B;have F9:(0:Int)<=(j:Int):=by omega
   have F8:(j:Int)<(U:Int):=by omega
   have D2:P1.length<=20000:=by omega
   have C:=λW=>Qq te P1 k (k:Int) rfl (by omega) (by omega) D2 W;have E8:(0:Int)<=(M:Int):=by omega
   clear B4;by_cases I:0<=Lib.index (te.drop k) P1
   ·obtain⟨i,hi,X,C0,B9⟩:=FiS.Oy I (by omega);have N:Hid (R=FiS.DJ ((c.drop (j+1)).map (FiS.Ag d)) (te.drop (k+i+P1.length))):=hZ9 (by rw[T.out,aJ I,hi,Int.toNat_natCast,B9]);rw[X] at C;have D6:decide (((k+i:Nat):Int)<0)=false:=aB (by omega);clear I hi X B9 T;obtain⟨ki,C3⟩:∃m,k+i=m:=⟨_,rfl⟩
    rw[C3] at C N C0 D6;have B6:ki+P1.length<=M:=by omega
    have F0:(ki:Int)+(P1.length:Int)<=20000:=by omega
    have E9:(0:Int)<=(ki:Int):=by omega
    clear C3 C0;go_wp2_with fail;refine(C _).mono ?_;rintro e w7 ⟨rfl,rfl⟩;clear C;go_wp2_with fail;go_roundw
    case rel=>exact⟨j+1,ki+P1.length,by omega,by go_num,by first|rfl|go_num,B6,N,hw,hb⟩
    case measure=>simp[intOf];omega
   ·have N:Hid (R=false):=hZ9 (by rw[T.out,aG I]);have X:FiS.Gy te P1 k=-1:=by unfold FiS.Gy;rw[aG I]
    rw[X] at C;clear I X T;go_wp2_with fail;refine(C _).mono ?_;rintro e w7 ⟨rfl,rfl⟩;clear C;go_wp2_with fail;go_ret;exact⟨by(rw[N.out])<;>rfl,hb⟩
  ·have E6:j=U:=by omega
   subst E6;have N:Hid (R=true):=hZ9 (by rw[HQ.out,u.out];rfl);clear L F t u HQ K B;go_wp2_with fail;go_ret;exact⟨by(rw[N.out])<;>rfl,hb⟩
end
section
open Go.RowKit
open FiS (Fi)
attribute [local go_sem ↓] Go.wp_at_zero Go.wp_at_succ
theorem Vs(n:Nat)(x:Fi)(v:Value)(t:iK)(w:World)(A7:x.kind≠4)(h:BF n w v x)(G:FiS.wdF 20000 x)(ht:t.length<=1000000)(hE:Env w):Calls prog 123 #[v,t] w (AP (FiS.CX x.kind x.attr x.value x.first x.last x.any t) w):=by
 have hA:x.attr.length<=20000/\x.value.length<=20000:=by cases x;rw[FiS.wdF] at G;exact⟨G.1.1,G.1.2.1⟩
 have m:Hid (FiS.CX x.kind x.attr x.value x.first x.last x.any t=if(DnS.AC x.attr t).2=0 then
  (if x.kind=3\/(RuS.typeOf x.attr).2=5 then(DnS.AC x.attr t).1==(DnS.AC x.attr x.value).1
  else if x.kind=8 then Im x.attr t x.value
  else decide (x.kind=5/\0<=Hg x.attr t x.value\/x.kind=6/\Hg x.attr t x.value<=0)) else false):=hZ9 (by unfold FiS.CX;rw[aG A7])
 clear G A7;obtain⟨a5,c5,a6,c6,hv,B1,B3,B0⟩:=FiV.parts h;clear B1 B0;obtain⟨R,hR⟩:∃r,FiS.CX x.kind x.attr x.value x.first x.last x.any t=r:=⟨_,rfl⟩
 rw[hR] at m⊢;clear hR h;generalize x.any.length=AL at*;generalize x.parts.length=PL at*;generalize x.kind=kd at*;generalize x.attr=at0 at*;generalize x.value=vl at*;generalize x.first=fs at*;generalize x.last=ls at*;subst hv;unfold AP at*;have z:=Af w (.cells #[kd,at0,vl,fs,ls,.slice a5 AL c5,.slice a6 PL c6] 26);have A0:=Whole.made w 26 #[kd,at0,vl,fs,ls,.slice a5 AL c5,.slice a6 PL c6];obtain⟨I,P,C,O,B,J,E⟩:=A0.seven;obtain⟨B2,B5⟩:=hA;have F:∀W,Calls prog 66 #[at0] W (Ak at0 W):=λW=>Eb ⟨at0.toArray⟩ (by rw[BZ];omega) W;have S:=λW hE=>MP at0 t (by omega) ht W hE;have Q:=λW hE=>MP at0 vl (by omega) (by omega) W hE;have M:∀W,Env W->Calls prog 151 #[at0,t,vl] W (CC at0 t vl W):=λW hE=>AbE ⟨at0.toArray⟩ ⟨t.toArray⟩ ⟨vl.toArray⟩ (by rw[BZ];omega) (by rw[BZ];omega) (by rw[BZ];omega) W hE;have A:∀W,Env W->Calls prog 152 #[at0,t,vl] W (CW at0 t vl W):=λW hE=>Ui ⟨at0.toArray⟩ ⟨t.toArray⟩ ⟨vl.toArray⟩ (by rw[BZ];omega) (by rw[BZ];omega) (by rw[BZ];omega) W hE;unfold Ak at F;unfold Bo at S Q;unfold CC at M;unfold CW at A;have A8:=hE.below z;generalize DnS.AC at0 t=X at*;generalize DnS.AC at0 vl=Y at*;generalize RuS.typeOf at0=TT at*;generalize Im at0 t vl=NB at*;generalize Hg at0 t vl=CB at*;generalize Dl at0 t vl=EB at*;obtain⟨X1,X2⟩:=X;obtain⟨Y1,Y2⟩:=Y;obtain⟨Tn,sy⟩:=TT;simp only at S Q F m;go_enter func123,ntmps123;go_wp2_with fail;refine(F _).mono ?_;rintro e w1 ⟨rfl,H⟩;have V:=z.trans (H.mono z.size);have A2:=A0.call H;have A4:=A8.below H;have U:=S _ A4;clear F S I P C O B J E A0 A8 z H;obtain⟨I,P,C,O,B,J,E⟩:=A2.seven;go_wp2_with fail;refine U.mono ?_;rintro e w2 ⟨rfl,L⟩;have N:=V.trans (L.mono V.size);have A5:=A2.call L;have A1:=A4.below L;have y:=Q _ A1;clear U Q I P C O B J E A2 A4 V L;by_cases A3:X2=0
 case neg=>
  have a:Hid (R=false):=hZ9 (by rw[m.out,aG A3]);have B4:(X2 !=0)=true:=by simpa using A3
  clear m y M A;go_wp2_with fail;go_ret;exact⟨by(rw[a.out])<;>rfl,N⟩
 subst A3;have b:=hZ9 ((m.out).trans (aJ (by first|rfl|trivial)));clear m;obtain⟨I,P,C,O,B,J,E⟩:=A5.seven;go_wp2_with fail;refine y.mono ?_;rintro e w3 ⟨rfl,T⟩;have g:=N.trans (T.mono N.size);have Z:=A5.call T;have A6:=A1.below T;have k:=M _ A6;have j:=A _ A6;clear y M A I P C O B J E A5 A1 N T;obtain⟨I,P,C,O,B,J,E⟩:=Z.seven;by_cases h35:kd=3\/sy=5
 ·have a:Hid (R=(X1==Y1)):=hZ9 (by rw[b.out,aJ h35]);have hd:(kd==3)=true\/((kd==3)=false/\(sy==5)=true):=by
   by_cases h3:kd=3
   ·exact .inl (by simpa using h3)
   ·exact .inr ⟨by simpa using h3,by simpa using h35.resolve_left h3⟩
  clear b h35 k j;rcases hd with k3|⟨k3,s5⟩
  ·go_wp2_with fail;go_ret;exact⟨by(rw[a.out])<;>rfl,g⟩
  ·go_wp2_with fail;go_ret;exact⟨by(rw[a.out])<;>rfl,g⟩
 have k3:(kd==3)=false:=by simpa using λh=>h35 (.inl h)
 have s5:(sy==5)=false:=by simpa using λh=>h35 (.inr h)
 by_cases p:kd=8
 ·have a:Hid (R=NB):=hZ9 (by rw[b.out,aG h35,aJ p]);subst p;clear b h35 j;go_wp2_with fail;refine k.mono ?_;rintro e w4 ⟨rfl,o⟩;have c:=g.trans (o.mono g.size);clear k I P C O B J E;go_wp2_with fail;go_ret;exact⟨by(rw[a.out])<;>rfl,c⟩
 have k8:(kd==8)=false:=by simpa using p
 have a:Hid (R=decide (kd=5/\0<=CB\/kd=6/\CB<=0)):=hZ9 (by rw[b.out,aG h35,aG p]);clear b h35 p k;go_wp2_with fail;refine j.mono ?_;rintro e w4 ⟨rfl,o⟩;have c:=g.trans (o.mono g.size);have A9:=Z.call o;clear j I P C O B J E Z g o;obtain⟨I,P,C,O,B,J,E⟩:=A9.seven;by_cases u:kd=5
 ·have i:Hid (R=decide (0<=CB)):=hZ9 (by rw[a.out];exact bM.2 ⟨λh=>by omega,λh=>.inl ⟨u,h⟩⟩);subst u;clear a;by_cases q:0<=CB
  ·have d:decide (0<=CB)=true:=aI q;go_wp2_with fail;go_ret;exact⟨by(rw[i.out,d])<;>rfl,c⟩
  ·have d:decide (0<=CB)=false:=aB q;go_wp2_with fail;go_ret;exact⟨by(rw[i.out,d])<;>rfl,c⟩
 have k5:(kd==5)=false:=by simpa using u
 by_cases K:kd=6
 ·have i:Hid (R=decide (CB<=0)):=hZ9 (by rw[a.out];exact bM.2 ⟨λh=>by omega,λh=>.inr ⟨K,h⟩⟩);subst K;clear a u;by_cases q:CB<=0
  ·have d:decide (CB<=0)=true:=aI q;go_wp2_with fail;go_ret;exact⟨by(rw[i.out,d])<;>rfl,c⟩
  ·have d:decide (CB<=0)=false:=aB q;go_wp2_with fail;go_ret;exact⟨by(rw[i.out,d])<;>rfl,c⟩
 have k6:(kd==6)=false:=by simpa using K
 have i:Hid (R=false):=hZ9 (by rw[a.out];exact aB (by omega));clear a u K;go_wp2_with fail;go_ret;exact⟨by(rw[i.out])<;>rfl,c⟩
end
