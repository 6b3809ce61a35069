/- The walks of 'Formed' of a part. Conditions: as stated. -/
import Derived.Test.YtgngjfjaelgaeaaGreatDoorZAva
set_option maxRecDepth 100000
set_option maxHeartbeats 8000000
namespace Go.Proofs.YtgngjfjaelgaeaaGreatDoor
open Go.Proofs.Tryz
variable {f l:Bool} {c:UInt8}
section
open Go.RowKit
def JX(xs:List RdS.Pr)(w:World)(e:Ending)(w':World):Prop:=e=.returned (.bool (RdS.formedS xs))/\Below w.heap.size w w'
def Ag6(xs:List RdS.Pr)(w:World)(l i:Value)(wr:World):Prop:=
 ∃k:Nat,k<=xs.length/\i=.int .i64 k/\l=.string ⟨(RdS.ED xs k).toArray⟩/\RdS.IM xs k=true/\Below w.heap.size w wr
def Fb(xs:List RdS.Pr):Prop:=∀p∈xs,p.1.length<=9223372036854775807/\p.2.length<=9223372036854775807
theorem LO(v:Value)(xs:List RdS.Pr)(w:World)(h:AY w v xs)(hf:Fb xs)(hE:Env w):Calls prog 141 #[v] w (JX xs w):=by
 obtain⟨a,c,rfl,hc,h⟩:=h;have V:=hZ9 (RdS.OH xs);rcases h with rfl|⟨g,o,rfl,hg,h⟩
 ·go_enter func141,ntmps141;go_wp2_with fail;go_ret;exact⟨rfl,Below.refl _ _⟩
 ·have H:=hZ9 h;have A2:=hZ9 hf;generalize U:xs.length=n at*;have HN:=hZ9 U;clear h hf U;by_cases O:n=0
  ·subst O;go_enter func141,ntmps141;go_wp2_with fail;go_ret;exact⟨by rw[V.out];rfl,Below.refl _ _⟩
  by_cases A1:3<n
  ·have T:Hid (decide (n<=3)=false):=hZ9 (aB (by omega));have hz:((n:Int)==0)=false:=aV.2 (by omega);go_enter func141,ntmps141;go_wp2_with fail;go_ret;exact⟨by rw[V.out,T.out];simp,Below.refl _ _⟩
  have hz:((n:Int)==0)=false:=aV.2 (by omega);have T:Hid (decide (1<=n)=true/\decide (n<=3)=true):=hZ9 ⟨aI (by omega),aI (by omega)⟩;have A6:decide ((3:Int)<(n:Int))=false:=aB (by omega);have A3:n<=3:=by omega
  clear O A1;go_enter func141,ntmps141;go_wp2_with fail;go_loopw [3,20] (λl i wr=>Ag6 xs w l i wr) (λ_ i _=>n-(intOf i).toNat)
  case atStart=>exact⟨0,aR _,rfl,rfl,rfl,Below.refl _ _⟩
  case round=>
   obtain⟨k,hk,rfl,rfl,Q,hb⟩:=hrel;rw[HN.out] at hk;have L:=hZ9 Q;clear Q;by_cases M:k<n
   ·have m:k<xs.length:=by rw[HN.out];exact M
    obtain⟨c0,c1⟩:=H.out k _ (aK m);have K:=hZ9 (RdS.JU xs k m);have Z:=hZ9 (RdS.LG xs k m);have Y:=hZ9 (λhp n U=>RdS.QD m hp n U);obtain⟨f1,f2⟩:=A2.out _ (aZ m);generalize xs[k]=p at*;obtain⟨t,u⟩:=p;simp only at c0 c1 f1 f2;replace c0:wr.cell? ⟨g,o+k*2,none⟩=some (Ac t):=(hb.cell (p:=⟨g,o+k*2,none⟩) hg).trans c0;replace c1:wr.cell? ⟨g,o+k*2+1,none⟩=some (Ac u):=(hb.cell (p:=⟨g,o+k*2+1,none⟩) hg).trans c1;unfold Ac at c0 c1;have F:Hid (RdS.CN (RdS.ED xs k) (t,u)=false->RdS.formedS xs=false):=hZ9 (λhp=>by
     rw[V.out,Y.out hp n M,bY])
    have q:=λw=>Gx ⟨t.toArray⟩ f1 w;unfold Ak at q;have dt:(⟨t.toArray⟩:ByteArray).data.toList=t:=rfl;rw[dt] at q;clear dt;have HP:Hid (RdS.CN (RdS.ED xs k) (t,u)=(((RuS.typeOf t).1==t)&&((RuS.typeOf t).2==1||(RuS.typeOf t).2==3)&&Op.bytesLess (RdS.ED xs k) t&&((RuS.normal t u).2==0))):=hZ9 rfl;generalize RdS.ED xs k=last at*;generalize RuS.typeOf t=r at*;obtain⟨j,G⟩:=r;simp only at q;have d:=hb;cases q1:(j==t) with
    |false=>have Q1:=hZ9 q1;go_wp2_with fail;refine(q _).mono ?_;rintro e w1 ⟨rfl,b⟩;have R:w1.cell? ⟨wr.heap.size,0,none⟩=some (.string ⟨t.toArray⟩):=Ab (by go_simp) b;go_wp2_with fail;go_ret;exact⟨by rw[F.out (by rw[HP.out];simp only[Q1.out];rfl)];rfl,(d.alloc d.size _).trans (b.mono (by have:=d.size;simp;omega))⟩
    |true=>
     have e1:=ag.1 q1;subst e1;clear q1;have A7:j.length<=9223372036854775807:=f1;by_cases N:G=1\/G=3
     ·have X:=RuS.compare_range last j;have A:=RuS.less_iff last j;have y:=RuS.less_iff j last;have C:=RuS.eq_iff j last;have P:=RuS.compare_swap last j;rw[P] at y C;generalize Lib.compareBytes last j=cb at*;have E:cb=-1\/cb=0\/cb=1:=by omega
      have Q2:Hid ((G==1||G==3)=true):=hZ9 (by rcases N with rfl|rfl<;>rfl);clear P X;have B:=λw hE=>Ge ⟨j.toArray⟩ ⟨u.toArray⟩ f1 f2 w hE;unfold AX at B;have du:∀l:iK,(⟨l.toArray⟩:ByteArray).data.toList=l:=λ_=>rfl;rw[du,du] at B;clear du;generalize RuS.normal j u=nr at*;obtain⟨x,e0⟩:=nr;simp only at B;rcases E with rfl|E
      ·simp only[Int.reduceNeg,eT,Int.reduceEq,eK,Int.neg_neg] at A y C;have z:=hZ9 A;clear A;by_cases S:e0=0
       ·subst S;rcases N with rfl|rfl
        all_goals
         go_wp2_with fail;refine(q _).mono ?_;rintro e w1 ⟨rfl,b⟩;have R:w1.cell? ⟨wr.heap.size,0,none⟩=some (.string ⟨j.toArray⟩):=Ab (by go_simp) b;have d1:w1.cell? ⟨wr.heap.size,1,none⟩=some (.string ⟨u.toArray⟩):=Ab (by go_simp) b;have s:Below w.heap.size w w1:=(d.alloc d.size _).trans (b.mono (by have:=d.size;simp;omega));go_wp2_with fail;refine(B _ (hE.below s)).mono ?_;rintro e w2 ⟨rfl,J⟩;have I:Below w.heap.size w w2:=s.trans (J.mono s.size);go_wp2_with fail;go_roundw
         case rel=>exact⟨k+1,by rw[HN.out];omega,by go_num,by rw[Z.out],by rw[K.out,L.out,HP.out];simp[z.out],I⟩
         case measure=>simp[intOf];omega
       ·have W:(e0==0)=false:=by simpa using S
        have A4:(e0 !=0)=true:=by simpa using S
        have Q4:=hZ9 W;clear S;rcases N with rfl|rfl
        all_goals
         go_wp2_with fail;refine(q _).mono ?_;rintro e w1 ⟨rfl,b⟩;have R:w1.cell? ⟨wr.heap.size,0,none⟩=some (.string ⟨j.toArray⟩):=Ab (by go_simp) b;have d1:w1.cell? ⟨wr.heap.size,1,none⟩=some (.string ⟨u.toArray⟩):=Ab (by go_simp) b;have s:Below w.heap.size w w1:=(d.alloc d.size _).trans (b.mono (by have:=d.size;simp;omega));go_wp2_with fail;refine(B _ (hE.below s)).mono ?_;rintro e w2 ⟨rfl,J⟩;have I:Below w.heap.size w w2:=s.trans (J.mono s.size);go_wp2_with fail;go_ret;exact⟨by rw[F.out (by rw[HP.out];simp only[Q4.out,bY])];rfl,I⟩
      ·have z:Hid (Op.bytesLess last j=false):=hZ9 (by rw[A,aB (by omega)]);have A5:(Op.bytesLess j last||j==last)=true:=by
        rw[y,C];rcases E with rfl|rfl<;>rfl
       clear A y C E;rcases N with rfl|rfl
       all_goals
        go_wp2_with fail;refine(q _).mono ?_;rintro e w1 ⟨rfl,b⟩;have R:w1.cell? ⟨wr.heap.size,0,none⟩=some (.string ⟨j.toArray⟩):=Ab (by go_simp) b;go_wp2_with fail
        all_goals go_ret
        all_goals exact⟨by rw[F.out (by rw[HP.out];simp only[z.out,bY,cM])];rfl,(d.alloc d.size _).trans (b.mono (by have:=d.size;simp;omega))⟩
     ·have g1:(G !=1)=true:=by simp;omega
      have g3:(G !=3)=true:=by simp;omega
      have Q2:Hid ((G==1||G==3)=false):=hZ9 (by simp;omega);clear N;go_wp2_with fail;refine(q _).mono ?_;rintro e w1 ⟨rfl,b⟩;have R:w1.cell? ⟨wr.heap.size,0,none⟩=some (.string ⟨j.toArray⟩):=Ab (by go_simp) b;go_wp2_with fail;go_ret;exact⟨by rw[F.out (by rw[HP.out];simp only[Q2.out,bY,cM])];rfl,(d.alloc d.size _).trans (b.mono (by have:=d.size;simp;omega))⟩
   ·have A0:k=n:=by omega
    subst A0;go_wp2_with fail;go_ret;exact⟨by rw[V.out,L.out,T.out.1,T.out.2];rfl,hb⟩
end
section
open Go.RowKit
attribute [local go_sem ↓] Go.wp_at_zero Go.wp_at_succ
def Acp(B b:Nat)(a v:iK)(w:World)(i:Value)(wr:World):Prop:=∃k:Nat,k<=v.length/\i=.int .i64 k/\Bld B b (a++RdS.Dp v k) wr/\Below B w wr/\Others b w wr
theorem MH(c:UInt8):decide (0<=Lib.indexByte RdS.EI c)=RdS.AE c:=by
 have h:=RuS.indexByte_none RdS.EI c;unfold RdS.AE;rw[bR,az,cg];constructor
 ·intro h1;exact fW λa=>by have:=h.2 a;omega
 ·intro h1;have:¬Lib.indexByte RdS.EI c<0:=λa=>h.1 a h1;omega
theorem BQ(h:(RdS.AE c||(c==32&&(f||l))||(c==35&&f))=true):RdS.Bq f l c=[92,c]:=by unfold RdS.Bq;rw[aJ h]
theorem JD(h:(RdS.AE c||(c==32&&(f||l))||(c==35&&f))=false)(h2:(decide (c.toNat<32)||decide (126<c.toNat))=true):
  RdS.Bq f l c=[92,RdS.BI (c.toNat / 16),RdS.BI (c.toNat % 16)]:=by
 unfold RdS.Bq;rw[aG (by rw[h];decide),aJ h2]
theorem EE(h:(RdS.AE c||(c==32&&(f||l))||(c==35&&f))=false)(h2:(decide (c.toNat<32)||decide (126<c.toNat))=false):RdS.Bq f l c=[c]:=by unfold RdS.Bq;rw[aG (by rw[h];decide),aG (by rw[h2];decide)]
theorem QQ{d:UInt8}{n:Int}(a:(d.toNat:Int)=n):((c.toNat:Int)==n)=(c==d):=by rw[bR,ag,ag,<-a];exact⟨λh=>cd.1 (by omega),λh=>by rw[h]⟩
theorem YT(n:Nat)(h:n<16)(w:World):(Instr.index 9 (.string ⟨#[48,49,50,51,52,53,54,55,56,57,97,98,99,100,101,102]⟩) (.int .u8 (n:Int))).run prog w=.ok (.int .u8 ((RdS.BI n).toNat:Int)) w:=by
 have a:n=0\/n=1\/n=2\/n=3\/n=4\/n=5\/n=6\/n=7\/n=8\/n=9\/n=10\/n=11\/n=12\/n=13\/n=14\/n=15:=by omega
 rcases a with rfl|rfl|rfl|rfl|rfl|rfl|rfl|rfl|rfl|rfl|rfl|rfl|rfl|rfl|rfl|rfl<;>(show _=_;kernel_rfl)
theorem Nz(c:UInt8)(w:World):(Instr.index 9 (.string ⟨#[48,49,50,51,52,53,54,55,56,57,97,98,99,100,101,102]⟩) (.int .u8 ((c.toNat:Int) / 16))).run prog w=.ok (.int .u8 ((RdS.BI (c.toNat / 16)).toNat:Int)) w:=by have h:=YT (c.toNat / 16) (by have:=c.toNat_lt;omega) w;rw[show ((c.toNat / 16:Nat):Int)=(c.toNat:Int) / 16 from by omega] at h;exact h
theorem NC(c:UInt8)(w:World):(Instr.index 9 (.string ⟨#[48,49,50,51,52,53,54,55,56,57,97,98,99,100,101,102]⟩) (.int .u8 ((c.toNat:Int) % 16))).run prog w=.ok (.int .u8 ((RdS.BI (c.toNat % 16)).toNat:Int)) w:=by have h:=YT (c.toNat % 16) (by omega) w;rw[show ((c.toNat % 16:Nat):Int)=(c.toNat:Int) % 16 from by omega] at h;exact h
theorem Aem(B b:Nat)(E v:iK)(w:World)(h:Bld B b E w)(A2:E.length<=100000000)(hv:v.length<=100000000)(hB:B<=w.heap.size):
  Calls prog 144 #[.pointer (some ⟨b,0,none⟩),v] w λe w'=>e=.returned (.tuple #[])/\Bld B b (E++RdS.EJ v) w'/\Below B w w'/\Others b w w':=by
 go_enter func144,ntmps144;go_wp2_with fail;go_loopw [9] (λi wr=>Acp B b E v w i wr) (λi _=>v.length-(intOf i).toNat)
 case atStart=>exact⟨0,aR _,rfl,by rw[show RdS.Dp v 0=[] from rfl,bK];exact h,Below.refl _ _,Others.refl _ _⟩
 case round=>
  obtain⟨k,hk,rfl,O,hb,X⟩:=hrel;have u:=hZ9 X;clear X;by_cases R:k<v.length
  ·have HS:=hZ9 (RdS.Jf v k R);have V:=RdS.JS v k hk;have W:(E++RdS.Dp v k).length<=500000000:=by rw[aT];omega
   have s:=hZ9 (MH v[k]);generalize K:v[k]=c at*;have A1:∀h,(⟨v.toArray⟩:ByteArray)[k]'h=c:=λ_=>K;clear K V;have HA:Hid (∀x,E++RdS.Dp v k++x=E++(RdS.Dp v k++x)):=hZ9 (λx=>bL _ _ _);generalize H:E++RdS.Dp v k=acc at*;have Y:=hZ9 H;clear H;have hsz:=hb.size;have q:=λw=>strings_IndexByte ⟨#[44,43,34,92,60,62,59]⟩ (c.toNat:Int) w;have L:(⟨#[44,43,34,92,60,62,59]⟩:ByteArray).data.toList=RdS.EI:=rfl;have M:((c.toNat:Int).toNat.toUInt8)=c:=by rw[Int.toNat_natCast];exact dB
   rw[L,M] at q;clear L M;generalize Lib.indexByte RdS.EI c=ix at*;replace q:=λw=>(q w).mono (λe w' (h:_/\_)=>(⟨h.1,h.2.symm⟩:e=.returned ix/\w=w'));have Z:((c.toNat:Int)==32)=(c==32):=QQ rfl;have A0:((c.toNat:Int)==35)=(c==35):=QQ rfl;have ez:((k:Int)==0)=decide (k=0):=by rw[bR,ag,az];omega
   have el:((k:Int)==(v.length:Int)-1)=decide (k+1=v.length):=by rw[bR,ag,az];omega
   have I:∀(x:iK) (w':World),RdS.Bq (decide (k=0)) (decide (k+1=v.length)) c=x->Gp B b (acc++x) w'->Below B w w'->Others b w w'->Acp B b E v w (.int .i64 ((k:Int)+1)) w':=by intro x w' hx hu S U;refine⟨k+1,by omega,by go_num,?_,S,U⟩;rw[HS.out,hx,<-HA.out];exact hu.bld
   have j:=hZ9 I;clear I;generalize Q:decide (k=0)=qf at*;generalize T:decide (k+1=v.length)=ql at*;generalize F:(c==32)=q32 at*;generalize G:(c==35)=q35 at*;have o:=hZ9 F;have n:=hZ9 G;have g:=hZ9 O;clear Q T F G;cases q32
   all_goals cases q35
   all_goals cases qf
   all_goals cases ql
   case false.false.false.false=>
    by_cases m:0<=ix
    ·have p:Hid (RdS.AE c=true):=hZ9 (by rw[<-s.out,aI m]);have r:Hid (RdS.Bq false false c=[92,c]):=hZ9 (BQ (by rw[p.out];rfl));go_wp2_with fail;refine(q _).mono ?_;rintro e w0 ⟨rfl,rfl⟩;go_wp2_with fail;refine(Cf B b acc wr.heap.size 2 2 [92,c] _ (g.out.alloc _) (by omega) (by simp;omega) rfl (by have:=g.out.lt.1;omega) (Db (by simp[go_sem,Aj]) (by simp[go_sem,Aj]))).mono ?_;rintro e w1 ⟨rfl,hu,d,a⟩;go_wp2_with fail;go_roundw
     case rel=>exact j.out _ _ r.out hu ((hb.alloc (by omega) _).trans d) ((u.out.alloc hsz _).trans a (by simp;omega))
     case measure=>simp[intOf];omega
    ·have p:Hid (RdS.AE c=false):=hZ9 (by rw[<-s.out,aB m]);have C:decide (0<=ix)=false:=aB m;clear m;by_cases hu:c.toNat<32\/126<c.toNat
     ·have A:Hid ((decide (c.toNat<32)||decide (126<c.toNat))=true):=hZ9 (by rcases hu with hu|hu<;>simp[hu]);have r:=hZ9 (JD (f:=false) (l:=false) (c:=c) (by rw[p.out,o.out,n.out];rfl) A.out);have hx1:=Nz c;have J:=NC c;have hand:bits .and .u8 (c.toNat:Int) 15=(c.toNat:Int) % 16:=u8_and15 (c.toNat:Int) (by omega) (by have:=c.toNat_lt;omega);by_cases y:c.toNat<32
      ·have t:decide ((c.toNat:Int)<32)=true:=aI (by omega);clear y hu;go_wp2_with fail;refine(q _).mono ?_;rintro e w0 ⟨rfl,rfl⟩;go_wp2_with fail
       go_region_held3 (λ_=>True) (trivial)
        (first|(go_at_call 174;refine(Cf B b acc wr.heap.size 3 3 [92,RdS.BI (c.toNat / 16),RdS.BI (c.toNat % 16)] _ ((g.out.alloc _).drew) (by omega) (by simp;omega) rfl (by have:=g.out.lt.1;omega) (Dy (by simp[go_sem,Aj]) (by simp[go_sem,Aj]) (by simp[go_sem,Aj]))).mono ?_;rintro e w1 ⟨rfl,hu,d,a⟩))
       all_goals go_wp2_with fail
       all_goals go_roundw
       all_goals first|exact j.out _ _ r.out hu ((hb.alloc (by omega) _).drew.trans d) (((u.out.alloc hsz _).drew).trans a (by simp;omega))|(simp[intOf];omega)
      ·have t:decide ((c.toNat:Int)<32)=false:=aB (by omega);have z:decide ((126:Int)<(c.toNat:Int))=true:=aI (by omega);clear y hu;go_wp2_with fail;refine(q _).mono ?_;rintro e w0 ⟨rfl,rfl⟩;go_wp2_with fail
       go_region_held3 (λ_=>True) (trivial)
        (first|(go_at_call 174;refine(Cf B b acc wr.heap.size 3 3 [92,RdS.BI (c.toNat / 16),RdS.BI (c.toNat % 16)] _ ((g.out.alloc _).drew) (by omega) (by simp;omega) rfl (by have:=g.out.lt.1;omega) (Dy (by simp[go_sem,Aj]) (by simp[go_sem,Aj]) (by simp[go_sem,Aj]))).mono ?_;rintro e w1 ⟨rfl,hu,d,a⟩))
       all_goals go_wp2_with fail
       all_goals go_roundw
       all_goals first|exact j.out _ _ r.out hu ((hb.alloc (by omega) _).drew.trans d) (((u.out.alloc hsz _).drew).trans a (by simp;omega))|(simp[intOf];omega)
     ·have A:Hid ((decide (c.toNat<32)||decide (126<c.toNat))=false):=hZ9 (by rw[aB (λh=>hu (.inl h)),aB (λh=>hu (.inr h))];rfl);have t:decide ((c.toNat:Int)<32)=false:=aB (by omega);have z:decide ((126:Int)<(c.toNat:Int))=false:=aB (by omega);clear hu;have r:Hid (RdS.Bq false false c=[c]):=hZ9 (EE (by rw[p.out,o.out,n.out];rfl) (A.out));go_wp2_with fail;refine(q _).mono ?_;rintro e w0 ⟨rfl,rfl⟩;go_wp2_with fail;refine(Dw B b acc c _ g.out (by omega) (by omega)).mono ?_;rintro e w1 ⟨rfl,hu,d,a⟩;go_wp2_with fail;go_roundw
      case rel=>exact j.out _ _ r.out hu (hb.trans d) (u.out.trans a hsz)
      case measure=>simp[intOf];omega
   case false.false.false.true=>
    by_cases m:0<=ix
    ·have p:Hid (RdS.AE c=true):=hZ9 (by rw[<-s.out,aI m]);have r:Hid (RdS.Bq false true c=[92,c]):=hZ9 (BQ (by rw[p.out];rfl));go_wp2_with fail;refine(q _).mono ?_;rintro e w0 ⟨rfl,rfl⟩;go_wp2_with fail;refine(Cf B b acc wr.heap.size 2 2 [92,c] _ (g.out.alloc _) (by omega) (by simp;omega) rfl (by have:=g.out.lt.1;omega) (Db (by simp[go_sem,Aj]) (by simp[go_sem,Aj]))).mono ?_;rintro e w1 ⟨rfl,hu,d,a⟩;go_wp2_with fail;go_roundw
     case rel=>exact j.out _ _ r.out hu ((hb.alloc (by omega) _).trans d) ((u.out.alloc hsz _).trans a (by simp;omega))
     case measure=>simp[intOf];omega
    ·have p:Hid (RdS.AE c=false):=hZ9 (by rw[<-s.out,aB m]);have C:decide (0<=ix)=false:=aB m;clear m;by_cases hu:c.toNat<32\/126<c.toNat
     ·have A:Hid ((decide (c.toNat<32)||decide (126<c.toNat))=true):=hZ9 (by rcases hu with hu|hu<;>simp[hu]);have r:=hZ9 (JD (f:=false) (l:=true) (c:=c) (by rw[p.out,o.out,n.out];rfl) A.out);have hx1:=Nz c;have J:=NC c;have hand:bits .and .u8 (c.toNat:Int) 15=(c.toNat:Int) % 16:=u8_and15 (c.toNat:Int) (by omega) (by have:=c.toNat_lt;omega);by_cases y:c.toNat<32
      ·have t:decide ((c.toNat:Int)<32)=true:=aI (by omega);clear y hu;go_wp2_with fail;refine(q _).mono ?_;rintro e w0 ⟨rfl,rfl⟩;go_wp2_with fail
       go_region_held3 (λ_=>True) (trivial)
        (first|(go_at_call 174;refine(Cf B b acc wr.heap.size 3 3 [92,RdS.BI (c.toNat / 16),RdS.BI (c.toNat % 16)] _ ((g.out.alloc _).drew) (by omega) (by simp;omega) rfl (by have:=g.out.lt.1;omega) (Dy (by simp[go_sem,Aj]) (by simp[go_sem,Aj]) (by simp[go_sem,Aj]))).mono ?_;rintro e w1 ⟨rfl,hu,d,a⟩))
       all_goals go_wp2_with fail
       all_goals go_roundw
       all_goals first|exact j.out _ _ r.out hu ((hb.alloc (by omega) _).drew.trans d) (((u.out.alloc hsz _).drew).trans a (by simp;omega))|(simp[intOf];omega)
      ·have t:decide ((c.toNat:Int)<32)=false:=aB (by omega);have z:decide ((126:Int)<(c.toNat:Int))=true:=aI (by omega);clear y hu;go_wp2_with fail;refine(q _).mono ?_;rintro e w0 ⟨rfl,rfl⟩;go_wp2_with fail
       go_region_held3 (λ_=>True) (trivial)
        (first|(go_at_call 174;refine(Cf B b acc wr.heap.size 3 3 [92,RdS.BI (c.toNat / 16),RdS.BI (c.toNat % 16)] _ ((g.out.alloc _).drew) (by omega) (by simp;omega) rfl (by have:=g.out.lt.1;omega) (Dy (by simp[go_sem,Aj]) (by simp[go_sem,Aj]) (by simp[go_sem,Aj]))).mono ?_;rintro e w1 ⟨rfl,hu,d,a⟩))
       all_goals go_wp2_with fail
       all_goals go_roundw
       all_goals first|exact j.out _ _ r.out hu ((hb.alloc (by omega) _).drew.trans d) (((u.out.alloc hsz _).drew).trans a (by simp;omega))|(simp[intOf];omega)
     ·have A:Hid ((decide (c.toNat<32)||decide (126<c.toNat))=false):=hZ9 (by rw[aB (λh=>hu (.inl h)),aB (λh=>hu (.inr h))];rfl);have t:decide ((c.toNat:Int)<32)=false:=aB (by omega);have z:decide ((126:Int)<(c.toNat:Int))=false:=aB (by omega);clear hu;have r:Hid (RdS.Bq false true c=[c]):=hZ9 (EE (by rw[p.out,o.out,n.out];rfl) (A.out));go_wp2_with fail;refine(q _).mono ?_;rintro e w0 ⟨rfl,rfl⟩;go_wp2_with fail;refine(Dw B b acc c _ g.out (by omega) (by omega)).mono ?_;rintro e w1 ⟨rfl,hu,d,a⟩;go_wp2_with fail;go_roundw
      case rel=>exact j.out _ _ r.out hu (hb.trans d) (u.out.trans a hsz)
      case measure=>simp[intOf];omega
   case false.false.true.false=>
    by_cases m:0<=ix
    ·have p:Hid (RdS.AE c=true):=hZ9 (by rw[<-s.out,aI m]);have r:Hid (RdS.Bq true false c=[92,c]):=hZ9 (BQ (by rw[p.out];rfl));go_wp2_with fail;refine(q _).mono ?_;rintro e w0 ⟨rfl,rfl⟩;go_wp2_with fail;refine(Cf B b acc wr.heap.size 2 2 [92,c] _ (g.out.alloc _) (by omega) (by simp;omega) rfl (by have:=g.out.lt.1;omega) (Db (by simp[go_sem,Aj]) (by simp[go_sem,Aj]))).mono ?_;rintro e w1 ⟨rfl,hu,d,a⟩;go_wp2_with fail;go_roundw
     case rel=>exact j.out _ _ r.out hu ((hb.alloc (by omega) _).trans d) ((u.out.alloc hsz _).trans a (by simp;omega))
     case measure=>simp[intOf];omega
    ·have p:Hid (RdS.AE c=false):=hZ9 (by rw[<-s.out,aB m]);have C:decide (0<=ix)=false:=aB m;clear m;by_cases hu:c.toNat<32\/126<c.toNat
     ·have A:Hid ((decide (c.toNat<32)||decide (126<c.toNat))=true):=hZ9 (by rcases hu with hu|hu<;>simp[hu]);have r:=hZ9 (JD (f:=true) (l:=false) (c:=c) (by rw[p.out,o.out,n.out];rfl) A.out);have hx1:=Nz c;have J:=NC c;have hand:bits .and .u8 (c.toNat:Int) 15=(c.toNat:Int) % 16:=u8_and15 (c.toNat:Int) (by omega) (by have:=c.toNat_lt;omega);by_cases y:c.toNat<32
      ·have t:decide ((c.toNat:Int)<32)=true:=aI (by omega);clear y hu;go_wp2_with fail;refine(q _).mono ?_;rintro e w0 ⟨rfl,rfl⟩;go_wp2_with fail
       go_region_held3 (λ_=>True) (trivial)
        (first|(go_at_call 174;refine(Cf B b acc wr.heap.size 3 3 [92,RdS.BI (c.toNat / 16),RdS.BI (c.toNat % 16)] _ ((g.out.alloc _).drew) (by omega) (by simp;omega) rfl (by have:=g.out.lt.1;omega) (Dy (by simp[go_sem,Aj]) (by simp[go_sem,Aj]) (by simp[go_sem,Aj]))).mono ?_;rintro e w1 ⟨rfl,hu,d,a⟩))
       all_goals go_wp2_with fail
       all_goals go_roundw
       all_goals first|exact j.out _ _ r.out hu ((hb.alloc (by omega) _).drew.trans d) (((u.out.alloc hsz _).drew).trans a (by simp;omega))|(simp[intOf];omega)
      ·have t:decide ((c.toNat:Int)<32)=false:=aB (by omega);have z:decide ((126:Int)<(c.toNat:Int))=true:=aI (by omega);clear y hu;go_wp2_with fail;refine(q _).mono ?_;rintro e w0 ⟨rfl,rfl⟩;go_wp2_with fail
       go_region_held3 (λ_=>True) (trivial)
        (first|(go_at_call 174;refine(Cf B b acc wr.heap.size 3 3 [92,RdS.BI (c.toNat / 16),RdS.BI (c.toNat % 16)] _ ((g.out.alloc _).drew) (by omega) (by simp;omega) rfl (by have:=g.out.lt.1;omega) (Dy (by simp[go_sem,Aj]) (by simp[go_sem,Aj]) (by simp[go_sem,Aj]))).mono ?_;rintro e w1 ⟨rfl,hu,d,a⟩))
       all_goals go_wp2_with fail
       all_goals go_roundw
       all_goals first|exact j.out _ _ r.out hu ((hb.alloc (by omega) _).drew.trans d) (((u.out.alloc hsz _).drew).trans a (by simp;omega))|(simp[intOf];omega)
     ·have A:Hid ((decide (c.toNat<32)||decide (126<c.toNat))=false):=hZ9 (by rw[aB (λh=>hu (.inl h)),aB (λh=>hu (.inr h))];rfl);have t:decide ((c.toNat:Int)<32)=false:=aB (by omega);have z:decide ((126:Int)<(c.toNat:Int))=false:=aB (by omega);clear hu;have r:Hid (RdS.Bq true false c=[c]):=hZ9 (EE (by rw[p.out,o.out,n.out];rfl) (A.out));go_wp2_with fail;refine(q _).mono ?_;rintro e w0 ⟨rfl,rfl⟩;go_wp2_with fail;refine(Dw B b acc c _ g.out (by omega) (by omega)).mono ?_;rintro e w1 ⟨rfl,hu,d,a⟩;go_wp2_with fail;go_roundw
      case rel=>exact j.out _ _ r.out hu (hb.trans d) (u.out.trans a hsz)
      case measure=>simp[intOf];omega
   case false.false.true.true=>
    by_cases m:0<=ix
    ·have p:Hid (RdS.AE c=true):=hZ9 (by rw[<-s.out,aI m]);have r:Hid (RdS.Bq true true c=[92,c]):=hZ9 (BQ (by rw[p.out];rfl));go_wp2_with fail;refine(q _).mono ?_;rintro e w0 ⟨rfl,rfl⟩;go_wp2_with fail;refine(Cf B b acc wr.heap.size 2 2 [92,c] _ (g.out.alloc _) (by omega) (by simp;omega) rfl (by have:=g.out.lt.1;omega) (Db (by simp[go_sem,Aj]) (by simp[go_sem,Aj]))).mono ?_;rintro e w1 ⟨rfl,hu,d,a⟩;go_wp2_with fail;go_roundw
     case rel=>exact j.out _ _ r.out hu ((hb.alloc (by omega) _).trans d) ((u.out.alloc hsz _).trans a (by simp;omega))
     case measure=>simp[intOf];omega
    ·have p:Hid (RdS.AE c=false):=hZ9 (by rw[<-s.out,aB m]);have C:decide (0<=ix)=false:=aB m;clear m;by_cases hu:c.toNat<32\/126<c.toNat
     ·have A:Hid ((decide (c.toNat<32)||decide (126<c.toNat))=true):=hZ9 (by rcases hu with hu|hu<;>simp[hu]);have r:=hZ9 (JD (f:=true) (l:=true) (c:=c) (by rw[p.out,o.out,n.out];rfl) A.out);have hx1:=Nz c;have J:=NC c;have hand:bits .and .u8 (c.toNat:Int) 15=(c.toNat:Int) % 16:=u8_and15 (c.toNat:Int) (by omega) (by have:=c.toNat_lt;omega);by_cases y:c.toNat<32
      ·have t:decide ((c.toNat:Int)<32)=true:=aI (by omega);clear y hu;go_wp2_with fail;refine(q _).mono ?_;rintro e w0 ⟨rfl,rfl⟩;go_wp2_with fail
       go_region_held3 (λ_=>True) (trivial)
        (first|(go_at_call 174;refine(Cf B b acc wr.heap.size 3 3 [92,RdS.BI (c.toNat / 16),RdS.BI (c.toNat % 16)] _ ((g.out.alloc _).drew) (by omega) (by simp;omega) rfl (by have:=g.out.lt.1;omega) (Dy (by simp[go_sem,Aj]) (by simp[go_sem,Aj]) (by simp[go_sem,Aj]))).mono ?_;rintro e w1 ⟨rfl,hu,d,a⟩))
       all_goals go_wp2_with fail
       all_goals go_roundw
       all_goals first|exact j.out _ _ r.out hu ((hb.alloc (by omega) _).drew.trans d) (((u.out.alloc hsz _).drew).trans a (by simp;omega))|(simp[intOf];omega)
      ·have t:decide ((c.toNat:Int)<32)=false:=aB (by omega);have z:decide ((126:Int)<(c.toNat:Int))=true:=aI (by omega);clear y hu;go_wp2_with fail;refine(q _).mono ?_;rintro e w0 ⟨rfl,rfl⟩;go_wp2_with fail
       go_region_held3 (λ_=>True) (trivial)
        (first|(go_at_call 174;refine(Cf B b acc wr.heap.size 3 3 [92,RdS.BI (c.toNat / 16),RdS.BI (c.toNat % 16)] _ ((g.out.alloc _).drew) (by omega) (by simp;omega) rfl (by have:=g.out.lt.1;omega) (Dy (by simp[go_sem,Aj]) (by simp[go_sem,Aj]) (by simp[go_sem,Aj]))).mono ?_;rintro e w1 ⟨rfl,hu,d,a⟩))
       all_goals go_wp2_with fail
       all_goals go_roundw
       all_goals first|exact j.out _ _ r.out hu ((hb.alloc (by omega) _).drew.trans d) (((u.out.alloc hsz _).drew).trans a (by simp;omega))|(simp[intOf];omega)
     ·have A:Hid ((decide (c.toNat<32)||decide (126<c.toNat))=false):=hZ9 (by rw[aB (λh=>hu (.inl h)),aB (λh=>hu (.inr h))];rfl);have t:decide ((c.toNat:Int)<32)=false:=aB (by omega);have z:decide ((126:Int)<(c.toNat:Int))=false:=aB (by omega);clear hu;have r:Hid (RdS.Bq true true c=[c]):=hZ9 (EE (by rw[p.out,o.out,n.out];rfl) (A.out));go_wp2_with fail;refine(q _).mono ?_;rintro e w0 ⟨rfl,rfl⟩;go_wp2_with fail;refine(Dw B b acc c _ g.out (by omega) (by omega)).mono ?_;rintro e w1 ⟨rfl,hu,d,a⟩;go_wp2_with fail;go_roundw
      case rel=>exact j.out _ _ r.out hu (hb.trans d) (u.out.trans a hsz)
      case measure=>simp[intOf];omega
   case false.true.false.false=>
    by_cases m:0<=ix
    ·have p:Hid (RdS.AE c=true):=hZ9 (by rw[<-s.out,aI m]);have r:Hid (RdS.Bq false false c=[92,c]):=hZ9 (BQ (by rw[p.out];rfl));go_wp2_with fail;refine(q _).mono ?_;rintro e w0 ⟨rfl,rfl⟩;go_wp2_with fail;refine(Cf B b acc wr.heap.size 2 2 [92,c] _ (g.out.alloc _) (by omega) (by simp;omega) rfl (by have:=g.out.lt.1;omega) (Db (by simp[go_sem,Aj]) (by simp[go_sem,Aj]))).mono ?_;rintro e w1 ⟨rfl,hu,d,a⟩;go_wp2_with fail;go_roundw
     case rel=>exact j.out _ _ r.out hu ((hb.alloc (by omega) _).trans d) ((u.out.alloc hsz _).trans a (by simp;omega))
     case measure=>simp[intOf];omega
    ·have p:Hid (RdS.AE c=false):=hZ9 (by rw[<-s.out,aB m]);have C:decide (0<=ix)=false:=aB m;clear m;have hc:c.toNat=35:=by rw[ag.1 n.out];rfl
     have A:Hid ((decide (c.toNat<32)||decide (126<c.toNat))=false):=hZ9 (by rw[hc];rfl);have t:decide ((c.toNat:Int)<32)=false:=aB (by omega);have z:decide ((126:Int)<(c.toNat:Int))=false:=aB (by omega);clear hc;have r:Hid (RdS.Bq false false c=[c]):=hZ9 (EE (by rw[p.out,o.out,n.out];rfl) (A.out));go_wp2_with fail;refine(q _).mono ?_;rintro e w0 ⟨rfl,rfl⟩;go_wp2_with fail;refine(Dw B b acc c _ g.out (by omega) (by omega)).mono ?_;rintro e w1 ⟨rfl,hu,d,a⟩;go_wp2_with fail;go_roundw
     case rel=>exact j.out _ _ r.out hu (hb.trans d) (u.out.trans a hsz)
     case measure=>simp[intOf];omega
   case false.true.false.true=>
    by_cases m:0<=ix
    ·have p:Hid (RdS.AE c=true):=hZ9 (by rw[<-s.out,aI m]);have r:Hid (RdS.Bq false true c=[92,c]):=hZ9 (BQ (by rw[p.out];rfl));go_wp2_with fail;refine(q _).mono ?_;rintro e w0 ⟨rfl,rfl⟩;go_wp2_with fail;refine(Cf B b acc wr.heap.size 2 2 [92,c] _ (g.out.alloc _) (by omega) (by simp;omega) rfl (by have:=g.out.lt.1;omega) (Db (by simp[go_sem,Aj]) (by simp[go_sem,Aj]))).mono ?_;rintro e w1 ⟨rfl,hu,d,a⟩;go_wp2_with fail;go_roundw
     case rel=>exact j.out _ _ r.out hu ((hb.alloc (by omega) _).trans d) ((u.out.alloc hsz _).trans a (by simp;omega))
     case measure=>simp[intOf];omega
    ·have p:Hid (RdS.AE c=false):=hZ9 (by rw[<-s.out,aB m]);have C:decide (0<=ix)=false:=aB m;clear m;have hc:c.toNat=35:=by rw[ag.1 n.out];rfl
     have A:Hid ((decide (c.toNat<32)||decide (126<c.toNat))=false):=hZ9 (by rw[hc];rfl);have t:decide ((c.toNat:Int)<32)=false:=aB (by omega);have z:decide ((126:Int)<(c.toNat:Int))=false:=aB (by omega);clear hc;have r:Hid (RdS.Bq false true c=[c]):=hZ9 (EE (by rw[p.out,o.out,n.out];rfl) (A.out));go_wp2_with fail;refine(q _).mono ?_;rintro e w0 ⟨rfl,rfl⟩;go_wp2_with fail;refine(Dw B b acc c _ g.out (by omega) (by omega)).mono ?_;rintro e w1 ⟨rfl,hu,d,a⟩;go_wp2_with fail;go_roundw
     case rel=>exact j.out _ _ r.out hu (hb.trans d) (u.out.trans a hsz)
     case measure=>simp[intOf];omega
   case false.true.true.false=>
    have r:Hid (RdS.Bq true false c=[92,c]):=hZ9 (BQ (by rw[o.out,n.out];simp));go_wp2_with fail;refine(Cf B b acc wr.heap.size 2 2 [92,c] _ (g.out.alloc _) (by omega) (by simp;omega) rfl (by have:=g.out.lt.1;omega) (Db (by simp[go_sem,Aj]) (by simp[go_sem,Aj]))).mono ?_;rintro e w1 ⟨rfl,hu,d,a⟩;go_wp2_with fail;go_roundw
    case rel=>exact j.out _ _ r.out hu ((hb.alloc (by omega) _).trans d) ((u.out.alloc hsz _).trans a (by simp;omega))
    case measure=>simp[intOf];omega
   case false.true.true.true=>
    have r:Hid (RdS.Bq true true c=[92,c]):=hZ9 (BQ (by rw[o.out,n.out];simp));go_wp2_with fail;refine(Cf B b acc wr.heap.size 2 2 [92,c] _ (g.out.alloc _) (by omega) (by simp;omega) rfl (by have:=g.out.lt.1;omega) (Db (by simp[go_sem,Aj]) (by simp[go_sem,Aj]))).mono ?_;rintro e w1 ⟨rfl,hu,d,a⟩;go_wp2_with fail;go_roundw
    case rel=>exact j.out _ _ r.out hu ((hb.alloc (by omega) _).trans d) ((u.out.alloc hsz _).trans a (by simp;omega))
    case measure=>simp[intOf];omega
   case true.false.false.false=>
    by_cases m:0<=ix
    ·have p:Hid (RdS.AE c=true):=hZ9 (by rw[<-s.out,aI m]);have r:Hid (RdS.Bq false false c=[92,c]):=hZ9 (BQ (by rw[p.out];rfl));go_wp2_with fail;refine(q _).mono ?_;rintro e w0 ⟨rfl,rfl⟩;go_wp2_with fail;refine(Cf B b acc wr.heap.size 2 2 [92,c] _ (g.out.alloc _) (by omega) (by simp;omega) rfl (by have:=g.out.lt.1;omega) (Db (by simp[go_sem,Aj]) (by simp[go_sem,Aj]))).mono ?_;rintro e w1 ⟨rfl,hu,d,a⟩;go_wp2_with fail;go_roundw
     case rel=>exact j.out _ _ r.out hu ((hb.alloc (by omega) _).trans d) ((u.out.alloc hsz _).trans a (by simp;omega))
     case measure=>simp[intOf];omega
    ·have p:Hid (RdS.AE c=false):=hZ9 (by rw[<-s.out,aB m]);have C:decide (0<=ix)=false:=aB m;clear m;have hc:c.toNat=32:=by rw[ag.1 o.out];rfl
     have A:Hid ((decide (c.toNat<32)||decide (126<c.toNat))=false):=hZ9 (by rw[hc];rfl);have t:decide ((c.toNat:Int)<32)=false:=aB (by omega);have z:decide ((126:Int)<(c.toNat:Int))=false:=aB (by omega);clear hc;have r:Hid (RdS.Bq false false c=[c]):=hZ9 (EE (by rw[p.out,o.out,n.out];rfl) (A.out));go_wp2_with fail;refine(q _).mono ?_;rintro e w0 ⟨rfl,rfl⟩;go_wp2_with fail;refine(Dw B b acc c _ g.out (by omega) (by omega)).mono ?_;rintro e w1 ⟨rfl,hu,d,a⟩;go_wp2_with fail;go_roundw
     case rel=>exact j.out _ _ r.out hu (hb.trans d) (u.out.trans a hsz)
     case measure=>simp[intOf];omega
   case true.false.false.true=>
    have r:Hid (RdS.Bq false true c=[92,c]):=hZ9 (BQ (by rw[o.out,n.out];simp));go_wp2_with fail;refine(Cf B b acc wr.heap.size 2 2 [92,c] _ (g.out.alloc _) (by omega) (by simp;omega) rfl (by have:=g.out.lt.1;omega) (Db (by simp[go_sem,Aj]) (by simp[go_sem,Aj]))).mono ?_;rintro e w1 ⟨rfl,hu,d,a⟩;go_wp2_with fail;go_roundw
    case rel=>exact j.out _ _ r.out hu ((hb.alloc (by omega) _).trans d) ((u.out.alloc hsz _).trans a (by simp;omega))
    case measure=>simp[intOf];omega
   case true.false.true.false=>
    have r:Hid (RdS.Bq true false c=[92,c]):=hZ9 (BQ (by rw[o.out,n.out];simp));go_wp2_with fail;refine(Cf B b acc wr.heap.size 2 2 [92,c] _ (g.out.alloc _) (by omega) (by simp;omega) rfl (by have:=g.out.lt.1;omega) (Db (by simp[go_sem,Aj]) (by simp[go_sem,Aj]))).mono ?_;rintro e w1 ⟨rfl,hu,d,a⟩;go_wp2_with fail;go_roundw
    case rel=>exact j.out _ _ r.out hu ((hb.alloc (by omega) _).trans d) ((u.out.alloc hsz _).trans a (by simp;omega))
    case measure=>simp[intOf];omega
   case true.false.true.true=>
    have r:Hid (RdS.Bq true true c=[92,c]):=hZ9 (BQ (by rw[o.out,n.out];simp));go_wp2_with fail;refine(Cf B b acc wr.heap.size 2 2 [92,c] _ (g.out.alloc _) (by omega) (by simp;omega) rfl (by have:=g.out.lt.1;omega) (Db (by simp[go_sem,Aj]) (by simp[go_sem,Aj]))).mono ?_;rintro e w1 ⟨rfl,hu,d,a⟩;go_wp2_with fail;go_roundw
    case rel=>exact j.out _ _ r.out hu ((hb.alloc (by omega) _).trans d) ((u.out.alloc hsz _).trans a (by simp;omega))
    case measure=>simp[intOf];omega
   case true.true.false.false=>exact absurd ((ag.1 o.out).symm.trans (ag.1 n.out)) (by decide)
   case true.true.false.true=>exact absurd ((ag.1 o.out).symm.trans (ag.1 n.out)) (by decide)
   case true.true.true.false=>exact absurd ((ag.1 o.out).symm.trans (ag.1 n.out)) (by decide)
   case true.true.true.true=>exact absurd ((ag.1 o.out).symm.trans (ag.1 n.out)) (by decide)
  ·have N:k=v.length:=by omega
   have P:Hid (RdS.EJ v=RdS.Dp v v.length):=hZ9 rfl;subst N;go_wp2_with fail
   go_end0
   exact⟨rfl,by rw[P.out];exact O,hb,u.out⟩
theorem Wc(B b:Nat)(a v:iK)(w:World)(h:Bld B b a w)(d:a.length<=100000000)(g:v.length<=100000000)(hB:B<=w.heap.size):
  Calls prog 144 #[.pointer (some ⟨b,0,none⟩),v] w λe w'=>e=.returned (.tuple #[])/\Bld B b (a++RdS.EJ v) w'/\Below B w w':=
 (Aem B b a v w h d g hB).mono λ_ _ h=>⟨h.1,h.2.1,h.2.2.1⟩
end
