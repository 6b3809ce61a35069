/- The walks of 'Formed' of a part. Conditions: as stated. -/
import Derived.Test.YtgngjfjaelgaeaaGreatDoorJAva
set_option maxRecDepth 100000
set_option maxHeartbeats 8000000
namespace Go.Proofs.YtgngjfjaelgaeaaGreatDoor
open Go.Proofs.Tryz
section
open Go.RowKit
def JB (xs:List RdS.Pr) (w:World) (e:Ending) (w':World):Prop:=e=.returned (.bool (RdS.formedS xs))/\Below w.heap.size w w'
def AfM (xs:List RdS.Pr) (w:World) (l i:Value) (wr:World):Prop:=
 ∃k:Nat,k<=xs.length/\i=.int .i64 k/\l=.string ⟨(RdS.Ek xs k).toArray⟩/\RdS.IA xs k=true/\Below w.heap.size w wr
def EP (xs:List RdS.Pr):Prop:=∀p ∈ xs,p.1.length<=9223372036854775807/\p.2.length<=9223372036854775807
theorem Ld (v:Value) (xs:List RdS.Pr) (w:World) (h:AX w v xs) (hf:EP xs) (hE:Env w):Calls prog 141 #[v] w (JB xs w):=by
 obtain ⟨a,c,rfl,hc,h⟩:=h;have U:=hZ9 (RdS.NW xs);rcases h with rfl | ⟨g,o,rfl,hg,h⟩
 · go_enter func141,ntmps141;go_wp2_with fail;go_ret;exact ⟨rfl,Below.refl _ _⟩
 · have H:=hZ9 h;have Z:=hZ9 hf;generalize Q:xs.length=n at*;have HN:=hZ9 Q;clear h hf Q;by_cases N:n=0
   · subst N;go_enter func141,ntmps141;go_wp2_with fail;go_ret;exact ⟨by rw [U.out];rfl,Below.refl _ _⟩
   by_cases A0:3<n
   · have T:Hid (decide (n<=3)=false):=hZ9 (aC (by omega));have hz:((n:Int)==0)=false:=aV.2 (by omega);go_enter func141,ntmps141;go_wp2_with fail;go_ret;exact ⟨by rw [U.out,T.out];simp,Below.refl _ _⟩
   have hz:((n:Int)==0)=false:=aV.2 (by omega);have T:Hid (decide (1<=n)=true/\decide (n<=3)=true):=hZ9 ⟨aL (by omega),aL (by omega)⟩;have A5:decide ((3:Int)<(n:Int))=false:=aC (by omega);have A3:n<=3:=by omega
   clear N A0;go_enter func141,ntmps141;go_wp2_with fail;go_loopw [3,20] (fun l i wr=>AfM xs w l i wr) (fun _ i _=>n - (intOf i).toNat)
   case atStart=>exact ⟨0,aR _,rfl,rfl,rfl,Below.refl _ _⟩
   case round=>
    obtain ⟨k,hk,rfl,rfl,M,hb⟩:=hrel;rw [HN.out] at hk;have J:=hZ9 M;clear M;by_cases O:k<n
    · have m:k<xs.length:=by rw [HN.out];exact O
      obtain ⟨c0,c1⟩:=H.out k _ (aJ m);have L:=hZ9 (RdS.Jy xs k m);have A1:=hZ9 (RdS.KV xs k m);have W:=hZ9 (fun hp n Q=>RdS.Qc m hp n Q);obtain ⟨f1,f2⟩:=Z.out _ (aZ m);generalize xs[k]=p at*;obtain ⟨t,u⟩:=p;simp only at c0 c1 f1 f2;replace c0:wr.cell? ⟨g,o+k*2,none⟩=some (Ac t):=(hb.cell (p:=⟨g,o+k*2,none⟩) hg).trans c0;replace c1:wr.cell? ⟨g,o+k*2+1,none⟩=some (Ac u):=(hb.cell (p:=⟨g,o+k*2+1,none⟩) hg).trans c1;unfold Ac at c0 c1;have C:Hid (RdS.CL (RdS.Ek xs k) (t,u)=false->RdS.formedS xs=false):=hZ9 (fun hp=>by
       rw [U.out,W.out hp n O,bX])
      have f:=fun w=>Gq ⟨t.toArray⟩ f1 w;unfold Ar at f;have dt:(⟨t.toArray⟩:ByteArray).data.toList=t:=rfl;rw [dt] at f;clear dt;have HP:Hid (RdS.CL (RdS.Ek xs k) (t,u)=(((RuS.typeOf t).1==t)&&((RuS.typeOf t).2==1||(RuS.typeOf t).2==3)&&Op.bytesLess (RdS.Ek xs k) t&&((RuS.normal t u).2==0))):=hZ9 rfl;generalize RdS.Ek xs k=last at*;generalize RuS.typeOf t=r at*;obtain ⟨j,F⟩:=r;simp only at f;have d:=hb;cases q1:(j==t) with
      | false=>have Q1:=hZ9 q1;go_wp2_with fail;refine (f _).mono ?_;rintro e w1 ⟨rfl,b⟩;have R:w1.cell? ⟨wr.heap.size,0,none⟩=some (.string ⟨t.toArray⟩):=Ab (by go_simp) b;go_wp2_with fail;go_ret;exact ⟨by rw [C.out (by rw [HP.out];simp only [Q1.out];rfl)];rfl,(d.alloc d.size _).trans (b.mono (by have:=d.size;simp;omega))⟩
      | true=>
       have e1:=af.1 q1;subst e1;clear q1;have A7:j.length<=9223372036854775807:=f1;by_cases K:F=1\/F=3
       · have V:=RuS.compare_range last j;have y:=RuS.less_iff last j;have s:=RuS.less_iff j last;have E:=RuS.eq_iff j last;have P:=RuS.compare_swap last j;rw [P] at s E;generalize Lib.compareBytes last j=cb at*;have B:cb=-1\/cb=0\/cb=1:=by omega
         have Q2:Hid ((F==1||F==3)=true):=hZ9 (by rcases K with rfl | rfl <;> rfl);clear P V;have A:=fun w hE=>FH ⟨j.toArray⟩ ⟨u.toArray⟩ f1 f2 w hE;unfold Bl at A;have X:∀l:List UInt8,(⟨l.toArray⟩:ByteArray).data.toList=l:=fun _=>rfl;rw [X,X] at A;clear X;generalize RuS.normal j u=nr at*;obtain ⟨x,e0⟩:=nr;simp only at A;rcases B with rfl | B
         · simp only [Int.reduceNeg,ft,Int.reduceEq,fS,Int.neg_neg] at y s E;have z:=hZ9 y;clear y;by_cases S:e0=0
           · subst S;rcases K with rfl | rfl
             all_goals
              go_wp2_with fail;refine (f _).mono ?_;rintro e w1 ⟨rfl,b⟩;have R:w1.cell? ⟨wr.heap.size,0,none⟩=some (.string ⟨j.toArray⟩):=Ab (by go_simp) b;have d1:w1.cell? ⟨wr.heap.size,1,none⟩=some (.string ⟨u.toArray⟩):=Ab (by go_simp) b;have q:Below w.heap.size w w1:=(d.alloc d.size _).trans (b.mono (by have:=d.size;simp;omega));go_wp2_with fail;refine (A _ (hE.below q)).mono ?_;rintro e w2 ⟨rfl,I⟩;have G:Below w.heap.size w w2:=q.trans (I.mono q.size);go_wp2_with fail;go_roundw
              case rel=>exact ⟨k+1,by rw [HN.out];omega,by go_num,by rw [A1.out],by rw [L.out,J.out,HP.out];simp [z.out],G⟩
              case measure=>simp [intOf];omega
           · have A2:(e0==0)=false:=by simpa using S
             have A4:(e0 !=0)=true:=by simpa using S
             have Q4:=hZ9 A2;clear S;rcases K with rfl | rfl
             all_goals
              go_wp2_with fail;refine (f _).mono ?_;rintro e w1 ⟨rfl,b⟩;have R:w1.cell? ⟨wr.heap.size,0,none⟩=some (.string ⟨j.toArray⟩):=Ab (by go_simp) b;have d1:w1.cell? ⟨wr.heap.size,1,none⟩=some (.string ⟨u.toArray⟩):=Ab (by go_simp) b;have q:Below w.heap.size w w1:=(d.alloc d.size _).trans (b.mono (by have:=d.size;simp;omega));go_wp2_with fail;refine (A _ (hE.below q)).mono ?_;rintro e w2 ⟨rfl,I⟩;have G:Below w.heap.size w w2:=q.trans (I.mono q.size);go_wp2_with fail;go_ret;exact ⟨by rw [C.out (by rw [HP.out];simp only [Q4.out,bX])];rfl,G⟩
         · have z:Hid (Op.bytesLess last j=false):=hZ9 (by rw [y,aC (by omega)]);have A6:(Op.bytesLess j last||j==last)=true:=by
            rw [s,E];rcases B with rfl | rfl <;> rfl
           clear y s E B;rcases K with rfl | rfl
           all_goals
            go_wp2_with fail;refine (f _).mono ?_;rintro e w1 ⟨rfl,b⟩;have R:w1.cell? ⟨wr.heap.size,0,none⟩=some (.string ⟨j.toArray⟩):=Ab (by go_simp) b;go_wp2_with fail
            all_goals go_ret
            all_goals exact ⟨by rw [C.out (by rw [HP.out];simp only [z.out,bX,cG])];rfl,(d.alloc d.size _).trans (b.mono (by have:=d.size;simp;omega))⟩
       · have g1:(F !=1)=true:=by simp;omega
         have g3:(F !=3)=true:=by simp;omega
         have Q2:Hid ((F==1||F==3)=false):=hZ9 (by simp;omega);clear K;go_wp2_with fail;refine (f _).mono ?_;rintro e w1 ⟨rfl,b⟩;have R:w1.cell? ⟨wr.heap.size,0,none⟩=some (.string ⟨j.toArray⟩):=Ab (by go_simp) b;go_wp2_with fail;go_ret;exact ⟨by rw [C.out (by rw [HP.out];simp only [Q2.out,bX,cG])];rfl,(d.alloc d.size _).trans (b.mono (by have:=d.size;simp;omega))⟩
    · have Y:k=n:=by omega
      subst Y;go_wp2_with fail;go_ret;exact ⟨by rw [U.out,J.out,T.out.1,T.out.2];rfl,hb⟩
end
section
open Go.RowKit
attribute [local go_sem ↓] Go.wp_at_zero Go.wp_at_succ
def Ab2 (B b:Nat) (a v:List UInt8) (w:World) (i:Value) (wr:World):Prop:=∃k:Nat,k<=v.length/\i=.int .i64 k/\Bld B b (a++RdS.Dj v k) wr/\Below B w wr/\Others b w wr
theorem LL (c:UInt8):decide (0<=Lib.indexByte RdS.Es c)=RdS.Av c:=by
 have h:=RuS.indexByte_none RdS.Es c;unfold RdS.Av;rw [bS,az,cZ];constructor
 · intro h1;exact fO fun a=>by have:=h.2 a;omega
 · intro h1;have:¬Lib.indexByte RdS.Es c<0:=fun a=>h.1 a h1;omega
theorem BP {f l:Bool} {c:UInt8} (h:(RdS.Av c||(c==32&&(f||l))||(c==35&&f))=true):RdS.Bv f l c=[92,c]:=by unfold RdS.Bv;rw [aP h]
theorem Jh {f l:Bool} {c:UInt8} (h:(RdS.Av c||(c==32&&(f||l))||(c==35&&f))=false) (h2:(decide (c.toNat<32)||decide (126<c.toNat))=true):
  RdS.Bv f l c=[92,RdS.BI (c.toNat / 16),RdS.BI (c.toNat % 16)]:=by
 unfold RdS.Bv;rw [aG (by rw [h];decide),aP h2]
theorem Em {f l:Bool} {c:UInt8} (h:(RdS.Av c||(c==32&&(f||l))||(c==35&&f))=false) (h2:(decide (c.toNat<32)||decide (126<c.toNat))=false):RdS.Bv f l c=[c]:=by unfold RdS.Bv;rw [aG (by rw [h];decide),aG (by rw [h2];decide)]
theorem Qn {c d:UInt8} {n:Int} (a:(d.toNat:Int)=n):((c.toNat:Int)==n)=(c==d):=by rw [bS,af,af,<-a];exact ⟨fun h=>cY.1 (by omega),fun h=>by rw [h]⟩
theorem Yf (n:Nat) (h:n<16) (w:World):(Instr.index 9 (.string ⟨#[48,49,50,51,52,53,54,55,56,57,97,98,99,100,101,102]⟩) (.int .u8 (n:Int))).run prog w=.ok (.int .u8 ((RdS.BI n).toNat:Int)) w:=by
 have a:n=0\/n=1\/n=2\/n=3\/n=4\/n=5\/n=6\/n=7\/n=8\/n=9\/n=10\/n=11\/n=12\/n=13\/n=14\/n=15:=by omega
 rcases a with rfl | rfl | rfl | rfl | rfl | rfl | rfl | rfl | rfl | rfl | rfl | rfl | rfl | rfl | rfl | rfl <;> (show _=_;kernel_rfl)
theorem MP (c:UInt8) (w:World):(Instr.index 9 (.string ⟨#[48,49,50,51,52,53,54,55,56,57,97,98,99,100,101,102]⟩) (.int .u8 ((c.toNat:Int) / 16))).run prog w=.ok (.int .u8 ((RdS.BI (c.toNat / 16)).toNat:Int)) w:=by have h:=Yf (c.toNat / 16) (by have:=c.toNat_lt;omega) w;rw [show ((c.toNat / 16:Nat):Int)=(c.toNat:Int) / 16 from by omega] at h;exact h
theorem MQ (c:UInt8) (w:World):(Instr.index 9 (.string ⟨#[48,49,50,51,52,53,54,55,56,57,97,98,99,100,101,102]⟩) (.int .u8 ((c.toNat:Int) % 16))).run prog w=.ok (.int .u8 ((RdS.BI (c.toNat % 16)).toNat:Int)) w:=by have h:=Yf (c.toNat % 16) (by omega) w;rw [show ((c.toNat % 16:Nat):Int)=(c.toNat:Int) % 16 from by omega] at h;exact h
theorem Ad3 (B b:Nat) (E v:List UInt8) (w:World) (h:Bld B b E w) (A2:E.length<=100000000) (hv:v.length<=100000000) (hB:B<=w.heap.size):
  Calls prog 144 #[.pointer (some ⟨b,0,none⟩),.string ⟨v.toArray⟩] w fun e w'=>e=.returned (.tuple #[])/\Bld B b (E++RdS.Et v) w'/\Below B w w'/\Others b w w':=by
 go_enter func144,ntmps144;go_wp2_with fail;go_loopw [9] (fun i wr=>Ab2 B b E v w i wr) (fun i _=>v.length - (intOf i).toNat)
 case atStart=>exact ⟨0,aR _,rfl,by rw [show RdS.Dj v 0=[] from rfl,bJ];exact h,Below.refl _ _,Others.refl _ _⟩
 case round=>
  obtain ⟨k,hk,rfl,K,hb,W⟩:=hrel;have u:=hZ9 W;clear W;by_cases T:k<v.length
  · have HS:=hZ9 (RdS.IM v k T);have S:=RdS.Jw v k hk;have X:(E++RdS.Dj v k).length<=500000000:=by rw [aT];omega
    have s:=hZ9 (LL v[k]);generalize M:v[k]=c at*;have A1:∀h,(⟨v.toArray⟩:ByteArray)[k]'h=c:=fun _=>M;clear M S;have HA:Hid (∀x,E++RdS.Dj v k++x=E++(RdS.Dj v k++x)):=hZ9 (fun x=>bK _ _ _);generalize G:E++RdS.Dj v k=acc at*;have Y:=hZ9 G;clear G;have hsz:=hb.size;have q:=fun w=>strings_IndexByte ⟨#[44,43,34,92,60,62,59]⟩ (c.toNat:Int) w;have N:(⟨#[44,43,34,92,60,62,59]⟩:ByteArray).data.toList=RdS.Es:=rfl;have L:((c.toNat:Int).toNat.toUInt8)=c:=by rw [Int.toNat_natCast];exact ck
    rw [N,L] at q;clear N L;generalize Lib.indexByte RdS.Es c=ix at*;replace q:=fun w=>(q w).mono (fun e w' (h:_/\_)=>(⟨h.1,h.2.symm⟩:e=.returned (.int .i64 ix)/\w=w'));have A0:((c.toNat:Int)==32)=(c==32):=Qn rfl;have Z:((c.toNat:Int)==35)=(c==35):=Qn rfl;have ez:((k:Int)==0)=decide (k=0):=by rw [bS,af,az];omega
    have el:((k:Int)==(v.length:Int) - 1)=decide (k+1=v.length):=by rw [bS,af,az];omega
    have H:∀(x:List UInt8) (w':World),RdS.Bv (decide (k=0)) (decide (k+1=v.length)) c=x->Gf B b (acc++x) w'->Below B w w'->Others b w w'->Ab2 B b E v w (.int .i64 ((k:Int)+1)) w':=by intro x w' hx hu P R;refine ⟨k+1,by omega,by go_num,?_,P,R⟩;rw [HS.out,hx,<-HA.out];exact hu.bld
    have j:=hZ9 H;clear H;generalize U:decide (k=0)=qf at*;generalize V:decide (k+1=v.length)=ql at*;generalize I:(c==32)=q32 at*;generalize F:(c==35)=q35 at*;have o:=hZ9 I;have n:=hZ9 F;have g:=hZ9 K;clear U V I F;cases q32
    all_goals cases q35
    all_goals cases qf
    all_goals cases ql
    case false.false.false.false=>
     by_cases m:0<=ix
     · have p:Hid (RdS.Av c=true):=hZ9 (by rw [<-s.out,aL m]);have r:Hid (RdS.Bv false false c=[92,c]):=hZ9 (BP (by rw [p.out];rfl));go_wp2_with fail;refine (q _).mono ?_;rintro e w0 ⟨rfl,rfl⟩;go_wp2_with fail;refine (BX B b acc wr.heap.size 2 2 [92,c] _ (g.out.alloc _) (by omega) (by simp;omega) rfl (by have:=g.out.lt.1;omega) (CX (by simp [go_sem,Ai]) (by simp [go_sem,Ai]))).mono ?_;rintro e w1 ⟨rfl,hu,d,a⟩;go_wp2_with fail;go_roundw
       case rel=>exact j.out _ _ r.out hu ((hb.alloc (by omega) _).trans d) ((u.out.alloc hsz _).trans a (by simp;omega))
       case measure=>simp [intOf];omega
     · have p:Hid (RdS.Av c=false):=hZ9 (by rw [<-s.out,aC m]);have C:decide (0<=ix)=false:=aC m;clear m;by_cases hu:c.toNat<32\/126<c.toNat
       · have z:Hid ((decide (c.toNat<32)||decide (126<c.toNat))=true):=hZ9 (by rcases hu with hu | hu <;> simp [hu]);have r:=hZ9 (Jh (f:=false) (l:=false) (c:=c) (by rw [p.out,o.out,n.out];rfl) z.out);have hx1:=MP c;have J:=MQ c;have hand:bits .and .u8 (c.toNat:Int) 15=(c.toNat:Int) % 16:=u8_and15 (c.toNat:Int) (by omega) (by have:=c.toNat_lt;omega);by_cases y:c.toNat<32
         · have t:decide ((c.toNat:Int)<32)=true:=aL (by omega);clear y hu;go_wp2_with fail;refine (q _).mono ?_;rintro e w0 ⟨rfl,rfl⟩;go_wp2_with fail
           go_region_held3 (fun _=>True) (trivial)
            (first | (go_at_call 174;refine (BX B b acc wr.heap.size 3 3 [92,RdS.BI (c.toNat / 16),RdS.BI (c.toNat % 16)] _ ((g.out.alloc _).drew) (by omega) (by simp;omega) rfl (by have:=g.out.lt.1;omega) (Dt (by simp [go_sem,Ai]) (by simp [go_sem,Ai]) (by simp [go_sem,Ai]))).mono ?_;rintro e w1 ⟨rfl,hu,d,a⟩))
           all_goals go_wp2_with fail
           all_goals go_roundw
           all_goals first | exact j.out _ _ r.out hu ((hb.alloc (by omega) _).drew.trans d) (((u.out.alloc hsz _).drew).trans a (by simp;omega)) | (simp [intOf];omega)
         · have t:decide ((c.toNat:Int)<32)=false:=aC (by omega);have A:decide ((126:Int)<(c.toNat:Int))=true:=aL (by omega);clear y hu;go_wp2_with fail;refine (q _).mono ?_;rintro e w0 ⟨rfl,rfl⟩;go_wp2_with fail
           go_region_held3 (fun _=>True) (trivial)
            (first | (go_at_call 174;refine (BX B b acc wr.heap.size 3 3 [92,RdS.BI (c.toNat / 16),RdS.BI (c.toNat % 16)] _ ((g.out.alloc _).drew) (by omega) (by simp;omega) rfl (by have:=g.out.lt.1;omega) (Dt (by simp [go_sem,Ai]) (by simp [go_sem,Ai]) (by simp [go_sem,Ai]))).mono ?_;rintro e w1 ⟨rfl,hu,d,a⟩))
           all_goals go_wp2_with fail
           all_goals go_roundw
           all_goals first | exact j.out _ _ r.out hu ((hb.alloc (by omega) _).drew.trans d) (((u.out.alloc hsz _).drew).trans a (by simp;omega)) | (simp [intOf];omega)
       · have z:Hid ((decide (c.toNat<32)||decide (126<c.toNat))=false):=hZ9 (by rw [aC (fun h=>hu (.inl h)),aC (fun h=>hu (.inr h))];rfl);have t:decide ((c.toNat:Int)<32)=false:=aC (by omega);have A:decide ((126:Int)<(c.toNat:Int))=false:=aC (by omega);clear hu;have r:Hid (RdS.Bv false false c=[c]):=hZ9 (Em (by rw [p.out,o.out,n.out];rfl) (z.out));go_wp2_with fail;refine (q _).mono ?_;rintro e w0 ⟨rfl,rfl⟩;go_wp2_with fail;refine (Ds B b acc c _ g.out (by omega) (by omega)).mono ?_;rintro e w1 ⟨rfl,hu,d,a⟩;go_wp2_with fail;go_roundw
         case rel=>exact j.out _ _ r.out hu (hb.trans d) (u.out.trans a hsz)
         case measure=>simp [intOf];omega
    case false.false.false.true=>
     by_cases m:0<=ix
     · have p:Hid (RdS.Av c=true):=hZ9 (by rw [<-s.out,aL m]);have r:Hid (RdS.Bv false true c=[92,c]):=hZ9 (BP (by rw [p.out];rfl));go_wp2_with fail;refine (q _).mono ?_;rintro e w0 ⟨rfl,rfl⟩;go_wp2_with fail;refine (BX B b acc wr.heap.size 2 2 [92,c] _ (g.out.alloc _) (by omega) (by simp;omega) rfl (by have:=g.out.lt.1;omega) (CX (by simp [go_sem,Ai]) (by simp [go_sem,Ai]))).mono ?_;rintro e w1 ⟨rfl,hu,d,a⟩;go_wp2_with fail;go_roundw
       case rel=>exact j.out _ _ r.out hu ((hb.alloc (by omega) _).trans d) ((u.out.alloc hsz _).trans a (by simp;omega))
       case measure=>simp [intOf];omega
     · have p:Hid (RdS.Av c=false):=hZ9 (by rw [<-s.out,aC m]);have C:decide (0<=ix)=false:=aC m;clear m;by_cases hu:c.toNat<32\/126<c.toNat
       · have z:Hid ((decide (c.toNat<32)||decide (126<c.toNat))=true):=hZ9 (by rcases hu with hu | hu <;> simp [hu]);have r:=hZ9 (Jh (f:=false) (l:=true) (c:=c) (by rw [p.out,o.out,n.out];rfl) z.out);have hx1:=MP c;have J:=MQ c;have hand:bits .and .u8 (c.toNat:Int) 15=(c.toNat:Int) % 16:=u8_and15 (c.toNat:Int) (by omega) (by have:=c.toNat_lt;omega);by_cases y:c.toNat<32
         · have t:decide ((c.toNat:Int)<32)=true:=aL (by omega);clear y hu;go_wp2_with fail;refine (q _).mono ?_;rintro e w0 ⟨rfl,rfl⟩;go_wp2_with fail
           go_region_held3 (fun _=>True) (trivial)
            (first | (go_at_call 174;refine (BX B b acc wr.heap.size 3 3 [92,RdS.BI (c.toNat / 16),RdS.BI (c.toNat % 16)] _ ((g.out.alloc _).drew) (by omega) (by simp;omega) rfl (by have:=g.out.lt.1;omega) (Dt (by simp [go_sem,Ai]) (by simp [go_sem,Ai]) (by simp [go_sem,Ai]))).mono ?_;rintro e w1 ⟨rfl,hu,d,a⟩))
           all_goals go_wp2_with fail
           all_goals go_roundw
           all_goals first | exact j.out _ _ r.out hu ((hb.alloc (by omega) _).drew.trans d) (((u.out.alloc hsz _).drew).trans a (by simp;omega)) | (simp [intOf];omega)
         · have t:decide ((c.toNat:Int)<32)=false:=aC (by omega);have A:decide ((126:Int)<(c.toNat:Int))=true:=aL (by omega);clear y hu;go_wp2_with fail;refine (q _).mono ?_;rintro e w0 ⟨rfl,rfl⟩;go_wp2_with fail
           go_region_held3 (fun _=>True) (trivial)
            (first | (go_at_call 174;refine (BX B b acc wr.heap.size 3 3 [92,RdS.BI (c.toNat / 16),RdS.BI (c.toNat % 16)] _ ((g.out.alloc _).drew) (by omega) (by simp;omega) rfl (by have:=g.out.lt.1;omega) (Dt (by simp [go_sem,Ai]) (by simp [go_sem,Ai]) (by simp [go_sem,Ai]))).mono ?_;rintro e w1 ⟨rfl,hu,d,a⟩))
           all_goals go_wp2_with fail
           all_goals go_roundw
           all_goals first | exact j.out _ _ r.out hu ((hb.alloc (by omega) _).drew.trans d) (((u.out.alloc hsz _).drew).trans a (by simp;omega)) | (simp [intOf];omega)
       · have z:Hid ((decide (c.toNat<32)||decide (126<c.toNat))=false):=hZ9 (by rw [aC (fun h=>hu (.inl h)),aC (fun h=>hu (.inr h))];rfl);have t:decide ((c.toNat:Int)<32)=false:=aC (by omega);have A:decide ((126:Int)<(c.toNat:Int))=false:=aC (by omega);clear hu;have r:Hid (RdS.Bv false true c=[c]):=hZ9 (Em (by rw [p.out,o.out,n.out];rfl) (z.out));go_wp2_with fail;refine (q _).mono ?_;rintro e w0 ⟨rfl,rfl⟩;go_wp2_with fail;refine (Ds B b acc c _ g.out (by omega) (by omega)).mono ?_;rintro e w1 ⟨rfl,hu,d,a⟩;go_wp2_with fail;go_roundw
         case rel=>exact j.out _ _ r.out hu (hb.trans d) (u.out.trans a hsz)
         case measure=>simp [intOf];omega
    case false.false.true.false=>
     by_cases m:0<=ix
     · have p:Hid (RdS.Av c=true):=hZ9 (by rw [<-s.out,aL m]);have r:Hid (RdS.Bv true false c=[92,c]):=hZ9 (BP (by rw [p.out];rfl));go_wp2_with fail;refine (q _).mono ?_;rintro e w0 ⟨rfl,rfl⟩;go_wp2_with fail;refine (BX B b acc wr.heap.size 2 2 [92,c] _ (g.out.alloc _) (by omega) (by simp;omega) rfl (by have:=g.out.lt.1;omega) (CX (by simp [go_sem,Ai]) (by simp [go_sem,Ai]))).mono ?_;rintro e w1 ⟨rfl,hu,d,a⟩;go_wp2_with fail;go_roundw
       case rel=>exact j.out _ _ r.out hu ((hb.alloc (by omega) _).trans d) ((u.out.alloc hsz _).trans a (by simp;omega))
       case measure=>simp [intOf];omega
     · have p:Hid (RdS.Av c=false):=hZ9 (by rw [<-s.out,aC m]);have C:decide (0<=ix)=false:=aC m;clear m;by_cases hu:c.toNat<32\/126<c.toNat
       · have z:Hid ((decide (c.toNat<32)||decide (126<c.toNat))=true):=hZ9 (by rcases hu with hu | hu <;> simp [hu]);have r:=hZ9 (Jh (f:=true) (l:=false) (c:=c) (by rw [p.out,o.out,n.out];rfl) z.out);have hx1:=MP c;have J:=MQ c;have hand:bits .and .u8 (c.toNat:Int) 15=(c.toNat:Int) % 16:=u8_and15 (c.toNat:Int) (by omega) (by have:=c.toNat_lt;omega);by_cases y:c.toNat<32
         · have t:decide ((c.toNat:Int)<32)=true:=aL (by omega);clear y hu;go_wp2_with fail;refine (q _).mono ?_;rintro e w0 ⟨rfl,rfl⟩;go_wp2_with fail
           go_region_held3 (fun _=>True) (trivial)
            (first | (go_at_call 174;refine (BX B b acc wr.heap.size 3 3 [92,RdS.BI (c.toNat / 16),RdS.BI (c.toNat % 16)] _ ((g.out.alloc _).drew) (by omega) (by simp;omega) rfl (by have:=g.out.lt.1;omega) (Dt (by simp [go_sem,Ai]) (by simp [go_sem,Ai]) (by simp [go_sem,Ai]))).mono ?_;rintro e w1 ⟨rfl,hu,d,a⟩))
           all_goals go_wp2_with fail
           all_goals go_roundw
           all_goals first | exact j.out _ _ r.out hu ((hb.alloc (by omega) _).drew.trans d) (((u.out.alloc hsz _).drew).trans a (by simp;omega)) | (simp [intOf];omega)
         · have t:decide ((c.toNat:Int)<32)=false:=aC (by omega);have A:decide ((126:Int)<(c.toNat:Int))=true:=aL (by omega);clear y hu;go_wp2_with fail;refine (q _).mono ?_;rintro e w0 ⟨rfl,rfl⟩;go_wp2_with fail
           go_region_held3 (fun _=>True) (trivial)
            (first | (go_at_call 174;refine (BX B b acc wr.heap.size 3 3 [92,RdS.BI (c.toNat / 16),RdS.BI (c.toNat % 16)] _ ((g.out.alloc _).drew) (by omega) (by simp;omega) rfl (by have:=g.out.lt.1;omega) (Dt (by simp [go_sem,Ai]) (by simp [go_sem,Ai]) (by simp [go_sem,Ai]))).mono ?_;rintro e w1 ⟨rfl,hu,d,a⟩))
           all_goals go_wp2_with fail
           all_goals go_roundw
           all_goals first | exact j.out _ _ r.out hu ((hb.alloc (by omega) _).drew.trans d) (((u.out.alloc hsz _).drew).trans a (by simp;omega)) | (simp [intOf];omega)
       · have z:Hid ((decide (c.toNat<32)||decide (126<c.toNat))=false):=hZ9 (by rw [aC (fun h=>hu (.inl h)),aC (fun h=>hu (.inr h))];rfl);have t:decide ((c.toNat:Int)<32)=false:=aC (by omega);have A:decide ((126:Int)<(c.toNat:Int))=false:=aC (by omega);clear hu;have r:Hid (RdS.Bv true false c=[c]):=hZ9 (Em (by rw [p.out,o.out,n.out];rfl) (z.out));go_wp2_with fail;refine (q _).mono ?_;rintro e w0 ⟨rfl,rfl⟩;go_wp2_with fail;refine (Ds B b acc c _ g.out (by omega) (by omega)).mono ?_;rintro e w1 ⟨rfl,hu,d,a⟩;go_wp2_with fail;go_roundw
         case rel=>exact j.out _ _ r.out hu (hb.trans d) (u.out.trans a hsz)
         case measure=>simp [intOf];omega
    case false.false.true.true=>
     by_cases m:0<=ix
     · have p:Hid (RdS.Av c=true):=hZ9 (by rw [<-s.out,aL m]);have r:Hid (RdS.Bv true true c=[92,c]):=hZ9 (BP (by rw [p.out];rfl));go_wp2_with fail;refine (q _).mono ?_;rintro e w0 ⟨rfl,rfl⟩;go_wp2_with fail;refine (BX B b acc wr.heap.size 2 2 [92,c] _ (g.out.alloc _) (by omega) (by simp;omega) rfl (by have:=g.out.lt.1;omega) (CX (by simp [go_sem,Ai]) (by simp [go_sem,Ai]))).mono ?_;rintro e w1 ⟨rfl,hu,d,a⟩;go_wp2_with fail;go_roundw
       case rel=>exact j.out _ _ r.out hu ((hb.alloc (by omega) _).trans d) ((u.out.alloc hsz _).trans a (by simp;omega))
       case measure=>simp [intOf];omega
     · have p:Hid (RdS.Av c=false):=hZ9 (by rw [<-s.out,aC m]);have C:decide (0<=ix)=false:=aC m;clear m;by_cases hu:c.toNat<32\/126<c.toNat
       · have z:Hid ((decide (c.toNat<32)||decide (126<c.toNat))=true):=hZ9 (by rcases hu with hu | hu <;> simp [hu]);have r:=hZ9 (Jh (f:=true) (l:=true) (c:=c) (by rw [p.out,o.out,n.out];rfl) z.out);have hx1:=MP c;have J:=MQ c;have hand:bits .and .u8 (c.toNat:Int) 15=(c.toNat:Int) % 16:=u8_and15 (c.toNat:Int) (by omega) (by have:=c.toNat_lt;omega);by_cases y:c.toNat<32
         · have t:decide ((c.toNat:Int)<32)=true:=aL (by omega);clear y hu;go_wp2_with fail;refine (q _).mono ?_;rintro e w0 ⟨rfl,rfl⟩;go_wp2_with fail
           go_region_held3 (fun _=>True) (trivial)
            (first | (go_at_call 174;refine (BX B b acc wr.heap.size 3 3 [92,RdS.BI (c.toNat / 16),RdS.BI (c.toNat % 16)] _ ((g.out.alloc _).drew) (by omega) (by simp;omega) rfl (by have:=g.out.lt.1;omega) (Dt (by simp [go_sem,Ai]) (by simp [go_sem,Ai]) (by simp [go_sem,Ai]))).mono ?_;rintro e w1 ⟨rfl,hu,d,a⟩))
           all_goals go_wp2_with fail
           all_goals go_roundw
           all_goals first | exact j.out _ _ r.out hu ((hb.alloc (by omega) _).drew.trans d) (((u.out.alloc hsz _).drew).trans a (by simp;omega)) | (simp [intOf];omega)
         · have t:decide ((c.toNat:Int)<32)=false:=aC (by omega);have A:decide ((126:Int)<(c.toNat:Int))=true:=aL (by omega);clear y hu;go_wp2_with fail;refine (q _).mono ?_;rintro e w0 ⟨rfl,rfl⟩;go_wp2_with fail
           go_region_held3 (fun _=>True) (trivial)
            (first | (go_at_call 174;refine (BX B b acc wr.heap.size 3 3 [92,RdS.BI (c.toNat / 16),RdS.BI (c.toNat % 16)] _ ((g.out.alloc _).drew) (by omega) (by simp;omega) rfl (by have:=g.out.lt.1;omega) (Dt (by simp [go_sem,Ai]) (by simp [go_sem,Ai]) (by simp [go_sem,Ai]))).mono ?_;rintro e w1 ⟨rfl,hu,d,a⟩))
           all_goals go_wp2_with fail
           all_goals go_roundw
           all_goals first | exact j.out _ _ r.out hu ((hb.alloc (by omega) _).drew.trans d) (((u.out.alloc hsz _).drew).trans a (by simp;omega)) | (simp [intOf];omega)
       · have z:Hid ((decide (c.toNat<32)||decide (126<c.toNat))=false):=hZ9 (by rw [aC (fun h=>hu (.inl h)),aC (fun h=>hu (.inr h))];rfl);have t:decide ((c.toNat:Int)<32)=false:=aC (by omega);have A:decide ((126:Int)<(c.toNat:Int))=false:=aC (by omega);clear hu;have r:Hid (RdS.Bv true true c=[c]):=hZ9 (Em (by rw [p.out,o.out,n.out];rfl) (z.out));go_wp2_with fail;refine (q _).mono ?_;rintro e w0 ⟨rfl,rfl⟩;go_wp2_with fail;refine (Ds B b acc c _ g.out (by omega) (by omega)).mono ?_;rintro e w1 ⟨rfl,hu,d,a⟩;go_wp2_with fail;go_roundw
         case rel=>exact j.out _ _ r.out hu (hb.trans d) (u.out.trans a hsz)
         case measure=>simp [intOf];omega
    case false.true.false.false=>
     by_cases m:0<=ix
     · have p:Hid (RdS.Av c=true):=hZ9 (by rw [<-s.out,aL m]);have r:Hid (RdS.Bv false false c=[92,c]):=hZ9 (BP (by rw [p.out];rfl));go_wp2_with fail;refine (q _).mono ?_;rintro e w0 ⟨rfl,rfl⟩;go_wp2_with fail;refine (BX B b acc wr.heap.size 2 2 [92,c] _ (g.out.alloc _) (by omega) (by simp;omega) rfl (by have:=g.out.lt.1;omega) (CX (by simp [go_sem,Ai]) (by simp [go_sem,Ai]))).mono ?_;rintro e w1 ⟨rfl,hu,d,a⟩;go_wp2_with fail;go_roundw
       case rel=>exact j.out _ _ r.out hu ((hb.alloc (by omega) _).trans d) ((u.out.alloc hsz _).trans a (by simp;omega))
       case measure=>simp [intOf];omega
     · have p:Hid (RdS.Av c=false):=hZ9 (by rw [<-s.out,aC m]);have C:decide (0<=ix)=false:=aC m;clear m;have hc:c.toNat=35:=by rw [af.1 n.out];rfl
       have z:Hid ((decide (c.toNat<32)||decide (126<c.toNat))=false):=hZ9 (by rw [hc];rfl);have t:decide ((c.toNat:Int)<32)=false:=aC (by omega);have A:decide ((126:Int)<(c.toNat:Int))=false:=aC (by omega);clear hc;have r:Hid (RdS.Bv false false c=[c]):=hZ9 (Em (by rw [p.out,o.out,n.out];rfl) (z.out));go_wp2_with fail;refine (q _).mono ?_;rintro e w0 ⟨rfl,rfl⟩;go_wp2_with fail;refine (Ds B b acc c _ g.out (by omega) (by omega)).mono ?_;rintro e w1 ⟨rfl,hu,d,a⟩;go_wp2_with fail;go_roundw
       case rel=>exact j.out _ _ r.out hu (hb.trans d) (u.out.trans a hsz)
       case measure=>simp [intOf];omega
    case false.true.false.true=>
     by_cases m:0<=ix
     · have p:Hid (RdS.Av c=true):=hZ9 (by rw [<-s.out,aL m]);have r:Hid (RdS.Bv false true c=[92,c]):=hZ9 (BP (by rw [p.out];rfl));go_wp2_with fail;refine (q _).mono ?_;rintro e w0 ⟨rfl,rfl⟩;go_wp2_with fail;refine (BX B b acc wr.heap.size 2 2 [92,c] _ (g.out.alloc _) (by omega) (by simp;omega) rfl (by have:=g.out.lt.1;omega) (CX (by simp [go_sem,Ai]) (by simp [go_sem,Ai]))).mono ?_;rintro e w1 ⟨rfl,hu,d,a⟩;go_wp2_with fail;go_roundw
       case rel=>exact j.out _ _ r.out hu ((hb.alloc (by omega) _).trans d) ((u.out.alloc hsz _).trans a (by simp;omega))
       case measure=>simp [intOf];omega
     · have p:Hid (RdS.Av c=false):=hZ9 (by rw [<-s.out,aC m]);have C:decide (0<=ix)=false:=aC m;clear m;have hc:c.toNat=35:=by rw [af.1 n.out];rfl
       have z:Hid ((decide (c.toNat<32)||decide (126<c.toNat))=false):=hZ9 (by rw [hc];rfl);have t:decide ((c.toNat:Int)<32)=false:=aC (by omega);have A:decide ((126:Int)<(c.toNat:Int))=false:=aC (by omega);clear hc;have r:Hid (RdS.Bv false true c=[c]):=hZ9 (Em (by rw [p.out,o.out,n.out];rfl) (z.out));go_wp2_with fail;refine (q _).mono ?_;rintro e w0 ⟨rfl,rfl⟩;go_wp2_with fail;refine (Ds B b acc c _ g.out (by omega) (by omega)).mono ?_;rintro e w1 ⟨rfl,hu,d,a⟩;go_wp2_with fail;go_roundw
       case rel=>exact j.out _ _ r.out hu (hb.trans d) (u.out.trans a hsz)
       case measure=>simp [intOf];omega
    case false.true.true.false=>
     have r:Hid (RdS.Bv true false c=[92,c]):=hZ9 (BP (by rw [o.out,n.out];simp));go_wp2_with fail;refine (BX B b acc wr.heap.size 2 2 [92,c] _ (g.out.alloc _) (by omega) (by simp;omega) rfl (by have:=g.out.lt.1;omega) (CX (by simp [go_sem,Ai]) (by simp [go_sem,Ai]))).mono ?_;rintro e w1 ⟨rfl,hu,d,a⟩;go_wp2_with fail;go_roundw
     case rel=>exact j.out _ _ r.out hu ((hb.alloc (by omega) _).trans d) ((u.out.alloc hsz _).trans a (by simp;omega))
     case measure=>simp [intOf];omega
    case false.true.true.true=>
     have r:Hid (RdS.Bv true true c=[92,c]):=hZ9 (BP (by rw [o.out,n.out];simp));go_wp2_with fail;refine (BX B b acc wr.heap.size 2 2 [92,c] _ (g.out.alloc _) (by omega) (by simp;omega) rfl (by have:=g.out.lt.1;omega) (CX (by simp [go_sem,Ai]) (by simp [go_sem,Ai]))).mono ?_;rintro e w1 ⟨rfl,hu,d,a⟩;go_wp2_with fail;go_roundw
     case rel=>exact j.out _ _ r.out hu ((hb.alloc (by omega) _).trans d) ((u.out.alloc hsz _).trans a (by simp;omega))
     case measure=>simp [intOf];omega
    case true.false.false.false=>
     by_cases m:0<=ix
     · have p:Hid (RdS.Av c=true):=hZ9 (by rw [<-s.out,aL m]);have r:Hid (RdS.Bv false false c=[92,c]):=hZ9 (BP (by rw [p.out];rfl));go_wp2_with fail;refine (q _).mono ?_;rintro e w0 ⟨rfl,rfl⟩;go_wp2_with fail;refine (BX B b acc wr.heap.size 2 2 [92,c] _ (g.out.alloc _) (by omega) (by simp;omega) rfl (by have:=g.out.lt.1;omega) (CX (by simp [go_sem,Ai]) (by simp [go_sem,Ai]))).mono ?_;rintro e w1 ⟨rfl,hu,d,a⟩;go_wp2_with fail;go_roundw
       case rel=>exact j.out _ _ r.out hu ((hb.alloc (by omega) _).trans d) ((u.out.alloc hsz _).trans a (by simp;omega))
       case measure=>simp [intOf];omega
     · have p:Hid (RdS.Av c=false):=hZ9 (by rw [<-s.out,aC m]);have C:decide (0<=ix)=false:=aC m;clear m;have hc:c.toNat=32:=by rw [af.1 o.out];rfl
       have z:Hid ((decide (c.toNat<32)||decide (126<c.toNat))=false):=hZ9 (by rw [hc];rfl);have t:decide ((c.toNat:Int)<32)=false:=aC (by omega);have A:decide ((126:Int)<(c.toNat:Int))=false:=aC (by omega);clear hc;have r:Hid (RdS.Bv false false c=[c]):=hZ9 (Em (by rw [p.out,o.out,n.out];rfl) (z.out));go_wp2_with fail;refine (q _).mono ?_;rintro e w0 ⟨rfl,rfl⟩;go_wp2_with fail;refine (Ds B b acc c _ g.out (by omega) (by omega)).mono ?_;rintro e w1 ⟨rfl,hu,d,a⟩;go_wp2_with fail;go_roundw
       case rel=>exact j.out _ _ r.out hu (hb.trans d) (u.out.trans a hsz)
       case measure=>simp [intOf];omega
    case true.false.false.true=>
     have r:Hid (RdS.Bv false true c=[92,c]):=hZ9 (BP (by rw [o.out,n.out];simp));go_wp2_with fail;refine (BX B b acc wr.heap.size 2 2 [92,c] _ (g.out.alloc _) (by omega) (by simp;omega) rfl (by have:=g.out.lt.1;omega) (CX (by simp [go_sem,Ai]) (by simp [go_sem,Ai]))).mono ?_;rintro e w1 ⟨rfl,hu,d,a⟩;go_wp2_with fail;go_roundw
     case rel=>exact j.out _ _ r.out hu ((hb.alloc (by omega) _).trans d) ((u.out.alloc hsz _).trans a (by simp;omega))
     case measure=>simp [intOf];omega
    case true.false.true.false=>
     have r:Hid (RdS.Bv true false c=[92,c]):=hZ9 (BP (by rw [o.out,n.out];simp));go_wp2_with fail;refine (BX B b acc wr.heap.size 2 2 [92,c] _ (g.out.alloc _) (by omega) (by simp;omega) rfl (by have:=g.out.lt.1;omega) (CX (by simp [go_sem,Ai]) (by simp [go_sem,Ai]))).mono ?_;rintro e w1 ⟨rfl,hu,d,a⟩;go_wp2_with fail;go_roundw
     case rel=>exact j.out _ _ r.out hu ((hb.alloc (by omega) _).trans d) ((u.out.alloc hsz _).trans a (by simp;omega))
     case measure=>simp [intOf];omega
    case true.false.true.true=>
     have r:Hid (RdS.Bv true true c=[92,c]):=hZ9 (BP (by rw [o.out,n.out];simp));go_wp2_with fail;refine (BX B b acc wr.heap.size 2 2 [92,c] _ (g.out.alloc _) (by omega) (by simp;omega) rfl (by have:=g.out.lt.1;omega) (CX (by simp [go_sem,Ai]) (by simp [go_sem,Ai]))).mono ?_;rintro e w1 ⟨rfl,hu,d,a⟩;go_wp2_with fail;go_roundw
     case rel=>exact j.out _ _ r.out hu ((hb.alloc (by omega) _).trans d) ((u.out.alloc hsz _).trans a (by simp;omega))
     case measure=>simp [intOf];omega
    case true.true.false.false=>exact absurd ((af.1 o.out).symm.trans (af.1 n.out)) (by decide)
    case true.true.false.true=>exact absurd ((af.1 o.out).symm.trans (af.1 n.out)) (by decide)
    case true.true.true.false=>exact absurd ((af.1 o.out).symm.trans (af.1 n.out)) (by decide)
    case true.true.true.true=>exact absurd ((af.1 o.out).symm.trans (af.1 n.out)) (by decide)
  · have O:k=v.length:=by omega
    have Q:Hid (RdS.Et v=RdS.Dj v v.length):=hZ9 rfl;subst O;go_wp2_with fail
    go_end0
    exact ⟨rfl,by rw [Q.out];exact K,hb,u.out⟩
theorem Vz (B b:Nat) (a v:List UInt8) (w:World) (h:Bld B b a w) (c:a.length<=100000000) (d:v.length<=100000000) (hB:B<=w.heap.size):
  Calls prog 144 #[.pointer (some ⟨b,0,none⟩),.string ⟨v.toArray⟩] w fun e w'=>e=.returned (.tuple #[])/\Bld B b (a++RdS.Et v) w'/\Below B w w':=
 (Ad3 B b a v w h c d hB).mono fun _ _ h=>⟨h.1,h.2.1,h.2.2.1⟩
end
end Go.Proofs.YtgngjfjaelgaeaaGreatDoor
