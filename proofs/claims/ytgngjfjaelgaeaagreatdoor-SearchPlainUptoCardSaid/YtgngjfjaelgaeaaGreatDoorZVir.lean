/- The walk of the searching law's awake; bounds of what a search answers. Conditions: as stated. -/
import Derived.Lib.SmallJoins
import Derived.Test.YtgngjfjaelgaeaaGreatDoorZSru
import Derived.Test.YtgngjfjaelgaeaaGreatDoorZRow
set_option maxRecDepth 100000
set_option maxHeartbeats 4000000
namespace Go.Proofs.YtgngjfjaelgaeaaGreatDoor
open Go.Proofs.Tryz
variable {p:Addr} {z:Int} {xs:List EnS.En} {B C N g n:Nat} {T:TypeId} {i0:TypeInfo} {v:Value} {W w w':World}
section
open Go.RowKit
open FiS (Fi)
attribute [local go_sem ↓] Go.wp_at_zero Go.wp_at_succ
namespace SeS
open EnS DnS
theorem Agg{xs l:List En}(h:Srt xs)(d:∀e∈xs,e∈l):xs.length<=l.length:=by
 have f:(xs.map En.name).Nodup:=eQ.2 (iC (λ{a b} hab e=>by rw[e,LU] at hab;omega) h);have h2:=Oi (U:=l.map En.name) f (λs c=>by
  obtain⟨e,i,rfl⟩:=bG.1 c;exact bG.2 ⟨e,d e i,rfl⟩)
 simpa using h2
theorem AeS{l:List En}{q:Rq}{c:Int}{ys:List En}(i:BU l)(h1:CL l)(h:Jb l q c ys):ys.length<=l.length/\∀y∈ys,∃e∈l,y=DN q.attrs q.tonly e:=by
 rcases h with⟨_,_,rfl⟩|⟨_,_,_,rfl⟩|⟨_,_,N,_,h4⟩
 ·exact⟨aR _,λy f=>by cases f⟩
 ·exact⟨aR _,λy f=>by cases f⟩
 ·have hR:∀e∈(stS l (dr1 q) [((AQ l q.base (dr2 q)).1,q.scope)] N).2.filter (Ez q.filter),e∈l:=λe d=>Re N e (Be d);obtain⟨g1,g2⟩:=ID (xs:=(stS l (dr1 q) [((AQ l q.base (dr2 q)).1,q.scope)] N).2.filter (Ez q.filter)) (λe d=>i e (hR e d)) (λa ha b hb e=>h1 a (hR a ha) b (hR b hb) e);have hF:(KN l q (AQ l q.base (dr2 q)).1 N).length<=l.length/\∀y∈KN l q (AQ l q.base (dr2 q)).1 N,∃e∈l,y=DN q.attrs q.tonly e:=by
   unfold KN;refine⟨by rw[b9];exact Agg g1 (λe d=>hR e ((g2 e).1 d)),λy f=>?_⟩;obtain⟨e,d,rfl⟩:=bG.1 f;exact⟨e,hR e ((g2 e).1 d),rfl⟩
  have j:ys=(Ht q.size (KN l q (AQ l q.base (dr2 q)).1 N)).2:=congrArg Prod.snd h4;subst j;unfold Ht;split
  ·refine⟨aX (by rw[ar];omega) hF.1,λy f=>hF.2 y (dO f)⟩
  ·exact hF
end SeS
def AgJ(ys:List EnS.En):Prop:=ys.length<=1048576/\∀e∈ys,e.attrs.length<=1048576/\∀x∈e.attrs,x.vals.length<=1048576
theorem Agh{l:List EnS.En}{q:SeS.Rq}{c:Int}{ys:List EnS.En}(f:SeS.BU l)(h1:SeS.CL l)(a:Eo l)(h:SeS.Jb l q c ys):AgJ ys:=by
 obtain⟨g1,g2⟩:=SeS.AeS f h1 h;refine⟨aX g1 a.1,λy i=>?_⟩;obtain⟨e,d,rfl⟩:=g2 y i;have h2:=(a.2 e d).2;unfold SeS.DN;refine⟨by rw[b9];exact aX (bJ _ _) h2.1,λx hx=>?_⟩;obtain⟨z,b,rfl⟩:=bG.1 hx;split
 ·exact aR _
 ·exact(h2.2 z (cf.1 b).1).1
theorem JE{a:Addr}{kd:IntKind}(hp:w.cell? p=some (.int kd z))(y:Value)(h:w.cell? a=some v)(b:∀k i,v≠.int k i):(w.setCell p y).cell? a=some v:=
 (World.cell?_setCell_other w p a y (λe=>by
   subst e;rw[hp] at h;exact b _ _ (aU h).symm)).trans h
theorem Am.int{xs:List iK}{kd:IntKind}(h:Am (λ_=>True) w v xs)(hp:w.cell? p=some (.int kd z))(y:Value):Am (λ_=>True) (w.setCell p y) v xs:=
 Ad.imp h (cu (World.size_setCell ..).symm) (λ_ _ h=>h) λg o x _ _ hx=>JE hp y hx (λk i e=>by unfold Ac at e;cases e)
theorem Aw.int{xs:List EnS.At}{kd:IntKind}(h:BA w v xs)(hp:w.cell? p=some (.int kd z))(y:Value):BA (w.setCell p y) v xs:=
 Ad.imp h (cu (World.size_setCell ..).symm) (λ_ _ h=>h) λg o x _ _ ⟨h0,u,h1,h2⟩=>⟨JE hp y h0 (λk i e=>by unfold Ac at e;cases e),u,JE hp y h1 (λk i e=>by obtain⟨a,c,rfl,_⟩:=Ad.form h2;cases e),h2.int hp y⟩
theorem CE.int{kd:IntKind}(h:Ci w v xs)(hp:w.cell? p=some (.int kd z))(y:Value):Ci (w.setCell p y) v xs:=
 Ad.imp h (cu (World.size_setCell ..).symm) (λ_ _ h=>h) λg o x _ _ ⟨h0,u,h1,h2⟩=>⟨JE hp y h0 (λk i e=>by unfold Ac at e;cases e),u,JE hp y h1 (λk i e=>by obtain⟨a,c,rfl,_⟩:=Ad.form h2;cases e),Aw.int h2 hp y⟩
def awL:List EnS.En:=[⟨[100,99,61,120],[⟨[100,99],[[120]]⟩]⟩]
def awF:Fi:=.mk 0 [] [] [] [] [] []
def awQ:SeS.Rq:=⟨[],2,0,awF,[],false,0⟩
theorem JF:Eo awL/\(∀e∈awL,KC e.attrs)/\SeS.BU awL/\SeS.CL awL/\∀e∈awL,e.name≠[]:=by
 have d:∀e∈awL,e=⟨[100,99,61,120],[⟨[100,99],[[120]]⟩]⟩:=λe c=>by unfold awL at c;exact aj.1 c
 have f:GZ [⟨[100,99],[[120]]⟩]:=by refine⟨by decide,λx hx=>?_⟩;rw[aj] at hx;subst hx;refine⟨by decide,λv h=>?_⟩;rw[aj] at h;subst h;decide
 refine⟨⟨by decide,λe c=>?_⟩,λe c=>?_,λe c=>?_,λa f b hb _=>?_,λe c=>?_⟩
 ·rw[d e c];exact⟨by decide,f⟩
 ·rw[d e c];refine⟨f,λx hx=>?_⟩;have hx:x∈[(⟨[100,99],[[120]]⟩:EnS.At)]:=hx;rw[aj] at hx;subst hx;decide
 ·rw[d e c];show DnS.Ax _=_
  decide+kernel
 ·rw[d a f,d b hb]
 ·rw[d e c];decide
theorem AaU{c:Int}{ys:List EnS.En}(h:SeS.Jb awL awQ c ys):c=0/\ys.length=1:=by have h2:=SeS.SD JF.2.2.1 JF.2.2.2.1 (by decide+kernel) rfl rfl h;rw[aG (by decide+kernel)] at h2;obtain⟨rfl,rfl⟩:=h2;exact⟨rfl,by decide+kernel⟩
theorem Ady(w:World)(hE:Env w):Calls prog 7 #[] w (NZ w):=by
 have b:Below w.heap.size w (((w.alloc (.cells #[.string ⟨#[120]⟩] 9)).alloc (.cells #[.string ⟨#[100,99]⟩,.slice (some ⟨w.heap.size,0,none⟩) 1 1] 56)).alloc (.cells #[.string ⟨#[100,99,61,120]⟩,.slice (some ⟨w.heap.size+1,0,none⟩) 1 1] 52)):=BJ (BJ (Af w _) _) _;have d:Ci (((w.alloc (.cells #[.string ⟨#[120]⟩] 9)).alloc (.cells #[.string ⟨#[100,99]⟩,.slice (some ⟨w.heap.size,0,none⟩) 1 1] 56)).alloc (.cells #[.string ⟨#[100,99,61,120]⟩,.slice (some ⟨w.heap.size+1,0,none⟩) 1 1] 52)) (.slice (some ⟨w.heap.size+1+1,0,none⟩) 1 1) awL:=by
  have a1:=Whole.made w 9 #[.string ⟨#[120]⟩];have a2:=Whole.made (w.alloc (.cells #[.string ⟨#[120]⟩] 9)) 56 #[.string ⟨#[100,99]⟩,.slice (some ⟨w.heap.size,0,none⟩) 1 1];rw[Lq] at a2;have a3:=Whole.made ((w.alloc (.cells #[.string ⟨#[120]⟩] 9)).alloc (.cells #[.string ⟨#[100,99]⟩,.slice (some ⟨w.heap.size,0,none⟩) 1 1] 56)) 52 #[.string ⟨#[100,99,61,120]⟩,.slice (some ⟨w.heap.size+1,0,none⟩) 1 1];rw[Lq,Lq] at a3;have O:=(a1.call (Af _ (.cells #[.string ⟨#[100,99]⟩,.slice (some ⟨w.heap.size,0,none⟩) 1 1] 56))).call (Af _ (.cells #[.string ⟨#[100,99,61,120]⟩,.slice (some ⟨w.heap.size+1,0,none⟩) 1 1] 52));have K:=a2.call (Af _ (.cells #[.string ⟨#[100,99,61,120]⟩,.slice (some ⟨w.heap.size+1,0,none⟩) 1 1] 52));refine Afr a3 trivial rfl (λj x a=>?_);unfold awL at a
  match j,a with
  |0,a=>
   have:=aU a;subst this;refine⟨rfl,_,rfl,AbF K trivial rfl (λj x a=>?_)⟩
   match j,a with
   |0,a=>
    have:=aU a;subst this;refine⟨rfl,_,rfl,AdL O trivial rfl (λj x a=>?_)⟩
    match j,a with
    |0,a=>have:=aU a;subst this;rfl
    |j+1,a=>simp at a
   |j+1,a=>simp at a
  |j+1,a=>simp at a
 have G:FiS.wdF 20000 awF:=by unfold awF;rw[FiS.wdF];exact⟨⟨by decide,by decide,by decide,by decide⟩,by decide,λt Q=>(by cases Q),by decide,by rw[FiS.wdL];trivial⟩
 have q:=Qo 0 awF (.agg #[.int .i64 0,.string ⟨#[]⟩,.string ⟨#[]⟩,.string ⟨#[]⟩,.string ⟨#[]⟩,.slice none 0 0,.slice none 0 0]) _ (FiV.leaf 0 _ (((w.alloc (.cells #[.string ⟨#[120]⟩] 9)).alloc (.cells #[.string ⟨#[100,99]⟩,.slice (some ⟨w.heap.size,0,none⟩) 1 1] 56)).alloc (.cells #[.string ⟨#[100,99,61,120]⟩,.slice (some ⟨w.heap.size+1,0,none⟩) 1 1] 52)) 0 [] [] [] []) G;have A:=hZ9 (λrv W (hb:Below (((w.alloc (.cells #[.string ⟨#[120]⟩] 9)).alloc (.cells #[.string ⟨#[100,99]⟩,.slice (some ⟨w.heap.size,0,none⟩) 1 1] 56)).alloc (.cells #[.string ⟨#[100,99,61,120]⟩,.slice (some ⟨w.heap.size+1,0,none⟩) 1 1] 52)).heap.size (((w.alloc (.cells #[.string ⟨#[120]⟩] 9)).alloc (.cells #[.string ⟨#[100,99]⟩,.slice (some ⟨w.heap.size,0,none⟩) 1 1] 56)).alloc (.cells #[.string ⟨#[100,99,61,120]⟩,.slice (some ⟨w.heap.size+1,0,none⟩) 1 1] 52)) W) hq=>Zt _ (.slice (some ⟨w.heap.size+1+1,0,none⟩) 1 1) awL 1 awQ rv W d hb JF.1 (by decide) JF.2.1 JF.2.2.1 JF.2.2.2.1 JF.2.2.2.2 ((hE.below b).below hb) hq G ⟨by decide,λs P=>by cases P⟩ (by decide));have E:=hZ9 (λc ys h=>@AaU c ys h);clear d;generalize F:awL=AL at*;clear F;unfold awF at q;go_enter func7,ntmps7;go_wp2_with fail;refine q.mono ?_;rintro e w4 ⟨v4,rfl,l,k⟩;obtain⟨f5,h5,f6,h6,o,_,_⟩:=FiV.parts l.ins;replace o:v4=.agg #[.int .i64 0,.string ⟨#[]⟩,.string ⟨#[]⟩,.string ⟨#[]⟩,.string ⟨#[]⟩,.slice f5 0 h5,.slice f6 0 h6]:=o;subst o;have r:=A.out (.agg #[.string ⟨#[]⟩,.int .i64 2,.int .i64 0,.int .i64 0,.string ⟨#[]⟩,.string ⟨#[]⟩,.string ⟨#[]⟩,.string ⟨#[]⟩,.slice f5 0 h5,.slice f6 0 h6,.slice none 0 0,false,.int .i64 0]) w4 k ⟨f5,f6,none,h5,h6,0,rfl,l.ins,Ah.empty _⟩;have i:=b.trans (k.mono b.size);clear q A l k b;go_wp2_with fail;refine r.mono ?_;rintro e w5 ⟨c,v5,ys,rfl,u,f,y⟩;obtain⟨rfl,J⟩:=E.out c ys u;obtain⟨M,L,rfl,_⟩:=Ad.form f;have m:=i.trans (y.mono i.size);have I:=m.trans ((Af w5 (.cells #[.int .i64 0,.slice M 1 L] 32)).mono m.size);rw[J];clear r E u f J y i m;go_wp2_with fail;go_ret;exact⟨by first|rfl|trivial,I⟩
end
section
open Go.RowKit
attribute [local go_sem ↓] Go.wp_at_zero Go.wp_at_succ
def Rj(w:World)(e:Ending)(w':World):Prop:=e=.returned true/\∃m,w'=w.drewN m
theorem AaV{P:Program}{f:FuncId}{args:Array Value}{a:Nat}
  (h:Calls P f args (w.drewN (a+n)) λe w'=>e=.returned v/\∃m,w'=(w.drewN (a+n)).drewN m):
  Calls P f args (w.drewN (a+n)) λe b=>e=.returned v/\∃m,b=w.drewN (a+m):=
 h.mono λ_ _ ⟨d,m,c⟩=>⟨d,n+m,by rw[c,World.drewN_drewN,cQ]⟩
theorem Zu(l:iK):(l !=l)=false:=by simp
theorem Yo(j v2:Value)(xs:List iK)(w:World)(h1:Ah w j xs)(h2:Ah w v2 xs)(q:xs.length<=4611686018427387904):Calls prog 104 #[j,v2] w (Rj w):=by
 obtain⟨a1,c1,rfl,e,b⟩:=Ad.at (h1.strsP (λ_=>True) (λ_ _=>trivial));obtain⟨a2,c2,rfl,c,a⟩:=Ad.at (h2.strsP (λ_=>True) (λ_ _=>trivial));have H1:=hZ9 b;have o:=hZ9 a;clear b a h1 h2;generalize h:xs.length=n at e c q⊢;have l:=hZ9 h;clear h;go_enter func104,ntmps104;go_wp2_with fail;go_loopw [13] (λi wr=>∃k m:Nat,k<=n/\i=.int .i64 k/\wr=w.drewN m) (λi _=>n-(intOf i).toNat)
 case atStart=>exact⟨0,0,aR _,rfl,rfl⟩
 case round=>
  obtain⟨k,m,hk,rfl,rfl⟩:=hrel;by_cases f:k<n
  ·have hx:k<xs.length:=by rw[l.out];exact f
   obtain⟨g1,t,rfl,_,_,d1⟩:=H1.out k hx;obtain⟨g2,o2,rfl,_,_,d2⟩:=o.out k hx;generalize xs[k]=s at d1 d2;unfold UI Ac at d1 d2;simp only[bp] at d1 d2;have r:=Zu s;clear hx;go_wp2_with fail
   go_quiet (fail)
   go_wp2_with fail;go_roundw
   case rel=>exact⟨k+1,_,by omega,by go_num,rfl⟩
   case measure=>simp[intOf];omega
  ·have d:k=n:=by omega
   subst d;go_wp2_with fail;go_ret;exact⟨rfl,_,rfl⟩
theorem Yp(s v2:Value)(xs:List EnS.At)(w:World)(h1:BA w s xs)(h2:BA w v2 xs)(I:xs.length<=1048576)(u:∀x∈xs,x.vals.length<=1048576):Calls prog 67 #[s,v2] w (Rj w):=by
 obtain⟨a1,c1,rfl,l,a⟩:=Ad.at h1;obtain⟨a2,c2,rfl,f,b⟩:=Ad.at h2;have H1:=hZ9 a;have F:=hZ9 b;have E:=hZ9 (λk (h:k<xs.length)=>u xs[k] (aZ h));clear a b h1 h2 u;generalize t:xs.length=n at l f I⊢;have A:=hZ9 t;clear t;go_enter func67,ntmps67;go_wp2_with fail;go_loopw [13] (λi wr=>∃k m:Nat,k<=n/\i=.int .i64 k/\wr=w.drewN m) (λi _=>n-(intOf i).toNat)
 case atStart=>exact⟨0,0,aR _,rfl,rfl⟩
 case round=>
  obtain⟨k,m,hk,rfl,rfl⟩:=hrel;by_cases e:k<n
  ·have hx:k<xs.length:=by rw[A.out];exact e
   obtain⟨g1,J,rfl,_,_,j⟩:=H1.out k hx;obtain⟨g2,o2,rfl,_,_,r2⟩:=F.out k hx;have c:=E.out k hx;generalize xs[k]=x at j r2 c;obtain⟨d1,p1,M,G,r,u1⟩:=BG.parts j;obtain⟨d2,p2,K,y,q,u2⟩:=BG.parts r2;obtain⟨ty,vals⟩:=x;simp only at d1 d2 G y r q u1 u2 c;have O:=Zu ty;have d:=λN=>Yo _ _ vals (w.drewN N) (Ah.call (Am.strs u1) (below_drewN w N) (aA _)) (Ah.call (Am.strs u2) (below_drewN w N) (aA _)) (by omega);unfold Rj at d;generalize vals.length=L at*;clear hx j r2 u1 u2;go_wp2_with fail
   go_quiet ((go_at_call 104;exact AaV (d _)))
   go_wp2_with fail;go_roundw
   case rel=>exact⟨k+1,_,by omega,by go_num,rfl⟩
   case measure=>simp[intOf];omega
  ·have o:k=n:=by omega
   subst o;go_wp2_with fail;go_ret;exact⟨rfl,_,rfl⟩
theorem AeT(name:iK)(xs:List EnS.At)(u1 u2:Value)(w:World)(h1:BA w u1 xs)(h2:BA w u2 xs)(b:xs.length<=1048576)(c:∀x∈xs,x.vals.length<=1048576):
  Calls prog 35 #[.agg #[name,u1],.agg #[name,u2]] w (NZ w):=by
 have hb0:=Af w (.cells #[name,u1] 52);have a:=Af (w.alloc (.cells #[name,u1] 52)) (.cells #[name,u2] 52);have hb:=Aa hb0 a;have hc:=Yp u1 u2 xs _ (Aw.call h1 hb) (Aw.call h2 hb) b c;unfold Rj at hc;have d:(name==name)=true:=by simp
 clear h1 h2 hb0 a;go_enter func35,ntmps35;go_wp2_with fail;refine hc.mono ?_;rintro e w1 ⟨rfl,m,rfl⟩;go_wp2_with fail;go_ret;exact⟨rfl,Aa hb (below_drewN _ _)⟩
theorem Adz(E v2:Value)(xs:List EnS.En)(w:World)(h1:Ci w E xs)(h2:Ci w v2 xs)(Q:xs.length<=1048576)(I:∀e∈xs,e.attrs.length<=1048576/\∀x∈e.attrs,x.vals.length<=1048576):Calls prog 12 #[E,v2] w (NZ w):=by
 obtain⟨a1,c1,rfl,s,c⟩:=Ad.at h1;obtain⟨a2,c2,rfl,q,d⟩:=Ad.at h2;have H1:=hZ9 c;have P:=hZ9 d;have O:=hZ9 (λk (h:k<xs.length)=>I xs[k] (aZ h));clear c d h1 h2 I;generalize G:xs.length=n at s q Q⊢;have K:=hZ9 G;clear G;go_enter func12,ntmps12;go_wp2_with fail;go_loopw [13] (λi wr=>∃k:Nat,k<=n/\i=.int .i64 k/\Below w.heap.size w wr) (λi _=>n-(intOf i).toNat)
 case atStart=>exact⟨0,aR _,rfl,Below.refl _ _⟩
 case round=>
  obtain⟨k,hk,rfl,hb⟩:=hrel;by_cases l:k<n
  ·have hx:k<xs.length:=by rw[K.out];exact l
   obtain⟨g1,F,rfl,m,_,z1⟩:=H1.out k hx;obtain⟨g2,o2,rfl,j,_,z2⟩:=P.out k hx;have b:=O.out k hx;have r:=Dk.call z1 m trivial hb;have r2:=Dk.call z2 j trivial hb;clear z1 z2;generalize xs[k]=x at r r2 b;obtain⟨d1,p1,M,A,y,u1⟩:=Dk.parts r;obtain⟨d2,p2,J,o,u,u2⟩:=Dk.parts r2;obtain⟨name,attrs⟩:=x;simp only at d1 d2 A o y u u1 u2 b;have f:=AeT name attrs _ _ wr.drew (Aw.call u1 (below_drewN wr 1)) (Aw.call u2 (below_drewN wr 1)) b.1 b.2;unfold NZ at f;generalize attrs.length=L at*;clear hx r r2 u1 u2;go_wp2_with fail
   go_region_held3 (λW=>W.cell? ⟨g1,F+k*2,none⟩=some (.string ⟨name.toArray⟩)/\W.cell? ⟨g1,F+k*2+1,none⟩=some (.slice p1 L M)/\W.cell? ⟨g2,o2+k*2,none⟩=some (.string ⟨name.toArray⟩)/\W.cell? ⟨g2,o2+k*2+1,none⟩=some (.slice p2 L J))
    (first|exact⟨d1,A,d2,o⟩|exact⟨Ab (w:=wr.drew) d1 a,Ab (w:=wr.drew) A a,Ab (w:=wr.drew) d2 a,Ab (w:=wr.drew) o a⟩|go_keep)
    (first|(go_at_call 35;(with_reducible refine f.mono ?_);rintro e w1 ⟨rfl,a⟩))
   go_wp2_with fail;go_roundw
   case rel=>exact⟨k+1,by omega,by go_num,hb.trans (((below_drewN wr 1).trans a).mono hb.size)⟩
   case measure=>simp[intOf];omega
  ·have t:k=n:=by omega
   subst t;go_wp2_with fail;go_ret;exact⟨rfl,hb⟩
end
section
open Go.RowKit
theorem NT{xs:List Value}{b:TypeId}(ty:TypeId)(e:prog.underlying b=some (.slice T))(f:prog.info? T=some i0)(a:w.ownsRow B T 2 v n xs)(c:Nat):(Builtin.append_ #[b,b] ty #[v,.slice none 0 c]).run prog w=.ok v w:=by
 have hu:=run_underlying e;rcases a.2 with⟨rfl,rfl⟩|⟨g,cap,cur,rfl,_,_,d,_⟩
 ·simp[Builtin.append_,hu,sizeOf,typeInfo,f,Builtin.lenOf,Builtin.firstCells]
 ·simp[Builtin.append_,hu,sizeOf,typeInfo,f,Builtin.lenOf,Builtin.firstCells,d,storeCells]
theorem Ao.grows{α:Type}{L:KLay α}{Ts:List TypeId}(hC:C<=B)(f:T∉Ts){k:Value}{xs ys:List α}{a vs:List Value}(h1:w.ownsRow B T 2 v xs.length (flatK L xs a))(h2:a.length=xs.length)
  (h3:∀(i:Nat) (u:Value) (x:α),a[i]?=some u->xs[i]?=some x->L.El (okT Ts C w) w u x)(l:vs.length=ys.length)(o:∀(i:Nat) (u:Value) (x:α),vs[i]?=some u->ys[i]?=some x->L.El (okT Ts C w) w u x)
  (h4:w'.ownsRow B T 2 k (xs.length+ys.length) (flatK L xs a++flatK L ys vs))(j:w.grownBy w' v.ownBlock):Ao L T Ts C w' B k (xs++ys):=by
 have d:∀(xs:List α) (a:List Value),a.length=xs.length->flatK L (xs++ys) (a++vs)=flatK L xs a++flatK L ys vs:=by
  intro xs
  induction xs with
  |nil=>intro a h;cases a with
   |nil=>rfl
   |cons _ _=>simp at h
  |cons x xs m=>intro a h;cases a with
   |nil=>simp at h
   |cons z a=>simp[flatK,m a (by simpa using h)]
 refine⟨a++vs,by rw[aT,d xs a h2];exact h4,by simp[h2,l],λi z y c b=>?_⟩;by_cases e:i<a.length
 ·rw[bN e] at c;rw[bN (by omega)] at b;exact FX hC f h1 j (h3 i z y c b)
 ·rw[bH (by omega)] at c;rw[bH (by omega),<-h2] at b;exact FX hC f h1 j (o _ z y c b)
theorem RV{α:Type}(L:KLay α){ops:Array Oper}{rest:List Oper}{o:Oper}{a:Act}{Q:Exit->Act->World->Prop}(T O:TypeId)(Ts:List TypeId)(S:T∉Ts)(l:prog.underlying O=some (.slice T)){z:Value}
  (G:prog.info? T=some i0)(R:i0.zero=some z)(d:i0.size=2)(E:i0.bytes=40)(r:z.cells.size=2)(f:o.guard=none)(s x:Operand)
  (J:o.op=.call { callee:=.builtin .append,args:=#[s,x],argTypes:=#[O,O] })
  (B:Nat)(hC:C<=B)(v:Value)(xs:List α)(M:a.eval s=v)(t:Ao L T Ts C w B v xs)(u:Value)(ys:List α)(hx:a.eval x=u)
  (I:Ad 2 (λw g o x=>w.cell? ⟨g,o,none⟩=some (Ac (L.key x))/\∃u,w.cell? ⟨g,o+1,none⟩=some u/\L.El (okT Ts C w) w u x) (λ_=>True) w u ys)(hn:xs.length+ys.length<=1000000000)(hB:B<=w.heap.size)
  (h:∀m w',Ao L T Ts C w' B m (xs++ys)->Below B w w'->w.grownBy w' v.ownBlock->wpList prog ops Q rest (a.put o.dst m) w'):wpList prog ops Q (o :: rest) a w:=by
 obtain⟨A,c,rfl,hc,b⟩:=I;obtain⟨Y,h1,h2,h3⟩:=t;cases A with
 |none=>
  rcases b with rfl|⟨g,o,e,_⟩
  ·refine wpList_plain f λK U=>?_;have F:=NT o.type l G h1 c;unfold Oper.wp;simp[execOp,J,resolve,invoke,builtin,M,hx,F,Result.andThen];exact U _ _ (h v w (by rw[bK];exact⟨Y,h1,h2,h3⟩) (Below.refl B w) ⟨rfl,rfl,rfl,aA _,λ_ _ _=>rfl⟩)
  ·cases e
 |some V=>
  rcases b with rfl|⟨g,o2,e,Z,_,hcell⟩
  ·exact wpList_append_own w f s x _ J B T i0 z 2 40 l G R d E r (by decide) v xs.length _ M h1 V 0 c [] hx rfl
    (λj u q=>by simp at q) (λu hu=>by cases hu) (by unfold maxLen;omega) (by omega) hB
    (λm w' h4 h5 _=>h m w' (Ao.grows (ys:=[]) (vs:=[]) hC S h1 h2 h3 rfl (λi u x G=>by simp at G) h4 h5) ((Below.refl B w).grown h5 hB (λk hk=>(World.ownsRow.lt h1 k hk).1)) h5)
  ·cases e;obtain⟨vs,P,k1,X⟩:=UV L hcell;exact wpList_append_own w f s x _ J B T i0 z 2 40 l G R d E r (by decide) v xs.length _ M h1 ⟨g,o2,none⟩ ys.length c (flatK L ys vs) hx (Iw L ys vs P)
    (λj u q=>by
      have y:(⟨g,o2,none⟩:Addr).add j=⟨g,o2+j,none⟩:=by unfold Addr.add;split<;>simp_all
      rw[y];exact(k1 j u q).1)
    (λu hu=>by
      obtain⟨j,q,rfl⟩:=bc.1 hu;exact(k1 j _ (aK q)).2) (by unfold maxLen;omega) (by omega) hB
    (λm w' h4 h5 _=>h m w' (Ao.grows hC S h1 h2 h3 P X h4 h5) ((Below.refl B w).grown h5 hB (λk hk=>(World.ownsRow.lt h1 k hk).1)) h5)
end
section
open Go.RowKit
abbrev Ky:Type:=List iK×Bool
def kyK:KLay Ky:=⟨λ_=>[],λok w u x=>Am ok w u x.1,λh=>Am.keep h,λh=>by obtain⟨a,c,rfl,_⟩:=Ad.form h;rfl⟩
def Du:List Ky->List Value->List Value
 |x :: xs,u :: us=>u :: .bool x.2 :: Du xs us
 |_,_=>[]
theorem Xl:∀(xs:List Ky) (a:List Value) (i:Nat) (x:Ky) (u:Value),xs[i]?=some x->a[i]?=some u->(Du xs a)[i*2]?=some u/\(Du xs a)[i*2+1]?=some (.bool x.2)
 |[],_,i,x,u,h,_=>by simp at h
 |_ :: _,[],i,x,u,_,h=>by simp at h
 |y :: xs,z :: a,0,x,u,h,k=>by simp only[aH,bq] at h k;subst h;subst k;exact⟨rfl,rfl⟩
 |y :: xs,z :: a,i+1,x,u,h,k=>by
  have b:=Xl xs a i x u (by simpa using h) (by simpa using k);have e:(i+1)*2=i*2+1+1:=by omega
  rw[e];exact⟨by simpa[Du] using b.1,by simpa[Du] using b.2⟩
theorem NU(ys:List Ky)(vs:List Value):∀(xs:List Ky) (a:List Value),a.length=xs.length->Du (xs++ys) (a++vs)=Du xs a++Du ys vs
 |[],[],_=>rfl
 |[],_ :: _,h=>by simp at h
 |_ :: _,[],h=>by simp at h
 |x :: xs,z :: a,h=>by simp[Du,NU ys vs xs a (by simpa using h)]
theorem Ua:∀(xs:List Ky) (a:List Value),a.length=xs.length->(Du xs a).length=xs.length*2
 |[],[],_=>rfl
 |[],_ :: _,h=>by simp at h
 |_ :: _,[],h=>by simp at h
 |y :: xs,z :: a,h=>by have:=Ua xs a (by simpa using h);simp[Du,this];omega
theorem Ub:∀(xs:List Ky) (a:List Value) (j:Nat) (u:Value),(Du xs a)[j]?=some u->(∃i x,j=i*2/\xs[i]?=some x/\a[i]?=some u)\/(∃i x z,j=i*2+1/\xs[i]?=some x/\a[i]?=some z/\u=.bool x.2)
 |[],_,j,u,h=>by simp[Du] at h
 |_ :: _,[],j,u,h=>by simp[Du] at h
 |y :: xs,z :: a,0,u,h=>.inl ⟨0,y,rfl,rfl,by simpa[Du] using h⟩
 |y :: xs,z :: a,1,u,h=>.inr ⟨0,y,z,rfl,rfl,rfl,by simpa[Du] using h.symm⟩
 |y :: xs,z :: a,j+2,u,h=>by
  rcases Ub xs a j u (by simpa[Du] using h) with⟨i,x,e,h1,h2⟩|⟨i,x,v,e,h1,h2,h3⟩
  ·exact .inl ⟨i+1,x,by omega,by simpa using h1,by simpa using h2⟩
  ·exact .inr ⟨i+1,x,v,by omega,by simpa using h1,by simpa using h2,h3⟩
def Ei(T:TypeId)(w:World)(C B:Nat)(v:Value)(xs:List Ky):Prop:=
 ∃a:List Value,w.ownsRow B T 2 v xs.length (Du xs a)/\a.length=xs.length/\∀(i:Nat) (u:Value) (x:Ky),a[i]?=some u->xs[i]?=some x->Am (okT [9] C w) w u x.1
theorem Ei.empty(T:TypeId)(w:World)(C B:Nat):Ei T w C B (.slice none 0 0) []:=⟨[],World.ownsRow_nil w B _ 2,rfl,λi u x h=>by simp at h⟩
theorem Ei.form{xs:List Ky}(h:Ei T w C B v xs):∃a c,v=.slice a xs.length c/\xs.length<=c:=by
 obtain⟨d,h,_⟩:=h;rcases h.2 with⟨rfl,b⟩|⟨g,cap,cur,rfl,_,_,b,_⟩
 ·exact⟨_,_,by rw[b],by omega⟩
 ·exact⟨_,_,rfl,b⟩
theorem Ei.call{xs:List Ky}(h:Ei T w C B v xs)(hb:Below w.heap.size w w'):Ei T w' C B v xs:=by obtain⟨e,h1,h2,h3⟩:=h;exact⟨e,World.ownsRow.kept h1 (Bc hb) (by cases v.ownBlock<;>simp),h2,λi u l a b=>Am.keep (h3 i u l a b) hb.size (λg d _=>hb.block g d) (λg d c=>c.same (hb.block g d))⟩
theorem Ei.mono{a:Nat}{xs:List Ky}(h:Ei T w C B v xs)(hB:a<=B):Ei T w C a v xs:=by obtain⟨b,h1,h2,h3⟩:=h;exact⟨b,World.ownsRow.mono h1 hB,h2,h3⟩
def Xm(C:Nat)(w:World)(g o:Nat)(x:Ky):Prop:=(∃u,w.cell? ⟨g,o,none⟩=some u/\Am (okT [9] C w) w u x.1)/\w.cell? ⟨g,o+1,none⟩=some (.bool x.2)
theorem Ei.read{xs:List Ky}(h:Ei T w C B v xs):Ad 2 (Xm C) (λ_=>True) w v xs:=by
 obtain⟨d,h1,h2,h3⟩:=h;rcases h1.2 with⟨rfl,b⟩|⟨g,cap,cur,rfl,m,f,b,o,hsz,k⟩
 ·exact⟨none,0,by rw[b],by omega,.inl (aY b)⟩
 ·refine⟨some ⟨g,0,none⟩,cap,rfl,b,.inr ⟨g,0,rfl,(ah.1 f).1,trivial,λj x c=>?_⟩⟩;have e:j<d.length:=by rw[h2];exact(ak.1 c).1
  have hu:=aK e;obtain⟨l,f1⟩:=Xl xs d j x _ c hu;have c0:=World.ownsRow.cells h1 (g:=g) rfl (j*2) _ l;have c1:=World.ownsRow.cells h1 (g:=g) rfl (j*2+1) _ f1;have a:∀i,(⟨g,0,none⟩:Addr).add i=⟨g,0+i,none⟩:=λi=>by unfold Addr.add;split<;>simp_all
  rw[a] at c0 c1;exact⟨⟨d[j],c0,h3 j _ x hu c⟩,c1⟩
theorem AeU{xs:List Ky}{o:Nat}(h:∀(j:Nat) (x:Ky),xs[j]?=some x->Xm C w g (o+j*2) x):
  ∃c:List Value,c.length=xs.length/\(∀j u,(Du xs c)[j]?=some u->w.cell? ⟨g,o+j,none⟩=some u/\u.oneCell'=true)/\∀(i:Nat) (u:Value) (x:Ky),c[i]?=some u->xs[i]?=some x->Am (okT [9] C w) w u x.1:=by
 have H:∀i:Fin xs.length,∃u,w.cell? ⟨g,o+i.1*2,none⟩=some u/\Am (okT [9] C w) w u xs[i.1].1:=λi=>(h i.1 _ (aK i.2)).1;obtain⟨f,d⟩:=gG H;have b:∀(i:Nat) (x:Ky) (u:Value),xs[i]?=some x->(List.ofFn f)[i]?=some u->∃a:i<xs.length,u=f ⟨i,a⟩/\x=xs[i]:=λi x u hx hu=>by obtain⟨a,e⟩:=ak.1 hx;refine⟨a,?_,e.symm⟩;rw[gb] at hu;simp[a] at hu;exact hu.symm
 refine⟨List.ofFn f,by simp,λj u k=>?_,λi u x hu hx=>?_⟩
 ·rcases Ub xs _ j u k with⟨i,x,rfl,hx,hu⟩|⟨i,x,z,rfl,hx,l,rfl⟩
  ·obtain⟨a,rfl,rfl⟩:=b i x u hx hu;have:=d ⟨i,a⟩;exact⟨this.1,kyK.one (x:=(xs[i],true).1) this.2⟩
  ·exact⟨by rw[<-cQ];exact(h i x hx).2,rfl⟩
 ·obtain⟨a,rfl,rfl⟩:=b i x u hx hu;exact(d ⟨i,a⟩).2
theorem Ei.grows(hC:C<=B)(e:T∉[9]){h:Value}{xs ys:List Ky}{a vs:List Value}(h1:w.ownsRow B T 2 v xs.length (Du xs a))(h2:a.length=xs.length)
  (h3:∀(i:Nat) (u:Value) (x:Ky),a[i]?=some u->xs[i]?=some x->Am (okT [9] C w) w u x.1)(j:vs.length=ys.length)(k:∀(i:Nat) (u:Value) (x:Ky),vs[i]?=some u->ys[i]?=some x->Am (okT [9] C w) w u x.1)
  (h4:w'.ownsRow B T 2 h (xs.length+ys.length) (Du xs a++Du ys vs))(f:w.grownBy w' v.ownBlock):Ei T w' C B h (xs++ys):=by
 refine⟨a++vs,by rw[aT,NU ys vs xs a h2];exact h4,by simp[h2,j],λi z y c b=>?_⟩;by_cases d:i<a.length
 ·rw[bN d] at c;rw[bN (by omega)] at b;exact FX (L:=kyK) hC e h1 f (h3 i z y c b)
 ·rw[bH (by omega)] at c;rw[bH (by omega),<-h2] at b;exact FX (L:=kyK) hC e h1 f (k _ z y c b)
theorem Oo{ops:Array Oper}{rest:List Oper}{o:Oper}{a:Act}{Q:Exit->Act->World->Prop}(T M:TypeId)(R:T∉[9])(l:prog.underlying M=some (.slice T)){z:Value}
  (F:prog.info? T=some i0)(P:i0.zero=some z)(d:i0.size=2)(G:i0.bytes<=64)(r:z.cells.size=2)(f:o.guard=none)(s x:Operand)
  (J:o.op=.call { callee:=.builtin .append,args:=#[s,x],argTypes:=#[M,M] })
  (B:Nat)(hC:C<=B)(v:Value)(xs:List Ky)(L:a.eval s=v)(t:Ei T w C B v xs)(u:Value)(ys:List Ky)(hx:a.eval x=u)
  (I:Ad 2 (Xm C) (λ_=>True) w u ys)(U:xs.length+ys.length<=1000000000)(hB:B<=w.heap.size)
  (h:∀m w',Ei T w' C B m (xs++ys)->Below B w w'->w.grownBy w' v.ownBlock->wpList prog ops Q rest (a.put o.dst m) w'):wpList prog ops Q (o :: rest) a w:=by
 obtain⟨A,c,rfl,hc,b⟩:=I;obtain⟨Y,h1,h2,h3⟩:=t;have hbm:(xs.length+ys.length)*i0.bytes<=140737488355328:=aX (gJ U G) (by decide);cases A with
 |none=>
  rcases b with rfl|⟨g,o,e,_⟩
  ·refine wpList_plain f λK S=>?_;have E:=NT o.type l F h1 c;unfold Oper.wp;simp[execOp,J,resolve,invoke,builtin,L,hx,E,Result.andThen];exact S _ _ (h v w (by rw[bK];exact⟨Y,h1,h2,h3⟩) (Below.refl B w) ⟨rfl,rfl,rfl,aA _,λ_ _ _=>rfl⟩)
  ·cases e
 |some V=>
  rcases b with rfl|⟨g,o2,e,Z,_,hcell⟩
  ·exact wpList_append_own w f s x _ J B T i0 z 2 i0.bytes l F P d rfl r (by decide) v xs.length _ L h1 V 0 c [] hx rfl
    (λj u q=>by simp at q) (λu hu=>by cases hu) (by unfold maxLen;omega) hbm hB
    (λm w' h4 h5 _=>h m w' (Ei.grows (ys:=[]) (vs:=[]) hC R h1 h2 h3 rfl (λi u x F=>by simp at F) h4 h5) ((Below.refl B w).grown h5 hB (λk hk=>(World.ownsRow.lt h1 k hk).1)) h5)
  ·cases e;obtain⟨vs,O,k1,X⟩:=AeU hcell;exact wpList_append_own w f s x _ J B T i0 z 2 i0.bytes l F P d rfl r (by decide) v xs.length _ L h1 ⟨g,o2,none⟩ ys.length c (Du ys vs) hx (Ua ys vs O)
    (λj u q=>by
      have y:(⟨g,o2,none⟩:Addr).add j=⟨g,o2+j,none⟩:=by unfold Addr.add;split<;>simp_all
      rw[y];exact(k1 j u q).1)
    (λu hu=>by
      obtain⟨j,q,rfl⟩:=bc.1 hu;exact(k1 j _ (aK q)).2) (by unfold maxLen;omega) hbm hB
    (λm w' h4 h5 _=>h m w' (Ei.grows hC R h1 h2 h3 O X h4 h5) ((Below.refl B w).grown h5 hB (λk hk=>(World.ownsRow.lt h1 k hk).1)) h5)
theorem AgK{x:Ky}{u:Value}(b:g<w.heap.size)(h0:w.cell? ⟨g,0,none⟩=some u)(h1:w.cell? ⟨g,1,none⟩=some (.bool x.2))(hx:Am (okT [9] C w) w u x.1):Ad 2 (Xm C) (λ_=>True) w (.slice (some ⟨g,0,none⟩) 1 1) [x]:=by
 refine⟨some ⟨g,0,none⟩,1,rfl,by simp,.inr ⟨g,0,rfl,b,trivial,λj y a=>?_⟩⟩;cases j with
 |zero=>simp only[aH,bq] at a;subst a;exact⟨⟨u,h0,hx⟩,h1⟩
 |succ j=>simp at a
theorem Ad.drop{α:Type}{k:Nat}{El:World->Nat->Nat->α->Prop}{ok:Nat->Prop}{a:Option Addr}{c:Nat}{xs:List α}(h:Ad k El ok w (.slice a n c) xs){m:Nat}(s:m<=n):Ad k El ok w (.slice (Option.map (λx=>x.add (m*k)) a) (n-m) (c-m)) (xs.drop m):=by
 obtain⟨r,c1,e,hc,b⟩:=h;cases e;have l:(xs.drop m).length=xs.length-m:=bD;refine⟨_,c-m,by rw[l],by rw[l];omega,?_⟩;rcases b with rfl|⟨g,o,rfl,q,f,hcell⟩
 ·exact .inl (by simp)
 ·have d:(⟨g,o,none⟩:Addr).add (m*k)=⟨g,o+m*k,none⟩:=by unfold Addr.add;split<;>simp_all
  refine .inr ⟨g,o+m*k,by simp only[Option.map_some,d],q,f,λj y i=>?_⟩;rw[eJ] at i;have:=hcell (m+j) y i
  rwa [dJ,<-cQ] at this
end
section
open Go.RowKit
structure Ask where
 s:iK
 n:iK
 t:iK
 right:Int
end
section
open Go.RowKit
theorem Ee.lit(T:TypeId)(w:World)(r:PoS.Rl):Ee (w.alloc (.cells (Ae8 r).toArray T)) (.slice (some ⟨w.heap.size,0,none⟩) 1 1) [r]:=by
 have a:=Whole.made w T (Ae8 r).toArray;refine⟨some ⟨w.heap.size,0,none⟩,1,rfl,aA _,.inr ⟨w.heap.size,0,rfl,a.lt,λj q b=>?_⟩⟩
 match j,b with
 |0,b=>have:=aU b;subst this;exact⟨a.cell 0,a.cell 1,a.cell 2,a.cell 3,a.cell 4⟩
 |j+1,b=>simp at b
def Kw(_B:Nat)(w:World)(v:Value)(xs:List PoS.Rl)(W:World):Prop:=Below w.heap.size w W/\Ee W v xs/\Env W
theorem Kw.call{a:World}{xs:List PoS.Rl}(h:Kw B w v xs W)(hb:Below W.heap.size W a):Kw B w v xs a:=
 ⟨h.1.trans (hb.mono h.1.size),h.2.1.call hb (aA _),h.2.2.below hb⟩
theorem Kw.below{xs:List PoS.Rl}(h:Kw B w v xs W):Below w.heap.size w W:=h.1
theorem Kw.drew{xs:List PoS.Rl}(h:Kw B w v xs W):Kw B w v xs W.drew:=⟨h.1.drew,h.2.1,h.2.2.drew⟩
end
section
open Go.RowKit
attribute [local go_sem ↓] Go.wp_at_zero Go.wp_at_succ
def nmO(o:Option EnS.En):iK:=match o with|none=>[]|some x=>x.name
def atO(o:Option EnS.En):List EnS.At:=match o with|none=>[]|some x=>x.attrs
def AgL(C:Nat)(o:Option EnS.En)(w:World)(e:Ending)(w':World):Prop:=∃a c,e=.returned (.tuple #[.agg #[.string ⟨(nmO o).toArray⟩,.slice a (atO o).length c],o.isSome])/\Ao atK 56 [9] C w' w.heap.size (.slice a (atO o).length c) (atO o)/\Below w.heap.size w w'
theorem Adi.all{o:Option EnS.En}{e:Ending}(h:Adi C o w e w'):AgL C o w e w':=by
 rcases h with⟨x,rfl,u,rfl,b,hb⟩|⟨rfl,rfl,hb⟩
 ·obtain⟨a,c,rfl⟩:=b.form;exact⟨a,c,rfl,b,hb⟩
 ·exact⟨none,0,rfl,Ao.empty _ _ _ _ _ _,hb⟩
end
section
open Go.ChangeShapes Go.WideShapes Go.ChangeAt Go.RowKit Go.Deep
section
variable {H:Type} {enc:TypeId×Value->H}
theorem Yq{r:Reach}{f:Nat}{t e:TypeId}(b:prog.underlying t=some (.slice e))(h:Value.okWide prog w r f t v):
  v=.slice none 0 0\/∃g o n c,v=.slice (some ⟨g,o,none⟩) n c:=by
 simp only[Value.okWide,b,Cell.okWide] at h;cases v with
 |slice a n c=>
  cases a with
  |none=>
   match n,c,h with
   |0,0,_=>exact .inl rfl
   |n+1,c,h=>simp[Cell.ok,b] at h
   |0,c+1,h=>simp[Cell.ok,b] at h
  |some a=>simp only[Cell.ok,b] at h;have d:=h.2.2.2.1;obtain⟨g,o,s⟩:=a;simp only at d;subst d;exact .inr ⟨g,o,n,c,rfl⟩
 |_=>simp[Cell.ok,b] at h
end
end
section
open Go.ChangeShapes Go.WideShapes Go.ChangeAt Go.RowKit Go.Deep Go.Joins
section
variable {H:Type} {enc:TypeId×Value->H}
theorem Ii{d:DataW H}:∀{l:List (DataW H)},d∈l->Rows.uptoBulk d<=Rows.uptoBulkAll l
 |[],h=>by cases h
 |x :: r,h=>by
  unfold Rows.uptoBulkAll;rcases ay.1 h with rfl|h
  ·omega
  ·have:=Ii h;omega
theorem JG(d:DataW H):1<=Rows.uptoBulk d:=by unfold Rows.uptoBulk;split<;>omega
theorem Xn:∀(l:List (DataW H)),l.length<=Rows.uptoBulkAll l
 |[]=>aR _
 |x :: r=>by unfold Rows.uptoBulkAll;have h1:=JG x;have h2:=Xn r;rw[aN];omega
theorem AaW(A B:List (DataW H)):Rows.uptoBulkAll A<=Rows.uptoBulk (.slice A B):=by unfold Rows.uptoBulk;omega
theorem PV(A:List (DataW H)):Rows.uptoBulkAll A<=Rows.uptoBulk (.agg A):=by unfold Rows.uptoBulk;omega
theorem Me{l:iK}(h:Rows.uptoBulk (.lit (.string l):DataW H)<=N):l.length<=N:=by unfold Rows.uptoBulk at h;omega
theorem EG(s:ByteArray):(Value.string s)=Ac s.data.toList:=by cases s;simp[Ac]
theorem add_add(g o i j:Nat):((⟨g,o,none⟩:Addr).add i).add j=⟨g,o+i+j,none⟩:=by unfold Addr.add;split<;>split<;>simp_all
theorem Xo{α:Type}{m:α->Nat}{S:Nat->α}{D:Nat->DataW H}:∀l:List Nat,(∀i∈l,m (S i)<=Rows.uptoBulk (D i))->EnS.Av m (l.map S)<=Rows.uptoBulkAll (l.map D)
 |[],_=>aR _
 |i :: l,h=>by
  show m (S i)+EnS.Av m (l.map S)<=Rows.uptoBulkAll (D i :: l.map D)
  unfold Rows.uptoBulkAll;have h1:=h i (ai ..);have h2:=Xo (m:=m) (S:=S) (D:=D) l (λj a=>h j (au _ a));omega
theorem Yr(A B:List (DataW H)):Rows.uptoBulkAll A+1<=Rows.uptoBulk (.slice A B):=by unfold Rows.uptoBulk;omega
theorem KH{α:Type}{base:Nat}{held:Bool}{sp:Nat->Bool}{t e:TypeId}{k fuel:Nat}{d:DataW H}{ps:List MemPlace}
  (Y:prog.underlying t=some (.slice e))(hk:prog.cellsOf e=k)(A:0<k)(El:World->Nat->Nat->α->Prop)(G:α->Prop)(m:α->Nat)
  (Z:DataW.trod enc prog w base sp held fuel t [v]=some (d,ps))(hb:Rows.uptoBulk d<=N)
  (each:∀(g o:Nat) (cs:List Value) (M:Nat) (D:DataW H) (Pl:List MemPlace),(∀j,j<k->w.cell? ⟨g,o+j,none⟩=cs[j]?)->cs.length=k->DataW.trod enc prog w base sp held M e cs=some (D,Pl)->Rows.uptoBulk D<=N->∃x,El w g o x/\G x/\m x<=Rows.uptoBulk D):
  ∃xs:List α,Ad k El (λ_=>True) w v xs/\xs.length<=N/\(∀x∈xs,G x)/\EnS.Av m xs+1<=Rows.uptoBulk d:=by
 rcases open_slice Y Z with⟨h0,A0⟩|⟨a,n,c,O,M,D,Pl,E,V,U,Q,P,hx,h⟩
 ·simp only[cG,dh] at h0;subst h0;exact⟨[],Ad.nil _ _,aR _,(λx hx=>(by cases hx)),JG d⟩
 simp only[cG,dh] at E;subst E;have l:=congrArg Prod.fst hx;simp only at l;rw[l] at hb;have L:=aX (AaW _ _) hb;have R:n<=O:=by rw[P];split<;>omega
 rw[hk] at h;obtain⟨g,o,s⟩:=a;rcases bU n with h0|u
 ·subst h0;exact⟨[],Ad.nil _ _,aR _,(λx hx=>(by cases hx)),JG d⟩
 have X:s=none:=by
  obtain⟨cs,h1,h2⟩:=h 0 (by omega);obtain⟨_,hlen,hc⟩:=World.cells?_some h1;have c0:=hc 0 A;rw[cN] at c0;have r:0<cs.length:=by omega
  rw[aK r] at c0;have e1:((⟨g,o,s⟩:Addr).add 0).add 0=⟨g,o,s⟩:=by unfold Addr.add;simp
  rw[e1] at c0;exact cell_spot c0
 subst X;have b:∀i,i<n->∃x:α,El w g (o+i*k) x/\G x/\m x<=Rows.uptoBulk (D i):=λi F=>by
  obtain⟨cs,h1,h2⟩:=h i (by omega);obtain⟨_,hlen,hc⟩:=World.cells?_some h1;refine each g (o+i*k) cs M (D i) (Pl i) (λj f=>?_) hlen h2 ?_
  ·have:=hc j f;rw[add_add] at this;exact this
  ·exact aX (Ii (bG.2 ⟨i,dU.2 F,rfl⟩)) L
 have hlen2:n<=N:=by have:=Xn ((List.range n).map D);rw[b9,fQ] at this;omega
 have K:g<w.heap.size:=by
  obtain⟨cs,h1,h2⟩:=h 0 (by omega);obtain⟨_,hlen,hc⟩:=World.cells?_some h1;have c0:=hc 0 A;have r:0<cs.length:=by omega
  rw[aK r,add_add] at c0;exact cell_lt c0
 haveI:Inhabited α:=⟨(b 0 u).choose⟩
 obtain⟨S,hS⟩:=choose_lt b;refine⟨(List.range n).map S,⟨some ⟨g,o,none⟩,c,by simp,by simp;omega,.inr ⟨g,o,rfl,K,trivial,λj q f=>?_⟩⟩,by simpa using hlen2,λq I=>?_,?_⟩
 ·rw[ba] at f;cases J:(List.range n)[j]? with
  |none=>rw[J] at f;cases f
  |some x=>rw[J] at f;have y:=(ak.1 J).1;have I:=(ak.1 J).2;rw[eN] at I;simp only[fQ] at y;have f:=aU f;subst I;subst f;exact(hS j y).1
 ·obtain⟨i,F,rfl⟩:=bG.1 I;exact(hS i (dU.1 F)).2.1
 ·have h1:=Xo (m:=m) (S:=S) (D:=D) (List.range n) (λi F=>(hS i (dU.1 F)).2.2);have h2:=Yr ((List.range n).map D) ((List.range (O-n)).map λj=>D (n+j));rw[l];omega
theorem open_strs{base:Nat}{held:Bool}{sp:Nat->Bool}{fuel:Nat}{d:DataW H}{ps:List MemPlace}
  (c:DataW.trod enc prog w base sp held fuel 23 [v]=some (d,ps))(hb:Rows.uptoBulk d<=N):
  ∃xs:List iK,Am (λ_=>True) w v xs/\xs.length<=N/\(∀x∈xs,x.length<=N)/\EnS.Av (λv=>1+EnS.cV v) xs+1<=Rows.uptoBulk d:=by
 refine KH underlying23 (by kernel_rfl) (by decide) UI (λx=>x.length<=N) (λv=>1+EnS.cV v) c hb (λg o cs f D Pl hc hlen b a=>?_)
 match cs,hlen with
 |[x],_=>
  obtain⟨s,e,k,_⟩:=DataW.trod_string underlying9 b;simp only[cG,dh] at e;have c0:=hc 0 (by decide);simp only[Nat.add_zero,aH] at c0;subst e;rw[EG] at c0;have k1:D=.lit (.string s.data.toList):=by first|exact k|exact congrArg Prod.fst k|simpa using k
  rw[k1] at a⊢;refine⟨s.data.toList,c0,Me a,?_⟩;unfold Rows.uptoBulk EnS.cV;have:=Nat.div_le_self s.data.toList.length 100;omega
def Xp(N:Nat)(x:EnS.At):Prop:=x.typ.length<=N/\x.vals.length<=N/\∀v∈x.vals,v.length<=N
def Xq(N:Nat)(e:EnS.En):Prop:=e.name.length<=N/\e.attrs.length<=N/\∀x∈e.attrs,Xp N x
theorem Xr{base:Nat}{held:Bool}{sp:Nat->Bool}{fuel:Nat}{d:DataW H}{ps:List MemPlace}
  (q:DataW.trod enc prog w base sp held fuel 50 [v]=some (d,ps))(hb:Rows.uptoBulk d<=N):
  ∃xs:List EnS.At,BA w v xs/\xs.length<=N/\(∀x∈xs,Xp N x)/\EnS.Av EnS.cA xs+1<=Rows.uptoBulk d:=by
 have c:prog.cellsOf 9=1:=by kernel_rfl
 have b:prog.cellsOf 23=1:=by kernel_rfl
 refine KH underlying50 (by kernel_rfl) (by decide) (BG (λ_=>True)) (Xp N) EnS.cA q hb (λg o cs t D Pl hc hlen m l=>?_)
 match cs,hlen with
 |[x,y],_=>
  obtain⟨i,j,r,e,_,t0,h⟩:=trod_struct2 underlying56 m;simp only[c,b,bI,List.take_succ_cons,List.take_zero,bW] at t0 h;have f:=congrArg Prod.fst e;simp only at f;rw[f] at l;have a:=aX (PV _) l;obtain⟨s,es,k,_⟩:=DataW.trod_string underlying9 t0;simp only[cG,dh] at es;subst es;obtain⟨xs,h1,h2,h3,h5⟩:=open_strs (N:=N) (d:=j.1) (ps:=j.2) h (aX (Ii (by simp)) a);have c0:=hc 0 (by decide);have c1:=hc 1 (by decide);simp only[Nat.add_zero,aH,aP] at c0 c1;rw[EG] at c0;have k1:i.1=.lit (.string s.data.toList):=by first|exact k|exact congrArg Prod.fst k|simp[k]
  have h4:=aX (Ii (d:=i.1) (by simp)) a;rw[k1] at h4;refine⟨⟨s.data.toList,xs⟩,⟨c0,y,c1,h1⟩,⟨Me h4,h2,h3⟩,?_⟩;rw[f,k1];show 1+xs.length+EnS.Av EnS.cV xs<=_
  rw[EnS.SE] at h5;unfold Rows.uptoBulk Rows.uptoBulkAll Rows.uptoBulkAll Rows.uptoBulkAll;have:=JG (.lit (.string s.data.toList):DataW H);omega
theorem AaX{base:Nat}{held:Bool}{sp:Nat->Bool}{fuel:Nat}{d:DataW H}{ps:List MemPlace}
  (q:DataW.trod enc prog w base sp held fuel 22 [v]=some (d,ps))(hb:Rows.uptoBulk d<=N):
  ∃xs:List EnS.En,Ci w v xs/\xs.length<=N/\(∀x∈xs,Xq N x)/\EnS.Av EnS.cE xs+1<=Rows.uptoBulk d:=by
 have c:prog.cellsOf 9=1:=by kernel_rfl
 have b:prog.cellsOf 50=1:=by kernel_rfl
 refine KH underlying22 (by kernel_rfl) (by decide) (Dk (λ_=>True)) (Xq N) EnS.cE q hb (λg o cs t D Pl hc hlen m l=>?_)
 match cs,hlen with
 |[x,y],_=>
  obtain⟨i,j,r,e,_,t0,h⟩:=trod_struct2 underlying52 m;simp only[c,b,bI,List.take_succ_cons,List.take_zero,bW] at t0 h;have f:=congrArg Prod.fst e;simp only at f;rw[f] at l;have a:=aX (PV _) l;obtain⟨s,es,k,_⟩:=DataW.trod_string underlying9 t0;simp only[cG,dh] at es;subst es;obtain⟨xs,h1,h2,h3,h5⟩:=Xr (N:=N) (d:=j.1) (ps:=j.2) h (aX (Ii (by simp)) a);have c0:=hc 0 (by decide);have c1:=hc 1 (by decide);simp only[Nat.add_zero,aH,aP] at c0 c1;rw[EG] at c0;have k1:i.1=.lit (.string s.data.toList):=by first|exact k|exact congrArg Prod.fst k|simp[k]
  have h4:=aX (Ii (d:=i.1) (by simp)) a;rw[k1] at h4;refine⟨⟨s.data.toList,xs⟩,⟨c0,y,c1,h1⟩,⟨Me h4,h2,h3⟩,?_⟩;rw[f,k1];show 1+s.data.toList.length / 100+EnS.Av EnS.cA xs<=_
  have h6:s.data.toList.length+1=Rows.uptoBulk (.lit (.string s.data.toList):DataW H):=by unfold Rows.uptoBulk;rfl
  have h7:=Nat.div_le_self s.data.toList.length 100;unfold Rows.uptoBulk Rows.uptoBulkAll Rows.uptoBulkAll Rows.uptoBulkAll;omega
theorem AeV{base:Nat}{held:Bool}{r:Reach}{e:Nat}{d:DataW H}{ps:List MemPlace}{sp:Nat->Bool}
  (a:Value.okWide prog w r e 22 v)(hd:DataW.Trod enc prog w base sp held 22 v d ps)(hb:Rows.uptoBulk d<=N):
  ∃xs:List EnS.En,Ci w v xs/\xs.length<=N/\(∀x∈xs,Xq N x)/\EnS.Av EnS.cE xs+1<=Rows.uptoBulk d:=by
 obtain⟨fuel,b⟩:=hd;rcases Yq underlying22 a with rfl|⟨g,o,n,c,rfl⟩
 ·exact⟨[],Ad.nil _ _,aR _,(λx hx=>(by cases hx)),JG d⟩
 ·exact AaX (by simpa[Value.cells] using b) hb
end
end
section
open Go.RowKit
theorem Eo.filter(h:Eo xs)(p:EnS.En->Bool):Eo (xs.filter p):=⟨aX (bJ _ _) h.1,λx hx=>h.2 x (cf.1 hx).1⟩
theorem AaM.filter(h:AaM xs)(p:EnS.En->Bool):AaM (xs.filter p):=λx hx=>h x (cf.1 hx).1
theorem Xt{o:Nat}{x:EnS.En}(Ts:List TypeId)(h:Dk (λ_=>True) w g o x)(_hg:g<w.heap.size):w.cell? ⟨g,o,none⟩=some (.string ⟨x.name.toArray⟩)/\∃a c,w.cell? ⟨g,o+1,none⟩=some (.slice a x.attrs.length c)/\x.attrs.length<=c/\Aw (okT Ts w.heap.size w) w (.slice a x.attrs.length c) x.attrs:=by obtain⟨h1,a,c,h2,h3,h4⟩:=Dk.parts h;exact⟨h1,a,c,h2,h3,Aw.base h4 Ts⟩
end
