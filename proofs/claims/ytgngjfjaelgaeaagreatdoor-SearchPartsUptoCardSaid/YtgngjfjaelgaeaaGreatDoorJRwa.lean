/- The walk of the searching law's awake; bounds of what a search answers. Conditions: as stated. -/
import Derived.Deep.Slices
import Derived.Test.YtgngjfjaelgaeaaGreatDoorJSru
import Derived.Test.YtgngjfjaelgaeaaGreatDoorJRow
set_option maxRecDepth 100000
set_option maxHeartbeats 4000000
namespace Go.Proofs.YtgngjfjaelgaeaaGreatDoor
open Go.Proofs.Tryz
section
open Go.RowKit
open FiS (Fi)
attribute [local go_sem ↓] Go.wp_at_zero Go.wp_at_succ
namespace SeS
open EnS DnS
theorem Afi {xs l:List En} (h:Srt xs) (g:∀e ∈ xs,e ∈ l):xs.length<=l.length:=by
 have f:(xs.map En.name).Nodup:=eH.2 (i7 (fun {a b} hab e=>by rw [e,Ll] at hab;omega) h);have h2:=NG (U:=l.map En.name) f (fun s c=>by
  obtain ⟨e,d,rfl⟩:=bD.1 c;exact bD.2 ⟨e,g e d,rfl⟩)
 simpa using h2
theorem Wa {l:List En} {q:Rq} {c:Int} {ys:List En} (g:Bt l) (h1:BD l) (h:Ew l q c ys):ys.length<=l.length/\∀y ∈ ys,∃e ∈ l,y=DC q.attrs q.tonly e:=by
 rcases h with ⟨_,_,rfl⟩ | ⟨_,_,_,rfl⟩ | ⟨_,_,N,_,h4⟩
 · exact ⟨aR _,fun y f=>by cases f⟩
 · exact ⟨aR _,fun y f=>by cases f⟩
 · have hR:∀e ∈ (stS l (dr1 q) [((AK l q.base (dr2 q)).1,q.scope)] N).2.filter (Cc q.filter),e ∈ l:=fun e d=>Nl N e (AP d);obtain ⟨g1,g2⟩:=EJ (xs:=(stS l (dr1 q) [((AK l q.base (dr2 q)).1,q.scope)] N).2.filter (Cc q.filter)) (fun e d=>g e (hR e d)) (fun a ha b hb e=>h1 a (hR a ha) b (hR b hb) e);have hF:(Im l q (AK l q.base (dr2 q)).1 N).length<=l.length/\∀y ∈ Im l q (AK l q.base (dr2 q)).1 N,∃e ∈ l,y=DC q.attrs q.tonly e:=by
    unfold Im;refine ⟨by rw [b7];exact Afi g1 (fun e d=>hR e ((g2 e).1 d)),fun y f=>?_⟩;obtain ⟨e,d,rfl⟩:=bD.1 f;exact ⟨e,hR e ((g2 e).1 d),rfl⟩
   have i:ys=(GF q.size (Im l q (AK l q.base (dr2 q)).1 N)).2:=congrArg Prod.snd h4;subst i;unfold GF;split
   · refine ⟨aY (by rw [au];omega) hF.1,fun y f=>hF.2 y (dN f)⟩
   · exact hF
end SeS
def AfX (ys:List EnS.En):Prop:=ys.length<=1048576/\∀e ∈ ys,e.attrs.length<=1048576/\∀x ∈ e.attrs,x.vals.length<=1048576
theorem Afj {l:List EnS.En} {q:SeS.Rq} {c:Int} {ys:List EnS.En} (d:SeS.Bt l) (h1:SeS.BD l) (a:Eb l) (h:SeS.Ew l q c ys):AfX ys:=by
 obtain ⟨g1,g2⟩:=SeS.Wa d h1 h;refine ⟨aY g1 a.1,fun y g=>?_⟩;obtain ⟨e,f,rfl⟩:=g2 y g;have h2:=(a.2 e f).2;unfold SeS.DC;refine ⟨by rw [b7];exact aY (bL _ _) h2.1,fun x hx=>?_⟩;obtain ⟨z,b,rfl⟩:=bD.1 hx;split
 · exact aR _
 · exact (h2.2 z (bW.1 b).1).1
theorem Ji {w:World} {p a:Addr} {kd:IntKind} {z:Int} {v:Value} (hp:w.cell? p=some (.int kd z)) (y:Value) (h:w.cell? a=some v) (b:∀k i,v≠.int k i):(w.setCell p y).cell? a=some v:=
 (World.cell?_setCell_other w p a y (fun e=>by
   subst e;rw [hp] at h;exact b _ _ (aU h).symm)).trans h
theorem Aj.int {w:World} {v:Value} {xs:List (List UInt8)} {p:Addr} {kd:IntKind} {z:Int} (h:Aj (fun _=>True) w v xs) (hp:w.cell? p=some (.int kd z)) (y:Value):Aj (fun _=>True) (w.setCell p y) v xs:=
 Ad.imp h (cH (World.size_setCell ..).symm) (fun _ _ h=>h) fun g o x _ _ hx=>Ji hp y hx (fun k i e=>by unfold Ac at e;cases e)
theorem Ax.int {w:World} {v:Value} {xs:List EnS.At} {p:Addr} {kd:IntKind} {z:Int} (h:Cj w v xs) (hp:w.cell? p=some (.int kd z)) (y:Value):Cj (w.setCell p y) v xs:=
 Ad.imp h (cH (World.size_setCell ..).symm) (fun _ _ h=>h) fun g o x _ _ ⟨h0,u,h1,h2⟩=>⟨Ji hp y h0 (fun k i e=>by unfold Ac at e;cases e),u,Ji hp y h1 (fun k i e=>by obtain ⟨a,c,rfl,_⟩:=Ad.form h2;cases e),h2.int hp y⟩
theorem AV.int {w:World} {v:Value} {xs:List EnS.En} {p:Addr} {kd:IntKind} {z:Int} (h:Cm w v xs) (hp:w.cell? p=some (.int kd z)) (y:Value):Cm (w.setCell p y) v xs:=
 Ad.imp h (cH (World.size_setCell ..).symm) (fun _ _ h=>h) fun g o x _ _ ⟨h0,u,h1,h2⟩=>⟨Ji hp y h0 (fun k i e=>by unfold Ac at e;cases e),u,Ji hp y h1 (fun k i e=>by obtain ⟨a,c,rfl,_⟩:=Ad.form h2;cases e),Ax.int h2 hp y⟩
def awL:List EnS.En:=[⟨[100,99,61,120],[⟨[100,99],[[120]]⟩]⟩]
def awF:Fi:=.mk 0 [] [] [] [] [] []
def awQ:SeS.Rq:=⟨[],2,0,awF,[],false,0⟩
theorem Jj:Eb awL/\(∀e ∈ awL,MB e.attrs)/\SeS.Bt awL/\SeS.BD awL/\∀e ∈ awL,e.name≠[]:=by
 have d:∀e ∈ awL,e=⟨[100,99,61,120],[⟨[100,99],[[120]]⟩]⟩:=fun e c=>by unfold awL at c;exact ak.1 c
 have f:GW [⟨[100,99],[[120]]⟩]:=by refine ⟨by decide,fun x hx=>?_⟩;rw [ak] at hx;subst hx;refine ⟨by decide,fun v g=>?_⟩;rw [ak] at g;subst g;decide
 refine ⟨⟨by decide,fun e c=>?_⟩,fun e c=>?_,fun e c=>?_,fun a f b hb _=>?_,fun e c=>?_⟩
 · rw [d e c];exact ⟨by decide,f⟩
 · rw [d e c];refine ⟨f,fun x hx=>?_⟩;have hx:x ∈ [(⟨[100,99],[[120]]⟩:EnS.At)]:=hx;rw [ak] at hx;subst hx;decide
 · rw [d e c];show DnS.Aw _=_
   decide+kernel
 · rw [d a f,d b hb]
 · rw [d e c];decide
theorem ZZ {c:Int} {ys:List EnS.En} (h:SeS.Ew awL awQ c ys):c=0/\ys.length=1:=by have h2:=SeS.Aa2 Jj.2.2.1 Jj.2.2.2.1 (by decide+kernel) rfl rfl h;rw [aG (by decide+kernel)] at h2;obtain ⟨rfl,rfl⟩:=h2;exact ⟨rfl,by decide+kernel⟩
theorem Aco (w:World) (hE:Env w):Calls prog 7 #[] w (Nv w):=by
 have b:Below w.heap.size w (((w.alloc (.cells #[.string ⟨#[120]⟩] 9)).alloc (.cells #[.string ⟨#[100,99]⟩,.slice (some ⟨w.heap.size,0,none⟩) 1 1] 56)).alloc (.cells #[.string ⟨#[100,99,61,120]⟩,.slice (some ⟨w.heap.size+1,0,none⟩) 1 1] 52)):=Ci (Ci (Af w _) _) _;have d:Cm (((w.alloc (.cells #[.string ⟨#[120]⟩] 9)).alloc (.cells #[.string ⟨#[100,99]⟩,.slice (some ⟨w.heap.size,0,none⟩) 1 1] 56)).alloc (.cells #[.string ⟨#[100,99,61,120]⟩,.slice (some ⟨w.heap.size+1,0,none⟩) 1 1] 52)) (.slice (some ⟨w.heap.size+1+1,0,none⟩) 1 1) awL:=by
  have a1:=Whole.made w 9 #[.string ⟨#[120]⟩];have a2:=Whole.made (w.alloc (.cells #[.string ⟨#[120]⟩] 9)) 56 #[.string ⟨#[100,99]⟩,.slice (some ⟨w.heap.size,0,none⟩) 1 1];rw [KU] at a2;have a3:=Whole.made ((w.alloc (.cells #[.string ⟨#[120]⟩] 9)).alloc (.cells #[.string ⟨#[100,99]⟩,.slice (some ⟨w.heap.size,0,none⟩) 1 1] 56)) 52 #[.string ⟨#[100,99,61,120]⟩,.slice (some ⟨w.heap.size+1,0,none⟩) 1 1];rw [KU,KU] at a3;have B:=(a1.call (Af _ (.cells #[.string ⟨#[100,99]⟩,.slice (some ⟨w.heap.size,0,none⟩) 1 1] 56))).call (Af _ (.cells #[.string ⟨#[100,99,61,120]⟩,.slice (some ⟨w.heap.size+1,0,none⟩) 1 1] 52));have C:=a2.call (Af _ (.cells #[.string ⟨#[100,99,61,120]⟩,.slice (some ⟨w.heap.size+1,0,none⟩) 1 1] 52));refine AeL a3 trivial rfl (fun j x a=>?_);unfold awL at a
  match j,a with
  | 0,a=>
   have:=aU a;subst this;refine ⟨rfl,_,rfl,Abw C trivial rfl (fun j x a=>?_)⟩
   match j,a with
   | 0,a=>
    have:=aU a;subst this;refine ⟨rfl,_,rfl,Ady B trivial rfl (fun j x a=>?_)⟩
    match j,a with
    | 0,a=>have:=aU a;subst this;rfl
    | j+1,a=>simp at a
   | j+1,a=>simp at a
  | j+1,a=>simp at a
 have q:FiS.wdF 20000 awF:=by unfold awF;rw [FiS.wdF];exact ⟨⟨by decide,by decide,by decide,by decide⟩,by decide,fun t G=>(by cases G),by decide,by rw [FiS.wdL];trivial⟩
 have l:=PS 0 awF (.agg #[.int .i64 0,.string ⟨#[]⟩,.string ⟨#[]⟩,.string ⟨#[]⟩,.string ⟨#[]⟩,.slice none 0 0,.slice none 0 0]) _ (FiV.leaf 0 _ (((w.alloc (.cells #[.string ⟨#[120]⟩] 9)).alloc (.cells #[.string ⟨#[100,99]⟩,.slice (some ⟨w.heap.size,0,none⟩) 1 1] 56)).alloc (.cells #[.string ⟨#[100,99,61,120]⟩,.slice (some ⟨w.heap.size+1,0,none⟩) 1 1] 52)) 0 [] [] [] []) q;have y:=hZ9 (fun rv W (hb:Below (((w.alloc (.cells #[.string ⟨#[120]⟩] 9)).alloc (.cells #[.string ⟨#[100,99]⟩,.slice (some ⟨w.heap.size,0,none⟩) 1 1] 56)).alloc (.cells #[.string ⟨#[100,99,61,120]⟩,.slice (some ⟨w.heap.size+1,0,none⟩) 1 1] 52)).heap.size (((w.alloc (.cells #[.string ⟨#[120]⟩] 9)).alloc (.cells #[.string ⟨#[100,99]⟩,.slice (some ⟨w.heap.size,0,none⟩) 1 1] 56)).alloc (.cells #[.string ⟨#[100,99,61,120]⟩,.slice (some ⟨w.heap.size+1,0,none⟩) 1 1] 52)) W) hq=>YC _ (.slice (some ⟨w.heap.size+1+1,0,none⟩) 1 1) awL 1 awQ rv W d hb Jj.1 (by decide) Jj.2.1 Jj.2.2.1 Jj.2.2.2.1 Jj.2.2.2.2 ((hE.below b).below hb) hq q ⟨by decide,fun s E=>by cases E⟩ (by decide));have v:=hZ9 (fun c ys h=>@ZZ c ys h);clear d;generalize r:awL=AL at*;clear r;unfold awF at l;go_enter func7,ntmps7;go_wp2_with fail;refine l.mono ?_;rintro e w4 ⟨v4,rfl,k,g⟩;obtain ⟨f5,h5,f6,h6,m,_,_⟩:=FiV.parts k.ins;replace m:v4=.agg #[.int .i64 0,.string ⟨#[]⟩,.string ⟨#[]⟩,.string ⟨#[]⟩,.string ⟨#[]⟩,.slice f5 0 h5,.slice f6 0 h6]:=m;subst m;have o:=y.out (.agg #[.string ⟨#[]⟩,.int .i64 2,.int .i64 0,.int .i64 0,.string ⟨#[]⟩,.string ⟨#[]⟩,.string ⟨#[]⟩,.string ⟨#[]⟩,.slice f5 0 h5,.slice f6 0 h6,.slice none 0 0,.bool false,.int .i64 0]) w4 g ⟨f5,f6,none,h5,h6,0,rfl,k.ins,Ah.empty _⟩;have n:=b.trans (g.mono b.size);clear l y k g b;go_wp2_with fail;refine o.mono ?_;rintro e w5 ⟨c,v5,ys,rfl,p,f,u⟩;obtain ⟨rfl,A⟩:=v.out c ys p;obtain ⟨H,F,rfl,_⟩:=Ad.form f;have i:=n.trans (u.mono n.size);have z:=i.trans ((Af w5 (.cells #[.int .i64 0,.slice H 1 F] 32)).mono i.size);rw [A];clear o v p f A u n i;go_wp2_with fail;go_ret;exact ⟨by first | rfl | trivial,z⟩
end
section
open Go.RowKit
attribute [local go_sem ↓] Go.wp_at_zero Go.wp_at_succ
def Qu (w:World) (e:Ending) (w':World):Prop:=e=.returned (.bool true)/\∃m,w'=w.drewN m
theorem Aaa {P:Program} {f:FuncId} {args:Array Value} {w:World} {a n:Nat} {v:Value}
  (h:Calls P f args (w.drewN (a+n)) fun e w'=>e=.returned v/\∃m,w'=(w.drewN (a+n)).drewN m):
  Calls P f args (w.drewN (a+n)) fun e b=>e=.returned v/\∃m,b=w.drewN (a+m):=
 h.mono fun _ _ ⟨c,m,d⟩=>⟨c,n+m,by rw [d,World.drewN_drewN,cN]⟩
theorem Yn (l:List UInt8):(l !=l)=false:=by simp
theorem Xq (g v2:Value) (xs:List (List UInt8)) (w:World) (h1:Ah w g xs) (h2:Ah w v2 xs) (j:xs.length<=4611686018427387904):Calls prog 104 #[g,v2] w (Qu w):=by
 obtain ⟨a1,c1,rfl,d,a⟩:=Ad.at (h1.strsP (fun _=>True) (fun _ _=>trivial));obtain ⟨a2,c2,rfl,e,b⟩:=Ad.at (h2.strsP (fun _=>True) (fun _ _=>trivial));have H1:=hZ9 a;have l:=hZ9 b;clear a b h1 h2;generalize h:xs.length=n at d e j⊢;have o:=hZ9 h;clear h;go_enter func104,ntmps104;go_wp2_with fail;go_loopw [13] (fun i wr=>∃k m:Nat,k<=n/\i=.int .i64 k/\wr=w.drewN m) (fun i _=>n - (intOf i).toNat)
 case atStart=>exact ⟨0,0,aR _,rfl,rfl⟩
 case round=>
  obtain ⟨k,m,hk,rfl,rfl⟩:=hrel;by_cases f:k<n
  · have hx:k<xs.length:=by rw [o.out];exact f
    obtain ⟨g1,p,rfl,_,_,d1⟩:=H1.out k hx;obtain ⟨g2,o2,rfl,_,_,d2⟩:=l.out k hx;generalize xs[k]=s at d1 d2;unfold TZ Ac at d1 d2;simp only [cK] at d1 d2;have q:=Yn s;clear hx;go_wp2_with fail
    go_quiet (fail)
    go_wp2_with fail;go_roundw
    case rel=>exact ⟨k+1,_,by omega,by go_num,rfl⟩
    case measure=>simp [intOf];omega
  · have c:k=n:=by omega
    subst c;go_wp2_with fail;go_ret;exact ⟨rfl,_,rfl⟩
theorem Xr (s v2:Value) (xs:List EnS.At) (w:World) (h1:Cj w s xs) (h2:Cj w v2 xs) (t:xs.length<=1048576) (r:∀x ∈ xs,x.vals.length<=1048576):Calls prog 67 #[s,v2] w (Qu w):=by
 obtain ⟨a1,c1,rfl,l,b⟩:=Ad.at h1;obtain ⟨a2,c2,rfl,f,a⟩:=Ad.at h2;have H1:=hZ9 b;have u:=hZ9 a;have z:=hZ9 (fun k (h:k<xs.length)=>r xs[k] (aZ h));clear b a h1 h2 r;generalize q:xs.length=n at l f t⊢;have v:=hZ9 q;clear q;go_enter func67,ntmps67;go_wp2_with fail;go_loopw [13] (fun i wr=>∃k m:Nat,k<=n/\i=.int .i64 k/\wr=w.drewN m) (fun i _=>n - (intOf i).toNat)
 case atStart=>exact ⟨0,0,aR _,rfl,rfl⟩
 case round=>
  obtain ⟨k,m,hk,rfl,rfl⟩:=hrel;by_cases o:k<n
  · have hx:k<xs.length:=by rw [v.out];exact o
    obtain ⟨g1,B,rfl,_,_,g⟩:=H1.out k hx;obtain ⟨g2,o2,rfl,_,_,r2⟩:=u.out k hx;have d:=z.out k hx;generalize xs[k]=x at g r2 d;obtain ⟨d1,p1,F,y,p,u1⟩:=BH.parts g;obtain ⟨d2,p2,E,A,e,u2⟩:=BH.parts r2;obtain ⟨ty,vals⟩:=x;simp only at d1 d2 y A p e u1 u2 d;have C:=Yn ty;have c:=fun N=>Xq _ _ vals (w.drewN N) (Ah.call (Aj.strs u1) (below_drewN w N) (aA _)) (Ah.call (Aj.strs u2) (below_drewN w N) (aA _)) (by omega);unfold Qu at c;generalize vals.length=L at*;clear hx g r2 u1 u2;go_wp2_with fail
    go_quiet ((go_at_call 104;exact Aaa (c _)))
    go_wp2_with fail;go_roundw
    case rel=>exact ⟨k+1,_,by omega,by go_num,rfl⟩
    case measure=>simp [intOf];omega
  · have j:k=n:=by omega
    subst j;go_wp2_with fail;go_ret;exact ⟨rfl,_,rfl⟩
theorem AdI (name:List UInt8) (xs:List EnS.At) (u1 u2:Value) (w:World) (h1:Cj w u1 xs) (h2:Cj w u2 xs) (c:xs.length<=1048576) (b:∀x ∈ xs,x.vals.length<=1048576):
  Calls prog 35 #[.agg #[.string ⟨name.toArray⟩,u1],.agg #[.string ⟨name.toArray⟩,u2]] w (Nv w):=by
 have hb0:=Af w (.cells #[.string ⟨name.toArray⟩,u1] 52);have a:=Af (w.alloc (.cells #[.string ⟨name.toArray⟩,u1] 52)) (.cells #[.string ⟨name.toArray⟩,u2] 52);have hb:=Aa hb0 a;have hc:=Xr u1 u2 xs _ (Ax.call h1 hb) (Ax.call h2 hb) c b;unfold Qu at hc;have d:(name==name)=true:=by simp
 clear h1 h2 hb0 a;go_enter func35,ntmps35;go_wp2_with fail;refine hc.mono ?_;rintro e w1 ⟨rfl,m,rfl⟩;go_wp2_with fail;go_ret;exact ⟨rfl,Aa hb (below_drewN _ _)⟩
theorem Acp (A v2:Value) (xs:List EnS.En) (w:World) (h1:Cm w A xs) (h2:Cm w v2 xs) (B:xs.length<=1048576) (z:∀e ∈ xs,e.attrs.length<=1048576/\∀x ∈ e.attrs,x.vals.length<=1048576):Calls prog 12 #[A,v2] w (Nv w):=by
 obtain ⟨a1,c1,rfl,q,d⟩:=Ad.at h1;obtain ⟨a2,c2,rfl,j,c⟩:=Ad.at h2;have H1:=hZ9 d;have C:=hZ9 c;have H:=hZ9 (fun k (h:k<xs.length)=>z xs[k] (aZ h));clear d c h1 h2 z;generalize y:xs.length=n at q j B⊢;have F:=hZ9 y;clear y;go_enter func12,ntmps12;go_wp2_with fail;go_loopw [13] (fun i wr=>∃k:Nat,k<=n/\i=.int .i64 k/\Below w.heap.size w wr) (fun i _=>n - (intOf i).toNat)
 case atStart=>exact ⟨0,aR _,rfl,Below.refl _ _⟩
 case round=>
  obtain ⟨k,hk,rfl,hb⟩:=hrel;by_cases r:k<n
  · have hx:k<xs.length:=by rw [F.out];exact r
    obtain ⟨g1,v,rfl,l,_,z1⟩:=H1.out k hx;obtain ⟨g2,o2,rfl,o,_,z2⟩:=C.out k hx;have b:=H.out k hx;have m:=Df.call z1 l trivial hb;have r2:=Df.call z2 o trivial hb;clear z1 z2;generalize xs[k]=x at m r2 b;obtain ⟨d1,p1,G,s,t,u1⟩:=Df.parts m;obtain ⟨d2,p2,E,u,g,u2⟩:=Df.parts r2;obtain ⟨name,attrs⟩:=x;simp only at d1 d2 s u t g u1 u2 b;have f:=AdI name attrs _ _ wr.drew (Ax.call u1 (below_drewN wr 1)) (Ax.call u2 (below_drewN wr 1)) b.1 b.2;unfold Nv at f;generalize attrs.length=L at*;clear hx m r2 u1 u2;go_wp2_with fail
    go_region_held3 (fun W=>W.cell? ⟨g1,v+k*2,none⟩=some (.string ⟨name.toArray⟩)/\W.cell? ⟨g1,v+k*2+1,none⟩=some (.slice p1 L G)/\W.cell? ⟨g2,o2+k*2,none⟩=some (.string ⟨name.toArray⟩)/\W.cell? ⟨g2,o2+k*2+1,none⟩=some (.slice p2 L E))
     (first | exact ⟨d1,s,d2,u⟩ | exact ⟨Ab (w:=wr.drew) d1 a,Ab (w:=wr.drew) s a,Ab (w:=wr.drew) d2 a,Ab (w:=wr.drew) u a⟩ | go_keep)
     (first | (go_at_call 35;(with_reducible refine f.mono ?_);rintro e w1 ⟨rfl,a⟩))
    go_wp2_with fail;go_roundw
    case rel=>exact ⟨k+1,by omega,by go_num,hb.trans (((below_drewN wr 1).trans a).mono hb.size)⟩
    case measure=>simp [intOf];omega
  · have p:k=n:=by omega
    subst p;go_wp2_with fail;go_ret;exact ⟨rfl,hb⟩
end
section
open Go.RowKit
theorem MZ {w:World} {B:Nat} {v:Value} {n:Nat} {xs:List Value} {T d:TypeId} (ty:TypeId) (e:prog.underlying d=some (.slice T)) {i0:TypeInfo} (f:prog.info? T=some i0) (a:w.ownsRow B T 2 v n xs) (c:Nat):(Builtin.append_ #[d,d] ty #[v,.slice none 0 c]).run prog w=.ok v w:=by
 have hu:=run_underlying e;rcases a.2 with ⟨rfl,rfl⟩ | ⟨g,cap,cur,rfl,_,_,b,_⟩
 · simp [Builtin.append_,hu,sizeOf,typeInfo,f,Builtin.lenOf,Builtin.firstCells]
 · simp [Builtin.append_,hu,sizeOf,typeInfo,f,Builtin.lenOf,Builtin.firstCells,b,storeCells]
theorem Ao.grows {α:Type} {L:KLay α} {T:TypeId} {Ts:List TypeId} {C B:Nat} (hC:C<=B) (g:T ∉ Ts) {w w':World} {v f:Value} {xs ys:List α} {a vs:List Value} (h1:w.ownsRow B T 2 v xs.length (flatK L xs a)) (h2:a.length=xs.length)
  (h3:∀(i:Nat) (u:Value) (x:α),a[i]?=some u->xs[i]?=some x->L.El (okT Ts C w) w u x) (l:vs.length=ys.length) (k:∀(i:Nat) (u:Value) (x:α),vs[i]?=some u->ys[i]?=some x->L.El (okT Ts C w) w u x)
  (h4:w'.ownsRow B T 2 f (xs.length+ys.length) (flatK L xs a++flatK L ys vs)) (j:w.grownBy w' v.ownBlock):Ao L T Ts C w' B f (xs++ys):=by
 have d:∀(xs:List α) (a:List Value),a.length=xs.length->flatK L (xs++ys) (a++vs)=flatK L xs a++flatK L ys vs:=by
  intro xs
  induction xs with
  | nil=>intro a h;cases a with
   | nil=>rfl
   | cons _ _=>simp at h
  | cons x xs m=>intro a h;cases a with
   | nil=>simp at h
   | cons z a=>simp [flatK,m a (by simpa using h)]
 refine ⟨a++vs,by rw [aT,d xs a h2];exact h4,by simp [h2,l],fun i z y b c=>?_⟩;by_cases e:i<a.length
 · rw [bF e] at b;rw [bF (by omega)] at c;exact Eu hC g h1 j (h3 i z y b c)
 · rw [bC (by omega)] at b;rw [bC (by omega),<-h2] at c;exact Eu hC g h1 j (k _ z y b c)
theorem Re {α:Type} (L:KLay α) {w:World} {ops:Array Oper} {rest:List Oper} {o:Oper} {a:Act} {Q:Exit->Act->World->Prop} (T H:TypeId) (Ts:List TypeId) (M:T ∉ Ts) (l:prog.underlying H=some (.slice T)) {i0:TypeInfo} {z:Value}
  (E:prog.info? T=some i0) (J:i0.zero=some z) (d:i0.size=2) (t:i0.bytes=40) (p:z.cells.size=2) (f:o.guard=none) (s x:Operand)
  (G:o.op=.call { callee:=.builtin .append,args:=#[s,x],argTypes:=#[H,H] })
  (B:Nat) {C:Nat} (hC:C<=B) (v:Value) (xs:List α) (I:a.eval s=v) (y:Ao L T Ts C w B v xs) (u:Value) (ys:List α) (hx:a.eval x=u)
  (F:Ad 2 (fun w g o x=>w.cell? ⟨g,o,none⟩=some (Ac (L.key x))/\∃u,w.cell? ⟨g,o+1,none⟩=some u/\L.El (okT Ts C w) w u x) (fun _=>True) w u ys) (U:xs.length+ys.length<=1000000000) (hB:B<=w.heap.size)
  (h:∀m w',Ao L T Ts C w' B m (xs++ys)->Below B w w'->w.grownBy w' v.ownBlock->wpList prog ops Q rest (a.put o.dst m) w'):wpList prog ops Q (o :: rest) a w:=by
 obtain ⟨A,c,rfl,hc,b⟩:=F;obtain ⟨P,h1,h2,h3⟩:=y;cases A with
 | none=>
  rcases b with rfl | ⟨g,o,e,_⟩
  · refine wpList_plain f fun K R=>?_;have q:=MZ o.type l E h1 c;unfold Oper.wp;simp [execOp,G,resolve,invoke,builtin,I,hx,q,Result.andThen];exact R _ _ (h v w (by rw [bJ];exact ⟨P,h1,h2,h3⟩) (Below.refl B w) ⟨rfl,rfl,rfl,aA _,fun _ _ _=>rfl⟩)
  · cases e
 | some O=>
  rcases b with rfl | ⟨g,o2,e,V,_,hcell⟩
  · exact wpList_append_own w f s x _ G B T i0 z 2 40 l E J d t p (by decide) v xs.length _ I h1 O 0 c [] hx rfl
     (fun j u r=>by simp at r) (fun u hu=>by cases hu) (by unfold maxLen;omega) (by omega) hB
     (fun m w' h4 h5 _=>h m w' (Ao.grows (ys:=[]) (vs:=[]) hC M h1 h2 h3 rfl (fun i u x E=>by simp at E) h4 h5) ((Below.refl B w).grown h5 hB (fun k hk=>(World.ownsRow.lt h1 k hk).1)) h5)
  · cases e;obtain ⟨vs,N,k1,S⟩:=Oy L hcell;exact wpList_append_own w f s x _ G B T i0 z 2 40 l E J d t p (by decide) v xs.length _ I h1 ⟨g,o2,none⟩ ys.length c (flatK L ys vs) hx (GK L ys vs N)
     (fun j u r=>by
       have n:(⟨g,o2,none⟩:Addr).add j=⟨g,o2+j,none⟩:=by unfold Addr.add;split <;> simp_all
       rw [n];exact (k1 j u r).1)
     (fun u hu=>by
       obtain ⟨j,r,rfl⟩:=bf.1 hu;exact (k1 j _ (aJ r)).2) (by unfold maxLen;omega) (by omega) hB
     (fun m w' h4 h5 _=>h m w' (Ao.grows hC M h1 h2 h3 N S h4 h5) ((Below.refl B w).grown h5 hB (fun k hk=>(World.ownsRow.lt h1 k hk).1)) h5)
end
section
open Go.RowKit
abbrev Ky:Type:=List (List UInt8) × Bool
def kyK:KLay Ky:=⟨fun _=>[],fun ok w u x=>Aj ok w u x.1,fun h=>Aj.keep h,fun h=>by obtain ⟨a,c,rfl,_⟩:=Ad.form h;rfl⟩
def Dl:List Ky->List Value->List Value
 | x :: xs,u :: us=>u :: .bool x.2 :: Dl xs us
 | _,_=>[]
theorem Wb:∀(xs:List Ky) (a:List Value) (i:Nat) (x:Ky) (u:Value),xs[i]?=some x->a[i]?=some u->(Dl xs a)[i*2]?=some u/\(Dl xs a)[i*2+1]?=some (.bool x.2)
 | [],_,i,x,u,h,_=>by simp at h
 | _ :: _,[],i,x,u,_,h=>by simp at h
 | y :: xs,z :: a,0,x,u,h,k=>by simp only [aH,bn] at h k;subst h;subst k;exact ⟨rfl,rfl⟩
 | y :: xs,z :: a,i+1,x,u,h,k=>by
  have b:=Wb xs a i x u (by simpa using h) (by simpa using k);have e:(i+1)*2=i*2+1+1:=by omega
  rw [e];exact ⟨by simpa [Dl] using b.1,by simpa [Dl] using b.2⟩
theorem Na (ys:List Ky) (vs:List Value):∀(xs:List Ky) (a:List Value),a.length=xs.length->Dl (xs++ys) (a++vs)=Dl xs a++Dl ys vs
 | [],[],_=>rfl
 | [],_ :: _,h=>by simp at h
 | _ :: _,[],h=>by simp at h
 | x :: xs,z :: a,h=>by simp [Dl,Na ys vs xs a (by simpa using h)]
theorem Sz:∀(xs:List Ky) (a:List Value),a.length=xs.length->(Dl xs a).length=xs.length*2
 | [],[],_=>rfl
 | [],_ :: _,h=>by simp at h
 | _ :: _,[],h=>by simp at h
 | y :: xs,z :: a,h=>by have:=Sz xs a (by simpa using h);simp [Dl,this];omega
theorem SB:∀(xs:List Ky) (a:List Value) (j:Nat) (u:Value),(Dl xs a)[j]?=some u->(∃i x,j=i*2/\xs[i]?=some x/\a[i]?=some u)\/(∃i x z,j=i*2+1/\xs[i]?=some x/\a[i]?=some z/\u=.bool x.2)
 | [],_,j,u,h=>by simp [Dl] at h
 | _ :: _,[],j,u,h=>by simp [Dl] at h
 | y :: xs,z :: a,0,u,h=>.inl ⟨0,y,rfl,rfl,by simpa [Dl] using h⟩
 | y :: xs,z :: a,1,u,h=>.inr ⟨0,y,z,rfl,rfl,rfl,by simpa [Dl] using h.symm⟩
 | y :: xs,z :: a,j+2,u,h=>by
  rcases SB xs a j u (by simpa [Dl] using h) with ⟨i,x,e,h1,h2⟩ | ⟨i,x,v,e,h1,h2,h3⟩
  · exact .inl ⟨i+1,x,by omega,by simpa using h1,by simpa using h2⟩
  · exact .inr ⟨i+1,x,v,by omega,by simpa using h1,by simpa using h2,h3⟩
def DW (T:TypeId) (w:World) (C B:Nat) (v:Value) (xs:List Ky):Prop:=
 ∃a:List Value,w.ownsRow B T 2 v xs.length (Dl xs a)/\a.length=xs.length/\∀(i:Nat) (u:Value) (x:Ky),a[i]?=some u->xs[i]?=some x->Aj (okT [9] C w) w u x.1
theorem DW.empty (T:TypeId) (w:World) (C B:Nat):DW T w C B (.slice none 0 0) []:=⟨[],World.ownsRow_nil w B _ 2,rfl,fun i u x h=>by simp at h⟩
theorem DW.form {T:TypeId} {w:World} {C B:Nat} {v:Value} {xs:List Ky} (h:DW T w C B v xs):∃a c,v=.slice a xs.length c/\xs.length<=c:=by
 obtain ⟨d,h,_⟩:=h;rcases h.2 with ⟨rfl,b⟩ | ⟨g,cap,cur,rfl,_,_,b,_⟩
 · exact ⟨_,_,by rw [b],by omega⟩
 · exact ⟨_,_,rfl,b⟩
theorem DW.call {T:TypeId} {w w':World} {C B:Nat} {v:Value} {xs:List Ky} (h:DW T w C B v xs) (hb:Below w.heap.size w w'):DW T w' C B v xs:=by obtain ⟨e,h1,h2,h3⟩:=h;exact ⟨e,World.ownsRow.kept h1 (Ba hb) (by cases v.ownBlock <;> simp),h2,fun i u l a b=>Aj.keep (h3 i u l a b) hb.size (fun g d _=>hb.block g d) (fun g d c=>c.same (hb.block g d))⟩
theorem DW.mono {T:TypeId} {w:World} {C B a:Nat} {v:Value} {xs:List Ky} (h:DW T w C B v xs) (hB:a<=B):DW T w C a v xs:=by obtain ⟨b,h1,h2,h3⟩:=h;exact ⟨b,World.ownsRow.mono h1 hB,h2,h3⟩
def Wc (C:Nat) (w:World) (g o:Nat) (x:Ky):Prop:=(∃u,w.cell? ⟨g,o,none⟩=some u/\Aj (okT [9] C w) w u x.1)/\w.cell? ⟨g,o+1,none⟩=some (.bool x.2)
theorem DW.read {T:TypeId} {w:World} {C B:Nat} {v:Value} {xs:List Ky} (h:DW T w C B v xs):Ad 2 (Wc C) (fun _=>True) w v xs:=by
 obtain ⟨d,h1,h2,h3⟩:=h;rcases h1.2 with ⟨rfl,b⟩ | ⟨g,cap,cur,rfl,n,k,b,m,hsz,f⟩
 · exact ⟨none,0,by rw [b],by omega,.inl (aW b)⟩
 · refine ⟨some ⟨g,0,none⟩,cap,rfl,b,.inr ⟨g,0,rfl,(ah.1 k).1,trivial,fun j x c=>?_⟩⟩;have e:j<d.length:=by rw [h2];exact (aj.1 c).1
   have hu:=aJ e;obtain ⟨l,f1⟩:=Wb xs d j x _ c hu;have c0:=World.ownsRow.cells h1 (g:=g) rfl (j*2) _ l;have c1:=World.ownsRow.cells h1 (g:=g) rfl (j*2+1) _ f1;have a:∀i,(⟨g,0,none⟩:Addr).add i=⟨g,0+i,none⟩:=fun i=>by unfold Addr.add;split <;> simp_all
   rw [a] at c0 c1;exact ⟨⟨d[j],c0,h3 j _ x hu c⟩,c1⟩
theorem AdJ {C:Nat} {w:World} {xs:List Ky} {g o:Nat} (h:∀(j:Nat) (x:Ky),xs[j]?=some x->Wc C w g (o+j*2) x):
  ∃c:List Value,c.length=xs.length/\(∀j u,(Dl xs c)[j]?=some u->w.cell? ⟨g,o+j,none⟩=some u/\u.oneCell'=true)/\∀(i:Nat) (u:Value) (x:Ky),c[i]?=some u->xs[i]?=some x->Aj (okT [9] C w) w u x.1:=by
 have H:∀i:Fin xs.length,∃u,w.cell? ⟨g,o+i.1*2,none⟩=some u/\Aj (okT [9] C w) w u xs[i.1].1:=fun i=>(h i.1 _ (aJ i.2)).1;obtain ⟨f,d⟩:=fq H;have b:∀(i:Nat) (x:Ky) (u:Value),xs[i]?=some x->(List.ofFn f)[i]?=some u->∃a:i<xs.length,u=f ⟨i,a⟩/\x=xs[i]:=fun i x u hx hu=>by obtain ⟨a,e⟩:=aj.1 hx;refine ⟨a,?_,e.symm⟩;rw [gX] at hu;simp [a] at hu;exact hu.symm
 refine ⟨List.ofFn f,by simp,fun j u k=>?_,fun i u x hu hx=>?_⟩
 · rcases SB xs _ j u k with ⟨i,x,rfl,hx,hu⟩ | ⟨i,x,z,rfl,hx,l,rfl⟩
   · obtain ⟨a,rfl,rfl⟩:=b i x u hx hu;have:=d ⟨i,a⟩;exact ⟨this.1,kyK.one (x:=(xs[i],true).1) this.2⟩
   · exact ⟨by rw [<-cN];exact (h i x hx).2,rfl⟩
 · obtain ⟨a,rfl,rfl⟩:=b i x u hx hu;exact (d ⟨i,a⟩).2
theorem DW.grows {T:TypeId} {C B:Nat} (hC:C<=B) (f:T ∉ [9]) {w w':World} {v e:Value} {xs ys:List Ky} {a vs:List Value} (h1:w.ownsRow B T 2 v xs.length (Dl xs a)) (h2:a.length=xs.length)
  (h3:∀(i:Nat) (u:Value) (x:Ky),a[i]?=some u->xs[i]?=some x->Aj (okT [9] C w) w u x.1) (j:vs.length=ys.length) (h:∀(i:Nat) (u:Value) (x:Ky),vs[i]?=some u->ys[i]?=some x->Aj (okT [9] C w) w u x.1)
  (h4:w'.ownsRow B T 2 e (xs.length+ys.length) (Dl xs a++Dl ys vs)) (g:w.grownBy w' v.ownBlock):DW T w' C B e (xs++ys):=by
 refine ⟨a++vs,by rw [aT,Na ys vs xs a h2];exact h4,by simp [h2,j],fun i z y b c=>?_⟩;by_cases d:i<a.length
 · rw [bF d] at b;rw [bF (by omega)] at c;exact Eu (L:=kyK) hC f h1 g (h3 i z y b c)
 · rw [bC (by omega)] at b;rw [bC (by omega),<-h2] at c;exact Eu (L:=kyK) hC f h1 g (h _ z y b c)
theorem ND {w:World} {ops:Array Oper} {rest:List Oper} {o:Oper} {a:Act} {Q:Exit->Act->World->Prop} (T G:TypeId) (L:T ∉ [9]) (l:prog.underlying G=some (.slice T)) {i0:TypeInfo} {z:Value}
  (y:prog.info? T=some i0) (J:i0.zero=some z) (d:i0.size=2) (I:i0.bytes<=64) (p:z.cells.size=2) (f:o.guard=none) (s x:Operand)
  (F:o.op=.call { callee:=.builtin .append,args:=#[s,x],argTypes:=#[G,G] })
  (B:Nat) {C:Nat} (hC:C<=B) (v:Value) (xs:List Ky) (H:a.eval s=v) (t:DW T w C B v xs) (u:Value) (ys:List Ky) (hx:a.eval x=u)
  (E:Ad 2 (Wc C) (fun _=>True) w u ys) (R:xs.length+ys.length<=1000000000) (hB:B<=w.heap.size)
  (h:∀m w',DW T w' C B m (xs++ys)->Below B w w'->w.grownBy w' v.ownBlock->wpList prog ops Q rest (a.put o.dst m) w'):wpList prog ops Q (o :: rest) a w:=by
 obtain ⟨A,c,rfl,hc,b⟩:=E;obtain ⟨O,h1,h2,h3⟩:=t;have hbm:(xs.length+ys.length)*i0.bytes<=140737488355328:=aY (fy R I) (by decide);cases A with
 | none=>
  rcases b with rfl | ⟨g,o,e,_⟩
  · refine wpList_plain f fun K P=>?_;have q:=MZ o.type l y h1 c;unfold Oper.wp;simp [execOp,F,resolve,invoke,builtin,H,hx,q,Result.andThen];exact P _ _ (h v w (by rw [bJ];exact ⟨O,h1,h2,h3⟩) (Below.refl B w) ⟨rfl,rfl,rfl,aA _,fun _ _ _=>rfl⟩)
  · cases e
 | some N=>
  rcases b with rfl | ⟨g,o2,e,U,_,hcell⟩
  · exact wpList_append_own w f s x _ F B T i0 z 2 i0.bytes l y J d rfl p (by decide) v xs.length _ H h1 N 0 c [] hx rfl
     (fun j u r=>by simp at r) (fun u hu=>by cases hu) (by unfold maxLen;omega) hbm hB
     (fun m w' h4 h5 _=>h m w' (DW.grows (ys:=[]) (vs:=[]) hC L h1 h2 h3 rfl (fun i u x y=>by simp at y) h4 h5) ((Below.refl B w).grown h5 hB (fun k hk=>(World.ownsRow.lt h1 k hk).1)) h5)
  · cases e;obtain ⟨vs,M,k1,S⟩:=AdJ hcell;exact wpList_append_own w f s x _ F B T i0 z 2 i0.bytes l y J d rfl p (by decide) v xs.length _ H h1 ⟨g,o2,none⟩ ys.length c (Dl ys vs) hx (Sz ys vs M)
     (fun j u r=>by
       have n:(⟨g,o2,none⟩:Addr).add j=⟨g,o2+j,none⟩:=by unfold Addr.add;split <;> simp_all
       rw [n];exact (k1 j u r).1)
     (fun u hu=>by
       obtain ⟨j,r,rfl⟩:=bf.1 hu;exact (k1 j _ (aJ r)).2) (by unfold maxLen;omega) hbm hB
     (fun m w' h4 h5 _=>h m w' (DW.grows hC L h1 h2 h3 M S h4 h5) ((Below.refl B w).grown h5 hB (fun k hk=>(World.ownsRow.lt h1 k hk).1)) h5)
theorem AfY {C g:Nat} {w:World} {x:Ky} {u:Value} (b:g<w.heap.size) (h0:w.cell? ⟨g,0,none⟩=some u) (h1:w.cell? ⟨g,1,none⟩=some (.bool x.2)) (hx:Aj (okT [9] C w) w u x.1):Ad 2 (Wc C) (fun _=>True) w (.slice (some ⟨g,0,none⟩) 1 1) [x]:=by
 refine ⟨some ⟨g,0,none⟩,1,rfl,by simp,.inr ⟨g,0,rfl,b,trivial,fun j y a=>?_⟩⟩;cases j with
 | zero=>simp only [aH,bn] at a;subst a;exact ⟨⟨u,h0,hx⟩,h1⟩
 | succ j=>simp at a
theorem Ad.drop {α:Type} {k:Nat} {El:World->Nat->Nat->α->Prop} {ok:Nat->Prop} {w:World} {a:Option Addr} {n c:Nat} {xs:List α} (h:Ad k El ok w (.slice a n c) xs) {m:Nat} (q:m<=n):Ad k El ok w (.slice (Option.map (fun x=>x.add (m*k)) a) (n - m) (c - m)) (xs.drop m):=by
 obtain ⟨r,c1,e,hc,b⟩:=h;cases e;have i:(xs.drop m).length=xs.length - m:=bI;refine ⟨_,c - m,by rw [i],by rw [i];omega,?_⟩;rcases b with rfl | ⟨g,o,rfl,p,f,hcell⟩
 · exact .inl (by simp)
 · have d:(⟨g,o,none⟩:Addr).add (m*k)=⟨g,o+m*k,none⟩:=by unfold Addr.add;split <;> simp_all
   refine .inr ⟨g,o+m*k,by simp only [Option.map_some,d],p,f,fun j y l=>?_⟩;rw [eA] at l;have:=hcell (m+j) y l
   rwa [dI,<-cN] at this
end
section
open Go.RowKit
structure Ask where
 s:List UInt8
 n:List UInt8
 t:List UInt8
 right:Int
end
section
open Go.RowKit
theorem DT.lit (T:TypeId) (w:World) (r:PoS.Rl):DT (w.alloc (.cells (AdO r).toArray T)) (.slice (some ⟨w.heap.size,0,none⟩) 1 1) [r]:=by
 have a:=Whole.made w T (AdO r).toArray;refine ⟨some ⟨w.heap.size,0,none⟩,1,rfl,aA _,.inr ⟨w.heap.size,0,rfl,a.lt,fun j q b=>?_⟩⟩
 match j,b with
 | 0,b=>have:=aU b;subst this;exact ⟨a.cell 0,a.cell 1,a.cell 2,a.cell 3,a.cell 4⟩
 | j+1,b=>simp at b
def JF (_B:Nat) (w:World) (v:Value) (xs:List PoS.Rl) (W:World):Prop:=Below w.heap.size w W/\DT W v xs/\Env W
theorem JF.call {B:Nat} {w W a:World} {v:Value} {xs:List PoS.Rl} (h:JF B w v xs W) (hb:Below W.heap.size W a):JF B w v xs a:=
 ⟨h.1.trans (hb.mono h.1.size),h.2.1.call hb (aA _),h.2.2.below hb⟩
theorem JF.below {B:Nat} {w W:World} {v:Value} {xs:List PoS.Rl} (h:JF B w v xs W):Below w.heap.size w W:=h.1
theorem JF.drew {B:Nat} {w W:World} {v:Value} {xs:List PoS.Rl} (h:JF B w v xs W):JF B w v xs W.drew:=⟨h.1.drew,h.2.1,h.2.2.drew⟩
end
section
open Go.ChangeShapes Go.WideShapes Go.ChangeAt Go.RowKit Go.Deep
section
variable {H:Type} {enc:TypeId × Value->H}
theorem Xt {w:World} {r:Reach} {f:Nat} {t e:TypeId} {v:Value} (b:prog.underlying t=some (.slice e)) (h:Value.okWide prog w r f t v):
  v=.slice none 0 0\/∃g o n c,v=.slice (some ⟨g,o,none⟩) n c:=by
 simp only [Value.okWide,b,Cell.okWide] at h;cases v with
 | slice a n c=>
  cases a with
  | none=>
   match n,c,h with
   | 0,0,_=>exact .inl rfl
   | n+1,c,h=>simp [Cell.ok,b] at h
   | 0,c+1,h=>simp [Cell.ok,b] at h
  | some a=>simp only [Cell.ok,b] at h;have d:=h.2.2.2.1;obtain ⟨g,o,s⟩:=a;simp only at d;subst d;exact .inr ⟨g,o,n,c,rfl⟩
 | _=>simp [Cell.ok,b] at h
end
end
end Go.Proofs.YtgngjfjaelgaeaaGreatDoor
