/- The walks of the laws ResolveSteps, ResolveFinds, ResolveEnds, and of their helpers. Conditions: as stated. -/
import Derived.Test.YtgngjfjaelgaeaaGreatDoorZReu
import Derived.Test.YtgngjfjaelgaeaaGreatDoorZFit
set_option maxRecDepth 100000
set_option maxHeartbeats 16000000
namespace Go.Proofs.YtgngjfjaelgaeaaGreatDoor
open Go.Proofs.Tryz
variable {cs:Array Value} {g n:Nat} {ok:Nat->Prop} {T:TypeId} {w:World}
section
open Go.RowKit
theorem AdL(b:Whole w g T cs)(a:ok g){xs:List iK}(c:xs.length=n)(h:∀(j:Nat) (x:iK),xs[j]?=some x->cs[j]?=some (Ac x)):
  Am ok w (.slice (some ⟨g,0,none⟩) n n) xs:=by
 subst c;refine⟨_,_,rfl,aA _,.inr ⟨g,0,rfl,b.lt,a,λj x d=>?_⟩⟩;show w.cell? ⟨g,0+j*1,none⟩=_
 rw[bv,bp,b.cell];exact h j x d
theorem AbF(a:Whole w g T cs)(b:ok g){xs:List EnS.At}(c:xs.length=n)
  (h:∀(j:Nat) (x:EnS.At),xs[j]?=some x->cs[j*2]?=some (Ac x.typ)/\∃u,cs[j*2+1]?=some u/\Am ok w u x.vals):Aw ok w (.slice (some ⟨g,0,none⟩) n n) xs:=by
 subst c;refine⟨_,_,rfl,aA _,.inr ⟨g,0,rfl,a.lt,b,λj x d=>?_⟩⟩;obtain⟨h1,u,h2,h3⟩:=h j x d;rw[bv];exact⟨(a.cell _).trans h1,u,(a.cell _).trans h2,h3⟩
theorem Afr(a:Whole w g T cs)(b:ok g){xs:List EnS.En}(c:xs.length=n)
  (h:∀(j:Nat) (x:EnS.En),xs[j]?=some x->cs[j*2]?=some (Ac x.name)/\∃u,cs[j*2+1]?=some u/\Aw ok w u x.attrs):CE ok w (.slice (some ⟨g,0,none⟩) n n) xs:=by
 subst c;refine⟨_,_,rfl,aA _,.inr ⟨g,0,rfl,a.lt,b,λj x d=>?_⟩⟩;obtain⟨h1,u,h2,h3⟩:=h j x d;rw[bv];exact⟨(a.cell _).trans h1,u,(a.cell _).trans h2,h3⟩
theorem Lq(w:World)(o:Obj):(w.alloc o).heap.size=w.heap.size+1:=by
 show (w.heap.push _).size=_
 simp
def AeZ(xs:List EnS.En):Prop:=∀x∈xs,DnS.Ax x.name=(x.name,0)/\x.name≠[]
theorem Vt{xs:List EnS.En}(h:EnS.Av EnS.cE xs<=3000):Eo xs:=by refine⟨aX (Lj xs) (by omega),λx hx=>?_⟩;have h1:=EnS.JL (f:=EnS.cE) hx;have h2:EnS.cE x=1+x.name.length / 100+EnS.Av EnS.cA x.attrs:=rfl;refine⟨by omega,aX (Qd x.attrs) (by omega),λy a=>?_⟩;have h3:=EnS.JL (f:=EnS.cA) a;have h4:EnS.cA y=1+y.vals.length+EnS.Av EnS.cV y.vals:=rfl;refine⟨by omega,λv b=>?_⟩;have h5:=EnS.JL (f:=EnS.cV) b;have h6:EnS.cV v=v.length / 100:=rfl;omega
def Vu(xs:List EnS.En)(s:iK)(w:World)(e:Ending)(w':World):Prop:=∃b,e=.returned (.bool b)/\(b=true->Eo xs/\s.length<=3000/\AeZ xs)/\Below w.heap.size w w'
theorem Afs(v:Value)(xs:List EnS.En)(s:iK)(w:World)(hE:Env w)(h:Ci w v xs)(P:EnS.Av EnS.cE xs<=1048576)(hs:s.length<=1048576):Calls prog 21 #[v,s] w (Vu xs s w):=by
 have r:=Afj v xs w h P;unfold UY at r;obtain⟨a,c,rfl,hc,z⟩:=Ad.at h;have F:=hZ9 z;have hl:=Lj xs;have Y:=hZ9 (λh=>Vt (xs:=xs) h);have u:Hid (∀k (hk:k<xs.length),(∀x∈xs.take k,DnS.Ax x.name=(x.name,0)/\x.name≠[])->(DnS.Ax xs[k].name=(xs[k].name,0)/\xs[k].name≠[])->∀x∈xs.take (k+1),DnS.Ax x.name=(x.name,0)/\x.name≠[]):=hZ9 (λk hk h1 h2 x hx=>by
  rw[aW hk] at hx;rcases bB.1 hx with hx|hx
  ·exact h1 x hx
  ·have:=aj.1 hx;subst this;exact h2)
 clear z h;have E:=hZ9 (λh x (hx:x∈xs)=>((Vt (xs:=xs) h).2 x hx).1);generalize K:xs.length=n at hc hl r⊢;have J:=hZ9 K;clear K;go_enter func21,ntmps21;go_wp2_with fail;refine r.mono ?_;rintro e w1 ⟨b,rfl,rfl,hb⟩;cases b with
 |false=>go_wp2_with fail;go_ret;exact⟨false,rfl,λh=>(by cases h),Below.refl _ _⟩
 |true=>
 have I:=hZ9 (hb rfl);clear hb r;by_cases h3:3000<s.length
 ·have U:(3000:Int)<(s.length:Int):=by omega
  go_wp2_with fail;go_ret;exact⟨false,rfl,λh=>(by cases h),Below.refl _ _⟩
 have U:decide ((3000:Int)<(s.length:Int))=false:=aB (by omega);have Q:Hid (s.length<=3000):=hZ9 (by omega);clear h3;go_wp2_with fail;go_loopw [18] (λi wr=>∃k:Nat,k<=n/\i=.int .i64 k/\Hid (∀x∈xs.take k,DnS.Ax x.name=(x.name,0)/\x.name≠[])/\Below w.heap.size w wr) (λi _=>n-(intOf i).toNat)
 case atStart=>exact⟨0,aR _,rfl,hZ9 (λx hx=>by cases hx),Below.refl _ _⟩
 case round=>
  obtain⟨k,hk,rfl,H,d⟩:=hrel;by_cases C:k<n
  ·have j:k<xs.length:=by rw[J.out];exact C
   obtain⟨g,o,rfl,O,_,hra⟩:=F.out k j;obtain⟨c0,a1,p1,c1,Z,p⟩:=Dk.parts (Dk.call hra O trivial d);have y:=E.out I.out xs[k] (aZ j);have t:=hZ9 (u.out k j H.out);clear hra u p;generalize xs[k]=x at*;clear j;obtain⟨name,attrs⟩:=x;simp only at c0 c1 y t;have l:=Lm name y wr (hE.below d);unfold Bo at l;generalize DnS.Ax name=NN at*;obtain⟨q,M⟩:=NN;simp only at l;by_cases G:M=0
   case neg=>
    have X:(M !=0)=true:=by simpa using G
    go_wp2_with fail;refine l.mono ?_;rintro e w2 ⟨rfl,f⟩;go_wp2_with fail;go_ret;exact⟨false,rfl,λh=>(by cases h),d.trans (f.mono d.size)⟩
   subst G;by_cases B:q=name
   case neg=>
    have N:(q !=name)=true:=by simpa using B
    have V:(q==name)=false:=by simpa using B
    go_wp2_with fail;refine l.mono ?_;rintro e w2 ⟨rfl,f⟩;have L:=Ab c0 f;go_wp2_with fail;go_ret;exact⟨false,rfl,λh=>(by cases h),d.trans (f.mono d.size)⟩
   subst B;by_cases m:q=[]
   ·subst m;go_wp2_with fail;refine l.mono ?_;rintro e w2 ⟨rfl,f⟩;have L:=Ab c0 f;go_wp2_with fail;go_ret;exact⟨false,rfl,λh=>(by cases h),d.trans (f.mono d.size)⟩
   ·have R:q.isEmpty=false:=by simpa using m
    have W:(q==[])=false:=by simpa using m
    have S:=hZ9 (t.out ⟨rfl,m⟩);clear m t;go_wp2_with fail;refine l.mono ?_;rintro e w2 ⟨rfl,f⟩;have L:=Ab c0 f;go_wp2_with fail;go_roundw
    case rel=>exact⟨k+1,by omega,by go_num,S,d.trans (f.mono d.size)⟩
    case measure=>simp[intOf];omega
  ·have A:Hid (AeZ xs):=hZ9 (by have:=H.out;rwa [af (by rw[J.out];omega)] at this);go_wp2_with fail;go_ret;exact⟨true,rfl,λ_=>⟨Y.out I.out,Q.out,A.out⟩,d⟩
end
section
open Go.RowKit
open FiS (Fi)
attribute [local go_sem ↓] Go.wp_at_zero Go.wp_at_succ
def FP(w:World)(g:Nat):Nat->List Value->World
 |_,[]=>w
 |i,v :: r=>FP (w.setCell ⟨g,i,none⟩ v) g (i+1) r
theorem EH(g k:Nat)(h:k≠g):∀(vs:List Value) (i:Nat) (w:World),(FP w g i vs).heap[k]?=w.heap[k]?/\(FP w g i vs).heap.size=w.heap.size
 |[],_,_=>⟨rfl,rfl⟩
 |v :: r,i,w=>by have a:=EH g k h r (i+1) (w.setCell ⟨g,i,none⟩ v);exact⟨a.1.trans (Below.heap_setCell w ⟨g,i,none⟩ v k h),a.2.trans (World.size_setCell ..)⟩
theorem Jq{B:Nat}{w0:World}{g:Nat}(a:B<=g):∀(vs:List Value) (i:Nat) (w:World),Below B w0 w->Below B w0 (FP w g i vs)
 |[],_,_,h=>h
 |v :: r,i,_,h=>Jq a r (i+1) _ (h.setCell (p:=⟨g,i,none⟩) a v)
theorem Jr{g:Nat}{T:TypeId}:∀(vs pre rest:List Value) (w:World),rest.length=vs.length->Whole w g T (pre++rest).toArray->Whole (FP w g pre.length vs) g T (pre++vs).toArray
 |[],pre,rest,_,hl,h=>by have:rest=[]:=aY hl;rw[this] at h;exact h
 |v :: vs,pre,[],_,hl,_=>by simp at hl
 |v :: vs,pre,r :: rest,w,hl,h=>by
  have h2:=h.put pre.length v;have e:((pre++r :: rest).toArray.setIfInBounds pre.length v)=((pre++[v])++rest).toArray:=by rw[aF];congr 1;rw[dm _ _ (aA _),eZ,aL,bL];rfl
  rw[e] at h2;have a:=Jr vs (pre++[v]) rest (w.setCell ⟨g,pre.length,none⟩ v) (by simpa using hl) h2;rw[aT,bL] at a;exact a
theorem ZP(n:Nat)(q:SeS.Rq)(v:Value)(w:World)(h:FI n w v q)(A5:FiS.wdF 20000 q.filter)(B8:q.attrs.length<=1048576):Calls prog 10 #[v] w λe w'=>∃v',e=.returned v'/\FI (n+1) w' v' q/\Below w.heap.size w w':=by
 unfold FI at h⊢;obtain⟨a5,a6,aa,c5,Q,ca,rfl,A6,B2⟩:=h;obtain⟨p,sc,dr,x,at_,o,sz⟩:=q;simp only at A6 B2 A5 B8⊢;have B4:=hZ9 (λW (hb:Below w.heap.size w W)=>Qo n x _ W (A6.call hb) A5);have B6:=hZ9 (λW (hb:Below w.heap.size w W)=>B2.call hb (aA _));clear A6 B2 A5;generalize B5:at_.length=QL at*;have J:=hZ9 B5;have B3:=Af w (.cells #[p,sc,dr,x.kind,x.attr,x.value,x.first,x.last,.slice a5 x.any.length c5,.slice a6 x.parts.length Q,.slice aa QL ca,o,sz] 28);have A7:=Af (w.alloc (.cells #[p,sc,dr,x.kind,x.attr,x.value,x.first,x.last,.slice a5 x.any.length c5,.slice a6 x.parts.length Q,.slice aa QL ca,o,sz] 28)) (.cells #[.string ⟨#[]⟩,.int .i64 0,.int .i64 0,.int .i64 0,.string ⟨#[]⟩,.string ⟨#[]⟩,.string ⟨#[]⟩,.string ⟨#[]⟩,.slice none 0 0,.slice none 0 0,.slice none 0 0,false,.int .i64 0] 38);have e1:(w.alloc (.cells #[p,sc,dr,x.kind,x.attr,x.value,x.first,x.last,.slice a5 x.any.length c5,.slice a6 x.parts.length Q,.slice aa QL ca,o,sz] 28)).heap.size=w.heap.size+1:=by simp
 have m:=B3.trans (A7.mono (by rw[e1];omega));have l:=(Whole.made w 28 #[p,sc,dr,x.kind,x.attr,x.value,x.first,x.last,.slice a5 x.any.length c5,.slice a6 x.parts.length Q,.slice aa QL ca,o,sz]).call A7;have A1:Whole ((w.alloc (.cells #[p,sc,dr,x.kind,x.attr,x.value,x.first,x.last,.slice a5 x.any.length c5,.slice a6 x.parts.length Q,.slice aa QL ca,o,sz] 28)).alloc (.cells #[.string ⟨#[]⟩,.int .i64 0,.int .i64 0,.int .i64 0,.string ⟨#[]⟩,.string ⟨#[]⟩,.string ⟨#[]⟩,.string ⟨#[]⟩,.slice none 0 0,.slice none 0 0,.slice none 0 0,false,.int .i64 0] 38)) (w.heap.size+1) 38 #[.string ⟨#[]⟩,.int .i64 0,.int .i64 0,.int .i64 0,.string ⟨#[]⟩,.string ⟨#[]⟩,.string ⟨#[]⟩,.string ⟨#[]⟩,.slice none 0 0,.slice none 0 0,.slice none 0 0,false,.int .i64 0]:=by
  have:=Whole.made (w.alloc (.cells #[p,sc,dr,x.kind,x.attr,x.value,x.first,x.last,.slice a5 x.any.length c5,.slice a6 x.parts.length Q,.slice aa QL ca,o,sz] 28)) 38 #[.string ⟨#[]⟩,.int .i64 0,.int .i64 0,.int .i64 0,.string ⟨#[]⟩,.string ⟨#[]⟩,.string ⟨#[]⟩,.string ⟨#[]⟩,.slice none 0 0,.slice none 0 0,.slice none 0 0,false,.int .i64 0]
  rwa [e1] at this
 have C0:=A1.lt;clear B3 A7 e1 B5;go_enter func10,ntmps10;go_upto_region 1 with fail;generalize (w.alloc (.cells #[p,sc,dr,x.kind,x.attr,x.value,x.first,x.last,.slice a5 x.any.length c5,.slice a6 x.parts.length Q,.slice aa QL ca,o,sz] 28)).alloc (.cells #[.string ⟨#[]⟩,.int .i64 0,.int .i64 0,.int .i64 0,.string ⟨#[]⟩,.string ⟨#[]⟩,.string ⟨#[]⟩,.string ⟨#[]⟩,.slice none 0 0,.slice none 0 0,.slice none 0 0,false,.int .i64 0] 38)=w1 at*;have X:=l.cell 0;have q1:=l.cell 1;have U:=l.cell 2;have q3:=l.cell 3;have S:=l.cell 4;have Y:=l.cell 5;have V:=l.cell 6;have R:=l.cell 7;have q8:=l.cell 8;have Z:=l.cell 9;have C:=l.cell 10;have F:=l.cell 11;have A:=l.cell 12;simp only[aO,aH,aP] at X q1 U q3 S Y V R q8 Z C F A;have a:Below w1.heap.size w1 w1.drew:=below_drewN w1 1;refine Gi 18 (λW=>W.cell? ⟨w.heap.size,0,none⟩=some (.string ⟨p.toArray⟩)/\W.cell? ⟨w.heap.size,1,none⟩=some (.int .i64 sc)/\W.cell? ⟨w.heap.size,2,none⟩=some (.int .i64 dr)/\W.cell? ⟨w.heap.size,3,none⟩=some (.int .i64 x.kind)/\W.cell? ⟨w.heap.size,4,none⟩=some (.string ⟨x.attr.toArray⟩)/\W.cell? ⟨w.heap.size,5,none⟩=some (.string ⟨x.value.toArray⟩)/\W.cell? ⟨w.heap.size,6,none⟩=some (.string ⟨x.first.toArray⟩)/\W.cell? ⟨w.heap.size,7,none⟩=some (.string ⟨x.last.toArray⟩)/\W.cell? ⟨w.heap.size,8,none⟩=some (.slice a5 x.any.length c5)/\W.cell? ⟨w.heap.size,9,none⟩=some (.slice a6 x.parts.length Q)/\W.cell? ⟨w.heap.size,10,none⟩=some (.slice aa QL ca)/\W.cell? ⟨w.heap.size,11,none⟩=some (.bool o)/\W.cell? ⟨w.heap.size,12,none⟩=some (.int .i64 sz)) (by kernel_rfl) (by kernel_rfl) ⟨X,q1,U,q3,S,Y,V,R,q8,Z,C,F,A⟩ (λc=>?_);refine Ai 0 ?_ (by simp only[aN,aS];decide) (by kernel_rfl) (λ_ _ _ h=>h) (by rfl) ?_ c ?_
 rotate_left
 ·intro W i;(try simp only[aC]);(try go_split_ands);go_simp;(try with_reducible rfl)
 (try simp only[aC,Act.put,aF,aL,aQ])
 refine Ai 1 ?_ (by simp only[aN,aS];decide) (by kernel_rfl) (λ_ _ _ h=>h) (by rfl) ?_ c ?_
 rotate_left
 ·intro W i;(try simp only[aD,aC]);(try go_split_ands);go_simp;(try with_reducible rfl)
 (try simp only[aD,aC,Act.put,aF,aL,aQ])
 refine Ai 2 ?_ (by simp only[aN,aS];decide) (by kernel_rfl) (λ_ _ _ h=>h) (by rfl) ?_ c ?_
 rotate_left
 ·intro W i;(try simp only[aD,aC]);(try go_split_ands);go_simp;(try with_reducible rfl)
 (try simp only[aD,aC,Act.put,aF,aL,aQ])
 refine Ai 3 ?_ (by simp only[aN,aS];decide) (by kernel_rfl) (λ_ _ _ h=>h) (by rfl) ?_ c ?_
 rotate_left
 ·intro W i;(try simp only[aD,aC]);(try go_split_ands);go_simp;(try with_reducible rfl)
 (try simp only[aD,aC,Act.put,aF,aL,aQ])
 refine Ai 4 ?_ (by simp only[aN,aS];decide) (by kernel_rfl) (λ_ _ _ h=>h) (by rfl) ?_ c ?_
 rotate_left
 ·intro W i;(try simp only[aD,aC]);(try go_split_ands);go_simp;(try with_reducible rfl)
 (try simp only[aD,aC,Act.put,aF,aL,aQ])
 refine Ai 5 ?_ (by simp only[aN,aS];decide) (by kernel_rfl) (λ_ _ _ h=>h) (by rfl) ?_ c ?_
 rotate_left
 ·intro W i;(try simp only[aD,aC]);(try go_split_ands);go_simp;(try with_reducible rfl)
 (try simp only[aD,aC,Act.put,aF,aL,aQ])
 refine Ai 6 ?_ (by simp only[aN,aS];decide) (by kernel_rfl) (λ_ _ _ h=>h) (by rfl) ?_ c ?_
 rotate_left
 ·intro W i;(try simp only[aD,aC]);(try go_split_ands);go_simp;(try with_reducible rfl)
 (try simp only[aD,aC,Act.put,aF,aL,aQ])
 refine Ai 7 ?_ (by simp only[aN,aS];decide) (by kernel_rfl) (λ_ _ _ h=>h) (by rfl) ?_ c ?_
 rotate_left
 ·intro W i;(try simp only[aD,aC]);(try go_split_ands);go_simp;(try with_reducible rfl)
 (try simp only[aD,aC,Act.put,aF,aL,aQ])
 refine Ai 10 ?_ (by simp only[aN,aS];decide) (by kernel_rfl) (λ_ _ _ h=>h) (by rfl) ?_ c ?_
 rotate_left
 ·intro W i;(try simp only[aD,aC]);(try go_split_ands);go_simp;(try with_reducible rfl)
 (try simp only[aD,aC,Act.put,aF,aL,aQ])
 refine Ai 11 ?_ (by simp only[aN,aS];decide) (by kernel_rfl) (λ_ _ _ h=>h) (by rfl) ?_ c ?_
 rotate_left
 ·intro W i;(try simp only[aD,aC]);(try go_split_ands);go_simp;(try with_reducible rfl)
 (try simp only[aD,aC,Act.put,aF,aL,aQ])
 refine Ai 13 ?_ (by simp only[aN,aS];decide) (by kernel_rfl) (λ_ _ _ h=>h) (by rfl) ?_ c ?_
 rotate_left
 ·intro W i;(try simp only[aD,aC]);(try go_split_ands);go_simp;(try with_reducible rfl)
 (try simp only[aD,aC,Act.put,aF,aL,aQ])
 refine Ai 14 ?_ (by simp only[aN,aS];decide) (by kernel_rfl) (λ_ _ _ h=>h) (by rfl) ?_ c ?_
 rotate_left
 ·intro W i;(try simp only[aD,aC]);(try go_split_ands);go_simp;(try with_reducible rfl)
 (try simp only[aD,aC,Act.put,aF,aL,aQ])
 refine Ai 15 ?_ (by simp only[aN,aS];decide) (by kernel_rfl) (λ_ _ _ h=>h) (by rfl) ?_ c ?_
 rotate_left
 ·intro W i;(try simp only[aD,aC]);(try go_split_ands);go_simp;(try with_reducible rfl)
 (try simp only[aD,aC,Act.put,aF,aL,aQ])
 refine Ai 16 ?_ (by simp only[aN,aS];decide) (by kernel_rfl) (λ_ _ _ h=>h) (by rfl) ?_ c ?_
 rotate_left
 ·intro W i;(try simp only[aD,aC]);(try go_split_ands);go_simp;(try with_reducible rfl)
 (try simp only[aD,aC,Act.put,aF,aL,aQ])
 refine Pn 8 9 (by simp only[aN,aS];decide) (by simp only[aN,aS];decide) (by kernel_rfl) (λK E=>?_) (λK E=>?_)
 ·(try simp only[aD,aC])
  refine Bz (by rfl) ?_;go_simp
  (go_at_call 20;(with_reducible refine(B4.out _ (m.trans (a.mono m.size))).mono ?_);rintro e w3 ⟨v3,rfl,L,P⟩)
  replace a:=a.trans (P.mono a.size);obtain⟨f5,h5,f6,h6,A3,_,_⟩:=FiV.parts L.ins;subst A3;refine E.out _ _ ?_ (λc=>?_)
  ·exact⟨Ab X a,Ab q1 a,Ab U a,Ab q3 a,Ab S a,Ab Y a,Ab V a,Ab R a,Ab q8 a,Ab Z a,Ab C a,Ab F a,Ab A a⟩
  clear E K
  (try simp only[Act.put,aF,aL,aQ])
  refine BB 9 (by simp only[aN,aS];decide) (by kernel_rfl) (λK E=>?_)
  (try simp only[aD,aC])
  refine Bz (by rfl) ?_;go_simp;have r:Own (w3.alloc (.cells #[] 9)) w1.heap.size (.slice (some ⟨w3.heap.size,0,none⟩) 0 0) []:=(Own.made0 w3).mono a.size;have A2:FiV (n+1) (λg=>w1.heap.size<=g/\g≠w3.heap.size) (w3.alloc (.cells #[] 9)) _ x:=(L.keep (ok':=λg=>w1.heap.size<=g/\g≠w3.heap.size) (aA _) (λ_ _ _=>rfl) (λg C1 hg=>⟨hg,λe=>by omega⟩)).call (Af w3 _);replace a:=a.trans ((Af w3 (.cells #[] 9)).mono a.size);refine E.out _ _ ?_ (λc=>?_)
  ·exact⟨Ab X a,Ab q1 a,Ab U a,Ab q3 a,Ab S a,Ab Y a,Ab V a,Ab R a,Ab q8 a,Ab Z a,Ab C a,Ab F a,Ab A a⟩
  clear E K
  (try simp only[aD,aC,Act.put,aF,aL,aQ])
  refine BB 12 (by simp only[aN,aS];decide) (by kernel_rfl) (λK E=>?_)
  (try simp only[aD,aC])
  refine Bz (by rfl) ?_;have O:=B6.out _ (m.trans (a.mono m.size));have M:=a.size;refine Iz _ _ (by rfl) w1.heap.size _ [] (by rfl) r _ at_ (by rfl) O (by rw[J.out];simp;omega) M ?_;intro v4 w4 f A0 s;replace f:=Own.nilOf f;have N:=A2.keep (ok':=λg=>w1.heap.size<=g) s.size (λg _ j=>s.block g ‹_› (λe=>j.2 (aU e))) (λg _ j=>j.1);replace a:=a.trans A0;obtain⟨y,u,rfl⟩:=Own.form f;rw[J.out] at f
  try rw[J.out]
  clear r s;refine E.out _ _ ?_ (λc=>?_)
  ·exact⟨Ab X a,Ab q1 a,Ab U a,Ab q3 a,Ab S a,Ab Y a,Ab V a,Ab R a,Ab q8 a,Ab Z a,Ab C a,Ab F a,Ab A a⟩
  clear E K
  (try simp only[Act.put,aF,aL,aQ])
  refine Ai 17 ?_ (by simp only[aN,aS];decide) (by kernel_rfl) (λ_ _ _ h=>h) (by rfl) ?_ c ?_
  rotate_left
  ·intro W i;(try simp only[aD,aC]);(try go_split_ands);go_simp;(try with_reducible rfl)
  (try simp only[aD,aC,Act.put,aF,aL,aQ])
  refine EX (by kernel_rfl) ?_;simp only[bW,bI];clear c;have b:=A1.call a;have m0:=b.cell 0;have m1:=b.cell 1;have m2:=b.cell 2;have m3:=b.cell 3;have m4:=b.cell 4;have m5:=b.cell 5;have m6:=b.cell 6;have m7:=b.cell 7;have m8:=b.cell 8;have m9:=b.cell 9;have m10:=b.cell 10;have m11:=b.cell 11;have m12:=b.cell 12;have t0:=b.thaw 0;have t1:=b.thaw 1;have t2:=b.thaw 2;have t3:=b.thaw 3;have t4:=b.thaw 4;have t5:=b.thaw 5;have t6:=b.thaw 6;have t7:=b.thaw 7;have t8:=b.thaw 8;have t9:=b.thaw 9;have A8:=b.thaw 10;have A4:=b.thaw 11;have t12:=b.thaw 12;simp only[aO,aH,aP] at m0 m1 m2 m3 m4 m5 m6 m7 m8 m9 m10 m11 m12;have d:=Jr [.string ⟨p.toArray⟩,.int .i64 sc,.int .i64 dr,.int .i64 x.kind,.string ⟨x.attr.toArray⟩,.string ⟨x.value.toArray⟩,.string ⟨x.first.toArray⟩,.string ⟨x.last.toArray⟩,.slice f5 x.any.length h5,.slice f6 x.parts.length h6,.slice y QL u,.bool o,.int .i64 sz] [] [.string ⟨#[]⟩,.int .i64 0,.int .i64 0,.int .i64 0,.string ⟨#[]⟩,.string ⟨#[]⟩,.string ⟨#[]⟩,.string ⟨#[]⟩,.slice none 0 0,.slice none 0 0,.slice none 0 0,.bool false,.int .i64 0] w4 rfl b;have H:=Jq (B:=w.heap.size) (g:=w.heap.size+1) (by omega) [.string ⟨p.toArray⟩,.int .i64 sc,.int .i64 dr,.int .i64 x.kind,.string ⟨x.attr.toArray⟩,.string ⟨x.value.toArray⟩,.string ⟨x.first.toArray⟩,.string ⟨x.last.toArray⟩,.slice f5 x.any.length h5,.slice f6 x.parts.length h6,.slice y QL u,.bool o,.int .i64 sz] 0 w4 (m.trans (a.mono m.size));have G:=λk (hk:k≠w.heap.size+1)=>EH (w.heap.size+1) k hk [.string ⟨p.toArray⟩,.int .i64 sc,.int .i64 dr,.int .i64 x.kind,.string ⟨x.attr.toArray⟩,.string ⟨x.value.toArray⟩,.string ⟨x.first.toArray⟩,.string ⟨x.last.toArray⟩,.slice f5 x.any.length h5,.slice f6 x.parts.length h6,.slice y QL u,.bool o,.int .i64 sz] 0 w4;have I:=N.keep (ok':=λ_=>True) (w':=FP w4 (w.heap.size+1) 0 [.string ⟨p.toArray⟩,.int .i64 sc,.int .i64 dr,.int .i64 x.kind,.string ⟨x.attr.toArray⟩,.string ⟨x.value.toArray⟩,.string ⟨x.first.toArray⟩,.string ⟨x.last.toArray⟩,.slice f5 x.any.length h5,.slice f6 x.parts.length h6,.slice y QL u,.bool o,.int .i64 sz]) (cu (EH (w.heap.size+1) (w.heap.size+2) (by omega) [.string ⟨p.toArray⟩,.int .i64 sc,.int .i64 dr,.int .i64 x.kind,.string ⟨x.attr.toArray⟩,.string ⟨x.value.toArray⟩,.string ⟨x.first.toArray⟩,.string ⟨x.last.toArray⟩,.slice f5 x.any.length h5,.slice f6 x.parts.length h6,.slice y QL u,.bool o,.int .i64 sz] 0 w4).2.symm) (λg _ j=>(G g (by omega)).1) (λ_ _ _=>trivial);have z:=Am.keep (ok':=λ_=>True) (w':=FP w4 (w.heap.size+1) 0 [.string ⟨p.toArray⟩,.int .i64 sc,.int .i64 dr,.int .i64 x.kind,.string ⟨x.attr.toArray⟩,.string ⟨x.value.toArray⟩,.string ⟨x.first.toArray⟩,.string ⟨x.last.toArray⟩,.slice f5 x.any.length h5,.slice f6 x.parts.length h6,.slice y QL u,.bool o,.int .i64 sz]) (f.inRow (λg=>w1.heap.size<=g) (λg h1 _=>h1)) (cu (EH (w.heap.size+1) (w.heap.size+2) (by omega) [.string ⟨p.toArray⟩,.int .i64 sc,.int .i64 dr,.int .i64 x.kind,.string ⟨x.attr.toArray⟩,.string ⟨x.value.toArray⟩,.string ⟨x.first.toArray⟩,.string ⟨x.last.toArray⟩,.slice f5 x.any.length h5,.slice f6 x.parts.length h6,.slice y QL u,.bool o,.int .i64 sz] 0 w4).2.symm) (λg _ j=>(G g (by have j:w1.heap.size<=g:=j;omega)).1) (λ_ _ _=>trivial);have t:=z.strs;simp only[FP,aS,List.nil_append,bv,Nat.reduceAdd] at d H I t;clear G z N f;have y0:=d.cell 0;have y1:=d.cell 1;have y2:=d.cell 2;have y3:=d.cell 3;have y4:=d.cell 4;have y5:=d.cell 5;have y6:=d.cell 6;have y7:=d.cell 7;have y8:=d.cell 8;have y9:=d.cell 9;have A9:=d.cell 10;have B1:=d.cell 11;have B0:=d.cell 12;simp only[aO,aH,aP] at y0 y1 y2 y3 y4 y5 y6 y7 y8 y9 A9 B1 B0;go_wp2_with fail
  (try simp only[Exit.inBlock,Exit.then])
  refine bodyPost_ret (v:=.agg #[p,sc,dr,x.kind,x.attr,x.value,x.first,x.last,.slice f5 x.any.length h5,.slice f6 x.parts.length h6,.slice y QL u,o,sz]) ?_ rfl ⟨_,rfl,⟨f5,f6,y,h5,h6,u,rfl,I,t⟩,H⟩;clear d H I t m0 t0 m1 t1 m2 t2 m3 t3 m4 t4 m5 t5 m6 t6 m7 t7 m8 t8 m9 t9 m10 A8 m11 A4 m12 t12;generalize B7:(World.setCell _ ⟨w.heap.size+1,12,none⟩ (.int .i64 sz))=wf at*;rw[BO rfl];go_simp
 ·(try simp only[aD,aC])
  refine Bz (by rfl) ?_;go_simp;have r:Own (w1.alloc (.cells #[] 9)).drew w1.heap.size (.slice (some ⟨w1.heap.size,0,none⟩) 0 0) []:=Own.made0 w1;replace a:Below w1.heap.size w1 (w1.alloc (.cells #[] 9)).drew:=(Af w1 _).drew;refine E.out _ _ ?_ (λc=>?_)
  ·exact⟨Ab X a,Ab q1 a,Ab U a,Ab q3 a,Ab S a,Ab Y a,Ab V a,Ab R a,Ab q8 a,Ab Z a,Ab C a,Ab F a,Ab A a⟩
  clear E K
  (try simp only[aD,aC,Act.put,aF,aL,aQ])
  refine BB 8 (by simp only[aN,aS];decide) (by kernel_rfl) (λK E=>?_)
  (try simp only[aD,aC])
  refine Bz (by rfl) ?_;go_simp
  (go_at_call 20;(with_reducible refine(B4.out _ (m.trans (a.mono m.size))).mono ?_);rintro e w3 ⟨v3,rfl,L,P⟩)
  have A2:FiV (n+1) (λg=>w1.heap.size<=g/\g≠w1.heap.size) w3 v3 x:=L.keep (aA _) (λ_ _ _=>rfl) (λg _ hg=>(show w1.heap.size<=g/\g≠w1.heap.size from by
   have B9:(w1.alloc (.cells #[] 9)).heap.size<=g:=hg;have e1:(w1.alloc (.cells #[] 9)).heap.size=w1.heap.size+1:=by simp
   omega))
  replace r:=r.call P;replace a:=a.trans (P.mono a.size);obtain⟨f5,h5,f6,h6,A3,_,_⟩:=FiV.parts L.ins;subst A3;refine E.out _ _ ?_ (λc=>?_)
  ·exact⟨Ab X a,Ab q1 a,Ab U a,Ab q3 a,Ab S a,Ab Y a,Ab V a,Ab R a,Ab q8 a,Ab Z a,Ab C a,Ab F a,Ab A a⟩
  clear E K
  (try simp only[Act.put,aF,aL,aQ])
  refine BB 12 (by simp only[aN,aS];decide) (by kernel_rfl) (λK E=>?_)
  (try simp only[aD,aC])
  refine Bz (by rfl) ?_;have O:=B6.out _ (m.trans (a.mono m.size));have M:=a.size;refine Iz _ _ (by rfl) w1.heap.size _ [] (by rfl) r _ at_ (by rfl) O (by rw[J.out];simp;omega) M ?_;intro v4 w4 f A0 s;replace f:=Own.nilOf f;have N:=A2.keep (ok':=λg=>w1.heap.size<=g) s.size (λg _ j=>s.block g ‹_› (λe=>j.2 (aU e))) (λg _ j=>j.1);replace a:=a.trans A0;obtain⟨y,u,rfl⟩:=Own.form f;rw[J.out] at f
  try rw[J.out]
  clear r s;refine E.out _ _ ?_ (λc=>?_)
  ·exact⟨Ab X a,Ab q1 a,Ab U a,Ab q3 a,Ab S a,Ab Y a,Ab V a,Ab R a,Ab q8 a,Ab Z a,Ab C a,Ab F a,Ab A a⟩
  clear E K
  (try simp only[Act.put,aF,aL,aQ])
  refine Ai 17 ?_ (by simp only[aN,aS];decide) (by kernel_rfl) (λ_ _ _ h=>h) (by rfl) ?_ c ?_
  rotate_left
  ·intro W i;(try simp only[aD,aC]);(try go_split_ands);go_simp;(try with_reducible rfl)
  (try simp only[aD,aC,Act.put,aF,aL,aQ])
  refine EX (by kernel_rfl) ?_;simp only[bW,bI];clear c;have b:=A1.call a;have m0:=b.cell 0;have m1:=b.cell 1;have m2:=b.cell 2;have m3:=b.cell 3;have m4:=b.cell 4;have m5:=b.cell 5;have m6:=b.cell 6;have m7:=b.cell 7;have m8:=b.cell 8;have m9:=b.cell 9;have m10:=b.cell 10;have m11:=b.cell 11;have m12:=b.cell 12;have t0:=b.thaw 0;have t1:=b.thaw 1;have t2:=b.thaw 2;have t3:=b.thaw 3;have t4:=b.thaw 4;have t5:=b.thaw 5;have t6:=b.thaw 6;have t7:=b.thaw 7;have t8:=b.thaw 8;have t9:=b.thaw 9;have A8:=b.thaw 10;have A4:=b.thaw 11;have t12:=b.thaw 12;simp only[aO,aH,aP] at m0 m1 m2 m3 m4 m5 m6 m7 m8 m9 m10 m11 m12;have d:=Jr [.string ⟨p.toArray⟩,.int .i64 sc,.int .i64 dr,.int .i64 x.kind,.string ⟨x.attr.toArray⟩,.string ⟨x.value.toArray⟩,.string ⟨x.first.toArray⟩,.string ⟨x.last.toArray⟩,.slice f5 x.any.length h5,.slice f6 x.parts.length h6,.slice y QL u,.bool o,.int .i64 sz] [] [.string ⟨#[]⟩,.int .i64 0,.int .i64 0,.int .i64 0,.string ⟨#[]⟩,.string ⟨#[]⟩,.string ⟨#[]⟩,.string ⟨#[]⟩,.slice none 0 0,.slice none 0 0,.slice none 0 0,.bool false,.int .i64 0] w4 rfl b;have H:=Jq (B:=w.heap.size) (g:=w.heap.size+1) (by omega) [.string ⟨p.toArray⟩,.int .i64 sc,.int .i64 dr,.int .i64 x.kind,.string ⟨x.attr.toArray⟩,.string ⟨x.value.toArray⟩,.string ⟨x.first.toArray⟩,.string ⟨x.last.toArray⟩,.slice f5 x.any.length h5,.slice f6 x.parts.length h6,.slice y QL u,.bool o,.int .i64 sz] 0 w4 (m.trans (a.mono m.size));have G:=λk (hk:k≠w.heap.size+1)=>EH (w.heap.size+1) k hk [.string ⟨p.toArray⟩,.int .i64 sc,.int .i64 dr,.int .i64 x.kind,.string ⟨x.attr.toArray⟩,.string ⟨x.value.toArray⟩,.string ⟨x.first.toArray⟩,.string ⟨x.last.toArray⟩,.slice f5 x.any.length h5,.slice f6 x.parts.length h6,.slice y QL u,.bool o,.int .i64 sz] 0 w4;have I:=N.keep (ok':=λ_=>True) (w':=FP w4 (w.heap.size+1) 0 [.string ⟨p.toArray⟩,.int .i64 sc,.int .i64 dr,.int .i64 x.kind,.string ⟨x.attr.toArray⟩,.string ⟨x.value.toArray⟩,.string ⟨x.first.toArray⟩,.string ⟨x.last.toArray⟩,.slice f5 x.any.length h5,.slice f6 x.parts.length h6,.slice y QL u,.bool o,.int .i64 sz]) (cu (EH (w.heap.size+1) (w.heap.size+2) (by omega) [.string ⟨p.toArray⟩,.int .i64 sc,.int .i64 dr,.int .i64 x.kind,.string ⟨x.attr.toArray⟩,.string ⟨x.value.toArray⟩,.string ⟨x.first.toArray⟩,.string ⟨x.last.toArray⟩,.slice f5 x.any.length h5,.slice f6 x.parts.length h6,.slice y QL u,.bool o,.int .i64 sz] 0 w4).2.symm) (λg _ j=>(G g (by omega)).1) (λ_ _ _=>trivial);have z:=Am.keep (ok':=λ_=>True) (w':=FP w4 (w.heap.size+1) 0 [.string ⟨p.toArray⟩,.int .i64 sc,.int .i64 dr,.int .i64 x.kind,.string ⟨x.attr.toArray⟩,.string ⟨x.value.toArray⟩,.string ⟨x.first.toArray⟩,.string ⟨x.last.toArray⟩,.slice f5 x.any.length h5,.slice f6 x.parts.length h6,.slice y QL u,.bool o,.int .i64 sz]) (f.inRow (λg=>w1.heap.size<=g) (λg h1 _=>h1)) (cu (EH (w.heap.size+1) (w.heap.size+2) (by omega) [.string ⟨p.toArray⟩,.int .i64 sc,.int .i64 dr,.int .i64 x.kind,.string ⟨x.attr.toArray⟩,.string ⟨x.value.toArray⟩,.string ⟨x.first.toArray⟩,.string ⟨x.last.toArray⟩,.slice f5 x.any.length h5,.slice f6 x.parts.length h6,.slice y QL u,.bool o,.int .i64 sz] 0 w4).2.symm) (λg _ j=>(G g (by have j:w1.heap.size<=g:=j;omega)).1) (λ_ _ _=>trivial);have t:=z.strs;simp only[FP,aS,List.nil_append,bv,Nat.reduceAdd] at d H I t;clear G z N f;have y0:=d.cell 0;have y1:=d.cell 1;have y2:=d.cell 2;have y3:=d.cell 3;have y4:=d.cell 4;have y5:=d.cell 5;have y6:=d.cell 6;have y7:=d.cell 7;have y8:=d.cell 8;have y9:=d.cell 9;have A9:=d.cell 10;have B1:=d.cell 11;have B0:=d.cell 12;simp only[aO,aH,aP] at y0 y1 y2 y3 y4 y5 y6 y7 y8 y9 A9 B1 B0;go_wp2_with fail
  (try simp only[Exit.inBlock,Exit.then])
  refine bodyPost_ret (v:=.agg #[p,sc,dr,x.kind,x.attr,x.value,x.first,x.last,.slice f5 x.any.length h5,.slice f6 x.parts.length h6,.slice y QL u,o,sz]) ?_ rfl ⟨_,rfl,⟨f5,f6,y,h5,h6,u,rfl,I,t⟩,H⟩;clear d H I t m0 t0 m1 t1 m2 t2 m3 t3 m4 t4 m5 t5 m6 t6 m7 t7 m8 t8 m9 t9 m10 A8 m11 A4 m12 t12;generalize B7:(World.setCell _ ⟨w.heap.size+1,12,none⟩ (.int .i64 sz))=wf at*;rw[BO rfl];go_simp
theorem AbG(n:Nat)(q:SeS.Rq)(v:Value)(w:World)(h:FI n w v q):Calls prog 22 #[v] w λe w'=>∃b,e=.returned (.bool b)/\Hid (b=true->FiS.wdF 2000 q.filter/\q.attrs.length<=100/\q.base.length<=3000)/\Below w.heap.size w w':=by
 obtain⟨a5,I,H,c5,z,G,rfl,j,s⟩:=h;obtain⟨k,sc,dr,x,at_,B,sz⟩:=q;simp only at j s⊢;have p:=hZ9 (λW (hb:Below w.heap.size w W)=>Abz n x _ W (j.call hb));clear j s;generalize t:at_.length=l at*;clear t;have f:=Af w (.cells #[k,sc,dr,x.kind,x.attr,x.value,x.first,x.last,.slice a5 x.any.length c5,.slice I x.parts.length z,.slice H l G,B,sz] 28);have a:=Whole.made w 28 #[k,sc,dr,x.kind,x.attr,x.value,x.first,x.last,.slice a5 x.any.length c5,.slice I x.parts.length z,.slice H l G,B,sz];have r0:=a.cell 0;have C:=a.cell 1;have r2:=a.cell 2;have A:=a.cell 3;have E:=a.cell 4;have F:=a.cell 5;have J:=a.cell 6;have y:=a.cell 7;have r8:=a.cell 8;have r9:=a.cell 9;have d:=a.cell 10;have m:=a.cell 11;have o:=a.cell 12;simp only[aO,aH,aP] at r0 C r2 A E F J y r8 r9 d m o;have r:=p.out _ f;clear p a;go_enter func22,ntmps22;go_wp2_with fail;refine r.mono ?_;rintro e w1 ⟨b,rfl,u,i⟩;have c:=f.trans (i.mono f.size);have M:=Ab r0 i;have K:=Ab d i;clear r r0 C r2 A E F J y r8 r9 d m o;cases b with
 |false=>go_wp2_with fail;go_ret;exact⟨false,rfl,hZ9 (λh=>by cases h),c⟩
 |true=>
 have u:=hZ9 (u.out rfl);by_cases h1:l<=100
 case neg=>have d1:decide ((l:Int)<=100)=false:=aB (by omega);clear h1;go_wp2_with fail;go_ret;exact⟨false,rfl,hZ9 (λh=>by cases h),c⟩
 have d1:decide ((l:Int)<=100)=true:=aI (by omega);by_cases h2:k.length<=3000
 case neg=>have d2:decide ((k.length:Int)<=3000)=false:=aB (by omega);clear h1 h2;go_wp2_with fail;go_ret;exact⟨false,rfl,hZ9 (λh=>by cases h),c⟩
 have d2:decide ((k.length:Int)<=3000)=true:=aI (by omega);have L:=hZ9 (show FiS.wdF 2000 x/\l<=100/\k.length<=3000 from⟨u.out.1,h1,h2⟩);clear h1 h2;go_wp2_with fail;go_ret;exact⟨true,rfl,hZ9 (λ_=>L.out),c⟩
theorem AdM{l:List EnS.En}(h:∀k (hk:k<l.length),atI l (l[k]'hk).name=some k):SeS.CL l:=λa d b hb e=>by obtain⟨i,f,rfl⟩:=bc.1 d;obtain⟨j,c,rfl⟩:=bc.1 hb;have h1:=h i f;rw[e,h j c] at h1;have h2:=aU h1;subst h2;rfl
theorem AdN(v:Value)(l:List EnS.En)(w:World)(h:Ci w v l)(K:l.length<=1048576)(J:∀e∈l,e.name.length<=1000000)(hE:Env w):Calls prog 23 #[v] w λe w'=>∃b,e=.returned (.bool b)/\Hid (b=true->∀k (hk:k<l.length),atI l (l[k]'hk).name=some k)/\Below w.heap.size w w':=by
 have f:=hZ9 (λk (hk:k<l.length) W (hb:Below w.heap.size w W)=>Ahe v l (l[k]'hk).name W (hE.below hb) (CE.call h hb) K (J _ (aZ hk)));unfold GU at f;obtain⟨a,c,A,hc,x⟩:=Ad.at h;have t:=hZ9 x;clear x h J hE;obtain⟨L,H⟩:∃m,l.length=m:=⟨_,rfl⟩
 have I:=hZ9 H;rw[H] at hc K A;have P:=hZ9 A;rw[A];clear H A;go_enter func23,ntmps23;go_wp2_with fail;go_loopw [6] (λi wr=>∃k:Nat,k<=L/\i=.int .i64 k/\Hid (∀j (p:j<l.length),j<k->atI l (l[j]'p).name=some j)/\Below w.heap.size w wr) (λi _=>L-(intOf i).toNat)
 case atStart=>exact⟨0,aR _,rfl,hZ9 (λj _ h=>absurd h (bj _)),Below.refl _ _⟩
 case round=>
  obtain⟨k,hk,rfl,y,hb⟩:=hrel;by_cases E:k<L
  case neg=>have S:Hid (∀j (p:j<l.length),atI l (l[j]'p).name=some j):=hZ9 (λj p=>y.out j p (by have:=I.out;omega));clear f t y;go_wp2_with fail;go_ret;exact⟨true,rfl,hZ9 (λ_=>S.out),hb⟩
  have d:k<l.length:=by rw[I.out];exact E
  obtain⟨g,o,rfl,N,_,hra⟩:=t.out k d;obtain⟨c0,a2,p2,c1,Q,_⟩:=Dk.parts (Dk.call hra N trivial hb);have q:=f.out k d wr hb;rw[P.out] at q;have B:Hid (atI l (l[k]'d).name=some k->∀j (p:j<l.length),j<k+1->atI l (l[j]'p).name=some j):=hZ9 (λh j p F=>by
   rcases bV (bX F) with h2|rfl
   ·exact y.out j p h2
   ·exact h)
  clear f t y hra;generalize hR:atI l (l[k]'d).name=R at*;clear hR;generalize l[k]=z at*;obtain⟨name,M⟩:=z;simp only at c0 c1 q;have V:(0:Int)<=(k:Int):=by omega
  have U:(k:Int)<(L:Int):=by omega
  have s:Hid (Lh R=(k:Int)->R=some k):=hZ9 (λh=>by
   cases R with
   |none=>unfold Lh at h;simp only at h;omega
   |some r=>unfold Lh at h;simp only at h;rw[Int.ofNat_inj.1 h])
  generalize Lh R=X at*;go_wp2_with fail;refine q.mono ?_;rintro e w2 ⟨rfl,C⟩;have u:=hb.trans (C.mono hb.size);clear q c0 c1;by_cases hx:X=(k:Int)
  case neg=>
   have O:(X !=(k:Int))=true:=by simpa using hx
   clear B s hx;go_wp2_with fail;go_ret;exact⟨false,rfl,hZ9 (λh=>by cases h),u⟩
  have O:(X !=(k:Int))=false:=by simpa using hx
  have G:=hZ9 (B.out (s.out hx));clear B s hx;go_wp2_with fail;go_roundw
  case rel=>exact⟨k+1,by omega,by go_num,G,u⟩
  case measure=>simp[intOf];omega
def He(l:List EnS.En)(q:SeS.Rq):Prop:=Eo l/\SeS.BU l/\(∀e∈l,e.name≠[])/\SeS.CL l/\l.length<=60/\FiS.wdF 2000 q.filter/\q.attrs.length<=100/\q.base.length<=3000
theorem Aft(n:Nat)(u v:Value)(l:List EnS.En)(q:SeS.Rq)(w:World)(hE:Env w)(hu:Ci w u l)(J:EnS.Av EnS.cE l<=1048576)(h:FI n w v q)(hs:q.base.length<=1048576):Calls prog 8 #[u,v] w λe w'=>∃b,e=.returned (.bool b)/\Hid (b=true->He l q)/\Below w.heap.size w w':=by
 have E:=aX (Lj l) J;unfold He;have z:=hZ9 (λW (hb:Below w.heap.size w W)=>AbG n q v W (h.call hb));have C:=hZ9 (λW (hb:Below w.heap.size w W) hn=>AdN u l W (CE.call hu hb) E hn (hE.below hb));have j:=hZ9 (λW (hb:Below w.heap.size w W)=>Afs u l q.base W (hE.below hb) (CE.call hu hb) J hs);unfold Vu at j;obtain⟨ua,uc,I,_⟩:=Ad.form hu;obtain⟨H,s⟩:∃k,l.length=k:=⟨_,rfl⟩
 have A0:=hZ9 s;rw[s] at I E⊢;have HV:=hZ9 I;obtain⟨a5,a6,aa,c5,c6,ca,rfl,Y,Z⟩:=h;obtain⟨R,sc,dr,x,at_,tn,sz⟩:=q;simp only at z j⊢;clear Y Z hE J hs hu;generalize at_.length=QL at*;have r:=Af w (.cells #[R,sc,dr,x.kind,x.attr,x.value,x.first,x.last,.slice a5 x.any.length c5,.slice a6 x.parts.length c6,.slice aa QL ca,tn,sz] 28);have c:=Whole.made w 28 #[R,sc,dr,x.kind,x.attr,x.value,x.first,x.last,.slice a5 x.any.length c5,.slice a6 x.parts.length c6,.slice aa QL ca,tn,sz];have r0:=c.cell 0;have O:=c.cell 1;have r2:=c.cell 2;have N:=c.cell 3;have P:=c.cell 4;have Q:=c.cell 5;have r6:=c.cell 6;have K:=c.cell 7;have r8:=c.cell 8;have r9:=c.cell 9;have o:=c.cell 10;have p:=c.cell 11;have y:=c.cell 12;simp only[aO,aH,aP] at r0 O r2 N P Q r6 K r8 r9 o p y;have t:=j.out _ r;rw[I] at t⊢;clear j c I s;go_enter func8,ntmps8;go_wp2_with fail;refine t.mono ?_;rintro e w1 ⟨b,rfl,hb,a⟩;have f:=r.trans (a.mono r.size);cases b with
 |false=>go_wp2_with fail;go_ret;exact⟨false,rfl,hZ9 (λh=>by cases h),f⟩
 |true=>
 have M:=hZ9 (hb rfl);clear hb t;by_cases h1:H<=60
 case neg=>have d1:decide ((H:Int)<=60)=false:=aB (by omega);clear h1;go_wp2_with fail;go_ret;exact⟨false,rfl,hZ9 (λh=>by cases h),f⟩
 have d1:decide ((H:Int)<=60)=true:=aI (by omega);have k0:=Ab r0 a;have k1:=Ab O a;have k2:=Ab r2 a;have k3:=Ab N a;have k4:=Ab P a;have k5:=Ab Q a;have k6:=Ab r6 a;have k7:=Ab K a;have k8:=Ab r8 a;have k9:=Ab r9 a;have U:=Ab o a;have X:=Ab p a;have k12:=Ab y a;have G:=z.out _ f;have d:=λW hb=>C.out W hb (λe A=>(M.out.1.2 e A).1);have m:=hZ9 d;have F:=hZ9 h1;clear z C d r0 O r2 N P Q r6 K r8 r9 o p y h1;go_wp2_with fail;refine G.mono ?_;rintro e w2 ⟨b,rfl,HB,L⟩;have i:=f.trans (L.mono f.size);clear G k0 k1 k2 k3 k4 k5 k6 k7 k8 k9 U X k12;cases b with
 |false=>go_wp2_with fail;go_ret;exact⟨false,rfl,hZ9 (λh=>by cases h),i⟩
 |true=>
 have B:=hZ9 (HB.out rfl);have d:=m.out w2 i;rw[HV.out] at d;clear HB m;go_wp2_with fail;refine d.mono ?_;rintro e w3 ⟨b,rfl,HC,V⟩;have S:=i.trans (V.mono i.size);have HD:Hid (b=true->Eo l/\SeS.BU l/\(∀e∈l,e.name≠[])/\SeS.CL l/\H<=60/\FiS.wdF 2000 x/\QL<=100/\R.length<=3000):=hZ9 (λh=>by
  obtain⟨a1,a2,a3⟩:=M.out;obtain⟨b1,b2,b3⟩:=B.out;have ho:SeS.BU l:=λe A=>(a3 e A).1;refine⟨a1,ho,λe A=>(a3 e A).2,AdM (λk hk=>HC.out h k hk),F.out,b1,b2,b3⟩)
 clear M B HC F d;go_wp2_with fail;go_ret;exact⟨b,rfl,HD,S⟩
end
end Go.Proofs.YtgngjfjaelgaeaaGreatDoor
namespace Go.Proofs.YtgngjfjaelgaeaaGreatDoor.PoS
open Go.Lib RdS DnS
structure Rl where
 who:iK
 target:iK
 attr:iK
 rights:Int
 allow:Bool
 deriving DecidableEq
end Go.Proofs.YtgngjfjaelgaeaaGreatDoor.PoS
namespace Go.Proofs.YtgngjfjaelgaeaaGreatDoor
variable {cs:Array Value} {g n:Nat} {ok:Nat->Prop} {T:TypeId} {w:World}
open Go.RowKit
structure FKeep (xs:List EnS.At) (w:World) (b:Nat) (name:iK) (u:Value) (wr:World):Prop where
 env:Env wr
 whole:Whole wr b 52 #[name,u]
 attrs:BA wr u xs
 below:Below w.heap.size w wr
theorem FKeep.call{xs:List EnS.At}{b:Nat}{name:iK}{u:Value}{w1 w2:World}(h:FKeep xs w b name u w1)(hb:Below w1.heap.size w1 w2):FKeep xs w b name u w2:=
 ⟨h.env.below hb,h.whole.call hb,h.attrs.call hb,Aa h.below hb⟩
