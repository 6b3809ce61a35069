/- The walks of the laws ResolveSteps, ResolveFinds, ResolveEnds, and of their helpers. Conditions: as stated. -/
import Derived.Test.YtgngjfjaelgaeaaGreatDoorJReu
import Derived.Test.YtgngjfjaelgaeaaGreatDoorJFit
set_option maxRecDepth 100000
set_option maxHeartbeats 16000000
namespace Go.Proofs.YtgngjfjaelgaeaaGreatDoor
open Go.Proofs.Tryz
section
open Go.RowKit
theorem Ady {w:World} {g:Nat} {T:TypeId} {cs:Array Value} {ok:Nat->Prop} (b:Whole w g T cs) (a:ok g) {xs:List (List UInt8)} {n:Nat} (d:xs.length=n) (h:∀(j:Nat) (x:List UInt8),xs[j]?=some x->cs[j]?=some (Ac x)):
  Aj ok w (.slice (some ⟨g,0,none⟩) n n) xs:=by
 subst d;refine ⟨_,_,rfl,aA _,.inr ⟨g,0,rfl,b.lt,a,fun j x c=>?_⟩⟩;show w.cell? ⟨g,0+j*1,none⟩=_
 rw [bi,cK,b.cell];exact h j x c
theorem Abw {w:World} {g:Nat} {T:TypeId} {cs:Array Value} {ok:Nat->Prop} (a:Whole w g T cs) (b:ok g) {xs:List EnS.At} {n:Nat} (d:xs.length=n)
  (h:∀(j:Nat) (x:EnS.At),xs[j]?=some x->cs[j*2]?=some (Ac x.typ)/\∃u,cs[j*2+1]?=some u/\Aj ok w u x.vals):Ax ok w (.slice (some ⟨g,0,none⟩) n n) xs:=by
 subst d;refine ⟨_,_,rfl,aA _,.inr ⟨g,0,rfl,a.lt,b,fun j x c=>?_⟩⟩;obtain ⟨h1,u,h2,h3⟩:=h j x c;rw [bi];exact ⟨(a.cell _).trans h1,u,(a.cell _).trans h2,h3⟩
theorem AeL {w:World} {g:Nat} {T:TypeId} {cs:Array Value} {ok:Nat->Prop} (a:Whole w g T cs) (b:ok g) {xs:List EnS.En} {n:Nat} (d:xs.length=n)
  (h:∀(j:Nat) (x:EnS.En),xs[j]?=some x->cs[j*2]?=some (Ac x.name)/\∃u,cs[j*2+1]?=some u/\Ax ok w u x.attrs):AV ok w (.slice (some ⟨g,0,none⟩) n n) xs:=by
 subst d;refine ⟨_,_,rfl,aA _,.inr ⟨g,0,rfl,a.lt,b,fun j x c=>?_⟩⟩;obtain ⟨h1,u,h2,h3⟩:=h j x c;rw [bi];exact ⟨(a.cell _).trans h1,u,(a.cell _).trans h2,h3⟩
theorem KU (w:World) (o:Obj):(w.alloc o).heap.size=w.heap.size+1:=by
 show (w.heap.push _).size=_
 simp
def Aev (xs:List EnS.En):Prop:=∀x ∈ xs,DnS.Aw x.name=(x.name,0)/\x.name≠[]
theorem Vr {xs:List EnS.En} (h:EnS.AC EnS.cE xs<=3000):Eb xs:=by refine ⟨aY (KE xs) (by omega),fun x hx=>?_⟩;have h1:=EnS.Jo (f:=EnS.cE) hx;have h2:EnS.cE x=1+x.name.length / 100+EnS.AC EnS.cA x.attrs:=rfl;refine ⟨by omega,aY (Pn x.attrs) (by omega),fun y a=>?_⟩;have h3:=EnS.Jo (f:=EnS.cA) a;have h4:EnS.cA y=1+y.vals.length+EnS.AC EnS.cV y.vals:=rfl;refine ⟨by omega,fun v b=>?_⟩;have h5:=EnS.Jo (f:=EnS.cV) b;have h6:EnS.cV v=v.length / 100:=rfl;omega
def Vs (xs:List EnS.En) (s:List UInt8) (w:World) (e:Ending) (w':World):Prop:=∃b,e=.returned (.bool b)/\(b=true->Eb xs/\s.length<=3000/\Aev xs)/\Below w.heap.size w w'
theorem AeM (v:Value) (xs:List EnS.En) (s:List UInt8) (w:World) (hE:Env w) (h:Cm w v xs) (R:EnS.AC EnS.cE xs<=1048576) (hs:s.length<=1048576):Calls prog 21 #[v,.string ⟨s.toArray⟩] w (Vs xs s w):=by
 have r:=Ae2 v xs w h R;unfold Us at r;obtain ⟨a,c,rfl,hc,u⟩:=Ad.at h;have F:=hZ9 u;have O:=KE xs;have Y:=hZ9 (fun h=>Vr (xs:=xs) h);have y:Hid (∀k (hk:k<xs.length),(∀x ∈ xs.take k,DnS.Aw x.name=(x.name,0)/\x.name≠[])->(DnS.Aw xs[k].name=(xs[k].name,0)/\xs[k].name≠[])->∀x ∈ xs.take (k+1),DnS.Aw x.name=(x.name,0)/\x.name≠[]):=hZ9 (fun k hk h1 h2 x hx=>by
  rw [aX hk] at hx;rcases b9.1 hx with hx | hx
  · exact h1 x hx
  · have:=ak.1 hx;subst this;exact h2)
 clear u h;have E:=hZ9 (fun h x (hx:x ∈ xs)=>((Vr (xs:=xs) h).2 x hx).1);generalize I:xs.length=n at hc O r⊢;have J:=hZ9 I;clear I;go_enter func21,ntmps21;go_wp2_with fail;refine r.mono ?_;rintro e w1 ⟨b,rfl,rfl,hb⟩;cases b with
 | false=>go_wp2_with fail;go_ret;exact ⟨false,rfl,fun h=>(by cases h),Below.refl _ _⟩
 | true=>
 have K:=hZ9 (hb rfl);clear hb r;by_cases h3:3000<s.length
 · have N:(3000:Int)<(s.length:Int):=by omega
   go_wp2_with fail;go_ret;exact ⟨false,rfl,fun h=>(by cases h),Below.refl _ _⟩
 have N:decide ((3000:Int)<(s.length:Int))=false:=aC (by omega);have Z:Hid (s.length<=3000):=hZ9 (by omega);clear h3;go_wp2_with fail;go_loopw [18] (fun i wr=>∃k:Nat,k<=n/\i=.int .i64 k/\Hid (∀x ∈ xs.take k,DnS.Aw x.name=(x.name,0)/\x.name≠[])/\Below w.heap.size w wr) (fun i _=>n - (intOf i).toNat)
 case atStart=>exact ⟨0,aR _,rfl,hZ9 (fun x hx=>by cases hx),Below.refl _ _⟩
 case round=>
  obtain ⟨k,hk,rfl,M,d⟩:=hrel;by_cases C:k<n
  · have j:k<xs.length:=by rw [J.out];exact C
    obtain ⟨g,o,rfl,U,_,hra⟩:=F.out k j;obtain ⟨c0,a1,p1,c1,W,p⟩:=Df.parts (Df.call hra U trivial d);have A:=E.out K.out xs[k] (aZ j);have t:=hZ9 (y.out k j M.out);clear hra y p;generalize xs[k]=x at*;clear j;obtain ⟨name,attrs⟩:=x;simp only at c0 c1 A t;have l:=Py name A wr (hE.below d);unfold Cb at l;generalize DnS.Aw name=NN at*;obtain ⟨q,L⟩:=NN;simp only at l;by_cases G:L=0
    case neg=>
     have Q:(L !=0)=true:=by simpa using G
     go_wp2_with fail;refine l.mono ?_;rintro e w2 ⟨rfl,f⟩;go_wp2_with fail;go_ret;exact ⟨false,rfl,fun h=>(by cases h),d.trans (f.mono d.size)⟩
    subst G;by_cases B:q=name
    case neg=>
     have V:(q !=name)=true:=by simpa using B
     have P:(q==name)=false:=by simpa using B
     go_wp2_with fail;refine l.mono ?_;rintro e w2 ⟨rfl,f⟩;have H:=Ab c0 f;go_wp2_with fail;go_ret;exact ⟨false,rfl,fun h=>(by cases h),d.trans (f.mono d.size)⟩
    subst B;by_cases m:q=[]
    · subst m;go_wp2_with fail;refine l.mono ?_;rintro e w2 ⟨rfl,f⟩;have H:=Ab c0 f;go_wp2_with fail;go_ret;exact ⟨false,rfl,fun h=>(by cases h),d.trans (f.mono d.size)⟩
    · have T:q.isEmpty=false:=by simpa using m
      have S:(q==[])=false:=by simpa using m
      have X:=hZ9 (t.out ⟨rfl,m⟩);clear m t;go_wp2_with fail;refine l.mono ?_;rintro e w2 ⟨rfl,f⟩;have H:=Ab c0 f;go_wp2_with fail;go_roundw
      case rel=>exact ⟨k+1,by omega,by go_num,X,d.trans (f.mono d.size)⟩
      case measure=>simp [intOf];omega
  · have z:Hid (Aev xs):=hZ9 (by have:=M.out;rwa [ag (by rw [J.out];omega)] at this);go_wp2_with fail;go_ret;exact ⟨true,rfl,fun _=>⟨Y.out K.out,Z.out,z.out⟩,d⟩
end
section
open Go.RowKit
open FiS (Fi)
attribute [local go_sem ↓] Go.wp_at_zero Go.wp_at_succ
def BU (w:World) (g:Nat):Nat->List Value->World
 | _,[]=>w
 | i,v :: r=>BU (w.setCell ⟨g,i,none⟩ v) g (i+1) r
theorem BO (g k:Nat) (h:k≠g):∀(vs:List Value) (i:Nat) (w:World),(BU w g i vs).heap[k]?=w.heap[k]?/\(BU w g i vs).heap.size=w.heap.size
 | [],_,_=>⟨rfl,rfl⟩
 | v :: r,i,w=>by have a:=BO g k h r (i+1) (w.setCell ⟨g,i,none⟩ v);exact ⟨a.1.trans (Below.heap_setCell w ⟨g,i,none⟩ v k h),a.2.trans (World.size_setCell ..)⟩
theorem Jd {B:Nat} {w0:World} {g:Nat} (a:B<=g):∀(vs:List Value) (i:Nat) (w:World),Below B w0 w->Below B w0 (BU w g i vs)
 | [],_,_,h=>h
 | v :: r,i,_,h=>Jd a r (i+1) _ (h.setCell (p:=⟨g,i,none⟩) a v)
theorem Je {g:Nat} {T:TypeId}:∀(vs pre rest:List Value) (w:World),rest.length=vs.length->Whole w g T (pre++rest).toArray->Whole (BU w g pre.length vs) g T (pre++vs).toArray
 | [],pre,rest,_,hl,h=>by have:rest=[]:=aW hl;rw [this] at h;exact h
 | v :: vs,pre,[],_,hl,_=>by simp at hl
 | v :: vs,pre,r :: rest,w,hl,h=>by
  have h2:=h.put pre.length v;have e:((pre++r :: rest).toArray.setIfInBounds pre.length v)=((pre++[v])++rest).toArray:=by rw [aF];congr 1;rw [dJ _ _ (aA _),eD,aN,bK];rfl
  rw [e] at h2;have a:=Je vs (pre++[v]) rest (w.setCell ⟨g,pre.length,none⟩ v) (by simpa using hl) h2;rw [aT,bK] at a;exact a
theorem Zo (n:Nat) (q:SeS.Rq) (v:Value) (w:World) (h:EC n w v q) (A0:FiS.wdF 20000 q.filter) (B8:q.attrs.length<=1048576):Calls prog 10 #[v] w fun e w'=>∃v',e=.returned v'/\EC (n+1) w' v' q/\Below w.heap.size w w':=by
 unfold EC at h⊢;obtain ⟨a5,a6,aa,c5,Q,U,rfl,A8,A5⟩:=h;obtain ⟨o,sc,dr,x,at_,p,sz⟩:=q;simp only at A8 A5 A0 B8⊢;have B6:=hZ9 (fun W (hb:Below w.heap.size w W)=>PS n x _ W (A8.call hb) A0);have B4:=hZ9 (fun W (hb:Below w.heap.size w W)=>A5.call hb (aA _));clear A8 A5 A0;generalize B5:at_.length=QL at*;have J:=hZ9 B5;have B3:=Af w (.cells #[.string ⟨o.toArray⟩,.int .i64 sc,.int .i64 dr,.int .i64 x.kind,.string ⟨x.attr.toArray⟩,.string ⟨x.value.toArray⟩,.string ⟨x.first.toArray⟩,.string ⟨x.last.toArray⟩,.slice a5 x.any.length c5,.slice a6 x.parts.length Q,.slice aa QL U,.bool p,.int .i64 sz] 28);have A1:=Af (w.alloc (.cells #[.string ⟨o.toArray⟩,.int .i64 sc,.int .i64 dr,.int .i64 x.kind,.string ⟨x.attr.toArray⟩,.string ⟨x.value.toArray⟩,.string ⟨x.first.toArray⟩,.string ⟨x.last.toArray⟩,.slice a5 x.any.length c5,.slice a6 x.parts.length Q,.slice aa QL U,.bool p,.int .i64 sz] 28)) (.cells #[.string ⟨#[]⟩,.int .i64 0,.int .i64 0,.int .i64 0,.string ⟨#[]⟩,.string ⟨#[]⟩,.string ⟨#[]⟩,.string ⟨#[]⟩,.slice none 0 0,.slice none 0 0,.slice none 0 0,.bool false,.int .i64 0] 38);have e1:(w.alloc (.cells #[.string ⟨o.toArray⟩,.int .i64 sc,.int .i64 dr,.int .i64 x.kind,.string ⟨x.attr.toArray⟩,.string ⟨x.value.toArray⟩,.string ⟨x.first.toArray⟩,.string ⟨x.last.toArray⟩,.slice a5 x.any.length c5,.slice a6 x.parts.length Q,.slice aa QL U,.bool p,.int .i64 sz] 28)).heap.size=w.heap.size+1:=by simp
 have m:=B3.trans (A1.mono (by rw [e1];omega));have l:=(Whole.made w 28 #[.string ⟨o.toArray⟩,.int .i64 sc,.int .i64 dr,.int .i64 x.kind,.string ⟨x.attr.toArray⟩,.string ⟨x.value.toArray⟩,.string ⟨x.first.toArray⟩,.string ⟨x.last.toArray⟩,.slice a5 x.any.length c5,.slice a6 x.parts.length Q,.slice aa QL U,.bool p,.int .i64 sz]).call A1;have B2:Whole ((w.alloc (.cells #[.string ⟨o.toArray⟩,.int .i64 sc,.int .i64 dr,.int .i64 x.kind,.string ⟨x.attr.toArray⟩,.string ⟨x.value.toArray⟩,.string ⟨x.first.toArray⟩,.string ⟨x.last.toArray⟩,.slice a5 x.any.length c5,.slice a6 x.parts.length Q,.slice aa QL U,.bool p,.int .i64 sz] 28)).alloc (.cells #[.string ⟨#[]⟩,.int .i64 0,.int .i64 0,.int .i64 0,.string ⟨#[]⟩,.string ⟨#[]⟩,.string ⟨#[]⟩,.string ⟨#[]⟩,.slice none 0 0,.slice none 0 0,.slice none 0 0,.bool false,.int .i64 0] 38)) (w.heap.size+1) 38 #[.string ⟨#[]⟩,.int .i64 0,.int .i64 0,.int .i64 0,.string ⟨#[]⟩,.string ⟨#[]⟩,.string ⟨#[]⟩,.string ⟨#[]⟩,.slice none 0 0,.slice none 0 0,.slice none 0 0,.bool false,.int .i64 0]:=by
  have:=Whole.made (w.alloc (.cells #[.string ⟨o.toArray⟩,.int .i64 sc,.int .i64 dr,.int .i64 x.kind,.string ⟨x.attr.toArray⟩,.string ⟨x.value.toArray⟩,.string ⟨x.first.toArray⟩,.string ⟨x.last.toArray⟩,.slice a5 x.any.length c5,.slice a6 x.parts.length Q,.slice aa QL U,.bool p,.int .i64 sz] 28)) 38 #[.string ⟨#[]⟩,.int .i64 0,.int .i64 0,.int .i64 0,.string ⟨#[]⟩,.string ⟨#[]⟩,.string ⟨#[]⟩,.string ⟨#[]⟩,.slice none 0 0,.slice none 0 0,.slice none 0 0,.bool false,.int .i64 0]
  rwa [e1] at this
 have B9:=B2.lt;clear B3 A1 e1 B5;go_enter func10,ntmps10;go_upto_region 1 with fail;generalize (w.alloc (.cells #[.string ⟨o.toArray⟩,.int .i64 sc,.int .i64 dr,.int .i64 x.kind,.string ⟨x.attr.toArray⟩,.string ⟨x.value.toArray⟩,.string ⟨x.first.toArray⟩,.string ⟨x.last.toArray⟩,.slice a5 x.any.length c5,.slice a6 x.parts.length Q,.slice aa QL U,.bool p,.int .i64 sz] 28)).alloc (.cells #[.string ⟨#[]⟩,.int .i64 0,.int .i64 0,.int .i64 0,.string ⟨#[]⟩,.string ⟨#[]⟩,.string ⟨#[]⟩,.string ⟨#[]⟩,.slice none 0 0,.slice none 0 0,.slice none 0 0,.bool false,.int .i64 0] 38)=w1 at*;have R:=l.cell 0;have T:=l.cell 1;have q2:=l.cell 2;have V:=l.cell 3;have q4:=l.cell 4;have Y:=l.cell 5;have X:=l.cell 6;have q7:=l.cell 7;have S:=l.cell 8;have Z:=l.cell 9;have A:=l.cell 10;have E:=l.cell 11;have F:=l.cell 12;simp only [aI,aH,aK] at R T q2 V q4 Y X q7 S Z A E F;have a:Below w1.heap.size w1 w1.drew:=below_drewN w1 1;refine FU 18 (fun W=>W.cell? ⟨w.heap.size,0,none⟩=some (.string ⟨o.toArray⟩)/\W.cell? ⟨w.heap.size,1,none⟩=some (.int .i64 sc)/\W.cell? ⟨w.heap.size,2,none⟩=some (.int .i64 dr)/\W.cell? ⟨w.heap.size,3,none⟩=some (.int .i64 x.kind)/\W.cell? ⟨w.heap.size,4,none⟩=some (.string ⟨x.attr.toArray⟩)/\W.cell? ⟨w.heap.size,5,none⟩=some (.string ⟨x.value.toArray⟩)/\W.cell? ⟨w.heap.size,6,none⟩=some (.string ⟨x.first.toArray⟩)/\W.cell? ⟨w.heap.size,7,none⟩=some (.string ⟨x.last.toArray⟩)/\W.cell? ⟨w.heap.size,8,none⟩=some (.slice a5 x.any.length c5)/\W.cell? ⟨w.heap.size,9,none⟩=some (.slice a6 x.parts.length Q)/\W.cell? ⟨w.heap.size,10,none⟩=some (.slice aa QL U)/\W.cell? ⟨w.heap.size,11,none⟩=some (.bool p)/\W.cell? ⟨w.heap.size,12,none⟩=some (.int .i64 sz)) (by kernel_rfl) (by kernel_rfl) ⟨R,T,q2,V,q4,Y,X,q7,S,Z,A,E,F⟩ (fun c=>?_);refine Ag 0 ?_ (by simp only [aO,aS];decide) (by kernel_rfl) (fun _ _ _ h=>h) (by rfl) ?_ c ?_
 rotate_left
 · intro W i;(try simp only [aB]);(try go_split_ands);go_simp;(try with_reducible rfl)
 (try simp only [aB,Act.put,aF,aN,aQ])
 refine Ag 1 ?_ (by simp only [aO,aS];decide) (by kernel_rfl) (fun _ _ _ h=>h) (by rfl) ?_ c ?_
 rotate_left
 · intro W i;(try simp only [aD,aB]);(try go_split_ands);go_simp;(try with_reducible rfl)
 (try simp only [aD,aB,Act.put,aF,aN,aQ])
 refine Ag 2 ?_ (by simp only [aO,aS];decide) (by kernel_rfl) (fun _ _ _ h=>h) (by rfl) ?_ c ?_
 rotate_left
 · intro W i;(try simp only [aD,aB]);(try go_split_ands);go_simp;(try with_reducible rfl)
 (try simp only [aD,aB,Act.put,aF,aN,aQ])
 refine Ag 3 ?_ (by simp only [aO,aS];decide) (by kernel_rfl) (fun _ _ _ h=>h) (by rfl) ?_ c ?_
 rotate_left
 · intro W i;(try simp only [aD,aB]);(try go_split_ands);go_simp;(try with_reducible rfl)
 (try simp only [aD,aB,Act.put,aF,aN,aQ])
 refine Ag 4 ?_ (by simp only [aO,aS];decide) (by kernel_rfl) (fun _ _ _ h=>h) (by rfl) ?_ c ?_
 rotate_left
 · intro W i;(try simp only [aD,aB]);(try go_split_ands);go_simp;(try with_reducible rfl)
 (try simp only [aD,aB,Act.put,aF,aN,aQ])
 refine Ag 5 ?_ (by simp only [aO,aS];decide) (by kernel_rfl) (fun _ _ _ h=>h) (by rfl) ?_ c ?_
 rotate_left
 · intro W i;(try simp only [aD,aB]);(try go_split_ands);go_simp;(try with_reducible rfl)
 (try simp only [aD,aB,Act.put,aF,aN,aQ])
 refine Ag 6 ?_ (by simp only [aO,aS];decide) (by kernel_rfl) (fun _ _ _ h=>h) (by rfl) ?_ c ?_
 rotate_left
 · intro W i;(try simp only [aD,aB]);(try go_split_ands);go_simp;(try with_reducible rfl)
 (try simp only [aD,aB,Act.put,aF,aN,aQ])
 refine Ag 7 ?_ (by simp only [aO,aS];decide) (by kernel_rfl) (fun _ _ _ h=>h) (by rfl) ?_ c ?_
 rotate_left
 · intro W i;(try simp only [aD,aB]);(try go_split_ands);go_simp;(try with_reducible rfl)
 (try simp only [aD,aB,Act.put,aF,aN,aQ])
 refine Ag 10 ?_ (by simp only [aO,aS];decide) (by kernel_rfl) (fun _ _ _ h=>h) (by rfl) ?_ c ?_
 rotate_left
 · intro W i;(try simp only [aD,aB]);(try go_split_ands);go_simp;(try with_reducible rfl)
 (try simp only [aD,aB,Act.put,aF,aN,aQ])
 refine Ag 11 ?_ (by simp only [aO,aS];decide) (by kernel_rfl) (fun _ _ _ h=>h) (by rfl) ?_ c ?_
 rotate_left
 · intro W i;(try simp only [aD,aB]);(try go_split_ands);go_simp;(try with_reducible rfl)
 (try simp only [aD,aB,Act.put,aF,aN,aQ])
 refine Ag 13 ?_ (by simp only [aO,aS];decide) (by kernel_rfl) (fun _ _ _ h=>h) (by rfl) ?_ c ?_
 rotate_left
 · intro W i;(try simp only [aD,aB]);(try go_split_ands);go_simp;(try with_reducible rfl)
 (try simp only [aD,aB,Act.put,aF,aN,aQ])
 refine Ag 14 ?_ (by simp only [aO,aS];decide) (by kernel_rfl) (fun _ _ _ h=>h) (by rfl) ?_ c ?_
 rotate_left
 · intro W i;(try simp only [aD,aB]);(try go_split_ands);go_simp;(try with_reducible rfl)
 (try simp only [aD,aB,Act.put,aF,aN,aQ])
 refine Ag 15 ?_ (by simp only [aO,aS];decide) (by kernel_rfl) (fun _ _ _ h=>h) (by rfl) ?_ c ?_
 rotate_left
 · intro W i;(try simp only [aD,aB]);(try go_split_ands);go_simp;(try with_reducible rfl)
 (try simp only [aD,aB,Act.put,aF,aN,aQ])
 refine Ag 16 ?_ (by simp only [aO,aS];decide) (by kernel_rfl) (fun _ _ _ h=>h) (by rfl) ?_ c ?_
 rotate_left
 · intro W i;(try simp only [aD,aB]);(try go_split_ands);go_simp;(try with_reducible rfl)
 (try simp only [aD,aB,Act.put,aF,aN,aQ])
 refine OE 8 9 (by simp only [aO,aS];decide) (by simp only [aO,aS];decide) (by kernel_rfl) (fun K z=>?_) (fun K z=>?_)
 · (try simp only [aD,aB])
   refine Bo (by rfl) ?_;go_simp
   (go_at_call 20;(with_reducible refine (B6.out _ (m.trans (a.mono m.size))).mono ?_);rintro e w3 ⟨v3,rfl,L,P⟩)
   replace a:=a.trans (P.mono a.size);obtain ⟨f5,h5,f6,h6,A3,_,_⟩:=FiV.parts L.ins;subst A3;refine z.out _ _ ?_ (fun c=>?_)
   · exact ⟨Ab R a,Ab T a,Ab q2 a,Ab V a,Ab q4 a,Ab Y a,Ab X a,Ab q7 a,Ab S a,Ab Z a,Ab A a,Ab E a,Ab F a⟩
   clear z K
   (try simp only [Act.put,aF,aN,aQ])
   refine Bq 9 (by simp only [aO,aS];decide) (by kernel_rfl) (fun K z=>?_)
   (try simp only [aD,aB])
   refine Bo (by rfl) ?_;go_simp;have s:Own (w3.alloc (.cells #[] 9)) w1.heap.size (.slice (some ⟨w3.heap.size,0,none⟩) 0 0) []:=(Own.made0 w3).mono a.size;have A4:FiV (n+1) (fun g=>w1.heap.size<=g/\g≠w3.heap.size) (w3.alloc (.cells #[] 9)) _ x:=(L.keep (ok':=fun g=>w1.heap.size<=g/\g≠w3.heap.size) (aA _) (fun _ _ _=>rfl) (fun g C1 hg=>⟨hg,fun e=>by omega⟩)).call (Af w3 _);replace a:=a.trans ((Af w3 (.cells #[] 9)).mono a.size);refine z.out _ _ ?_ (fun c=>?_)
   · exact ⟨Ab R a,Ab T a,Ab q2 a,Ab V a,Ab q4 a,Ab Y a,Ab X a,Ab q7 a,Ab S a,Ab Z a,Ab A a,Ab E a,Ab F a⟩
   clear z K
   (try simp only [aD,aB,Act.put,aF,aN,aQ])
   refine Bq 12 (by simp only [aO,aS];decide) (by kernel_rfl) (fun K z=>?_)
   (try simp only [aD,aB])
   refine Bo (by rfl) ?_;have O:=B4.out _ (m.trans (a.mono m.size));have M:=a.size;refine Io _ _ (by rfl) w1.heap.size _ [] (by rfl) s _ at_ (by rfl) O (by rw [J.out];simp;omega) M ?_;intro v4 w4 f A7 t;replace f:=Own.nilOf f;have N:=A4.keep (ok':=fun g=>w1.heap.size<=g) t.size (fun g _ j=>t.block g ‹_› (fun e=>j.2 (aU e))) (fun g _ j=>j.1);replace a:=a.trans A7;obtain ⟨u,y,rfl⟩:=Own.form f;rw [J.out] at f
   try rw [J.out]
   clear s t;refine z.out _ _ ?_ (fun c=>?_)
   · exact ⟨Ab R a,Ab T a,Ab q2 a,Ab V a,Ab q4 a,Ab Y a,Ab X a,Ab q7 a,Ab S a,Ab Z a,Ab A a,Ab E a,Ab F a⟩
   clear z K
   (try simp only [Act.put,aF,aN,aQ])
   refine Ag 17 ?_ (by simp only [aO,aS];decide) (by kernel_rfl) (fun _ _ _ h=>h) (by rfl) ?_ c ?_
   rotate_left
   · intro W i;(try simp only [aD,aB]);(try go_split_ands);go_simp;(try with_reducible rfl)
   (try simp only [aD,aB,Act.put,aF,aN,aQ])
   refine EL (by kernel_rfl) ?_;simp only [bU,bQ];clear c;have b:=B2.call a;have m0:=b.cell 0;have m1:=b.cell 1;have m2:=b.cell 2;have m3:=b.cell 3;have m4:=b.cell 4;have m5:=b.cell 5;have m6:=b.cell 6;have m7:=b.cell 7;have m8:=b.cell 8;have m9:=b.cell 9;have m10:=b.cell 10;have m11:=b.cell 11;have m12:=b.cell 12;have t0:=b.thaw 0;have t1:=b.thaw 1;have t2:=b.thaw 2;have t3:=b.thaw 3;have t4:=b.thaw 4;have t5:=b.thaw 5;have t6:=b.thaw 6;have t7:=b.thaw 7;have t8:=b.thaw 8;have t9:=b.thaw 9;have A9:=b.thaw 10;have A6:=b.thaw 11;have t12:=b.thaw 12;simp only [aI,aH,aK] at m0 m1 m2 m3 m4 m5 m6 m7 m8 m9 m10 m11 m12;have d:=Je [.string ⟨o.toArray⟩,.int .i64 sc,.int .i64 dr,.int .i64 x.kind,.string ⟨x.attr.toArray⟩,.string ⟨x.value.toArray⟩,.string ⟨x.first.toArray⟩,.string ⟨x.last.toArray⟩,.slice f5 x.any.length h5,.slice f6 x.parts.length h6,.slice u QL y,.bool p,.int .i64 sz] [] [.string ⟨#[]⟩,.int .i64 0,.int .i64 0,.int .i64 0,.string ⟨#[]⟩,.string ⟨#[]⟩,.string ⟨#[]⟩,.string ⟨#[]⟩,.slice none 0 0,.slice none 0 0,.slice none 0 0,.bool false,.int .i64 0] w4 rfl b;have H:=Jd (B:=w.heap.size) (g:=w.heap.size+1) (by omega) [.string ⟨o.toArray⟩,.int .i64 sc,.int .i64 dr,.int .i64 x.kind,.string ⟨x.attr.toArray⟩,.string ⟨x.value.toArray⟩,.string ⟨x.first.toArray⟩,.string ⟨x.last.toArray⟩,.slice f5 x.any.length h5,.slice f6 x.parts.length h6,.slice u QL y,.bool p,.int .i64 sz] 0 w4 (m.trans (a.mono m.size));have I:=fun k (hk:k≠w.heap.size+1)=>BO (w.heap.size+1) k hk [.string ⟨o.toArray⟩,.int .i64 sc,.int .i64 dr,.int .i64 x.kind,.string ⟨x.attr.toArray⟩,.string ⟨x.value.toArray⟩,.string ⟨x.first.toArray⟩,.string ⟨x.last.toArray⟩,.slice f5 x.any.length h5,.slice f6 x.parts.length h6,.slice u QL y,.bool p,.int .i64 sz] 0 w4;have G:=N.keep (ok':=fun _=>True) (w':=BU w4 (w.heap.size+1) 0 [.string ⟨o.toArray⟩,.int .i64 sc,.int .i64 dr,.int .i64 x.kind,.string ⟨x.attr.toArray⟩,.string ⟨x.value.toArray⟩,.string ⟨x.first.toArray⟩,.string ⟨x.last.toArray⟩,.slice f5 x.any.length h5,.slice f6 x.parts.length h6,.slice u QL y,.bool p,.int .i64 sz]) (cH (BO (w.heap.size+1) (w.heap.size+2) (by omega) [.string ⟨o.toArray⟩,.int .i64 sc,.int .i64 dr,.int .i64 x.kind,.string ⟨x.attr.toArray⟩,.string ⟨x.value.toArray⟩,.string ⟨x.first.toArray⟩,.string ⟨x.last.toArray⟩,.slice f5 x.any.length h5,.slice f6 x.parts.length h6,.slice u QL y,.bool p,.int .i64 sz] 0 w4).2.symm) (fun g _ j=>(I g (by omega)).1) (fun _ _ _=>trivial);have C:=Aj.keep (ok':=fun _=>True) (w':=BU w4 (w.heap.size+1) 0 [.string ⟨o.toArray⟩,.int .i64 sc,.int .i64 dr,.int .i64 x.kind,.string ⟨x.attr.toArray⟩,.string ⟨x.value.toArray⟩,.string ⟨x.first.toArray⟩,.string ⟨x.last.toArray⟩,.slice f5 x.any.length h5,.slice f6 x.parts.length h6,.slice u QL y,.bool p,.int .i64 sz]) (f.inRow (fun g=>w1.heap.size<=g) (fun g h1 _=>h1)) (cH (BO (w.heap.size+1) (w.heap.size+2) (by omega) [.string ⟨o.toArray⟩,.int .i64 sc,.int .i64 dr,.int .i64 x.kind,.string ⟨x.attr.toArray⟩,.string ⟨x.value.toArray⟩,.string ⟨x.first.toArray⟩,.string ⟨x.last.toArray⟩,.slice f5 x.any.length h5,.slice f6 x.parts.length h6,.slice u QL y,.bool p,.int .i64 sz] 0 w4).2.symm) (fun g _ j=>(I g (by have j:w1.heap.size<=g:=j;omega)).1) (fun _ _ _=>trivial);have r:=C.strs;simp only [BU,aS,List.nil_append,bi,Nat.reduceAdd] at d H G r;clear I C N f;have y0:=d.cell 0;have y1:=d.cell 1;have y2:=d.cell 2;have y3:=d.cell 3;have y4:=d.cell 4;have y5:=d.cell 5;have y6:=d.cell 6;have y7:=d.cell 7;have y8:=d.cell 8;have y9:=d.cell 9;have B1:=d.cell 10;have A2:=d.cell 11;have B0:=d.cell 12;simp only [aI,aH,aK] at y0 y1 y2 y3 y4 y5 y6 y7 y8 y9 B1 A2 B0;go_wp2_with fail
   (try simp only [Exit.inBlock,Exit.then])
   refine bodyPost_ret (v:=.agg #[.string ⟨o.toArray⟩,.int .i64 sc,.int .i64 dr,.int .i64 x.kind,.string ⟨x.attr.toArray⟩,.string ⟨x.value.toArray⟩,.string ⟨x.first.toArray⟩,.string ⟨x.last.toArray⟩,.slice f5 x.any.length h5,.slice f6 x.parts.length h6,.slice u QL y,.bool p,.int .i64 sz]) ?_ rfl ⟨_,rfl,⟨f5,f6,u,h5,h6,y,rfl,G,r⟩,H⟩;clear d H G r m0 t0 m1 t1 m2 t2 m3 t3 m4 t4 m5 t5 m6 t6 m7 t7 m8 t8 m9 t9 m10 A9 m11 A6 m12 t12;generalize B7:(World.setCell _ ⟨w.heap.size+1,12,none⟩ (.int .i64 sz))=wf at*;rw [BM rfl];go_simp
 · (try simp only [aD,aB])
   refine Bo (by rfl) ?_;go_simp;have s:Own (w1.alloc (.cells #[] 9)).drew w1.heap.size (.slice (some ⟨w1.heap.size,0,none⟩) 0 0) []:=Own.made0 w1;replace a:Below w1.heap.size w1 (w1.alloc (.cells #[] 9)).drew:=(Af w1 _).drew;refine z.out _ _ ?_ (fun c=>?_)
   · exact ⟨Ab R a,Ab T a,Ab q2 a,Ab V a,Ab q4 a,Ab Y a,Ab X a,Ab q7 a,Ab S a,Ab Z a,Ab A a,Ab E a,Ab F a⟩
   clear z K
   (try simp only [aD,aB,Act.put,aF,aN,aQ])
   refine Bq 8 (by simp only [aO,aS];decide) (by kernel_rfl) (fun K z=>?_)
   (try simp only [aD,aB])
   refine Bo (by rfl) ?_;go_simp
   (go_at_call 20;(with_reducible refine (B6.out _ (m.trans (a.mono m.size))).mono ?_);rintro e w3 ⟨v3,rfl,L,P⟩)
   have A4:FiV (n+1) (fun g=>w1.heap.size<=g/\g≠w1.heap.size) w3 v3 x:=L.keep (aA _) (fun _ _ _=>rfl) (fun g _ hg=>(show w1.heap.size<=g/\g≠w1.heap.size from by
    have C0:(w1.alloc (.cells #[] 9)).heap.size<=g:=hg;have e1:(w1.alloc (.cells #[] 9)).heap.size=w1.heap.size+1:=by simp
    omega))
   replace s:=s.call P;replace a:=a.trans (P.mono a.size);obtain ⟨f5,h5,f6,h6,A3,_,_⟩:=FiV.parts L.ins;subst A3;refine z.out _ _ ?_ (fun c=>?_)
   · exact ⟨Ab R a,Ab T a,Ab q2 a,Ab V a,Ab q4 a,Ab Y a,Ab X a,Ab q7 a,Ab S a,Ab Z a,Ab A a,Ab E a,Ab F a⟩
   clear z K
   (try simp only [Act.put,aF,aN,aQ])
   refine Bq 12 (by simp only [aO,aS];decide) (by kernel_rfl) (fun K z=>?_)
   (try simp only [aD,aB])
   refine Bo (by rfl) ?_;have O:=B4.out _ (m.trans (a.mono m.size));have M:=a.size;refine Io _ _ (by rfl) w1.heap.size _ [] (by rfl) s _ at_ (by rfl) O (by rw [J.out];simp;omega) M ?_;intro v4 w4 f A7 t;replace f:=Own.nilOf f;have N:=A4.keep (ok':=fun g=>w1.heap.size<=g) t.size (fun g _ j=>t.block g ‹_› (fun e=>j.2 (aU e))) (fun g _ j=>j.1);replace a:=a.trans A7;obtain ⟨u,y,rfl⟩:=Own.form f;rw [J.out] at f
   try rw [J.out]
   clear s t;refine z.out _ _ ?_ (fun c=>?_)
   · exact ⟨Ab R a,Ab T a,Ab q2 a,Ab V a,Ab q4 a,Ab Y a,Ab X a,Ab q7 a,Ab S a,Ab Z a,Ab A a,Ab E a,Ab F a⟩
   clear z K
   (try simp only [Act.put,aF,aN,aQ])
   refine Ag 17 ?_ (by simp only [aO,aS];decide) (by kernel_rfl) (fun _ _ _ h=>h) (by rfl) ?_ c ?_
   rotate_left
   · intro W i;(try simp only [aD,aB]);(try go_split_ands);go_simp;(try with_reducible rfl)
   (try simp only [aD,aB,Act.put,aF,aN,aQ])
   refine EL (by kernel_rfl) ?_;simp only [bU,bQ];clear c;have b:=B2.call a;have m0:=b.cell 0;have m1:=b.cell 1;have m2:=b.cell 2;have m3:=b.cell 3;have m4:=b.cell 4;have m5:=b.cell 5;have m6:=b.cell 6;have m7:=b.cell 7;have m8:=b.cell 8;have m9:=b.cell 9;have m10:=b.cell 10;have m11:=b.cell 11;have m12:=b.cell 12;have t0:=b.thaw 0;have t1:=b.thaw 1;have t2:=b.thaw 2;have t3:=b.thaw 3;have t4:=b.thaw 4;have t5:=b.thaw 5;have t6:=b.thaw 6;have t7:=b.thaw 7;have t8:=b.thaw 8;have t9:=b.thaw 9;have A9:=b.thaw 10;have A6:=b.thaw 11;have t12:=b.thaw 12;simp only [aI,aH,aK] at m0 m1 m2 m3 m4 m5 m6 m7 m8 m9 m10 m11 m12;have d:=Je [.string ⟨o.toArray⟩,.int .i64 sc,.int .i64 dr,.int .i64 x.kind,.string ⟨x.attr.toArray⟩,.string ⟨x.value.toArray⟩,.string ⟨x.first.toArray⟩,.string ⟨x.last.toArray⟩,.slice f5 x.any.length h5,.slice f6 x.parts.length h6,.slice u QL y,.bool p,.int .i64 sz] [] [.string ⟨#[]⟩,.int .i64 0,.int .i64 0,.int .i64 0,.string ⟨#[]⟩,.string ⟨#[]⟩,.string ⟨#[]⟩,.string ⟨#[]⟩,.slice none 0 0,.slice none 0 0,.slice none 0 0,.bool false,.int .i64 0] w4 rfl b;have H:=Jd (B:=w.heap.size) (g:=w.heap.size+1) (by omega) [.string ⟨o.toArray⟩,.int .i64 sc,.int .i64 dr,.int .i64 x.kind,.string ⟨x.attr.toArray⟩,.string ⟨x.value.toArray⟩,.string ⟨x.first.toArray⟩,.string ⟨x.last.toArray⟩,.slice f5 x.any.length h5,.slice f6 x.parts.length h6,.slice u QL y,.bool p,.int .i64 sz] 0 w4 (m.trans (a.mono m.size));have I:=fun k (hk:k≠w.heap.size+1)=>BO (w.heap.size+1) k hk [.string ⟨o.toArray⟩,.int .i64 sc,.int .i64 dr,.int .i64 x.kind,.string ⟨x.attr.toArray⟩,.string ⟨x.value.toArray⟩,.string ⟨x.first.toArray⟩,.string ⟨x.last.toArray⟩,.slice f5 x.any.length h5,.slice f6 x.parts.length h6,.slice u QL y,.bool p,.int .i64 sz] 0 w4;have G:=N.keep (ok':=fun _=>True) (w':=BU w4 (w.heap.size+1) 0 [.string ⟨o.toArray⟩,.int .i64 sc,.int .i64 dr,.int .i64 x.kind,.string ⟨x.attr.toArray⟩,.string ⟨x.value.toArray⟩,.string ⟨x.first.toArray⟩,.string ⟨x.last.toArray⟩,.slice f5 x.any.length h5,.slice f6 x.parts.length h6,.slice u QL y,.bool p,.int .i64 sz]) (cH (BO (w.heap.size+1) (w.heap.size+2) (by omega) [.string ⟨o.toArray⟩,.int .i64 sc,.int .i64 dr,.int .i64 x.kind,.string ⟨x.attr.toArray⟩,.string ⟨x.value.toArray⟩,.string ⟨x.first.toArray⟩,.string ⟨x.last.toArray⟩,.slice f5 x.any.length h5,.slice f6 x.parts.length h6,.slice u QL y,.bool p,.int .i64 sz] 0 w4).2.symm) (fun g _ j=>(I g (by omega)).1) (fun _ _ _=>trivial);have C:=Aj.keep (ok':=fun _=>True) (w':=BU w4 (w.heap.size+1) 0 [.string ⟨o.toArray⟩,.int .i64 sc,.int .i64 dr,.int .i64 x.kind,.string ⟨x.attr.toArray⟩,.string ⟨x.value.toArray⟩,.string ⟨x.first.toArray⟩,.string ⟨x.last.toArray⟩,.slice f5 x.any.length h5,.slice f6 x.parts.length h6,.slice u QL y,.bool p,.int .i64 sz]) (f.inRow (fun g=>w1.heap.size<=g) (fun g h1 _=>h1)) (cH (BO (w.heap.size+1) (w.heap.size+2) (by omega) [.string ⟨o.toArray⟩,.int .i64 sc,.int .i64 dr,.int .i64 x.kind,.string ⟨x.attr.toArray⟩,.string ⟨x.value.toArray⟩,.string ⟨x.first.toArray⟩,.string ⟨x.last.toArray⟩,.slice f5 x.any.length h5,.slice f6 x.parts.length h6,.slice u QL y,.bool p,.int .i64 sz] 0 w4).2.symm) (fun g _ j=>(I g (by have j:w1.heap.size<=g:=j;omega)).1) (fun _ _ _=>trivial);have r:=C.strs;simp only [BU,aS,List.nil_append,bi,Nat.reduceAdd] at d H G r;clear I C N f;have y0:=d.cell 0;have y1:=d.cell 1;have y2:=d.cell 2;have y3:=d.cell 3;have y4:=d.cell 4;have y5:=d.cell 5;have y6:=d.cell 6;have y7:=d.cell 7;have y8:=d.cell 8;have y9:=d.cell 9;have B1:=d.cell 10;have A2:=d.cell 11;have B0:=d.cell 12;simp only [aI,aH,aK] at y0 y1 y2 y3 y4 y5 y6 y7 y8 y9 B1 A2 B0;go_wp2_with fail
   (try simp only [Exit.inBlock,Exit.then])
   refine bodyPost_ret (v:=.agg #[.string ⟨o.toArray⟩,.int .i64 sc,.int .i64 dr,.int .i64 x.kind,.string ⟨x.attr.toArray⟩,.string ⟨x.value.toArray⟩,.string ⟨x.first.toArray⟩,.string ⟨x.last.toArray⟩,.slice f5 x.any.length h5,.slice f6 x.parts.length h6,.slice u QL y,.bool p,.int .i64 sz]) ?_ rfl ⟨_,rfl,⟨f5,f6,u,h5,h6,y,rfl,G,r⟩,H⟩;clear d H G r m0 t0 m1 t1 m2 t2 m3 t3 m4 t4 m5 t5 m6 t6 m7 t7 m8 t8 m9 t9 m10 A9 m11 A6 m12 t12;generalize B7:(World.setCell _ ⟨w.heap.size+1,12,none⟩ (.int .i64 sz))=wf at*;rw [BM rfl];go_simp
theorem Abx (n:Nat) (q:SeS.Rq) (v:Value) (w:World) (h:EC n w v q):Calls prog 22 #[v] w fun e w'=>∃b,e=.returned (.bool b)/\Hid (b=true->FiS.wdF 2000 q.filter/\q.attrs.length<=100/\q.base.length<=3000)/\Below w.heap.size w w':=by
 obtain ⟨a5,E,A,c5,B,H,rfl,d,r⟩:=h;obtain ⟨k,sc,dr,x,at_,F,sz⟩:=q;simp only at d r⊢;have m:=hZ9 (fun W (hb:Below w.heap.size w W)=>AaF n x _ W (d.call hb));clear d r;generalize s:at_.length=j at*;clear s;have g:=Af w (.cells #[.string ⟨k.toArray⟩,.int .i64 sc,.int .i64 dr,.int .i64 x.kind,.string ⟨x.attr.toArray⟩,.string ⟨x.value.toArray⟩,.string ⟨x.first.toArray⟩,.string ⟨x.last.toArray⟩,.slice a5 x.any.length c5,.slice E x.parts.length B,.slice A j H,.bool F,.int .i64 sz] 28);have a:=Whole.made w 28 #[.string ⟨k.toArray⟩,.int .i64 sc,.int .i64 dr,.int .i64 x.kind,.string ⟨x.attr.toArray⟩,.string ⟨x.value.toArray⟩,.string ⟨x.first.toArray⟩,.string ⟨x.last.toArray⟩,.slice a5 x.any.length c5,.slice E x.parts.length B,.slice A j H,.bool F,.int .i64 sz];have r0:=a.cell 0;have C:=a.cell 1;have r2:=a.cell 2;have u:=a.cell 3;have z:=a.cell 4;have I:=a.cell 5;have y:=a.cell 6;have G:=a.cell 7;have r8:=a.cell 8;have r9:=a.cell 9;have f:=a.cell 10;have l:=a.cell 11;have p:=a.cell 12;simp only [aI,aH,aK] at r0 C r2 u z I y G r8 r9 f l p;have o:=m.out _ g;clear m a;go_enter func22,ntmps22;go_wp2_with fail;refine o.mono ?_;rintro e w1 ⟨b,rfl,t,i⟩;have c:=g.trans (i.mono g.size);have L:=Ab r0 i;have J:=Ab f i;clear o r0 C r2 u z I y G r8 r9 f l p;cases b with
 | false=>go_wp2_with fail;go_ret;exact ⟨false,rfl,hZ9 (fun h=>by cases h),c⟩
 | true=>
 have t:=hZ9 (t.out rfl);by_cases h1:j<=100
 case neg=>have d1:decide ((j:Int)<=100)=false:=aC (by omega);clear h1;go_wp2_with fail;go_ret;exact ⟨false,rfl,hZ9 (fun h=>by cases h),c⟩
 have d1:decide ((j:Int)<=100)=true:=aL (by omega);by_cases h2:k.length<=3000
 case neg=>have d2:decide ((k.length:Int)<=3000)=false:=aC (by omega);clear h1 h2;go_wp2_with fail;go_ret;exact ⟨false,rfl,hZ9 (fun h=>by cases h),c⟩
 have d2:decide ((k.length:Int)<=3000)=true:=aL (by omega);have K:=hZ9 (show FiS.wdF 2000 x/\j<=100/\k.length<=3000 from ⟨t.out.1,h1,h2⟩);clear h1 h2;go_wp2_with fail;go_ret;exact ⟨true,rfl,hZ9 (fun _=>K.out),c⟩
theorem Adz {l:List EnS.En} (h:∀k (hk:k<l.length),atI l (l[k]'hk).name=some k):SeS.BD l:=fun a d b hb e=>by obtain ⟨i,f,rfl⟩:=bf.1 d;obtain ⟨j,c,rfl⟩:=bf.1 hb;have h1:=h i f;rw [e,h j c] at h1;have h2:=aU h1;subst h2;rfl
theorem Ad0 (v:Value) (l:List EnS.En) (w:World) (h:Cm w v l) (H:l.length<=1048576) (J:∀e ∈ l,e.name.length<=1000000) (hE:Env w):Calls prog 23 #[v] w fun e w'=>∃b,e=.returned (.bool b)/\Hid (b=true->∀k (hk:k<l.length),atI l (l[k]'hk).name=some k)/\Below w.heap.size w w':=by
 have p:=hZ9 (fun k (hk:k<l.length) W (hb:Below w.heap.size w W)=>Agy v l (l[k]'hk).name W (hE.below hb) (AV.call h hb) H (J _ (aZ hk)));unfold GP at p;obtain ⟨a,c,x,hc,t⟩:=Ad.at h;have s:=hZ9 t;clear t h J hE;obtain ⟨L,F⟩:∃m,l.length=m:=⟨_,rfl⟩
 have I:=hZ9 F;rw [F] at hc H x;have M:=hZ9 x;rw [x];clear F x;go_enter func23,ntmps23;go_wp2_with fail;go_loopw [6] (fun i wr=>∃k:Nat,k<=L/\i=.int .i64 k/\Hid (∀j (n:j<l.length),j<k->atI l (l[j]'n).name=some j)/\Below w.heap.size w wr) (fun i _=>L - (intOf i).toNat)
 case atStart=>exact ⟨0,aR _,rfl,hZ9 (fun j _ h=>absurd h (cu _)),Below.refl _ _⟩
 case round=>
  obtain ⟨k,hk,rfl,y,hb⟩:=hrel;by_cases C:k<L
  case neg=>have S:Hid (∀j (n:j<l.length),atI l (l[j]'n).name=some j):=hZ9 (fun j n=>y.out j n (by have:=I.out;omega));clear p s y;go_wp2_with fail;go_ret;exact ⟨true,rfl,hZ9 (fun _=>S.out),hb⟩
  have d:k<l.length:=by rw [I.out];exact C
  obtain ⟨g,o,rfl,P,_,hra⟩:=s.out k d;obtain ⟨c0,a2,p2,c1,K,_⟩:=Df.parts (Df.call hra P trivial hb);have f:=p.out k d wr hb;rw [M.out] at f;have G:Hid (atI l (l[k]'d).name=some k->∀j (n:j<l.length),j<k+1->atI l (l[j]'n).name=some j):=hZ9 (fun h j n A=>by
   rcases br (cF A) with h2 | rfl
   · exact y.out j n h2
   · exact h)
  clear p s y hra;generalize hR:atI l (l[k]'d).name=R at*;clear hR;generalize l[k]=z at*;obtain ⟨name,N⟩:=z;simp only at c0 c1 f;have Q:(0:Int)<=(k:Int):=by omega
  have O:(k:Int)<(L:Int):=by omega
  have q:Hid (KG R=(k:Int)->R=some k):=hZ9 (fun h=>by
   cases R with
   | none=>unfold KG at h;simp only at h;omega
   | some r=>unfold KG at h;simp only at h;rw [Int.ofNat_inj.1 h])
  generalize KG R=X at*;go_wp2_with fail;refine f.mono ?_;rintro e w2 ⟨rfl,B⟩;have u:=hb.trans (B.mono hb.size);clear f c0 c1;by_cases hx:X=(k:Int)
  case neg=>
   have T:(X !=(k:Int))=true:=by simpa using hx
   clear G q hx;go_wp2_with fail;go_ret;exact ⟨false,rfl,hZ9 (fun h=>by cases h),u⟩
  have T:(X !=(k:Int))=false:=by simpa using hx
  have E:=hZ9 (G.out (q.out hx));clear G q hx;go_wp2_with fail;go_roundw
  case rel=>exact ⟨k+1,by omega,by go_num,E,u⟩
  case measure=>simp [intOf];omega
def QV (l:List EnS.En) (q:SeS.Rq):Prop:=Eb l/\SeS.Bt l/\(∀e ∈ l,e.name≠[])/\SeS.BD l/\l.length<=60/\FiS.wdF 2000 q.filter/\q.attrs.length<=100/\q.base.length<=3000
theorem AeN (n:Nat) (u v:Value) (l:List EnS.En) (q:SeS.Rq) (w:World) (hE:Env w) (hu:Cm w u l) (Q:EnS.AC EnS.cE l<=1048576) (h:EC n w v q) (hs:q.base.length<=1048576):Calls prog 8 #[u,v] w fun e w'=>∃b,e=.returned (.bool b)/\Hid (b=true->QV l q)/\Below w.heap.size w w':=by
 have B:=aY (KE l) Q;unfold QV;have r:=hZ9 (fun W (hb:Below w.heap.size w W)=>Abx n q v W (h.call hb));have A:=hZ9 (fun W (hb:Below w.heap.size w W) hn=>Ad0 u l W (AV.call hu hb) B hn (hE.below hb));have g:=hZ9 (fun W (hb:Below w.heap.size w W)=>AeM u l q.base W (hE.below hb) (AV.call hu hb) Q hs);unfold Vs at g;obtain ⟨ua,uc,G,_⟩:=Ad.form hu;obtain ⟨H,s⟩:∃k,l.length=k:=⟨_,rfl⟩
 have A0:=hZ9 s;rw [s] at G B⊢;have HV:=hZ9 G;obtain ⟨a5,a6,Z,c5,c6,ca,rfl,I,R⟩:=h;obtain ⟨Y,sc,dr,x,at_,tn,sz⟩:=q;simp only at r g⊢;clear I R hE Q hs hu;generalize at_.length=QL at*;have p:=Af w (.cells #[.string ⟨Y.toArray⟩,.int .i64 sc,.int .i64 dr,.int .i64 x.kind,.string ⟨x.attr.toArray⟩,.string ⟨x.value.toArray⟩,.string ⟨x.first.toArray⟩,.string ⟨x.last.toArray⟩,.slice a5 x.any.length c5,.slice a6 x.parts.length c6,.slice Z QL ca,.bool tn,.int .i64 sz] 28);have c:=Whole.made w 28 #[.string ⟨Y.toArray⟩,.int .i64 sc,.int .i64 dr,.int .i64 x.kind,.string ⟨x.attr.toArray⟩,.string ⟨x.value.toArray⟩,.string ⟨x.first.toArray⟩,.string ⟨x.last.toArray⟩,.slice a5 x.any.length c5,.slice a6 x.parts.length c6,.slice Z QL ca,.bool tn,.int .i64 sz];have r0:=c.cell 0;have N:=c.cell 1;have r2:=c.cell 2;have J:=c.cell 3;have L:=c.cell 4;have U:=c.cell 5;have K:=c.cell 6;have T:=c.cell 7;have r8:=c.cell 8;have r9:=c.cell 9;have o:=c.cell 10;have m:=c.cell 11;have t:=c.cell 12;simp only [aI,aH,aK] at r0 N r2 J L U K T r8 r9 o m t;have y:=g.out _ p;rw [G] at y⊢;clear g c G s;go_enter func8,ntmps8;go_wp2_with fail;refine y.mono ?_;rintro e w1 ⟨b,rfl,hb,a⟩;have f:=p.trans (a.mono p.size);cases b with
 | false=>go_wp2_with fail;go_ret;exact ⟨false,rfl,hZ9 (fun h=>by cases h),f⟩
 | true=>
 have X:=hZ9 (hb rfl);clear hb y;by_cases h1:H<=60
 case neg=>have d1:decide ((H:Int)<=60)=false:=aC (by omega);clear h1;go_wp2_with fail;go_ret;exact ⟨false,rfl,hZ9 (fun h=>by cases h),f⟩
 have d1:decide ((H:Int)<=60)=true:=aL (by omega);have k0:=Ab r0 a;have k1:=Ab N a;have k2:=Ab r2 a;have k3:=Ab J a;have k4:=Ab L a;have k5:=Ab U a;have k6:=Ab K a;have k7:=Ab T a;have k8:=Ab r8 a;have k9:=Ab r9 a;have V:=Ab o a;have S:=Ab m a;have k12:=Ab t a;have E:=r.out _ f;have d:=fun W hb=>A.out W hb (fun e z=>(X.out.1.2 e z).1);have j:=hZ9 d;have C:=hZ9 h1;clear r A d r0 N r2 J L U K T r8 r9 o m t h1;go_wp2_with fail;refine E.mono ?_;rintro e w2 ⟨b,rfl,HB,P⟩;have i:=f.trans (P.mono f.size);clear E k0 k1 k2 k3 k4 k5 k6 k7 k8 k9 V S k12;cases b with
 | false=>go_wp2_with fail;go_ret;exact ⟨false,rfl,hZ9 (fun h=>by cases h),i⟩
 | true=>
 have F:=hZ9 (HB.out rfl);have d:=j.out w2 i;rw [HV.out] at d;clear HB j;go_wp2_with fail;refine d.mono ?_;rintro e w3 ⟨b,rfl,HC,O⟩;have M:=i.trans (O.mono i.size);have HD:Hid (b=true->Eb l/\SeS.Bt l/\(∀e ∈ l,e.name≠[])/\SeS.BD l/\H<=60/\FiS.wdF 2000 x/\QL<=100/\Y.length<=3000):=hZ9 (fun h=>by
  obtain ⟨a1,a2,a3⟩:=X.out;obtain ⟨b1,b2,b3⟩:=F.out;have ho:SeS.Bt l:=fun e z=>(a3 e z).1;refine ⟨a1,ho,fun e z=>(a3 e z).2,Adz (fun k hk=>HC.out h k hk),C.out,b1,b2,b3⟩)
 clear X F HC C d;go_wp2_with fail;go_ret;exact ⟨b,rfl,HD,M⟩
end
end Go.Proofs.YtgngjfjaelgaeaaGreatDoor
namespace Go.Proofs.YtgngjfjaelgaeaaGreatDoor.PoS
open Go.Lib RdS DnS
structure Rl where
 who:List UInt8
 target:List UInt8
 attr:List UInt8
 rights:Int
 allow:Bool
 deriving DecidableEq
end Go.Proofs.YtgngjfjaelgaeaaGreatDoor.PoS
