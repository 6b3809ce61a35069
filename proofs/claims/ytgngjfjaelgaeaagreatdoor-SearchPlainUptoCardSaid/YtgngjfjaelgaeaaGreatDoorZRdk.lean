/- Rows of the call's own, whose elements are a text and a slice: attributes, entries. Conditions: as stated. -/
import Derived.Deep.Upon
import Derived.Test.YtgngjfjaelgaeaaGreatDoorZFik
set_option maxRecDepth 100000
set_option maxHeartbeats 8000000
namespace Go.Proofs.YtgngjfjaelgaeaaGreatDoor
open Go.Proofs.Tryz
variable {xs:List iK} {Ts:List TypeId} {x y:iK} {B C g k n:Nat} {T:TypeId} {u v:Value} {w w':World}
section
open Go.RowKit
def okT(Ts:List TypeId)(B:Nat)(w:World)(g:Nat):Prop:=g<B\/∃cs T fz,w.heap[g]?=some (.cells cs T fz)/\T∈Ts
theorem okT.same(h:okT Ts B w g)(e:w'.heap[g]?=w.heap[g]?):okT Ts B w' g:=by
 rcases h with h|⟨cs,T,fz,h,a⟩
 ·exact .inl h
 ·exact .inr ⟨cs,T,fz,e.trans h,a⟩
theorem okT.mono{Ts':List TypeId}{a:Nat}(h:okT Ts B w g)(hB:B<=a)(c:∀T∈Ts,T∈Ts'):okT Ts' a w g:=by
 rcases h with h|⟨cs,T,fz,h,b⟩
 ·exact .inl (ae h hB)
 ·exact .inr ⟨cs,T,fz,h,c T b⟩
structure KLay (α:Type) where
 key:α->iK
 El:(Nat->Prop)->World->Value->α->Prop
 keep:∀{ok ok':Nat->Prop} {w w':World} {u:Value} {x:α},El ok w u x->w.heap.size<=w'.heap.size->(∀g,g<w.heap.size->ok g->w'.heap[g]?=w.heap[g]?)->(∀g,g<w.heap.size->ok g->ok' g)->El ok' w' u x
 one:∀{ok:Nat->Prop} {w:World} {u:Value} {x:α},El ok w u x->u.oneCell'=true
def atK:KLay EnS.At:=⟨EnS.At.typ,λok w u x=>Am ok w u x.vals,λh=>Am.keep h,λh=>by obtain⟨a,c,rfl,_⟩:=Ad.form h;rfl⟩
def enK:KLay EnS.En:=⟨EnS.En.name,λok w u x=>Aw ok w u x.attrs,λh=>Aw.keep h,λh=>by obtain⟨a,c,rfl,_⟩:=Ad.form h;rfl⟩
def flatK{α:Type}(L:KLay α):List α->List Value->List Value
 |x :: xs,u :: us=>Ac (L.key x) :: u :: flatK L xs us
 |_,_=>[]
theorem GI{α:Type}(L:KLay α):∀(xs:List α) (a:List Value) (i:Nat) (x:α) (u:Value),xs[i]?=some x->a[i]?=some u->(flatK L xs a)[i*2]?=some (Ac (L.key x))/\(flatK L xs a)[i*2+1]?=some u
 |[],_,i,x,u,h,_=>by simp at h
 |_ :: _,[],i,x,u,_,h=>by simp at h
 |y :: xs,z :: a,0,x,u,h,k=>by simp only[aH,bq] at h k;subst h;subst k;exact⟨rfl,rfl⟩
 |y :: xs,z :: a,i+1,x,u,h,k=>by
  have b:=GI L xs a i x u (by simpa using h) (by simpa using k);have e:(i+1)*2=i*2+1+1:=by omega
  rw[e];exact⟨by simpa[flatK] using b.1,by simpa[flatK] using b.2⟩
theorem ND{α:Type}(L:KLay α)(x:α)(u:Value):∀(xs:List α) (a:List Value),a.length=xs.length->flatK L (xs++[x]) (a++[u])=flatK L xs a++[Ac (L.key x),u]
 |[],[],_=>rfl
 |[],_ :: _,h=>by simp at h
 |_ :: _,[],h=>by simp at h
 |y :: xs,z :: a,h=>by have:=ND L x u xs a (by simpa using h);simp[flatK,this]
theorem Td{α:Type}(L:KLay α)(v:Value):∀(xs:List α) (a:List Value) (i:Nat),a.length=xs.length->(flatK L xs a).set (i*2+1) v=flatK L xs (a.set i v)
 |[],[],i,_=>by simp[flatK]
 |[],_ :: _,i,h=>by simp at h
 |_ :: _,[],i,h=>by simp at h
 |y :: xs,z :: a,0,_=>rfl
 |y :: xs,z :: a,i+1,h=>by
  have:=Td L v xs a i (by simpa using h);have e:(i+1)*2+1=i*2+1+1+1:=by omega
  rw[e];simp[flatK,this]
def Ao{α:Type}(L:KLay α)(T:TypeId)(Ts:List TypeId)(C:Nat)(w:World)(B:Nat)(v:Value)(xs:List α):Prop:=
 ∃a:List Value,w.ownsRow B T 2 v xs.length (flatK L xs a)/\a.length=xs.length/\∀(i:Nat) (u:Value) (x:α),a[i]?=some u->xs[i]?=some x->L.El (okT Ts C w) w u x
theorem Ao.empty{α:Type}(L:KLay α)(T:TypeId)(Ts:List TypeId)(C:Nat)(w:World)(B:Nat):Ao L T Ts C w B (.slice none 0 0) []:=⟨[],World.ownsRow_nil w B _ 2,rfl,λi u x h=>by simp at h⟩
theorem Ao.form{α:Type}{L:KLay α}{xs:List α}(h:Ao L T Ts C w B v xs):∃a c,v=.slice a xs.length c:=by
 obtain⟨d,h,_⟩:=h;rcases h.2 with⟨rfl,b⟩|⟨g,cap,cur,rfl,_⟩
 ·exact⟨_,_,by rw[b]⟩
 ·exact⟨_,_,rfl⟩
theorem Ao.call{α:Type}{L:KLay α}{xs:List α}(h:Ao L T Ts C w B v xs)(hb:Below w.heap.size w w'):Ao L T Ts C w' B v xs:=by obtain⟨e,h1,h2,h3⟩:=h;exact⟨e,World.ownsRow.kept h1 (Bc hb) (by cases v.ownBlock<;>simp),h2,λi u l a b=>L.keep (h3 i u l a b) hb.size (λg d _=>hb.block g d) (λg d c=>c.same (hb.block g d))⟩
theorem Ao.mono{α:Type}{L:KLay α}{a:Nat}{xs:List α}(h:Ao L T Ts C w B v xs)(hB:a<=B):Ao L T Ts C w a v xs:=by obtain⟨b,h1,h2,h3⟩:=h;exact⟨b,World.ownsRow.mono h1 hB,h2,h3⟩
theorem Ao.read{α:Type}{L:KLay α}{xs:List α}(h:Ao L T Ts C w B v xs)(ok:Nat->Prop)(f:∀g,g<w.heap.size->okT Ts C w g->ok g)(a:∀g cs,w.heap[g]?=some (.cells cs T (0,0))->B<=g->ok g):
  Ad 2 (λw g o x=>w.cell? ⟨g,o,none⟩=some (Ac (L.key x))/\∃u,w.cell? ⟨g,o+1,none⟩=some u/\L.El ok w u x) ok w v xs:=by
 obtain⟨e,h1,h2,h3⟩:=h;rcases h1.2 with⟨rfl,c⟩|⟨g,cap,cur,rfl,p,m,c,s,hsz,q⟩
 ·exact⟨none,0,by rw[c],by omega,.inl (aY c)⟩
 ·refine⟨some ⟨g,0,none⟩,cap,rfl,c,.inr ⟨g,0,rfl,(ah.1 m).1,a g cur m p,λj x d=>?_⟩⟩;have l:j<e.length:=by rw[h2];exact(ak.1 d).1
  have hu:=aK l;obtain⟨r,f1⟩:=GI L xs e j x _ d hu;have c0:=World.ownsRow.cells h1 (g:=g) rfl (j*2) _ r;have c1:=World.ownsRow.cells h1 (g:=g) rfl (j*2+1) _ f1;have b:∀i,(⟨g,0,none⟩:Addr).add i=⟨g,0+i,none⟩:=λi=>by unfold Addr.add;split<;>simp_all
  rw[b] at c0 c1;exact⟨c0,e[j],c1,L.keep (h3 j _ x hu d) (aA _) (λ_ _ _=>rfl) f⟩
theorem Ao.attrs{xs:List EnS.At}(h:Ao atK T Ts C w B v xs):BA w v xs:=h.read (λ_=>True) (λ_ _ _=>trivial) (λ_ _ _ _=>trivial)
theorem Ao.ens{xs:List EnS.En}(h:Ao enK T Ts C w B v xs):Ci w v xs:=h.read (λ_=>True) (λ_ _ _=>trivial) (λ_ _ _ _=>trivial)
theorem Ao.attrsB{Ts':List TypeId}{xs:List EnS.At}(h:Ao atK T Ts C w B v xs)(b:T∈Ts')(a:∀t∈Ts,t∈Ts'):Aw (okT Ts' C w) w v xs:=
 h.read (okT Ts' C w) (λ_g _ c=>c.mono (aA _) a) (λ_g cs e _=>.inr ⟨cs,T,_,e,b⟩)
theorem FX{α:Type}{L:KLay α}{xs:List Value}(hC:C<=B)(d:T∉Ts)(h1:w.ownsRow B T 2 v n xs)(c:w.grownBy w' v.ownBlock){x:α}(h:L.El (okT Ts C w) w u x):L.El (okT Ts C w') w' u x:=by
 have hblk:∀g,g<w.heap.size->okT Ts C w g->w'.heap[g]?=w.heap[g]?:=λg b a=>by
  refine c.block g b (λe=>?_);rcases h1.2 with⟨rfl,_⟩|⟨k,cap,cur,rfl,hk,i,_⟩
  ·cases e
  ·cases e;rcases a with a|⟨cs,j,fz,a,f⟩
   ·exact absurd (aX hC hk) (Nat.not_le_of_lt a)
   ·rw[i] at a;cases a;exact d f
 exact L.keep h c.size hblk (λg b a=>a.same (hblk g b a))
theorem Ao.grow{α:Type}{L:KLay α}(hC:C<=B)(f:T∉Ts){j:Value}{xs:List α}{a:List Value}(h1:w.ownsRow B T 2 v xs.length (flatK L xs a))(h2:a.length=xs.length)
  (h3:∀(i:Nat) (u:Value) (x:α),a[i]?=some u->xs[i]?=some x->L.El (okT Ts C w) w u x){x:α}(hx:L.El (okT Ts C w) w u x)
  (h4:w'.ownsRow B T 2 j (xs.length+1) (flatK L xs a++[Ac (L.key x),u]))(h:w.grownBy w' v.ownBlock):Ao L T Ts C w' B j (xs++[x]):=by
 refine⟨a++[u],by rw[aT,ND L x u xs a h2];exact h4,by simp[h2],λi z y b c=>?_⟩;by_cases e:i<a.length
 ·rw[bN e] at b;rw[bN (by omega)] at c;exact FX hC f h1 h (h3 i z y b c)
 ·have d:i=a.length:=by
   have:=(ak.1 b).1;simp at this;omega
  subst d;rw[bH (aA _)] at b;rw[h2,bH (aA _)] at c;simp at b c;subst b;subst c;exact FX hC f h1 h hx
theorem Acx{k:Value}(h0:w.cell? ⟨g,0,none⟩=some k)(h1:w.cell? ⟨g,1,none⟩=some u):∀(j:Nat) (z:Value),[k,u][j]?=some z->w.cell? ((⟨g,0,none⟩:Addr).add j)=some z:=λj z a=>by
 have b:(⟨g,0,none⟩:Addr).add j=⟨g,0+j,none⟩:=by unfold Addr.add;split<;>simp_all
 rw[b]
 match j,a with
 |0,a=>simp at a;subst a;exact h0
 |1,a=>simp at a;subst a;exact h1
 |j+2,a=>simp at a
theorem NE{α:Type}(L:KLay α){ops:Array Oper}{rest:List Oper}{o:Oper}{a:Act}{Q:Exit->Act->World->Prop}(T e:TypeId)(Ts:List TypeId)(A:T∉Ts)(l:prog.underlying e=some (.slice T)){i0:TypeInfo}{z:Value}
  (F:prog.info? T=some i0)(r:i0.zero=some z)(b:i0.size=2)(p:i0.bytes=40)(f:z.cells.size=2)(j:o.guard=none)(s x:Operand)
  (E:o.op=.call { callee:=.builtin .append,args:=#[s,x],argTypes:=#[e,e] })
  (B:Nat)(hC:C<=B)(v:Value)(xs:List α)(t:a.eval s=v)(c:Ao L T Ts C w B v xs)(g:Nat)(hx:a.eval x=.slice (some ⟨g,0,none⟩) 1 1)
  (y:α)(u0:Value)(i:w.cell? ⟨g,0,none⟩=some (Ac (L.key y)))(m:w.cell? ⟨g,1,none⟩=some u0)(q:L.El (okT Ts C w) w u0 y)(G:xs.length<=1000000000)(hB:B<=w.heap.size)
  (h:∀d w',Ao L T Ts C w' B d (xs++[y])->Below B w w'->w.grownBy w' v.ownBlock->wpList prog ops Q rest (a.put o.dst d) w'):wpList prog ops Q (o :: rest) a w:=by
 obtain⟨H,h1,h2,h3⟩:=c;exact wpList_append_own w j s x _ E B T i0 z 2 40 l F r b p f (by decide) v xs.length _ t h1 ⟨g,0,none⟩ 1 1 [Ac (L.key y),u0] hx rfl
  (Acx i m) (λu hu=>by
    rcases ay.1 hu with rfl|hu
    ·rfl
    ·rw[aj] at hu;subst hu;exact L.one q) (by unfold maxLen;omega) (by omega) hB
  (λd w' h4 h5 _=>h d w' (Ao.grow hC A h1 h2 h3 q h4 h5) ((Below.refl B w).grown h5 hB (λk hk=>(World.ownsRow.lt h1 k hk).1)) h5)
theorem Ahc{α:Type}(L:KLay α){o:Oper}{a:Act}{K:Act->World->Prop}{Q:Exit->Act->World->Prop}(T e:TypeId)(Ts:List TypeId)(t:T∉Ts)(j:prog.underlying e=some (.slice T)){i0:TypeInfo}{z:Value}
  (E:prog.info? T=some i0)(q:i0.zero=some z)(b:i0.size=2)(m:i0.bytes=40)(f:z.cells.size=2)(s x:Operand)
  (A:o.op=.call { callee:=.builtin .append,args:=#[s,x],argTypes:=#[e,e] })
  (B:Nat)(hC:C<=B)(v:Value)(xs:List α)(r:a.eval s=v)(c:Ao L T Ts C w B v xs)(g:Nat)(hx:a.eval x=.slice (some ⟨g,0,none⟩) 1 1)
  (y:α)(u0:Value)(i:w.cell? ⟨g,0,none⟩=some (Ac (L.key y)))(l:w.cell? ⟨g,1,none⟩=some u0)(p:L.El (okT Ts C w) w u0 y)(F:xs.length<=1000000000)(hB:B<=w.heap.size)
  (h:∀d w',Ao L T Ts C w' B d (xs++[y])->Below B w w'->w.grownBy w' v.ownBlock->K (a.put o.dst d) w'):Oper.wp prog o a w K Q:=by
 obtain⟨G,h1,h2,h3⟩:=c;exact wp_append_own w s x _ A B T i0 z 2 40 j E q b m f (by decide) v xs.length _ r h1 ⟨g,0,none⟩ 1 1 [Ac (L.key y),u0] hx rfl
  (Acx i l) (λu hu=>by
    rcases ay.1 hu with rfl|hu
    ·rfl
    ·rw[aj] at hu;subst hu;exact L.one p) (by unfold maxLen;omega) (by omega) hB
  (λd w' h4 h5 _=>h d w' (Ao.grow hC t h1 h2 h3 p h4 h5) ((Below.refl B w).grown h5 hB (λk hk=>(World.ownsRow.lt h1 k hk).1)) h5)
theorem Ao.stored{α:Type}{L:KLay α}(hC:C<=B)(m:T∉Ts){cap:Nat}{xs:List α}(r:n=xs.length)(h:Ao L T Ts C w B (.slice (some ⟨g,0,none⟩) n cap) xs)(i:Nat)(y:α)(hk:∀x,xs[i]?=some x->L.key y=L.key x)(u:Value)
  (hu:L.El (okT Ts C w) w u y):Ao L T Ts C (w.setCell ⟨g,i*2+1,none⟩ u) B (.slice (some ⟨g,0,none⟩) n cap) (xs.set i y)/\Below B w (w.setCell ⟨g,i*2+1,none⟩ u):=by
 subst r;obtain⟨a,h1,h2,h3⟩:=h;obtain⟨q,o⟩:=World.ownsRow.stored h1 (i*2+1) u;have l:B<=g:=(World.ownsRow.lt h1 g rfl).1;have f:∀(xs:List α) (a:List Value) (i:Nat),(∀x,xs[i]?=some x->L.key y=L.key x)->flatK L (xs.set i y) a=flatK L xs a:=by
  intro xs
  induction xs with
  |nil=>intro a i _;rfl
  |cons x xs s=>
   intro a i hk;cases a with
   |nil=>cases i<;>rfl
   |cons z a=>
    cases i with
    |zero=>simp[flatK,hk x rfl]
    |succ i=>simp[flatK,s a i (λx hx=>hk x (by simpa using hx))]
 refine⟨⟨a.set i u,?_,by simp[h2],λj z x b hx=>?_⟩,(Below.refl B w).setCell (p:=⟨g,i*2+1,none⟩) l u⟩
 ·rw[List.length_set,f xs _ i hk,<-Td L u xs a i h2];exact q
 ·by_cases e:i=j
  ·subst e;rw[List.getElem?_set_self'] at b hx;cases d:a[i]? with
   |none=>rw[d] at b;simp at b
   |some _=>
    cases c:xs[i]? with
    |none=>rw[c] at hx;simp at hx
    |some _=>rw[d] at b;rw[c] at hx;simp at b hx;subst b;subst hx;exact FX hC m h1 o hu
  ·rw[List.getElem?_set_ne e] at b hx;exact FX hC m h1 o (h3 j z x b hx)
end
section
open Go.RowKit
theorem Wh(x y:iK):Op.bytesLess x y=decide (Lib.compareBytes x y=-1):=RuS.less_iff x y
theorem cmp_lt(h:Op.bytesLess x y=true):Lib.compareBytes x y=-1:=by rw[Wh] at h;exact b7 h
theorem cmp_gt(h:Op.bytesLess y x=true):Lib.compareBytes x y=1:=by have h1:=cmp_lt h;rw[RuS.compare_swap y x,h1];rfl
theorem cmp_eq(h:Op.bytesLess x y=false)(h2:Op.bytesLess y x=false):Lib.compareBytes x y=0:=by rw[Wh] at h h2;have h1:=bf h;have h3:=bf h2;have b:=RuS.compare_range x y;have a:=RuS.compare_swap x y;omega
namespace DnS
theorem Tf:∀(k:Nat) (x y:List iK) (a b:iK),x[k]?=some a->y[k]?=some b->cmpL (x.drop k) (y.drop k)=if Lib.compareBytes a b=0 then cmpL (x.drop (k+1)) (y.drop (k+1)) else Lib.compareBytes a b
 |k,x,y,a,b,hx,hy=>by obtain⟨d,rfl⟩:=ak.1 hx;obtain⟨c,rfl⟩:=ak.1 hy;rw[av d,av c,cmpL]
theorem Ti{x y:List iK}(hx:k<x.length)(a:y.length<=k):cmpL (x.drop k) (y.drop k)=1:=by rw[av hx,bO a,cmpL]
theorem Tj{x y:List iK}(hx:x.length<=k)(a:k<y.length):cmpL (x.drop k) (y.drop k)=-1:=by rw[av a,bO hx,cmpL]
theorem Wi{x y:List iK}(hx:x.length<=k)(a:y.length<=k):cmpL (x.drop k) (y.drop k)=0:=by rw[bO hx,bO a,cmpL]
end DnS
theorem Ah.cells{a:Option Addr}{c:Nat}(h:Ah w (.slice a n c) xs):xs.length=n/\n<=c/\∀(k:Nat) (y:iK),xs[k]?=some y->∃g o,a=some ⟨g,o,none⟩/\g<w.heap.size/\w.cell? ⟨g,o+k,none⟩=some (Ac y):=by
 obtain⟨f,i,e,hc,b⟩:=h;cases e;refine⟨rfl,hc,λk y hk=>?_⟩;rcases b with rfl|⟨g,o,rfl,d,hcell⟩
 ·simp at hk
 ·exact⟨g,o,rfl,d,hcell k y hk⟩
def AfA(n:Int)(w:World)(e:Ending)(w':World):Prop:=e=.returned n/\w=w'
theorem OS{B b:Nat}{a:World}(hb:B<=b):∀(vs:List Value) (o:Nat) (w:World),Below B a w->Below B a (w.setCells b o vs)
 |[],_,_,h=>h
 |v :: r,o,_,h=>OS hb r (o+1) _ (h.setCell (p:=⟨b,o,none⟩) hb v)
theorem Dz(h:Own w B v xs)(hk:v.ownBlock=some k):B<=k/\k<w.heap.size:=by
 rcases h.2 with⟨rfl,_⟩|⟨g,cap,cur,rfl,b,a,_⟩
 ·cases hk
 ·cases hk;exact⟨b,(ah.1 a).1⟩
theorem Own.kept(h:Own w B v xs)(hb:∀k,v.ownBlock=some k->w'.heap[k]?=w.heap[k]?):Own w' B v xs:=by
 refine⟨h.1,?_⟩;rcases h.2 with h|⟨g,cap,cur,rfl,c,d,b,e,hsz,a⟩
 ·exact .inl h
 ·exact .inr ⟨g,cap,cur,rfl,c,(hb g rfl).trans d,b,e,hsz,a⟩
theorem Ah.kept{ys:List iK}(l:Own w B v ys)(h:Ah w v xs)(e:w.heap.size<=w'.heap.size)(hb:∀k,v.ownBlock=some k->w'.heap[k]?=w.heap[k]?):Ah w' v xs:=by
 obtain⟨a,c,rfl,hc,b⟩:=h;refine⟨a,c,rfl,hc,?_⟩;rcases b with h|⟨g,o,rfl,i,hcell⟩
 ·exact .inl h
 ·refine .inr ⟨g,o,rfl,ae i e,λj y f=>?_⟩;have d:(Value.slice (some ⟨g,o,none⟩) xs.length c).ownBlock=some g:=rfl;exact(World.cell?_of_block (a:=⟨g,o+j,none⟩) (hb g d)).trans (hcell j y f)
end
section
open Go.RowKit
def Wj(n:Int)(w:World)(e:Ending)(w':World):Prop:=e=.returned n/\Below w.heap.size w w'
def Acy(xs ys:List iK)(w:World)(i:Value)(wr:World):Prop:=
 ∃k:Nat,k<=xs.length/\k<=ys.length/\i=.int .i64 (k+1:Nat)/\DnS.ER xs ys=DnS.cmpL (xs.reverse.drop k) (ys.reverse.drop k)/\Below w.heap.size w wr
theorem AfB(K v2:Value)(xs ys:List iK)(w:World)(h1:Ah w K xs)(h2:Ah w v2 ys)(hl:xs.length<=1000)(P:ys.length<=1000):Calls prog 80 #[K,v2] w (Wj (DnS.ER xs ys) w):=by
 obtain⟨a1,c1,rfl⟩:=h1.form;obtain⟨a2,c2,rfl⟩:=h2.form;obtain⟨-,W,C1⟩:=h1.cells;obtain⟨-,S,M⟩:=h2.cells;have t:=hZ9 C1;have E:=hZ9 M;clear h1 h2 C1 M;generalize O:xs.length=n at*;generalize L:ys.length=m at*;have e:=hZ9 O;have d:=hZ9 L;clear O L;go_enter func80,ntmps80;go_wp2_with fail;go_loopw [5] (λi wr=>Acy xs ys w i wr) (λi _=>n+1-(intOf i).toNat)
 case atStart=>exact⟨0,aR _,aR _,rfl,rfl,Below.refl _ _⟩
 case round=>
  obtain⟨k,hk,F,rfl,hd,hb⟩:=hrel;rw[e.out] at hk;rw[d.out] at F;have h:=hZ9 hd;clear hd;by_cases o:k<n
  ·by_cases a:k<m
   ·obtain⟨b,H⟩:∃j,n=j+(k+1):=⟨n-(k+1),by omega⟩
    obtain⟨j2,G⟩:∃j,m=j+(k+1):=⟨m-(k+1),by omega⟩
    have hx1:b<xs.length:=by rw[e.out];omega
    have f:j2<ys.length:=by rw[d.out];omega
    have l:xs.reverse[k]?=some xs[b]:=by rw[gK (by rw[e.out];exact o),e.out,show n-1-k=b from by omega,aK hx1]
    have q:ys.reverse[k]?=some ys[j2]:=by rw[gK (by rw[d.out];exact a),d.out,show m-1-k=j2 from by omega,aK f]
    have z:=hZ9 (DnS.Tf k xs.reverse ys.reverse xs[b] ys[j2] l q);obtain⟨g1,N,rfl,A,d1⟩:=t.out b _ (aK hx1);obtain⟨g2,o2,rfl,s,d2⟩:=E.out j2 _ (aK f);replace d1:wr.cell? ⟨g1,N+b,none⟩=some (Ac xs[b]):=(hb.cell (p:=⟨g1,N+b,none⟩) A).trans d1;replace d2:wr.cell? ⟨g2,o2+j2,none⟩=some (Ac ys[j2]):=(hb.cell (p:=⟨g2,o2+j2,none⟩) s).trans d2;clear l q;generalize xs[b]=x at*;generalize ys[j2]=y at*;unfold Ac at d1 d2;have R:((n:Int)-((k:Int)+1))=(b:Int):=by omega
    have U:((m:Int)-((k:Int)+1))=(j2:Int):=by omega
    have Y:b<n:=by omega
    have Q:j2<m:=by omega
    have X:decide ((k:Int)+1<=(n:Int))=true:=aI (by omega);have q2:decide ((k:Int)+1<=(m:Int))=true:=aI (by omega);have V:decide (k+1<=n)=true:=aI (by omega);have Z:decide (k+1<=m)=true:=aI (by omega);clear hx1 f H G;cases hp:Op.bytesLess x y with
    |true=>
     have HR:Hid (DnS.ER xs ys=-1):=hZ9 (by rw[h.out,z.out,cmp_lt hp];rfl);go_wp2_with fail
     go_quiet (fail)
     go_wp2_with fail;go_ret;exact⟨by rw[HR.out];rfl,hb.trans ((below_drewN wr nq).mono hb.size)⟩
    |false=>
     cases r:Op.bytesLess y x with
     |true=>
      have HR:Hid (DnS.ER xs ys=1):=hZ9 (by rw[h.out,z.out,cmp_gt r];rfl);have J:(x==y)=false:=by rw[RuS.eq_iff,cmp_gt r];rfl
      go_wp2_with fail
      go_quiet (fail)
      go_wp2_with fail;go_ret;exact⟨by rw[HR.out];rfl,hb.trans ((below_drewN wr nq).mono hb.size)⟩
     |false=>
      have HR:Hid (DnS.ER xs ys=DnS.cmpL (xs.reverse.drop (k+1)) (ys.reverse.drop (k+1))):=hZ9 (by rw[h.out,z.out,cmp_eq hp r,aJ rfl]);have J:(x==y)=true:=by rw[RuS.eq_iff,cmp_eq hp r];rfl
      go_wp2_with fail
      go_quiet (fail)
      go_wp2_with fail;go_roundw
      case rel=>exact⟨k+1,by rw[e.out];omega,by rw[d.out];omega,by go_num,HR.out,hb.trans ((below_drewN wr nq).mono hb.size)⟩
      case measure=>simp[intOf];omega
   ·have c:k=m:=by omega
    subst c;have HR:Hid (DnS.ER xs ys=1):=hZ9 (by rw[h.out,DnS.Ti (by rw[bn,e.out];exact o) (by rw[bn,d.out];exact aA _)]);have X:decide ((k:Int)+1<=(n:Int))=true:=aI (by omega);have V:decide (k+1<=n)=true:=aI (by omega);go_wp2_with fail;go_ret;exact⟨by rw[HR.out];rfl,hb⟩
  ·have I:k=n:=by omega
   subst I;by_cases a:k<m
   ·have HR:Hid (DnS.ER xs ys=-1):=hZ9 (by rw[h.out,DnS.Tj (by rw[bn,e.out];exact aA _) (by rw[bn,d.out];exact a)]);go_wp2_with fail;go_ret;exact⟨by rw[HR.out];rfl,hb⟩
   ·have c:k=m:=by omega
    subst c;have HR:Hid (DnS.ER xs ys=0):=hZ9 (by rw[h.out,DnS.Wi (by rw[bn,e.out];exact aA _) (by rw[bn,d.out];exact aA _)]);go_wp2_with fail;go_ret;exact⟨by rw[HR.out];rfl,hb⟩
end
section
open Go.RowKit
theorem Whole.two{x y:Value}(h:Whole w g T #[x,y])(a b:Value):
  w.cell? ⟨g,0,none⟩=some x/\w.cell? ⟨g,1,none⟩=some y/\w.frozen? ⟨g,0,none⟩=false/\w.frozen? ⟨g,1,none⟩=false/\
  (w.setCell ⟨g,0,none⟩ a).cell? ⟨g,1,none⟩=some y/\(w.setCell ⟨g,0,none⟩ a).frozen? ⟨g,1,none⟩=false/\
  ((w.setCell ⟨g,0,none⟩ a).setCell ⟨g,1,none⟩ b).cell? ⟨g,0,none⟩=some a/\((w.setCell ⟨g,0,none⟩ a).setCell ⟨g,1,none⟩ b).cell? ⟨g,1,none⟩=some b:=by
 have h1:=h.put 0 a;have h2:=h1.put 1 b;exact⟨h.cell 0,h.cell 1,h.thaw 0,h.thaw 1,h1.cell 1,h1.thaw 1,h2.cell 0,h2.cell 1⟩
def YX(l:iK)(w:World)(e:Ending)(w':World):Prop:=
 ∃(t v:iK) (b:Bool),e=.returned (.tuple #[.agg #[t,v],b])/\(b=true->RdS.CJ l=some (t,v))/\(b=false->RdS.CJ l=none)/\Below w.heap.size w w'
theorem AfC{l:iK}(hk:k<l.length)(hc:l[k]=61)(a:∀c∈l.take k,c≠61):RdS.nameOf l=l.take k/\l.contains 61=true:=by
 have e:l=l.take k++61 :: l.drop (k+1):=by
  conv=>lhs;rw[<-cK k l,av hk,hc]
 refine⟨?_,?_⟩
 ·unfold RdS.nameOf
  conv=>lhs;rw[e]
  exact RdS.KX a
 ·rw[cg,<-hc];exact aZ hk
theorem Acz(nm:iK):((RuS.typeOf nm).1=[])↔(RuS.typeOf nm).2=0:=by
 rcases RuS.typeM_all (RuS.lower nm) with e|e
 ·have a:RuS.typeOf nm=([],0):=e;rw[a];simp
 ·have h1:1<=(RuS.typeOf nm).2:=e.1;have h2:1<=(RuS.typeOf nm).1.length:=e.2.2.1;constructor
  ·intro h;rw[h] at h2;simp at h2
  ·intro h;omega
theorem Ac0(l:iK)(Y:l.length<=1000000)(w:World):Calls prog 148 #[l] w (YX l w):=by
 have f:=Whole.made w 173 #[.string ⟨#[]⟩,.string ⟨#[]⟩];have hb0:=Af w (.cells #[.string ⟨#[]⟩,.string ⟨#[]⟩] 173);go_enter func148,ntmps148;go_wp2_with fail;generalize L:(w.alloc (.cells #[.string ⟨#[]⟩,.string ⟨#[]⟩] 173))=w0 at*;clear L;go_loop [4] (λi=>∃k:Nat,k<=l.length/\i=.int .i64 k/\Hid (∀c∈l.take k,c≠61)) (λi=>l.length-(intOf i).toNat)
 case atStart=>exact⟨0,aR _,rfl,hZ9 (by simp)⟩
 case round=>
  obtain⟨k,hk,rfl,j⟩:=hrel;by_cases z:k<l.length
  ·have F:=hZ9 (λh=>AfC z h j.out);have E:=hZ9 (aW z);generalize s:l[k]=c at*;have S:∀h,(⟨l.toArray⟩:ByteArray)[k]'h=c:=λ_=>s;clear s;by_cases h61:c=61
   ·have J:((c.toNat:Int) !=61)=false:=by rw[h61];rfl
    have H:=hZ9 (F.out h61);have HP:Hid (RdS.CJ l=if(RuS.typeOf (l.take k)).1=[] then none else(RdS.readS (l.drop (k+1))).map ((RuS.typeOf (l.take k)).1,·)):=hZ9 (by
     unfold RdS.CJ;rw[H.out.2,H.out.1,aJ rfl,ar,cO hk])
    have U:((k:Int)==(l.length:Int))=false:=aV.2 (by omega);have X:(⟨l.toArray⟩:ByteArray).extract 0 k=⟨(l.take k).toArray⟩:=by rw[Eu,bI]
    have W:(⟨l.toArray⟩:ByteArray).extract (k+1) l.length=⟨(l.drop (k+1)).toArray⟩:=by rw[Eu,bA]
    have I:=λw=>Eb ⟨(l.take k).toArray⟩ (by show (l.take k).toArray.size<=_;rw[bS,ar];omega) w;unfold Ak at I;have P:(⟨(l.take k).toArray⟩:ByteArray).data.toList=l.take k:=rfl;rw[P] at I;have R:=λw=>Ab1 (l.drop (k+1)) (by rw[bD];omega) w;unfold Cc at R;have A:=hZ9 (Acz (l.take k));clear h61 P F E;generalize RuS.typeOf (l.take k)=ty at*;obtain⟨t,M⟩:=ty;simp only at I;generalize RdS.readS (l.drop (k+1))=rd at*;go_wp2_with fail;refine(I _).mono ?_;rintro e w1 ⟨rfl,G⟩;go_wp2_with fail;refine(R _).mono ?_;rintro e w2 ⟨rfl,r⟩;have a:=(f.call G).call r;have o:Below w.heap.size w w2:=hb0.trans ((Aa G r).mono hb0.size);cases rd with
    |none=>obtain⟨c0,c1,N,f1,c3,Q,k1,q⟩:=a.two (.string ⟨t.toArray⟩) (.string ⟨#[]⟩);have m:Hid (RdS.CJ l=none):=hZ9 (by rw[HP.out];split<;>rfl);clear a f;go_wp2_with fail;refine bodyPost_ret (v:=.tuple #[.agg #[t,.string ⟨#[]⟩],false]) (by simp[results,results148,go_sem,k1,q]) rfl ?_;exact⟨t,[],false,rfl,(λh=>by cases h),λ_=>m.out,(o.setCell (p:=⟨w.heap.size,0,none⟩) (aA _) _).setCell (p:=⟨w.heap.size,1,none⟩) (aA _) _⟩
    |some v=>
     obtain⟨c0,c1,N,f1,c3,Q,k1,q⟩:=a.two (.string ⟨t.toArray⟩) (.string ⟨v.toArray⟩);clear a f;by_cases b:M=0
     ·have m:Hid (RdS.CJ l=none):=hZ9 (by rw[HP.out,aJ (A.out.2 b)]);have V:(M !=0)=false:=by rw[b];rfl
      clear b;go_wp2_with fail;refine bodyPost_ret (v:=.tuple #[.agg #[t,v],false]) (by simp[results,results148,go_sem,k1,q]) rfl ?_;exact⟨t,v,false,rfl,(λh=>by cases h),λ_=>m.out,(o.setCell (p:=⟨w.heap.size,0,none⟩) (aA _) _).setCell (p:=⟨w.heap.size,1,none⟩) (aA _) _⟩
     ·have m:Hid (RdS.CJ l=some (t,v)):=hZ9 (by rw[HP.out,aG (λh=>b (A.out.1 h))];rfl);have V:(M !=0)=true:=by simpa using b
      clear b;go_wp2_with fail;refine bodyPost_ret (v:=.tuple #[.agg #[t,v],true]) (by simp[results,results148,go_sem,k1,q]) rfl ?_;exact⟨t,v,true,rfl,λ_=>m.out,(λh=>by cases h),(o.setCell (p:=⟨w.heap.size,0,none⟩) (aA _) _).setCell (p:=⟨w.heap.size,1,none⟩) (aA _) _⟩
   ·have O:=hZ9 h61;have J:((c.toNat:Int) !=61)=true:=by rw[fR];exact λh=>O.out (Dn rfl h)
    clear h61;go_wp2_with fail;go_round
    case rel=>exact⟨k+1,by omega,by go_num,hZ9 (by
     intro d hd;rw[E.out] at hd;rcases bB.1 hd with hd|hd
     ·exact j.out d hd
     ·have:=aj.1 hd;rw[this];exact O.out)⟩
    case measure=>simp[intOf];omega
  ·have K:k=l.length:=by omega
   subst K;have m:Hid (RdS.CJ l=none):=hZ9 (by
    have h:=j.out;rw[bA] at h;unfold RdS.CJ;rw[aG];intro hc;exact h 61 (cg.1 hc) rfl)
   obtain⟨c0,c1,N,f1,c3,Q,k1,q⟩:=f.two (.string ⟨#[]⟩) (.string ⟨#[]⟩);clear f;go_wp2_with fail;refine bodyPost_ret (v:=.tuple #[.agg #[.string ⟨#[]⟩,.string ⟨#[]⟩],false]) (by simp[results,results148,go_sem,k1,q]) rfl ?_;exact⟨[],[],false,rfl,(λh=>by cases h),λ_=>m.out,(hb0.setCell (p:=⟨w.heap.size,0,none⟩) (aA _) _).setCell (p:=⟨w.heap.size,1,none⟩) (aA _) _⟩
end
section
open Go.RowKit
attribute [local go_sem ↓] Go.wp_at_zero Go.wp_at_succ
def AfD(xs:List RdS.Pr)(w:World)(i:Value)(wr:World):Prop:=∃k:Nat,k<=xs.length/\i=.int .i64 k/\RdS.IM xs k=true/\Below w.heap.size w wr
theorem Aen{t:iK}(h:t≠[]):Op.bytesLess [] t=true:=by
 cases t with
 |nil=>exact absurd rfl h
 |cons a l=>rfl
theorem IQ(v:Value)(xs:List RdS.Pr)(w:World)(h:AY w v xs)(hf:Fb xs)(hE:Env w):Calls prog 117 #[v] w (JX xs w):=by
 obtain⟨a,c,rfl,hc,h⟩:=h;have HF:=hZ9 (RdS.OH xs);rcases h with rfl|⟨g,o,rfl,P,h⟩
 ·go_enter func117,ntmps117;go_wp2_with fail;go_ret;exact⟨rfl,Below.refl _ _⟩
 ·have H:=hZ9 h;have A4:=hZ9 hf;generalize hn:xs.length=n at*;have HN:=hZ9 hn;clear h hf hn;by_cases S:n=0
  ·subst S;go_enter func117,ntmps117;go_wp2_with fail;go_ret;exact⟨by rw[HF.out];rfl,Below.refl _ _⟩
  by_cases B0:3<n
  ·have HB:Hid (decide (n<=3)=false):=hZ9 (aB (by omega));have hz:decide ((n:Int)<1)=false:=aB (by omega);have B6:(3:Int)<(n:Int):=by omega
   go_enter func117,ntmps117;go_wp2_with fail;go_ret;exact⟨by rw[HF.out,HB.out];simp,Below.refl _ _⟩
  have hz:decide ((n:Int)<1)=false:=aB (by omega);have HB:Hid (decide (1<=n)=true/\decide (n<=3)=true):=hZ9 ⟨aI (by omega),aI (by omega)⟩;have B7:decide ((3:Int)<(n:Int))=false:=aB (by omega);have B2:n<=3:=by omega
  clear S B0;go_enter func117,ntmps117;go_wp2_with fail;go_loopw [18] (λi wr=>AfD xs w i wr) (λi _=>n-(intOf i).toNat)
  case atStart=>exact⟨0,aR _,rfl,rfl,Below.refl _ _⟩
  case round=>
   obtain⟨k,hk,rfl,Y,hb⟩:=hrel;rw[HN.out] at hk;have N:=hZ9 Y;clear Y;by_cases U:k<n
   ·have d:k<xs.length:=by rw[HN.out];exact U
    obtain⟨c0,c1⟩:=H.out k _ (aK d);have K:=hZ9 (RdS.JU xs k d);have A1:=hZ9 (λhp n hn=>RdS.QD d hp n hn);obtain⟨f1,f2⟩:=A4.out _ (aZ d);have L:Hid (∀j,k=j+1->∃p:RdS.Pr,RdS.ED xs k=p.1/\wr.cell? ⟨g,o+j*2,none⟩=some (Ac p.1)):=hZ9 (λj O=>by
     have R:j<xs.length:=by omega
     exact⟨xs[j],by rw[O];exact RdS.LG xs j R,(hb.cell (p:=⟨g,o+j*2,none⟩) P).trans (H.out j _ (aK R)).1⟩)
    have A6:Hid (k=0->RdS.ED xs k=[]):=hZ9 (λh=>by rw[h];rfl);generalize xs[k]=p at*;obtain⟨t,u⟩:=p;simp only at c0 c1 f1 f2;replace c0:wr.cell? ⟨g,o+k*2,none⟩=some (Ac t):=(hb.cell (p:=⟨g,o+k*2,none⟩) P).trans c0;replace c1:wr.cell? ⟨g,o+k*2+1,none⟩=some (Ac u):=(hb.cell (p:=⟨g,o+k*2+1,none⟩) P).trans c1;unfold Ac at c0 c1;have G:Hid (RdS.CN (RdS.ED xs k) (t,u)=false->RdS.formedS xs=false):=hZ9 (λhp=>by
     rw[HF.out,A1.out hp n U,bY])
    have q:=λw=>Eb ⟨t.toArray⟩ f1 w;unfold Ak at q;have f:=λw hE=>Fq ⟨t.toArray⟩ ⟨u.toArray⟩ f1 f2 w hE;unfold AX at f;have du:∀l:iK,(⟨l.toArray⟩:ByteArray).data.toList=l:=λ_=>rfl;rw[du] at q;rw[du,du] at f;clear du;have HP:Hid (RdS.CN (RdS.ED xs k) (t,u)=(((RuS.typeOf t).1==t)&&((RuS.typeOf t).2==1||(RuS.typeOf t).2==3)&&Op.bytesLess (RdS.ED xs k) t&&((RuS.normal t u).2==0))):=hZ9 rfl;have A8:=hZ9 (λh=>RdS.YR (nm:=t) h);generalize RdS.ED xs k=last at*;generalize RuS.typeOf t=r at*;generalize RuS.normal t u=nr at*;obtain⟨t',z⟩:=r;obtain⟨x,e0⟩:=nr;simp only at q f;have V:=hb;have B1:=hZ9 f;clear f;have C1:=hZ9 P;go_wp2_with fail;refine(q _).mono ?_;rintro e w1 ⟨rfl,s⟩;have I:g<wr.heap.size:=ae P hb.size;have d0:w1.cell? ⟨g,o+k*2,none⟩=some (.string ⟨t.toArray⟩):=(s.cell (p:=⟨g,o+k*2,none⟩) I).trans c0;have d1:w1.cell? ⟨g,o+k*2+1,none⟩=some (.string ⟨u.toArray⟩):=(s.cell (p:=⟨g,o+k*2+1,none⟩) I).trans c1;have m:Below w.heap.size w w1:=V.trans (s.mono V.size);have A7:Env w1.drew:=(hE.below m).drew;have J:=B1.out w1.drew A7;clear c0 c1 q;go_wp2_with fail;have E:g<w1.drew.heap.size:=ae I s.size
    go_region_held3 (λW=>W.cell? ⟨g,o+k*2,none⟩=some (.string ⟨t.toArray⟩)/\W.cell? ⟨g,o+k*2+1,none⟩=some (.string ⟨u.toArray⟩)) (first|exact⟨d0,d1⟩|exact⟨(A.cell (p:=⟨g,o+k*2,none⟩) E).trans d0,(A.cell (p:=⟨g,o+k*2+1,none⟩) E).trans d1⟩)
     (first|(go_at_call 102;(with_reducible refine J.mono ?_);rintro e w2 ⟨rfl,A⟩))
    have b:Below w.heap.size w w2:=(m.drew).trans (A.mono m.size);have B9:w2.cell? ⟨g,o+k*2,none⟩=some (.string ⟨t.toArray⟩):=(A.cell (p:=⟨g,o+k*2,none⟩) E).trans d0;have A5:Hid (∀j,k=j+1->∃p:RdS.Pr,last=p.1/\w2.cell? ⟨g,o+j*2,none⟩=some (Ac p.1)):=hZ9 (λj O=>by
     obtain⟨p,h1,h2⟩:=L.out j O;exact⟨p,h1,(A.cell (p:=⟨g,o+j*2,none⟩) E).trans ((s.cell (p:=⟨g,o+j*2,none⟩) I).trans h2)⟩)
    clear J d0 d1;cases q1:(t'==t) with
    |false=>have Q1:=hZ9 q1;go_wp2_with fail;go_ret;exact⟨by rw[G.out (by rw[HP.out];simp only[Q1.out];rfl)];rfl,b⟩
    |true=>
     have e1:=ag.1 q1;subst e1;clear q1;by_cases Q:z=1\/z=3
     ·have A0:=hZ9 (A8.out Q);have Q2:Hid ((z==1||z==3)=true):=hZ9 (by rcases Q with rfl|rfl<;>rfl);have F:(z !=1)=false\/((z !=1)=true/\(z !=3)=false):=by rcases Q with rfl|rfl<;>simp
      clear Q;by_cases q4:e0=0
      ·subst q4;by_cases M:k=0
       ·have A9:=hZ9 (A6.out M);have A2:decide ((0:Int)<(k:Int))=false:=aB (by omega);have B3:decide (0<k)=false:=aB (by omega);clear M;rcases F with g1|⟨g1,g3⟩
        all_goals
         go_wp2_with fail;go_roundw
         case rel=>exact⟨k+1,by rw[HN.out];omega,by go_num,by rw[K.out,N.out,HP.out,A9.out,Aen A0.out,Q2.out];simp,b⟩
         case measure=>simp[intOf];omega
       ·obtain⟨j,O⟩:∃j,k=j+1:=⟨k-1,by omega⟩
        obtain⟨p,Z,X⟩:=A5.out j O;have B5:(k:Int)-1=(j:Int):=by omega
        have B8:IntKind.i64.wrap (j:Int)=(j:Int):=by rw[IntKind.wrap_i64];omega
        have C0:(j:Int)<(n:Int):=by omega
        have A2:(0:Int)<(k:Int):=by omega
        unfold Ac at X;rw[<-Z] at X;clear M O Z;cases q5:Op.bytesLess last t' with
        |true=>
         have Q5:=hZ9 q5;rcases F with g1|⟨g1,g3⟩
         all_goals
          go_wp2_with fail;go_roundw
          case rel=>exact⟨k+1,by rw[HN.out];omega,by go_num,by rw[K.out,N.out,HP.out,Q5.out,Q2.out];simp,b⟩
          case measure=>simp[intOf];omega
        |false=>
         have Q5:=hZ9 q5;rcases F with g1|⟨g1,g3⟩
         all_goals
          go_wp2_with fail;go_ret;exact⟨by rw[G.out (by rw[HP.out];simp only[Q5.out,bY,cM])];rfl,b⟩
      ·have B4:(e0 !=0)=true:=by simpa using q4
       have Q4:Hid ((e0==0)=false):=hZ9 (by simpa using q4);clear q4;rcases F with g1|⟨g1,g3⟩
       all_goals
        go_wp2_with fail;go_ret;exact⟨by rw[G.out (by rw[HP.out];simp only[Q4.out,bY])];rfl,b⟩
     ·have g1:(z !=1)=true:=by simp;omega
      have g3:(z !=3)=true:=by simp;omega
      have Q2:Hid ((z==1||z==3)=false):=hZ9 (by simp;omega);clear Q;go_wp2_with fail;go_ret;exact⟨by rw[G.out (by rw[HP.out];simp only[Q2.out,bY,cM])];rfl,b⟩
   ·have A3:k=n:=by omega
    subst A3;go_wp2_with fail;go_ret;exact⟨by rw[HF.out,N.out,HB.out.1,HB.out.2];rfl,hb⟩
end
