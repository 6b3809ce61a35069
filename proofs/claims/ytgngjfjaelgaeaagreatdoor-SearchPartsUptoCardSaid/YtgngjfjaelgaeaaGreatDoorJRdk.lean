/- Rows of the call's own, whose elements are a text and a slice: attributes, entries. Conditions: as stated. -/
import Derived.Deep.Upon
import Derived.Test.YtgngjfjaelgaeaaGreatDoorJRdi
set_option maxRecDepth 100000
set_option maxHeartbeats 8000000
namespace Go.Proofs.YtgngjfjaelgaeaaGreatDoor
open Go.Proofs.Tryz
section
open Go.RowKit
def okT (Ts:List TypeId) (B:Nat) (w:World) (g:Nat):Prop:=g<B\/∃cs T fz,w.heap[g]?=some (.cells cs T fz)/\T ∈ Ts
theorem okT.same {Ts:List TypeId} {B:Nat} {w w':World} {g:Nat} (h:okT Ts B w g) (e:w'.heap[g]?=w.heap[g]?):okT Ts B w' g:=by
 rcases h with h | ⟨cs,T,fz,h,a⟩
 · exact .inl h
 · exact .inr ⟨cs,T,fz,e.trans h,a⟩
theorem okT.mono {Ts Ts':List TypeId} {B a:Nat} {w:World} {g:Nat} (h:okT Ts B w g) (hB:B<=a) (b:∀T ∈ Ts,T ∈ Ts'):okT Ts' a w g:=by
 rcases h with h | ⟨cs,T,fz,h,c⟩
 · exact .inl (ae h hB)
 · exact .inr ⟨cs,T,fz,h,b T c⟩
structure KLay (α:Type) where
 key:α->List UInt8
 El:(Nat->Prop)->World->Value->α->Prop
 keep:∀{ok ok':Nat->Prop} {w w':World} {u:Value} {x:α},El ok w u x->w.heap.size<=w'.heap.size->(∀g,g<w.heap.size->ok g->w'.heap[g]?=w.heap[g]?)->(∀g,g<w.heap.size->ok g->ok' g)->El ok' w' u x
 one:∀{ok:Nat->Prop} {w:World} {u:Value} {x:α},El ok w u x->u.oneCell'=true
def atK:KLay EnS.At:=⟨EnS.At.typ,fun ok w u x=>Aj ok w u x.vals,fun h=>Aj.keep h,fun h=>by obtain ⟨a,c,rfl,_⟩:=Ad.form h;rfl⟩
def enK:KLay EnS.En:=⟨EnS.En.name,fun ok w u x=>Ax ok w u x.attrs,fun h=>Ax.keep h,fun h=>by obtain ⟨a,c,rfl,_⟩:=Ad.form h;rfl⟩
def flatK {α:Type} (L:KLay α):List α->List Value->List Value
 | x :: xs,u :: us=>Ac (L.key x) :: u :: flatK L xs us
 | _,_=>[]
theorem Gx {α:Type} (L:KLay α):∀(xs:List α) (a:List Value) (i:Nat) (x:α) (u:Value),xs[i]?=some x->a[i]?=some u->(flatK L xs a)[i*2]?=some (Ac (L.key x))/\(flatK L xs a)[i*2+1]?=some u
 | [],_,i,x,u,h,_=>by simp at h
 | _ :: _,[],i,x,u,_,h=>by simp at h
 | y :: xs,z :: a,0,x,u,h,k=>by simp only [aH,bn] at h k;subst h;subst k;exact ⟨rfl,rfl⟩
 | y :: xs,z :: a,i+1,x,u,h,k=>by
  have b:=Gx L xs a i x u (by simpa using h) (by simpa using k);have e:(i+1)*2=i*2+1+1:=by omega
  rw [e];exact ⟨by simpa [flatK] using b.1,by simpa [flatK] using b.2⟩
theorem MR {α:Type} (L:KLay α) (x:α) (u:Value):∀(xs:List α) (a:List Value),a.length=xs.length->flatK L (xs++[x]) (a++[u])=flatK L xs a++[Ac (L.key x),u]
 | [],[],_=>rfl
 | [],_ :: _,h=>by simp at h
 | _ :: _,[],h=>by simp at h
 | y :: xs,z :: a,h=>by have:=MR L x u xs a (by simpa using h);simp [flatK,this]
theorem RZ {α:Type} (L:KLay α) (v:Value):∀(xs:List α) (a:List Value) (i:Nat),a.length=xs.length->(flatK L xs a).set (i*2+1) v=flatK L xs (a.set i v)
 | [],[],i,_=>by simp [flatK]
 | [],_ :: _,i,h=>by simp at h
 | _ :: _,[],i,h=>by simp at h
 | y :: xs,z :: a,0,_=>rfl
 | y :: xs,z :: a,i+1,h=>by
  have:=RZ L v xs a i (by simpa using h);have e:(i+1)*2+1=i*2+1+1+1:=by omega
  rw [e];simp [flatK,this]
def Ao {α:Type} (L:KLay α) (T:TypeId) (Ts:List TypeId) (C:Nat) (w:World) (B:Nat) (v:Value) (xs:List α):Prop:=
 ∃a:List Value,w.ownsRow B T 2 v xs.length (flatK L xs a)/\a.length=xs.length/\∀(i:Nat) (u:Value) (x:α),a[i]?=some u->xs[i]?=some x->L.El (okT Ts C w) w u x
theorem Ao.empty {α:Type} (L:KLay α) (T:TypeId) (Ts:List TypeId) (C:Nat) (w:World) (B:Nat):Ao L T Ts C w B (.slice none 0 0) []:=⟨[],World.ownsRow_nil w B _ 2,rfl,fun i u x h=>by simp at h⟩
theorem Ao.form {α:Type} {L:KLay α} {T:TypeId} {Ts:List TypeId} {C:Nat} {w:World} {B:Nat} {v:Value} {xs:List α} (h:Ao L T Ts C w B v xs):∃a c,v=.slice a xs.length c:=by
 obtain ⟨d,h,_⟩:=h;rcases h.2 with ⟨rfl,b⟩ | ⟨g,cap,cur,rfl,_⟩
 · exact ⟨_,_,by rw [b]⟩
 · exact ⟨_,_,rfl⟩
theorem Ao.call {α:Type} {L:KLay α} {T:TypeId} {Ts:List TypeId} {C:Nat} {w w':World} {B:Nat} {v:Value} {xs:List α} (h:Ao L T Ts C w B v xs) (hb:Below w.heap.size w w'):Ao L T Ts C w' B v xs:=by obtain ⟨e,h1,h2,h3⟩:=h;exact ⟨e,World.ownsRow.kept h1 (Ba hb) (by cases v.ownBlock <;> simp),h2,fun i u l a b=>L.keep (h3 i u l a b) hb.size (fun g d _=>hb.block g d) (fun g d c=>c.same (hb.block g d))⟩
theorem Ao.mono {α:Type} {L:KLay α} {T:TypeId} {Ts:List TypeId} {C:Nat} {w:World} {B a:Nat} {v:Value} {xs:List α} (h:Ao L T Ts C w B v xs) (hB:a<=B):Ao L T Ts C w a v xs:=by obtain ⟨b,h1,h2,h3⟩:=h;exact ⟨b,World.ownsRow.mono h1 hB,h2,h3⟩
theorem Ao.read {α:Type} {L:KLay α} {T:TypeId} {Ts:List TypeId} {C:Nat} {w:World} {B:Nat} {v:Value} {xs:List α} (h:Ao L T Ts C w B v xs) (ok:Nat->Prop) (e:∀g,g<w.heap.size->okT Ts C w g->ok g) (b:∀g cs,w.heap[g]?=some (.cells cs T (0,0))->B<=g->ok g):
  Ad 2 (fun w g o x=>w.cell? ⟨g,o,none⟩=some (Ac (L.key x))/\∃u,w.cell? ⟨g,o+1,none⟩=some u/\L.El ok w u x) ok w v xs:=by
 obtain ⟨f,h1,h2,h3⟩:=h;rcases h1.2 with ⟨rfl,c⟩ | ⟨g,cap,cur,rfl,p,l,c,q,hsz,m⟩
 · exact ⟨none,0,by rw [c],by omega,.inl (aW c)⟩
 · refine ⟨some ⟨g,0,none⟩,cap,rfl,c,.inr ⟨g,0,rfl,(ah.1 l).1,b g cur l p,fun j x d=>?_⟩⟩;have k:j<f.length:=by rw [h2];exact (aj.1 d).1
   have hu:=aJ k;obtain ⟨n,f1⟩:=Gx L xs f j x _ d hu;have c0:=World.ownsRow.cells h1 (g:=g) rfl (j*2) _ n;have c1:=World.ownsRow.cells h1 (g:=g) rfl (j*2+1) _ f1;have a:∀i,(⟨g,0,none⟩:Addr).add i=⟨g,0+i,none⟩:=fun i=>by unfold Addr.add;split <;> simp_all
   rw [a] at c0 c1;exact ⟨c0,f[j],c1,L.keep (h3 j _ x hu d) (aA _) (fun _ _ _=>rfl) e⟩
theorem Ao.attrs {T:TypeId} {Ts:List TypeId} {C:Nat} {w:World} {B:Nat} {v:Value} {xs:List EnS.At} (h:Ao atK T Ts C w B v xs):Cj w v xs:=h.read (fun _=>True) (fun _ _ _=>trivial) (fun _ _ _ _=>trivial)
theorem Ao.ens {T:TypeId} {Ts:List TypeId} {C:Nat} {w:World} {B:Nat} {v:Value} {xs:List EnS.En} (h:Ao enK T Ts C w B v xs):Cm w v xs:=h.read (fun _=>True) (fun _ _ _=>trivial) (fun _ _ _ _=>trivial)
theorem Ao.attrsB {T:TypeId} {Ts Ts':List TypeId} {C:Nat} {w:World} {B:Nat} {v:Value} {xs:List EnS.At} (h:Ao atK T Ts C w B v xs) (a:T ∈ Ts') (c:∀t ∈ Ts,t ∈ Ts'):Ax (okT Ts' C w) w v xs:=
 h.read (okT Ts' C w) (fun _g _ b=>b.mono (aA _) c) (fun _g cs e _=>.inr ⟨cs,T,_,e,a⟩)
theorem Eu {α:Type} {L:KLay α} {T:TypeId} {Ts:List TypeId} {w w':World} {C B n:Nat} {v:Value} {xs:List Value} (hC:C<=B) (d:T ∉ Ts) (h1:w.ownsRow B T 2 v n xs) (c:w.grownBy w' v.ownBlock) {u:Value} {x:α} (h:L.El (okT Ts C w) w u x):L.El (okT Ts C w') w' u x:=by
 have hblk:∀g,g<w.heap.size->okT Ts C w g->w'.heap[g]?=w.heap[g]?:=fun g b a=>by
  refine c.block g b (fun e=>?_);rcases h1.2 with ⟨rfl,_⟩ | ⟨k,cap,cur,rfl,hk,f,_⟩
  · cases e
  · cases e;rcases a with a | ⟨cs,j,fz,a,i⟩
    · exact absurd (aY hC hk) (Nat.not_le_of_lt a)
    · rw [f] at a;cases a;exact d i
 exact L.keep h c.size hblk (fun g b a=>a.same (hblk g b a))
theorem Ao.grow {α:Type} {L:KLay α} {T:TypeId} {Ts:List TypeId} {C B:Nat} (hC:C<=B) (g:T ∉ Ts) {w w':World} {v f:Value} {xs:List α} {a:List Value} (h1:w.ownsRow B T 2 v xs.length (flatK L xs a)) (h2:a.length=xs.length)
  (h3:∀(i:Nat) (u:Value) (x:α),a[i]?=some u->xs[i]?=some x->L.El (okT Ts C w) w u x) {x:α} {u:Value} (hx:L.El (okT Ts C w) w u x)
  (h4:w'.ownsRow B T 2 f (xs.length+1) (flatK L xs a++[Ac (L.key x),u])) (h:w.grownBy w' v.ownBlock):Ao L T Ts C w' B f (xs++[x]):=by
 refine ⟨a++[u],by rw [aT,MR L x u xs a h2];exact h4,by simp [h2],fun i z y b c=>?_⟩;by_cases e:i<a.length
 · rw [bF e] at b;rw [bF (by omega)] at c;exact Eu hC g h1 h (h3 i z y b c)
 · have d:i=a.length:=by
    have:=(aj.1 b).1;simp at this;omega
   subst d;rw [bC (aA _)] at b;rw [h2,bC (aA _)] at c;simp at b c;subst b;subst c;exact Eu hC g h1 h hx
theorem AfO {w:World} {g:Nat} {k u:Value} (h0:w.cell? ⟨g,0,none⟩=some k) (h1:w.cell? ⟨g,1,none⟩=some u):∀(j:Nat) (z:Value),[k,u][j]?=some z->w.cell? ((⟨g,0,none⟩:Addr).add j)=some z:=fun j z a=>by
 have b:(⟨g,0,none⟩:Addr).add j=⟨g,0+j,none⟩:=by unfold Addr.add;split <;> simp_all
 rw [b]
 match j,a with
 | 0,a=>simp at a;subst a;exact h0
 | 1,a=>simp at a;subst a;exact h1
 | j+2,a=>simp at a
theorem MS {α:Type} (L:KLay α) {w:World} {ops:Array Oper} {rest:List Oper} {o:Oper} {a:Act} {Q:Exit->Act->World->Prop} (T e:TypeId) (Ts:List TypeId) (t:T ∉ Ts) (n:prog.underlying e=some (.slice T)) {i0:TypeInfo} {z:Value}
  (A:prog.info? T=some i0) (q:i0.zero=some z) (c:i0.size=2) (m:i0.bytes=40) (i:z.cells.size=2) (j:o.guard=none) (s x:Operand)
  (r:o.op=.call { callee:=.builtin .append,args:=#[s,x],argTypes:=#[e,e] })
  (B:Nat) {C:Nat} (hC:C<=B) (v:Value) (xs:List α) (E:a.eval s=v) (b:Ao L T Ts C w B v xs) (g:Nat) (hx:a.eval x=.slice (some ⟨g,0,none⟩) 1 1)
  (y:α) (u0:Value) (l:w.cell? ⟨g,0,none⟩=some (Ac (L.key y))) (f:w.cell? ⟨g,1,none⟩=some u0) (p:L.El (okT Ts C w) w u0 y) (F:xs.length<=1000000000) (hB:B<=w.heap.size)
  (h:∀d w',Ao L T Ts C w' B d (xs++[y])->Below B w w'->w.grownBy w' v.ownBlock->wpList prog ops Q rest (a.put o.dst d) w'):wpList prog ops Q (o :: rest) a w:=by
 obtain ⟨G,h1,h2,h3⟩:=b;exact wpList_append_own w j s x _ r B T i0 z 2 40 n A q c m i (by decide) v xs.length _ E h1 ⟨g,0,none⟩ 1 1 [Ac (L.key y),u0] hx rfl
  (AfO l f) (fun u hu=>by
    rcases ay.1 hu with rfl | hu
    · rfl
    · rw [ak] at hu;subst hu;exact L.one p) (by unfold maxLen;omega) (by omega) hB
  (fun d w' h4 h5 _=>h d w' (Ao.grow hC t h1 h2 h3 p h4 h5) ((Below.refl B w).grown h5 hB (fun k hk=>(World.ownsRow.lt h1 k hk).1)) h5)
theorem Ao.stored {α:Type} {L:KLay α} {T:TypeId} {Ts:List TypeId} {C B:Nat} (hC:C<=B) (l:T ∉ Ts) {w:World} {g cap n:Nat} {xs:List α} (o:n=xs.length) (h:Ao L T Ts C w B (.slice (some ⟨g,0,none⟩) n cap) xs) (i:Nat) (y:α) (hk:∀x,xs[i]?=some x->L.key y=L.key x) (u:Value)
  (hu:L.El (okT Ts C w) w u y):Ao L T Ts C (w.setCell ⟨g,i*2+1,none⟩ u) B (.slice (some ⟨g,0,none⟩) n cap) (xs.set i y)/\Below B w (w.setCell ⟨g,i*2+1,none⟩ u):=by
 subst o;obtain ⟨a,h1,h2,h3⟩:=h;obtain ⟨q,m⟩:=World.ownsRow.stored h1 (i*2+1) u;have f:B<=g:=(World.ownsRow.lt h1 g rfl).1;have k:∀(xs:List α) (a:List Value) (i:Nat),(∀x,xs[i]?=some x->L.key y=L.key x)->flatK L (xs.set i y) a=flatK L xs a:=by
  intro xs
  induction xs with
  | nil=>intro a i _;rfl
  | cons x xs r=>
   intro a i hk;cases a with
   | nil=>cases i <;> rfl
   | cons z a=>
    cases i with
    | zero=>simp [flatK,hk x rfl]
    | succ i=>simp [flatK,r a i (fun x hx=>hk x (by simpa using hx))]
 refine ⟨⟨a.set i u,?_,by simp [h2],fun j z x b hx=>?_⟩,(Below.refl B w).setCell (p:=⟨g,i*2+1,none⟩) f u⟩
 · rw [List.length_set,k xs _ i hk,<-RZ L u xs a i h2];exact q
 · by_cases e:i=j
   · subst e;rw [List.getElem?_set_self'] at b hx;cases c:a[i]? with
     | none=>rw [c] at b;simp at b
     | some _=>
      cases d:xs[i]? with
      | none=>rw [d] at hx;simp at hx
      | some _=>rw [c] at b;rw [d] at hx;simp at b hx;subst b;subst hx;exact Eu hC l h1 m hu
   · rw [List.getElem?_set_ne e] at b hx;exact Eu hC l h1 m (h3 j z x b hx)
end
section
open Go.RowKit
theorem VB (x y:List UInt8):Op.bytesLess x y=decide (Lib.compareBytes x y=-1):=RuS.less_iff x y
theorem cmp_lt {x y:List UInt8} (h:Op.bytesLess x y=true):Lib.compareBytes x y=-1:=by rw [VB] at h;exact bB h
theorem cmp_gt {x y:List UInt8} (h:Op.bytesLess y x=true):Lib.compareBytes x y=1:=by have h1:=cmp_lt h;rw [RuS.compare_swap y x,h1];rfl
theorem cmp_eq {x y:List UInt8} (h:Op.bytesLess x y=false) (h2:Op.bytesLess y x=false):Lib.compareBytes x y=0:=by rw [VB] at h h2;have h1:=ba h;have h3:=ba h2;have a:=RuS.compare_range x y;have b:=RuS.compare_swap x y;omega
namespace DnS
theorem Si:∀(k:Nat) (x y:List (List UInt8)) (a b:List UInt8),x[k]?=some a->y[k]?=some b->cmpL (x.drop k) (y.drop k)=if Lib.compareBytes a b=0 then cmpL (x.drop (k+1)) (y.drop (k+1)) else Lib.compareBytes a b
 | k,x,y,a,b,hx,hy=>by obtain ⟨d,rfl⟩:=aj.1 hx;obtain ⟨c,rfl⟩:=aj.1 hy;rw [av d,av c,cmpL]
theorem Sj {x y:List (List UInt8)} {k:Nat} (hx:k<x.length) (a:y.length<=k):cmpL (x.drop k) (y.drop k)=1:=by rw [av hx,bM a,cmpL]
theorem Sl {x y:List (List UInt8)} {k:Nat} (hx:x.length<=k) (a:k<y.length):cmpL (x.drop k) (y.drop k)=-1:=by rw [av a,bM hx,cmpL]
theorem VC {x y:List (List UInt8)} {k:Nat} (hx:x.length<=k) (a:y.length<=k):cmpL (x.drop k) (y.drop k)=0:=by rw [bM hx,bM a,cmpL]
end DnS
theorem Ah.cells {w:World} {a:Option Addr} {n c:Nat} {xs:List (List UInt8)} (h:Ah w (.slice a n c) xs):xs.length=n/\n<=c/\∀(k:Nat) (y:List UInt8),xs[k]?=some y->∃g o,a=some ⟨g,o,none⟩/\g<w.heap.size/\w.cell? ⟨g,o+k,none⟩=some (Ac y):=by
 obtain ⟨f,i,e,hc,b⟩:=h;cases e;refine ⟨rfl,hc,fun k y hk=>?_⟩;rcases b with rfl | ⟨g,o,rfl,d,hcell⟩
 · simp at hk
 · exact ⟨g,o,rfl,d,hcell k y hk⟩
def AeR (n:Int) (w:World) (e:Ending) (w':World):Prop:=e=.returned (.int .i64 n)/\w=w'
theorem Og {B b:Nat} {a:World} (hb:B<=b):∀(vs:List Value) (o:Nat) (w:World),Below B a w->Below B a (w.setCells b o vs)
 | [],_,_,h=>h
 | v :: r,o,_,h=>Og hb r (o+1) _ (h.setCell (p:=⟨b,o,none⟩) hb v)
theorem Du {w:World} {B:Nat} {v:Value} {xs:List (List UInt8)} (h:Own w B v xs) {k:Nat} (hk:v.ownBlock=some k):B<=k/\k<w.heap.size:=by
 rcases h.2 with ⟨rfl,_⟩ | ⟨g,cap,cur,rfl,b,a,_⟩
 · cases hk
 · cases hk;exact ⟨b,(ah.1 a).1⟩
theorem Own.kept {w w':World} {B:Nat} {v:Value} {xs:List (List UInt8)} (h:Own w B v xs) (hb:∀k,v.ownBlock=some k->w'.heap[k]?=w.heap[k]?):Own w' B v xs:=by
 refine ⟨h.1,?_⟩;rcases h.2 with h | ⟨g,cap,cur,rfl,e,b,c,d,hsz,a⟩
 · exact .inl h
 · exact .inr ⟨g,cap,cur,rfl,e,(hb g rfl).trans b,c,d,hsz,a⟩
theorem Ah.kept {w w':World} {B:Nat} {v:Value} {xs ys:List (List UInt8)} (l:Own w B v ys) (h:Ah w v xs) (f:w.heap.size<=w'.heap.size) (hb:∀k,v.ownBlock=some k->w'.heap[k]?=w.heap[k]?):Ah w' v xs:=by
 obtain ⟨a,c,rfl,hc,b⟩:=h;refine ⟨a,c,rfl,hc,?_⟩;rcases b with h | ⟨g,o,rfl,i,hcell⟩
 · exact .inl h
 · refine .inr ⟨g,o,rfl,ae i f,fun j y e=>?_⟩;have d:(Value.slice (some ⟨g,o,none⟩) xs.length c).ownBlock=some g:=rfl;exact (World.cell?_of_block (a:=⟨g,o+j,none⟩) (hb g d)).trans (hcell j y e)
end
section
open Go.RowKit
def VD (n:Int) (w:World) (e:Ending) (w':World):Prop:=e=.returned (.int .i64 n)/\Below w.heap.size w w'
def Ab8 (xs ys:List (List UInt8)) (w:World) (i:Value) (wr:World):Prop:=
 ∃k:Nat,k<=xs.length/\k<=ys.length/\i=.int .i64 (k+1:Nat)/\DnS.EI xs ys=DnS.cmpL (xs.reverse.drop k) (ys.reverse.drop k)/\Below w.heap.size w wr
theorem AeS (I v2:Value) (xs ys:List (List UInt8)) (w:World) (h1:Ah w I xs) (h2:Ah w v2 ys) (T:xs.length<=1000) (Q:ys.length<=1000):Calls prog 80 #[I,v2] w (VD (DnS.EI xs ys) w):=by
 obtain ⟨a1,c1,rfl⟩:=h1.form;obtain ⟨a2,c2,rfl⟩:=h2.form;obtain ⟨-,O,C1⟩:=h1.cells;obtain ⟨-,K,G⟩:=h2.cells;have r:=hZ9 C1;have z:=hZ9 G;clear h1 h2 C1 G;generalize H:xs.length=n at*;generalize J:ys.length=m at*;have d:=hZ9 H;have e:=hZ9 J;clear H J;go_enter func80,ntmps80;go_wp2_with fail;go_loopw [5] (fun i wr=>Ab8 xs ys w i wr) (fun i _=>n+1 - (intOf i).toNat)
 case atStart=>exact ⟨0,aR _,aR _,rfl,rfl,Below.refl _ _⟩
 case round=>
  obtain ⟨k,hk,t,rfl,hd,hb⟩:=hrel;rw [d.out] at hk;rw [e.out] at t;have g:=hZ9 hd;clear hd;by_cases o:k<n
  · by_cases c:k<m
    · obtain ⟨b,v⟩:∃j,n=j+(k+1):=⟨n - (k+1),by omega⟩
      obtain ⟨j2,C⟩:∃j,m=j+(k+1):=⟨m - (k+1),by omega⟩
      have hx1:b<xs.length:=by rw [d.out];omega
      have f:j2<ys.length:=by rw [e.out];omega
      have l:xs.reverse[k]?=some xs[b]:=by rw [gB (by rw [d.out];exact o),d.out,show n - 1 - k=b from by omega,aJ hx1]
      have h:ys.reverse[k]?=some ys[j2]:=by rw [gB (by rw [e.out];exact c),e.out,show m - 1 - k=j2 from by omega,aJ f]
      have E:=hZ9 (DnS.Si k xs.reverse ys.reverse xs[b] ys[j2] l h);obtain ⟨g1,F,rfl,u,d1⟩:=r.out b _ (aJ hx1);obtain ⟨g2,o2,rfl,A,d2⟩:=z.out j2 _ (aJ f);replace d1:wr.cell? ⟨g1,F+b,none⟩=some (Ac xs[b]):=(hb.cell (p:=⟨g1,F+b,none⟩) u).trans d1;replace d2:wr.cell? ⟨g2,o2+j2,none⟩=some (Ac ys[j2]):=(hb.cell (p:=⟨g2,o2+j2,none⟩) A).trans d2;clear l h;generalize xs[b]=x at*;generalize ys[j2]=y at*;unfold Ac at d1 d2;have S:((n:Int) - ((k:Int)+1))=(b:Int):=by omega
      have L:((m:Int) - ((k:Int)+1))=(j2:Int):=by omega
      have M:b<n:=by omega
      have N:j2<m:=by omega
      have P:decide ((k:Int)+1<=(n:Int))=true:=aL (by omega);have U:decide ((k:Int)+1<=(m:Int))=true:=aL (by omega);have R:decide (k+1<=n)=true:=aL (by omega);have V:decide (k+1<=m)=true:=aL (by omega);clear hx1 f v C;cases hp:Op.bytesLess x y with
      | true=>
       have HR:Hid (DnS.EI xs ys=-1):=hZ9 (by rw [g.out,E.out,cmp_lt hp];rfl);go_wp2_with fail
       go_quiet (fail)
       go_wp2_with fail;go_ret;exact ⟨by rw [HR.out];rfl,hb.trans ((below_drewN wr nq).mono hb.size)⟩
      | false=>
       cases q:Op.bytesLess y x with
       | true=>
        have HR:Hid (DnS.EI xs ys=1):=hZ9 (by rw [g.out,E.out,cmp_gt q];rfl);have s:(x==y)=false:=by rw [RuS.eq_iff,cmp_gt q];rfl
        go_wp2_with fail
        go_quiet (fail)
        go_wp2_with fail;go_ret;exact ⟨by rw [HR.out];rfl,hb.trans ((below_drewN wr nq).mono hb.size)⟩
       | false=>
        have HR:Hid (DnS.EI xs ys=DnS.cmpL (xs.reverse.drop (k+1)) (ys.reverse.drop (k+1))):=hZ9 (by rw [g.out,E.out,cmp_eq hp q,aP rfl]);have s:(x==y)=true:=by rw [RuS.eq_iff,cmp_eq hp q];rfl
        go_wp2_with fail
        go_quiet (fail)
        go_wp2_with fail;go_roundw
        case rel=>exact ⟨k+1,by rw [d.out];omega,by rw [e.out];omega,by go_num,HR.out,hb.trans ((below_drewN wr nq).mono hb.size)⟩
        case measure=>simp [intOf];omega
    · have a:k=m:=by omega
      subst a;have HR:Hid (DnS.EI xs ys=1):=hZ9 (by rw [g.out,DnS.Sj (by rw [bj,d.out];exact o) (by rw [bj,e.out];exact aA _)]);have P:decide ((k:Int)+1<=(n:Int))=true:=aL (by omega);have R:decide (k+1<=n)=true:=aL (by omega);go_wp2_with fail;go_ret;exact ⟨by rw [HR.out];rfl,hb⟩
  · have B:k=n:=by omega
    subst B;by_cases c:k<m
    · have HR:Hid (DnS.EI xs ys=-1):=hZ9 (by rw [g.out,DnS.Sl (by rw [bj,d.out];exact aA _) (by rw [bj,e.out];exact c)]);go_wp2_with fail;go_ret;exact ⟨by rw [HR.out];rfl,hb⟩
    · have a:k=m:=by omega
      subst a;have HR:Hid (DnS.EI xs ys=0):=hZ9 (by rw [g.out,DnS.VC (by rw [bj,d.out];exact aA _) (by rw [bj,e.out];exact aA _)]);go_wp2_with fail;go_ret;exact ⟨by rw [HR.out];rfl,hb⟩
end
section
open Go.RowKit
theorem Whole.two {w:World} {g:Nat} {T:TypeId} {x y:Value} (h:Whole w g T #[x,y]) (a b:Value):
  w.cell? ⟨g,0,none⟩=some x/\w.cell? ⟨g,1,none⟩=some y/\w.frozen? ⟨g,0,none⟩=false/\w.frozen? ⟨g,1,none⟩=false/\
  (w.setCell ⟨g,0,none⟩ a).cell? ⟨g,1,none⟩=some y/\(w.setCell ⟨g,0,none⟩ a).frozen? ⟨g,1,none⟩=false/\
  ((w.setCell ⟨g,0,none⟩ a).setCell ⟨g,1,none⟩ b).cell? ⟨g,0,none⟩=some a/\((w.setCell ⟨g,0,none⟩ a).setCell ⟨g,1,none⟩ b).cell? ⟨g,1,none⟩=some b:=by
 have h1:=h.put 0 a;have h2:=h1.put 1 b;exact ⟨h.cell 0,h.cell 1,h.thaw 0,h.thaw 1,h1.cell 1,h1.thaw 1,h2.cell 0,h2.cell 1⟩
def Yh (l:List UInt8) (w:World) (e:Ending) (w':World):Prop:=
 ∃(t v:List UInt8) (b:Bool),e=.returned (.tuple #[.agg #[.string ⟨t.toArray⟩,.string ⟨v.toArray⟩],.bool b])/\(b=true->RdS.CG l=some (t,v))/\(b=false->RdS.CG l=none)/\Below w.heap.size w w'
theorem AeT {l:List UInt8} {k:Nat} (hk:k<l.length) (hc:l[k]=61) (a:∀c ∈ l.take k,c≠61):RdS.nameOf l=l.take k/\l.contains 61=true:=by
 have e:l=l.take k++61 :: l.drop (k+1):=by
  conv=>lhs;rw [<-dB k l,av hk,hc]
 refine ⟨?_,?_⟩
 · unfold RdS.nameOf
   conv=>lhs;rw [e]
   exact RdS.Kv a
 · rw [cZ,<-hc];exact aZ hk
theorem Ab9 (nm:List UInt8):((RuS.typeOf nm).1=[])↔(RuS.typeOf nm).2=0:=by
 rcases RuS.typeM_all (RuS.lower nm) with e | e
 · have a:RuS.typeOf nm=([],0):=e;rw [a];simp
 · have h1:1<=(RuS.typeOf nm).2:=e.1;have h2:1<=(RuS.typeOf nm).1.length:=e.2.2.1;constructor
   · intro h;rw [h] at h2;simp at h2
   · intro h;omega
theorem AbA (l:List UInt8) (O:l.length<=1000000) (w:World):Calls prog 148 #[.string ⟨l.toArray⟩] w (Yh l w):=by
 have f:=Whole.made w 173 #[.string ⟨#[]⟩,.string ⟨#[]⟩];have hb0:=Af w (.cells #[.string ⟨#[]⟩,.string ⟨#[]⟩] 173);go_enter func148,ntmps148;go_wp2_with fail;generalize E:(w.alloc (.cells #[.string ⟨#[]⟩,.string ⟨#[]⟩] 173))=w0 at*;clear E;go_loop [4] (fun i=>∃k:Nat,k<=l.length/\i=.int .i64 k/\Hid (∀c ∈ l.take k,c≠61)) (fun i=>l.length - (intOf i).toNat)
 case atStart=>exact ⟨0,aR _,rfl,hZ9 (by simp)⟩
 case round=>
  obtain ⟨k,hk,rfl,g⟩:=hrel;by_cases x:k<l.length
  · have y:=hZ9 (fun h=>AeT x h g.out);have o:=hZ9 (aX x);generalize u:l[k]=c at*;have M:∀h,(⟨l.toArray⟩:ByteArray)[k]'h=c:=fun _=>u;clear u;by_cases h61:c=61
    · have B:((c.toNat:Int) !=61)=false:=by rw [h61];rfl
      have z:=hZ9 (y.out h61);have HP:Hid (RdS.CG l=if (RuS.typeOf (l.take k)).1=[] then none else (RdS.readS (l.drop (k+1))).map ((RuS.typeOf (l.take k)).1,·)):=hZ9 (by
       unfold RdS.CG;rw [z.out.2,z.out.1,aP rfl,au,cJ hk])
      have L:((k:Int)==(l.length:Int))=false:=aV.2 (by omega);have Q:(⟨l.toArray⟩:ByteArray).extract 0 k=⟨(l.take k).toArray⟩:=by rw [GV,bQ]
      have P:(⟨l.toArray⟩:ByteArray).extract (k+1) l.length=⟨(l.drop (k+1)).toArray⟩:=by rw [GV,bE]
      have A:=fun w=>MX ⟨(l.take k).toArray⟩ (by show (l.take k).toArray.size<=_;rw [bV,au];omega) w;unfold Ar at A;have H:(⟨(l.take k).toArray⟩:ByteArray).data.toList=l.take k:=rfl;rw [H] at A;have G:=fun w=>Ab7 (l.drop (k+1)) (by rw [bI];omega) w;unfold BV at G;have q:=hZ9 (Ab9 (l.take k));clear h61 H y o;generalize RuS.typeOf (l.take k)=ty at*;obtain ⟨t,C⟩:=ty;simp only at A;generalize RdS.readS (l.drop (k+1))=rd at*;go_wp2_with fail;refine (A _).mono ?_;rintro e w1 ⟨rfl,r⟩;go_wp2_with fail;refine (G _).mono ?_;rintro e w2 ⟨rfl,s⟩;have a:=(f.call r).call s;have j:Below w.heap.size w w2:=hb0.trans ((Aa r s).mono hb0.size);cases rd with
      | none=>obtain ⟨c0,c1,J,f1,c3,I,k1,n⟩:=a.two (.string ⟨t.toArray⟩) (.string ⟨#[]⟩);have m:Hid (RdS.CG l=none):=hZ9 (by rw [HP.out];split <;> rfl);clear a f;go_wp2_with fail;refine bodyPost_ret (v:=.tuple #[.agg #[.string ⟨t.toArray⟩,.string ⟨#[]⟩],.bool false]) (by simp [results,results148,go_sem,k1,n]) rfl ?_;exact ⟨t,[],false,rfl,(fun h=>by cases h),fun _=>m.out,(j.setCell (p:=⟨w.heap.size,0,none⟩) (aA _) _).setCell (p:=⟨w.heap.size,1,none⟩) (aA _) _⟩
      | some v=>
       obtain ⟨c0,c1,J,f1,c3,I,k1,n⟩:=a.two (.string ⟨t.toArray⟩) (.string ⟨v.toArray⟩);clear a f;by_cases b:C=0
       · have m:Hid (RdS.CG l=none):=hZ9 (by rw [HP.out,aP (q.out.2 b)]);have N:(C !=0)=false:=by rw [b];rfl
         clear b;go_wp2_with fail;refine bodyPost_ret (v:=.tuple #[.agg #[.string ⟨t.toArray⟩,.string ⟨v.toArray⟩],.bool false]) (by simp [results,results148,go_sem,k1,n]) rfl ?_;exact ⟨t,v,false,rfl,(fun h=>by cases h),fun _=>m.out,(j.setCell (p:=⟨w.heap.size,0,none⟩) (aA _) _).setCell (p:=⟨w.heap.size,1,none⟩) (aA _) _⟩
       · have m:Hid (RdS.CG l=some (t,v)):=hZ9 (by rw [HP.out,aG (fun h=>b (q.out.1 h))];rfl);have N:(C !=0)=true:=by simpa using b
         clear b;go_wp2_with fail;refine bodyPost_ret (v:=.tuple #[.agg #[.string ⟨t.toArray⟩,.string ⟨v.toArray⟩],.bool true]) (by simp [results,results148,go_sem,k1,n]) rfl ?_;exact ⟨t,v,true,rfl,fun _=>m.out,(fun h=>by cases h),(j.setCell (p:=⟨w.heap.size,0,none⟩) (aA _) _).setCell (p:=⟨w.heap.size,1,none⟩) (aA _) _⟩
    · have K:=hZ9 h61;have B:((c.toNat:Int) !=61)=true:=by rw [fK];exact fun h=>K.out (Di rfl h)
      clear h61;go_wp2_with fail;go_round
      case rel=>exact ⟨k+1,by omega,by go_num,hZ9 (by
       intro d hd;rw [o.out] at hd;rcases b9.1 hd with hd | hd
       · exact g.out d hd
       · have:=ak.1 hd;rw [this];exact K.out)⟩
      case measure=>simp [intOf];omega
  · have F:k=l.length:=by omega
    subst F;have m:Hid (RdS.CG l=none):=hZ9 (by
     have h:=g.out;rw [bE] at h;unfold RdS.CG;rw [aG];intro hc;exact h 61 (cZ.1 hc) rfl)
    obtain ⟨c0,c1,J,f1,c3,I,k1,n⟩:=f.two (.string ⟨#[]⟩) (.string ⟨#[]⟩);clear f;go_wp2_with fail;refine bodyPost_ret (v:=.tuple #[.agg #[.string ⟨#[]⟩,.string ⟨#[]⟩],.bool false]) (by simp [results,results148,go_sem,k1,n]) rfl ?_;exact ⟨[],[],false,rfl,(fun h=>by cases h),fun _=>m.out,(hb0.setCell (p:=⟨w.heap.size,0,none⟩) (aA _) _).setCell (p:=⟨w.heap.size,1,none⟩) (aA _) _⟩
end
section
open Go.RowKit
attribute [local go_sem ↓] Go.wp_at_zero Go.wp_at_succ
def AeU (xs:List RdS.Pr) (w:World) (i:Value) (wr:World):Prop:=∃k:Nat,k<=xs.length/\i=.int .i64 k/\RdS.IA xs k=true/\Below w.heap.size w wr
theorem Ad4 {t:List UInt8} (h:t≠[]):Op.bytesLess [] t=true:=by
 cases t with
 | nil=>exact absurd rfl h
 | cons a l=>rfl
theorem IC (v:Value) (xs:List RdS.Pr) (w:World) (h:AX w v xs) (hf:EP xs) (hE:Env w):Calls prog 117 #[v] w (JB xs w):=by
 obtain ⟨a,c,rfl,hc,h⟩:=h;have HF:=hZ9 (RdS.NW xs);rcases h with rfl | ⟨g,o,rfl,U,h⟩
 · go_enter func117,ntmps117;go_wp2_with fail;go_ret;exact ⟨rfl,Below.refl _ _⟩
 · have H:=hZ9 h;have B0:=hZ9 hf;generalize X:xs.length=n at*;have Z:=hZ9 X;clear h hf X;by_cases N:n=0
   · subst N;go_enter func117,ntmps117;go_wp2_with fail;go_ret;exact ⟨by rw [HF.out];rfl,Below.refl _ _⟩
   by_cases A2:3<n
   · have HB:Hid (decide (n<=3)=false):=hZ9 (aC (by omega));have hz:decide ((n:Int)<1)=false:=aC (by omega);have B7:(3:Int)<(n:Int):=by omega
     go_enter func117,ntmps117;go_wp2_with fail;go_ret;exact ⟨by rw [HF.out,HB.out];simp,Below.refl _ _⟩
   have hz:decide ((n:Int)<1)=false:=aC (by omega);have HB:Hid (decide (1<=n)=true/\decide (n<=3)=true):=hZ9 ⟨aL (by omega),aL (by omega)⟩;have B8:decide ((3:Int)<(n:Int))=false:=aC (by omega);have B2:n<=3:=by omega
   clear N A2;go_enter func117,ntmps117;go_wp2_with fail;go_loopw [18] (fun i wr=>AeU xs w i wr) (fun i _=>n - (intOf i).toNat)
   case atStart=>exact ⟨0,aR _,rfl,rfl,Below.refl _ _⟩
   case round=>
    obtain ⟨k,hk,rfl,M,hb⟩:=hrel;rw [Z.out] at hk;have I:=hZ9 M;clear M;by_cases P:k<n
    · have d:k<xs.length:=by rw [Z.out];exact P
      obtain ⟨c0,c1⟩:=H.out k _ (aJ d);have G:=hZ9 (RdS.Jy xs k d);have A9:=hZ9 (fun hp n X=>RdS.Qc d hp n X);obtain ⟨f1,f2⟩:=B0.out _ (aZ d);have J:Hid (∀j,k=j+1->∃p:RdS.Pr,RdS.Ek xs k=p.1/\wr.cell? ⟨g,o+j*2,none⟩=some (Ac p.1)):=hZ9 (fun j L=>by
       have O:j<xs.length:=by omega
       exact ⟨xs[j],by rw [L];exact RdS.KV xs j O,(hb.cell (p:=⟨g,o+j*2,none⟩) U).trans (H.out j _ (aJ O)).1⟩)
      have A3:Hid (k=0->RdS.Ek xs k=[]):=hZ9 (fun h=>by rw [h];rfl);generalize xs[k]=p at*;obtain ⟨t,u⟩:=p;simp only at c0 c1 f1 f2;replace c0:wr.cell? ⟨g,o+k*2,none⟩=some (Ac t):=(hb.cell (p:=⟨g,o+k*2,none⟩) U).trans c0;replace c1:wr.cell? ⟨g,o+k*2+1,none⟩=some (Ac u):=(hb.cell (p:=⟨g,o+k*2+1,none⟩) U).trans c1;unfold Ac at c0 c1;have E:Hid (RdS.CL (RdS.Ek xs k) (t,u)=false->RdS.formedS xs=false):=hZ9 (fun hp=>by
       rw [HF.out,A9.out hp n P,bX])
      have m:=fun w=>MX ⟨t.toArray⟩ f1 w;unfold Ar at m;have z:=fun w hE=>NV ⟨t.toArray⟩ ⟨u.toArray⟩ f1 f2 w hE;unfold Bl at z;have du:∀l:List UInt8,(⟨l.toArray⟩:ByteArray).data.toList=l:=fun _=>rfl;rw [du] at m;rw [du,du] at z;clear du;have HP:Hid (RdS.CL (RdS.Ek xs k) (t,u)=(((RuS.typeOf t).1==t)&&((RuS.typeOf t).2==1||(RuS.typeOf t).2==3)&&Op.bytesLess (RdS.Ek xs k) t&&((RuS.normal t u).2==0))):=hZ9 rfl;have A4:=hZ9 (fun h=>RdS.Ye (nm:=t) h);generalize RdS.Ek xs k=last at*;generalize RuS.typeOf t=r at*;generalize RuS.normal t u=nr at*;obtain ⟨t',y⟩:=r;obtain ⟨x,e0⟩:=nr;simp only at m z;have T:=hb;have B1:=hZ9 z;clear z;have B6:=hZ9 U;go_wp2_with fail;refine (m _).mono ?_;rintro e w1 ⟨rfl,q⟩;have A:g<wr.heap.size:=ae U hb.size;have Y:w1.cell? ⟨g,o+k*2,none⟩=some (.string ⟨t.toArray⟩):=(q.cell (p:=⟨g,o+k*2,none⟩) A).trans c0;have d1:w1.cell? ⟨g,o+k*2+1,none⟩=some (.string ⟨u.toArray⟩):=(q.cell (p:=⟨g,o+k*2+1,none⟩) A).trans c1;have f:Below w.heap.size w w1:=T.trans (q.mono T.size);have A7:Env w1.drew:=(hE.below f).drew;have F:=B1.out w1.drew A7;clear c0 c1 m;go_wp2_with fail;have C:g<w1.drew.heap.size:=ae A q.size
      go_region_held3 (fun W=>W.cell? ⟨g,o+k*2,none⟩=some (.string ⟨t.toArray⟩)/\W.cell? ⟨g,o+k*2+1,none⟩=some (.string ⟨u.toArray⟩)) (first | exact ⟨Y,d1⟩ | exact ⟨(s.cell (p:=⟨g,o+k*2,none⟩) C).trans Y,(s.cell (p:=⟨g,o+k*2+1,none⟩) C).trans d1⟩)
       (first | (go_at_call 102;(with_reducible refine F.mono ?_);rintro e w2 ⟨rfl,s⟩))
      have b:Below w.heap.size w w2:=(f.drew).trans (s.mono f.size);have B4:w2.cell? ⟨g,o+k*2,none⟩=some (.string ⟨t.toArray⟩):=(s.cell (p:=⟨g,o+k*2,none⟩) C).trans Y;have A0:Hid (∀j,k=j+1->∃p:RdS.Pr,last=p.1/\w2.cell? ⟨g,o+j*2,none⟩=some (Ac p.1)):=hZ9 (fun j L=>by
       obtain ⟨p,h1,h2⟩:=J.out j L;exact ⟨p,h1,(s.cell (p:=⟨g,o+j*2,none⟩) C).trans ((q.cell (p:=⟨g,o+j*2,none⟩) A).trans h2)⟩)
      clear F Y d1;cases q1:(t'==t) with
      | false=>have Q1:=hZ9 q1;go_wp2_with fail;go_ret;exact ⟨by rw [E.out (by rw [HP.out];simp only [Q1.out];rfl)];rfl,b⟩
      | true=>
       have e1:=af.1 q1;subst e1;clear q1;by_cases S:y=1\/y=3
       · have A5:=hZ9 (A4.out S);have V:Hid ((y==1||y==3)=true):=hZ9 (by rcases S with rfl | rfl <;> rfl);have B:(y !=1)=false\/((y !=1)=true/\(y !=3)=false):=by rcases S with rfl | rfl <;> simp
         clear S;by_cases q4:e0=0
         · subst q4;by_cases K:k=0
           · have A6:=hZ9 (A3.out K);have A8:decide ((0:Int)<(k:Int))=false:=aC (by omega);have B3:decide (0<k)=false:=aC (by omega);clear K;rcases B with g1 | ⟨g1,g3⟩
             all_goals
              go_wp2_with fail;go_roundw
              case rel=>exact ⟨k+1,by rw [Z.out];omega,by go_num,by rw [G.out,I.out,HP.out,A6.out,Ad4 A5.out,V.out];simp,b⟩
              case measure=>simp [intOf];omega
           · obtain ⟨j,L⟩:∃j,k=j+1:=⟨k - 1,by omega⟩
             obtain ⟨p,Q,R⟩:=A0.out j L;have B5:(k:Int) - 1=(j:Int):=by omega
             have B9:IntKind.i64.wrap (j:Int)=(j:Int):=by rw [IntKind.wrap_i64];omega
             have C1:(j:Int)<(n:Int):=by omega
             have A8:(0:Int)<(k:Int):=by omega
             unfold Ac at R;rw [<-Q] at R;clear K L Q;cases q5:Op.bytesLess last t' with
             | true=>
              have Q5:=hZ9 q5;rcases B with g1 | ⟨g1,g3⟩
              all_goals
               go_wp2_with fail;go_roundw
               case rel=>exact ⟨k+1,by rw [Z.out];omega,by go_num,by rw [G.out,I.out,HP.out,Q5.out,V.out];simp,b⟩
               case measure=>simp [intOf];omega
             | false=>
              have Q5:=hZ9 q5;rcases B with g1 | ⟨g1,g3⟩
              all_goals
               go_wp2_with fail;go_ret;exact ⟨by rw [E.out (by rw [HP.out];simp only [Q5.out,bX,cG])];rfl,b⟩
         · have C0:(e0 !=0)=true:=by simpa using q4
           have Q4:Hid ((e0==0)=false):=hZ9 (by simpa using q4);clear q4;rcases B with g1 | ⟨g1,g3⟩
           all_goals
            go_wp2_with fail;go_ret;exact ⟨by rw [E.out (by rw [HP.out];simp only [Q4.out,bX])];rfl,b⟩
       · have g1:(y !=1)=true:=by simp;omega
         have g3:(y !=3)=true:=by simp;omega
         have V:Hid ((y==1||y==3)=false):=hZ9 (by simp;omega);clear S;go_wp2_with fail;go_ret;exact ⟨by rw [E.out (by rw [HP.out];simp only [V.out,bX,cG])];rfl,b⟩
    · have A1:k=n:=by omega
      subst A1;go_wp2_with fail;go_ret;exact ⟨by rw [HF.out,I.out,HB.out.1,HB.out.2];rfl,hb⟩
end
end Go.Proofs.YtgngjfjaelgaeaaGreatDoor
