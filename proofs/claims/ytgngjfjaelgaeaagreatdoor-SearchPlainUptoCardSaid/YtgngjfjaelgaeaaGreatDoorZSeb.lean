/- Slices of rules (five cells an element) in memory. Conditions: as stated. -/
import Derived.Test.YtgngjfjaelgaeaaGreatDoorZFmb
set_option maxRecDepth 100000
set_option maxHeartbeats 8000000
namespace Go.Proofs.YtgngjfjaelgaeaaGreatDoor
open Go.Proofs.Tryz
variable {cs:Array Value} {xs:List EnS.At} {R:List EnS.En} {Ts:List TypeId} {B C N b g:Nat} {S:Nat->Prop} {m:Option Nat} {T:TypeId} {u v:Value} {a c w w':World}
section
open Go.RowKit
def NQ(w:World)(g o:Nat)(r:PoS.Rl):Prop:=
 w.cell? ⟨g,o,none⟩=some (Ac r.who)/\w.cell? ⟨g,o+1,none⟩=some (Ac r.target)/\w.cell? ⟨g,o+2,none⟩=some (Ac r.attr)/\w.cell? ⟨g,o+3,none⟩=some (.int .i64 r.rights)/\w.cell? ⟨g,o+4,none⟩=some (.bool r.allow)
theorem NQ.call{o:Nat}{r:PoS.Rl}(h:NQ w g o r)(hb:Below B w w')(d:g<B):NQ w' g o r:=
 ⟨(hb.cell (p:=⟨g,o,none⟩) d).trans h.1,(hb.cell (p:=⟨g,o+1,none⟩) d).trans h.2.1,(hb.cell (p:=⟨g,o+2,none⟩) d).trans h.2.2.1,(hb.cell (p:=⟨g,o+3,none⟩) d).trans h.2.2.2.1,(hb.cell (p:=⟨g,o+4,none⟩) d).trans h.2.2.2.2⟩
def Ee(w:World)(v:Value)(xs:List PoS.Rl):Prop:=
 ∃a c,v=.slice a xs.length c/\xs.length<=c/\(xs=[]\/∃g o,a=some ⟨g,o,none⟩/\g<w.heap.size/\∀(j:Nat) (r:PoS.Rl),xs[j]?=some r->NQ w g (o+j*5) r)
theorem Ee.call{xs:List PoS.Rl}(h:Ee w v xs)(hb:Below B w w')(hB:w.heap.size<=B):Ee w' v xs:=by
 obtain⟨a,c,rfl,hc,h⟩:=h;refine⟨a,c,rfl,hc,?_⟩;rcases h with h|⟨g,o,rfl,d,h⟩
 ·exact .inl h
 ·exact .inr ⟨g,o,rfl,ae d hb.size,λj r i=>(h j r i).call hb (ae d hB)⟩
theorem Ee.empty(w:World):Ee w (.slice none 0 0) []:=⟨none,0,rfl,aA _,.inl rfl⟩
theorem Ee.form{xs:List PoS.Rl}(h:Ee w v xs):∃a c,v=.slice a xs.length c:=by obtain⟨a,c,e,_⟩:=h;exact⟨a,c,e⟩
theorem Ee.at{w:World}{v:Value}{xs:List PoS.Rl}(h:Ee w v xs):∃a c,v=.slice a xs.length c/\xs.length<=c/\∀k (h:k<xs.length),∃g o,a=some ⟨g,o,none⟩/\g<w.heap.size/\NQ w g (o+k*5) xs[k]:=by
 obtain⟨a,c,rfl,hc,h⟩:=h;refine⟨a,c,rfl,hc,λk hk=>?_⟩;rcases h with rfl|⟨g,o,rfl,d,h⟩
 ·simp at hk
 ·exact⟨g,o,rfl,d,h k _ (aK hk)⟩
def Ae8(r:PoS.Rl):List Value:=[Ac r.who,Ac r.target,Ac r.attr,.int .i64 r.rights,.bool r.allow]
def Ku(xs:List PoS.Rl):List Value:=xs.flatMap Ae8
theorem Xd:∀(xs:List PoS.Rl) (j:Nat) (r:PoS.Rl),xs[j]?=some r->(Ku xs)[j*5]?=some (Ac r.who)/\(Ku xs)[j*5+1]?=some (Ac r.target)/\(Ku xs)[j*5+2]?=some (Ac r.attr)/\(Ku xs)[j*5+3]?=some (.int .i64 r.rights)/\(Ku xs)[j*5+4]?=some (.bool r.allow)
 |[],j,r,h=>by simp at h
 |q :: xs,0,r,h=>by have:=aU h;subst this;exact⟨rfl,rfl,rfl,rfl,rfl⟩
 |q :: xs,j+1,r,h=>by have:=Xd xs j r (by simpa using h);have e:Ku (q :: xs)=Ac q.who :: Ac q.target :: Ac q.attr :: .int .i64 q.rights :: .bool q.allow :: Ku xs:=rfl;rw[e,show (j+1)*5=j*5+1+1+1+1+1 from by omega];exact this
def GP(T:TypeId)(w:World)(B:Nat)(v:Value)(xs:List PoS.Rl):Prop:=w.ownsRow B T 5 v xs.length (Ku xs)
theorem GP.empty(T:TypeId)(w:World)(B:Nat):GP T w B (.slice none 0 0) []:=World.ownsRow_nil w B _ 5
theorem GP.form{xs:List PoS.Rl}(h:GP T w B v xs):∃a c,v=.slice a xs.length c:=by
 rcases h.2 with⟨rfl,d⟩|⟨g,cap,cur,rfl,_⟩
 ·exact⟨_,_,by rw[d]⟩
 ·exact⟨_,_,rfl⟩
theorem GP.call{xs:List PoS.Rl}(h:GP T w B v xs)(hb:Below w.heap.size w w'):GP T w' B v xs:=
 World.ownsRow.kept h (Bc hb) (by cases v.ownBlock<;>simp)
theorem GP.alloc{xs:List PoS.Rl}(h:GP T w B v xs)(o:Obj):GP T (w.alloc o) B v xs:=World.ownsRow.alloc h o
theorem GP.mono{d:Nat}{xs:List PoS.Rl}(h:GP T w B v xs)(hB:d<=B):GP T w d v xs:=by
 refine⟨h.1,?_⟩;rcases h.2 with h|⟨g,cap,cur,e,i,h⟩
 ·exact .inl h
 ·exact .inr ⟨g,cap,cur,e,aX hB i,h⟩
theorem GP.rules{xs:List PoS.Rl}(h:GP T w B v xs):Ee w v xs:=by
 rcases h.2 with⟨rfl,i⟩|⟨g,cap,cur,rfl,q,o,i,s,hsz,p⟩
 ·exact⟨none,0,by rw[i],by omega,.inl (aY i)⟩
 ·refine⟨some ⟨g,0,none⟩,cap,rfl,i,.inr ⟨g,0,rfl,(ah.1 o).1,λj r l=>?_⟩⟩;obtain⟨h0,h1,h2,h3,h4⟩:=Xd xs j r l;have d:∀k,(⟨g,0,none⟩:Addr).add k=⟨g,0+k,none⟩:=λk=>by unfold Addr.add;split<;>simp_all
  have c0:=World.ownsRow.cells h (g:=g) rfl _ _ h0;have c1:=World.ownsRow.cells h (g:=g) rfl _ _ h1;have c2:=World.ownsRow.cells h (g:=g) rfl _ _ h2;have c3:=World.ownsRow.cells h (g:=g) rfl _ _ h3;have c4:=World.ownsRow.cells h (g:=g) rfl _ _ h4;rw[d] at c0 c1 c2 c3 c4;exact⟨c0,by rw[cQ];exact c1,by rw[cQ];exact c2,by rw[cQ];exact c3,by rw[cQ];exact c4⟩
end
section
open Go.RowKit
def Oj(r:List iK):Prop:=r.length<=12/\(DnS.Au r).length<=1000/\∀t∈r,DnS.UM t
theorem Oj.texts{r:List iK}(h:Oj r):DnS.Ae (DnS.Au r)=(r,0):=DnS.WP h.2.2 h.1 h.2.1
theorem Oj.ne{t:iK}{r:List iK}(h:Oj (t :: r)):DnS.Au (t :: r)≠[]:=λe=>by
 have h1:=h.texts;rw[e] at h1;have h2:DnS.Ae []=([],0):=by decide+kernel
 rw[h2] at h1;have:=congrArg Prod.fst h1;cases this
end
section
open Go.RowKit
theorem LW{α:Type}{p:α->Bool}{l:List α}{k:Nat}(hk:k<l.length)(h:p l[k]=true):(l.take (k+1)).filter p=(l.take k).filter p++[l[k]]:=by rw[aW hk,bi,eY,aJ h,List.filter_nil]
theorem Ol{α:Type}{p:α->Bool}{l:List α}{k:Nat}(hk:k<l.length)(h:p l[k]=false):(l.take (k+1)).filter p=(l.take k).filter p:=by rw[aW hk,bi,eY,aG (by rw[h];simp),List.filter_nil,bK]
theorem GZ.filter(h:GZ xs)(p:EnS.At->Bool):GZ (xs.filter p):=⟨aX (bJ _ _) h.1,λx hx=>h.2 x (cf.1 hx).1⟩
theorem BG.partsT{o:Nat}{x:EnS.At}(h:BG (okT Ts C w) w g o x):w.cell? ⟨g,o,none⟩=some (.string ⟨x.typ.toArray⟩)/\∃a c,w.cell? ⟨g,o+1,none⟩=some (.slice a x.vals.length c)/\x.vals.length<=c/\Am (okT Ts C w) w (.slice a x.vals.length c) x.vals:=by obtain⟨h1,u,h2,h3⟩:=h;obtain⟨a,c,rfl,hc⟩:=Ad.form h3;exact⟨h1,a,c,h2,hc,h3⟩
end
section
open Go.RowKit
def Adi(C:Nat)(o:Option EnS.En)(w:World)(e:Ending)(w':World):Prop:=
 (∃x:EnS.En,o=some x/\∃u,e=.returned (.tuple #[.agg #[x.name,u],true])/\Ao atK 56 [9] C w' w.heap.size u x.attrs/\Below w.heap.size w w')
 \/(o=none/\e=.returned (.tuple #[.agg #[.string ⟨#[]⟩,.slice none 0 0],false])/\Below w.heap.size w w')
theorem Eg.in(h:Eg Ts C w u xs):BA w u xs:=
 Ad.imp h (aA _) (λ_ _ h=>h) λ_ _ _ _ _ hx=>by obtain⟨h1,u,h2,h3⟩:=hx;exact⟨h1,u,h2,h3.any⟩
end
section
open Go.RowKit
theorem II:(prog.info? 52).map (λi=>(i.zero,i.size,i.bytes))=some (some (.agg #[.string ⟨#[]⟩,.slice none 0 0]),2,40):=by kernel_rfl
def AaM(xs:List EnS.En):Prop:=∀x∈xs,∀a∈x.attrs,a.typ.length<=1048576
end
section
open Go.Maps
def Ae9(v:Value):Option (DataW Value×List MemPlace):=some (.held v,[])
def Adj(D:DataW Value)(f:iK->Option Value):Prop:=∀s,(Maps.has D (.string s)=(f s).isSome)/\∀v,f s=some v->∀z,D.atKey (.string s) z=.held v
def Dt(P:Program)(k:TypeId)(w:World)(b n:Nat)(f:iK->Option Value):Prop:=∃D,w.ownsMap P k Ae9 b n D/\Adj D f
def PT(f:iK->Option Value)(s:iK)(v:Value):iK->Option Value:=λx=>if x=s then some v else f x
theorem Xe(s:iK):WideAt.IsKeyLit (.string s):=trivial
variable {P:Program} {k e t:TypeId} {w:World} {b n:Nat} {f:iK->Option Value}
theorem Dt.made(P:Program)(k:TypeId)(w:World):Dt P k (w.alloc (.map #[] 0)) w.heap.size 0 (λ_=>none):=⟨_,World.ownsMap_made w P k Ae9,λs=>⟨rfl,λv h=>by cases h⟩⟩
theorem Dt.kept{row:Option Nat}(h:Dt P k w b n f)(i:w.grownBy w' row)(d:some b≠row):Dt P k w' b n f:=by obtain⟨D,h1,h2⟩:=h;exact⟨D,h1.kept i d,h2⟩
theorem Dt.lt(h:Dt P k w b n f):b<w.heap.size:=by obtain⟨D,h1,_⟩:=h;exact h1.lt
theorem Dt.look(h:Dt P k w b n f)(hk:P.underlying k=some .string)(p:P.underlying t=some (.map k e)){z:Value}(o:(zeroValue e).run P w=.ok z w)(s:iK)(E:s.length<=maxLen):
  (Instr.lookup t (.map (some b)) (.string ⟨s.toArray⟩) true).run P w=.ok (.tuple #[(f s).getD z,.bool (f s).isSome]) w/\(Instr.lookup t (.map (some b)) (.string ⟨s.toArray⟩) false).run P w=.ok ((f s).getD z) w:=by
 obtain⟨D,h1,h2⟩:=h;have d:keyOf P k (.string ⟨s.toArray⟩)=some (.string s):=Go.WideMaps.keyOf_string_mk hk (by show (⟨s.toArray⟩:ByteArray).size<=_;show s.toArray.size<=_;rw[bS];exact E);obtain⟨v,ps,x,A⟩:=h1.look_ok (Maps.string_keyed hk) p o (zd:=.held z) (zp:=[]) rfl d;obtain⟨v2,G,j,l⟩:=h1.lookup (Maps.string_keyed hk) p o (zd:=.held z) (zp:=[]) rfl d;obtain⟨g1,g2⟩:=h2 s;have i:D.atKey (.string s) (.held z)=.held ((f s).getD z):=by
  cases q:f s with
  |some y=>exact g2 y q _
  |none=>rw[q] at g1;exact Maps.atKey_of_not_has g1 _
 rw[i] at A l;have H:v=(f s).getD z:=by have:=aU A;simp only[bT,DataW.held.injEq] at this;exact this.1
 have F:v2=(f s).getD z:=by have:=aU l;simp only[bT,DataW.held.injEq] at this;exact this.1
 rw[<-g1];rw[H] at x;rw[F] at j;exact⟨x,j⟩
theorem Dt.store(h:Dt P k w b n f)(hk:P.underlying k=some .string)(G:P.underlying t=some (.map k e))(E:n<maxLen)(s:iK)(q:s.length<=maxLen)(v:Value):
  ∃w',(Instr.mapUpdate t (.map (some b)) (.string ⟨s.toArray⟩) v).run P w=.ok () w'/\Dt P k w' b (n+1) (PT f s v)/\w.grownBy w' (some b)/\w'.heap.size=w.heap.size:=by
 obtain⟨D,h1,h2⟩:=h;have l:keyOf P k (.string ⟨s.toArray⟩)=some (.string s):=Go.WideMaps.keyOf_string_mk hk (by show (⟨s.toArray⟩:ByteArray).size<=_;show s.toArray.size<=_;rw[bS];exact q);obtain⟨w',H,F,i⟩:=h1.store (Maps.string_keyed hk) G E l (d:=.held v) (ps:=[]) rfl;have p:=h1.isMap;refine⟨w',H,⟨_,F,λx=>?_⟩,i.grown,?_⟩
 ·unfold PT;by_cases hx:x=s
  ·subst hx;rw[aJ rfl];refine⟨Maps.has_put_same p (Xe x) _,λy o z=>?_⟩;cases o;exact Maps.atKey_put_same p (Xe x) _ _
  ·rw[aG hx];have j:(Lit.string x)≠.string s:=λe=>hx (by injection e);rw[Maps.has_put_other j];exact⟨(h2 x).1,λy o z=>by rw[Maps.atKey_put_other j];exact(h2 x).2 y o z⟩
 ·obtain⟨es,c,A,I,_,rfl⟩:=i;simp[Go.ChangeMaps.setBlock]
def Ef(P:Program)(k:TypeId)(w:World)(b r n:Nat)(f:iK->Option Value)(todo:iK->Bool)(cnt:Nat):Prop:=
 ∃D left,w.ranges P k Ae9 b r n D left cnt/\Adj D f/\∀s,left (.string s)=todo s
variable {r cnt:Nat} {todo:iK->Bool}
theorem Ef.kept{row:Option Nat}(h:Ef P k w b r n f todo cnt)(j:w.grownBy w' row)(i:some b≠row)(d:some r≠row):Ef P k w' b r n f todo cnt:=by obtain⟨D,left,h1,h2,h3⟩:=h;exact⟨D,left,h1.kept j i d,h2,h3⟩
theorem Ef.left_eq(h:Ef P k w b r n f todo cnt):w.rangeLeft b r=cnt:=by obtain⟨D,left,h1,_⟩:=h;exact h1.left_eq
theorem Ef.lt(h:Ef P k w b r n f todo cnt):r<w.heap.size/\b<w.heap.size/\r≠b:=by obtain⟨D,left,h1,_⟩:=h;exact⟨h1.lt,h1.owns.lt,h1.ne⟩
theorem Dt.range(h:Dt P k w b n f)(hk:P.underlying k=some .string)(d:P.underlying t=some (.map k e)):
  ∃w',(Instr.range t (.map (some b))).run P w=.ok (.pointer (some ⟨w.heap.size,0,none⟩)) w'/\(∃cnt,Ef P k w' b w.heap.size n f (λs=>(f s).isSome) cnt)/\w.grownBy w' none/\w'.heap.size=w.heap.size+1:=by
 obtain⟨D,h1,h2⟩:=h;obtain⟨w',j,l,hb,i⟩:=h1.range (Maps.string_keyed hk) d;exact⟨w',j,⟨_,D,_,l,h2,λs=>(h2 s).1⟩,hb,i⟩
theorem Ef.next(h:Ef P k w b r n f todo cnt)(hk:P.underlying k=some .string)(ty:TypeId):
  ((∀s,todo s=false)/\(Instr.next (.pointer (some ⟨r,0,none⟩)) false ty).run P w=.ok (.tuple #[false]) w)\/
  ∃(s:iK) (v:Value) (w':World) (d:Nat),s.length<=maxLen/\todo s=true/\f s=some v/\(Instr.next (.pointer (some ⟨r,0,none⟩)) false ty).run P w=.ok (.tuple #[true,.string ⟨s.toArray⟩,v]) w'/\
   Ef P k w' b r n f (λx=>todo x&&decide (x≠s)) d/\d<cnt/\w.grownBy w' (some r)/\w'.heap.size=w.heap.size/\(Instr.entry (.pointer (some ⟨r,0,none⟩))).run P w'=.ok (.tuple #[.string ⟨s.toArray⟩,v]) w':=by
 obtain⟨D,left,h1,h2,h3⟩:=h;rcases h1.next (Maps.string_keyed hk) ty with⟨_,M,i⟩|⟨key,v,L,y,w',d,j,q,K,o,i,z,I,G,hsz,F⟩
 ·exact .inl ⟨λs=>by rw[<-h3];exact M _,i⟩
 ·obtain⟨x,rfl,rfl,hx⟩:∃x:ByteArray,key=.string x/\L=.string x.data.toList/\x.size<=maxLen:=by
   cases key<;>simp[keyOf,hk,mapKey] at j
   obtain⟨hx,rfl⟩:=j;exact⟨_,rfl,rfl,hx⟩
  obtain⟨l,rfl⟩:∃l:iK,x=⟨l.toArray⟩:=⟨x.data.toList,by cases x;simp⟩
  simp only at q o z;cases K;have p:(f l).isSome=true:=by
   cases A:f l with
   |some _=>rfl
   |none=>have:=(h2 l).1;rw[A] at this;have h4:=Maps.atKey_of_not_has this (.held (.bool true));have h5:=Maps.atKey_of_not_has this (.held (.bool false));rw[o] at h4 h5;rw[h4] at h5;simp at h5
  obtain⟨J,A⟩:=ft.1 p;have H:v=J:=by
   have:=(h2 l).2 J A (.held (.bool true));rw[o] at this
   simpa using this
  subst H;refine .inr ⟨l,v,w',d,by(have hx':l.toArray.size<=maxLen:=hx);rwa [bS] at hx',by rw[<-h3];exact q,A,i,⟨D,_,z,h2,λs=>?_⟩,I,G,hsz,F⟩;rw[h3];by_cases E:s=l
  ·subst E;rw[WideAt.sameKey_self (Xe s)];simp
  ·rw[Maps.sameKey_ne (λe=>E (by injection e))];simp[E]
end
section
open Go.RowKit
structure But (S:Nat->Prop) (w w':World):Prop where
 os:w'.os=w.os
 tape:w'.tape=w.tape
 output:w'.output=w.output
 size:w.heap.size<=w'.heap.size
 block:∀k,k<w.heap.size->¬S k->w'.heap[k]?=w.heap[k]?
theorem But.refl(S:Nat->Prop)(w:World):But S w w:=⟨rfl,rfl,rfl,aA _,λ_ _ _=>rfl⟩
theorem But.trans{l:Nat->Prop}{b:World}(h:But S a b)(k:But l b c)(hS:∀i,i<a.heap.size->l i->S i):But S a c:=
 ⟨k.os.trans h.os,k.tape.trans h.tape,k.output.trans h.output,aX h.size k.size,λi d j=>(k.block i (ae d h.size) (λo=>j (hS i d o))).trans (h.block i d j)⟩
theorem But.call{b:World}(h:But S a b)(k:Below b.heap.size b c):But S a c:=
 ⟨k.os.trans h.os,k.tape.trans h.tape,k.output.trans h.output,aX h.size k.size,λi d j=>(k.block i (ae d h.size)).trans (h.block i d j)⟩
theorem But.grown{b:World}{row:Option Nat}(h:But S a b)(k:b.grownBy c row)(l:∀i,i<a.heap.size->row=some i->S i):But S a c:=
 ⟨k.os.trans h.os,k.tape.trans h.tape,k.output.trans h.output,aX h.size k.size,λi d j=>(k.block i (ae d h.size) (λe=>j (l i d e.symm))).trans (h.block i d j)⟩
theorem But.below(h:But S w w')(hB:B<=w.heap.size)(hS:∀i,S i->B<=i):Below B w w':=
 ⟨h.os,h.tape,h.output,h.size,λk hk=>h.block k (ae hk hB) (λd=>by have:=hS k d;omega)⟩
theorem But.whole(h:But S w w')(d:Whole w g T cs)(i:¬S g):Whole w' g T cs:=(h.block g d.lt i).trans d
theorem DI{P:Program}{k:TypeId}{n:Nat}{f:iK->Option Value}(d:Dt P k w b n f){fz:Nat×Nat}(h:w.heap[g]?=some (.cells cs T fz)):g≠b:=by rintro rfl;obtain⟨D,⟨es,c,hb,_⟩,_⟩:=d;rw[h] at hb;cases hb
theorem Whole.mapped(h:Whole w g T cs)(i:w.grownBy w' (some b))(d:g≠b):Whole w' g T cs:=(i.block g h.lt (λe=>d (aU e))).trans h
theorem Ao.mapped{α:Type}{L:KLay α}{xs:List α}(h:Ao L T Ts C w B v xs){P:Program}{k:TypeId}{n:Nat}{f:iK->Option Value}(o:Dt P k w b n f)(hC:C<=b)(l:w.grownBy w' (some b)):Ao L T Ts C w' B v xs:=by
 obtain⟨p,h1,h2,h3⟩:=h;have s:v.ownBlock=none\/v.ownBlock≠some b:=by
  rcases h1.2 with⟨rfl,_⟩|⟨g,cap,cur,rfl,_,q,_⟩
  ·exact .inl rfl
  ·refine .inr (λe=>?_);exact DI o q (aU e)
 refine⟨p,h1.kept l s,h2,λi u x hu hx=>?_⟩;refine L.keep (h3 i u x hu hx) l.size (λg j d=>l.block g j (λe=>?_)) (λg j d=>d.same (l.block g j (λe=>?_)))
 all_goals
  have e:=aU e;subst e;rcases d with d|⟨cs,y,fz,hc,_⟩
  ·omega
  ·exact DI o hc rfl
end
section
open Go.RowKit
abbrev okA(C:Nat)(w:World):Nat->Prop:=okT [9,56] C w
def nA(C:Nat)(w:World)(g:Nat):Prop:=g<C\/∀cs fz,w.heap[g]?≠some (.cells cs 56 fz)
def AV(C:Nat)(ok:Nat->Prop)(w:World)(u:Value)(xs:List EnS.At):Prop:=Ad 2 (BG (λg=>ok g/\nA C w g)) ok w u xs
theorem AV.keep{ok ok':Nat->Prop}(h:AV C ok w u xs)(j:w.heap.size<=w'.heap.size)(hb:∀g,g<w.heap.size->ok g->w'.heap[g]?=w.heap[g]?)(hk:∀g,g<w.heap.size->ok g->ok' g):AV C ok' w' u xs:=
 Ad.imp h j hk λg o _ i d ⟨h1,u,h2,h3⟩=>⟨(World.cell?_of_block (a:=⟨g,o,none⟩) (hb g i d)).trans h1,u,(World.cell?_of_block (a:=⟨g,o+1,none⟩) (hb g i d)).trans h2,Am.keep h3 j (λg i d=>hb g i d.1) (λg i d=>⟨hk g i d.1,d.2.imp id (λl cs fz=>by rw[hb g i d.1];exact l cs fz)⟩)⟩
theorem AV.p{ok:Nat->Prop}(h:AV C ok w u xs):Aw ok w u xs:=
 Ad.imp h (aA _) (λ_ _ h=>h) λ_ _ _ _ _ ⟨h1,u,h2,h3⟩=>⟨h1,u,h2,Am.keep h3 (aA _) (λ_ _ _=>rfl) (λ_ _ h=>h.1)⟩
theorem AV.e(h:AV C (okA C w) w u xs):Eg [9] C w u xs:=
 Ad.imp h (aA _) (λ_ _ _=>trivial) λ_ _ _ _ _ ⟨h1,u,h2,h3⟩=>⟨h1,u,h2,Am.keep h3 (aA _) (λ_ _ _=>rfl) (λg _ i=>by
  rcases i.1 with h|⟨cs,T,fz,hc,d⟩
  ·exact .inl h
  ·rcases i.2 with h|j
   ·exact .inl h
   ·rcases ay.1 d with rfl|d
    ·exact .inr ⟨cs,_,fz,hc,aj.2 rfl⟩
    ·rw[aj] at d;subst d;exact absurd hc (j cs fz))⟩
theorem AV.callT(h:AV C (okA C w) w u xs)(hb:Below w.heap.size w w'):AV C (okA C w') w' u xs:=h.keep hb.size (λg i _=>hb.block g i) (λg i d=>d.same (hb.block g i))
def enQ(C:Nat):KLay EnS.En:=⟨EnS.En.name,λok w u x=>AV C ok w u x.attrs,λh=>AV.keep h,λh=>by obtain⟨a,c,rfl,_⟩:=Ad.form h;rfl⟩
theorem Ao.attrsQ(h:Ao atK 56 [9] C w B v xs):AV C (okA C w) w v xs:=by
 obtain⟨a,c,e,hc,d⟩:=h.attrsB (Ts':=[9,56]) (by simp) (by simp);refine⟨a,c,e,hc,?_⟩;rcases d with h0|⟨g,o,E,q,s,_⟩
 ·exact .inl h0
 ·refine .inr ⟨g,o,E,q,s,λj x A=>?_⟩;have p:j<xs.length:=(ak.1 A).1;obtain⟨g2,cap,G,z,_,_,_,_,c0,c1,i⟩:=h.slice p;rw[e] at z;injection z with e3 _ _;rw[E] at e3;have I:=aU e3;injection I with e5 e6 _;subst e5;subst e6;have hx:xs[j]=x:=(ak.1 A).2;rw[hx] at c0 i;rw[bv];refine⟨c0,G,c1,Am.keep i (aA _) (λ_ _ _=>rfl) (λg _ q=>?_)⟩;rcases q with h|⟨cs,T,fz,hc,y⟩
  ·exact⟨.inl h,.inl h⟩
  ·rw[aj] at y;subst y;exact⟨.inr ⟨cs,_,fz,hc,by simp⟩,.inr (λF H l=>by rw[hc] at l;cases l)⟩
def Bt(C:Nat)(w:World)(m:Option Nat)(N:Nat)(R:List EnS.En):Prop:=
 (m=none/\R=[])\/∃b f,m=some b/\C<=b/\Dt prog 9 w b N f/\(∀s,(f s).isSome=true↔∃e∈R,e.name=s)/\∀e∈R,∃u,f e.name=some (.agg #[.string ⟨e.name.toArray⟩,u])/\AV C (okA C w) w u e.attrs
theorem Kv(h:AV C (okA C w) w u xs)(j:w.heap.size<=w'.heap.size)(hb:∀k,k<w.heap.size->¬S k->w'.heap[k]?=w.heap[k]?)(hS:∀k,k<w.heap.size->okA C w k->¬S k):AV C (okA C w') w' u xs:=
 AV.keep h j (λg i d=>hb g i (hS g i d)) (λg i d=>d.same (hb g i (hS g i d)))
theorem Bt.call(h:Bt C w m N R)(hb:Below w.heap.size w w'):Bt C w' m N R:=by
 rcases h with h|⟨b,f,rfl,hC,d,h1,h2⟩
 ·exact .inl h
 ·refine .inr ⟨b,f,rfl,hC,d.kept (Bc hb) (by simp),h1,λe j=>?_⟩;obtain⟨u,hu,i⟩:=h2 e j;exact⟨u,hu,AV.callT i hb⟩
theorem Bt.pushed(h:Bt C w m N R){α:Type}{L:KLay α}{xs:List α}(F:Ao L T Ts C w B v xs)(H:C<=B)(E:T∉[9,56])(l:w.grownBy w' v.ownBlock):Bt C w' m N R:=by
 obtain⟨J,o,_,_⟩:=F;have d:∀k,v.ownBlock=some k->∃cs fz,B<=k/\w.heap[k]?=some (.cells cs T fz):=λk hk=>by
  rcases o.2 with⟨rfl,_⟩|⟨g,cap,cur,rfl,p,A,_⟩
  ·cases hk
  ·cases hk;exact⟨cur,_,p,A⟩
 rcases h with h|⟨b,f,rfl,hC,s,h1,h2⟩
 ·exact .inl h
 ·refine .inr ⟨b,f,rfl,hC,s.kept l (λe=>?_),h1,λe x=>?_⟩
  ·obtain⟨cs,fz,_,hc⟩:=d b e.symm;exact DI s hc rfl
  ·obtain⟨u,hu,z⟩:=h2 e x;refine⟨u,hu,Kv (S:=λk=>v.ownBlock=some k) z l.size (λk hk G=>l.block k hk (λe=>G e.symm)) (λk hk j hS=>?_)⟩;obtain⟨cs,fz,hB,hc⟩:=d k hS;rcases j with j|⟨y,K,I,i,q⟩
   ·omega
   ·rw[hc] at i;cases i;exact E q
theorem Bt.store{f:iK->Option Value}(hC:C<=b)(A:Dt prog 9 w b N f)(h1:∀s,(f s).isSome=true↔∃e∈R,e.name=s)(h2:∀e∈R,∃u,f e.name=some (.agg #[.string ⟨e.name.toArray⟩,u])/\AV C (okA C w) w u e.attrs)
  {x:EnS.En}(hu:AV C (okA C w) w u x.attrs)(o:f x.name=none)(l:Dt prog 9 w' b (N+1) (PT f x.name (.agg #[x.name,u])))(q:w.grownBy w' (some b)):Bt C w' (some b) (N+1) (R++[x]):=by
 have hk:∀{z:Value} {ys:List EnS.At},AV C (okA C w) w z ys->AV C (okA C w') w' z ys:=λh=>Kv (S:=λk=>k=b) h q.size (λk hk o=>q.block k hk (λe=>o (aU e))) (λk hk i hS=>by
  subst hS;rcases i with i|⟨E,H,G,p,_⟩
  ·omega
  ·exact DI A p rfl)
 have hx:∀e∈R,e.name≠x.name:=λe d h=>by have:=(h1 x.name).2 ⟨e,d,h⟩;rw[o] at this;cases this
 refine .inr ⟨b,_,rfl,hC,l,λs=>?_,λe d=>?_⟩
 ·unfold PT;by_cases j:s=x.name
  ·rw[aJ j];exact⟨λ_=>⟨x,dM _ (aj.2 rfl),j.symm⟩,λ_=>rfl⟩
  ·rw[aG j,h1];constructor
   ·rintro⟨e,d,h⟩;exact⟨e,bw _ d,h⟩
   ·rintro⟨e,d,h⟩;rcases bB.1 d with d|d
    ·exact⟨e,d,h⟩
    ·rw[aj] at d;subst d;exact absurd h.symm j
 ·unfold PT;rcases bB.1 d with d|d
  ·obtain⟨z,y,F⟩:=h2 e d;exact⟨z,by rw[aG (hx e d)];exact y,hk F⟩
  ·rw[aj] at d;subst d;exact⟨u,aJ rfl,hk hu⟩
theorem Bt.same(h:Bt C w m N R){x:EnS.En}(hx:x∈R):Bt C w m N (R++[x]):=by
 rcases h with⟨_,rfl⟩|⟨b,f,rfl,hC,i,h1,h2⟩
 ·cases hx
 ·refine .inr ⟨b,f,rfl,hC,i,λs=>?_,λe d=>?_⟩
  ·rw[h1];constructor
   ·rintro⟨e,d,h⟩;exact⟨e,bw _ d,h⟩
   ·rintro⟨e,d,h⟩;rcases bB.1 d with d|d
    ·exact⟨e,d,h⟩
    ·rw[aj] at d;subst d;exact⟨e,hx,h⟩
  ·rcases bB.1 d with d|d
   ·exact h2 e d
   ·rw[aj] at d;subst d;exact h2 e hx
end
section
open Go.RowKit
attribute [local go_sem ↓] Go.wp_at_zero Go.wp_at_succ
theorem AfX{n:iK}(h:SeS.GM n)(d:n≠[]):(DnS.Fv n).2=true:=by
 unfold DnS.Fv;split
 ·rename_i h0;exact absurd (h.join.symm.trans (by rw[h0];rfl)) d
 ·rfl
def Gh(d:iK)(sc:Int)(m:iK):Bool:=decide (0<=sc/\sc<=2)&&SeS.inScope d sc m
theorem AeA{l:List EnS.En}{s d:iK}{sc:Int}(h:DnS.Ax s=(d,0)):SeS.AO l s sc=l.filter (λe=>Gh d sc e.name):=by
 unfold SeS.AO Gh;rw[h];by_cases hc:0<=sc/\sc<=2
 ·rw[aJ ⟨rfl,hc⟩];simp[hc]
 ·rw[aG (λk=>hc k.2)];simp[hc]
theorem Adk{l:List EnS.En}{s j:iK}{sc d:Int}(h:DnS.Ax s=(j,d))(i:d≠0):SeS.AO l s sc=[]:=by unfold SeS.AO;rw[h,aG (λk=>i k.1)]
theorem TK(w0:World)(u:Value)(l:List EnS.En)(s:iK)(sc:Int)(w:World)(h:Ci w0 u l)(hb0:Below w0.heap.size w0 w)(hf:Eo l)(hs:s.length<=1000000)(ho:SeS.BU l)(Y:∀e∈l,e.name≠[])(hE:Env w):
  Calls prog 16 #[u,s,sc] w (λe w'=>∃v,e=.returned v/\Ao (enQ w0.heap.size) 52 [9,56] w0.heap.size w' w.heap.size v (SeS.AO l s sc)/\Below w.heap.size w w'):=by
 have O:=IX s hs w hE;unfold Bo at O;have A3:=hZ9 (λq (h:DnS.Ax s=(q,0))=>AeA (l:=l) (sc:=sc) h);have A4:=hZ9 (λq e0 (h:DnS.Ax s=(q,e0)) he=>Adk (l:=l) (sc:=sc) h he);obtain⟨RS,D8⟩:∃r,SeS.AO l s sc=r:=⟨_,rfl⟩
 rw[D8] at A3 A4⊢;clear D8;obtain⟨NN,D1⟩:∃p,DnS.Ax s=p:=⟨_,rfl⟩
 have C8:=DnS.Ic s;rw[D1] at O A3 A4 C8;clear D1;obtain⟨q,e0⟩:=NN;simp only at O C8;obtain⟨a,c,rfl,hc,D9⟩:=Ad.at h;have A9:=hZ9 D9;have E9:l.length<=1048576:=hf.1;have B0:=hZ9 (λk (hk:k<l.length)=>ho _ (aZ hk));have B1:=hZ9 (λk (hk:k<l.length)=>Y _ (aZ hk));have B3:=hZ9 (λk (hk:k<l.length)=>hf.2 _ (aZ hk));have C1:=hZ9 (λW (hb:Below w.heap.size w W)=>hE.below hb);have J:=hZ9 (λk (hk:k<l.length) h=>LW (p:=λe=>Gh q sc e.name) hk h);have B2:=hZ9 (λk (hk:k<l.length) h=>Ol (p:=λe=>Gh q sc e.name) hk h);have H:=hZ9 (λk=>show ((l.take k).filter (λe=>Gh q sc e.name)).length<=1048576 from aX (bJ _ _) (aX (by rw[ar];omega) hf.1));have A2:Hid (l.take l.length=l):=hZ9 (bA);obtain⟨i0,hi,E3,E4,F2⟩:=info_parts II;have HI:=hZ9 hi;clear D9 h hf ho Y hi hE;obtain⟨L,hL⟩:∃m,l.length=m:=⟨_,rfl⟩
 have HL:=hZ9 hL;rw[hL] at hc E9 A2⊢;clear hL;by_cases he:e0=0
 case neg=>
  have F7:(e0 !=0)=true:=by simpa using he
  have HR:=hZ9 (A4.out q e0 rfl he);clear A4 A3 A9 B0 B1 B3 C1 J B2 H HI A2;go_enter func16,ntmps16;go_wp2_with fail;refine O.mono ?_;rintro e w1 ⟨rfl,B8⟩;go_wp2_with fail;go_ret;exact⟨_,rfl,by rw[HR.out];exact Ao.empty _ _ _ _ _ _,B8⟩
 subst he;have HR:=hZ9 (A3.out q rfl);clear A4 A3;go_enter func16,ntmps16;go_wp2_with fail;refine O.mono ?_;rintro e w1 ⟨rfl,B8⟩;clear O;go_wp2_with fail;go_loopw [9,24] (λout i wr=>∃k:Nat,k<=L/\i=.int .i64 k/\Ao (enQ w0.heap.size) 52 [9,56] w0.heap.size wr w.heap.size out ((l.take k).filter (λe=>Gh q sc e.name))/\Below w.heap.size w wr) (λ_ i _=>L-(intOf i).toNat)
 case atStart=>exact⟨0,aR _,rfl,Ao.empty _ _ _ _ _ _,B8⟩
 case round=>
  obtain⟨k,hk,rfl,G,hb⟩:=hrel;obtain⟨oa,oc,rfl⟩:=G.form;by_cases E8:k<L
  case neg=>
   have E5:k=L:=by omega
   subst E5;have F1:=hZ9 (show (l.take k).filter (λe=>Gh q sc e.name)=RS by rw[A2.out,HR.out]);generalize (l.take k).filter (λe=>Gh q sc e.name)=Q at*;clear A9 B0 B1 B3 C1 J B2 H HI A2;go_wp2_with fail;go_ret;exact⟨_,rfl,by rw[<-F1.out];exact G,hb⟩
  have d:k<l.length:=by rw[HL.out];exact E8
  obtain⟨g,o,rfl,hg,_,hra⟩:=A9.out k d;have I:=hb0.trans (hb.mono hb0.size);have A6:=Dk.call hra hg trivial I;obtain⟨_,ax,cx,D7,_,C5⟩:=Dk.parts hra;obtain⟨c0,a2,p2,c1,F3,_⟩:=Dk.parts A6;have Z:(Value.slice ax (l[k]'d).attrs.length cx)=.slice a2 (l[k]'d).attrs.length p2:=by have:=(I.cell (p:=⟨g,o+k*2+1,none⟩) hg).trans D7;rw[c1] at this;exact(aU this).symm
  rw[Z] at C5;have C0:=Aw.exp (Aw.callT (C5.base [9]) I);have D4:=B3.out k d;have E1:=B0.out k d;have Y:=B1.out k d;have y:=J.out k d;have X:=B2.out k d;have F8:=H.out k;have M:=λC W hC h=>UX C (l[k]'d).name (l[k]'d).attrs (.slice a2 (l[k]'d).attrs.length p2) W hC h D4.2;have B7:=AfX E1 Y;clear hra A6 D7 C5 Z A9 B0 B1 B3 J B2 H A2;generalize l[k]=x at*;obtain⟨name,D2⟩:=x;simp only at c0 c1 F3 C0 D4 E1 Y y X M B7;unfold Jj at M;have F6:(0:Int)<=(k:Int):=by omega
  have F5:(k:Int)<(L:Int):=by omega
  have z:=λW hE=>ZE name (by omega) W hE;have K:=λW hE=>Sr name q (by omega) (by omega) W hE;unfold Qj at z;unfold Ew at K;have j:Hid (Gh q sc name=(decide (0<=sc/\sc<=2)&&(if sc=0 then name==q else if sc=1 then(name !=[]&&(DnS.Fv name).1==q) else DnS.Fh name q))):=hZ9 rfl;obtain⟨PX,D0⟩:∃b,Gh q sc name=b:=⟨_,rfl⟩
  rw[D0] at j y X;clear D0;generalize DnS.Fv name=P at*;obtain⟨P1,P2⟩:=P;generalize DnS.Fh name q=U at*;simp only at z B7 j;subst B7;generalize C9:D2.length=AL at*;have E7:=hZ9 C9;clear C9;have B4:=Af wr (.cells #[name,.slice a2 AL p2] 52);have C4:=Whole.made wr 52 #[name,.slice a2 AL p2];have B6:=hb.trans (B4.mono hb.size);have A:=G.call B4;have A1:=C0.callT B4;have e0:=C4.cell 0;have e1:=C4.cell 1;simp only[aO,aH,aP] at e0 e1;clear G C0 B4;generalize ((l.take k).filter (λe=>Gh q sc e.name))=Q at*;go_upto_block 2 with fail;go_cut [12] (λb wd=>b=.bool PX/\Below (wr.alloc (.cells #[name,.slice a2 AL p2] 52)).heap.size (wr.alloc (.cells #[name,.slice a2 AL p2] 52)) wd)
  case first=>
   clear y X A A1 M HI HR;have D3:=C1.out _ B6;by_cases h0:sc=0
   ·have HP:Hid ((name==q)=PX):=hZ9 (by rw[j.out];simp[h0]);subst h0;clear j;go_wp2_with fail;go_meet;exact⟨by(rw[<-HP.out])<;>rfl,Below.refl _ _⟩
   have d0:(sc==0)=false:=by simpa using h0
   by_cases h1:sc=1
   ·have HP:Hid ((P1==q)=PX):=hZ9 (by rw[j.out,aG h0,aJ h1];simp[h1,Y]);subst h1;clear j;have F4:=z _ D3;clear z;go_wp2_with fail;refine F4.mono ?_;rintro e w2 ⟨rfl,C2⟩;go_wp2_with fail;go_meet;exact⟨by(rw[<-HP.out])<;>rfl,C2⟩
   have d1:(sc==1)=false:=by simpa using h1
   by_cases h2:sc=2
   ·have HP:Hid (U=PX):=hZ9 (by rw[j.out,aG h0,aG h1];simp[h2]);subst h2;clear j;have E6:=K _ D3;clear K;go_wp2_with fail;refine E6.mono ?_;rintro e w2 ⟨rfl,C2⟩;go_wp2_with fail;go_meet;exact⟨by(rw[<-HP.out])<;>rfl,C2⟩
   have d2:(sc==2)=false:=by simpa using h2
   have HP:Hid (false=PX):=hZ9 (by rw[j.out,aB (by omega)];rfl);clear j;go_wp2_with fail;go_meet;exact⟨by(rw[<-HP.out])<;>rfl,Below.refl _ _⟩
  case rest=>
  obtain⟨rfl,V⟩:=hcut;have C3:=B6.trans (V.mono B6.size);have E:=A.call V;have C7:=A1.callT V;have f0:=Ab e0 V;have f1:=Ab e1 V;clear A A1 e0 e1 C4 j z K;obtain⟨w5,rfl⟩:∃x,x=wc:=⟨_,rfl⟩
  cases PX with
  |false=>
   have HQ:=hZ9 (X rfl);clear y X M HI;go_wp2_with fail;go_roundw
   case rel=>exact⟨k+1,by omega,by go_num,by rw[HQ.out];exact E,C3⟩
   case measure=>simp[intOf];omega
  |true=>
   have HQ:=hZ9 (y rfl);have A5:=M w0.heap.size w5 (aX I.size (aX (by simp) V.size)) C7;clear y X M;go_wp2_with fail;refine A5.mono ?_;rintro e w6 ⟨u6,rfl,F,E0⟩;have E2:=C3.trans (E0.mono C3.size);have A0:=E.call E0;have B9:=F.attrsQ;obtain⟨yb,yd,rfl⟩:=F.form;rw[E7.out] at B9⊢;have B5:=Af w6 (.cells #[name,.slice yb AL yd] 52);have D6:=Whole.made w6 52 #[name,.slice yb AL yd];have D5:=E2.trans (B5.mono E2.size);have A8:=A0.call B5;have C6:=AV.callT B9 B5;have b0:=D6.cell 0;have b1:=D6.cell 1;have hsz:=D5.size;simp only[aO,aH,aP] at b0 b1;clear A5 F E A0 B9;go_wp2_with (at_builtin;refine NE (enQ w0.heap.size) 52 22 [9,56] (by decide) underlying22 HI.out E3 E4 F2 (by rfl) (by rfl) _ _ (by rfl) w.heap.size hb0.size _ Q (by rfl) A8 w6.heap.size (by rfl) ⟨name,D2⟩ _ b0 b1 C6 (by omega) hsz ?_)
   intro v7 w7 A7 F0 F9;go_wp2_with fail;go_roundw
   case rel=>exact⟨k+1,by omega,by go_num,by rw[HQ.out];exact A7,D5.trans F0⟩
   case measure=>simp[intOf];omega
end
