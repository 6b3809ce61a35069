/- The walk of what makes an entry formed: the program's Formed. Conditions: as stated. -/
import Derived.Test.YtgngjfjaelgaeaaGreatDoorJPoS
set_option maxRecDepth 100000
set_option maxHeartbeats 8000000
namespace Go.Proofs.YtgngjfjaelgaeaaGreatDoor
open Go.Proofs.Tryz
section
open Go.RowKit
structure FKeep (xs:List EnS.At) (w:World) (b:Nat) (name:List UInt8) (u:Value) (wr:World):Prop where
 env:Env wr
 whole:Whole wr b 52 #[.string ⟨name.toArray⟩,u]
 attrs:Cj wr u xs
 below:Below w.heap.size w wr
theorem FKeep.call {xs:List EnS.At} {w:World} {b:Nat} {name:List UInt8} {u:Value} {w1 w2:World} (h:FKeep xs w b name u w1) (hb:Below w1.heap.size w1 w2):FKeep xs w b name u w2:=
 ⟨h.env.below hb,h.whole.call hb,h.attrs.call hb,Aa h.below hb⟩
end
section
open Go.RowKit
def Nn (w:World) (g o:Nat) (r:PoS.Rl):Prop:=
 w.cell? ⟨g,o,none⟩=some (Ac r.who)/\w.cell? ⟨g,o+1,none⟩=some (Ac r.target)/\w.cell? ⟨g,o+2,none⟩=some (Ac r.attr)/\w.cell? ⟨g,o+3,none⟩=some (.int .i64 r.rights)/\w.cell? ⟨g,o+4,none⟩=some (.bool r.allow)
theorem Nn.call {w w':World} {g o:Nat} {r:PoS.Rl} (h:Nn w g o r) {B:Nat} (hb:Below B w w') (a:g<B):Nn w' g o r:=
 ⟨(hb.cell (p:=⟨g,o,none⟩) a).trans h.1,(hb.cell (p:=⟨g,o+1,none⟩) a).trans h.2.1,(hb.cell (p:=⟨g,o+2,none⟩) a).trans h.2.2.1,(hb.cell (p:=⟨g,o+3,none⟩) a).trans h.2.2.2.1,(hb.cell (p:=⟨g,o+4,none⟩) a).trans h.2.2.2.2⟩
def DT (w:World) (v:Value) (xs:List PoS.Rl):Prop:=
 ∃a c,v=.slice a xs.length c/\xs.length<=c/\(xs=[]\/∃g o,a=some ⟨g,o,none⟩/\g<w.heap.size/\∀(j:Nat) (r:PoS.Rl),xs[j]?=some r->Nn w g (o+j*5) r)
theorem DT.call {w w':World} {v:Value} {xs:List PoS.Rl} (h:DT w v xs) {B:Nat} (hb:Below B w w') (hB:w.heap.size<=B):DT w' v xs:=by
 obtain ⟨a,c,rfl,hc,h⟩:=h;refine ⟨a,c,rfl,hc,?_⟩;rcases h with h | ⟨g,o,rfl,b,h⟩
 · exact .inl h
 · exact .inr ⟨g,o,rfl,ae b hb.size,fun j r d=>(h j r d).call hb (ae b hB)⟩
theorem DT.empty (w:World):DT w (.slice none 0 0) []:=⟨none,0,rfl,aA _,.inl rfl⟩
theorem DT.form {w:World} {v:Value} {xs:List PoS.Rl} (h:DT w v xs):∃a c,v=.slice a xs.length c:=by obtain ⟨a,c,e,_⟩:=h;exact ⟨a,c,e⟩
theorem DT.at {w:World} {v:Value} {xs:List PoS.Rl} (h:DT w v xs):∃a c,v=.slice a xs.length c/\xs.length<=c/\∀k (h:k<xs.length),∃g o,a=some ⟨g,o,none⟩/\g<w.heap.size/\Nn w g (o+k*5) xs[k]:=by
 obtain ⟨a,c,rfl,hc,h⟩:=h;refine ⟨a,c,rfl,hc,fun k hk=>?_⟩;rcases h with rfl | ⟨g,o,rfl,b,h⟩
 · simp at hk
 · exact ⟨g,o,rfl,b,h k _ (aJ hk)⟩
def AdO (r:PoS.Rl):List Value:=[Ac r.who,Ac r.target,Ac r.attr,.int .i64 r.rights,.bool r.allow]
def JJ (xs:List PoS.Rl):List Value:=xs.flatMap AdO
theorem Wu:∀(xs:List PoS.Rl) (j:Nat) (r:PoS.Rl),xs[j]?=some r->(JJ xs)[j*5]?=some (Ac r.who)/\(JJ xs)[j*5+1]?=some (Ac r.target)/\(JJ xs)[j*5+2]?=some (Ac r.attr)/\(JJ xs)[j*5+3]?=some (.int .i64 r.rights)/\(JJ xs)[j*5+4]?=some (.bool r.allow)
 | [],j,r,h=>by simp at h
 | q :: xs,0,r,h=>by have:=aU h;subst this;exact ⟨rfl,rfl,rfl,rfl,rfl⟩
 | q :: xs,j+1,r,h=>by have:=Wu xs j r (by simpa using h);have e:JJ (q :: xs)=Ac q.who :: Ac q.target :: Ac q.attr :: .int .i64 q.rights :: .bool q.allow :: JJ xs:=rfl;rw [e,show (j+1)*5=j*5+1+1+1+1+1 from by omega];exact this
def GG (T:TypeId) (w:World) (B:Nat) (v:Value) (xs:List PoS.Rl):Prop:=w.ownsRow B T 5 v xs.length (JJ xs)
theorem GG.empty (T:TypeId) (w:World) (B:Nat):GG T w B (.slice none 0 0) []:=World.ownsRow_nil w B _ 5
theorem GG.form {T:TypeId} {w:World} {B:Nat} {v:Value} {xs:List PoS.Rl} (h:GG T w B v xs):∃a c,v=.slice a xs.length c:=by
 rcases h.2 with ⟨rfl,b⟩ | ⟨g,cap,cur,rfl,_⟩
 · exact ⟨_,_,by rw [b]⟩
 · exact ⟨_,_,rfl⟩
theorem GG.call {T:TypeId} {w w':World} {B:Nat} {v:Value} {xs:List PoS.Rl} (h:GG T w B v xs) (hb:Below w.heap.size w w'):GG T w' B v xs:=
 World.ownsRow.kept h (Ba hb) (by cases v.ownBlock <;> simp)
theorem GG.alloc {T:TypeId} {w:World} {B:Nat} {v:Value} {xs:List PoS.Rl} (h:GG T w B v xs) (o:Obj):GG T (w.alloc o) B v xs:=World.ownsRow.alloc h o
theorem GG.mono {T:TypeId} {w:World} {B a:Nat} {v:Value} {xs:List PoS.Rl} (h:GG T w B v xs) (hB:a<=B):GG T w a v xs:=by
 refine ⟨h.1,?_⟩;rcases h.2 with h | ⟨g,cap,cur,e,b,h⟩
 · exact .inl h
 · exact .inr ⟨g,cap,cur,e,aY hB b,h⟩
theorem GG.rules {T:TypeId} {w:World} {B:Nat} {v:Value} {xs:List PoS.Rl} (h:GG T w B v xs):DT w v xs:=by
 rcases h.2 with ⟨rfl,b⟩ | ⟨g,cap,cur,rfl,i,d,b,f,hsz,c⟩
 · exact ⟨none,0,by rw [b],by omega,.inl (aW b)⟩
 · refine ⟨some ⟨g,0,none⟩,cap,rfl,b,.inr ⟨g,0,rfl,(ah.1 d).1,fun j r e=>?_⟩⟩;obtain ⟨h0,h1,h2,h3,h4⟩:=Wu xs j r e;have a:∀k,(⟨g,0,none⟩:Addr).add k=⟨g,0+k,none⟩:=fun k=>by unfold Addr.add;split <;> simp_all
   have c0:=World.ownsRow.cells h (g:=g) rfl _ _ h0;have c1:=World.ownsRow.cells h (g:=g) rfl _ _ h1;have c2:=World.ownsRow.cells h (g:=g) rfl _ _ h2;have c3:=World.ownsRow.cells h (g:=g) rfl _ _ h3;have c4:=World.ownsRow.cells h (g:=g) rfl _ _ h4;rw [a] at c0 c1 c2 c3 c4;exact ⟨c0,by rw [cN];exact c1,by rw [cN];exact c2,by rw [cN];exact c3,by rw [cN];exact c4⟩
end
section
open Go.RowKit
def NH (r:List (List UInt8)):Prop:=r.length<=12/\(DnS.Aq r).length<=1000/\∀t ∈ r,DnS.Uf t
theorem NH.texts {r:List (List UInt8)} (h:NH r):DnS.Ae (DnS.Aq r)=(r,0):=DnS.Wh h.2.2 h.1 h.2.1
theorem NH.ne {t:List UInt8} {r:List (List UInt8)} (h:NH (t :: r)):DnS.Aq (t :: r)≠[]:=fun e=>by
 have h1:=h.texts;rw [e] at h1;have h2:DnS.Ae []=([],0):=by decide+kernel
 rw [h2] at h1;have:=congrArg Prod.fst h1;cases this
end
section
open Go.RowKit
theorem Lq {α:Type} {p:α->Bool} {l:List α} {k:Nat} (hk:k<l.length) (h:p l[k]=true):(l.take (k+1)).filter p=(l.take k).filter p++[l[k]]:=by rw [aX hk,cM,eQ,aP h,List.filter_nil]
theorem NI {α:Type} {p:α->Bool} {l:List α} {k:Nat} (hk:k<l.length) (h:p l[k]=false):(l.take (k+1)).filter p=(l.take k).filter p:=by rw [aX hk,cM,eQ,aG (by rw [h];simp),List.filter_nil,bJ]
theorem GW.filter {xs:List EnS.At} (h:GW xs) (p:EnS.At->Bool):GW (xs.filter p):=⟨aY (bL _ _) h.1,fun x hx=>h.2 x (bW.1 hx).1⟩
theorem BH.partsT {w:World} {C g o:Nat} {x:EnS.At} {Ts:List TypeId} (h:BH (okT Ts C w) w g o x):w.cell? ⟨g,o,none⟩=some (.string ⟨x.typ.toArray⟩)/\∃a c,w.cell? ⟨g,o+1,none⟩=some (.slice a x.vals.length c)/\x.vals.length<=c/\Aj (okT Ts C w) w (.slice a x.vals.length c) x.vals:=by obtain ⟨h1,u,h2,h3⟩:=h;obtain ⟨a,c,rfl,hc⟩:=Ad.form h3;exact ⟨h1,a,c,h2,hc,h3⟩
end
section
open Go.RowKit
theorem Fe.in {w:World} {C:Nat} {u:Value} {xs:List EnS.At} {Ts:List TypeId} (h:Fe Ts C w u xs):Cj w u xs:=
 Ad.imp h (aA _) (fun _ _ h=>h) fun _ _ _ _ _ hx=>by obtain ⟨h1,u,h2,h3⟩:=hx;exact ⟨h1,u,h2,h3.any⟩
end
section
open Go.RowKit
theorem GU:(prog.info? 52).map (fun i=>(i.zero,i.size,i.bytes))=some (some (.agg #[.string ⟨#[]⟩,.slice none 0 0]),2,40):=by kernel_rfl
def Aag (xs:List EnS.En):Prop:=∀x ∈ xs,∀a ∈ x.attrs,a.typ.length<=1048576
end
section
open Go.Maps
def AdP (v:Value):Option (DataW Value × List MemPlace):=some (.held v,[])
def Acy (D:DataW Value) (f:List UInt8->Option Value):Prop:=∀s,(Maps.has D (.string s)=(f s).isSome)/\∀v,f s=some v->∀z,D.atKey (.string s) z=.held v
def Dn (P:Program) (k:TypeId) (w:World) (b n:Nat) (f:List UInt8->Option Value):Prop:=∃D,w.ownsMap P k AdP b n D/\Acy D f
def OW (f:List UInt8->Option Value) (s:List UInt8) (v:Value):List UInt8->Option Value:=fun x=>if x=s then some v else f x
theorem Wv (s:List UInt8):WideAt.IsKeyLit (.string s):=trivial
variable {P:Program} {k e t:TypeId} {w:World} {b n:Nat} {f:List UInt8->Option Value}
theorem Dn.made (P:Program) (k:TypeId) (w:World):Dn P k (w.alloc (.map #[] 0)) w.heap.size 0 (fun _=>none):=⟨_,World.ownsMap_made w P k AdP,fun s=>⟨rfl,fun v h=>by cases h⟩⟩
theorem Dn.kept {w':World} {row:Option Nat} (h:Dn P k w b n f) (c:w.grownBy w' row) (a:some b≠row):Dn P k w' b n f:=by obtain ⟨D,h1,h2⟩:=h;exact ⟨D,h1.kept c a,h2⟩
theorem Dn.lt (h:Dn P k w b n f):b<w.heap.size:=by obtain ⟨D,h1,_⟩:=h;exact h1.lt
theorem Dn.look (h:Dn P k w b n f) (hk:P.underlying k=some .string) (m:P.underlying t=some (.map k e)) {z:Value} (i:(zeroValue e).run P w=.ok z w) (s:List UInt8) (r:s.length<=maxLen):
  (Instr.lookup t (.map (some b)) (.string ⟨s.toArray⟩) true).run P w=.ok (.tuple #[(f s).getD z,.bool (f s).isSome]) w/\(Instr.lookup t (.map (some b)) (.string ⟨s.toArray⟩) false).run P w=.ok ((f s).getD z) w:=by
 obtain ⟨D,h1,h2⟩:=h;have a:keyOf P k (.string ⟨s.toArray⟩)=some (.string s):=Go.WideMaps.keyOf_string_mk hk (by show (⟨s.toArray⟩:ByteArray).size<=_;show s.toArray.size<=_;rw [bV];exact r);obtain ⟨v,ps,j,l⟩:=h1.look_ok (Maps.string_keyed hk) m i (zd:=.held z) (zp:=[]) rfl a;obtain ⟨v2,q,c,d⟩:=h1.lookup (Maps.string_keyed hk) m i (zd:=.held z) (zp:=[]) rfl a;obtain ⟨g1,g2⟩:=h2 s;have g:D.atKey (.string s) (.held z)=.held ((f s).getD z):=by
  cases o:f s with
  | some y=>exact g2 y o _
  | none=>rw [o] at g1;exact Maps.atKey_of_not_has g1 _
 rw [g] at l d;have p:v=(f s).getD z:=by have:=aU l;simp only [bR,DataW.held.injEq] at this;exact this.1
 have u:v2=(f s).getD z:=by have:=aU d;simp only [bR,DataW.held.injEq] at this;exact this.1
 rw [<-g1];rw [p] at j;rw [u] at c;exact ⟨j,c⟩
theorem Dn.store (h:Dn P k w b n f) (hk:P.underlying k=some .string) (u:P.underlying t=some (.map k e)) (p:n<maxLen) (s:List UInt8) (r:s.length<=maxLen) (v:Value):
  ∃w',(Instr.mapUpdate t (.map (some b)) (.string ⟨s.toArray⟩) v).run P w=.ok () w'/\Dn P k w' b (n+1) (OW f s v)/\w.grownBy w' (some b)/\w'.heap.size=w.heap.size:=by
 obtain ⟨D,h1,h2⟩:=h;have i:keyOf P k (.string ⟨s.toArray⟩)=some (.string s):=Go.WideMaps.keyOf_string_mk hk (by show (⟨s.toArray⟩:ByteArray).size<=_;show s.toArray.size<=_;rw [bV];exact r);obtain ⟨w',m,o,g⟩:=h1.store (Maps.string_keyed hk) u p i (d:=.held v) (ps:=[]) rfl;have l:=h1.isMap;refine ⟨w',m,⟨_,o,fun x=>?_⟩,g.grown,?_⟩
 · unfold OW;by_cases hx:x=s
   · subst hx;rw [aP rfl];refine ⟨Maps.has_put_same l (Wv x) _,fun y j z=>?_⟩;cases j;exact Maps.atKey_put_same l (Wv x) _ _
   · rw [aG hx];have a:(Lit.string x)≠.string s:=fun e=>hx (by injection e);rw [Maps.has_put_other a];exact ⟨(h2 x).1,fun y j z=>by rw [Maps.atKey_put_other a];exact (h2 x).2 y j z⟩
 · obtain ⟨es,c,q,A,_,rfl⟩:=g;simp [Go.ChangeMaps.setBlock]
def DU (P:Program) (k:TypeId) (w:World) (b r n:Nat) (f:List UInt8->Option Value) (todo:List UInt8->Bool) (cnt:Nat):Prop:=
 ∃D left,w.ranges P k AdP b r n D left cnt/\Acy D f/\∀s,left (.string s)=todo s
variable {r cnt:Nat} {todo:List UInt8->Bool}
theorem DU.kept {w':World} {row:Option Nat} (h:DU P k w b r n f todo cnt) (d:w.grownBy w' row) (c:some b≠row) (a:some r≠row):DU P k w' b r n f todo cnt:=by obtain ⟨D,left,h1,h2,h3⟩:=h;exact ⟨D,left,h1.kept d c a,h2,h3⟩
theorem DU.left_eq (h:DU P k w b r n f todo cnt):w.rangeLeft b r=cnt:=by obtain ⟨D,left,h1,_⟩:=h;exact h1.left_eq
theorem DU.lt (h:DU P k w b r n f todo cnt):r<w.heap.size/\b<w.heap.size/\r≠b:=by obtain ⟨D,left,h1,_⟩:=h;exact ⟨h1.lt,h1.owns.lt,h1.ne⟩
theorem Dn.range (h:Dn P k w b n f) (hk:P.underlying k=some .string) (g:P.underlying t=some (.map k e)):
  ∃w',(Instr.range t (.map (some b))).run P w=.ok (.pointer (some ⟨w.heap.size,0,none⟩)) w'/\(∃cnt,DU P k w' b w.heap.size n f (fun s=>(f s).isSome) cnt)/\w.grownBy w' none/\w'.heap.size=w.heap.size+1:=by
 obtain ⟨D,h1,h2⟩:=h;obtain ⟨w',a,c,hb,d⟩:=h1.range (Maps.string_keyed hk) g;exact ⟨w',a,⟨_,D,_,c,h2,fun s=>(h2 s).1⟩,hb,d⟩
theorem DU.next (h:DU P k w b r n f todo cnt) (hk:P.underlying k=some .string) (ty:TypeId):
  ((∀s,todo s=false)/\(Instr.next (.pointer (some ⟨r,0,none⟩)) false ty).run P w=.ok (.tuple #[.bool false]) w)\/
  ∃(s:List UInt8) (v:Value) (w':World) (a:Nat),s.length<=maxLen/\todo s=true/\f s=some v/\(Instr.next (.pointer (some ⟨r,0,none⟩)) false ty).run P w=.ok (.tuple #[.bool true,.string ⟨s.toArray⟩,v]) w'/\
   DU P k w' b r n f (fun x=>todo x&&decide (x≠s)) a/\a<cnt/\w.grownBy w' (some r)/\w'.heap.size=w.heap.size/\(Instr.entry (.pointer (some ⟨r,0,none⟩))).run P w'=.ok (.tuple #[.string ⟨s.toArray⟩,v]) w':=by
 obtain ⟨D,left,h1,h2,h3⟩:=h;rcases h1.next (Maps.string_keyed hk) ty with ⟨_,B,c⟩ | ⟨key,v,E,y,w',a,d,m,C,g,c,j,u,q,hsz,p⟩
 · exact .inl ⟨fun s=>by rw [<-h3];exact B _,c⟩
 · obtain ⟨x,rfl,rfl,hx⟩:∃x:ByteArray,key=.string x/\E=.string x.data.toList/\x.size<=maxLen:=by
    cases key <;> simp [keyOf,hk,mapKey] at d
    obtain ⟨hx,rfl⟩:=d;exact ⟨_,rfl,rfl,hx⟩
   obtain ⟨l,rfl⟩:∃l:List UInt8,x=⟨l.toArray⟩:=⟨x.data.toList,by cases x;simp⟩
   simp only at m g j;cases C;have i:(f l).isSome=true:=by
    cases o:f l with
    | some _=>rfl
    | none=>have:=(h2 l).1;rw [o] at this;have h4:=Maps.atKey_of_not_has this (.held (.bool true));have h5:=Maps.atKey_of_not_has this (.held (.bool false));rw [g] at h4 h5;rw [h4] at h5;simp at h5
   obtain ⟨A,o⟩:=fc.1 i;have z:v=A:=by
    have:=(h2 l).2 A o (.held (.bool true));rw [g] at this
    simpa using this
   subst z;refine .inr ⟨l,v,w',a,by (have hx':l.toArray.size<=maxLen:=hx);rwa [bV] at hx',by rw [<-h3];exact m,o,c,⟨D,_,j,h2,fun s=>?_⟩,u,q,hsz,p⟩;rw [h3];by_cases t:s=l
   · subst t;rw [WideAt.sameKey_self (Wv s)];simp
   · rw [Maps.sameKey_ne (fun e=>t (by injection e))];simp [t]
end
section
open Go.RowKit
structure But (S:Nat->Prop) (w w':World):Prop where
 os:w'.os=w.os
 tape:w'.tape=w.tape
 output:w'.output=w.output
 size:w.heap.size<=w'.heap.size
 block:∀k,k<w.heap.size->¬S k->w'.heap[k]?=w.heap[k]?
theorem But.refl (S:Nat->Prop) (w:World):But S w w:=⟨rfl,rfl,rfl,aA _,fun _ _ _=>rfl⟩
theorem But.trans {S e:Nat->Prop} {a b c:World} (h:But S a b) (k:But e b c) (hS:∀i,i<a.heap.size->e i->S i):But S a c:=
 ⟨k.os.trans h.os,k.tape.trans h.tape,k.output.trans h.output,aY h.size k.size,fun i d f=>(k.block i (ae d h.size) (fun g=>f (hS i d g))).trans (h.block i d f)⟩
theorem But.call {S:Nat->Prop} {a b c:World} (h:But S a b) (k:Below b.heap.size b c):But S a c:=
 ⟨k.os.trans h.os,k.tape.trans h.tape,k.output.trans h.output,aY h.size k.size,fun i d e=>(k.block i (ae d h.size)).trans (h.block i d e)⟩
theorem But.grown {S:Nat->Prop} {a b c:World} {row:Option Nat} (h:But S a b) (k:b.grownBy c row) (g:∀i,i<a.heap.size->row=some i->S i):But S a c:=
 ⟨k.os.trans h.os,k.tape.trans h.tape,k.output.trans h.output,aY h.size k.size,fun i d f=>(k.block i (ae d h.size) (fun e=>f (g i d e.symm))).trans (h.block i d f)⟩
theorem But.below {S:Nat->Prop} {w w':World} (h:But S w w') {B:Nat} (hB:B<=w.heap.size) (hS:∀i,S i->B<=i):Below B w w':=
 ⟨h.os,h.tape,h.output,h.size,fun k hk=>h.block k (ae hk hB) (fun a=>by have:=hS k a;omega)⟩
theorem But.whole {S:Nat->Prop} {w w':World} (h:But S w w') {g:Nat} {T:TypeId} {cs:Array Value} (a:Whole w g T cs) (b:¬S g):Whole w' g T cs:=(h.block g a.lt b).trans a
theorem Dx {w:World} {b:Nat} {P:Program} {k:TypeId} {n:Nat} {f:List UInt8->Option Value} (a:Dn P k w b n f) {g:Nat} {cs:Array Value} {T:TypeId} {fz:Nat × Nat} (h:w.heap[g]?=some (.cells cs T fz)):g≠b:=by rintro rfl;obtain ⟨D,⟨es,c,hb,_⟩,_⟩:=a;rw [h] at hb;cases hb
theorem Whole.mapped {w w':World} {g b:Nat} {T:TypeId} {cs:Array Value} (h:Whole w g T cs) (c:w.grownBy w' (some b)) (a:g≠b):Whole w' g T cs:=(c.block g h.lt (fun e=>a (aU e))).trans h
theorem Ao.mapped {α:Type} {L:KLay α} {T:TypeId} {Ts:List TypeId} {C:Nat} {w w':World} {B:Nat} {v:Value} {xs:List α} (h:Ao L T Ts C w B v xs) {P:Program} {k:TypeId} {b n:Nat} {f:List UInt8->Option Value} (j:Dn P k w b n f) (hC:C<=b) (d:w.grownBy w' (some b)):Ao L T Ts C w' B v xs:=by
 obtain ⟨o,h1,h2,h3⟩:=h;have l:v.ownBlock=none\/v.ownBlock≠some b:=by
  rcases h1.2 with ⟨rfl,_⟩ | ⟨g,cap,cur,rfl,_,m,_⟩
  · exact .inl rfl
  · refine .inr (fun e=>?_);exact Dx j m (aU e)
 refine ⟨o,h1.kept d l,h2,fun i u x hu hx=>?_⟩;refine L.keep (h3 i u x hu hx) d.size (fun g c a=>d.block g c (fun e=>?_)) (fun g c a=>a.same (d.block g c (fun e=>?_)))
 all_goals
  have e:=aU e;subst e;rcases a with a | ⟨cs,p,fz,hc,_⟩
  · omega
  · exact Dx j hc rfl
end
section
open Go.RowKit
abbrev okA (C:Nat) (w:World):Nat->Prop:=okT [9,56] C w
def nA (C:Nat) (w:World) (g:Nat):Prop:=g<C\/∀cs fz,w.heap[g]?≠some (.cells cs 56 fz)
def AQ (C:Nat) (ok:Nat->Prop) (w:World) (u:Value) (xs:List EnS.At):Prop:=Ad 2 (BH (fun g=>ok g/\nA C w g)) ok w u xs
theorem AQ.keep {C:Nat} {ok ok':Nat->Prop} {w w':World} {u:Value} {xs:List EnS.At} (h:AQ C ok w u xs) (d:w.heap.size<=w'.heap.size) (hb:∀g,g<w.heap.size->ok g->w'.heap[g]?=w.heap[g]?) (hk:∀g,g<w.heap.size->ok g->ok' g):AQ C ok' w' u xs:=
 Ad.imp h d hk fun g o _ c b ⟨h1,u,h2,h3⟩=>⟨(World.cell?_of_block (a:=⟨g,o,none⟩) (hb g c b)).trans h1,u,(World.cell?_of_block (a:=⟨g,o+1,none⟩) (hb g c b)).trans h2,Aj.keep h3 d (fun g c b=>hb g c b.1) (fun g c b=>⟨hk g c b.1,b.2.imp id (fun e cs fz=>by rw [hb g c b.1];exact e cs fz)⟩)⟩
theorem AQ.p {C:Nat} {ok:Nat->Prop} {w:World} {u:Value} {xs:List EnS.At} (h:AQ C ok w u xs):Ax ok w u xs:=
 Ad.imp h (aA _) (fun _ _ h=>h) fun _ _ _ _ _ ⟨h1,u,h2,h3⟩=>⟨h1,u,h2,Aj.keep h3 (aA _) (fun _ _ _=>rfl) (fun _ _ h=>h.1)⟩
theorem AQ.e {C:Nat} {w:World} {u:Value} {xs:List EnS.At} (h:AQ C (okA C w) w u xs):Fe [9] C w u xs:=
 Ad.imp h (aA _) (fun _ _ _=>trivial) fun _ _ _ _ _ ⟨h1,u,h2,h3⟩=>⟨h1,u,h2,Aj.keep h3 (aA _) (fun _ _ _=>rfl) (fun g _ b=>by
  rcases b.1 with h | ⟨cs,T,fz,hc,a⟩
  · exact .inl h
  · rcases b.2 with h | c
    · exact .inl h
    · rcases ay.1 a with rfl | a
      · exact .inr ⟨cs,_,fz,hc,ak.2 rfl⟩
      · rw [ak] at a;subst a;exact absurd hc (c cs fz))⟩
theorem AQ.callT {C:Nat} {w w':World} {u:Value} {xs:List EnS.At} (h:AQ C (okA C w) w u xs) (hb:Below w.heap.size w w'):AQ C (okA C w') w' u xs:=h.keep hb.size (fun g b _=>hb.block g b) (fun g b a=>a.same (hb.block g b))
def enQ (C:Nat):KLay EnS.En:=⟨EnS.En.name,fun ok w u x=>AQ C ok w u x.attrs,fun h=>AQ.keep h,fun h=>by obtain ⟨a,c,rfl,_⟩:=Ad.form h;rfl⟩
theorem Ao.attrsQ {C:Nat} {w:World} {B:Nat} {v:Value} {xs:List EnS.At} (h:Ao atK 56 [9] C w B v xs):AQ C (okA C w) w v xs:=by
 obtain ⟨a,c,e,hc,b⟩:=h.attrsB (Ts':=[9,56]) (by simp) (by simp);refine ⟨a,c,e,hc,?_⟩;rcases b with h0 | ⟨g,o,m,l,i,_⟩
 · exact .inl h0
 · refine .inr ⟨g,o,m,l,i,fun j x p=>?_⟩;have k:j<xs.length:=(aj.1 p).1;obtain ⟨g2,cap,u,q,_,_,_,_,c0,c1,d⟩:=h.slice k;rw [e] at q;injection q with e3 _ _;rw [m] at e3;have r:=aU e3;injection r with e5 e6 _;subst e5;subst e6;have hx:xs[j]=x:=(aj.1 p).2;rw [hx] at c0 d;rw [bi];refine ⟨c0,u,c1,Aj.keep d (aA _) (fun _ _ _=>rfl) (fun g _ l=>?_)⟩;rcases l with h | ⟨cs,T,fz,hc,n⟩
   · exact ⟨.inl h,.inl h⟩
   · rw [ak] at n;subst n;exact ⟨.inr ⟨cs,_,fz,hc,by simp⟩,.inr (fun t s f=>by rw [hc] at f;cases f)⟩
def Bz (C:Nat) (w:World) (m:Option Nat) (N:Nat) (R:List EnS.En):Prop:=
 (m=none/\R=[])\/∃b f,m=some b/\C<=b/\Dn prog 9 w b N f/\(∀s,(f s).isSome=true↔∃e ∈ R,e.name=s)/\∀e ∈ R,∃u,f e.name=some (.agg #[.string ⟨e.name.toArray⟩,u])/\AQ C (okA C w) w u e.attrs
theorem JK {C:Nat} {w w':World} {u:Value} {xs:List EnS.At} {S:Nat->Prop} (h:AQ C (okA C w) w u xs) (c:w.heap.size<=w'.heap.size) (hb:∀k,k<w.heap.size->¬S k->w'.heap[k]?=w.heap[k]?) (hS:∀k,k<w.heap.size->okA C w k->¬S k):AQ C (okA C w') w' u xs:=
 AQ.keep h c (fun g b a=>hb g b (hS g b a)) (fun g b a=>a.same (hb g b (hS g b a)))
theorem Bz.call {C:Nat} {w w':World} {m:Option Nat} {N:Nat} {R:List EnS.En} (h:Bz C w m N R) (hb:Below w.heap.size w w'):Bz C w' m N R:=by
 rcases h with h | ⟨b,f,rfl,hC,d,h1,h2⟩
 · exact .inl h
 · refine .inr ⟨b,f,rfl,hC,d.kept (Ba hb) (by simp),h1,fun e a=>?_⟩;obtain ⟨u,hu,c⟩:=h2 e a;exact ⟨u,hu,AQ.callT c hb⟩
theorem Bz.pushed {C:Nat} {w w':World} {m:Option Nat} {N:Nat} {R:List EnS.En} (h:Bz C w m N R) {α:Type} {L:KLay α} {T:TypeId} {Ts:List TypeId} {B:Nat} {v:Value} {xs:List α} (t:Ao L T Ts C w B v xs) (y:C<=B) (x:T ∉ [9,56]) (n:w.grownBy w' v.ownBlock):Bz C w' m N R:=by
 obtain ⟨E,i,_,_⟩:=t;have a:∀k,v.ownBlock=some k->∃cs fz,B<=k/\w.heap[k]?=some (.cells cs T fz):=fun k hk=>by
  rcases i.2 with ⟨rfl,_⟩ | ⟨g,cap,cur,rfl,j,q,_⟩
  · cases hk
  · cases hk;exact ⟨cur,_,j,q⟩
 rcases h with h | ⟨b,f,rfl,hC,o,h1,h2⟩
 · exact .inl h
 · refine .inr ⟨b,f,rfl,hC,o.kept n (fun e=>?_),h1,fun e p=>?_⟩
   · obtain ⟨cs,fz,_,hc⟩:=a b e.symm;exact Dx o hc rfl
   · obtain ⟨u,hu,s⟩:=h2 e p;refine ⟨u,hu,JK (S:=fun k=>v.ownBlock=some k) s n.size (fun k hk z=>n.block k hk (fun e=>z e.symm)) (fun k hk d hS=>?_)⟩;obtain ⟨cs,fz,hB,hc⟩:=a k hS;rcases d with d | ⟨r,F,A,c,l⟩
     · omega
     · rw [hc] at c;cases c;exact x l
theorem Bz.store {C:Nat} {w w':World} {b N:Nat} {R:List EnS.En} {f:List UInt8->Option Value} (hC:C<=b) (o:Dn prog 9 w b N f) (h1:∀s,(f s).isSome=true↔∃e ∈ R,e.name=s) (h2:∀e ∈ R,∃u,f e.name=some (.agg #[.string ⟨e.name.toArray⟩,u])/\AQ C (okA C w) w u e.attrs)
  {x:EnS.En} {u:Value} (hu:AQ C (okA C w) w u x.attrs) (g:f x.name=none) (i:Dn prog 9 w' b (N+1) (OW f x.name (.agg #[.string ⟨x.name.toArray⟩,u]))) (l:w.grownBy w' (some b)):Bz C w' (some b) (N+1) (R++[x]):=by
 have hk:∀{z:Value} {ys:List EnS.At},AQ C (okA C w) w z ys->AQ C (okA C w') w' z ys:=fun h=>JK (S:=fun k=>k=b) h l.size (fun k hk g=>l.block k hk (fun e=>g (aU e))) (fun k hk c hS=>by
  subst hS;rcases c with c | ⟨q,r,p,j,_⟩
  · omega
  · exact Dx o j rfl)
 have hx:∀e ∈ R,e.name≠x.name:=fun e a h=>by have:=(h1 x.name).2 ⟨e,a,h⟩;rw [g] at this;cases this
 refine .inr ⟨b,_,rfl,hC,i,fun s=>?_,fun e a=>?_⟩
 · unfold OW;by_cases d:s=x.name
   · rw [aP d];exact ⟨fun _=>⟨x,dM _ (ak.2 rfl),d.symm⟩,fun _=>rfl⟩
   · rw [aG d,h1];constructor
     · rintro ⟨e,a,h⟩;exact ⟨e,bq _ a,h⟩
     · rintro ⟨e,a,h⟩;rcases b9.1 a with a | a
       · exact ⟨e,a,h⟩
       · rw [ak] at a;subst a;exact absurd h.symm d
 · unfold OW;rcases b9.1 a with a | a
   · obtain ⟨z,m,n⟩:=h2 e a;exact ⟨z,by rw [aG (hx e a)];exact m,hk n⟩
   · rw [ak] at a;subst a;exact ⟨u,aP rfl,hk hu⟩
theorem Bz.same {C:Nat} {w:World} {m:Option Nat} {N:Nat} {R:List EnS.En} (h:Bz C w m N R) {x:EnS.En} (hx:x ∈ R):Bz C w m N (R++[x]):=by
 rcases h with ⟨_,rfl⟩ | ⟨b,f,rfl,hC,c,h1,h2⟩
 · cases hx
 · refine .inr ⟨b,f,rfl,hC,c,fun s=>?_,fun e a=>?_⟩
   · rw [h1];constructor
     · rintro ⟨e,a,h⟩;exact ⟨e,bq _ a,h⟩
     · rintro ⟨e,a,h⟩;rcases b9.1 a with a | a
       · exact ⟨e,a,h⟩
       · rw [ak] at a;subst a;exact ⟨e,hx,h⟩
   · rcases b9.1 a with a | a
     · exact h2 e a
     · rw [ak] at a;subst a;exact h2 e hx
end
section
open Go.RowKit
attribute [local go_sem ↓] Go.wp_at_zero Go.wp_at_succ
theorem Afq {n:List UInt8} (h:SeS.Gz n) (a:n≠[]):(DnS.EY n).2=true:=by
 unfold DnS.EY;split
 · rename_i h0;exact absurd (h.join.symm.trans (by rw [h0];rfl)) a
 · rfl
def FN (a:List UInt8) (sc:Int) (m:List UInt8):Bool:=decide (0<=sc/\sc<=2)&&SeS.inScope a sc m
theorem AdQ {l:List EnS.En} {s a:List UInt8} {sc:Int} (h:DnS.Aw s=(a,0)):SeS.Bf l s sc=l.filter (fun e=>FN a sc e.name):=by
 unfold SeS.Bf FN;rw [h];by_cases hc:0<=sc/\sc<=2
 · rw [aP ⟨rfl,hc⟩];simp [hc]
 · rw [aG (fun k=>hc k.2)];simp [hc]
theorem Acz {l:List EnS.En} {s c:List UInt8} {sc a:Int} (h:DnS.Aw s=(c,a)) (b:a≠0):SeS.Bf l s sc=[]:=by unfold SeS.Bf;rw [h,aG (fun k=>b k.1)]
theorem Ac0 (w0:World) (u:Value) (l:List EnS.En) (s:List UInt8) (sc:Int) (w:World) (h:Cm w0 u l) (hb0:Below w0.heap.size w0 w) (hf:Eb l) (hs:s.length<=1000000) (ho:SeS.Bt l) (H:∀e ∈ l,e.name≠[]) (hE:Env w):
  Calls prog 16 #[u,.string ⟨s.toArray⟩,.int .i64 sc] w (fun e w'=>∃v,e=.returned v/\Ao (enQ w0.heap.size) 52 [9,56] w0.heap.size w' w.heap.size v (SeS.Bf l s sc)/\Below w.heap.size w w'):=by
 have M:=IJ s hs w hE;unfold Cb at M;have V:=hZ9 (fun j (h:DnS.Aw s=(j,0))=>AdQ (l:=l) (sc:=sc) h);have N:=hZ9 (fun j e0 (h:DnS.Aw s=(j,e0)) he=>Acz (l:=l) (sc:=sc) h he);obtain ⟨RS,D0⟩:∃r,SeS.Bf l s sc=r:=⟨_,rfl⟩
 rw [D0] at V N⊢;clear D0;obtain ⟨NN,C9⟩:∃p,DnS.Aw s=p:=⟨_,rfl⟩
 have C2:=DnS.Hw s;rw [C9] at M V N C2;clear C9;obtain ⟨j,e0⟩:=NN;simp only at M C2;obtain ⟨a,c,rfl,hc,C8⟩:=Ad.at h;have A6:=hZ9 C8;have D6:l.length<=1048576:=hf.1;have Z:=hZ9 (fun k (hk:k<l.length)=>ho _ (aZ hk));have Y:=hZ9 (fun k (hk:k<l.length)=>H _ (aZ hk));have A5:=hZ9 (fun k (hk:k<l.length)=>hf.2 _ (aZ hk));have B7:=hZ9 (fun W (hb:Below w.heap.size w W)=>hE.below hb);have F:=hZ9 (fun k (hk:k<l.length) h=>Lq (p:=fun e=>FN j sc e.name) hk h);have A4:=hZ9 (fun k (hk:k<l.length) h=>NI (p:=fun e=>FN j sc e.name) hk h);have E:=hZ9 (fun k=>show ((l.take k).filter (fun e=>FN j sc e.name)).length<=1048576 from aY (bL _ _) (aY (by rw [au];omega) hf.1));have S:Hid (l.take l.length=l):=hZ9 (bE);obtain ⟨i0,hi,E4,E6,E3⟩:=info_parts GU;have HI:=hZ9 hi;clear C8 h hf ho H hi hE;obtain ⟨L,hL⟩:∃m,l.length=m:=⟨_,rfl⟩
 have HL:=hZ9 hL;rw [hL] at hc D6 S⊢;clear hL;by_cases he:e0=0
 case neg=>
  have E9:(e0 !=0)=true:=by simpa using he
  have HR:=hZ9 (N.out j e0 rfl he);clear N V A6 Z Y A5 B7 F A4 E HI S;go_enter func16,ntmps16;go_wp2_with fail;refine M.mono ?_;rintro e w1 ⟨rfl,A7⟩;go_wp2_with fail;go_ret;exact ⟨_,rfl,by rw [HR.out];exact Ao.empty _ _ _ _ _ _,A7⟩
 subst he;have HR:=hZ9 (V.out j rfl);clear N V;go_enter func16,ntmps16;go_wp2_with fail;refine M.mono ?_;rintro e w1 ⟨rfl,A7⟩;clear M;go_wp2_with fail;go_loopw [9,24] (fun out i wr=>∃k:Nat,k<=L/\i=.int .i64 k/\Ao (enQ w0.heap.size) 52 [9,56] w0.heap.size wr w.heap.size out ((l.take k).filter (fun e=>FN j sc e.name))/\Below w.heap.size w wr) (fun _ i _=>L - (intOf i).toNat)
 case atStart=>exact ⟨0,aR _,rfl,Ao.empty _ _ _ _ _ _,A7⟩
 case round=>
  obtain ⟨k,hk,rfl,G,hb⟩:=hrel;obtain ⟨oa,oc,rfl⟩:=G.form;by_cases D8:k<L
  case neg=>
   have E5:k=L:=by omega
   subst E5;have D9:=hZ9 (show (l.take k).filter (fun e=>FN j sc e.name)=RS by rw [S.out,HR.out]);generalize (l.take k).filter (fun e=>FN j sc e.name)=Q at*;clear A6 Z Y A5 B7 F A4 E HI S;go_wp2_with fail;go_ret;exact ⟨_,rfl,by rw [<-D9.out];exact G,hb⟩
  have d:k<l.length:=by rw [HL.out];exact D8
  obtain ⟨g,o,rfl,hg,_,hra⟩:=A6.out k d;have A:=hb0.trans (hb.mono hb0.size);have A1:=Df.call hra hg trivial A;obtain ⟨_,ax,cx,D1,_,B2⟩:=Df.parts hra;obtain ⟨c0,a2,p2,c1,E2,_⟩:=Df.parts A1;have O:(Value.slice ax (l[k]'d).attrs.length cx)=.slice a2 (l[k]'d).attrs.length p2:=by have:=(A.cell (p:=⟨g,o+k*2+1,none⟩) hg).trans D1;rw [c1] at this;exact (aU this).symm
  rw [O] at B2;have B1:=Ax.exp (Ax.callT (B2.base [9]) A);have D3:=A5.out k d;have C4:=Z.out k d;have H:=Y.out k d;have n:=F.out k d;have K:=A4.out k d;have E7:=E.out k;have I:=fun C W hC h=>Ur C (l[k]'d).name (l[k]'d).attrs (.slice a2 (l[k]'d).attrs.length p2) W hC h D3.2;have B4:=Afq C4 H;clear hra A1 D1 B2 O A6 Z Y A5 F A4 E S;generalize l[k]=x at*;obtain ⟨name,C1⟩:=x;simp only at c0 c1 E2 B1 D3 C4 H n K I B4;unfold JW at I;have F1:(0:Int)<=(k:Int):=by omega
  have F0:(k:Int)<(L:Int):=by omega
  have q:=fun W hE=>YK name (by omega) W hE;have B:=fun W hE=>Rt name j (by omega) (by omega) W hE;unfold Px at q;unfold Ef at B;have f:Hid (FN j sc name=(decide (0<=sc/\sc<=2)&&(if sc=0 then name==j else if sc=1 then (name !=[]&&(DnS.EY name).1==j) else DnS.EW name j))):=hZ9 rfl;obtain ⟨PX,C3⟩:∃b,FN j sc name=b:=⟨_,rfl⟩
  rw [C3] at f n K;clear C3;generalize DnS.EY name=P at*;obtain ⟨P1,P2⟩:=P;generalize DnS.EW name j=U at*;simp only at q B4 f;subst B4;generalize C0:C1.length=AL at*;have E1:=hZ9 C0;clear C0;have X:=Af wr (.cells #[.string ⟨name.toArray⟩,.slice a2 AL p2] 52);have A9:=Whole.made wr 52 #[.string ⟨name.toArray⟩,.slice a2 AL p2];have B6:=hb.trans (X.mono hb.size);have z:=G.call X;have T:=B1.callT X;have e0:=A9.cell 0;have e1:=A9.cell 1;simp only [aI,aH,aK] at e0 e1;clear G B1 X;generalize ((l.take k).filter (fun e=>FN j sc e.name))=Q at*;go_upto_block 2 with fail;go_cut [12] (fun b wd=>b=.bool PX/\Below (wr.alloc (.cells #[.string ⟨name.toArray⟩,.slice a2 AL p2] 52)).heap.size (wr.alloc (.cells #[.string ⟨name.toArray⟩,.slice a2 AL p2] 52)) wd)
  case first=>
   clear n K z T I HI HR;have C6:=B7.out _ B6;by_cases h0:sc=0
   · have HP:Hid ((name==j)=PX):=hZ9 (by rw [f.out];simp [h0]);subst h0;clear f;go_wp2_with fail;go_meet;exact ⟨by (rw [<-HP.out]) <;> rfl,Below.refl _ _⟩
   have d0:(sc==0)=false:=by simpa using h0
   by_cases h1:sc=1
   · have HP:Hid ((P1==j)=PX):=hZ9 (by rw [f.out,aG h0,aP h1];simp [h1,H]);subst h1;clear f;have E0:=q _ C6;clear q;go_wp2_with fail;refine E0.mono ?_;rintro e w2 ⟨rfl,B0⟩;go_wp2_with fail;go_meet;exact ⟨by (rw [<-HP.out]) <;> rfl,B0⟩
   have d1:(sc==1)=false:=by simpa using h1
   by_cases h2:sc=2
   · have HP:Hid (U=PX):=hZ9 (by rw [f.out,aG h0,aG h1];simp [h2]);subst h2;clear f;have D7:=B _ C6;clear B;go_wp2_with fail;refine D7.mono ?_;rintro e w2 ⟨rfl,B0⟩;go_wp2_with fail;go_meet;exact ⟨by (rw [<-HP.out]) <;> rfl,B0⟩
   have d2:(sc==2)=false:=by simpa using h2
   have HP:Hid (false=PX):=hZ9 (by rw [f.out,aC (by omega)];rfl);clear f;go_wp2_with fail;go_meet;exact ⟨by (rw [<-HP.out]) <;> rfl,Below.refl _ _⟩
  case rest=>
  obtain ⟨rfl,J⟩:=hcut;have A8:=B6.trans (J.mono B6.size);have t:=z.call J;have B8:=T.callT J;have f0:=Ab e0 J;have f1:=Ab e1 J;clear z T e0 e1 A9 f q B;obtain ⟨w5,rfl⟩:∃x,x=wc:=⟨_,rfl⟩
  cases PX with
  | false=>
   have HQ:=hZ9 (K rfl);clear n K I HI;go_wp2_with fail;go_roundw
   case rel=>exact ⟨k+1,by omega,by go_num,by rw [HQ.out];exact t,A8⟩
   case measure=>simp [intOf];omega
  | true=>
   have HQ:=hZ9 (n rfl);have A0:=I w0.heap.size w5 (aY A.size (aY (by simp) J.size)) B8;clear n K I;go_wp2_with fail;refine A0.mono ?_;rintro e w6 ⟨u6,rfl,y,C5⟩;have C7:=A8.trans (C5.mono A8.size);have R:=t.call C5;have B5:=y.attrsQ;obtain ⟨yb,yd,rfl⟩:=y.form;rw [E1.out] at B5⊢;have B3:=Af w6 (.cells #[.string ⟨name.toArray⟩,.slice yb AL yd] 52);have D2:=Whole.made w6 52 #[.string ⟨name.toArray⟩,.slice yb AL yd];have D4:=C7.trans (B3.mono C7.size);have A3:=R.call B3;have B9:=AQ.callT B5 B3;have b0:=D2.cell 0;have b1:=D2.cell 1;have hsz:=D4.size;simp only [aI,aH,aK] at b0 b1;clear A0 y t R B5;go_wp2_with (at_builtin;refine MS (enQ w0.heap.size) 52 22 [9,56] (by decide) underlying22 HI.out E4 E6 E3 (by rfl) (by rfl) _ _ (by rfl) w.heap.size hb0.size _ Q (by rfl) A3 w6.heap.size (by rfl) ⟨name,C1⟩ _ b0 b1 B9 (by omega) hsz ?_)
   intro v7 w7 A2 D5 E8;go_wp2_with fail;go_roundw
   case rel=>exact ⟨k+1,by omega,by go_num,by rw [HQ.out];exact A2,D4.trans D5⟩
   case measure=>simp [intOf];omega
end
end Go.Proofs.YtgngjfjaelgaeaaGreatDoor
