/- Small facts on memory, of no program: a block known whole; a world that differs from another one in new blocks alone. Conditions: as stated. -/
import Derived.WalkSpells
import Derived.WalkLawsBesides
import Derived.Handy
import Derived.BigQuiet
import Derived.Laws.AppendOwnNone
import Derived.Test.YtgngjfjaelgaeaaGreatDoorZShelf
import Derived.Test.YtgngjfjaelgaeaaGreatDoorZPhS
namespace Go.Proofs.YtgngjfjaelgaeaaGreatDoor
open Go.Proofs.Tryz
variable {a:Act} {cs:Array Value} {xs:List iK} {l:iK} {B b g k n:Nat} {o:Oper} {t:TypeId} {v:Value} {w w':World}
theorem hZ9{p:Prop}(h:p):Go.RowKit.Hid p:=h
section
open Go.RowKit
theorem cell_lt{a:Addr}(h:w.cell? a=some v):a.block<w.heap.size:=by
 rcases eI a.block w.heap.size with d|c
 ·exact d
 ·unfold World.cell? at h;rw[eU c] at h;cases h
theorem CG(hb:Below B w w')(hB:w.heap.size<=B){a:Addr}(h:w.cell? a=some v):w'.cell? a=some v:=by rw[hb.cell (ae (cell_lt h) hB)];exact h
theorem Aa{a b c:World}(h:Below a.heap.size a b)(k:Below b.heap.size b c):Below a.heap.size a c:=h.trans (k.mono h.size)
theorem BJ{a b:World}(h:Below a.heap.size a b)(o:Obj):Below a.heap.size a (b.alloc o):=h.alloc h.size o
theorem Af(w:World)(o:Obj):Below w.heap.size w (w.alloc o):=(Below.refl _ _).alloc (aA _) o
theorem Ab{a:Addr}(h:w.cell? a=some v)(hb:Below w.heap.size w w'):w'.cell? a=some v:=CG hb (aA _) h
theorem below_drewN(w:World)(k:Nat):Below w.heap.size w (w.drewN k):=⟨rfl,rfl,rfl,aA _,λ_ _=>rfl⟩
def Whole(w:World)(g:Nat)(t:TypeId)(cs:Array Value):Prop:=w.heap[g]?=some (.cells cs t (0,0))
theorem Whole.lt(h:Whole w g t cs):g<w.heap.size:=by unfold Whole at h;exact(ah.1 h).1
theorem Whole.cell(h:Whole w g t cs)(i:Nat):w.cell? ⟨g,i,none⟩=cs[i]?:=by unfold Whole at h;unfold World.cell?;simp only[h];rfl
theorem Whole.thaw(h:Whole w g t cs)(i:Nat):w.frozen? ⟨g,i,none⟩=false:=by unfold Whole at h;simp[World.frozen?,h]
theorem Whole.made(w:World)(t:TypeId)(cs:Array Value):Whole (w.alloc (.cells cs t)) w.heap.size t cs:=by
 show (w.heap.push _)[w.heap.size]?=_
 rw[dV]
theorem Whole.drew(h:Whole w g t cs):Whole w.drew g t cs:=h
theorem Whole.drewN(h:Whole w g t cs)(k:Nat):Whole (w.drewN k) g t cs:=h
theorem Whole.below(h:Whole w g t cs)(hb:Below B w w')(c:g<B):Whole w' g t cs:=(hb.block g c).trans h
theorem Whole.alloc(h:Whole w g t cs)(o:Obj):Whole (w.alloc o) g t cs:=h.below ((Below.refl w.heap.size w).alloc (aA _) o) h.lt
theorem Whole.call(h:Whole w g t cs)(hb:Below w.heap.size w w'):Whole w' g t cs:=h.below hb h.lt
theorem Whole.put(h:Whole w g t cs)(i:Nat)(v:Value):Whole (w.setCell ⟨g,i,none⟩ v) g t (cs.setIfInBounds i v):=by unfold Whole at h⊢;simp[World.setCell,Array.getElem?_modify,h]
theorem Whole.other(h:Whole w g t cs){p:Addr}(hp:g≠p.block)(v:Value):Whole (w.setCell p v) g t cs:=
 (Below.heap_setCell w p v g hp).trans h
def NZ(w:World)(e:Ending)(w':World):Prop:=e=.returned true/\Below w.heap.size w w'
end
section
open Go.RowKit
def BytesIn(w:World)(b:Nat)(l:iK):Prop:=
 b<w.heap.size/\∀(j:Nat) (h:j<l.length),w.cell? ⟨b,j,none⟩=some (.int .u8 (l[j].toNat:Int))/\w.frozen? ⟨b,j,none⟩=false
theorem BytesIn.cell(h:BytesIn w b l){j:Nat}(c:j<l.length):w.cell? ⟨b,j,none⟩=some (.int .u8 (l[j].toNat:Int)):=(h.2 j c).1
theorem BytesIn.thaw(h:BytesIn w b l){j:Nat}(c:j<l.length):w.frozen? ⟨b,j,none⟩=false:=(h.2 j c).2
theorem BytesIn.call(h:BytesIn w b l)(hb:Below w.heap.size w w'):BytesIn w' b l:=
 ⟨ae h.1 hb.size,λj c=>⟨(hb.cell (p:=⟨b,j,none⟩) h.1).trans (h.cell c),(hb.frozen (p:=⟨b,j,none⟩) h.1).trans (h.thaw c)⟩⟩
theorem BytesIn.drew(h:BytesIn w b l):BytesIn w.drew b l:=h
theorem BytesIn.drewN(h:BytesIn w b l)(k:Nat):BytesIn (w.drewN k) b l:=h
theorem BytesIn.alloc(h:BytesIn w b l)(o:Obj):BytesIn (w.alloc o) b l:=h.call ((Below.refl _ _).alloc (aA _) o)
theorem BytesIn.put(h:BytesIn w b l)(i:Nat)(c:UInt8):BytesIn (w.setCell ⟨b,i,none⟩ (.int .u8 (c.toNat:Int))) b (l.set i c):=by
 refine⟨by simpa[World.setCell] using h.1,λj m=>?_⟩;have d:j<l.length:=by simpa using m
 have h1:=h.cell d;have h2:=h.thaw d;refine⟨?_,by rw[World.frozen?_setCell];exact h2⟩;by_cases f:i=j
 ·subst f;simp only[List.getElem_set_self];exact World.cell?_setCell_same _ _ _ h1
 ·rw[List.getElem_set_ne f];rw[World.cell?_setCell_other _ _ _ _ (by intro e;injection e with e1 e2;exact f e2)];exact h1
theorem BytesIn.conv(w:World)(e:TypeId)(s:ByteArray):BytesIn (Lib.bytesWorld w e s) w.heap.size s.data.toList:=by
 refine⟨by rw[Lib.bytesWorld_size];omega,λj d=>?_⟩;have c:j<s.size:=by simpa using d
 refine⟨?_,?_⟩
 ·rw[Lib.bytesWorld_cell w e s j c];simp[List.getD,c]
 ·have f:j<(Lib.bytesCells w e s).size:=by unfold Lib.bytesCells;simp;omega
  simp[World.frozen?,Lib.bytesWorld_at_new];omega
theorem BytesIn.back{P:Program}(h:BytesIn w b l)(src dst e:TypeId)(n cap:Nat)(i:l.length=n)(d:P.underlying src=some (.slice e))(f:P.underlying e=some (.int .u8))(hd:P.underlying dst=some .string):
  (convert src dst (.slice (some ⟨b,0,none⟩) n cap)).run P w=.ok (.string ⟨l.toArray⟩) w:=by
 subst i;refine run_convert_bytes_back w src dst e ⟨b,0,none⟩ cap l d f hd λj m=>?_;have c:(⟨b,0,none⟩:Addr).add j=⟨b,j,none⟩:=by unfold Addr.add;split<;>simp_all
 rw[c];exact h.cell m
end
section
open Go.RowKit
structure Env (w:World):Prop where
 maxLen:∃m,w.cell? ⟨0,0,none⟩=some (.int .i64 m)
 pow:Lib.TabIs prog w "internal/strconv.uint64pow10" .u64 Lib.pow10Tab
 syn:∃tp p,w.cell? ⟨1,0,none⟩=some (.iface tp p)
 rng:∃tp p,w.cell? ⟨2,0,none⟩=some (.iface tp p)
 utf:Lib.Utf8Tabs 6 7 w
theorem var_below{n:String}(hb:Below w.heap.size w w')(h:w.var? prog n=some cs):w'.var? prog n=some cs:=by
 unfold World.var? at h⊢;cases e:prog.globalNamed n with
 |none=>rw[e] at h;cases h
 |some g=>
  rw[e] at h;have d:g<w.heap.size:=by
   rcases eI g w.heap.size with c|c
   ·exact c
   ·simp[Array.getElem?_eq_none c] at h
  simp only[Option.bind_some] at h⊢;rw[hb.block g d];exact h
theorem Env.below(h:Env w)(hb:Below w.heap.size w w'):Env w' where
 maxLen:=by obtain⟨m,d⟩:=h.maxLen;exact⟨m,CG hb (aA _) d⟩
 pow:=var_below hb h.pow
 syn:=by obtain⟨m,p,d⟩:=h.syn;exact⟨m,p,CG hb (aA _) d⟩
 rng:=by obtain⟨m,p,d⟩:=h.rng;exact⟨m,p,CG hb (aA _) d⟩
 utf:=⟨λc hc=>CG hb (aA _) (h.utf.1 c hc),λi e=>⟨CG hb (aA _) (h.utf.2 i e).1,CG hb (aA _) (h.utf.2 i e).2⟩⟩
theorem Env.alloc(h:Env w)(o:Obj):Env (w.alloc o):=h.below ((Below.refl _ _).alloc (aA _) o)
theorem Env.drew(h:Env w):Env w.drew:=h.below (Below.refl _ _).drew
theorem below_grow(w:World)(os:Array Obj):Below w.heap.size w (Sort.grow w os):=by
 refine⟨rfl,rfl,rfl,?_,λk hk=>?_⟩
 ·show w.heap.size<=(w.heap++os).size
  simp
 ·show (w.heap++os)[k]?=_
  rw[Array.getElem?_append_left hk]
theorem KO(n:Int)(h0:-9223372036854775808<=n)(h1:n<=9223372036854775807)(w:World)(hE:Env w):
  Calls prog 184 #[n,.int .i64 10] w λe w'=>e=.returned (.string ⟨(Lib.itoa n).toArray⟩)/\Below w.heap.size w w':=
 (strconv_FormatInt_10 n h0 h1 w hE.pow).mono λe w' ⟨d,k,os,c⟩=>⟨d,by rw[c];exact Aa (below_drewN w k) (below_grow _ _)⟩
theorem Ul(s:ByteArray)(i:s.size<=281474976710656)(h:(PhS.readS s.data.toList).2=true)(w:World):
  Calls prog 183 #[.string s,.int .i64 10,.int .i64 32] w λe w'=>e=.returned (.tuple #[.int .i64 (PhS.readS s.data.toList).1,.nilIface])/\Below w.heap.size w w':=by
 unfold PhS.readS at h⊢;cases c:Lib.parseIntB 32 s.data.toList with
 |ok v=>
  refine(strconv_ParseInt_10_at32_ok s (by omega) v c w).mono ?_;rintro e w' ⟨f,d⟩;refine⟨f,?_⟩;rcases d with rfl|⟨t,rfl⟩
  ·exact Below.refl _ _
  ·exact Lib.bytesWorld_below _ _ _
 |_=>rw[c] at h;cases h
theorem Um(s:ByteArray)(l:s.size<=281474976710656)(h:(PhS.readS s.data.toList).2=false)(w:World)(hE:Env w):
  Calls prog 183 #[.string s,.int .i64 10,.int .i64 32] w λe w'=>∃N,e=.returned (.tuple #[.int .i64 (PhS.readS s.data.toList).1,.iface 255 (.pointer (some ⟨N,0,none⟩))])/\Below w.heap.size w w':=by
 unfold PhS.readS at h⊢;obtain⟨m,p,c⟩:=hE.syn;obtain⟨j,q,d⟩:=hE.rng;cases i:Lib.parseIntB 32 s.data.toList with
 |ok v=>rw[i] at h;cases h
 |range=>refine(Any.strconv_ParseInt_10_at32_range laysC174 s l i (.iface j q) w d (gi ⟨_,_,rfl⟩)).mono ?_;rintro e w' ⟨N,f,_,_,hb⟩;exact⟨N,f,hb⟩
 |_=>refine(Any.strconv_ParseInt_10_at32_syntax laysC174 s l i (.iface m p) w c (gi ⟨_,_,rfl⟩)).mono ?_;rintro e w' ⟨N,f,_,_,hb⟩;exact⟨N,f,hb⟩
end
section
open Go.RowKit
def Ac(l:iK):Value:=.string ⟨l.toArray⟩
def Ah(w:World)(v:Value)(xs:List iK):Prop:=
 ∃a c,v=.slice a xs.length c/\xs.length<=c/\(xs=[]\/∃g o,a=some ⟨g,o,none⟩/\g<w.heap.size/\∀(j:Nat) (y:iK),xs[j]?=some y->w.cell? ⟨g,o+j,none⟩=some (Ac y))
theorem Ah.call(h:Ah w v xs)(hb:Below B w w')(hB:w.heap.size<=B):Ah w' v xs:=by
 obtain⟨a,c,rfl,hc,h⟩:=h;refine⟨a,c,rfl,hc,?_⟩;rcases h with h|⟨g,o,rfl,d,h⟩
 ·exact .inl h
 ·exact .inr ⟨g,o,rfl,ae d hb.size,λj y e=>(hb.cell (p:=⟨g,o+j,none⟩) (ae d hB)).trans (h j y e)⟩
theorem Ah.empty(w:World):Ah w (.slice none 0 0) []:=⟨Option.none,0,rfl,aA _,.inl rfl⟩
def Own(w:World)(B:Nat)(v:Value)(xs:List iK):Prop:=w.ownsRow B 9 1 v xs.length (xs.map Ac)
theorem Own.empty(w:World)(B:Nat):Own w B (.slice none 0 0) []:=World.ownsRow_nil w B _ 1
theorem Own.form(h:Own w B v xs):∃a c,v=.slice a xs.length c:=by
 rcases h.2 with⟨rfl,d⟩|⟨g,cap,cur,rfl,_⟩
 ·exact⟨_,_,by rw[d]⟩
 ·exact⟨_,_,rfl⟩
theorem Bc(hb:Below w.heap.size w w'):w.grownBy w' none:=⟨hb.os,hb.tape,hb.output,hb.size,λk hk _=>hb.block k hk⟩
theorem Own.call(h:Own w B v xs)(hb:Below w.heap.size w w'):Own w' B v xs:=
 World.ownsRow.kept h (Bc hb) (by cases v.ownBlock<;>simp)
theorem Own.alloc(h:Own w B v xs)(o:Obj):Own (w.alloc o) B v xs:=World.ownsRow.alloc h o
theorem Own.mono{c:Nat}(h:Own w B v xs)(hB:c<=B):Own w c v xs:=by
 refine⟨h.1,?_⟩;rcases h.2 with h|⟨g,cap,cur,e,d,rest⟩
 ·exact .inl h
 ·exact .inr ⟨g,cap,cur,e,aX hB d,rest⟩
theorem Own.strs(h:Own w B v xs):Ah w v xs:=by
 rcases h.2 with⟨rfl,d⟩|⟨g,cap,cur,rfl,l,f,d,m,hsz,i⟩
 ·exact⟨Option.none,0,by rw[d],by omega,.inl (aY d)⟩
 ·refine⟨some ⟨g,0,Option.none⟩,cap,rfl,d,.inr ⟨g,0,rfl,(ah.1 f).1,λj y e=>?_⟩⟩;have:=World.ownsRow.cells h (g:=g) rfl j (Ac y) (by rw[ba,e];rfl);have c:(⟨g,0,Option.none⟩:Addr).add j=⟨g,0+j,Option.none⟩:=by unfold Addr.add;split<;>simp_all
  rw[c] at this;exact this
theorem Ah.at{o:Nat}(h:∀(j:Nat) (y:iK),xs[j]?=some y->w.cell? ⟨g,o+j,Option.none⟩=some (Ac y))(hk:k<xs.length):w.cell? ⟨g,o+k,Option.none⟩=some (Ac xs[k]):=h k _ (aK hk)
theorem Hy:(prog.info? 9).map (λi=>(i.zero,i.size,i.bytes))=some (some (.string ⟨#[]⟩),1,16):=by kernel_rfl
theorem Hz{ops:Array Oper}{rest:List Oper}{Q:Exit->Act->World->Prop}(m:o.guard=none)(s x:Operand)
  (z:o.op=.call { callee:=.builtin .append,args:=#[s,x],argTypes:=#[23,23] })
  (B:Nat)(v:Value)(xs:List iK)(r:a.eval s=v)(c:Own w B v xs)(g:Nat)(hx:a.eval x=.slice (some ⟨g,0,Option.none⟩) 1 1)
  (y:iK)(hc:w.cell? ⟨g,0,Option.none⟩=some (Ac y))(C:xs.length<=1000000000)(hB:B<=w.heap.size)
  (h:∀e w',Own w' B e (xs++[y])->Below B w w'->wpList prog ops Q rest (a.put o.dst e) w'):wpList prog ops Q (o :: rest) a w:=by
 obtain⟨i0,A,l,f,p⟩:=info_parts Hy;refine wpList_append_own w m s x _ z B 9 i0 (.string ⟨#[]⟩) 1 16 underlying23 A l f p rfl (by decide) v xs.length (xs.map Ac) r c ⟨g,0,Option.none⟩ 1 1 [Ac y] hx rfl
  (λj u i=>?_) (λu hu=>?_) (by unfold maxLen;omega) (by omega) hB (λe w' h1 h2 _=>h e w' ?_ ?_)
 ·have q:j=0:=by
   rcases bU j with h|h
   ·exact h
   ·rw[dE (by simp;omega)] at i;cases i
  subst q;have d:(⟨g,0,Option.none⟩:Addr).add 0=⟨g,0,Option.none⟩:=by unfold Addr.add;split<;>simp_all
  rw[d,hc]
  simpa using i
 ·rw[aj] at hu;subst hu;rfl
 ·unfold Own;rw[bQ,aT];exact h1
 ·exact(Below.refl B w).grown h2 hB (λk hk=>(World.ownsRow.lt c k hk).1)
end
section
open Go.RowKit
def Aj(c:UInt8):Value:=.int .u8 (c.toNat:Int)
def OwnB(w:World)(B:Nat)(v:Value)(l:iK):Prop:=w.ownsRow B 5 1 v l.length (l.map Aj)
theorem OwnB.empty(w:World)(B:Nat):OwnB w B (.slice none 0 0) []:=World.ownsRow_nil w B _ 1
theorem OwnB.form(h:OwnB w B v l):∃a c,v=.slice a l.length c:=by
 rcases h.2 with⟨rfl,d⟩|⟨g,cap,cur,rfl,_⟩
 ·exact⟨_,_,by rw[d]⟩
 ·exact⟨_,_,rfl⟩
theorem OwnB.call(h:OwnB w B v l)(hb:Below w.heap.size w w'):OwnB w' B v l:=
 World.ownsRow.kept h (Bc hb) (by cases v.ownBlock<;>simp)
theorem OwnB.alloc(h:OwnB w B v l)(o:Obj):OwnB (w.alloc o) B v l:=World.ownsRow.alloc h o
theorem Qs:(prog.info? 5).map (λi=>(i.zero,i.size,i.bytes))=some (some (.int .u8 0),1,1):=by kernel_rfl
theorem Jv{ops:Array Oper}{rest:List Oper}{Q:Exit->Act->World->Prop}(z:o.guard=none)(s x:Operand)
  (E:o.op=.call { callee:=.builtin .append,args:=#[s,x],argTypes:=#[157,157] })
  (B:Nat)(v:Value)(l:iK)(C:a.eval s=v)(d:OwnB w B v l)(g m c:Nat)(hx:a.eval x=.slice (some ⟨g,0,none⟩) m c)
  (ys:iK)(G:ys.length=m)(hc:∀(j:Nat) (y:UInt8),ys[j]?=some y->w.cell? ⟨g,j,none⟩=some (Aj y))(H:l.length+m<=1000000000)(hB:B<=w.heap.size)
  (h:∀i w',OwnB w' B i (l++ys)->Below B w w'->w.grownBy w' v.ownBlock->wpList prog ops Q rest (a.put o.dst i) w'):wpList prog ops Q (o :: rest) a w:=by
 obtain⟨i0,F,r,p,A⟩:=info_parts Qs;subst G;refine wpList_append_own w z s x _ E B 5 i0 (.int .u8 0) 1 1 underlying157 F r p A rfl (by decide) v l.length (l.map Aj) C d ⟨g,0,none⟩ ys.length c (ys.map Aj) hx (by simp)
  (λj u e=>?_) (λu hu=>?_) (by unfold maxLen;omega) (by omega) hB (λi w' h1 h2 _=>h i w' ?_ ?_ h2)
 ·rw[ba] at e;cases q:ys[j]? with
  |none=>rw[q] at e;cases e
  |some y=>
   rw[q] at e;have e:=aU e;subst e;have f:(⟨g,0,none⟩:Addr).add j=⟨g,j,none⟩:=by unfold Addr.add;split<;>simp_all
   rw[f];exact hc j y q
 ·obtain⟨y,_,rfl⟩:=bG.1 hu;rfl
 ·unfold OwnB;rw[bQ,aT];exact h1
 ·exact(Below.refl B w).grown h2 hB (λk hk=>(World.ownsRow.lt d k hk).1)
theorem DW{ops:Array Oper}{rest:List Oper}{Q:Exit->Act->World->Prop}(f:o.guard=none)(s x:Operand)
  (p:o.op=.call { callee:=.builtin .append,args:=#[s,x],argTypes:=#[157,157] })
  (B:Nat)(v:Value)(l:iK)(i:a.eval s=v)(d:OwnB w B v l)(g m c:Nat)(hx:a.eval x=.slice (some ⟨g,0,none⟩) m c)
  (ys:iK)(r:ys.length=m)(hc:∀(j:Nat) (y:UInt8),ys[j]?=some y->w.cell? ⟨g,j,none⟩=some (Aj y))(q:l.length+m<=1000000000)(hB:B<=w.heap.size)
  (h:∀e w',OwnB w' B e (l++ys)->Below B w w'->wpList prog ops Q rest (a.put o.dst e) w'):wpList prog ops Q (o :: rest) a w:=
 Jv f s x p B v l i d g m c hx ys r hc q hB (λe w' h1 h2 _=>h e w' h1 h2)
theorem one_cell{y:UInt8}(h:w.cell? ⟨g,0,none⟩=some (Aj y)):∀(j:Nat) (z:UInt8),[y][j]?=some z->w.cell? ⟨g,j,none⟩=some (Aj z):=by
 intro j z c
 match j,c with
 |0,c=>have:=aU c;subst this;exact h
theorem EY(c:UInt8):∀(j:Nat) (y:UInt8),[c][j]?=some y->[Value.int IntKind.u8 (c.toNat:Int)][j]?=some (Aj y):=by
 intro j z d
 match j,d with
 |0,d=>have:=aU d;subst this;rfl
theorem Db{d e:UInt8}(h0:w.cell? ⟨g,0,none⟩=some (Aj d))(h1:w.cell? ⟨g,1,none⟩=some (Aj e)):∀(j:Nat) (z:UInt8),[d,e][j]?=some z->w.cell? ⟨g,j,none⟩=some (Aj z):=by
 intro j z c
 match j,c with
 |0,c=>have:=aU c;subst this;exact h0
 |1,c=>have:=aU c;subst this;exact h1
theorem Dy{e d f:UInt8}(h0:w.cell? ⟨g,0,none⟩=some (Aj e))(h1:w.cell? ⟨g,1,none⟩=some (Aj d))(h2:w.cell? ⟨g,2,none⟩=some (Aj f)):
  ∀(j:Nat) (z:UInt8),[e,d,f][j]?=some z->w.cell? ⟨g,j,none⟩=some (Aj z):=by
 intro j z c
 match j,c with
 |0,c=>have:=aU c;subst this;exact h0
 |1,c=>have:=aU c;subst this;exact h1
 |2,c=>have:=aU c;subst this;exact h2
theorem OwnB.back(h:OwnB w B v l):(convert 157 9 v).run prog w=.ok (.string ⟨l.toArray⟩) w:=by
 rcases h.2 with⟨rfl,c⟩|⟨g,cap,cur,rfl,i,m,c,p,hsz,e⟩
 ·have f:=aY c;subst f;rw[run_convert_bytes_string w _ _ 5 none 0 0 underlying157 underlying5 underlying9];rfl
 ·refine run_convert_bytes_back w _ _ 5 ⟨g,0,none⟩ cap l underlying157 underlying5 underlying9 λj d=>?_;exact World.ownsRow.cells h (g:=g) rfl j (Aj l[j]) (by simp[d])
end
section
open Go.RowKit
theorem KP{xs:List Value}(ty:TypeId)(d:w.ownsRow B 9 1 v n xs)(c:Nat):(Builtin.append_ #[23,23] ty #[v,.slice none 0 c]).run prog w=.ok v w:=by
 obtain⟨i0,f,i,h,j⟩:=info_parts Hy;have hu:=run_underlying underlying23;rcases d.2 with⟨rfl,rfl⟩|⟨g,cap,cur,rfl,_,_,e,_⟩
 ·simp[Builtin.append_,hu,sizeOf,typeInfo,f,Builtin.lenOf,Builtin.firstCells]
 ·simp[Builtin.append_,hu,sizeOf,typeInfo,f,Builtin.lenOf,Builtin.firstCells,e,storeCells]
theorem Nj{ops:Array Oper}{rest:List Oper}{Q:Exit->Act->World->Prop}(i:o.guard=none)(s x:Operand)
  (F:o.op=.call { callee:=.builtin .append,args:=#[s,x],argTypes:=#[23,23] })
  (B:Nat)(v:Value)(xs:List iK)(G:a.eval s=v)(d:Own w B v xs)(u:Value)(ys:List iK)(hx:a.eval x=u)(E:Ah w u ys)
  (O:xs.length+ys.length<=1000000000)(hB:B<=w.heap.size)
  (h:∀p w',Own w' B p (xs++ys)->Below B w w'->wpList prog ops Q rest (a.put o.dst p) w'):wpList prog ops Q (o :: rest) a w:=by
 obtain⟨A,c,rfl,hc,f⟩:=E;obtain⟨i0,M,r,z,C⟩:=info_parts Hy;cases A with
 |none=>
  rcases f with rfl|⟨g,o,e,_⟩
  ·refine wpList_plain i λK H=>?_;have m:=KP o.type d c;unfold Oper.wp;simp[execOp,F,resolve,invoke,builtin,G,hx,m,Result.andThen];exact H _ _ (h v w (by rw[bK];exact d) (Below.refl B w))
  ·cases e
 |some I=>
  refine wpList_append_own w i s x _ F B 9 i0 (.string ⟨#[]⟩) 1 16 underlying23 M r z C rfl (by decide) v xs.length (xs.map Ac) G d I ys.length c (ys.map Ac) hx (by simp)
   (λj y q=>?_) (λy J=>?_) (by unfold maxLen;omega) (by omega) hB (λp w' h1 h2 _=>h p w' ?_ ?_)
  ·rcases f with rfl|⟨g,o,e,N,hcell⟩
   ·simp at q
   ·cases e;rw[ba] at q;obtain⟨t,L,rfl⟩:=bF.1 q;have l:(⟨g,o,Option.none⟩:Addr).add j=⟨g,o+j,Option.none⟩:=by unfold Addr.add;split<;>simp_all
    rw[l];exact hcell j t L
  ·obtain⟨t,_,rfl⟩:=bG.1 J;rfl
  ·unfold Own;rw[bQ,aT];exact h1
  ·exact(Below.refl B w).grown h2 hB (λk hk=>(World.ownsRow.lt d k hk).1)
theorem Ah.drop{a:Option Addr}{c:Nat}(h:Ah w (.slice a n c) xs)(hk:k<=n)(f:0<n):∃g o,a=some ⟨g,o,none⟩/\Ah w (.slice (some ⟨g,o+k,none⟩) (n-k) (c-k)) (xs.drop k):=by
 obtain⟨m,p,e,hc,d⟩:=h;cases e;rcases d with rfl|⟨g,o,rfl,l,hcell⟩
 ·simp at f
 ·refine⟨g,o,rfl,some ⟨g,o+k,none⟩,c-k,by rw[bD],by rw[bD];omega,.inr ⟨g,o+k,rfl,l,λj y i=>?_⟩⟩;rw[eJ] at i;rw[cQ];exact hcell _ y i
theorem Ah.take{a:Option Addr}{c:Nat}(h:Ah w (.slice a n c) xs)(hk:k<=n):Ah w (.slice a k c) (xs.take k):=by
 obtain⟨m,p,e,hc,d⟩:=h;cases e;have i:(xs.take k).length=k:=by rw[ar];omega
 refine⟨a,c,by rw[i],by rw[i];omega,?_⟩;rcases d with rfl|⟨g,o,rfl,l,hcell⟩
 ·exact .inl (by simp)
 ·refine .inr ⟨g,o,rfl,l,λj y f=>?_⟩;rw[gh] at f;split at f
  ·exact hcell j y f
  ·cases f
theorem Ah.nil(w:World)(a:Option Addr)(c:Nat):Ah w (.slice a 0 c) []:=⟨a,c,rfl,aR _,.inl rfl⟩
theorem Ah.form(h:Ah w v xs):∃a c,v=.slice a xs.length c:=by obtain⟨a,c,e,_⟩:=h;exact⟨a,c,e⟩
end
