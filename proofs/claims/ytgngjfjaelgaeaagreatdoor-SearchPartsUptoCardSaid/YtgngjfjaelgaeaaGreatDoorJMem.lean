/- Small facts on memory, of no program: a block known whole; a world that differs from another one in new blocks alone. Conditions: as stated. -/
import Derived.WalkSpells
import Derived.WalkLawsBesides
import Derived.Handy
import Derived.BigQuiet
import Derived.Laws.AppendOwnNone
import Derived.Test.YtgngjfjaelgaeaaGreatDoorJShelf
import Derived.Test.YtgngjfjaelgaeaaGreatDoorJPhS
namespace Go.Proofs.YtgngjfjaelgaeaaGreatDoor
open Go.Proofs.Tryz
theorem hZ9 {p:Prop} (h:p):Go.RowKit.Hid p:=h
section
open Go.RowKit
theorem cell_lt {w:World} {a:Addr} {v:Value} (h:w.cell? a=some v):a.block<w.heap.size:=by
 rcases dw a.block w.heap.size with c | b
 · exact c
 · unfold World.cell? at h;rw [eK b] at h;cases h
theorem DI {B:Nat} {w w':World} (hb:Below B w w') (hB:w.heap.size<=B) {a:Addr} {v:Value} (h:w.cell? a=some v):w'.cell? a=some v:=by rw [hb.cell (ae (cell_lt h) hB)];exact h
theorem Aa {a b c:World} (h:Below a.heap.size a b) (k:Below b.heap.size b c):Below a.heap.size a c:=h.trans (k.mono h.size)
theorem Ci {a b:World} (h:Below a.heap.size a b) (o:Obj):Below a.heap.size a (b.alloc o):=h.alloc h.size o
theorem Af (w:World) (o:Obj):Below w.heap.size w (w.alloc o):=(Below.refl _ _).alloc (aA _) o
theorem Ab {w w':World} {a:Addr} {v:Value} (h:w.cell? a=some v) (hb:Below w.heap.size w w'):w'.cell? a=some v:=DI hb (aA _) h
theorem below_drewN (w:World) (k:Nat):Below w.heap.size w (w.drewN k):=⟨rfl,rfl,rfl,aA _,fun _ _=>rfl⟩
def Whole (w:World) (g:Nat) (t:TypeId) (cs:Array Value):Prop:=w.heap[g]?=some (.cells cs t (0,0))
theorem Whole.lt {w:World} {g:Nat} {t:TypeId} {cs:Array Value} (h:Whole w g t cs):g<w.heap.size:=by unfold Whole at h;exact (ah.1 h).1
theorem Whole.cell {w:World} {g:Nat} {t:TypeId} {cs:Array Value} (h:Whole w g t cs) (i:Nat):w.cell? ⟨g,i,none⟩=cs[i]?:=by unfold Whole at h;unfold World.cell?;simp only [h];rfl
theorem Whole.thaw {w:World} {g:Nat} {t:TypeId} {cs:Array Value} (h:Whole w g t cs) (i:Nat):w.frozen? ⟨g,i,none⟩=false:=by unfold Whole at h;simp [World.frozen?,h]
theorem Whole.made (w:World) (t:TypeId) (cs:Array Value):Whole (w.alloc (.cells cs t)) w.heap.size t cs:=by
 show (w.heap.push _)[w.heap.size]?=_
 rw [dR]
theorem Whole.drew {w:World} {g:Nat} {t:TypeId} {cs:Array Value} (h:Whole w g t cs):Whole w.drew g t cs:=h
theorem Whole.drewN {w:World} {g:Nat} {t:TypeId} {cs:Array Value} (h:Whole w g t cs) (k:Nat):Whole (w.drewN k) g t cs:=h
theorem Whole.below {B:Nat} {w w':World} {g:Nat} {t:TypeId} {cs:Array Value} (h:Whole w g t cs) (hb:Below B w w') (a:g<B):Whole w' g t cs:=(hb.block g a).trans h
theorem Whole.alloc {w:World} {g:Nat} {t:TypeId} {cs:Array Value} (h:Whole w g t cs) (o:Obj):Whole (w.alloc o) g t cs:=h.below ((Below.refl w.heap.size w).alloc (aA _) o) h.lt
theorem Whole.call {w w':World} {g:Nat} {t:TypeId} {cs:Array Value} (h:Whole w g t cs) (hb:Below w.heap.size w w'):Whole w' g t cs:=h.below hb h.lt
theorem Whole.put {w:World} {g:Nat} {t:TypeId} {cs:Array Value} (h:Whole w g t cs) (i:Nat) (v:Value):Whole (w.setCell ⟨g,i,none⟩ v) g t (cs.setIfInBounds i v):=by unfold Whole at h⊢;simp [World.setCell,dK,h]
theorem Whole.other {w:World} {g:Nat} {t:TypeId} {cs:Array Value} (h:Whole w g t cs) {p:Addr} (hp:g≠p.block) (v:Value):Whole (w.setCell p v) g t cs:=
 (Below.heap_setCell w p v g hp).trans h
def Nv (w:World) (e:Ending) (w':World):Prop:=e=.returned (.bool true)/\Below w.heap.size w w'
end
section
open Go.RowKit
def BytesIn (w:World) (b:Nat) (l:List UInt8):Prop:=
 b<w.heap.size/\∀(j:Nat) (h:j<l.length),w.cell? ⟨b,j,none⟩=some (.int .u8 (l[j].toNat:Int))/\w.frozen? ⟨b,j,none⟩=false
theorem BytesIn.cell {w:World} {b:Nat} {l:List UInt8} (h:BytesIn w b l) {j:Nat} (a:j<l.length):w.cell? ⟨b,j,none⟩=some (.int .u8 (l[j].toNat:Int)):=(h.2 j a).1
theorem BytesIn.thaw {w:World} {b:Nat} {l:List UInt8} (h:BytesIn w b l) {j:Nat} (a:j<l.length):w.frozen? ⟨b,j,none⟩=false:=(h.2 j a).2
theorem BytesIn.call {w w':World} {b:Nat} {l:List UInt8} (h:BytesIn w b l) (hb:Below w.heap.size w w'):BytesIn w' b l:=
 ⟨ae h.1 hb.size,fun j a=>⟨(hb.cell (p:=⟨b,j,none⟩) h.1).trans (h.cell a),(hb.frozen (p:=⟨b,j,none⟩) h.1).trans (h.thaw a)⟩⟩
theorem BytesIn.drew {w:World} {b:Nat} {l:List UInt8} (h:BytesIn w b l):BytesIn w.drew b l:=h
theorem BytesIn.drewN {w:World} {b:Nat} {l:List UInt8} (h:BytesIn w b l) (k:Nat):BytesIn (w.drewN k) b l:=h
theorem BytesIn.alloc {w:World} {b:Nat} {l:List UInt8} (h:BytesIn w b l) (o:Obj):BytesIn (w.alloc o) b l:=h.call ((Below.refl _ _).alloc (aA _) o)
theorem BytesIn.put {w:World} {b:Nat} {l:List UInt8} (h:BytesIn w b l) (i:Nat) (c:UInt8):BytesIn (w.setCell ⟨b,i,none⟩ (.int .u8 (c.toNat:Int))) b (l.set i c):=by
 refine ⟨by simpa [World.setCell] using h.1,fun j f=>?_⟩;have a:j<l.length:=by simpa using f
 have h1:=h.cell a;have h2:=h.thaw a;refine ⟨?_,by rw [World.frozen?_setCell];exact h2⟩;by_cases d:i=j
 · subst d;simp only [List.getElem_set_self];exact World.cell?_setCell_same _ _ _ h1
 · rw [List.getElem_set_ne d];rw [World.cell?_setCell_other _ _ _ _ (by intro e;injection e with e1 e2;exact d e2)];exact h1
theorem BytesIn.conv (w:World) (e:TypeId) (s:ByteArray):BytesIn (Lib.bytesWorld w e s) w.heap.size s.data.toList:=by
 refine ⟨by rw [Lib.bytesWorld_size];omega,fun j b=>?_⟩;have a:j<s.size:=by simpa using b
 refine ⟨?_,?_⟩
 · rw [Lib.bytesWorld_cell w e s j a];simp [List.getD,a]
 · have c:j<(Lib.bytesCells w e s).size:=by unfold Lib.bytesCells;simp;omega
   simp [World.frozen?,Lib.bytesWorld_at_new];omega
theorem BytesIn.back {P:Program} {w:World} {b:Nat} {l:List UInt8} (h:BytesIn w b l) (src dst e:TypeId) (n cap:Nat) (d:l.length=n) (g:P.underlying src=some (.slice e)) (c:P.underlying e=some (.int .u8)) (hd:P.underlying dst=some .string):
  (convert src dst (.slice (some ⟨b,0,none⟩) n cap)).run P w=.ok (.string ⟨l.toArray⟩) w:=by
 subst d;refine run_convert_bytes_back w src dst e ⟨b,0,none⟩ cap l g c hd fun j f=>?_;have a:(⟨b,0,none⟩:Addr).add j=⟨b,j,none⟩:=by unfold Addr.add;split <;> simp_all
 rw [a];exact h.cell f
end
section
open Go.RowKit
structure Env (w:World):Prop where
 maxLen:∃m,w.cell? ⟨0,0,none⟩=some (.int .i64 m)
 pow:Lib.TabIs prog w "internal/strconv.uint64pow10" .u64 Lib.pow10Tab
 syn:∃tp p,w.cell? ⟨1,0,none⟩=some (.iface tp p)
 rng:∃tp p,w.cell? ⟨2,0,none⟩=some (.iface tp p)
 utf:Lib.Utf8Tabs 6 7 w
theorem var_below {w w':World} {n:String} {cs:Array Value} (hb:Below w.heap.size w w') (h:w.var? prog n=some cs):w'.var? prog n=some cs:=by
 unfold World.var? at h⊢;cases c:prog.globalNamed n with
 | none=>rw [c] at h;cases h
 | some g=>
  rw [c] at h;have b:g<w.heap.size:=by
   rcases dw g w.heap.size with a | a
   · exact a
   · simp [eK a] at h
  simp only [Option.bind_some] at h⊢;rw [hb.block g b];exact h
theorem Env.below {w w':World} (h:Env w) (hb:Below w.heap.size w w'):Env w' where
 maxLen:=by obtain ⟨m,a⟩:=h.maxLen;exact ⟨m,DI hb (aA _) a⟩
 pow:=var_below hb h.pow
 syn:=by obtain ⟨m,p,a⟩:=h.syn;exact ⟨m,p,DI hb (aA _) a⟩
 rng:=by obtain ⟨m,p,a⟩:=h.rng;exact ⟨m,p,DI hb (aA _) a⟩
 utf:=⟨fun c hc=>DI hb (aA _) (h.utf.1 c hc),fun i b=>⟨DI hb (aA _) (h.utf.2 i b).1,DI hb (aA _) (h.utf.2 i b).2⟩⟩
theorem Env.alloc {w:World} (h:Env w) (o:Obj):Env (w.alloc o):=h.below ((Below.refl _ _).alloc (aA _) o)
theorem Env.drew {w:World} (h:Env w):Env w.drew:=h.below (Below.refl _ _).drew
theorem below_grow (w:World) (os:Array Obj):Below w.heap.size w (Sort.grow w os):=by
 refine ⟨rfl,rfl,rfl,?_,fun k hk=>?_⟩
 · show w.heap.size<=(w.heap++os).size
   simp
 · show (w.heap++os)[k]?=_
   rw [Array.getElem?_append_left hk]
theorem JY (n:Int) (h0:-9223372036854775808<=n) (h1:n<=9223372036854775807) (w:World) (hE:Env w):
  Calls prog 184 #[.int .i64 n,.int .i64 10] w fun e w'=>e=.returned (.string ⟨(Lib.itoa n).toArray⟩)/\Below w.heap.size w w':=
 (strconv_FormatInt_10 n h0 h1 w hE.pow).mono fun e w' ⟨a,k,os,b⟩=>⟨a,by rw [b];exact Aa (below_drewN w k) (below_grow _ _)⟩
theorem Tt (s:ByteArray) (d:s.size<=281474976710656) (h:(PhS.readS s.data.toList).2=true) (w:World):
  Calls prog 183 #[.string s,.int .i64 10,.int .i64 32] w fun e w'=>e=.returned (.tuple #[.int .i64 (PhS.readS s.data.toList).1,.nilIface])/\Below w.heap.size w w':=by
 unfold PhS.readS at h⊢;cases a:Lib.parseIntB 32 s.data.toList with
 | ok v=>
  refine (strconv_ParseInt_10_at32_ok s (by omega) v a w).mono ?_;rintro e w' ⟨b,c⟩;refine ⟨b,?_⟩;rcases c with rfl | ⟨t,rfl⟩
  · exact Below.refl _ _
  · exact Lib.bytesWorld_below _ _ _
 | _=>rw [a] at h;cases h
theorem Tu (s:ByteArray) (g:s.size<=281474976710656) (h:(PhS.readS s.data.toList).2=false) (w:World) (hE:Env w):
  Calls prog 183 #[.string s,.int .i64 10,.int .i64 32] w fun e w'=>∃N,e=.returned (.tuple #[.int .i64 (PhS.readS s.data.toList).1,.iface 255 (.pointer (some ⟨N,0,none⟩))])/\Below w.heap.size w w':=by
 unfold PhS.readS at h⊢;obtain ⟨j,p,a⟩:=hE.syn;obtain ⟨f,i,b⟩:=hE.rng;cases c:Lib.parseIntB 32 s.data.toList with
 | ok v=>rw [c] at h;cases h
 | range=>refine (Any.strconv_ParseInt_10_at32_range laysC174 s g c (.iface f i) w b (gb ⟨_,_,rfl⟩)).mono ?_;rintro e w' ⟨N,d,_,_,hb⟩;exact ⟨N,d,hb⟩
 | _=>refine (Any.strconv_ParseInt_10_at32_syntax laysC174 s g c (.iface j p) w a (gb ⟨_,_,rfl⟩)).mono ?_;rintro e w' ⟨N,d,_,_,hb⟩;exact ⟨N,d,hb⟩
end
section
open Go.RowKit
def Ac (l:List UInt8):Value:=.string ⟨l.toArray⟩
def Ah (w:World) (v:Value) (xs:List (List UInt8)):Prop:=
 ∃a c,v=.slice a xs.length c/\xs.length<=c/\(xs=[]\/∃g o,a=some ⟨g,o,none⟩/\g<w.heap.size/\∀(j:Nat) (y:List UInt8),xs[j]?=some y->w.cell? ⟨g,o+j,none⟩=some (Ac y))
theorem Ah.call {w w':World} {v:Value} {xs:List (List UInt8)} (h:Ah w v xs) {B:Nat} (hb:Below B w w') (hB:w.heap.size<=B):Ah w' v xs:=by
 obtain ⟨a,c,rfl,hc,h⟩:=h;refine ⟨a,c,rfl,hc,?_⟩;rcases h with h | ⟨g,o,rfl,b,h⟩
 · exact .inl h
 · exact .inr ⟨g,o,rfl,ae b hb.size,fun j y d=>(hb.cell (p:=⟨g,o+j,none⟩) (ae b hB)).trans (h j y d)⟩
theorem Ah.empty (w:World):Ah w (.slice none 0 0) []:=⟨Option.none,0,rfl,aA _,.inl rfl⟩
def Own (w:World) (B:Nat) (v:Value) (xs:List (List UInt8)):Prop:=w.ownsRow B 9 1 v xs.length (xs.map Ac)
theorem Own.empty (w:World) (B:Nat):Own w B (.slice none 0 0) []:=World.ownsRow_nil w B _ 1
theorem Own.form {w:World} {B:Nat} {v:Value} {xs:List (List UInt8)} (h:Own w B v xs):∃a c,v=.slice a xs.length c:=by
 rcases h.2 with ⟨rfl,b⟩ | ⟨g,cap,cur,rfl,_⟩
 · exact ⟨_,_,by rw [b]⟩
 · exact ⟨_,_,rfl⟩
theorem Ba {w w':World} (hb:Below w.heap.size w w'):w.grownBy w' none:=⟨hb.os,hb.tape,hb.output,hb.size,fun k hk _=>hb.block k hk⟩
theorem Own.call {w w':World} {B:Nat} {v:Value} {xs:List (List UInt8)} (h:Own w B v xs) (hb:Below w.heap.size w w'):Own w' B v xs:=
 World.ownsRow.kept h (Ba hb) (by cases v.ownBlock <;> simp)
theorem Own.alloc {w:World} {B:Nat} {v:Value} {xs:List (List UInt8)} (h:Own w B v xs) (o:Obj):Own (w.alloc o) B v xs:=World.ownsRow.alloc h o
theorem Own.mono {w:World} {B a:Nat} {v:Value} {xs:List (List UInt8)} (h:Own w B v xs) (hB:a<=B):Own w a v xs:=by
 refine ⟨h.1,?_⟩;rcases h.2 with h | ⟨g,cap,cur,e,b,rest⟩
 · exact .inl h
 · exact .inr ⟨g,cap,cur,e,aY hB b,rest⟩
theorem Own.strs {w:World} {B:Nat} {v:Value} {xs:List (List UInt8)} (h:Own w B v xs):Ah w v xs:=by
 rcases h.2 with ⟨rfl,b⟩ | ⟨g,cap,cur,rfl,i,d,b,f,hsz,c⟩
 · exact ⟨Option.none,0,by rw [b],by omega,.inl (aW b)⟩
 · refine ⟨some ⟨g,0,Option.none⟩,cap,rfl,b,.inr ⟨g,0,rfl,(ah.1 d).1,fun j y e=>?_⟩⟩;have:=World.ownsRow.cells h (g:=g) rfl j (Ac y) (by rw [bZ,e];rfl);have a:(⟨g,0,Option.none⟩:Addr).add j=⟨g,0+j,Option.none⟩:=by unfold Addr.add;split <;> simp_all
   rw [a] at this;exact this
theorem Ah.at {w:World} {g o:Nat} {xs:List (List UInt8)} (h:∀(j:Nat) (y:List UInt8),xs[j]?=some y->w.cell? ⟨g,o+j,Option.none⟩=some (Ac y)) {k:Nat} (hk:k<xs.length):w.cell? ⟨g,o+k,Option.none⟩=some (Ac xs[k]):=h k _ (aJ hk)
theorem Hq:(prog.info? 9).map (fun i=>(i.zero,i.size,i.bytes))=some (some (.string ⟨#[]⟩),1,16):=by kernel_rfl
theorem Hr {w:World} {ops:Array Oper} {rest:List Oper} {o:Oper} {a:Act} {Q:Exit->Act->World->Prop} (l:o.guard=none) (s x:Operand)
  (p:o.op=.call { callee:=.builtin .append,args:=#[s,x],argTypes:=#[23,23] })
  (B:Nat) (v:Value) (xs:List (List UInt8)) (r:a.eval s=v) (b:Own w B v xs) (g:Nat) (hx:a.eval x=.slice (some ⟨g,0,Option.none⟩) 1 1)
  (y:List UInt8) (hc:w.cell? ⟨g,0,Option.none⟩=some (Ac y)) (t:xs.length<=1000000000) (hB:B<=w.heap.size)
  (h:∀d w',Own w' B d (xs++[y])->Below B w w'->wpList prog ops Q rest (a.put o.dst d) w'):wpList prog ops Q (o :: rest) a w:=by
 obtain ⟨i0,q,e,n,f⟩:=info_parts Hq;refine wpList_append_own w l s x _ p B 9 i0 (.string ⟨#[]⟩) 1 16 underlying23 q e n f rfl (by decide) v xs.length (xs.map Ac) r b ⟨g,0,Option.none⟩ 1 1 [Ac y] hx rfl
  (fun j u i=>?_) (fun u hu=>?_) (by unfold maxLen;omega) (by omega) hB (fun d w' h1 h2 _=>h d w' ?_ ?_)
 · have m:j=0:=by
    rcases bT j with h | h
    · exact h
    · rw [dC (by simp;omega)] at i;cases i
   subst m;have c:(⟨g,0,Option.none⟩:Addr).add 0=⟨g,0,Option.none⟩:=by unfold Addr.add;split <;> simp_all
   rw [c,hc]
   simpa using i
 · rw [ak] at hu;subst hu;rfl
 · unfold Own;rw [bP,aT];exact h1
 · exact (Below.refl B w).grown h2 hB (fun k hk=>(World.ownsRow.lt b k hk).1)
end
section
open Go.RowKit
def Ai (c:UInt8):Value:=.int .u8 (c.toNat:Int)
def OwnB (w:World) (B:Nat) (v:Value) (l:List UInt8):Prop:=w.ownsRow B 5 1 v l.length (l.map Ai)
theorem OwnB.empty (w:World) (B:Nat):OwnB w B (.slice none 0 0) []:=World.ownsRow_nil w B _ 1
theorem OwnB.form {w:World} {B:Nat} {v:Value} {l:List UInt8} (h:OwnB w B v l):∃a c,v=.slice a l.length c:=by
 rcases h.2 with ⟨rfl,b⟩ | ⟨g,cap,cur,rfl,_⟩
 · exact ⟨_,_,by rw [b]⟩
 · exact ⟨_,_,rfl⟩
theorem OwnB.call {w w':World} {B:Nat} {v:Value} {l:List UInt8} (h:OwnB w B v l) (hb:Below w.heap.size w w'):OwnB w' B v l:=
 World.ownsRow.kept h (Ba hb) (by cases v.ownBlock <;> simp)
theorem OwnB.alloc {w:World} {B:Nat} {v:Value} {l:List UInt8} (h:OwnB w B v l) (o:Obj):OwnB (w.alloc o) B v l:=World.ownsRow.alloc h o
theorem PT:(prog.info? 5).map (fun i=>(i.zero,i.size,i.bytes))=some (some (.int .u8 0),1,1):=by kernel_rfl
theorem IZ {w:World} {ops:Array Oper} {rest:List Oper} {o:Oper} {a:Act} {Q:Exit->Act->World->Prop} (p:o.guard=none) (s x:Operand)
  (t:o.op=.call { callee:=.builtin .append,args:=#[s,x],argTypes:=#[157,157] })
  (B:Nat) (v:Value) (l:List UInt8) (C:a.eval s=v) (b:OwnB w B v l) (g m c:Nat) (hx:a.eval x=.slice (some ⟨g,0,none⟩) m c)
  (ys:List UInt8) (A:ys.length=m) (hc:∀(j:Nat) (y:UInt8),ys[j]?=some y->w.cell? ⟨g,j,none⟩=some (Ai y)) (E:l.length+m<=1000000000) (hB:B<=w.heap.size)
  (h:∀f w',OwnB w' B f (l++ys)->Below B w w'->w.grownBy w' v.ownBlock->wpList prog ops Q rest (a.put o.dst f) w'):wpList prog ops Q (o :: rest) a w:=by
 obtain ⟨i0,z,i,q,n⟩:=info_parts PT;subst A;refine wpList_append_own w p s x _ t B 5 i0 (.int .u8 0) 1 1 underlying157 z i q n rfl (by decide) v l.length (l.map Ai) C b ⟨g,0,none⟩ ys.length c (ys.map Ai) hx (by simp)
  (fun j u d=>?_) (fun u hu=>?_) (by unfold maxLen;omega) (by omega) hB (fun f w' h1 h2 _=>h f w' ?_ ?_ h2)
 · rw [bZ] at d;cases r:ys[j]? with
   | none=>rw [r] at d;cases d
   | some y=>
    rw [r] at d;have d:=aU d;subst d;have e:(⟨g,0,none⟩:Addr).add j=⟨g,j,none⟩:=by unfold Addr.add;split <;> simp_all
    rw [e];exact hc j y r
 · obtain ⟨y,_,rfl⟩:=bD.1 hu;rfl
 · unfold OwnB;rw [bP,aT];exact h1
 · exact (Below.refl B w).grown h2 hB (fun k hk=>(World.ownsRow.lt b k hk).1)
theorem Eh {w:World} {ops:Array Oper} {rest:List Oper} {o:Oper} {a:Act} {Q:Exit->Act->World->Prop} (e:o.guard=none) (s x:Operand)
  (f:o.op=.call { callee:=.builtin .append,args:=#[s,x],argTypes:=#[157,157] })
  (B:Nat) (v:Value) (l:List UInt8) (n:a.eval s=v) (b:OwnB w B v l) (g m c:Nat) (hx:a.eval x=.slice (some ⟨g,0,none⟩) m c)
  (ys:List UInt8) (k:ys.length=m) (hc:∀(j:Nat) (y:UInt8),ys[j]?=some y->w.cell? ⟨g,j,none⟩=some (Ai y)) (i:l.length+m<=1000000000) (hB:B<=w.heap.size)
  (h:∀d w',OwnB w' B d (l++ys)->Below B w w'->wpList prog ops Q rest (a.put o.dst d) w'):wpList prog ops Q (o :: rest) a w:=
 IZ e s x f B v l n b g m c hx ys k hc i hB (fun d w' h1 h2 _=>h d w' h1 h2)
theorem one_cell {w:World} {g:Nat} {y:UInt8} (h:w.cell? ⟨g,0,none⟩=some (Ai y)):∀(j:Nat) (z:UInt8),[y][j]?=some z->w.cell? ⟨g,j,none⟩=some (Ai z):=by
 intro j z a
 match j,a with
 | 0,a=>have:=aU a;subst this;exact h
theorem Fh (c:UInt8):∀(j:Nat) (y:UInt8),[c][j]?=some y->[Value.int IntKind.u8 (c.toNat:Int)][j]?=some (Ai y):=by
 intro j z a
 match j,a with
 | 0,a=>have:=aU a;subst this;rfl
theorem CX {w:World} {g:Nat} {b y1:UInt8} (h0:w.cell? ⟨g,0,none⟩=some (Ai b)) (h1:w.cell? ⟨g,1,none⟩=some (Ai y1)):∀(j:Nat) (z:UInt8),[b,y1][j]?=some z->w.cell? ⟨g,j,none⟩=some (Ai z):=by
 intro j z a
 match j,a with
 | 0,a=>have:=aU a;subst this;exact h0
 | 1,a=>have:=aU a;subst this;exact h1
theorem Dt {w:World} {g:Nat} {b y1 y2:UInt8} (h0:w.cell? ⟨g,0,none⟩=some (Ai b)) (h1:w.cell? ⟨g,1,none⟩=some (Ai y1)) (h2:w.cell? ⟨g,2,none⟩=some (Ai y2)):
  ∀(j:Nat) (z:UInt8),[b,y1,y2][j]?=some z->w.cell? ⟨g,j,none⟩=some (Ai z):=by
 intro j z a
 match j,a with
 | 0,a=>have:=aU a;subst this;exact h0
 | 1,a=>have:=aU a;subst this;exact h1
 | 2,a=>have:=aU a;subst this;exact h2
theorem OwnB.back {w:World} {B:Nat} {v:Value} {l:List UInt8} (h:OwnB w B v l):(convert 157 9 v).run prog w=.ok (.string ⟨l.toArray⟩) w:=by
 rcases h.2 with ⟨rfl,a⟩ | ⟨g,cap,cur,rfl,i,e,a,f,hsz,b⟩
 · have c:=aW a;subst c;rw [run_convert_bytes_string w _ _ 5 none 0 0 underlying157 underlying5 underlying9];rfl
 · refine run_convert_bytes_back w _ _ 5 ⟨g,0,none⟩ cap l underlying157 underlying5 underlying9 fun j d=>?_;exact World.ownsRow.cells h (g:=g) rfl j (Ai l[j]) (by simp [d])
end
section
open Go.RowKit
theorem JZ {w:World} {B:Nat} {v:Value} {n:Nat} {xs:List Value} (ty:TypeId) (a:w.ownsRow B 9 1 v n xs) (c:Nat):(Builtin.append_ #[23,23] ty #[v,.slice none 0 c]).run prog w=.ok v w:=by
 obtain ⟨i0,d,e,h,f⟩:=info_parts Hq;have hu:=run_underlying underlying23;rcases a.2 with ⟨rfl,rfl⟩ | ⟨g,cap,cur,rfl,_,_,b,_⟩
 · simp [Builtin.append_,hu,sizeOf,typeInfo,d,Builtin.lenOf,Builtin.firstCells]
 · simp [Builtin.append_,hu,sizeOf,typeInfo,d,Builtin.lenOf,Builtin.firstCells,b,storeCells]
theorem RF {w:World} {ops:Array Oper} {rest:List Oper} {o:Oper} {a:Act} {Q:Exit->Act->World->Prop} (i:o.guard=none) (s x:Operand)
  (C:o.op=.call { callee:=.builtin .append,args:=#[s,x],argTypes:=#[23,23] })
  (B:Nat) (v:Value) (xs:List (List UInt8)) (E:a.eval s=v) (b:Own w B v xs) (u:Value) (ys:List (List UInt8)) (hx:a.eval x=u) (n:Ah w u ys)
  (L:xs.length+ys.length<=1000000000) (hB:B<=w.heap.size)
  (h:∀m w',Own w' B m (xs++ys)->Below B w w'->wpList prog ops Q rest (a.put o.dst m) w'):wpList prog ops Q (o :: rest) a w:=by
 obtain ⟨A,c,rfl,hc,d⟩:=n;obtain ⟨i0,J,r,z,p⟩:=info_parts Hq;cases A with
 | none=>
  rcases d with rfl | ⟨g,o,e,_⟩
  · refine wpList_plain i fun K G=>?_;have l:=JZ o.type b c;unfold Oper.wp;simp [execOp,C,resolve,invoke,builtin,E,hx,l,Result.andThen];exact G _ _ (h v w (by rw [bJ];exact b) (Below.refl B w))
  · cases e
 | some F=>
  refine wpList_append_own w i s x _ C B 9 i0 (.string ⟨#[]⟩) 1 16 underlying23 J r z p rfl (by decide) v xs.length (xs.map Ac) E b F ys.length c (ys.map Ac) hx (by simp)
   (fun j y q=>?_) (fun y H=>?_) (by unfold maxLen;omega) (by omega) hB (fun m w' h1 h2 _=>h m w' ?_ ?_)
  · rcases d with rfl | ⟨g,o,e,M,hcell⟩
    · simp at q
    · cases e;rw [bZ] at q;obtain ⟨t,I,rfl⟩:=bH.1 q;have f:(⟨g,o,Option.none⟩:Addr).add j=⟨g,o+j,Option.none⟩:=by unfold Addr.add;split <;> simp_all
      rw [f];exact hcell j t I
  · obtain ⟨t,_,rfl⟩:=bD.1 H;rfl
  · unfold Own;rw [bP,aT];exact h1
  · exact (Below.refl B w).grown h2 hB (fun k hk=>(World.ownsRow.lt b k hk).1)
theorem Ah.drop {w:World} {a:Option Addr} {n c:Nat} {xs:List (List UInt8)} (h:Ah w (.slice a n c) xs) {k:Nat} (hk:k<=n) (d:0<n):∃g o,a=some ⟨g,o,none⟩/\Ah w (.slice (some ⟨g,o+k,none⟩) (n - k) (c - k)) (xs.drop k):=by
 obtain ⟨m,l,e,hc,b⟩:=h;cases e;rcases b with rfl | ⟨g,o,rfl,i,hcell⟩
 · simp at d
 · refine ⟨g,o,rfl,some ⟨g,o+k,none⟩,c - k,by rw [bI],by rw [bI];omega,.inr ⟨g,o+k,rfl,i,fun j y f=>?_⟩⟩;rw [eA] at f;rw [cN];exact hcell _ y f
theorem Ah.take {w:World} {a:Option Addr} {n c:Nat} {xs:List (List UInt8)} (h:Ah w (.slice a n c) xs) {k:Nat} (hk:k<=n):Ah w (.slice a k c) (xs.take k):=by
 obtain ⟨m,l,e,hc,b⟩:=h;cases e;have f:(xs.take k).length=k:=by rw [au];omega
 refine ⟨a,c,by rw [f],by rw [f];omega,?_⟩;rcases b with rfl | ⟨g,o,rfl,i,hcell⟩
 · exact .inl (by simp)
 · refine .inr ⟨g,o,rfl,i,fun j y d=>?_⟩;rw [gY] at d;split at d
   · exact hcell j y d
   · cases d
theorem Ah.nil (w:World) (a:Option Addr) (c:Nat):Ah w (.slice a 0 c) []:=⟨a,c,rfl,aR _,.inl rfl⟩
theorem Ah.form {w:World} {v:Value} {xs:List (List UInt8)} (h:Ah w v xs):∃a c,v=.slice a xs.length c:=by obtain ⟨a,c,e,_⟩:=h;exact ⟨a,c,e⟩
end
end Go.Proofs.YtgngjfjaelgaeaaGreatDoor
