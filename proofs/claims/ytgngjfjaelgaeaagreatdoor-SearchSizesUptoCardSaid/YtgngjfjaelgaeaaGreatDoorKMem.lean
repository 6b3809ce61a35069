/- Small facts on memory, of no program: a block known whole; a world that differs from another one in new blocks alone. Conditions: as stated. -/
import Derived.WalkSpells
import Derived.WalkLawsBesides
import Derived.Handy
import Derived.BigQuiet
import Derived.Laws.AppendOwnNone
import Derived.Test.YtgngjfjaelgaeaaGreatDoorKShelf
import Derived.Test.YtgngjfjaelgaeaaGreatDoorKPhS
namespace Go.Proofs.YtgngjfjaelgaeaaGreatDoor
theorem hZ9 {p:Prop} (h:p):Go.RowKit.Hid p:=h
section
open Go.RowKit
theorem cell_lt {w:World} {a:Addr} {v:Value} (h:w.cell? a=some v):a.block<w.heap.size:=by
 rcases Nat.lt_or_ge a.block w.heap.size with A1 | A0
 · exact A1
 · unfold World.cell? at h
   rw [Array.getElem?_eq_none A0] at h
   cases h
theorem Ds {B:Nat} {w w':World} (hb:Below B w w') (hB:w.heap.size<=B) {a:Addr} {v:Value} (h:w.cell? a=some v):w'.cell? a=some v:=by
 rw [hb.cell (Nat.lt_of_lt_of_le (cell_lt h) hB)];exact h
theorem Aa {a b c:World} (h:Below a.heap.size a b) (k:Below b.heap.size b c):Below a.heap.size a c:=h.trans (k.mono h.size)
theorem BQ {a b:World} (h:Below a.heap.size a b) (o:Obj):Below a.heap.size a (b.alloc o):=h.alloc h.size o
theorem Af (w:World) (o:Obj):Below w.heap.size w (w.alloc o):=(Below.refl _ _).alloc (Nat.le_refl _) o
theorem Ab {w w':World} {a:Addr} {v:Value} (h:w.cell? a=some v) (hb:Below w.heap.size w w'):w'.cell? a=some v:=Ds hb (Nat.le_refl _) h
theorem below_drewN (w:World) (k:Nat):Below w.heap.size w (w.drewN k):=⟨rfl,rfl,rfl,Nat.le_refl _,fun _ _=>rfl⟩
def Whole (w:World) (g:Nat) (t:TypeId) (cs:Array Value):Prop:=w.heap[g]?=some (.cells cs t (0,0))
theorem Whole.lt {w:World} {g:Nat} {t:TypeId} {cs:Array Value} (h:Whole w g t cs):g<w.heap.size:=by
 unfold Whole at h
 exact (Array.getElem?_eq_some_iff.1 h).1
theorem Whole.cell {w:World} {g:Nat} {t:TypeId} {cs:Array Value} (h:Whole w g t cs) (i:Nat):w.cell? ⟨g,i,none⟩=cs[i]?:=by
 unfold Whole at h
 unfold World.cell?
 simp only [h]
 rfl
theorem Whole.thaw {w:World} {g:Nat} {t:TypeId} {cs:Array Value} (h:Whole w g t cs) (i:Nat):w.frozen? ⟨g,i,none⟩=false:=by
 unfold Whole at h
 simp [World.frozen?,h]
theorem Whole.made (w:World) (t:TypeId) (cs:Array Value):Whole (w.alloc (.cells cs t)) w.heap.size t cs:=by
 show (w.heap.push _)[w.heap.size]?=_
 rw [Array.getElem?_push_size]
theorem Whole.drew {w:World} {g:Nat} {t:TypeId} {cs:Array Value} (h:Whole w g t cs):Whole w.drew g t cs:=h
theorem Whole.drewN {w:World} {g:Nat} {t:TypeId} {cs:Array Value} (h:Whole w g t cs) (k:Nat):Whole (w.drewN k) g t cs:=h
theorem Whole.below {B:Nat} {w w':World} {g:Nat} {t:TypeId} {cs:Array Value} (h:Whole w g t cs) (hb:Below B w w') (hg:g<B):Whole w' g t cs:=(hb.block g hg).trans h
theorem Whole.alloc {w:World} {g:Nat} {t:TypeId} {cs:Array Value} (h:Whole w g t cs) (o:Obj):Whole (w.alloc o) g t cs:=h.below ((Below.refl w.heap.size w).alloc (Nat.le_refl _) o) h.lt
theorem Whole.call {w w':World} {g:Nat} {t:TypeId} {cs:Array Value} (h:Whole w g t cs) (hb:Below w.heap.size w w'):Whole w' g t cs:=h.below hb h.lt
theorem Whole.put {w:World} {g:Nat} {t:TypeId} {cs:Array Value} (h:Whole w g t cs) (i:Nat) (v:Value):Whole (w.setCell ⟨g,i,none⟩ v) g t (cs.setIfInBounds i v):=by
 unfold Whole at h⊢
 simp [World.setCell,Array.getElem?_modify,h]
theorem Whole.other {w:World} {g:Nat} {t:TypeId} {cs:Array Value} (h:Whole w g t cs) {p:Addr} (hp:g≠p.block) (v:Value):Whole (w.setCell p v) g t cs:=
 (Below.heap_setCell w p v g hp).trans h
def KA (w:World) (e:Ending) (w':World):Prop:=e=.returned (.bool true)/\Below w.heap.size w w'
end
section
open Go.RowKit
def BytesIn (w:World) (b:Nat) (l:List UInt8):Prop:=
 b<w.heap.size/\∀(j:Nat) (h:j<l.length),w.cell? ⟨b,j,none⟩=some (.int .u8 (l[j].toNat:Int))/\w.frozen? ⟨b,j,none⟩=false
theorem BytesIn.cell {w:World} {b:Nat} {l:List UInt8} (h:BytesIn w b l) {j:Nat} (hj:j<l.length):w.cell? ⟨b,j,none⟩=some (.int .u8 (l[j].toNat:Int)):=(h.2 j hj).1
theorem BytesIn.thaw {w:World} {b:Nat} {l:List UInt8} (h:BytesIn w b l) {j:Nat} (hj:j<l.length):w.frozen? ⟨b,j,none⟩=false:=(h.2 j hj).2
theorem BytesIn.call {w w':World} {b:Nat} {l:List UInt8} (h:BytesIn w b l) (hb:Below w.heap.size w w'):BytesIn w' b l:=
 ⟨Nat.lt_of_lt_of_le h.1 hb.size,fun j hj=>⟨(hb.cell (p:=⟨b,j,none⟩) h.1).trans (h.cell hj),(hb.frozen (p:=⟨b,j,none⟩) h.1).trans (h.thaw hj)⟩⟩
theorem BytesIn.drew {w:World} {b:Nat} {l:List UInt8} (h:BytesIn w b l):BytesIn w.drew b l:=h
theorem BytesIn.drewN {w:World} {b:Nat} {l:List UInt8} (h:BytesIn w b l) (k:Nat):BytesIn (w.drewN k) b l:=h
theorem BytesIn.alloc {w:World} {b:Nat} {l:List UInt8} (h:BytesIn w b l) (o:Obj):BytesIn (w.alloc o) b l:=h.call ((Below.refl _ _).alloc (Nat.le_refl _) o)
theorem BytesIn.put {w:World} {b:Nat} {l:List UInt8} (h:BytesIn w b l) (i:Nat) (c:UInt8):BytesIn (w.setCell ⟨b,i,none⟩ (.int .u8 (c.toNat:Int))) b (l.set i c):=by
 refine ⟨by simpa [World.setCell] using h.1,fun j hj=>?_⟩
 have A0:j<l.length:=by simpa using hj
 have h1:=h.cell A0
 have h2:=h.thaw A0
 refine ⟨?_,by rw [World.frozen?_setCell];exact h2⟩
 by_cases he:i=j
 · subst he
   simp only [List.getElem_set_self]
   exact World.cell?_setCell_same _ _ _ h1
 · rw [List.getElem_set_ne he]
   rw [World.cell?_setCell_other _ _ _ _ (by intro e;injection e with e1 e2;exact he e2)]
   exact h1
theorem BytesIn.conv (w:World) (e:TypeId) (s:ByteArray):BytesIn (Lib.bytesWorld w e s) w.heap.size s.data.toList:=by
 refine ⟨by rw [Lib.bytesWorld_size];omega,fun j hj=>?_⟩
 have A0:j<s.size:=by simpa using hj
 refine ⟨?_,?_⟩
 · rw [Lib.bytesWorld_cell w e s j A0]
   simp [List.getD,A0]
 · have hs:j<(Lib.bytesCells w e s).size:=by unfold Lib.bytesCells;simp;omega
   simp [World.frozen?,Lib.bytesWorld_at_new]
   omega
theorem BytesIn.back {P:Program} {w:World} {b:Nat} {l:List UInt8} (h:BytesIn w b l) (src dst e:TypeId) (n cap:Nat) (hn:l.length=n) (hs:P.underlying src=some (.slice e)) (he:P.underlying e=some (.int .u8)) (hd:P.underlying dst=some .string):
  (convert src dst (.slice (some ⟨b,0,none⟩) n cap)).run P w=.ok (.string ⟨l.toArray⟩) w:=by
 subst hn
 refine run_convert_bytes_back w src dst e ⟨b,0,none⟩ cap l hs he hd fun j hj=>?_
 have A0:(⟨b,0,none⟩:Addr).add j=⟨b,j,none⟩:=by unfold Addr.add;split <;> simp_all
 rw [A0]
 exact h.cell hj
end
section
open Go.RowKit
structure Env (w:World):Prop where
 maxLen:∃m,w.cell? ⟨0,0,none⟩=some (.int .i64 m)
 pow:Lib.TabIs Tryz.prog w "internal/strconv.uint64pow10" .u64 Lib.pow10Tab
 syn:∃tp p,w.cell? ⟨1,0,none⟩=some (.iface tp p)
 rng:∃tp p,w.cell? ⟨2,0,none⟩=some (.iface tp p)
 utf:Lib.Utf8Tabs 6 7 w
theorem var_below {w w':World} {n:String} {cs:Array Value} (hb:Below w.heap.size w w') (h:w.var? Tryz.prog n=some cs):w'.var? Tryz.prog n=some cs:=by
 unfold World.var? at h⊢
 cases hg:Tryz.prog.globalNamed n with
 | none=>rw [hg] at h;cases h
 | some g=>
  rw [hg] at h
  have A0:g<w.heap.size:=by
   rcases Nat.lt_or_ge g w.heap.size with h' | h'
   · exact h'
   · simp [Array.getElem?_eq_none h'] at h
  simp only [Option.bind_some] at h⊢
  rw [hb.block g A0]
  exact h
theorem Env.below {w w':World} (h:Env w) (hb:Below w.heap.size w w'):Env w' where
 maxLen:=by obtain ⟨m,hm⟩:=h.maxLen;exact ⟨m,Ds hb (Nat.le_refl _) hm⟩
 pow:=var_below hb h.pow
 syn:=by obtain ⟨m,p,hm⟩:=h.syn;exact ⟨m,p,Ds hb (Nat.le_refl _) hm⟩
 rng:=by obtain ⟨m,p,hm⟩:=h.rng;exact ⟨m,p,Ds hb (Nat.le_refl _) hm⟩
 utf:=⟨fun c hc=>Ds hb (Nat.le_refl _) (h.utf.1 c hc),fun i hi=>⟨Ds hb (Nat.le_refl _) (h.utf.2 i hi).1,Ds hb (Nat.le_refl _) (h.utf.2 i hi).2⟩⟩
theorem Env.alloc {w:World} (h:Env w) (o:Obj):Env (w.alloc o):=h.below ((Below.refl _ _).alloc (Nat.le_refl _) o)
theorem Env.drew {w:World} (h:Env w):Env w.drew:=h.below (Below.refl _ _).drew
theorem below_grow (w:World) (os:Array Obj):Below w.heap.size w (Sort.grow w os):=by
 refine ⟨rfl,rfl,rfl,?_,fun k hk=>?_⟩
 · show w.heap.size<=(w.heap++os).size
   simp
 · show (w.heap++os)[k]?=_
   rw [Array.getElem?_append_left hk]
theorem JF (n:Int) (h0:-9223372036854775808<=n) (h1:n<=9223372036854775807) (w:World) (hE:Env w):
  Calls Tryz.prog 184 #[.int .i64 n,.int .i64 10] w fun e w'=>e=.returned (.string ⟨(Lib.itoa n).toArray⟩)/\Below w.heap.size w w':=
 (Tryz.strconv_FormatInt_10 n h0 h1 w hE.pow).mono fun e w' ⟨he,k,os,hw⟩=>⟨he,by rw [hw];exact Aa (below_drewN w k) (below_grow _ _)⟩
theorem Si (s:ByteArray) (hs:s.size<=281474976710656) (h:(PhS.readS s.data.toList).2=true) (w:World):
  Calls Tryz.prog 183 #[.string s,.int .i64 10,.int .i64 32] w fun e w'=>e=.returned (.tuple #[.int .i64 (PhS.readS s.data.toList).1,.nilIface])/\Below w.heap.size w w':=by
 unfold PhS.readS at h⊢
 cases hr:Lib.parseIntB 32 s.data.toList with
 | ok v=>
  refine (Tryz.strconv_ParseInt_10_at32_ok s (by omega) v hr w).mono ?_
  rintro e w' ⟨he,hw⟩
  refine ⟨he,?_⟩
  rcases hw with rfl | ⟨t,rfl⟩
  · exact Below.refl _ _
  · exact Lib.bytesWorld_below _ _ _
 | _=>rw [hr] at h;cases h
theorem Sj (s:ByteArray) (hs:s.size<=281474976710656) (h:(PhS.readS s.data.toList).2=false) (w:World) (hE:Env w):
  Calls Tryz.prog 183 #[.string s,.int .i64 10,.int .i64 32] w fun e w'=>∃N,e=.returned (.tuple #[.int .i64 (PhS.readS s.data.toList).1,.iface 255 (.pointer (some ⟨N,0,none⟩))])/\Below w.heap.size w w':=by
 unfold PhS.readS at h⊢
 obtain ⟨tp,p,A1⟩:=hE.syn
 obtain ⟨A2,p',A0⟩:=hE.rng
 cases hr:Lib.parseIntB 32 s.data.toList with
 | ok v=>rw [hr] at h;cases h
 | range=>
  refine (Any.strconv_ParseInt_10_at32_range Tryz.laysC174 s hs hr (.iface A2 p') w A0 (Or.inr ⟨_,_,rfl⟩)).mono ?_
  rintro e w' ⟨N,he,_,_,hb⟩
  exact ⟨N,he,hb⟩
 | _=>
  refine (Any.strconv_ParseInt_10_at32_syntax Tryz.laysC174 s hs hr (.iface tp p) w A1 (Or.inr ⟨_,_,rfl⟩)).mono ?_
  rintro e w' ⟨N,he,_,_,hb⟩
  exact ⟨N,he,hb⟩
end
section
open Go.RowKit
def Ac (l:List UInt8):Value:=.string ⟨l.toArray⟩
def Ai (w:World) (v:Value) (xs:List (List UInt8)):Prop:=
 ∃a c,v=.slice a xs.length c/\xs.length<=c/\(xs=[]\/∃g o,a=some ⟨g,o,none⟩/\g<w.heap.size/\∀(j:Nat) (y:List UInt8),xs[j]?=some y->w.cell? ⟨g,o+j,none⟩=some (Ac y))
theorem Ai.call {w w':World} {v:Value} {xs:List (List UInt8)} (h:Ai w v xs) {B:Nat} (hb:Below B w w') (hB:w.heap.size<=B):Ai w' v xs:=by
 obtain ⟨a,c,rfl,hc,h⟩:=h
 refine ⟨a,c,rfl,hc,?_⟩
 rcases h with h | ⟨g,o,rfl,hg,h⟩
 · exact .inl h
 · exact .inr ⟨g,o,rfl,Nat.lt_of_lt_of_le hg hb.size,fun j y hj=>(hb.cell (p:=⟨g,o+j,none⟩) (Nat.lt_of_lt_of_le hg hB)).trans (h j y hj)⟩
theorem Ai.empty (w:World):Ai w (.slice none 0 0) []:=⟨Option.none,0,rfl,Nat.le_refl _,.inl rfl⟩
def Own (w:World) (B:Nat) (v:Value) (xs:List (List UInt8)):Prop:=w.ownsRow B 9 1 v xs.length (xs.map Ac)
theorem Own.empty (w:World) (B:Nat):Own w B (.slice none 0 0) []:=World.ownsRow_nil w B _ 1
theorem Own.form {w:World} {B:Nat} {v:Value} {xs:List (List UInt8)} (h:Own w B v xs):∃a c,v=.slice a xs.length c:=by
 rcases h.2 with ⟨rfl,hn⟩ | ⟨g,cap,cur,rfl,_⟩
 · exact ⟨_,_,by rw [hn]⟩
 · exact ⟨_,_,rfl⟩
theorem AX {w w':World} (hb:Below w.heap.size w w'):w.grownBy w' none:=⟨hb.os,hb.tape,hb.output,hb.size,fun k hk _=>hb.block k hk⟩
theorem Own.call {w w':World} {B:Nat} {v:Value} {xs:List (List UInt8)} (h:Own w B v xs) (hb:Below w.heap.size w w'):Own w' B v xs:=
 World.ownsRow.kept h (AX hb) (by cases v.ownBlock <;> simp)
theorem Own.alloc {w:World} {B:Nat} {v:Value} {xs:List (List UInt8)} (h:Own w B v xs) (o:Obj):Own (w.alloc o) B v xs:=World.ownsRow.alloc h o
theorem Own.mono {w:World} {B B':Nat} {v:Value} {xs:List (List UInt8)} (h:Own w B v xs) (hB:B'<=B):Own w B' v xs:=by
 refine ⟨h.1,?_⟩
 rcases h.2 with h | ⟨g,cap,cur,e,hg,rest⟩
 · exact .inl h
 · exact .inr ⟨g,cap,cur,e,Nat.le_trans hB hg,rest⟩
theorem Own.strs {w:World} {B:Nat} {v:Value} {xs:List (List UInt8)} (h:Own w B v xs):Ai w v xs:=by
 rcases h.2 with ⟨rfl,hn⟩ | ⟨g,cap,cur,rfl,hg,hh,hn,hm,hsz,A1⟩
 · exact ⟨Option.none,0,by rw [hn],by omega,.inl (List.eq_nil_of_length_eq_zero hn)⟩
 · refine ⟨some ⟨g,0,Option.none⟩,cap,rfl,hn,.inr ⟨g,0,rfl,(Array.getElem?_eq_some_iff.1 hh).1,fun j y hj=>?_⟩⟩
   have:=World.ownsRow.cells h (g:=g) rfl j (Ac y) (by rw [List.getElem?_map,hj];rfl)
   have A0:(⟨g,0,Option.none⟩:Addr).add j=⟨g,0+j,Option.none⟩:=by unfold Addr.add;split <;> simp_all
   rw [A0] at this
   exact this
theorem Ai.at {w:World} {g o:Nat} {xs:List (List UInt8)} (h:∀(j:Nat) (y:List UInt8),xs[j]?=some y->w.cell? ⟨g,o+j,Option.none⟩=some (Ac y)) {k:Nat} (hk:k<xs.length):w.cell? ⟨g,o+k,Option.none⟩=some (Ac xs[k]):=h k _ (List.getElem?_eq_getElem hk)
theorem GQ:(Tryz.prog.info? 9).map (fun i=>(i.zero,i.size,i.bytes))=some (some (.string ⟨#[]⟩),1,16):=by kernel_rfl
theorem GR {w:World} {ops:Array Oper} {rest:List Oper} {o:Oper} {a:Act} {Q:Exit->Act->World->Prop} (A4:o.guard=none) (s x:Operand)
  (ho:o.op=.call { callee:=.builtin .append,args:=#[s,x],argTypes:=#[23,23] })
  (B:Nat) (v:Value) (xs:List (List UInt8)) (hs:a.eval s=v) (A0:Own w B v xs) (g:Nat) (hx:a.eval x=.slice (some ⟨g,0,Option.none⟩) 1 1)
  (y:List UInt8) (hc:w.cell? ⟨g,0,Option.none⟩=some (Ac y)) (hn:xs.length<=1000000000) (hB:B<=w.heap.size)
  (h:∀v' w',Own w' B v' (xs++[y])->Below B w w'->wpList Tryz.prog ops Q rest (a.put o.dst v') w'):wpList Tryz.prog ops Q (o :: rest) a w:=by
 obtain ⟨i0,hi,A5,A3,A6⟩:=info_parts GQ
 refine wpList_append_own w A4 s x _ ho B 9 i0 (.string ⟨#[]⟩) 1 16 Tryz.underlying23 hi A5 A3 A6 rfl (by decide) v xs.length (xs.map Ac) hs A0 ⟨g,0,Option.none⟩ 1 1 [Ac y] hx rfl
  (fun j u hj=>?_) (fun u hu=>?_) (by unfold maxLen;omega) (by omega) hB (fun v' w' h1 h2 _=>h v' w' ?_ ?_)
 · have A2:j=0:=by
    rcases Nat.eq_zero_or_pos j with h | h
    · exact h
    · rw [List.getElem?_eq_none (by simp;omega)] at hj;cases hj
   subst A2
   have A1:(⟨g,0,Option.none⟩:Addr).add 0=⟨g,0,Option.none⟩:=by unfold Addr.add;split <;> simp_all
   rw [A1,hc]
   simpa using hj
 · rw [List.mem_singleton] at hu;subst hu;rfl
 · unfold Own
   rw [List.map_append,List.length_append]
   exact h1
 · exact (Below.refl B w).grown h2 hB (fun k hk=>(World.ownsRow.lt A0 k hk).1)
end
section
open Go.RowKit
def Ag (c:UInt8):Value:=.int .u8 (c.toNat:Int)
def OwnB (w:World) (B:Nat) (v:Value) (l:List UInt8):Prop:=w.ownsRow B 5 1 v l.length (l.map Ag)
theorem OwnB.empty (w:World) (B:Nat):OwnB w B (.slice none 0 0) []:=World.ownsRow_nil w B _ 1
theorem OwnB.form {w:World} {B:Nat} {v:Value} {l:List UInt8} (h:OwnB w B v l):∃a c,v=.slice a l.length c:=by
 rcases h.2 with ⟨rfl,hn⟩ | ⟨g,cap,cur,rfl,_⟩
 · exact ⟨_,_,by rw [hn]⟩
 · exact ⟨_,_,rfl⟩
theorem OwnB.call {w w':World} {B:Nat} {v:Value} {l:List UInt8} (h:OwnB w B v l) (hb:Below w.heap.size w w'):OwnB w' B v l:=
 World.ownsRow.kept h (AX hb) (by cases v.ownBlock <;> simp)
theorem OwnB.alloc {w:World} {B:Nat} {v:Value} {l:List UInt8} (h:OwnB w B v l) (o:Obj):OwnB (w.alloc o) B v l:=World.ownsRow.alloc h o
theorem OU:(Tryz.prog.info? 5).map (fun i=>(i.zero,i.size,i.bytes))=some (some (.int .u8 0),1,1):=by kernel_rfl
theorem ID {w:World} {ops:Array Oper} {rest:List Oper} {o:Oper} {a:Act} {Q:Exit->Act->World->Prop} (A3:o.guard=none) (s x:Operand)
  (ho:o.op=.call { callee:=.builtin .append,args:=#[s,x],argTypes:=#[157,157] })
  (B:Nat) (v:Value) (l:List UInt8) (hs:a.eval s=v) (A0:OwnB w B v l) (g m c:Nat) (hx:a.eval x=.slice (some ⟨g,0,none⟩) m c)
  (ys:List UInt8) (hm:ys.length=m) (hc:∀(j:Nat) (y:UInt8),ys[j]?=some y->w.cell? ⟨g,j,none⟩=some (Ag y)) (hn:l.length+m<=1000000000) (hB:B<=w.heap.size)
  (h:∀v' w',OwnB w' B v' (l++ys)->Below B w w'->w.grownBy w' v.ownBlock->wpList Tryz.prog ops Q rest (a.put o.dst v') w'):wpList Tryz.prog ops Q (o :: rest) a w:=by
 obtain ⟨i0,hi,A4,A2,A5⟩:=info_parts OU
 subst hm
 refine wpList_append_own w A3 s x _ ho B 5 i0 (.int .u8 0) 1 1 Tryz.underlying157 hi A4 A2 A5 rfl (by decide) v l.length (l.map Ag) hs A0 ⟨g,0,none⟩ ys.length c (ys.map Ag) hx (by simp)
  (fun j u hj=>?_) (fun u hu=>?_) (by unfold maxLen;omega) (by omega) hB (fun v' w' h1 h2 _=>h v' w' ?_ ?_ h2)
 · rw [List.getElem?_map] at hj
   cases hy:ys[j]? with
   | none=>rw [hy] at hj;cases hj
   | some y=>
    rw [hy] at hj
    have hj:=Option.some.inj hj
    subst hj
    have A1:(⟨g,0,none⟩:Addr).add j=⟨g,j,none⟩:=by unfold Addr.add;split <;> simp_all
    rw [A1]
    exact hc j y hy
 · obtain ⟨y,_,rfl⟩:=List.mem_map.1 hu;rfl
 · unfold OwnB
   rw [List.map_append,List.length_append]
   exact h1
 · exact (Below.refl B w).grown h2 hB (fun k hk=>(World.ownsRow.lt A0 k hk).1)
theorem DN {w:World} {ops:Array Oper} {rest:List Oper} {o:Oper} {a:Act} {Q:Exit->Act->World->Prop} (A1:o.guard=none) (s x:Operand)
  (ho:o.op=.call { callee:=.builtin .append,args:=#[s,x],argTypes:=#[157,157] })
  (B:Nat) (v:Value) (l:List UInt8) (hs:a.eval s=v) (A0:OwnB w B v l) (g m c:Nat) (hx:a.eval x=.slice (some ⟨g,0,none⟩) m c)
  (ys:List UInt8) (hm:ys.length=m) (hc:∀(j:Nat) (y:UInt8),ys[j]?=some y->w.cell? ⟨g,j,none⟩=some (Ag y)) (hn:l.length+m<=1000000000) (hB:B<=w.heap.size)
  (h:∀v' w',OwnB w' B v' (l++ys)->Below B w w'->wpList Tryz.prog ops Q rest (a.put o.dst v') w'):wpList Tryz.prog ops Q (o :: rest) a w:=
 ID A1 s x ho B v l hs A0 g m c hx ys hm hc hn hB (fun v' w' h1 h2 _=>h v' w' h1 h2)
theorem one_cell {w:World} {g:Nat} {y:UInt8} (h:w.cell? ⟨g,0,none⟩=some (Ag y)):∀(j:Nat) (z:UInt8),[y][j]?=some z->w.cell? ⟨g,j,none⟩=some (Ag z):=by
 intro j z hz
 match j,hz with
 | 0,hz=>have:=Option.some.inj hz;subst this;exact h
theorem EN (c:UInt8):∀(j:Nat) (y:UInt8),[c][j]?=some y->[Value.int IntKind.u8 (c.toNat:Int)][j]?=some (Ag y):=by
 intro j z hz
 match j,hz with
 | 0,hz=>have:=Option.some.inj hz;subst this;rfl
theorem CN {w:World} {g:Nat} {y0 y1:UInt8} (h0:w.cell? ⟨g,0,none⟩=some (Ag y0)) (h1:w.cell? ⟨g,1,none⟩=some (Ag y1)):∀(j:Nat) (z:UInt8),[y0,y1][j]?=some z->w.cell? ⟨g,j,none⟩=some (Ag z):=by
 intro j z hz
 match j,hz with
 | 0,hz=>have:=Option.some.inj hz;subst this;exact h0
 | 1,hz=>have:=Option.some.inj hz;subst this;exact h1
theorem Di {w:World} {g:Nat} {y0 y1 y2:UInt8} (h0:w.cell? ⟨g,0,none⟩=some (Ag y0)) (h1:w.cell? ⟨g,1,none⟩=some (Ag y1)) (h2:w.cell? ⟨g,2,none⟩=some (Ag y2)):
  ∀(j:Nat) (z:UInt8),[y0,y1,y2][j]?=some z->w.cell? ⟨g,j,none⟩=some (Ag z):=by
 intro j z hz
 match j,hz with
 | 0,hz=>have:=Option.some.inj hz;subst this;exact h0
 | 1,hz=>have:=Option.some.inj hz;subst this;exact h1
 | 2,hz=>have:=Option.some.inj hz;subst this;exact h2
theorem OwnB.back {w:World} {B:Nat} {v:Value} {l:List UInt8} (h:OwnB w B v l):(convert 157 9 v).run Tryz.prog w=.ok (.string ⟨l.toArray⟩) w:=by
 rcases h.2 with ⟨rfl,hn⟩ | ⟨g,cap,cur,rfl,hg,hh,hn,hm,hsz,A0⟩
 · have hl:=List.eq_nil_of_length_eq_zero hn
   subst hl
   rw [run_convert_bytes_string w _ _ 5 none 0 0 Tryz.underlying157 Tryz.underlying5 Tryz.underlying9]
   rfl
 · refine run_convert_bytes_back w _ _ 5 ⟨g,0,none⟩ cap l Tryz.underlying157 Tryz.underlying5 Tryz.underlying9 fun j hj=>?_
   exact World.ownsRow.cells h (g:=g) rfl j (Ag l[j]) (by simp [hj])
end
section
open Go.RowKit
theorem JG {w:World} {B:Nat} {v:Value} {n:Nat} {xs:List Value} (ty:TypeId) (A0:w.ownsRow B 9 1 v n xs) (c:Nat):(Builtin.append_ #[23,23] ty #[v,.slice none 0 c]).run Tryz.prog w=.ok v w:=by
 obtain ⟨i0,hi,A3,A2,A4⟩:=info_parts GQ
 have hu:=run_underlying Tryz.underlying23
 rcases A0.2 with ⟨rfl,rfl⟩ | ⟨g,cap,cur,rfl,_,_,A1,_⟩
 · simp [Builtin.append_,hu,sizeOf,typeInfo,hi,Builtin.lenOf,Builtin.firstCells]
 · simp [Builtin.append_,hu,sizeOf,typeInfo,hi,Builtin.lenOf,Builtin.firstCells,A1,storeCells]
theorem QV {w:World} {ops:Array Oper} {rest:List Oper} {o:Oper} {a:Act} {Q:Exit->Act->World->Prop} (A4:o.guard=none) (s x:Operand)
  (ho:o.op=.call { callee:=.builtin .append,args:=#[s,x],argTypes:=#[23,23] })
  (B:Nat) (v:Value) (xs:List (List UInt8)) (hs:a.eval s=v) (A0:Own w B v xs) (u:Value) (ys:List (List UInt8)) (hx:a.eval x=u) (A6:Ai w u ys)
  (hn:xs.length+ys.length<=1000000000) (hB:B<=w.heap.size)
  (h:∀v' w',Own w' B v' (xs++ys)->Below B w w'->wpList Tryz.prog ops Q rest (a.put o.dst v') w'):wpList Tryz.prog ops Q (o :: rest) a w:=by
 obtain ⟨A,c,rfl,hc,A1⟩:=A6
 obtain ⟨i0,hi,A7,A5,A8⟩:=info_parts GQ
 cases A with
 | none=>
  rcases A1 with rfl | ⟨g,o,e,_⟩
  · refine wpList_plain A4 fun K hK=>?_
    have A2:=JG o.type A0 c
    unfold Oper.wp
    simp [execOp,ho,resolve,invoke,builtin,hs,hx,A2,Result.andThen]
    exact hK _ _ (h v w (by rw [List.append_nil];exact A0) (Below.refl B w))
  · cases e
 | some ad=>
  refine wpList_append_own w A4 s x _ ho B 9 i0 (.string ⟨#[]⟩) 1 16 Tryz.underlying23 hi A7 A5 A8 rfl (by decide) v xs.length (xs.map Ac) hs A0 ad ys.length c (ys.map Ac) hx (by simp)
   (fun j y hj=>?_) (fun y hy=>?_) (by unfold maxLen;omega) (by omega) hB (fun v' w' h1 h2 _=>h v' w' ?_ ?_)
  · rcases A1 with rfl | ⟨g,o,e,hg,hcell⟩
    · simp at hj
    · cases e
      rw [List.getElem?_map] at hj
      obtain ⟨t,ht,rfl⟩:=Option.map_eq_some_iff.1 hj
      have A3:(⟨g,o,Option.none⟩:Addr).add j=⟨g,o+j,Option.none⟩:=by unfold Addr.add;split <;> simp_all
      rw [A3]
      exact hcell j t ht
  · obtain ⟨t,_,rfl⟩:=List.mem_map.1 hy
    rfl
  · unfold Own
    rw [List.map_append,List.length_append]
    exact h1
  · exact (Below.refl B w).grown h2 hB (fun k hk=>(World.ownsRow.lt A0 k hk).1)
theorem Ai.drop {w:World} {a:Option Addr} {n c:Nat} {xs:List (List UInt8)} (h:Ai w (.slice a n c) xs) {k:Nat} (hk:k<=n) (A1:0<n):∃g o,a=some ⟨g,o,none⟩/\Ai w (.slice (some ⟨g,o+k,none⟩) (n - k) (c - k)) (xs.drop k):=by
 obtain ⟨a',c',e,hc,A0⟩:=h
 cases e
 rcases A0 with rfl | ⟨g,o,rfl,hg,hcell⟩
 · simp at A1
 · refine ⟨g,o,rfl,some ⟨g,o+k,none⟩,c - k,by rw [List.length_drop],by rw [List.length_drop];omega,.inr ⟨g,o+k,rfl,hg,fun j y hj=>?_⟩⟩
   rw [List.getElem?_drop] at hj
   rw [Nat.add_assoc]
   exact hcell _ y hj
theorem Ai.take {w:World} {a:Option Addr} {n c:Nat} {xs:List (List UInt8)} (h:Ai w (.slice a n c) xs) {k:Nat} (hk:k<=n):Ai w (.slice a k c) (xs.take k):=by
 obtain ⟨a',c',e,hc,A0⟩:=h
 cases e
 have hl:(xs.take k).length=k:=by rw [List.length_take];omega
 refine ⟨a,c,by rw [hl],by rw [hl];omega,?_⟩
 rcases A0 with rfl | ⟨g,o,rfl,hg,hcell⟩
 · exact .inl (by simp)
 · refine .inr ⟨g,o,rfl,hg,fun j y hj=>?_⟩
   rw [List.getElem?_take] at hj
   split at hj
   · exact hcell j y hj
   · cases hj
theorem Ai.nil (w:World) (a:Option Addr) (c:Nat):Ai w (.slice a 0 c) []:=⟨a,c,rfl,Nat.zero_le _,.inl rfl⟩
theorem Ai.form {w:World} {v:Value} {xs:List (List UInt8)} (h:Ai w v xs):∃a c,v=.slice a xs.length c:=by
 obtain ⟨a,c,e,_⟩:=h
 exact ⟨a,c,e⟩
end
end Go.Proofs.YtgngjfjaelgaeaaGreatDoor
