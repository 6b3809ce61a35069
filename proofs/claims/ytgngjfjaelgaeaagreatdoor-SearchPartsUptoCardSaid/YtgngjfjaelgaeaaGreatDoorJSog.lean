/- Entries, and attributes, that come in, opened: each is of the row's bulk at most. Conditions: as stated. -/
import Derived.Lib.SmallJoins
import Derived.Test.YtgngjfjaelgaeaaGreatDoorJRwa
set_option maxRecDepth 100000
set_option maxHeartbeats 4000000
namespace Go.Proofs.YtgngjfjaelgaeaaGreatDoor
open Go.Proofs.Tryz
section
open Go.ChangeShapes Go.WideShapes Go.ChangeAt Go.RowKit Go.Deep Go.Joins
section
variable {H:Type} {enc:TypeId × Value->H}
theorem Ib {d:DataW H}:∀{l:List (DataW H)},d ∈ l->Rows.uptoBulk d<=Rows.uptoBulkAll l
 | [],h=>by cases h
 | x :: r,h=>by
  unfold Rows.uptoBulkAll;rcases ay.1 h with rfl | h
  · omega
  · have:=Ib h;omega
theorem Jk (d:DataW H):1<=Rows.uptoBulk d:=by unfold Rows.uptoBulk;split <;> omega
theorem WA:∀(l:List (DataW H)),l.length<=Rows.uptoBulkAll l
 | []=>aR _
 | x :: r=>by unfold Rows.uptoBulkAll;have h1:=Jk x;have h2:=WA r;rw [aO];omega
theorem Aam (A B:List (DataW H)):Rows.uptoBulkAll A<=Rows.uptoBulk (.slice A B):=by unfold Rows.uptoBulk;omega
theorem OY (A:List (DataW H)):Rows.uptoBulkAll A<=Rows.uptoBulk (.agg A):=by unfold Rows.uptoBulk;omega
theorem Lx {l:List UInt8} {N:Nat} (h:Rows.uptoBulk (.lit (.string l):DataW H)<=N):l.length<=N:=by unfold Rows.uptoBulk at h;omega
theorem Ep (s:ByteArray):(Value.string s)=Ac s.data.toList:=by cases s;simp [Ac]
theorem add_add (g o i j:Nat):((⟨g,o,none⟩:Addr).add i).add j=⟨g,o+i+j,none⟩:=by unfold Addr.add;split <;> split <;> simp_all
theorem WB {α:Type} {m:α->Nat} {S:Nat->α} {D:Nat->DataW H}:∀l:List Nat,(∀i ∈ l,m (S i)<=Rows.uptoBulk (D i))->EnS.AC m (l.map S)<=Rows.uptoBulkAll (l.map D)
 | [],_=>aR _
 | i :: l,h=>by
  show m (S i)+EnS.AC m (l.map S)<=Rows.uptoBulkAll (D i :: l.map D)
  unfold Rows.uptoBulkAll;have h1:=h i (ai ..);have h2:=WB (m:=m) (S:=S) (D:=D) l (fun j a=>h j (ar _ a));omega
theorem XB (A B:List (DataW H)):Rows.uptoBulkAll A+1<=Rows.uptoBulk (.slice A B):=by unfold Rows.uptoBulk;omega
theorem JV {α:Type} {w:World} {base:Nat} {held:Bool} {sp:Nat->Bool} {t e:TypeId} {k fuel:Nat} {v:Value} {d:DataW H} {ps:List MemPlace} {N:Nat}
  (P:prog.underlying t=some (.slice e)) (hk:prog.cellsOf e=k) (r:0<k) (El:World->Nat->Nat->α->Prop) (G:α->Prop) (m:α->Nat)
  (R:DataW.trod enc prog w base sp held fuel t [v]=some (d,ps)) (hb:Rows.uptoBulk d<=N)
  (each:∀(g o:Nat) (cs:List Value) (E:Nat) (D:DataW H) (Pl:List MemPlace),(∀j,j<k->w.cell? ⟨g,o+j,none⟩=cs[j]?)->cs.length=k->DataW.trod enc prog w base sp held E e cs=some (D,Pl)->Rows.uptoBulk D<=N->∃x,El w g o x/\G x/\m x<=Rows.uptoBulk D):
  ∃xs:List α,Ad k El (fun _=>True) w v xs/\xs.length<=N/\(∀x ∈ xs,G x)/\EnS.AC m xs+1<=Rows.uptoBulk d:=by
 rcases open_slice P R with ⟨h0,O⟩ | ⟨a,n,c,J,E,D,Pl,z,Q,L,K,V,hx,h⟩
 · simp only [bw,dY] at h0;subst h0;exact ⟨[],Ad.nil _ _,aR _,(fun x hx=>(by cases hx)),Jk d⟩
 simp only [bw,dY] at z;subst z;have l:=congrArg Prod.fst hx;simp only at l;rw [l] at hb;have F:=aY (Aam _ _) hb;have T:n<=J:=by rw [V];split <;> omega
 rw [hk] at h;obtain ⟨g,o,s⟩:=a;rcases bT n with h0 | u
 · subst h0;exact ⟨[],Ad.nil _ _,aR _,(fun x hx=>(by cases hx)),Jk d⟩
 have M:s=none:=by
  obtain ⟨cs,h1,h2⟩:=h 0 (by omega);obtain ⟨_,hlen,hc⟩:=World.cells?_some h1;have c0:=hc 0 r;rw [cO] at c0;have p:0<cs.length:=by omega
  rw [aJ p] at c0;have U:((⟨g,o,s⟩:Addr).add 0).add 0=⟨g,o,s⟩:=by unfold Addr.add;simp
  rw [U] at c0;exact cell_spot c0
 subst M;have b:∀i,i<n->∃x:α,El w g (o+i*k) x/\G x/\m x<=Rows.uptoBulk (D i):=fun i A=>by
  obtain ⟨cs,h1,h2⟩:=h i (by omega);obtain ⟨_,hlen,hc⟩:=World.cells?_some h1;refine each g (o+i*k) cs E (D i) (Pl i) (fun j f=>?_) hlen h2 ?_
  · have:=hc j f;rw [add_add] at this;exact this
  · exact aY (Ib (bD.2 ⟨i,dQ.2 A,rfl⟩)) F
 have hlen2:n<=N:=by have:=WA ((List.range n).map D);rw [b7,fJ] at this;omega
 have I:g<w.heap.size:=by
  obtain ⟨cs,h1,h2⟩:=h 0 (by omega);obtain ⟨_,hlen,hc⟩:=World.cells?_some h1;have c0:=hc 0 r;have p:0<cs.length:=by omega
  rw [aJ p,add_add] at c0;exact cell_lt c0
 haveI:Inhabited α:=⟨(b 0 u).choose⟩
 obtain ⟨S,hS⟩:=choose_lt b;refine ⟨(List.range n).map S,⟨some ⟨g,o,none⟩,c,by simp,by simp;omega,.inr ⟨g,o,rfl,I,trivial,fun j q f=>?_⟩⟩,by simpa using hlen2,fun q B=>?_,?_⟩
 · rw [bZ] at f;cases C:(List.range n)[j]? with
   | none=>rw [C] at f;cases f
   | some x=>rw [C] at f;have y:=(aj.1 C).1;have B:=(aj.1 C).2;rw [eF] at B;simp only [fJ] at y;have f:=aU f;subst B;subst f;exact (hS j y).1
 · obtain ⟨i,A,rfl⟩:=bD.1 B;exact (hS i (dQ.1 A)).2.1
 · have h1:=WB (m:=m) (S:=S) (D:=D) (List.range n) (fun i A=>(hS i (dQ.1 A)).2.2);have h2:=XB ((List.range n).map D) ((List.range (J - n)).map fun j=>D (n+j));rw [l];omega
theorem open_strs {w:World} {base:Nat} {held:Bool} {sp:Nat->Bool} {fuel:Nat} {v:Value} {d:DataW H} {ps:List MemPlace} {N:Nat}
  (b:DataW.trod enc prog w base sp held fuel 23 [v]=some (d,ps)) (hb:Rows.uptoBulk d<=N):
  ∃xs:List (List UInt8),Aj (fun _=>True) w v xs/\xs.length<=N/\(∀x ∈ xs,x.length<=N)/\EnS.AC (fun v=>1+EnS.cV v) xs+1<=Rows.uptoBulk d:=by
 refine JV underlying23 (by kernel_rfl) (by decide) TZ (fun x=>x.length<=N) (fun v=>1+EnS.cV v) b hb (fun g o cs f D Pl hc hlen c a=>?_)
 match cs,hlen with
 | [x],_=>
  obtain ⟨s,e,k,_⟩:=DataW.trod_string underlying9 c;simp only [bw,dY] at e;have c0:=hc 0 (by decide);simp only [Nat.add_zero,aH] at c0;subst e;rw [Ep] at c0;have k1:D=.lit (.string s.data.toList):=by first | exact k | exact congrArg Prod.fst k | simpa using k
  rw [k1] at a⊢;refine ⟨s.data.toList,c0,Lx a,?_⟩;unfold Rows.uptoBulk EnS.cV;have:=Nat.div_le_self s.data.toList.length 100;omega
def WC (N:Nat) (x:EnS.At):Prop:=x.typ.length<=N/\x.vals.length<=N/\∀v ∈ x.vals,v.length<=N
def Aan (N:Nat) (e:EnS.En):Prop:=e.name.length<=N/\e.attrs.length<=N/\∀x ∈ e.attrs,WC N x
theorem WE {w:World} {base:Nat} {held:Bool} {sp:Nat->Bool} {fuel:Nat} {v:Value} {d:DataW H} {ps:List MemPlace} {N:Nat}
  (m:DataW.trod enc prog w base sp held fuel 50 [v]=some (d,ps)) (hb:Rows.uptoBulk d<=N):
  ∃xs:List EnS.At,Cj w v xs/\xs.length<=N/\(∀x ∈ xs,WC N x)/\EnS.AC EnS.cA xs+1<=Rows.uptoBulk d:=by
 have f:prog.cellsOf 9=1:=by kernel_rfl
 have c:prog.cellsOf 23=1:=by kernel_rfl
 refine JV underlying50 (by kernel_rfl) (by decide) (BH (fun _=>True)) (WC N) EnS.cA m hb (fun g o cs p D Pl hc hlen l j=>?_)
 match cs,hlen with
 | [x,y],_=>
  obtain ⟨h,y1,n,e,_,t0,i⟩:=trod_struct2 underlying56 l;simp only [f,c,bQ,List.take_succ_cons,List.take_zero,bU] at t0 i;have b:=congrArg Prod.fst e;simp only at b;rw [b] at j;have a:=aY (OY _) j;obtain ⟨s,es,k,_⟩:=DataW.trod_string underlying9 t0;simp only [bw,dY] at es;subst es;obtain ⟨xs,h1,h2,h3,h5⟩:=open_strs (N:=N) (d:=y1.1) (ps:=y1.2) i (aY (Ib (by simp)) a);have c0:=hc 0 (by decide);have c1:=hc 1 (by decide);simp only [Nat.add_zero,aH,aK] at c0 c1;rw [Ep] at c0;have k1:h.1=.lit (.string s.data.toList):=by first | exact k | exact congrArg Prod.fst k | simp [k]
  have h4:=aY (Ib (d:=h.1) (by simp)) a;rw [k1] at h4;refine ⟨⟨s.data.toList,xs⟩,⟨c0,y,c1,h1⟩,⟨Lx h4,h2,h3⟩,?_⟩;rw [b,k1];show 1+xs.length+EnS.AC EnS.cV xs<=_
  rw [EnS.Rx] at h5;unfold Rows.uptoBulk Rows.uptoBulkAll Rows.uptoBulkAll Rows.uptoBulkAll;have:=Jk (.lit (.string s.data.toList):DataW H);omega
theorem Aao {w:World} {base:Nat} {held:Bool} {sp:Nat->Bool} {fuel:Nat} {v:Value} {d:DataW H} {ps:List MemPlace} {N:Nat}
  (m:DataW.trod enc prog w base sp held fuel 22 [v]=some (d,ps)) (hb:Rows.uptoBulk d<=N):
  ∃xs:List EnS.En,Cm w v xs/\xs.length<=N/\(∀x ∈ xs,Aan N x)/\EnS.AC EnS.cE xs+1<=Rows.uptoBulk d:=by
 have f:prog.cellsOf 9=1:=by kernel_rfl
 have c:prog.cellsOf 50=1:=by kernel_rfl
 refine JV underlying22 (by kernel_rfl) (by decide) (Df (fun _=>True)) (Aan N) EnS.cE m hb (fun g o cs p D Pl hc hlen l j=>?_)
 match cs,hlen with
 | [x,y],_=>
  obtain ⟨h,y1,n,e,_,t0,i⟩:=trod_struct2 underlying52 l;simp only [f,c,bQ,List.take_succ_cons,List.take_zero,bU] at t0 i;have b:=congrArg Prod.fst e;simp only at b;rw [b] at j;have a:=aY (OY _) j;obtain ⟨s,es,k,_⟩:=DataW.trod_string underlying9 t0;simp only [bw,dY] at es;subst es;obtain ⟨xs,h1,h2,h3,h5⟩:=WE (N:=N) (d:=y1.1) (ps:=y1.2) i (aY (Ib (by simp)) a);have c0:=hc 0 (by decide);have c1:=hc 1 (by decide);simp only [Nat.add_zero,aH,aK] at c0 c1;rw [Ep] at c0;have k1:h.1=.lit (.string s.data.toList):=by first | exact k | exact congrArg Prod.fst k | simp [k]
  have h4:=aY (Ib (d:=h.1) (by simp)) a;rw [k1] at h4;refine ⟨⟨s.data.toList,xs⟩,⟨c0,y,c1,h1⟩,⟨Lx h4,h2,h3⟩,?_⟩;rw [b,k1];show 1+s.data.toList.length / 100+EnS.AC EnS.cA xs<=_
  have h6:s.data.toList.length+1=Rows.uptoBulk (.lit (.string s.data.toList):DataW H):=by unfold Rows.uptoBulk;rfl
  have h7:=Nat.div_le_self s.data.toList.length 100;unfold Rows.uptoBulk Rows.uptoBulkAll Rows.uptoBulkAll Rows.uptoBulkAll;omega
theorem Aef {w:World} {base:Nat} {held:Bool} {r:Reach} {e:Nat} {v:Value} {d:DataW H} {ps:List MemPlace} {sp:Nat->Bool} {N:Nat}
  (a:Value.okWide prog w r e 22 v) (hd:DataW.Trod enc prog w base sp held 22 v d ps) (hb:Rows.uptoBulk d<=N):
  ∃xs:List EnS.En,Cm w v xs/\xs.length<=N/\(∀x ∈ xs,Aan N x)/\EnS.AC EnS.cE xs+1<=Rows.uptoBulk d:=by
 obtain ⟨fuel,b⟩:=hd;rcases Xt underlying22 a with rfl | ⟨g,o,n,c,rfl⟩
 · exact ⟨[],Ad.nil _ _,aR _,(fun x hx=>(by cases hx)),Jk d⟩
 · exact Aao (by simpa [Value.cells] using b) hb
end
end
section
open Go.RowKit
theorem Eb.filter {xs:List EnS.En} (h:Eb xs) (p:EnS.En->Bool):Eb (xs.filter p):=⟨aY (bL _ _) h.1,fun x hx=>h.2 x (bW.1 hx).1⟩
theorem Aag.filter {xs:List EnS.En} (h:Aag xs) (p:EnS.En->Bool):Aag (xs.filter p):=fun x hx=>h x (bW.1 hx).1
theorem Aeg {w:World} {g o:Nat} {x:EnS.En} (Ts:List TypeId) (h:Df (fun _=>True) w g o x) (_hg:g<w.heap.size):w.cell? ⟨g,o,none⟩=some (.string ⟨x.name.toArray⟩)/\∃a c,w.cell? ⟨g,o+1,none⟩=some (.slice a x.attrs.length c)/\x.attrs.length<=c/\Ax (okT Ts w.heap.size w) w (.slice a x.attrs.length c) x.attrs:=by obtain ⟨h1,a,c,h2,h3,h4⟩:=Df.parts h;exact ⟨h1,a,c,h2,h3,Ax.base h4 Ts⟩
end
section
open Go.RowKit
attribute [local go_sem ↓] Go.wp_at_zero Go.wp_at_succ
theorem Ad.get {α:Type} {k:Nat} {El:World->Nat->Nat->α->Prop} {ok:Nat->Prop} {w:World} {a:Option Addr} {n c:Nat} {xs:List α} (h:Ad k El ok w (.slice a n c) xs) {j:Nat} (d:j<xs.length):∃g o,a=some ⟨g,o,none⟩/\g<w.heap.size/\ok g/\El w g (o+j*k) (xs[j]'d):=by obtain ⟨i,f,e,_,b⟩:=Ad.at h;cases e;exact b j d
theorem Ao.readE {α:Type} {L:KLay α} {T:TypeId} {Ts:List TypeId} {C:Nat} {w:World} {B:Nat} {v:Value} {xs:List α} (h:Ao L T Ts C w B v xs):
  Ad 2 (fun w g o x=>w.cell? ⟨g,o,none⟩=some (Ac (L.key x))/\∃u,w.cell? ⟨g,o+1,none⟩=some u/\L.El (okT Ts C w) w u x) (fun _=>True) w v xs:=by
 obtain ⟨d,h1,h2,h3⟩:=h;rcases h1.2 with ⟨rfl,b⟩ | ⟨g,cap,cur,rfl,n,k,b,m,hsz,f⟩
 · exact ⟨none,0,by rw [b],by omega,.inl (aW b)⟩
 · refine ⟨some ⟨g,0,none⟩,cap,rfl,b,.inr ⟨g,0,rfl,(ah.1 k).1,trivial,fun j x c=>?_⟩⟩;have e:j<d.length:=by rw [h2];exact (aj.1 c).1
   have hu:=aJ e;obtain ⟨l,f1⟩:=Gx L xs d j x _ c hu;have c0:=World.ownsRow.cells h1 (g:=g) rfl (j*2) _ l;have c1:=World.ownsRow.cells h1 (g:=g) rfl (j*2+1) _ f1;have a:∀i,(⟨g,0,none⟩:Addr).add i=⟨g,0+i,none⟩:=fun i=>by unfold Addr.add;split <;> simp_all
   rw [a] at c0 c1;exact ⟨c0,d[j],c1,h3 j _ x hu c⟩
theorem Afx:(prog.info? 92).map (fun i=>(i.zero,i.size,i.bytes))=some (some (.agg #[.slice none 0 0,.bool false]),2,32):=by kernel_rfl
end
section
open Go.RowKit
attribute [local go_sem ↓] Go.wp_at_zero Go.wp_at_succ
def KC (x y:Ky):Bool:=x.2&&(y.2&&decide (DnS.EI x.1 y.1<0))
def kyE (e:EnS.En):Ky:=((DnS.Ae e.name).1,(DnS.Ae e.name).2==0)
theorem Ac9 (a b:EnS.En):KC (kyE a) (kyE b)=decide (DnS.Am a.name b.name<0):=by
 unfold KC kyE DnS.Am;by_cases c:(DnS.Ae a.name).2=0
 · by_cases hb:(DnS.Ae b.name).2=0
   · simp [c,hb]
   · simp [c,hb]
 · simp [c]
theorem Agd {xs ys:List EnS.En} {k n:Nat} (hk:k<xs.length) (h:ys=SeS.Bd (xs.take k)) (hp:SeS.Dw (xs[k]'hk).name ys=n) (a:n<ys.length) (e:(ys[n]'a).name=(xs[k]'hk).name):ys=SeS.Bd (xs.take (k+1)):=by rw [SeS.SJ hk,<-h];subst hp;exact (SeS.Wn a e).symm
theorem Agu {xs ys:List EnS.En} {k n:Nat} (hk:k<xs.length) (h:ys=SeS.Bd (xs.take k)) (hp:SeS.Dw (xs[k]'hk).name ys=n) (e:∀a:n<ys.length,(ys[n]'a).name≠(xs[k]'hk).name):ys.take n++[xs[k]'hk]++ys.drop n=SeS.Bd (xs.take (k+1)):=by rw [SeS.SJ hk,<-h];subst hp;rw [SeS.Yp e,bK];rfl
theorem Aeh (u1 u2:Value) (x y:Ky) (w:World) (h1:Ah w u1 x.1) (h2:Ah w u2 y.1) (i:x.1.length<=1000) (j:y.1.length<=1000):
  Calls prog 45 #[.agg #[u1,.bool x.2],.agg #[u2,.bool y.2]] w (fun e w'=>e=.returned (.bool (KC x y))/\Below w.heap.size w w'):=by
 have k:=fun W (hb:Below w.heap.size w W)=>AeS u1 u2 x.1 y.1 W (h1.call hb (aA _)) (h2.call hb (aA _)) i j;unfold VD at k;obtain ⟨xs,bx⟩:=x;obtain ⟨ys,f⟩:=y;unfold KC;simp only at h1 h2 k⊢;generalize DnS.EI xs ys=N at*;obtain ⟨a1,c1,q,p,_⟩:=h1;obtain ⟨a2,c2,o,m,_⟩:=h2;subst q o;clear p m i j;generalize xs.length=L1 at*;generalize ys.length=L2 at*;have h:=Af w (.cells #[.slice a1 L1 c1,.bool bx] 92);have a:=Whole.made w 92 #[.slice a1 L1 c1,.bool bx];have d:=Af (w.alloc (.cells #[.slice a1 L1 c1,.bool bx] 92)) (.cells #[.slice a2 L2 c2,.bool f] 92);have c:=Whole.made (w.alloc (.cells #[.slice a1 L1 c1,.bool bx] 92)) 92 #[.slice a2 L2 c2,.bool f];have g:(w.alloc (.cells #[.slice a1 L1 c1,.bool bx] 92)).heap.size=w.heap.size+1:=by show (w.heap.push _).size=_;exact bh _
 rw [g] at c;have a:=a.call d;have b:=Aa h d;have a0:=a.cell 0;have r:=a.cell 1;have u:=c.cell 0;have t:=c.cell 1;simp only [aI,aH,aK] at a0 r u t;have l:=k _ b;clear k h d a c g;go_enter func45,ntmps45;cases bx with
 | false=>go_wp2_with fail;go_ret;exact ⟨by first | rfl | simp,b⟩
 | true=>
  cases f with
  | false=>go_wp2_with fail;go_ret;exact ⟨by first | rfl | simp,b⟩
  | true=>go_wp2_with fail;refine l.mono ?_;rintro e w2 ⟨rfl,n⟩;have s:=Aa b n;go_wp2_with fail;go_ret;exact ⟨by first | rfl | simp,s⟩
def Yx (xs:List EnS.En) (w:World) (e:Ending) (w':World):Prop:=∃v ys,e=.returned v/\Ao enK 52 [9,56] w.heap.size w' w.heap.size v ys/\ys=SeS.Bd xs/\ys.length<=xs.length/\Below w.heap.size w w'
def OZ (xs:List EnS.En) (w:World) (out keys i:Value) (wr:World):Prop:=∃(k:Nat) (ys:List EnS.En) (a:List Ky),k<=xs.length/\i=.int .i64 k/\Ao enK 52 [9,56] w.heap.size wr w.heap.size out ys/\DW 92 wr w.heap.size w.heap.size keys a/\ys=SeS.Bd (xs.take k)/\ys.length<=k/\a.length=ys.length/\Hid (a=ys.map kyE)/\(∀q ∈ a,q.1.length<=12)/\Below w.heap.size w wr
theorem AcA (u:Value) (xs:List EnS.En) (w:World) (h:Cm w u xs) (hf:Eb xs) (hE:Env w):
  Calls prog 15 #[u] w (Yx xs w):=by
 have G3:=hZ9 (fun k (hk:k<xs.length) W hE=>Pv (xs[k]'hk).name ((hf.2 _ (aZ hk)).1) W hE);unfold CN at G3;obtain ⟨a,c,rfl,hc,I2⟩:=Ad.at h;have J9:=hZ9 I2;have M1:=hZ9 (fun W (hb:Below w.heap.size w W)=>hE.below hb);have N6:xs.length<=1048576:=hf.1;have K0:=hZ9 (fun k (hk:k<xs.length) (ys:List EnS.En) n (h:ys=SeS.Bd (xs.take k)) hp hn e=>Agd (n:=n) hk h hp hn e);have I0:=hZ9 (fun k (hk:k<xs.length) (ys:List EnS.En) n (h:ys=SeS.Bd (xs.take k)) hp e=>Agu (n:=n) hk h hp e);obtain ⟨i0,hi,D7,E0,D6⟩:=info_parts GU;have HI:=hZ9 hi;obtain ⟨j0,hj,E3,D3,O0⟩:=info_parts Afx;have HJ:=hZ9 hj;clear I2 h hf hE hi hj;go_enter func15,ntmps15;go_wp2_with fail;go_loopw [3,4,14] (OZ xs w) (fun _ _ i _=>xs.length - (intOf i).toNat)
 case atStart=>exact ⟨0,[],[],aR _,rfl,Ao.empty _ _ _ _ _ _,DW.empty _ _ _ _,rfl,aA _,rfl,hZ9 rfl,by simp,Below.refl _ _⟩
 case round=>
  obtain ⟨k,ys,z,hk,rfl,A5,F4,I,K8,M0,D8,V,hb⟩:=hrel;have A3:=hZ9 I;clear I;by_cases J:k<xs.length
  · obtain ⟨g,o,rfl,hg,_,hra⟩:=J9.out k J;obtain ⟨c0,a2,p2,c1,M7,F3⟩:=Aeg [9,56] hra hg;have y:=hZ9 (fun (ys:List EnS.En) n (h:ys=SeS.Bd (xs.take k)) hp hn e=>K0.out k J ys n h hp hn e);have B0:Hid (kyE (xs[k]'J)=((DnS.Ae (xs[k]'J).name).1,(DnS.Ae (xs[k]'J).name).2==0)):=hZ9 rfl;have A:=hZ9 (fun (ys:List EnS.En) n (h:ys=SeS.Bd (xs.take k)) hp e=>I0.out k J ys n h hp e);have E5:=G3.out k J wr (M1.out _ hb);have F7:=DnS.Da (xs[k]'J).name;clear hra J9 K0 I0 G3;generalize xs[k]=x at*;obtain ⟨name,t⟩:=x;simp only at c0 c1 M7 F3 E5 F7 y A B0;generalize DnS.Ae name=TS at*;obtain ⟨ts,e0⟩:=TS;simp only at E5 F7 B0;have d0:=Ab c0 hb;have d1:=Ab c1 hb;have C2:=Ax.callT F3 hb;clear c0 c1 F3;generalize O2:t.length=L at*;obtain ⟨oa,oc,rfl,N9⟩:=Ad.form A5.ens;obtain ⟨qa,qc,rfl,N7⟩:=F4.form;generalize I5:ys.length=Y at*;generalize K7:z.length=H at*;subst M0;have O8:(0:Int)<=(k:Int):=by omega
    have O7:(k:Int)<(xs.length:Int):=by omega
    go_wp2_with fail;refine E5.mono ?_;rintro e w1 ⟨vp,rfl,F6,R⟩;have G2:=hb.trans (R.mono hb.size);obtain ⟨va,vc,rfl⟩:=F6.form;have N3:ts.length<=12:=F7.1;have J0:=Own.typed (B:=w.heap.size) F6 (Ts:=[9]) (by simp);generalize O3:ts.length=TL at*;have N:=Af w1 (.cells #[.slice va TL vc,.bool (e0==0)] 92);have D2:=Whole.made w1 92 #[.slice va TL vc,.bool (e0==0)];have F8:=G2.trans (N.mono G2.size);have b0:=D2.cell 0;have b1:=D2.cell 1;have L6:=D2.lt;simp only [aI,aH,aK] at b0 b1;have U:=(A5.call R).call N;have A6:=(F4.call R).call N;have A1:=Aj.callT J0 N;have F2:=Ab (Ab d0 R) N;have G5:=Ab (Ab d1 R) N;have A7:=Ax.callT (Ax.callT C2 R) N;clear A5 F4 J0 F6 d0 d1 C2 E5 D2;go_upto_block 2 with fail;generalize w1.alloc (.cells #[.slice va TL vc,.bool (e0==0)] 92)=wK at*;generalize w1.heap.size=bk at*;generalize K6:(e0==(0:Int))=eb at*;obtain ⟨EN,Z⟩:∃x:EnS.En,x=⟨name,t⟩:=⟨_,rfl⟩
    have C5:Hid (EN.name=name):=hZ9 (by rw [Z]);rw [<-Z] at B0;have E9:Hid (∀(j:Nat) (hj:j<z.length) (hy:j<ys.length),z[j]'hj=kyE (ys[j]'hy)):=hZ9 (fun j hj hy=>by
     have:=D8.out;subst this;rw [fg])
    have C4:EN=⟨name,t⟩:=Z;have H2:=hZ9 C4;clear Z C4;clear K6 N G2 R hb;go_cut [9] (fun n wx=>∃j:Nat,j<=H/\n=.int .i64 j/\Hid (SeS.Dw name ys=j)/\Below wK.heap.size wK wx)
    case first=>
     go_wp2_with fail;go_loopw [9] (fun n wn=>∃j:Nat,j<=H/\n=.int .i64 j/\Hid (∀i (hi:i<ys.length),i<j->DnS.Am (ys[i]'hi).name name<0)/\Below wK.heap.size wK wn) (fun n _=>H - (intOf n).toNat)
     case atStart=>exact ⟨0,aR _,rfl,hZ9 (fun i hi h=>absurd h (cu _)),Below.refl _ _⟩
     case round=>
      obtain ⟨j,hj,rfl,B4,d⟩:=hrel;by_cases D4:j<H
      · have P:j<z.length:=by rw [K7];exact D4
        obtain ⟨gk,ok,rfl,O6,_,⟨uk,k0,D1⟩,k1⟩:=Ad.get (DW.read A6) P;obtain ⟨ua,uc,rfl,_⟩:=Ad.form D1;have D9:=V _ (aZ P);have O:j<ys.length:=by rw [I5];exact D4
        have G4:Hid (KC (z[j]'P) (ts,eb)=decide (DnS.Am (ys[j]'O).name name<0)):=hZ9 (by rw [E9.out j P O,<-B0.out,Ac9,C5.out]);have L4:Hid (DnS.Am (ys[j]'O).name name<0->∀i (hi:i<ys.length),i<j+1->DnS.Am (ys[i]'hi).name name<0):=hZ9 (fun h i hi D5=>by
         rcases br (cF D5) with h2 | rfl
         · exact B4.out i hi h2
         · exact h)
        have L9:Hid (¬DnS.Am (ys[j]'O).name name<0->SeS.Dw name ys=j):=hZ9 (fun h=>SeS.Wm (dD O) (fun i hi D5=>B4.out i hi D5) (fun _=>h));generalize DnS.Am (ys[j]'O).name name=CV at*;generalize z[j]=q at*;obtain ⟨kt,kb⟩:=q;simp only at k0 k1 D1 D9;have F5:=fun W (hb:Below wK.heap.size wK W)=>Aeh (.slice ua kt.length uc) (.slice va TL vc) (kt,kb) (ts,eb) W (D1.strs.call hb (aA _)) (A1.strs.call hb (aA _)) (by show kt.length<=1000;omega) (by show ts.length<=1000;omega);simp only at F5;obtain ⟨AB,I4⟩:∃b,KC (kt,kb) (ts,eb)=b:=⟨_,rfl⟩
        rw [I4] at F5 G4;clear I4;generalize kt.length=KL at*;have n0:=Ab k0 d;have n1:=Ab k1 d;have n2:=Ab b0 d;have n3:=Ab b1 d;have G8:Below wr.heap.size wr wr.drew:=below_drewN wr 1;have I7:(0:Int)<=(j:Int):=by omega
        have E6:(j:Int)<(H:Int):=by omega
        clear D1 D9 P O k0 k1 U F2 G5 A7 HI HJ y A A1 B4 E9 D8 A3 B0 C5;go_wp2_with fail
        go_region_held3 (fun W=>W.cell? ⟨gk,ok+j*2,none⟩=some (.slice ua KL uc)/\W.cell? ⟨gk,ok+j*2+1,none⟩=some (.bool kb)/\W.cell? ⟨bk,0,none⟩=some (.slice va TL vc)/\W.cell? ⟨bk,1,none⟩=some (.bool eb)/\Below wK.heap.size wK W)
         (first | exact ⟨n0,n1,n2,n3,d.trans (G8.mono d.size)⟩ | (go_split_ands;exact ⟨Ab (by assumption) B3,Ab (by assumption) B3,Ab (by assumption) B3,Ab (by assumption) B3,Below.trans (by assumption) (B3.mono (Below.size (by assumption)))⟩) | go_keep)
         (first | (go_at_call 45;go_split_ands;with_reducible refine (F5 _ (by assumption)).mono ?_;rintro e wN ⟨rfl,B3⟩))
        go_split_ands;have hbm:Below wK.heap.size wK wN:=by assumption
        cases AB with
        | true=>
         have K5:=hZ9 (L4.out (bB G4.out.symm));go_wp2_with fail;go_roundw
         case rel=>exact ⟨j+1,by omega,by go_num,K5,hbm⟩
         case measure=>simp [intOf];omega
        | false=>go_wp2_with fail;go_meet;exact ⟨j,hj,rfl,hZ9 (L9.out (by have:=ba G4.out.symm;omega)),hbm⟩
      · have P:j=H:=by omega
        have E6:¬(j:Int)<(H:Int):=by omega
        have M8:Hid (SeS.Dw name ys=H):=hZ9 (SeS.Wm (by omega) (fun i hi D5=>B4.out i hi (by omega)) (fun h=>by omega));clear B4;go_wp2_with fail
        go_quiet (fail)
        go_wp2_with fail;go_meet;exact ⟨H,aA _,rfl,M8,d.trans ((below_drewN wr _).mono d.size)⟩
    case rest=>
     obtain ⟨j,hj,rfl,C6,d⟩:=hcut;obtain ⟨w5,rfl⟩:∃x,x=wc:=⟨_,rfl⟩
     have p:=U.call d;have K:=A6.call d;have A2:=Aj.callT A1 d;have A4:=Ax.callT A7 d;have J7:=Ab F2 d;have I8:=Ab G5 d;have J3:=Ab b0 d;have J5:=Ab b1 d;have B5:=F8.trans (d.mono F8.size);clear U A6 A1 A7 F2 G5 b0 b1 F8;go_upto_region 11 with fail;go_cut [60] (fun b wx=>∃bb:Bool,b=.bool bb/\(bb=true->∃(r:j<ys.length),ys[j].name=name)/\(bb=false->∀(r:j<ys.length),ys[j].name≠name)/\Below w5.heap.size w5 wx)
     case first=>
      by_cases D4:j<H
      · have r:j<ys.length:=by rw [I5];exact D4
        obtain ⟨gy,oy,rfl,O1,_,K1⟩:=Ad.get p.readE r;obtain ⟨y0,uy,y1,H1⟩:=K1;change w5.cell? ⟨gy,oy+j*2,none⟩=some (.string ⟨ys[j].name.toArray⟩) at y0;obtain ⟨nj,E4⟩:∃n,n=ys[j].name:=⟨_,rfl⟩
        rw [<-E4] at y0;have HX:=hZ9 (fun e:nj=name=>show ∃(r:j<ys.length),ys[j].name=name from ⟨r,by rw [<-E4];exact e⟩);have I7:(0:Int)<=(j:Int):=by omega
        have E6:(j:Int)<(H:Int):=by omega
        have K9:=hZ9 (fun e:nj≠name=>show ∀(r:j<ys.length),ys[j].name≠name from fun r=>by rw [<-E4];exact e);clear H1 E4 p K A2 A4 y A r;cases hq:(nj==name) with
        | true=>
         have L0:=hZ9 (HX.out (by simpa using hq));go_wp2_with fail
         go_quiet (fail)
         go_wp2_with fail;go_meet;exact ⟨true,rfl,fun _=>L0.out,(fun h=>by cases h),below_drewN w5 _⟩
        | false=>
         have H6:=hZ9 (K9.out (by simpa using hq));go_wp2_with fail
         go_quiet (fail)
         go_wp2_with fail;go_meet;exact ⟨false,rfl,(fun h=>by cases h),fun _=>H6.out,below_drewN w5 _⟩
      · have E6:¬(j:Int)<(H:Int):=by omega
        have L8:¬j<ys.length:=by omega
        clear p K A2 A4 y A;go_wp2_with fail
        go_quiet (fail)
        go_wp2_with fail;go_meet;exact ⟨false,rfl,(fun h=>by cases h),fun _ r=>absurd r L8,below_drewN w5 _⟩
     case rest=>
      obtain ⟨bb,rfl,J4,I9,m⟩:=hcut;cases bb with
      | true=>
       obtain ⟨r,L7⟩:=J4 rfl;have N0:=y.out ys j A3.out C6.out r L7;go_wp2_with fail;go_roundw
       case rel=>
        have hR:OZ xs w (.slice oa H oc) (.slice qa H qc) (.int .i64 ((k:Int)+1)) wc:=⟨k+1,ys,z,by omega,by go_num,p.call m,K.call m,N0,by omega,by omega,D8,V,B5.trans (m.mono B5.size)⟩
        exact hR
       case measure=>simp [intOf];omega
      | false=>
       obtain ⟨w6,rfl⟩:∃x,x=wc:=⟨_,rfl⟩
       have S:=p.call m;have A8:=K.call m;have C1:=Aj.callT A2 m;have C7:=Ax.callT A4 m;have d0:=Ab J7 m;have d1:=Ab I8 m;have b0:=Ab J3 m;have b1:=Ab J5 m;have G7:=B5.trans (m.mono B5.size);have B2:=G7.size;have N2:bk<w6.heap.size:=ae L6 (d.trans (m.mono d.size)).size;have H0:=hZ9 (A.out ys j A3.out C6.out (I9 rfl));have K4:Hid (z.take j++[((ts,eb):Ky)]++z.drop j=(ys.take j++[(⟨name,t⟩:EnS.En)]++ys.drop j).map kyE):=hZ9 (by
        rw [bP,bP,gP,List.map_drop,<-D8.out];have e1:[(⟨name,t⟩:EnS.En)].map kyE=[((ts,eb):Ky)]:=by rw [cz,fU];exact congrArg (· :: []) (by have:=B0.out;rw [H2.out] at this;exact this)
        rw [e1])
       have I1:(ys.take j).length=j:=by rw [au];omega
       have I3:(ys.drop j).length=H - j:=by rw [bI];omega
       have E1:(z.take j).length=j:=by rw [au];omega
       have J6:(z.drop j).length=H - j:=by rw [bI];omega
       have H9:=Ad.take S.readE hj;have L1:=Ad.take A8.read hj;have O5:j<=oc:=by omega
       have P:j<=qc:=by omega
       have I7:(0:Int)<=(j:Int):=by omega
       have E6:(j:Int)<=(oc:Int):=by omega
       have O4:(j:Int)<=(qc:Int):=by omega
       clear p K A2 A4 J7 I8 J3 J5 B5 d m y A J4 I9 E9;go_wp2_with (at_builtin;(refine Re enK 52 22 [9,56] (by decide) underlying22 HI.out D7 E0 D6 (by rfl) (by rfl) _ _ (by rfl) w6.heap.size B2 _ [] (by rfl) (Ao.empty _ _ _ _ _ _) _ (ys.take j) (by rfl) H9 (by simp;omega) (aA _) ?_))
       intro v1 w7 E A9 M3;obtain ⟨n1,m1,rfl⟩:=E.form;rw [I1] at E⊢;have M9:=Ab d0 A9;have M6:=Ab d1 A9;have C3:=Ax.callT C7 A9;have B1:=Af w7 (.cells #[.string ⟨name.toArray⟩,.slice a2 L p2] 52);have F0:=Whole.made w7 52 #[.string ⟨name.toArray⟩,.slice a2 L p2];have G:=A9.trans (B1.mono A9.size);have l:=E.call B1;have C0:=Ax.callT C3 B1;have f0:=F0.cell 0;have f1:=F0.cell 1;have G9:=G.size;simp only [aI,aH,aK] at f0 f1;clear E C3 F0 H9;go_wp2_with (at_builtin;(refine MS enK 52 22 [9,56] (by decide) underlying22 HI.out D7 E0 D6 (by rfl) (by rfl) _ _ (by rfl) w6.heap.size B2 _ (ys.take j) (by rfl) l w7.heap.size (by rfl) ⟨name,t⟩ _ f0 f1 C0 (by omega) G9 ?_))
       intro v2 w8 s J2 K3;obtain ⟨n2,m2,rfl⟩:=s.form;have E8:(ys.take j++[(⟨name,t⟩:EnS.En)]).length=j+1:=by rw [aT,I1];rfl
       rw [E8] at s⊢;have M:=G.trans J2;have A0:=S.call M;have J8:=A0.readE;have C8:=M.size;go_upto_region 15 with fail;go_cut [3] (fun x wd=>Ao enK 52 [9,56] w.heap.size wd w6.heap.size x (ys.take j++[(⟨name,t⟩:EnS.En)]++ys.drop j)/\Below w6.heap.size w6 wd)
       case first=>
        by_cases F9:oc=j
        · subst F9;have h1:ys.drop oc=[]:=dW (by omega);have T:=Ad.nil (k:=2) (El:=fun w1 g o (x:EnS.En)=>w1.cell? ⟨g,o,none⟩=some (Ac (enK.key x))/\∃u,w1.cell? ⟨g,o+1,none⟩=some u/\enK.El (okT [9,56] w.heap.size w1) w1 u x) (ok:=fun _=>True) (w:=w8) oa 0;go_wp2_with (at_builtin;(refine Re enK 52 22 [9,56] (by decide) underlying22 HI.out D7 E0 D6 (by rfl) (by rfl) _ _ (by rfl) w6.heap.size B2 _ (ys.take oc++[(⟨name,t⟩:EnS.En)]) (by rfl) s _ [] (by rfl) T (by rw [E8];simp;omega) C8 ?_))
          intro v3 w9 f v L2;go_wp2_with fail;go_meet;exact ⟨by rw [h1,bJ];exact f,M.trans v⟩
        · have H8:¬oc - j=0:=by omega
          have T:=Ad.drop J8 hj;go_wp2_with (at_builtin;(refine Re enK 52 22 [9,56] (by decide) underlying22 HI.out D7 E0 D6 (by rfl) (by rfl) _ _ (by rfl) w6.heap.size B2 _ (ys.take j++[(⟨name,t⟩:EnS.En)]) (by rfl) s _ (ys.drop j) (by rfl) T (by rw [E8,I3];omega) C8 ?_))
          intro v3 w9 f v L2;go_wp2_with fail;go_meet;exact ⟨by rw [bK];exact f,M.trans v⟩
       case rest=>
        obtain ⟨f,v⟩:=hcut;obtain ⟨w9,rfl⟩:∃x,x=wc:=⟨_,rfl⟩
        obtain ⟨n3,m3,rfl⟩:=f.form;have G1:(ys.take j++[(⟨name,t⟩:EnS.En)]++ys.drop j).length=H+1:=by rw [aT,E8,I3];omega
        rw [G1] at f⊢;have F1:=G7.trans (v.mono G7.size);have B6:=F1.size;have C9:=A8.call v;have H4:=Aj.callT C1 v;have K2:=Ab b0 v;have M5:=Ab b1 v;have N1:=v.size;have M2:=Ad.take C9.read hj;clear s M A0 J8 J2 B1 G l C0 f0 f1 A9 S C7 d0 d1 M9 M6 M3 K3 A8 C1 b0 b1 L1;go_wp2_with (at_builtin;(refine ND 92 88 (by decide) underlying88 HJ.out E3 D3 (by omega) (by rfl) (by rfl) _ _ (by rfl) w9.heap.size B6 _ [] (by rfl) (DW.empty _ _ _ _) _ (z.take j) (by rfl) M2 (by rw [E1];simp;omega) (aA _) ?_))
        intro v4 wA l G B1;obtain ⟨n4,m4,rfl,_⟩:=l.form;rw [E1] at l⊢;have N4:=Ab K2 G;have N5:=Ab M5 G;have B8:=Aj.callT H4 G;have G0:=Af wA (.cells #[.slice va TL vc,.bool eb] 92);have E7:=Whole.made wA 92 #[.slice va TL vc,.bool eb];have I6:=G.trans (G0.mono G.size);have D0:=l.call G0;have H7:=Aj.callT B8 G0;have g0:=E7.cell 0;have g1:=E7.cell 1;have H5:=I6.size;simp only [aI,aH,aK] at g0 g1;have L5:=AfY (C:=w.heap.size) (x:=(ts,eb)) E7.lt g0 g1 H7;clear l B8 E7;go_wp2_with (at_builtin;(refine ND 92 88 (by decide) underlying88 HJ.out E3 D3 (by omega) (by rfl) (by rfl) _ _ (by rfl) w9.heap.size B6 _ (z.take j) (by rfl) D0 _ [(ts,eb)] (by rfl) L5 (by rw [E1];simp;omega) H5 ?_))
        intro v5 wD F G8 N8;have E2:(z.take j++[((ts,eb):Ky)]).length=j+1:=by rw [aT,E1];rfl
        obtain ⟨n5,m5,rfl,_⟩:=F.form;rw [E2] at F⊢;have X:=I6.trans G8;have H3:=C9.call X;have M4:=H3.read;have B9:=X.size;have J1:∀(v6:Value) (wF:World),DW 92 wF w.heap.size w9.heap.size v6 (z.take j++[((ts,eb):Ky)]++z.drop j)->Below w9.heap.size w9 wF->OZ xs w (.slice n3 (H+1) m3) v6 (.int .i64 ((k:Int)+1)) wF:=fun v6 wF h1 h2=>
         ⟨k+1,_,_,by omega,by go_num,(f.mono B2).call h2,h1.mono B6,H0.out,by rw [G1];omega,by rw [G1,aT,E2,J6];omega,K4,fun q hq=>by
          rcases b9.1 hq with hq | hq
          · rcases b9.1 hq with hq | hq
            · exact V q (dN hq)
            · rw [ak] at hq;subst hq;show ts.length<=12;omega
          · exact V q (gI hq),F1.trans (h2.mono F1.size)⟩
        have B7:=hZ9 J1;clear J1;by_cases F9:qc=j
        · subst F9;have h1:z.drop qc=[]:=dW (by omega);have T:=Ad.nil (k:=2) (El:=Wc w.heap.size) (ok:=fun _=>True) (w:=wD) qa 0;go_wp2_with (at_builtin;(refine ND 92 88 (by decide) underlying88 HJ.out E3 D3 (by omega) (by rfl) (by rfl) _ _ (by rfl) w9.heap.size B6 _ (z.take qc++[((ts,eb):Ky)]) (by rfl) F _ [] (by rfl) T (by rw [E2];simp;omega) B9 ?_))
          intro v6 wF Q G6 L3;have hR:=B7.out v6 wF (by rw [h1,bJ];exact Q) (X.trans G6);go_wp2_with fail;go_roundw
          case rel=>exact hR
          case measure=>simp [intOf];omega
        · have H8:¬qc - j=0:=by omega
          have T:=Ad.drop M4 hj;go_wp2_with (at_builtin;(refine ND 92 88 (by decide) underlying88 HJ.out E3 D3 (by omega) (by rfl) (by rfl) _ _ (by rfl) w9.heap.size B6 _ (z.take j++[((ts,eb):Ky)]) (by rfl) F _ (z.drop j) (by rfl) T (by rw [E2,J6];omega) B9 ?_))
          intro v6 wF Q G6 L3;have hR:=B7.out v6 wF (by rw [bK];exact Q) (X.trans G6);go_wp2_with fail;go_roundw
          case rel=>exact hR
          case measure=>simp [intOf];omega
  · have D9:k=xs.length:=by omega
    subst D9;have I:=A3.out;simp only [bE] at I;go_wp2_with fail;go_ret;exact ⟨_,ys,rfl,A5,I,K8,hb⟩
end
end Go.Proofs.YtgngjfjaelgaeaaGreatDoor
