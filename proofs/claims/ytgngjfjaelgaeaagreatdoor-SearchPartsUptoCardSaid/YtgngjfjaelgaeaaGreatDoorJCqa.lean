/- The walks of entries that are copied: slices.Clone of attributes, the program's Copy. Conditions: as stated. -/
import Derived.Test.YtgngjfjaelgaeaaGreatDoorJEna
set_option maxRecDepth 100000
set_option maxHeartbeats 4000000
namespace Go.Proofs.YtgngjfjaelgaeaaGreatDoor
open Go.Proofs.Tryz
section
open Go.RowKit
def WI:Go.Shelf.Ren:=⟨fun | 41=>82 | n=>n,fun | 22=>50 | 23=>56 | 4=>4 | n=>n,fun | n=>n⟩
theorem XJ:Go.Proofs.SlLaysE0.n41 prog WI:={
 mixed:=by kernel_rfl
 f41:=⟨f82.name,by decide,func82.trans (congrArg some (by kernel_rfl))⟩
 t4:=underlying4
 a4:=isAgg4
 z4:=sizeOf4
 v4:=zeroValue4
 t22:=underlying50
 a22:=isAgg50
 z22:=sizeOf50
 v22:=zeroValue50 }
theorem Ox:(prog.info? 56).map (fun i=>(i.zero,i.size,i.bytes))=some (some (.agg #[.string ⟨#[]⟩,.slice none 0 0]),2,40):=by kernel_rfl
theorem Rm {α:Type} (L:KLay α):∀(xs:List α) (a:List Value) (j:Nat) (u:Value),(flatK L xs a)[j]?=some u->(∃i x z,j=i*2/\xs[i]?=some x/\a[i]?=some z/\u=Ac (L.key x))\/(∃i x,j=i*2+1/\xs[i]?=some x/\a[i]?=some u)
 | [],_,j,u,h=>by simp [flatK] at h
 | _ :: _,[],j,u,h=>by simp [flatK] at h
 | y :: xs,z :: a,0,u,h=>.inl ⟨0,y,z,rfl,rfl,rfl,by simpa [flatK] using h.symm⟩
 | y :: xs,z :: a,1,u,h=>.inr ⟨0,y,rfl,rfl,by simpa [flatK] using h⟩
 | y :: xs,z :: a,j+2,u,h=>by
  rcases Rm L xs a j u (by simpa [flatK] using h) with ⟨i,x,v,e,h1,h2,h3⟩ | ⟨i,x,e,h1,h2⟩
  · exact .inl ⟨i+1,x,v,by omega,by simpa using h1,by simpa using h2,h3⟩
  · exact .inr ⟨i+1,x,by omega,by simpa using h1,by simpa using h2⟩
theorem Oy {α:Type} (L:KLay α) {ok:Nat->Prop} {w:World} {xs:List α} {g o:Nat} (h:∀(j:Nat) (x:α),xs[j]?=some x->w.cell? ⟨g,o+j*2,none⟩=some (Ac (L.key x))/\∃u,w.cell? ⟨g,o+j*2+1,none⟩=some u/\L.El ok w u x):
  ∃c:List Value,c.length=xs.length/\(∀j u,(flatK L xs c)[j]?=some u->w.cell? ⟨g,o+j,none⟩=some u/\u.oneCell'=true)/\∀(i:Nat) (u:Value) (x:α),c[i]?=some u->xs[i]?=some x->L.El ok w u x:=by
 have H:∀i:Fin xs.length,∃u,w.cell? ⟨g,o+i.1*2+1,none⟩=some u/\L.El ok w u xs[i.1]:=fun i=>(h i.1 _ (aJ i.2)).2;obtain ⟨f,d⟩:=fq H;have b:∀(i:Nat) (x:α) (u:Value),xs[i]?=some x->(List.ofFn f)[i]?=some u->∃a:i<xs.length,u=f ⟨i,a⟩/\x=xs[i]:=fun i x u hx hu=>by obtain ⟨a,e⟩:=aj.1 hx;refine ⟨a,?_,e.symm⟩;rw [gX] at hu;simp [a] at hu;exact hu.symm
 refine ⟨List.ofFn f,by simp,fun j u k=>?_,fun i u x hu hx=>?_⟩
 · rcases Rm L xs _ j u k with ⟨i,x,z,rfl,hx,l,rfl⟩ | ⟨i,x,rfl,hx,hu⟩
   · exact ⟨(h i x hx).1,rfl⟩
   · obtain ⟨a,rfl,rfl⟩:=b i x u hx hu;have:=d ⟨i,a⟩;exact ⟨by rw [<-cN];exact this.1,L.one this.2⟩
 · obtain ⟨a,rfl,rfl⟩:=b i x u hx hu;exact (d ⟨i,a⟩).2
theorem GK {α:Type} (L:KLay α):∀(xs:List α) (a:List Value),a.length=xs.length->(flatK L xs a).length=xs.length*2
 | [],[],_=>rfl
 | [],_ :: _,h=>by simp at h
 | _ :: _,[],h=>by simp at h
 | y :: xs,z :: a,h=>by have:=GK L xs a (by simpa using h);simp [flatK,this];omega
def Af1 {α:Type} (L:KLay α) (T:TypeId) (Ts:List TypeId) (C:Nat) (xs:List α) (w:World) (e:Ending) (w':World):Prop:=∃v,e=.returned v/\Ao L T Ts C w' w.heap.size v xs/\Below w.heap.size w w'
theorem Uo (a:Addr) (c:Nat) (w:World):Calls prog 82 #[.slice (some a) 0 c] w fun e w'=>∃f,e=.returned f/\w'.ownsRow w.heap.size 56 2 f 0 []/\Below w.heap.size w w':=by
 obtain ⟨i0,o,g,m,h⟩:=info_parts Ox;have p:∀(w:World) (a:Option Addr) (n c l i:Nat),(binOp .eql 50 (.slice a n c) (.slice none l i)).run prog w=.ok (.bool a.isNone) w:=fun w a n c l i=>Lib.run_eql_slice_nil w _ _ a n c l i underlying50;go_enter func82,ntmps82;go_wp2_with (at_builtin;refine wpList_append_own _ rfl _ _ 50 rfl w.heap.size 56 i0 _ 2 40 underlying50 o g m h rfl (by decide) _ _ _ rfl (World.ownsRow_made w #[] 0 (aA _) (aR _) rfl) a 0 c [] rfl rfl (by intro j u q;simp at q) (by intro u hu;simp at hu) (by unfold maxLen;omega) (by omega) (by simp) ?_)
 intro f w1 d b _;go_wp2_with fail;go_ret;exact ⟨f,rfl,by simpa using d,((Below.refl _ w).alloc (aA _) _).grown b (by simp) (by intro k hk;simp [Value.ownBlock] at hk;omega)⟩
theorem Aj.callT {w w':World} {B:Nat} {u:Value} {xs:List (List UInt8)} {Ts:List TypeId} (h:Aj (okT Ts B w) w u xs) (hb:Below w.heap.size w w'):Aj (okT Ts B w') w' u xs:=h.keep hb.size (fun g b _=>hb.block g b) (fun g b a=>a.same (hb.block g b))
def Fe (Ts:List TypeId) (C:Nat) (w:World) (u:Value) (xs:List EnS.At):Prop:=Ad 2 (BH (okT Ts C w)) (fun _=>True) w u xs
theorem BH.callE {w w':World} {C g o:Nat} {x:EnS.At} {Ts:List TypeId} (h:BH (okT Ts C w) w g o x) (a:g<w.heap.size) (hb:Below w.heap.size w w'):BH (okT Ts C w') w' g o x:=by obtain ⟨h1,u,h2,h3⟩:=h;exact ⟨(hb.cell (p:=⟨g,o,none⟩) a).trans h1,u,(hb.cell (p:=⟨g,o+1,none⟩) a).trans h2,Aj.callT h3 hb⟩
theorem Fe.callT {w w':World} {C:Nat} {u:Value} {xs:List EnS.At} {Ts:List TypeId} (h:Fe Ts C w u xs) (hb:Below w.heap.size w w'):Fe Ts C w' u xs:=
 Ad.imp h hb.size (fun _ _ h=>h) fun _ _ _ a _ hx=>hx.callE a hb
theorem Ax.exp {w:World} {C:Nat} {u:Value} {xs:List EnS.At} {Ts:List TypeId} (h:Ax (okT Ts C w) w u xs):Fe Ts C w u xs:=Ad.imp h (aA _) (fun _ _ _=>trivial) fun _ _ _ _ _ hx=>hx
theorem Ao.attrsE {T:TypeId} {Ts:List TypeId} {C:Nat} {w:World} {B:Nat} {v:Value} {xs:List EnS.At} (h:Ao atK T Ts C w B v xs):Fe Ts C w v xs:=by
 obtain ⟨d,h1,h2,h3⟩:=h;rcases h1.2 with ⟨rfl,b⟩ | ⟨g,cap,cur,rfl,n,k,b,m,hsz,f⟩
 · exact ⟨none,0,by rw [b],by omega,.inl (aW b)⟩
 · refine ⟨some ⟨g,0,none⟩,cap,rfl,b,.inr ⟨g,0,rfl,(ah.1 k).1,trivial,fun j x c=>?_⟩⟩;have e:j<d.length:=by rw [h2];exact (aj.1 c).1
   have hu:=aJ e;obtain ⟨l,f1⟩:=Gx atK xs d j x _ c hu;have c0:=World.ownsRow.cells h1 (g:=g) rfl (j*2) _ l;have c1:=World.ownsRow.cells h1 (g:=g) rfl (j*2+1) _ f1;have a:∀i,(⟨g,0,none⟩:Addr).add i=⟨g,0+i,none⟩:=fun i=>by unfold Addr.add;split <;> simp_all
   rw [a] at c0 c1;exact ⟨c0,d[j],c1,h3 j _ x hu c⟩
theorem Aaw (Ts:List TypeId) (C:Nat) (v:Value) (xs:List EnS.At) (w:World) (h:Fe Ts C w v xs) (E:xs.length<=1048576):Calls prog 82 #[v] w (Af1 atK 56 Ts C xs w):=by
 obtain ⟨a,c,rfl,hc,b⟩:=h;obtain ⟨i0,B,m,y,r⟩:=info_parts Ox;cases a with
 | none=>
  have h0:xs=[]:=by
   rcases b with h | ⟨g,o,e,_⟩
   · exact h
   · cases e
  subst h0;refine (AnyE.slices_Clone_nil XJ _ _ w).mono ?_;rintro e w' ⟨rfl,rfl⟩;exact ⟨_,rfl,Ao.empty _ _ _ _ _ _,Below.refl _ _⟩
 | some z=>
  have s:=fun g o cap (k:List Value) (d:k.length=xs.length) f h1=>AnyE.slices_Clone XJ i0 _ 2 40 B m y r (by rfl) (by decide) sizeOf56 g o xs.length cap (flatK atK xs k) w (GK atK xs k d) (by unfold maxLen;omega) (by omega) f h1;rcases b with rfl | ⟨g,o,e,l,_,hcell⟩
  · refine (Uo z c w).mono ?_;rintro e w' ⟨A,rfl,q,hb⟩;exact ⟨_,rfl,⟨[],q,rfl,fun i u x hu=>by simp at hu⟩,hb⟩
  · cases e;obtain ⟨k,d,f,p⟩:=Oy atK hcell;refine (s g o c k d (fun j u t=>(f j u t).1) (fun u hu=>?_)).mono ?_
    · obtain ⟨j,t,rfl⟩:=bf.1 hu;exact (f j _ (aJ t)).2
    · rintro e w' ⟨A,rfl,q,_,hb⟩;exact ⟨_,rfl,⟨k,q,d,fun i u x hu hx=>atK.keep (p i u x hu hx) hb.size (fun g l _=>hb.block g l) (fun g l n=>n.same (hb.block g l))⟩,hb⟩
theorem Ao.other {α:Type} {L:KLay α} {T:TypeId} {Ts:List TypeId} {C:Nat} {w:World} {B:Nat} {v:Value} {xs:List α} (h:Ao L T Ts C w B v xs) {g:Nat} {l:TypeId} {cs:Array Value} (b:Whole w g l cs) (p:C<=g) (m:l ∉ Ts) (f:T≠l) (i:Nat) (y:Value):Ao L T Ts C (w.setCell ⟨g,i,none⟩ y) B v xs:=by
 obtain ⟨o,h1,h2,h3⟩:=h;have a:w.grownBy (w.setCell ⟨g,i,none⟩ y) (some g):=⟨rfl,rfl,rfl,by simp [World.setCell],fun k _ hk=>Below.heap_setCell w ⟨g,i,none⟩ y k (fun e=>hk (by rw [e]))⟩
 have d:v.ownBlock≠some g:=fun e=>by obtain ⟨c,fz,h⟩:=Lib.ownsRow_kind h1 g e;unfold Whole at b;rw [b] at h;cases h;exact f rfl
 have hblk:∀k,okT Ts C w k->(w.setCell ⟨g,i,none⟩ y).heap[k]?=w.heap[k]?:=fun k hk=>by
  refine Below.heap_setCell w ⟨g,i,none⟩ y k (fun e=>?_);subst e;rcases hk with hk | ⟨c,T2,fz,hk,n⟩
  · exact absurd p (Nat.not_le_of_lt hk)
  · unfold Whole at b;rw [b] at hk;cases hk;exact m n
 exact ⟨o,World.ownsRow.kept h1 a (.inr d),h2,fun j u x hu hx=>L.keep (h3 j u x hu hx) a.size (fun k _ hk=>hblk k hk) (fun k _ hk=>hk.same (hblk k hk))⟩
theorem Ao.alloc {α:Type} {L:KLay α} {T:TypeId} {Ts:List TypeId} {C:Nat} {w:World} {B:Nat} {v:Value} {xs:List α} (h:Ao L T Ts C w B v xs) (o:Obj):Ao L T Ts C (w.alloc o) B v xs:=h.call (Af w o)
theorem Own.typed {w:World} {d B:Nat} {v:Value} {xs:List (List UInt8)} (h:Own w d v xs) {Ts:List TypeId} (a:9 ∈ Ts):Aj (okT Ts B w) w v xs:=h.strs.strsP _ (fun g b=>by
 obtain ⟨c,fz,e⟩:=Lib.ownsRow_kind h g b;exact .inr ⟨c,_,fz,e,a⟩)
theorem Ax.base {w:World} {u:Value} {xs:List EnS.At} (h:Cj w u xs) (Ts:List TypeId):Ax (okT Ts w.heap.size w) w u xs:=h.keep (aA _) (fun _ _ _=>rfl) (fun _ a _=>.inl a)
theorem Ax.callT {w w':World} {B:Nat} {u:Value} {xs:List EnS.At} {Ts:List TypeId} (h:Ax (okT Ts B w) w u xs) (hb:Below w.heap.size w w'):Ax (okT Ts B w') w' u xs:=h.keep hb.size (fun g b _=>hb.block g b) (fun g b a=>a.same (hb.block g b))
end
section
open Go.RowKit
theorem BM {fn:Func} {p:Tmp} {ty:TypeId} (h:fn.results=#[.cell p ty]) (tmps:Array Value) (P:Program) (w:World):
  (results fn tmps).run P w=((asAddr (tmps.getD p undef)).run P w).andThen fun a b=>(loadVar ty a).run P b:=by
 simp only [results,h];simp [Sem.run_bind]
def JW (C:Nat) (name:List UInt8) (xs:List EnS.At) (w:World) (e:Ending) (w':World):Prop:=∃u,e=.returned (.agg #[.string ⟨name.toArray⟩,u])/\Ao atK 56 [9] C w' w.heap.size u xs/\Below w.heap.size w w'
theorem Ao.slice {α:Type} {L:KLay α} {T:TypeId} {Ts:List TypeId} {C:Nat} {w:World} {B:Nat} {v:Value} {xs:List α} (h:Ao L T Ts C w B v xs) {k:Nat} (hk:k<xs.length):∃g cap a,v=.slice (some ⟨g,0,none⟩) xs.length cap/\B<=g/\xs.length<=cap/\(∃cur:Array Value,w.heap[g]?=some (.cells cur T (0,0)))/\(a:Value)=a/\w.cell? ⟨g,k*2,none⟩=some (Ac (L.key (xs[k]'hk)))/\w.cell? ⟨g,k*2+1,none⟩=some a/\L.El (okT Ts C w) w a (xs[k]'hk):=by
 obtain ⟨a,h1,h2,h3⟩:=h;rcases h1.2 with ⟨rfl,d⟩ | ⟨g,cap,cur,rfl,l,f,d,m,hsz,e⟩
 · omega
 · have c:k<a.length:=by omega
   obtain ⟨j,f1⟩:=Gx L xs a k _ _ (aJ hk) (aJ c);have c0:=World.ownsRow.cells h1 (g:=g) rfl (k*2) _ j;have c1:=World.ownsRow.cells h1 (g:=g) rfl (k*2+1) _ f1;have b:∀i,(⟨g,0,none⟩:Addr).add i=⟨g,i,none⟩:=fun i=>by unfold Addr.add;split <;> simp_all
   rw [b] at c0 c1;exact ⟨g,cap,a[k],rfl,l,d,⟨cur,f⟩,rfl,c0,c1,h3 k _ _ (aJ c) (aJ hk)⟩
attribute [local go_sem ↓] Go.wp_at_zero Go.wp_at_succ
theorem Ur (C:Nat) (name:List UInt8) (xs:List EnS.At) (u:Value) (w:World) (hC:C<=w.heap.size) (h:Fe [9] C w u xs) (hf:GW xs):Calls prog 48 #[.agg #[.string ⟨name.toArray⟩,u]] w (JW C name xs w):=by
 have hb0:=Af w (.cells #[.string ⟨name.toArray⟩,u] 52);have A3:=Whole.made w 52 #[.string ⟨name.toArray⟩,u];have P:=Af (w.alloc (.cells #[.string ⟨name.toArray⟩,u] 52)) (.cells #[.string ⟨#[]⟩,.slice none 0 0] 52);have G:=Aa hb0 P;have V:=G.size;have O:=A3.call P;have A8:=Whole.made (w.alloc (.cells #[.string ⟨name.toArray⟩,u] 52)) 52 #[.string ⟨#[]⟩,.slice none 0 0];have A0:=h.callT G;have q:=Aaw [9] C u xs _ A0 hf.1;have B7:xs.length<=1048576:=hf.1;have HF:=hZ9 (fun k (hk:k<xs.length)=>(hf.2 _ (aZ hk)).1);unfold Af1 at q;obtain ⟨a,c,rfl,_⟩:=Ad.form h;clear hb0 A3 P h A0;have R:=O.cell 1;simp only [aI,aH,aK] at R;go_enter func48,ntmps48;go_wp2_with fail;refine q.mono ?_;rintro e w1 ⟨v1,rfl,b,H⟩;have o:=O.call H;have F:=A8.call H;have t:=Aa G H;obtain ⟨a1,c1,rfl⟩:=b.form;have q2:=o.cell 1;simp only [aI,aH,aK] at q2;have t2:=o.thaw 1;have A:=o.put 1 (.slice a1 xs.length c1);have j:=b.other o hC (by decide) (by decide) 1 (.slice a1 xs.length c1);have N:=F.other (p:=⟨w.heap.size,1,none⟩) (by show (w.alloc _).heap.size≠w.heap.size;rw [show (w.alloc (.cells #[.string ⟨name.toArray⟩,.slice a xs.length c] 52)).heap.size=w.heap.size+1 from by show (w.heap.push _).size=_;exact bh _];omega) (.slice a1 xs.length c1);have d:Below w.heap.size w (w1.setCell ⟨w.heap.size,1,none⟩ (.slice a1 xs.length c1)):=t.setCell (p:=⟨w.heap.size,1,none⟩) (aA _) _;have z:(w.alloc (.cells #[.string ⟨name.toArray⟩,.slice a xs.length c] 52)).heap.size=w.heap.size+1:=by show (w.heap.push _).size=_;exact bh _
 rw [z] at N;simp only [aF,aQ,aN] at A;clear q O A8 G H R o F b t;have q0:=A.cell 0;have R:=A.cell 1;simp only [aI,aH,aK] at q0 R;go_wp2_with fail;generalize w1.setCell ⟨w.heap.size,1,none⟩ (.slice a1 xs.length c1)=w2 at*;have HN:Hid (∃n,n=xs.length):=hZ9 ⟨_,rfl⟩;clear z;go_loopw [12] (fun i wr=>∃k:Nat,k<=xs.length/\i=.int .i64 k/\Ao atK 56 [9] C wr w.heap.size (.slice a1 xs.length c1) xs/\Whole wr w.heap.size 52 #[.string ⟨name.toArray⟩,.slice a1 xs.length c1]/\Whole wr (w.heap.size+1) 52 #[.string ⟨#[]⟩,.slice none 0 0]/\Below w.heap.size w wr) (fun i _=>xs.length - (intOf i).toNat)
 case atStart=>exact ⟨0,aR _,rfl,j.mono V,A,N,d⟩
 case round=>
  obtain ⟨k,hk,rfl,b,T,E,hb⟩:=hrel;clear j A N d q0 R;by_cases r:k<xs.length
  · obtain ⟨g,cap,us,e,hg,_,⟨cur,X⟩,_,c0,A9,y⟩:=b.slice r;cases e;have I:∀x,xs[k]?=some x->atK.key xs[k]=atK.key x:=fun x hx=>by rw [aJ r] at hx;cases hx;rfl
    have s:xs.set k xs[k]=xs:=fx r;have A6:=HF.out k r;have f:=fun w' (h:Ao atK 56 [9] C w' w.heap.size (.slice (some ⟨g,0,none⟩) xs.length c1) xs) (u:Value) (hu:atK.El (okT [9] C w') w' u (xs[k]'r))=>Ao.stored hC (by decide) rfl h k (xs[k]'r) I u hu;rw [s] at f;change wr.cell? ⟨g,k*2,none⟩=some (Ac xs[k].typ) at c0;change ∀w',_->∀u,Aj (okT [9] C w') w' u xs[k].vals->_ at f;change Aj (okT [9] C wr) wr us xs[k].vals at y;generalize xs[k]=x at*;obtain ⟨ty,vals⟩:=x;simp only at c0 y A6 f;obtain ⟨a2,p2,rfl,_⟩:=Ad.form y;unfold Ac at c0;clear I s;have m:=Af wr (.cells #[.string ⟨ty.toArray⟩,.slice a2 vals.length p2] 56);have Z:=Whole.made wr 56 #[.string ⟨ty.toArray⟩,.slice a2 vals.length p2];have t:=hb.trans (m.mono hb.size);have S:=b.call m;have o:=T.call m;have F:=E.call m;have l:Whole wr g 56 cur:=X;have K:=l.call m;have B0:=fun w' h=>PD (.slice a2 vals.length p2) vals w' h A6;have J:=(Aj.strs (ok:=okT [9] C wr) y).call m (aA _);have q:=B0 (wr.alloc (.cells #[.string ⟨ty.toArray⟩,.slice a2 vals.length p2] 56)).drew (J.call (Below.refl _ _).drew (aA _));unfold Il at q;have d1:(wr.alloc (.cells #[.string ⟨ty.toArray⟩,.slice a2 vals.length p2] 56)).drew.cell? ⟨wr.heap.size,1,none⟩=some (.slice a2 vals.length p2):=Z.cell 1;have d0:(wr.alloc (.cells #[.string ⟨ty.toArray⟩,.slice a2 vals.length p2] 56)).drew.cell? ⟨w.heap.size,1,none⟩=some (.slice (some ⟨g,0,none⟩) xs.length c1):=o.cell 1;have i0:(0:Int)<=(k:Int):=by omega
    have i1:(k:Int)<(xs.length:Int):=by omega
    have B6:g<wr.heap.size:=l.lt;have B5:w.heap.size+1≠g:=fun e=>by have h1:Whole wr (w.heap.size+1) _ _:=E;have h2:Whole wr g _ _:=l;rw [e] at h1;unfold Whole at h1 h2;rw [h1] at h2;cases h2
    have A1:w.heap.size≠g:=fun e=>by have h1:Whole wr w.heap.size _ _:=T;have h2:Whole wr g _ _:=l;rw [e] at h1;unfold Whole at h1 h2;rw [h1] at h2;cases h2
    generalize hL:vals.length=L at*;have d2:(wr.alloc (.cells #[.string ⟨ty.toArray⟩,.slice a2 L p2] 56)).drew.cell? ⟨g,k*2+1,none⟩=some (.slice a2 L p2):=Ab A9 m.drew;have hsz:(wr.alloc (.cells #[.string ⟨ty.toArray⟩,.slice a2 L p2] 56)).drew.heap.size=wr.heap.size+1:=by show (wr.heap.push _).size=_;exact bh _
    have U:wr.heap.size≠g:=by omega
    clear B0 Z J y T E b m;go_wp2_with fail;clear c0 A9
    go_region_held3 (fun W=>W.cell? ⟨w.heap.size,1,none⟩=some (.slice (some ⟨g,0,none⟩) xs.length c1)/\W.cell? ⟨wr.heap.size,1,none⟩=some (.slice a2 L p2))
     (first | exact ⟨d0,d1⟩ | exact ⟨Ab d0 d,Ab d1 d⟩ | exact ⟨(World.cell?_setCell_far _ ⟨g,k*2+1,none⟩ ⟨w.heap.size,1,none⟩ _ (fun e=>A1 e.symm)).trans (Ab d0 d),(World.cell?_setCell_far _ ⟨g,k*2+1,none⟩ ⟨wr.heap.size,1,none⟩ _ (fun e=>U e.symm)).trans (Ab d1 d)⟩ | go_keep)
     (first | (go_at_call 83;(with_reducible refine q.mono ?_);rintro e w3 ⟨v3,rfl,j,d⟩;obtain ⟨a3,c3,rfl⟩:=j.form;have hcur3:=K.drew.call d;have z1:=Ab d2 d;have z2:=hcur3.thaw (k*2+1)))
    have M:=(Below.refl (wr.alloc (.cells #[.string ⟨ty.toArray⟩,.slice a2 L p2] 56)).heap.size (wr.alloc (.cells #[.string ⟨ty.toArray⟩,.slice a2 L p2] 56))).drew;have Q:=(S.call M).call d;have A2:=j.typed (Ts:=[9]) (B:=C) (ak.2 rfl);rw [hL] at A2;obtain ⟨Y,B4⟩:=f w3 Q _ A2;have B2:=((o.drew).call d).other (p:=⟨g,k*2+1,none⟩) A1 (.slice a3 L c3);have B1:=((F.drew).call d).other (p:=⟨g,k*2+1,none⟩) B5 (.slice a3 L c3);have B3:=((Aa t M).trans (d.mono (Aa t M).size)).trans B4;go_wp2_with fail;go_roundw
    case rel=>exact ⟨k+1,by omega,by go_num,Y,B2,B1,B3⟩
    case measure=>simp [intOf];omega
  · have q0:=T.cell 0;have R:=T.cell 1;have r0:=E.cell 0;have r1:=E.cell 1;have s0:=E.thaw 0;have s1:=E.thaw 1;simp only [aI,aH,aK] at q0 R r0 r1;have hA:=E.put 0 (.string ⟨name.toArray⟩);have A5:=b.other E (by omega) (by decide) (by decide) 0 (.string ⟨name.toArray⟩);simp only [aF,aN] at hA;have hB:=hA.put 1 (.slice a1 xs.length c1);have A7:=A5.other hA (by omega) (by decide) (by decide) 1 (.slice a1 xs.length c1);simp only [aF,aQ,aN] at hB;have A4:Below w.heap.size w ((wr.setCell ⟨w.heap.size+1,0,none⟩ (.string ⟨name.toArray⟩)).setCell ⟨w.heap.size+1,1,none⟩ (.slice a1 xs.length c1)):=(hb.setCell (p:=⟨w.heap.size+1,0,none⟩) (by show w.heap.size<=w.heap.size+1;omega) _).setCell (p:=⟨w.heap.size+1,1,none⟩) (by show w.heap.size<=w.heap.size+1;omega) _;have y0:=hB.cell 0;have y1:=hB.cell 1;simp only [aI,aH,aK] at y0 y1;go_wp2_with fail
    (try simp only [Exit.inBlock,Exit.then])
    refine bodyPost_ret (v:=.agg #[.string ⟨name.toArray⟩,.slice a1 xs.length c1]) ?_ rfl ⟨_,rfl,A7,A4⟩;clear hA A5 hB A7 A4 b T E hb;generalize (wr.setCell ⟨w.heap.size+1,0,none⟩ (.string ⟨name.toArray⟩)).setCell ⟨w.heap.size+1,1,none⟩ (.slice a1 xs.length c1)=wf at*;rw [BM rfl];go_simp
end
section
open Go.RowKit
theorem Own.made0 (w:World):Own (w.alloc (.cells #[] 9)) w.heap.size (.slice (some ⟨w.heap.size,0,none⟩) 0 0) []:=World.ownsRow_made w #[] 0 (aA _) (aR _) rfl
theorem Af2 (w:World):(Instr.buildSlice 23 0 #[]).run prog w=.ok (.slice (some ⟨w.heap.size,0,none⟩) 0 0) (w.alloc (.cells #[] 9)):=by obtain ⟨i0,c,a,b,d⟩:=info_parts Hq;simp [Instr.buildSlice,run_underlying underlying23,sizeOf,typeInfo,c,newRow,Instr.fill];have e:∀f:Nat->Value,Array.map f (Array.range 0)=#[]:=fun f=>Array.eq_empty_of_size_eq_zero (by simp);rw [e]
end
section
open Go.RowKit
theorem KE (l:List EnS.En):l.length<=EnS.AC EnS.cE l:=EnS.LW (fun x=>by unfold EnS.cE;omega) l
theorem Pn (l:List EnS.At):l.length<=EnS.AC EnS.cA l:=EnS.LW (fun x=>by unfold EnS.cA;omega) l
def Us (xs:List EnS.En) (w:World) (e:Ending) (w':World):Prop:=∃b,e=.returned (.bool b)/\w=w'/\(b=true->EnS.AC EnS.cE xs<=3000)
theorem NL (n:Nat):Int.tdiv (n:Int) 100=((n / 100:Nat):Int):=rfl
theorem Ae2 (v:Value) (xs:List EnS.En) (w:World) (h:Cm w v xs) (hN:EnS.AC EnS.cE xs<=1048576):Calls prog 52 #[v] w (Us xs w):=by
 obtain ⟨a,c,rfl,hc,S⟩:=Ad.at h;have B4:=hZ9 S;have hl:=KE xs;have A7:=hZ9 (fun k (h:k<xs.length)=>EnS.KJ (f:=EnS.cE) h);have X:=hZ9 (fun k=>EnS.OA (f:=EnS.cE) xs k);clear S h;generalize hn:xs.length=n at hc hl⊢;have HN:=hZ9 hn;clear hn;go_enter func52,ntmps52;go_wp2_with fail;go_loop [3,9] (fun m i=>∃k:Nat,k<=n/\i=.int .i64 k/\m=.int .i64 (EnS.AC EnS.cE (xs.take k):Nat)/\(0<k->EnS.AC EnS.cE (xs.take k)<=3000)) (fun _ i=>n - (intOf i).toNat)
 case atStart=>exact ⟨0,aR _,rfl,rfl,fun h=>absurd h (gK 0)⟩
 case round=>
  obtain ⟨k,hk,rfl,rfl,h3⟩:=hrel;have B5:=X.out k;by_cases A9:k<n
  · have b:k<xs.length:=by rw [HN.out];exact A9
    have B0:=A7.out k b;have C2:=X.out (k+1);obtain ⟨g,o,rfl,hg,_,hra⟩:=B4.out k b;obtain ⟨c0,a1,p1,c1,P,d⟩:=Df.parts hra;have J:EnS.cE xs[k]=1+xs[k].name.length / 100+EnS.AC EnS.cA xs[k].attrs:=rfl;clear hra;generalize xs[k]=x at*;clear b;obtain ⟨name,attrs⟩:=x;simp only at c0 c1 P d J;have V:=Ad.at d;obtain ⟨_,_,e1,_,u⟩:=V;cases e1;have Q:=hZ9 u;have B2:=Pn attrs;have A1:=hZ9 (fun k (h:k<attrs.length)=>EnS.KJ (f:=EnS.cA) h);have r:=hZ9 (fun k=>EnS.OA (f:=EnS.cA) attrs k);clear u d;have hq:=NL name.length;generalize A3:name.length / 100=q at*;generalize B:EnS.AC EnS.cE (xs.take (k+1))=S1 at*;have A2:=hZ9 B;clear B;generalize EnS.AC EnS.cE (xs.take k)=S0 at*;generalize EnS.AC EnS.cE xs=SS at*;generalize T:EnS.AC EnS.cA attrs=SA at*;have A5:=hZ9 T;clear T A3;rw [J] at B0;clear J;generalize W:attrs.length=n1 at c1 P B2⊢;have K:=hZ9 W;clear W;go_wp2_with fail;go_loop [3,28] (fun m i=>∃j:Nat,j<=n1/\i=.int .i64 j/\m=.int .i64 (S0+1+q+EnS.AC EnS.cA (attrs.take j):Nat)) (fun _ i=>n1 - (intOf i).toNat)
    case atStart=>exact ⟨0,aR _,rfl,by simp [EnS.AC]⟩
    case round=>
     obtain ⟨j,hj,rfl,rfl⟩:=hrel;have C1:=r.out j;by_cases Y:j<n1
     · have b:j<attrs.length:=by rw [K.out];exact Y
       have I:=A1.out j b;have C0:=r.out (j+1);obtain ⟨g1,o1,rfl,B6,_,F⟩:=Q.out j b;obtain ⟨d0,a2,p2,d1,R,l⟩:=BH.parts F;have H:EnS.cA attrs[j]=1+attrs[j].vals.length+EnS.AC EnS.cV attrs[j].vals:=rfl;clear F;generalize attrs[j]=y at*;clear b;obtain ⟨ty,vals⟩:=y;simp only at d0 d1 R l H;obtain ⟨_,_,e2,_,E⟩:=Ad.at l;cases e2;have Z:=hZ9 E;have O:=hZ9 (fun k (h:k<vals.length)=>EnS.KJ (f:=EnS.cV) h);have C:=hZ9 (fun k=>EnS.OA (f:=EnS.cV) vals k);clear E l;generalize p:EnS.AC EnS.cA (attrs.take (j+1))=T1 at*;have B3:=hZ9 p;clear p;generalize EnS.AC EnS.cA (attrs.take j)=T0 at*;generalize U:EnS.AC EnS.cV vals=SV at*;have A8:=hZ9 U;clear U;rw [H] at I;clear H;generalize N:vals.length=n2 at d1 R I⊢;have M:=hZ9 N;clear N;go_wp2_with fail;go_loop [3,54] (fun m i=>∃t:Nat,t<=n2/\i=.int .i64 t/\m=.int .i64 (S0+1+q+T0+1+n2+EnS.AC EnS.cV (vals.take t):Nat)) (fun _ i=>n2 - (intOf i).toNat)
       case atStart=>exact ⟨0,aR _,rfl,by simp [EnS.AC]⟩
       case round=>
        obtain ⟨t,ht,rfl,rfl⟩:=hrel;have B8:=C.out t;by_cases A0:t<n2
        · have b:t<vals.length:=by rw [M.out];exact A0
          have L:=O.out t b;have B7:=C.out (t+1);obtain ⟨g2,o2,rfl,C3,_,A⟩:=Z.out t b;have r0:w.cell? ⟨g2,o2+t,none⟩=some (Ac vals[t]):=by
           have:w.cell? ⟨g2,o2+t*1,none⟩=some (Ac vals[t]):=A
           rwa [cK] at this
          unfold Ac at r0;have B1:EnS.cV vals[t]=vals[t].length / 100:=rfl;clear A;generalize vals[t]=z at*;clear b;have B9:=NL z.length;rw [B1] at L;generalize z.length / 100=q2 at*;generalize s:EnS.AC EnS.cV (vals.take (t+1))=V1 at*;have A4:=hZ9 s;clear s;generalize EnS.AC EnS.cV (vals.take t)=V0 at*;go_wp2_with fail;go_round
          case rel=>exact ⟨t+1,by omega,by go_num,by rw [A4.out];subst L;go_num⟩
          case measure=>simp [intOf];omega
        · have G:t=n2:=by omega
          subst G;have e:vals.take t=vals:=ag (by rw [M.out];omega);rw [e,A8.out];go_wp2_with fail;go_round
          case rel=>exact ⟨j+1,by omega,by go_num,by rw [B3.out];subst I;go_num⟩
          case measure=>simp [intOf];omega
     · have G:j=n1:=by omega
       subst G;have e:attrs.take j=attrs:=ag (by rw [K.out];omega);rw [e,A5.out];have A6:S0+1+q+SA=S1:=by omega
       rw [A6];by_cases h3000:3000<S1
       · have hz:(3000:Int)<(S1:Int):=by omega
         go_wp2_with fail;go_ret;exact ⟨false,rfl,rfl,fun h=>by cases h⟩
       · have hz:decide ((3000:Int)<(S1:Int))=false:=aC (by omega);go_wp2_with fail;go_round
         case rel=>exact ⟨k+1,by omega,by go_num,by rw [A2.out],fun _=>by rw [A2.out];omega⟩
         case measure=>simp [intOf];omega
  · have e:xs.take k=xs:=ag (by rw [HN.out];omega);rw [e] at h3;have HR:Hid (EnS.AC EnS.cE xs<=3000):=hZ9 (by
     rcases bT k with h0 | h0
     · have:xs=[]:=aW (by rw [HN.out];omega);rw [this];decide
     · exact h3 h0)
    go_wp2_with fail;go_ret;exact ⟨true,rfl,rfl,fun _=>HR.out⟩
end
section
open Go.RowKit
theorem Whole.grown {α:Type} {L:KLay α} {T a:TypeId} {Ts:List TypeId} {w w':World} {C B g:Nat} {v:Value} {xs:List α} {cs:Array Value} (h:Whole w g a cs) (b:Ao L T Ts C w B v xs) (d:T≠a) (f:w.grownBy w' v.ownBlock):Whole w' g a cs:=by refine (f.block g h.lt (fun e=>?_)).trans h;obtain ⟨i,h1,_⟩:=b;obtain ⟨c,fz,h2⟩:=Lib.ownsRow_kind h1 g e.symm;unfold Whole at h;rw [h] at h2;cases h2;exact d rfl
theorem Own.nilOf {w:World} {B:Nat} {v:Value} {xs:List (List UInt8)} (h:Own w B v ([]++xs)):Own w B v xs:=h
end
end Go.Proofs.YtgngjfjaelgaeaaGreatDoor
