/- The walks of entries that are copied: slices.Clone of attributes, the program's Copy. Conditions: as stated. -/
import Derived.Test.YtgngjfjaelgaeaaGreatDoorKEna
set_option maxRecDepth 100000
set_option maxHeartbeats 4000000
namespace Go.Proofs.YtgngjfjaelgaeaaGreatDoor
section
open Go.RowKit
def VD:Go.Shelf.Ren:=⟨fun | 41=>82 | n=>n,fun | 22=>50 | 23=>56 | 4=>4 | n=>n,fun | n=>n⟩
theorem WP:Go.Proofs.SlLaysE0.n41 Tryz.prog VD:={
 mixed:=by kernel_rfl
 f41:=⟨Tryz.f82.name,by decide,Tryz.func82.trans (congrArg some (by kernel_rfl))⟩
 t4:=Tryz.underlying4
 a4:=Tryz.isAgg4
 z4:=Tryz.sizeOf4
 v4:=Tryz.zeroValue4
 t22:=Tryz.underlying50
 a22:=Tryz.isAgg50
 z22:=Tryz.sizeOf50
 v22:=Tryz.zeroValue50 }
theorem NQ:(Tryz.prog.info? 56).map (fun i=>(i.zero,i.size,i.bytes))=some (some (.agg #[.string ⟨#[]⟩,.slice none 0 0]),2,40):=by kernel_rfl
theorem QD {α:Type} (L:KLay α):∀(xs:List α) (us:List Value) (j:Nat) (u:Value),(flatK L xs us)[j]?=some u->(∃i x z,j=i*2/\xs[i]?=some x/\us[i]?=some z/\u=Ac (L.key x))\/(∃i x,j=i*2+1/\xs[i]?=some x/\us[i]?=some u)
 | [],_,j,u,h=>by simp [flatK] at h
 | _ :: _,[],j,u,h=>by simp [flatK] at h
 | y :: xs,z :: us,0,u,h=>.inl ⟨0,y,z,rfl,rfl,rfl,by simpa [flatK] using h.symm⟩
 | y :: xs,z :: us,1,u,h=>.inr ⟨0,y,rfl,rfl,by simpa [flatK] using h⟩
 | y :: xs,z :: us,j+2,u,h=>by
  rcases QD L xs us j u (by simpa [flatK] using h) with ⟨i,x,v,e,h1,h2,h3⟩ | ⟨i,x,e,h1,h2⟩
  · exact .inl ⟨i+1,x,v,by omega,by simpa using h1,by simpa using h2,h3⟩
  · exact .inr ⟨i+1,x,by omega,by simpa using h1,by simpa using h2⟩
theorem AbV {α:Type} (L:KLay α) {ok:Nat->Prop} {w:World} {xs:List α} {g o:Nat} (h:∀(j:Nat) (x:α),xs[j]?=some x->w.cell? ⟨g,o+j*2,none⟩=some (Ac (L.key x))/\∃u,w.cell? ⟨g,o+j*2+1,none⟩=some u/\L.El ok w u x):
  ∃us:List Value,us.length=xs.length/\(∀j u,(flatK L xs us)[j]?=some u->w.cell? ⟨g,o+j,none⟩=some u/\u.oneCell'=true)/\∀(i:Nat) (u:Value) (x:α),us[i]?=some u->xs[i]?=some x->L.El ok w u x:=by
 have H:∀i:Fin xs.length,∃u,w.cell? ⟨g,o+i.1*2+1,none⟩=some u/\L.El ok w u xs[i.1]:=fun i=>(h i.1 _ (List.getElem?_eq_getElem i.2)).2
 obtain ⟨f,hf⟩:=Classical.axiomOfChoice H
 have A0:∀(i:Nat) (x:α) (u:Value),xs[i]?=some x->(List.ofFn f)[i]?=some u->∃hi:i<xs.length,u=f ⟨i,hi⟩/\x=xs[i]:=fun i x u hx hu=>by
  obtain ⟨hi,e⟩:=List.getElem?_eq_some_iff.1 hx
  refine ⟨hi,?_,e.symm⟩
  rw [List.getElem?_ofFn] at hu
  simp [hi] at hu
  exact hu.symm
 refine ⟨List.ofFn f,by simp,fun j u hj=>?_,fun i u x hu hx=>?_⟩
 · rcases QD L xs _ j u hj with ⟨i,x,z,rfl,hx,hz,rfl⟩ | ⟨i,x,rfl,hx,hu⟩
   · exact ⟨(h i x hx).1,rfl⟩
   · obtain ⟨hi,rfl,rfl⟩:=A0 i x u hx hu
     have:=hf ⟨i,hi⟩
     exact ⟨by rw [<-Nat.add_assoc];exact this.1,L.one this.2⟩
 · obtain ⟨hi,rfl,rfl⟩:=A0 i x u hx hu
   exact (hf ⟨i,hi⟩).2
theorem IR {α:Type} (L:KLay α):∀(xs:List α) (us:List Value),us.length=xs.length->(flatK L xs us).length=xs.length*2
 | [],[],_=>rfl
 | [],_ :: _,h=>by simp at h
 | _ :: _,[],h=>by simp at h
 | y :: xs,z :: us,h=>by
  have:=IR L xs us (by simpa using h)
  simp [flatK,this];omega
def Ae7 {α:Type} (L:KLay α) (T:TypeId) (Ts:List TypeId) (C:Nat) (xs:List α) (w:World) (e:Ending) (w':World):Prop:=∃v,e=.returned v/\Av L T Ts C w' w.heap.size v xs/\Below w.heap.size w w'
theorem Tf (a:Addr) (c:Nat) (w:World):Calls Tryz.prog 82 #[.slice (some a) 0 c] w fun e w'=>∃v',e=.returned v'/\w'.ownsRow w.heap.size 56 2 v' 0 []/\Below w.heap.size w w':=by
 obtain ⟨i0,hi,A3,A2,A4⟩:=info_parts NQ
 have A5:∀(w:World) (a:Option Addr) (n c n' c':Nat),(binOp .eql 50 (.slice a n c) (.slice none n' c')).run Tryz.prog w=.ok (.bool a.isNone) w:=fun w a n c n' c'=>Lib.run_eql_slice_nil w _ _ a n c n' c' Tryz.underlying50
 go_enter Tryz.func82,Tryz.ntmps82
 go_wp2_with (at_builtin;refine wpList_append_own _ rfl _ _ 50 rfl w.heap.size 56 i0 _ 2 40 Tryz.underlying50 hi A3 A2 A4 rfl (by decide) _ _ _ rfl (World.ownsRow_made w #[] 0 (Nat.le_refl _) (Nat.zero_le _) rfl) a 0 c [] rfl rfl (by intro j u hj;simp at hj) (by intro u hu;simp at hu) (by unfold maxLen;omega) (by omega) (by simp) ?_)
 intro v' w1 A1 A0 _
 go_wp2_with fail
 go_ret
 exact ⟨v',rfl,by simpa using A1,((Below.refl _ w).alloc (Nat.le_refl _) _).grown A0 (by simp) (by intro k hk;simp [Value.ownBlock] at hk;omega)⟩
theorem Ap.callT {w w':World} {B:Nat} {u:Value} {xs:List (List UInt8)} {Ts:List TypeId} (h:Ap (okT Ts B w) w u xs) (hb:Below w.heap.size w w'):Ap (okT Ts B w') w' u xs:=h.keep hb.size (fun g hg _=>hb.block g hg) (fun g hg A0=>A0.same (hb.block g hg))
def FI (Ts:List TypeId) (C:Nat) (w:World) (u:Value) (xs:List EnS.At):Prop:=Ae 2 (Bl (okT Ts C w)) (fun _=>True) w u xs
theorem Bl.callE {w w':World} {C g o:Nat} {x:EnS.At} {Ts:List TypeId} (h:Bl (okT Ts C w) w g o x) (hg:g<w.heap.size) (hb:Below w.heap.size w w'):Bl (okT Ts C w') w' g o x:=by
 obtain ⟨h1,u,h2,h3⟩:=h
 exact ⟨(hb.cell (p:=⟨g,o,none⟩) hg).trans h1,u,(hb.cell (p:=⟨g,o+1,none⟩) hg).trans h2,Ap.callT h3 hb⟩
theorem FI.callT {w w':World} {C:Nat} {u:Value} {xs:List EnS.At} {Ts:List TypeId} (h:FI Ts C w u xs) (hb:Below w.heap.size w w'):FI Ts C w' u xs:=
 Ae.imp h hb.size (fun _ _ h=>h) fun _ _ _ hg _ hx=>hx.callE hg hb
theorem Ao.exp {w:World} {C:Nat} {u:Value} {xs:List EnS.At} {Ts:List TypeId} (h:Ao (okT Ts C w) w u xs):FI Ts C w u xs:=Ae.imp h (Nat.le_refl _) (fun _ _ _=>trivial) fun _ _ _ _ _ hx=>hx
theorem Av.attrsE {T:TypeId} {Ts:List TypeId} {C:Nat} {w:World} {B:Nat} {v:Value} {xs:List EnS.At} (h:Av atK T Ts C w B v xs):FI Ts C w v xs:=by
 obtain ⟨us,h1,h2,h3⟩:=h
 rcases h1.2 with ⟨rfl,hn⟩ | ⟨g,cap,cur,rfl,hg,hh,hn,hm,hsz,A2⟩
 · exact ⟨none,0,by rw [hn],by omega,.inl (List.eq_nil_of_length_eq_zero hn)⟩
 · refine ⟨some ⟨g,0,none⟩,cap,rfl,hn,.inr ⟨g,0,rfl,(Array.getElem?_eq_some_iff.1 hh).1,trivial,fun j x hj=>?_⟩⟩
   have A1:j<us.length:=by rw [h2];exact (List.getElem?_eq_some_iff.1 hj).1
   have hu:=List.getElem?_eq_getElem A1
   obtain ⟨f0,f1⟩:=GK atK xs us j x _ hj hu
   have c0:=World.ownsRow.cells h1 (g:=g) rfl (j*2) _ f0
   have c1:=World.ownsRow.cells h1 (g:=g) rfl (j*2+1) _ f1
   have A0:∀i,(⟨g,0,none⟩:Addr).add i=⟨g,0+i,none⟩:=fun i=>by unfold Addr.add;split <;> simp_all
   rw [A0] at c0 c1
   exact ⟨c0,us[j],c1,h3 j _ x hu hj⟩
theorem Zx (Ts:List TypeId) (C:Nat) (v:Value) (xs:List EnS.At) (w:World) (h:FI Ts C w v xs) (hl:xs.length<=1048576):Calls Tryz.prog 82 #[v] w (Ae7 atK 56 Ts C xs w):=by
 obtain ⟨a,c,rfl,hc,A0⟩:=h
 obtain ⟨i0,hi,A6,A4,A7⟩:=info_parts NQ
 cases a with
 | none=>
  have h0:xs=[]:=by
   rcases A0 with h | ⟨g,o,e,_⟩
   · exact h
   · cases e
  subst h0
  refine (AnyE.slices_Clone_nil WP _ _ w).mono ?_
  rintro e w' ⟨rfl,rfl⟩
  exact ⟨_,rfl,Av.empty _ _ _ _ _ _,Below.refl _ _⟩
 | some ad=>
  have A8:=fun g o cap (us:List Value) (A1:us.length=xs.length) A2 h1=>AnyE.slices_Clone WP i0 _ 2 40 hi A6 A4 A7 (by rfl) (by decide) Tryz.sizeOf56 g o xs.length cap (flatK atK xs us) w (IR atK xs us A1) (by unfold maxLen;omega) (by omega) A2 h1
  rcases A0 with rfl | ⟨g,o,e,hg,_,hcell⟩
  · refine (Tf ad c w).mono ?_
    rintro e w' ⟨v',rfl,ho,hb⟩
    exact ⟨_,rfl,⟨[],ho,rfl,fun i u x hu=>by simp at hu⟩,hb⟩
  · cases e
    obtain ⟨us,A1,A2,A5⟩:=AbV atK hcell
    refine (A8 g o c us A1 (fun j u hj=>(A2 j u hj).1) (fun u hu=>?_)).mono ?_
    · obtain ⟨j,hj,rfl⟩:=List.mem_iff_getElem.1 hu
      exact (A2 j _ (List.getElem?_eq_getElem hj)).2
    · rintro e w' ⟨v',rfl,ho,_,hb⟩
      exact ⟨_,rfl,⟨us,ho,A1,fun i u x hu hx=>atK.keep (A5 i u x hu hx) hb.size (fun g hg _=>hb.block g hg) (fun g hg A3=>A3.same (hb.block g hg))⟩,hb⟩
theorem Av.other {α:Type} {L:KLay α} {T:TypeId} {Ts:List TypeId} {C:Nat} {w:World} {B:Nat} {v:Value} {xs:List α} (h:Av L T Ts C w B v xs) {g:Nat} {T':TypeId} {cs:Array Value} (hw:Whole w g T' cs) (hg:C<=g) (hT:T' ∉ Ts) (A2:T≠T') (i:Nat) (y:Value):Av L T Ts C (w.setCell ⟨g,i,none⟩ y) B v xs:=by
 obtain ⟨us,h1,h2,h3⟩:=h
 have A0:w.grownBy (w.setCell ⟨g,i,none⟩ y) (some g):=⟨rfl,rfl,rfl,by simp [World.setCell],fun k _ hk=>Below.heap_setCell w ⟨g,i,none⟩ y k (fun e=>hk (by rw [e]))⟩
 have A1:v.ownBlock≠some g:=fun e=>by
  obtain ⟨c,fz,h⟩:=Lib.ownsRow_kind h1 g e
  unfold Whole at hw
  rw [hw] at h
  cases h
  exact A2 rfl
 have hblk:∀k,okT Ts C w k->(w.setCell ⟨g,i,none⟩ y).heap[k]?=w.heap[k]?:=fun k hk=>by
  refine Below.heap_setCell w ⟨g,i,none⟩ y k (fun e=>?_)
  subst e
  rcases hk with hk | ⟨c,T2,fz,hk,ht⟩
  · exact absurd hg (Nat.not_le_of_lt hk)
  · unfold Whole at hw
    rw [hw] at hk
    cases hk
    exact hT ht
 exact ⟨us,World.ownsRow.kept h1 A0 (.inr A1),h2,fun j u x hu hx=>L.keep (h3 j u x hu hx) A0.size (fun k _ hk=>hblk k hk) (fun k _ hk=>hk.same (hblk k hk))⟩
theorem Av.alloc {α:Type} {L:KLay α} {T:TypeId} {Ts:List TypeId} {C:Nat} {w:World} {B:Nat} {v:Value} {xs:List α} (h:Av L T Ts C w B v xs) (o:Obj):Av L T Ts C (w.alloc o) B v xs:=h.call (Af w o)
theorem Own.typed {w:World} {B0 B:Nat} {v:Value} {xs:List (List UInt8)} (h:Own w B0 v xs) {Ts:List TypeId} (hT:9 ∈ Ts):Ap (okT Ts B w) w v xs:=h.strs.strsP _ (fun g hg=>by
 obtain ⟨c,fz,e⟩:=Lib.ownsRow_kind h g hg
 exact .inr ⟨c,_,fz,e,hT⟩)
theorem Ao.base {w:World} {u:Value} {xs:List EnS.At} (h:BK w u xs) (Ts:List TypeId):Ao (okT Ts w.heap.size w) w u xs:=h.keep (Nat.le_refl _) (fun _ _ _=>rfl) (fun _ hg _=>.inl hg)
theorem Ao.callT {w w':World} {B:Nat} {u:Value} {xs:List EnS.At} {Ts:List TypeId} (h:Ao (okT Ts B w) w u xs) (hb:Below w.heap.size w w'):Ao (okT Ts B w') w' u xs:=h.keep hb.size (fun g hg _=>hb.block g hg) (fun g hg A0=>A0.same (hb.block g hg))
end
section
open Go.RowKit
theorem Bv {fn:Func} {p:Tmp} {ty:TypeId} (h:fn.results=#[.cell p ty]) (tmps:Array Value) (P:Program) (w:World):
  (results fn tmps).run P w=((asAddr (tmps.getD p undef)).run P w).andThen fun a w₁=>(loadVar ty a).run P w₁:=by
 simp only [results,h]
 simp [Sem.run_bind]
def JD (C:Nat) (name:List UInt8) (xs:List EnS.At) (w:World) (e:Ending) (w':World):Prop:=∃u,e=.returned (.agg #[.string ⟨name.toArray⟩,u])/\Av atK 56 [9] C w' w.heap.size u xs/\Below w.heap.size w w'
theorem Av.slice {α:Type} {L:KLay α} {T:TypeId} {Ts:List TypeId} {C:Nat} {w:World} {B:Nat} {v:Value} {xs:List α} (h:Av L T Ts C w B v xs) {k:Nat} (hk:k<xs.length):∃g cap us,v=.slice (some ⟨g,0,none⟩) xs.length cap/\B<=g/\xs.length<=cap/\(∃cur:Array Value,w.heap[g]?=some (.cells cur T (0,0)))/\(us:Value)=us/\w.cell? ⟨g,k*2,none⟩=some (Ac (L.key (xs[k]'hk)))/\w.cell? ⟨g,k*2+1,none⟩=some us/\L.El (okT Ts C w) w us (xs[k]'hk):=by
 obtain ⟨us,h1,h2,h3⟩:=h
 rcases h1.2 with ⟨rfl,hn⟩ | ⟨g,cap,cur,rfl,hg,hh,hn,hm,hsz,A2⟩
 · omega
 · have A1:k<us.length:=by omega
   obtain ⟨f0,f1⟩:=GK L xs us k _ _ (List.getElem?_eq_getElem hk) (List.getElem?_eq_getElem A1)
   have c0:=World.ownsRow.cells h1 (g:=g) rfl (k*2) _ f0
   have c1:=World.ownsRow.cells h1 (g:=g) rfl (k*2+1) _ f1
   have A0:∀i,(⟨g,0,none⟩:Addr).add i=⟨g,i,none⟩:=fun i=>by unfold Addr.add;split <;> simp_all
   rw [A0] at c0 c1
   exact ⟨g,cap,us[k],rfl,hg,hn,⟨cur,hh⟩,rfl,c0,c1,h3 k _ _ (List.getElem?_eq_getElem A1) (List.getElem?_eq_getElem hk)⟩
attribute [local go_sem ↓] Go.wp_at_zero Go.wp_at_succ
theorem Ti (C:Nat) (name:List UInt8) (xs:List EnS.At) (u:Value) (w:World) (hC:C<=w.heap.size) (h:FI [9] C w u xs) (hf:GP xs):Calls Tryz.prog 48 #[.agg #[.string ⟨name.toArray⟩,u]] w (JD C name xs w):=by
 have hb0:=Af w (.cells #[.string ⟨name.toArray⟩,u] 52)
 have D3:=Whole.made w 52 #[.string ⟨name.toArray⟩,u]
 have C8:=Af (w.alloc (.cells #[.string ⟨name.toArray⟩,u] 52)) (.cells #[.string ⟨#[]⟩,.slice none 0 0] 52)
 have C0:=Aa hb0 C8
 have C9:=C0.size
 have C2:=D3.call C8
 have D2:=Whole.made (w.alloc (.cells #[.string ⟨name.toArray⟩,u] 52)) 52 #[.string ⟨#[]⟩,.slice none 0 0]
 have D7:=h.callT C0
 have B0:=Zx [9] C u xs _ D7 hf.1
 have E8:xs.length<=1048576:=hf.1
 have HF:=hZ9 (fun k (hk:k<xs.length)=>(hf.2 _ (List.getElem_mem hk)).1)
 unfold Ae7 at B0
 obtain ⟨a,c,rfl,_⟩:=Ae.form h
 clear hb0 D3 C8 h D7
 have q1:=C2.cell 1
 simp only [List.getElem?_toArray,List.getElem?_cons_zero,List.getElem?_cons_succ] at q1
 go_enter Tryz.func48,Tryz.ntmps48
 go_wp2_with fail
 refine B0.mono ?_;rintro e w1 ⟨v1,rfl,A0,B9⟩
 have A6:=C2.call B9
 have C1:=D2.call B9
 have B5:=Aa C0 B9
 obtain ⟨a1,c1,rfl⟩:=A0.form
 have q2:=A6.cell 1
 simp only [List.getElem?_toArray,List.getElem?_cons_zero,List.getElem?_cons_succ] at q2
 have t2:=A6.thaw 1
 have B4:=A6.put 1 (.slice a1 xs.length c1)
 have A2:=A0.other A6 hC (by decide) (by decide) 1 (.slice a1 xs.length c1)
 have C4:=C1.other (p:=⟨w.heap.size,1,none⟩) (by show (w.alloc _).heap.size≠w.heap.size;rw [show (w.alloc (.cells #[.string ⟨name.toArray⟩,.slice a xs.length c] 52)).heap.size=w.heap.size+1 from by show (w.heap.push _).size=_;exact Array.size_push _];omega) (.slice a1 xs.length c1)
 have A4:Below w.heap.size w (w1.setCell ⟨w.heap.size,1,none⟩ (.slice a1 xs.length c1)):=B5.setCell (p:=⟨w.heap.size,1,none⟩) (Nat.le_refl _) _
 have A8:(w.alloc (.cells #[.string ⟨name.toArray⟩,.slice a xs.length c] 52)).heap.size=w.heap.size+1:=by show (w.heap.push _).size=_;exact Array.size_push _
 rw [A8] at C4
 simp only [List.setIfInBounds_toArray,List.set_cons_succ,List.set_cons_zero] at B4
 clear B0 C2 D2 C0 B9 q1 A6 C1 A0 B5
 have q0:=B4.cell 0
 have q1:=B4.cell 1
 simp only [List.getElem?_toArray,List.getElem?_cons_zero,List.getElem?_cons_succ] at q0 q1
 go_wp2_with fail
 generalize w1.setCell ⟨w.heap.size,1,none⟩ (.slice a1 xs.length c1)=w2 at*
 have HN:Hid (∃n,n=xs.length):=hZ9 ⟨_,rfl⟩
 clear A8
 go_loopw [12] (fun i wr=>∃k:Nat,k<=xs.length/\i=.int .i64 k/\Av atK 56 [9] C wr w.heap.size (.slice a1 xs.length c1) xs/\Whole wr w.heap.size 52 #[.string ⟨name.toArray⟩,.slice a1 xs.length c1]/\Whole wr (w.heap.size+1) 52 #[.string ⟨#[]⟩,.slice none 0 0]/\Below w.heap.size w wr) (fun i _=>xs.length - (intOf i).toNat)
 case atStart=>exact ⟨0,Nat.zero_le _,rfl,A2.mono C9,B4,C4,A4⟩
 case round=>
  obtain ⟨k,hk,rfl,A0,hw,hr,hb⟩:=hrel
  clear A2 B4 C4 A4 q0 q1
  by_cases A9:k<xs.length
  · obtain ⟨g,cap,us,e,hg,_,⟨cur,C7⟩,_,c0,D5,B1⟩:=A0.slice A9
    cases e
    have B2:∀x,xs[k]?=some x->atK.key xs[k]=atK.key x:=fun x hx=>by rw [List.getElem?_eq_getElem A9] at hx;cases hx;rfl
    have A5:xs.set k xs[k]=xs:=List.set_getElem_self A9
    have D6:=HF.out k A9
    have A1:=fun w' (h:Av atK 56 [9] C w' w.heap.size (.slice (some ⟨g,0,none⟩) xs.length c1) xs) (u:Value) (hu:atK.El (okT [9] C w') w' u (xs[k]'A9))=>Av.stored hC (by decide) rfl h k (xs[k]'A9) B2 u hu
    rw [A5] at A1
    change wr.cell? ⟨g,k*2,none⟩=some (Ac xs[k].typ) at c0
    change ∀w',_->∀u,Ap (okT [9] C w') w' u xs[k].vals->_ at A1
    change Ap (okT [9] C wr) wr us xs[k].vals at B1
    generalize xs[k]=x at*
    obtain ⟨ty,vals⟩:=x
    simp only at c0 B1 D6 A1
    obtain ⟨a2,p2,rfl,_⟩:=Ae.form B1
    unfold Ac at c0
    clear B2 A5
    have A7:=Af wr (.cells #[.string ⟨ty.toArray⟩,.slice a2 vals.length p2] 56)
    have E0:=Whole.made wr 56 #[.string ⟨ty.toArray⟩,.slice a2 vals.length p2]
    have B5:=hb.trans (A7.mono hb.size)
    have B3:=A0.call A7
    have A6:=hw.call A7
    have C1:=hr.call A7
    have A3:Whole wr g 56 cur:=C7
    have B6:=A3.call A7
    have D8:=fun w' h=>OI (.slice a2 vals.length p2) vals w' h D6
    have B8:=(Ap.strs (ok:=okT [9] C wr) B1).call A7 (Nat.le_refl _)
    have B0:=D8 (wr.alloc (.cells #[.string ⟨ty.toArray⟩,.slice a2 vals.length p2] 56)).drew (B8.call (Below.refl _ _).drew (Nat.le_refl _))
    unfold Hl at B0
    have d1:(wr.alloc (.cells #[.string ⟨ty.toArray⟩,.slice a2 vals.length p2] 56)).drew.cell? ⟨wr.heap.size,1,none⟩=some (.slice a2 vals.length p2):=E0.cell 1
    have d0:(wr.alloc (.cells #[.string ⟨ty.toArray⟩,.slice a2 vals.length p2] 56)).drew.cell? ⟨w.heap.size,1,none⟩=some (.slice (some ⟨g,0,none⟩) xs.length c1):=A6.cell 1
    have i0:(0:Int)<=(k:Int):=by omega
    have i1:(k:Int)<(xs.length:Int):=by omega
    have E7:g<wr.heap.size:=A3.lt
    have E5:w.heap.size+1≠g:=fun e=>by
     have h1:Whole wr (w.heap.size+1) _ _:=hr
     have h2:Whole wr g _ _:=A3
     rw [e] at h1
     unfold Whole at h1 h2
     rw [h1] at h2
     cases h2
    have E1:w.heap.size≠g:=fun e=>by
     have h1:Whole wr w.heap.size _ _:=hw
     have h2:Whole wr g _ _:=A3
     rw [e] at h1
     unfold Whole at h1 h2
     rw [h1] at h2
     cases h2
    generalize hL:vals.length=L at*
    have d2:(wr.alloc (.cells #[.string ⟨ty.toArray⟩,.slice a2 L p2] 56)).drew.cell? ⟨g,k*2+1,none⟩=some (.slice a2 L p2):=Ab D5 A7.drew
    have hsz:(wr.alloc (.cells #[.string ⟨ty.toArray⟩,.slice a2 L p2] 56)).drew.heap.size=wr.heap.size+1:=by show (wr.heap.push _).size=_;exact Array.size_push _
    have C3:wr.heap.size≠g:=by omega
    clear D8 E0 B8 B1 hw hr A0 A7
    go_wp2_with fail
    clear c0 D5
    go_region_held3 (fun W=>W.cell? ⟨w.heap.size,1,none⟩=some (.slice (some ⟨g,0,none⟩) xs.length c1)/\W.cell? ⟨wr.heap.size,1,none⟩=some (.slice a2 L p2))
     (first | exact ⟨d0,d1⟩ | exact ⟨Ab d0 A4,Ab d1 A4⟩ | exact ⟨(World.cell?_setCell_far _ ⟨g,k*2+1,none⟩ ⟨w.heap.size,1,none⟩ _ (fun e=>E1 e.symm)).trans (Ab d0 A4),(World.cell?_setCell_far _ ⟨g,k*2+1,none⟩ ⟨wr.heap.size,1,none⟩ _ (fun e=>C3 e.symm)).trans (Ab d1 A4)⟩ | go_keep)
     (first | (go_at_call 83;(with_reducible refine B0.mono ?_);rintro e w3 ⟨v3,rfl,A2,A4⟩;obtain ⟨a3,c3,rfl⟩:=A2.form;have hcur3:=B6.drew.call A4;have z1:=Ab d2 A4;have z2:=hcur3.thaw (k*2+1)))
    have C6:=(Below.refl (wr.alloc (.cells #[.string ⟨ty.toArray⟩,.slice a2 L p2] 56)).heap.size (wr.alloc (.cells #[.string ⟨ty.toArray⟩,.slice a2 L p2] 56))).drew
    have B7:=(B3.call C6).call A4
    have D0:=A2.typed (Ts:=[9]) (B:=C) (List.mem_singleton.2 rfl)
    rw [hL] at D0
    obtain ⟨C5,E4⟩:=A1 w3 B7 _ D0
    have E3:=((A6.drew).call A4).other (p:=⟨g,k*2+1,none⟩) E1 (.slice a3 L c3)
    have E2:=((C1.drew).call A4).other (p:=⟨g,k*2+1,none⟩) E5 (.slice a3 L c3)
    have E6:=((Aa B5 C6).trans (A4.mono (Aa B5 C6).size)).trans E4
    go_wp2_with fail
    go_roundw
    case rel=>exact ⟨k+1,by omega,by go_num,C5,E3,E2,E6⟩
    case measure=>simp [intOf];omega
  · have q0:=hw.cell 0
    have q1:=hw.cell 1
    have r0:=hr.cell 0
    have r1:=hr.cell 1
    have s0:=hr.thaw 0
    have s1:=hr.thaw 1
    simp only [List.getElem?_toArray,List.getElem?_cons_zero,List.getElem?_cons_succ] at q0 q1 r0 r1
    have hA:=hr.put 0 (.string ⟨name.toArray⟩)
    have D9:=A0.other hr (by omega) (by decide) (by decide) 0 (.string ⟨name.toArray⟩)
    simp only [List.setIfInBounds_toArray,List.set_cons_zero] at hA
    have hB:=hA.put 1 (.slice a1 xs.length c1)
    have D4:=D9.other hA (by omega) (by decide) (by decide) 1 (.slice a1 xs.length c1)
    simp only [List.setIfInBounds_toArray,List.set_cons_succ,List.set_cons_zero] at hB
    have D1:Below w.heap.size w ((wr.setCell ⟨w.heap.size+1,0,none⟩ (.string ⟨name.toArray⟩)).setCell ⟨w.heap.size+1,1,none⟩ (.slice a1 xs.length c1)):=(hb.setCell (p:=⟨w.heap.size+1,0,none⟩) (by show w.heap.size<=w.heap.size+1;omega) _).setCell (p:=⟨w.heap.size+1,1,none⟩) (by show w.heap.size<=w.heap.size+1;omega) _
    have y0:=hB.cell 0
    have y1:=hB.cell 1
    simp only [List.getElem?_toArray,List.getElem?_cons_zero,List.getElem?_cons_succ] at y0 y1
    go_wp2_with fail
    (try simp only [Exit.inBlock,Exit.then])
    refine bodyPost_ret (v:=.agg #[.string ⟨name.toArray⟩,.slice a1 xs.length c1]) ?_ rfl ⟨_,rfl,D4,D1⟩
    clear hA D9 hB D4 D1 A0 hw hr hb
    generalize (wr.setCell ⟨w.heap.size+1,0,none⟩ (.string ⟨name.toArray⟩)).setCell ⟨w.heap.size+1,1,none⟩ (.slice a1 xs.length c1)=wf at*
    rw [Bv rfl]
    go_simp
end
section
open Go.RowKit
theorem Own.made0 (w:World):Own (w.alloc (.cells #[] 9)) w.heap.size (.slice (some ⟨w.heap.size,0,none⟩) 0 0) []:=World.ownsRow_made w #[] 0 (Nat.le_refl _) (Nat.zero_le _) rfl
theorem Ae8 (w:World):(Instr.buildSlice 23 0 #[]).run Tryz.prog w=.ok (.slice (some ⟨w.heap.size,0,none⟩) 0 0) (w.alloc (.cells #[] 9)):=by
 obtain ⟨i0,hi,A0,A2,A1⟩:=info_parts GQ
 simp [Instr.buildSlice,run_underlying Tryz.underlying23,sizeOf,typeInfo,hi,newRow,Instr.fill]
 have e:∀f:Nat->Value,Array.map f (Array.range 0)=#[]:=fun f=>Array.eq_empty_of_size_eq_zero (by simp)
 rw [e]
end
section
open Go.RowKit
theorem JY (l:List EnS.En):l.length<=EnS.Ax EnS.cE l:=EnS.LD (fun x=>by unfold EnS.cE;omega) l
theorem Oy (l:List EnS.At):l.length<=EnS.Ax EnS.cA l:=EnS.LD (fun x=>by unfold EnS.cA;omega) l
def Tj (xs:List EnS.En) (w:World) (e:Ending) (w':World):Prop:=∃b,e=.returned (.bool b)/\w=w'/\(b=true->EnS.Ax EnS.cE xs<=3000)
theorem Nh (n:Nat):Int.tdiv (n:Int) 100=((n / 100:Nat):Int):=rfl
theorem AdC (v:Value) (xs:List EnS.En) (w:World) (h:Bq w v xs) (hN:EnS.Ax EnS.cE xs<=1048576):Calls Tryz.prog 52 #[v] w (Tj xs w):=by
 obtain ⟨a,c,rfl,hc,D2⟩:=Ae.at h
 have E6:=hZ9 D2
 have hl:=JY xs
 have D9:=hZ9 (fun k (h:k<xs.length)=>EnS.Kv (f:=EnS.cE) h)
 have C9:=hZ9 (fun k=>EnS.NT (f:=EnS.cE) xs k)
 clear D2 h
 generalize hn:xs.length=n at hc hl⊢
 have HN:=hZ9 hn
 clear hn
 go_enter Tryz.func52,Tryz.ntmps52
 go_wp2_with fail
 go_loop [3,9] (fun m i=>∃k:Nat,k<=n/\i=.int .i64 k/\m=.int .i64 (EnS.Ax EnS.cE (xs.take k):Nat)/\(0<k->EnS.Ax EnS.cE (xs.take k)<=3000)) (fun _ i=>n - (intOf i).toNat)
 case atStart=>exact ⟨0,Nat.zero_le _,rfl,rfl,fun h=>absurd h (Nat.lt_irrefl 0)⟩
 case round=>
  obtain ⟨k,hk,rfl,rfl,h3⟩:=hrel
  have F0:=C9.out k
  by_cases D7:k<n
  · have A0:k<xs.length:=by rw [HN.out];exact D7
    have E2:=D9.out k A0
    have E8:=C9.out (k+1)
    obtain ⟨g,o,rfl,hg,_,hra⟩:=E6.out k A0
    obtain ⟨c0,a1,p1,c1,C4,A1⟩:=Db.parts hra
    have B5:EnS.cE xs[k]=1+xs[k].name.length / 100+EnS.Ax EnS.cA xs[k].attrs:=rfl
    clear hra
    generalize xs[k]=x at*
    clear A0
    obtain ⟨name,attrs⟩:=x
    simp only at c0 c1 C4 A1 B5
    have B7:=Ae.at A1
    obtain ⟨_,_,e1,_,B1⟩:=B7
    cases e1
    have B6:=hZ9 B1
    have D8:=Oy attrs
    have C1:=hZ9 (fun k (h:k<attrs.length)=>EnS.Kv (f:=EnS.cA) h)
    have A8:=hZ9 (fun k=>EnS.NT (f:=EnS.cA) attrs k)
    clear B1 A1
    have hq:=Nh name.length
    generalize D6:name.length / 100=q at*
    generalize A4:EnS.Ax EnS.cE (xs.take (k+1))=S1 at*
    have D1:=hZ9 A4
    clear A4
    generalize EnS.Ax EnS.cE (xs.take k)=S0 at*
    generalize EnS.Ax EnS.cE xs=SS at*
    generalize D0:EnS.Ax EnS.cA attrs=SA at*
    have E7:=hZ9 D0
    clear D0 D6
    rw [B5] at E2
    clear B5
    generalize D4:attrs.length=n1 at c1 C4 D8⊢
    have D5:=hZ9 D4
    clear D4
    go_wp2_with fail
    go_loop [3,28] (fun m i=>∃j:Nat,j<=n1/\i=.int .i64 j/\m=.int .i64 (S0+1+q+EnS.Ax EnS.cA (attrs.take j):Nat)) (fun _ i=>n1 - (intOf i).toNat)
    case atStart=>exact ⟨0,Nat.zero_le _,rfl,by simp [EnS.Ax]⟩
    case round=>
     obtain ⟨j,hj,rfl,rfl⟩:=hrel
     have F4:=A8.out j
     by_cases B8:j<n1
     · have A0:j<attrs.length:=by rw [D5.out];exact B8
       have C3:=C1.out j A0
       have F5:=A8.out (j+1)
       obtain ⟨g1,o1,rfl,F6,_,B0⟩:=B6.out j A0
       obtain ⟨d0,a2,p2,d1,D3,A2⟩:=Bl.parts B0
       have B3:EnS.cA attrs[j]=1+attrs[j].vals.length+EnS.Ax EnS.cV attrs[j].vals:=rfl
       clear B0
       generalize attrs[j]=y at*
       clear A0
       obtain ⟨ty,vals⟩:=y
       simp only at d0 d1 D3 A2 B3
       obtain ⟨_,_,e2,_,B2⟩:=Ae.at A2
       cases e2
       have C0:=hZ9 B2
       have B4:=hZ9 (fun k (h:k<vals.length)=>EnS.Kv (f:=EnS.cV) h)
       have A6:=hZ9 (fun k=>EnS.NT (f:=EnS.cV) vals k)
       clear B2 A2
       generalize A5:EnS.Ax EnS.cA (attrs.take (j+1))=T1 at*
       have E3:=hZ9 A5
       clear A5
       generalize EnS.Ax EnS.cA (attrs.take j)=T0 at*
       generalize C8:EnS.Ax EnS.cV vals=SV at*
       have E5:=hZ9 C8
       clear C8
       rw [B3] at C3
       clear B3
       generalize C6:vals.length=n2 at d1 D3 C3⊢
       have C7:=hZ9 C6
       clear C6
       go_wp2_with fail
       go_loop [3,54] (fun m i=>∃t:Nat,t<=n2/\i=.int .i64 t/\m=.int .i64 (S0+1+q+T0+1+n2+EnS.Ax EnS.cV (vals.take t):Nat)) (fun _ i=>n2 - (intOf i).toNat)
       case atStart=>exact ⟨0,Nat.zero_le _,rfl,by simp [EnS.Ax]⟩
       case round=>
        obtain ⟨t,ht,rfl,rfl⟩:=hrel
        have F3:=A6.out t
        by_cases B9:t<n2
        · have A0:t<vals.length:=by rw [C7.out];exact B9
          have C5:=B4.out t A0
          have F1:=A6.out (t+1)
          obtain ⟨g2,o2,rfl,F2,_,A7⟩:=C0.out t A0
          have r0:w.cell? ⟨g2,o2+t,none⟩=some (Ac vals[t]):=by
           have:w.cell? ⟨g2,o2+t*1,none⟩=some (Ac vals[t]):=A7
           rwa [Nat.mul_one] at this
          unfold Ac at r0
          have E1:EnS.cV vals[t]=vals[t].length / 100:=rfl
          clear A7
          generalize vals[t]=z at*
          clear A0
          have E9:=Nh z.length
          rw [E1] at C5
          generalize z.length / 100=q2 at*
          generalize A9:EnS.Ax EnS.cV (vals.take (t+1))=V1 at*
          have E0:=hZ9 A9
          clear A9
          generalize EnS.Ax EnS.cV (vals.take t)=V0 at*
          go_wp2_with fail
          go_round
          case rel=>exact ⟨t+1,by omega,by go_num,by rw [E0.out];subst C5;go_num⟩
          case measure=>simp [intOf];omega
        · have C2:t=n2:=by omega
          subst C2
          have A3:vals.take t=vals:=List.take_of_length_le (by rw [C7.out];omega)
          rw [A3,E5.out]
          go_wp2_with fail
          go_round
          case rel=>exact ⟨j+1,by omega,by go_num,by rw [E3.out];subst C3;go_num⟩
          case measure=>simp [intOf];omega
     · have C2:j=n1:=by omega
       subst C2
       have A3:attrs.take j=attrs:=List.take_of_length_le (by rw [D5.out];omega)
       rw [A3,E7.out]
       have E4:S0+1+q+SA=S1:=by omega
       rw [E4]
       by_cases h3000:3000<S1
       · have hz:(3000:Int)<(S1:Int):=by omega
         go_wp2_with fail
         go_ret
         exact ⟨false,rfl,rfl,fun h=>by cases h⟩
       · have hz:decide ((3000:Int)<(S1:Int))=false:=decide_eq_false (by omega)
         go_wp2_with fail
         go_round
         case rel=>exact ⟨k+1,by omega,by go_num,by rw [D1.out],fun _=>by rw [D1.out];omega⟩
         case measure=>simp [intOf];omega
  · have A3:xs.take k=xs:=List.take_of_length_le (by rw [HN.out];omega)
    rw [A3] at h3
    have HR:Hid (EnS.Ax EnS.cE xs<=3000):=hZ9 (by
     rcases Nat.eq_zero_or_pos k with h0 | h0
     · have:xs=[]:=List.eq_nil_of_length_eq_zero (by rw [HN.out];omega)
       rw [this];decide
     · exact h3 h0)
    go_wp2_with fail
    go_ret
    exact ⟨true,rfl,rfl,fun _=>HR.out⟩
end
section
open Go.RowKit
theorem Whole.grown {α:Type} {L:KLay α} {T T':TypeId} {Ts:List TypeId} {w w':World} {C B g:Nat} {v:Value} {xs:List α} {cs:Array Value} (h:Whole w g T' cs) (ho:Av L T Ts C w B v xs) (hT:T≠T') (hg:w.grownBy w' v.ownBlock):Whole w' g T' cs:=by
 refine (hg.block g h.lt (fun e=>?_)).trans h
 obtain ⟨us,h1,_⟩:=ho
 obtain ⟨c,fz,h2⟩:=Lib.ownsRow_kind h1 g e.symm
 unfold Whole at h
 rw [h] at h2
 cases h2
 exact hT rfl
theorem Own.nilOf {w:World} {B:Nat} {v:Value} {xs:List (List UInt8)} (h:Own w B v ([]++xs)):Own w B v xs:=h
end
end Go.Proofs.YtgngjfjaelgaeaaGreatDoor
