/- Rows of the call's own whose elements have k cells each and hold slices themselves: what they hold lies outside the row. Conditions: as stated. -/
import Derived.Lib.OwnKind
import Derived.Deep.Onto
import Derived.Test.YtgngjfjaelgaeaaGreatDoorKEnt
set_option maxRecDepth 100000
set_option maxHeartbeats 2000000
namespace Go.Proofs.YtgngjfjaelgaeaaGreatDoor
section
open Go.RowKit
structure RLay (α:Type) where
 k:Nat
 pos:0<k
 El:(Nat->Prop)->World->List Value->α->Prop
 keep:∀{ok ok':Nat->Prop} {w w':World} {cs:List Value} {x:α},El ok w cs x->w.heap.size<=w'.heap.size->(∀g,g<w.heap.size->ok g->w'.heap[g]?=w.heap[g]?)->(∀g,g<w.heap.size->ok g->ok' g)->El ok' w' cs x
 len:∀{ok:Nat->Prop} {w:World} {cs:List Value} {x:α},El ok w cs x->cs.length=k
 one:∀{ok:Nat->Prop} {w:World} {cs:List Value} {x:α},El ok w cs x->∀u ∈ cs,u.oneCell'=true
def AtG {α:Type} (L:RLay α) (ok:Nat->Prop) (w:World) (g o:Nat) (x:α):Prop:=∃cs,(∀(j:Nat) (u:Value),cs[j]?=some u->w.cell? ⟨g,o+j,none⟩=some u)/\L.El ok w cs x
theorem AtG.keep {α:Type} {L:RLay α} {ok ok':Nat->Prop} {w w':World} {g o:Nat} {x:α} (h:AtG L ok w g o x) (hg:w'.heap[g]?=w.heap[g]?) (hs:w.heap.size<=w'.heap.size) (hb:∀g,g<w.heap.size->ok g->w'.heap[g]?=w.heap[g]?) (hk:∀g,g<w.heap.size->ok g->ok' g):AtG L ok' w' g o x:=by
 obtain ⟨cs,h1,h2⟩:=h
 exact ⟨cs,fun j u hj=>(World.cell?_of_block (a:=⟨g,o+j,none⟩) hg).trans (h1 j u hj),L.keep h2 hs hb hk⟩
def Kw {α:Type} (L:RLay α) (rok ok:Nat->Prop) (w:World) (v:Value) (xs:List α):Prop:=Ae L.k (AtG L ok) rok w v xs
theorem Kw.keep {α:Type} {L:RLay α} {rok A0 ok ok':Nat->Prop} {w w':World} {v:Value} {xs:List α} (h:Kw L rok ok w v xs) (hs:w.heap.size<=w'.heap.size) (hr:∀g,g<w.heap.size->rok g->w'.heap[g]?=w.heap[g]?) (A2:∀g,g<w.heap.size->rok g->A0 g)
  (hb:∀g,g<w.heap.size->ok g->w'.heap[g]?=w.heap[g]?) (hk:∀g,g<w.heap.size->ok g->ok' g):Kw L A0 ok' w' v xs:=
 Ae.imp h hs A2 fun g _ _ hg A1 hx=>hx.keep (hr g hg A1) hs hb hk
theorem WT {k:Nat}:∀{A0:List (List Value)},(∀cs ∈ A0,cs.length=k)->∀(i j:Nat) (cs:List Value) (u:Value),A0[i]?=some cs->cs[j]?=some u->A0.flatten[i*k+j]?=some u
 | [],_,i,j,cs,u,h,_=>by simp at h
 | c :: A0,hl,0,j,cs,u,h,hj=>by
  simp only [List.getElem?_cons_zero,Option.some.injEq] at h
  subst h
  have A1:=(List.getElem?_eq_some_iff.1 hj).1
  rw [List.flatten_cons,Nat.zero_mul,Nat.zero_add,List.getElem?_append_left A1]
  exact hj
 | c :: A0,hl,i+1,j,cs,u,h,hj=>by
  have h1:=hl c (List.mem_cons_self ..)
  have ih:=WT (fun d hd=>hl d (List.mem_cons_of_mem _ hd)) i j cs u (by simpa using h) hj
  have e:(i+1)*k+j=c.length+(i*k+j):=by rw [h1,Nat.succ_mul];omega
  rw [List.flatten_cons,e,List.getElem?_append_right (by omega),Nat.add_sub_cancel_left]
  exact ih
theorem TK {k:Nat}:∀{A0:List (List Value)},(∀cs ∈ A0,cs.length=k)->A0.flatten.length=A0.length*k
 | [],_=>by simp
 | c :: A0,hl=>by
  rw [List.flatten_cons,List.length_append,hl c (List.mem_cons_self ..),TK (fun d hd=>hl d (List.mem_cons_of_mem _ hd)),List.length_cons,Nat.succ_mul,Nat.add_comm]
def CE {α:Type} (L:RLay α) (T:TypeId) (P:Nat->Prop) (w:World) (B:Nat) (v:Value) (xs:List α):Prop:=
 ∃A0:List (List Value),w.ownsRow B T L.k v xs.length A0.flatten/\A0.length=xs.length/\∀(i:Nat) (cs:List Value) (x:α),A0[i]?=some cs->xs[i]?=some x->L.El (fun g=>P g/\v.ownBlock≠some g) w cs x
theorem CE.empty {α:Type} (L:RLay α) (T:TypeId) (P:Nat->Prop) (w:World) (B:Nat):CE L T P w B (.slice none 0 0) []:=⟨[],World.ownsRow_nil w B _ _,rfl,fun i cs x h=>by simp at h⟩
theorem CE.form {α:Type} {L:RLay α} {T:TypeId} {P:Nat->Prop} {w:World} {B:Nat} {v:Value} {xs:List α} (h:CE L T P w B v xs):∃a c,v=.slice a xs.length c:=by
 obtain ⟨us,h,_⟩:=h
 rcases h.2 with ⟨rfl,hn⟩ | ⟨g,cap,cur,rfl,_⟩
 · exact ⟨_,_,by rw [hn]⟩
 · exact ⟨_,_,rfl⟩
theorem CE.call {α:Type} {L:RLay α} {T:TypeId} {P:Nat->Prop} {w w':World} {B:Nat} {v:Value} {xs:List α} (h:CE L T P w B v xs) (hb:Below w.heap.size w w'):CE L T P w' B v xs:=by
 obtain ⟨us,h1,h2,h3⟩:=h
 exact ⟨us,World.ownsRow.kept h1 (AX hb) (by cases v.ownBlock <;> simp),h2,fun i u l a b=>L.keep (h3 i u l a b) hb.size (fun g hg _=>hb.block g hg) (fun g _ h=>h)⟩
theorem CE.mono {α:Type} {L:RLay α} {T:TypeId} {P:Nat->Prop} {w:World} {B B':Nat} {v:Value} {xs:List α} (h:CE L T P w B v xs) (hB:B'<=B):CE L T P w B' v xs:=by
 obtain ⟨us,h1,h2,h3⟩:=h
 exact ⟨us,World.ownsRow.mono h1 hB,h2,h3⟩
theorem CE.lens {α:Type} {L:RLay α} {ok:Nat->Prop} {w:World} {A0:List (List Value)} {xs:List α} (h2:A0.length=xs.length) (h3:∀(i:Nat) (cs:List Value) (x:α),A0[i]?=some cs->xs[i]?=some x->L.El ok w cs x):∀cs ∈ A0,cs.length=L.k:=fun cs A1=>by
 obtain ⟨i,hi,rfl⟩:=List.mem_iff_getElem.1 A1
 exact L.len (h3 i _ _ (List.getElem?_eq_getElem hi) (List.getElem?_eq_getElem (show i<xs.length by omega)))
theorem CE.read {α:Type} {L:RLay α} {T:TypeId} {P:Nat->Prop} {w:World} {B:Nat} {v:Value} {xs:List α} (h:CE L T P w B v xs) (rok:Nat->Prop) (A1:∀g,B<=g->rok g):Kw L rok P w v xs:=by
 obtain ⟨A2,h1,h2,h3⟩:=h
 have hl:=CE.lens h2 h3
 rcases h1.2 with ⟨rfl,hn⟩ | ⟨g,cap,cur,rfl,hg,hh,hn,hm,hsz,A4⟩
 · exact ⟨none,0,by rw [hn],by omega,.inl (List.eq_nil_of_length_eq_zero hn)⟩
 · refine ⟨some ⟨g,0,none⟩,cap,rfl,hn,.inr ⟨g,0,rfl,(Array.getElem?_eq_some_iff.1 hh).1,A1 g hg,fun j x hj=>?_⟩⟩
   have A3:j<A2.length:=by rw [h2];exact (List.getElem?_eq_some_iff.1 hj).1
   have hu:=List.getElem?_eq_getElem A3
   refine ⟨A2[j],fun i u hi=>?_,L.keep (h3 j _ x hu hj) (Nat.le_refl _) (fun _ _ _=>rfl) (fun g _ h=>h.1)⟩
   have c0:=World.ownsRow.cells h1 (g:=g) rfl (j*L.k+i) u (WT hl j i _ u hu hi)
   have A0:∀i,(⟨g,0,none⟩:Addr).add i=⟨g,0+i,none⟩:=fun i=>by unfold Addr.add;split <;> simp_all
   rw [A0] at c0
   rw [Nat.add_assoc]
   exact c0
theorem CE.block {α:Type} {L:RLay α} {T:TypeId} {P:Nat->Prop} {w:World} {B:Nat} {v:Value} {xs:List α} (h:CE L T P w B v xs) {g:Nat} (hg:v.ownBlock=some g):B<=g/\g<w.heap.size:=by
 obtain ⟨us,h1,_⟩:=h
 exact World.ownsRow.lt h1 g hg
theorem AdH {α:Type} {L:RLay α} {ok:Nat->Prop} {w:World} {xs:List α} {g o:Nat} (h:∀(j:Nat) (x:α),xs[j]?=some x->AtG L ok w g (o+j*L.k) x):
  ∃A0:List (List Value),A0.length=xs.length/\(∀(i:Nat) (cs:List Value) (x:α),A0[i]?=some cs->xs[i]?=some x->L.El ok w cs x)/\(∀(j:Nat) (u:Value),A0.flatten[j]?=some u->w.cell? ⟨g,o+j,none⟩=some u)/\∀u ∈ A0.flatten,u.oneCell'=true:=by
 induction xs generalizing o with
 | nil=>exact ⟨[],rfl,fun i cs x h=>by simp at h,fun j u h=>by simp at h,fun u h=>by simp at h⟩
 | cons x xs ih=>
  obtain ⟨A0,k1,k2,k3,k4⟩:=ih (o:=o+L.k) (fun j y hj=>by
   have:=h (j+1) y (by simpa using hj)
   have e:o+(j+1)*L.k=o+L.k+j*L.k:=by rw [Nat.succ_mul];omega
   rw [e] at this;exact this)
  obtain ⟨cs,c1,c2⟩:=h 0 x rfl
  have hl:=L.len c2
  refine ⟨cs :: A0,by simp [k1],fun i ds y hi hy=>?_,fun j u hj=>?_,fun u hu=>?_⟩
  · cases i with
    | zero=>
     simp only [List.getElem?_cons_zero,Option.some.injEq] at hi hy
     subst hi;subst hy
     exact c2
    | succ i=>exact k2 i ds y (by simpa using hi) (by simpa using hy)
  · rw [List.flatten_cons] at hj
    by_cases A1:j<cs.length
    · rw [List.getElem?_append_left A1] at hj
      have:=c1 j u hj
      rw [Nat.zero_mul,Nat.add_zero] at this
      exact this
    · rw [List.getElem?_append_right (by omega)] at hj
      have:=k3 _ u hj
      have e:o+L.k+(j - cs.length)=o+j:=by omega
      rw [e] at this
      exact this
  · rw [List.flatten_cons] at hu
    rcases List.mem_append.1 hu with hu | hu
    · exact L.one c2 u hu
    · exact k4 u hu
theorem CE.grows {α:Type} {L:RLay α} {T:TypeId} {P:Nat->Prop} {w w':World} {B:Nat} {v v':Value} {xs ys:List α} {A1 dss:List (List Value)} (h2:A1.length=xs.length)
  (h3:∀(i:Nat) (cs:List Value) (x:α),A1[i]?=some cs->xs[i]?=some x->L.El (fun g=>P g/\v.ownBlock≠some g) w cs x) (k2:dss.length=ys.length) (k3:∀(i:Nat) (cs:List Value) (x:α),dss[i]?=some cs->ys[i]?=some x->L.El (fun g=>P g/\v.ownBlock≠some g) w cs x)
  (h4:w'.ownsRow B T L.k v' (xs.length+ys.length) (A1.flatten++dss.flatten)) (hg:w.grownBy w' v.ownBlock) (A2:v'.ownBlock=v.ownBlock\/v'.ownBlock=some w.heap.size):CE L T P w' B v' (xs++ys):=by
 have A0:∀{cs:List Value} {x:α},L.El (fun g=>P g/\v.ownBlock≠some g) w cs x->L.El (fun g=>P g/\v'.ownBlock≠some g) w' cs x:=fun h=>L.keep h hg.size (fun g A4 A3=>hg.block g A4 (fun e=>A3.2 e.symm)) (fun g A4 A3=>⟨A3.1,fun e=>by
  rcases A2 with A2 | A2
  · exact A3.2 (A2 ▸ e)
  · rw [A2] at e;cases e;omega⟩)
 refine ⟨A1++dss,by rw [List.flatten_append,List.length_append];exact h4,by simp [h2,k2],fun i z y hi hy=>?_⟩
 by_cases A4:i<A1.length
 · rw [List.getElem?_append_left A4] at hi
   rw [List.getElem?_append_left (by omega)] at hy
   exact A0 (h3 i z y hi hy)
 · rw [List.getElem?_append_right (by omega)] at hi
   rw [List.getElem?_append_right (by omega),<-h2] at hy
   exact A0 (k3 _ z y hi hy)
theorem TL {α:Type} (L:RLay α) {w:World} (T sT ty:TypeId) (A2:Tryz.prog.underlying sT=some (.slice T)) {i0:TypeInfo} {z:Value}
  (hi:Tryz.prog.info? T=some i0) (hz:i0.zero=some z) (hsz:i0.size=L.k) (A8:i0.bytes<=140) (A4:z.cells.size=L.k) (P:Nat->Prop) (B:Nat) (v:Value) (xs:List α) (A1:CE L T P w B v xs) (u:Value) (ys:List α)
  {rok:Nat->Prop} (A6:Kw L rok (fun g=>P g/\v.ownBlock≠some g) w u ys) (hn:xs.length+ys.length<=1000000000) (hB:B<=w.heap.size):
  ∃v' w',(Builtin.append_ #[sT,sT] ty #[v,u]).run Tryz.prog w=.ok v' w'/\CE L T P w' B v' (xs++ys)/\Below B w w'/\w.grownBy w' v.ownBlock/\(v'.ownBlock=v.ownBlock\/v'.ownBlock=some w.heap.size):=by
 obtain ⟨A,c,rfl,hc,A0⟩:=A6
 obtain ⟨A5,h1,h2,h3⟩:=A1
 have hbm:(xs.length+ys.length)*i0.bytes<=140737488355328:=Nat.le_trans (Nat.mul_le_mul hn A8) (by decide)
 have hu:=run_underlying A2
 cases A with
 | none=>
  rcases A0 with rfl | ⟨g,o,e,_⟩
  · refine ⟨v,w,?_,by rw [List.append_nil];exact ⟨A5,h1,h2,h3⟩,Below.refl B w,⟨rfl,rfl,rfl,Nat.le_refl _,fun _ _ _=>rfl⟩,.inl rfl⟩
    rcases h1.2 with ⟨rfl,A9⟩ | ⟨g,cap,cur,rfl,_,_,A7,_⟩
    · simp [Builtin.append_,hu,sizeOf,typeInfo,hi,Builtin.lenOf,Builtin.firstCells]
    · simp [Builtin.append_,hu,sizeOf,typeInfo,hi,Builtin.lenOf,Builtin.firstCells,A7,storeCells]
  · cases e
 | some ad=>
  rcases A0 with rfl | ⟨g,o2,e,hg,_,hcell⟩
  · obtain ⟨v',w',hr,k1,k2,_,k4⟩:=run_append_own_at (P:=Tryz.prog) w B sT ty T i0 z L.k i0.bytes A2 hi hz hsz rfl A4 L.pos v xs.length _ h1 ad 0 c [] (by simp) (fun j u hj=>by simp at hj) (fun u hu=>by cases hu) (by simp at hn;unfold maxLen;omega) (by simpa using hbm) hB
    exact ⟨v',w',hr,CE.grows (ys:=[]) (dss:=[]) h2 h3 rfl (fun i cs x h=>by simp at h) (by simpa using k1) k2 k4,(Below.refl B w).grown k2 hB (fun k hk=>(World.ownsRow.lt h1 k hk).1),k2,k4⟩
  · cases e
    obtain ⟨dss,d1,d2,d3,d4⟩:=AdH hcell
    obtain ⟨v',w',hr,k1,k2,_,k4⟩:=run_append_own_at (P:=Tryz.prog) w B sT ty T i0 z L.k i0.bytes A2 hi hz hsz rfl A4 L.pos v xs.length _ h1 ⟨g,o2,none⟩ ys.length c dss.flatten (by rw [TK (CE.lens d1 d2),d1])
     (fun j u hj=>by
       have A3:(⟨g,o2,none⟩:Addr).add j=⟨g,o2+j,none⟩:=by unfold Addr.add;split <;> simp_all
       rw [A3]
       exact d3 j u hj) d4 (by unfold maxLen;omega) hbm hB
    exact ⟨v',w',hr,CE.grows h2 h3 d1 d2 k1 k2 k4,(Below.refl B w).grown k2 hB (fun k hk=>(World.ownsRow.lt h1 k hk).1),k2,k4⟩
theorem Afr {α:Type} (L:RLay α) {w:World} {o:Oper} {a:Act} {K:Act->World->Prop} {Q:Exit->Act->World->Prop} (T sT:TypeId) (A1:Tryz.prog.underlying sT=some (.slice T)) {i0:TypeInfo} {z:Value}
  (hi:Tryz.prog.info? T=some i0) (hz:i0.zero=some z) (hsz:i0.size=L.k) (A4:i0.bytes<=140) (A2:z.cells.size=L.k) (s x:Operand)
  (ho:o.op=.call { callee:=.builtin .append,args:=#[s,x],argTypes:=#[sT,sT] })
  (P:Nat->Prop) (B:Nat) (v:Value) (xs:List α) (hs:a.eval s=v) (A0:CE L T P w B v xs) (u:Value) (ys:List α) (hx:a.eval x=u)
  {rok:Nat->Prop} (A3:Kw L rok (fun g=>P g/\v.ownBlock≠some g) w u ys) (hn:xs.length+ys.length<=1000000000) (hB:B<=w.heap.size)
  (h:∀v' w',CE L T P w' B v' (xs++ys)->Below B w w'->w.grownBy w' v.ownBlock->(v'.ownBlock=v.ownBlock\/v'.ownBlock=some w.heap.size)->K (a.put o.dst v') w'):Oper.wp Tryz.prog o a w K Q:=by
 obtain ⟨v',w',hr,h1,h2,h3,h4⟩:=TL L T sT o.type A1 hi hz hsz A4 A2 P B v xs A0 u ys A3 hn hB
 unfold Oper.wp execOp
 simp only [ho,resolve,invoke,builtin,Sem.run_bind,Sem.run_pure,Result.andThen_ok,List.map_toArray,List.map_cons,List.map_nil,hs,hx,hr]
 exact h v' w' h1 h2 h3 h4
end
section
open Go.RowKit
open FiS (Fi)
def Iz:Nat->(Nat->Prop)->World->Nat->Nat->Fi->Prop
 | 0,_,_,_,_,_=>False
 | n+1,ok,w,g,o,x=>∃ua up,(w.cell? ⟨g,o,none⟩=some (.int .i64 x.kind)/\w.cell? ⟨g,o+1,none⟩=some (Ac x.attr)/\w.cell? ⟨g,o+2,none⟩=some (Ac x.value)/\w.cell? ⟨g,o+3,none⟩=some (Ac x.first)/\w.cell? ⟨g,o+4,none⟩=some (Ac x.last)/\w.cell? ⟨g,o+5,none⟩=some ua/\w.cell? ⟨g,o+6,none⟩=some up)/\Ap ok w ua x.any/\Ae 7 (Iz n ok) ok w up x.parts
def BR (n:Nat) (ok:Nat->Prop) (w:World) (v:Value) (xs:List Fi):Prop:=Ae 7 (Iz n ok) ok w v xs
theorem Iz.keep {ok ok':Nat->Prop} {w w':World} (hs:w.heap.size<=w'.heap.size) (hb:∀g,g<w.heap.size->ok g->w'.heap[g]?=w.heap[g]?) (hk:∀g,g<w.heap.size->ok g->ok' g):
  ∀{n:Nat} {g o:Nat} {x:Fi},Iz n ok w g o x->w'.heap[g]?=w.heap[g]?->Iz n ok' w' g o x:=by
 intro n
 induction n with
 | zero=>intro g o x h _;cases h
 | succ n ih=>
  intro g o x h hg
  obtain ⟨ua,up,⟨h0,h1,h2,h3,h4,h5,h6⟩,ha,hp⟩:=h
  have hc:=fun i=>World.cell?_of_block (a:=⟨g,i,none⟩) hg
  exact ⟨ua,up,⟨(hc _).trans h0,(hc _).trans h1,(hc _).trans h2,(hc _).trans h3,(hc _).trans h4,(hc _).trans h5,(hc _).trans h6⟩,Ap.keep ha hs hb hk,Ae.imp hp hs hk fun g o x hg A0 hx=>ih hx (hb g hg A0)⟩
theorem BR.keep {n:Nat} {ok ok':Nat->Prop} {w w':World} {v:Value} {xs:List Fi} (h:BR n ok w v xs) (hs:w.heap.size<=w'.heap.size) (hb:∀g,g<w.heap.size->ok g->w'.heap[g]?=w.heap[g]?) (hk:∀g,g<w.heap.size->ok g->ok' g):BR n ok' w' v xs:=
 Ae.imp h hs hk fun g _ _ hg A0 hx=>Iz.keep hs hb hk hx (hb g hg A0)
theorem BR.call {n:Nat} {ok:Nat->Prop} {w w':World} {v:Value} {xs:List Fi} (h:BR n ok w v xs) (hb:Below w.heap.size w w'):BR n ok w' v xs:=h.keep hb.size (fun g hg _=>hb.block g hg) (fun _ _ h=>h)
theorem Iz.mono {n:Nat}:∀{m:Nat} {ok:Nat->Prop} {w:World} {g o:Nat} {x:Fi},Iz m ok w g o x->Iz (m+n) ok w g o x:=by
 intro m
 induction m with
 | zero=>intro ok w g o x h;cases h
 | succ m ih=>
  intro ok w g o x h
  rw [Nat.succ_add]
  obtain ⟨ua,up,hc,ha,hp⟩:=h
  exact ⟨ua,up,hc,ha,Ae.imp hp (Nat.le_refl _) (fun _ _ h=>h) fun _ _ _ _ _ hx=>ih hx⟩
theorem BR.mono {n m:Nat} (A0:m<=n) {ok:Nat->Prop} {w:World} {v:Value} {xs:List Fi} (h:BR m ok w v xs):BR n ok w v xs:=by
 obtain ⟨d,rfl⟩:∃d,n=m+d:=⟨n - m,by omega⟩
 exact Ae.imp h (Nat.le_refl _) (fun _ _ h=>h) fun _ _ _ _ _ hx=>Iz.mono hx
def FiV (n:Nat) (ok:Nat->Prop) (w:World) (v:Value) (x:Fi):Prop:=∃ua up,v=.agg #[.int .i64 x.kind,.string ⟨x.attr.toArray⟩,.string ⟨x.value.toArray⟩,.string ⟨x.first.toArray⟩,.string ⟨x.last.toArray⟩,ua,up]/\Ap ok w ua x.any/\BR n ok w up x.parts
theorem FiV.keep {n:Nat} {ok ok':Nat->Prop} {w w':World} {v:Value} {x:Fi} (h:FiV n ok w v x) (hs:w.heap.size<=w'.heap.size) (hb:∀g,g<w.heap.size->ok g->w'.heap[g]?=w.heap[g]?) (hk:∀g,g<w.heap.size->ok g->ok' g):FiV n ok' w' v x:=by
 obtain ⟨ua,up,rfl,h1,h2⟩:=h
 exact ⟨ua,up,rfl,h1.keep hs hb hk,h2.keep hs hb hk⟩
theorem FiV.call {n:Nat} {ok:Nat->Prop} {w w':World} {v:Value} {x:Fi} (h:FiV n ok w v x) (hb:Below w.heap.size w w'):FiV n ok w' v x:=h.keep hb.size (fun g hg _=>hb.block g hg) (fun _ _ h=>h)
abbrev Dq (n:Nat):World->Value->Fi->Prop:=FiV n (fun _=>True)
theorem FiV.ins {n:Nat} {ok:Nat->Prop} {w:World} {v:Value} {x:Fi} (h:FiV n ok w v x):Dq n w v x:=h.keep (Nat.le_refl _) (fun _ _ _=>rfl) (fun _ _ _=>trivial)
theorem FiV.parts {n:Nat} {w:World} {v:Value} {x:Fi} (h:Dq n w v x):∃a5 c5 a6 c6,v=.agg #[.int .i64 x.kind,.string ⟨x.attr.toArray⟩,.string ⟨x.value.toArray⟩,.string ⟨x.first.toArray⟩,.string ⟨x.last.toArray⟩,.slice a5 x.any.length c5,.slice a6 x.parts.length c6]/\Ai w (.slice a5 x.any.length c5) x.any/\x.parts.length<=c6/\BR n (fun _=>True) w (.slice a6 x.parts.length c6) x.parts:=by
 obtain ⟨ua,up,rfl,h1,h2⟩:=h
 obtain ⟨a5,c5,rfl,_⟩:=Ae.form h1
 obtain ⟨a6,c6,rfl,hc⟩:=Ae.form h2
 exact ⟨a5,c5,a6,c6,rfl,h1.strs,hc,h2⟩
theorem BR.at {n:Nat} {w:World} {a:Option Addr} {m c:Nat} {xs:List Fi} (h:BR n (fun _=>True) w (.slice a m c) xs):∀j (hj:j<xs.length),∃d,n=d+1/\∃g o,a=some ⟨g,o,none⟩/\g<w.heap.size/\∃a5 c5 a6 c6,Dq d w (.agg #[.int .i64 (xs[j]'hj).kind,.string ⟨(xs[j]'hj).attr.toArray⟩,.string ⟨(xs[j]'hj).value.toArray⟩,.string ⟨(xs[j]'hj).first.toArray⟩,.string ⟨(xs[j]'hj).last.toArray⟩,.slice a5 (xs[j]'hj).any.length c5,.slice a6 (xs[j]'hj).parts.length c6]) (xs[j]'hj)/\
  w.cell? ⟨g,o+j*7,none⟩=some (.int .i64 (xs[j]'hj).kind)/\w.cell? ⟨g,o+j*7+1,none⟩=some (.string ⟨(xs[j]'hj).attr.toArray⟩)/\w.cell? ⟨g,o+j*7+2,none⟩=some (.string ⟨(xs[j]'hj).value.toArray⟩)/\w.cell? ⟨g,o+j*7+3,none⟩=some (.string ⟨(xs[j]'hj).first.toArray⟩)/\w.cell? ⟨g,o+j*7+4,none⟩=some (.string ⟨(xs[j]'hj).last.toArray⟩)/\
  w.cell? ⟨g,o+j*7+5,none⟩=some (.slice a5 (xs[j]'hj).any.length c5)/\w.cell? ⟨g,o+j*7+6,none⟩=some (.slice a6 (xs[j]'hj).parts.length c6):=by
 intro j hj
 obtain ⟨a',c',e,hc,A0⟩:=Ae.at h
 injection e with e1 e2 e3
 subst e1
 obtain ⟨g,o,ha,hg,_,hx⟩:=A0 j hj
 generalize xs[j]=x at*
 cases n with
 | zero=>cases hx
 | succ d=>
  obtain ⟨ua,up,⟨h0,h1,h2,h3,h4,h5,h6⟩,hs,hp⟩:=hx
  have A2:=hs
  have A1:=hp
  obtain ⟨a5,c5,rfl,_⟩:=Ae.form hs
  obtain ⟨a6,c6,rfl,_⟩:=Ae.form hp
  exact ⟨d,rfl,g,o,ha,hg,a5,c5,a6,c6,⟨_,_,rfl,A2,A1⟩,h0,h1,h2,h3,h4,h5,h6⟩
theorem Whole.seven {w:World} {g:Nat} {t:TypeId} {a0 a1 a2 a3 a4 a5 a6:Value} (h:Whole w g t #[a0,a1,a2,a3,a4,a5,a6]):w.cell? ⟨g,0,none⟩=some a0/\w.cell? ⟨g,1,none⟩=some a1/\w.cell? ⟨g,2,none⟩=some a2/\w.cell? ⟨g,3,none⟩=some a3/\w.cell? ⟨g,4,none⟩=some a4/\w.cell? ⟨g,5,none⟩=some a5/\w.cell? ⟨g,6,none⟩=some a6:=
 ⟨h.cell 0,h.cell 1,h.cell 2,h.cell 3,h.cell 4,h.cell 5,h.cell 6⟩
theorem IA {P:Nat->Prop} (h:∀n,(∀m,n=m+1->P m)->P n):∀n,P n:=by
 intro n
 induction n with
 | zero=>exact h 0 (fun m e=>by omega)
 | succ n ih=>exact h (n+1) (fun m e=>by cases e;exact ih)
end
section
namespace FiS
theorem Jw:∀{ps:List Fi} {j:Nat} (hj:j<ps.length),Bz (ps.take (j+1))=Bz (ps.take j)+nodes (ps[j]'hj)
 | [],j,hj=>by simp at hj
 | p :: r,0,_=>by
  show nodes p+Bz (r.take 0)=Bz []+nodes p
  simp [Bz]
 | p :: r,j+1,hj=>by
  have ih:=Jw (ps:=r) (j:=j) (by simpa using hj)
  show nodes p+Bz (r.take (j+1))=nodes p+Bz (r.take j)+nodes (r[j]'(by simpa using hj))
  omega
theorem QR:∀(ps:List Fi) (j:Nat),Bz (ps.take j)<=Bz ps
 | [],j=>by simp
 | p :: r,0=>by simp [Bz]
 | p :: r,j+1=>by
  have:=QR r j
  show nodes p+Bz (r.take j)<=nodes p+Bz r
  omega
theorem LF:∀(ps:List Fi),ps.length<=Bz ps
 | []=>Nat.zero_le _
 | p :: r=>by
  have h1:=LF r
  have h2:1<=nodes p:=by cases p;rw [nodes];omega
  show r.length+1<=nodes p+Bz r
  omega
theorem QS {ps:List Fi} {j:Nat} (h:j<=ps.length):j<=Bz (ps.take j):=by
 have:=LF (ps.take j)
 rw [List.length_take] at this
 omega
theorem ZQ (x:Fi):1<=nodes x:=by cases x;rw [nodes];omega
theorem Jy:∀{ps:List Fi} {j:Nat} (hj:j<ps.length),CQ (ps.take (j+1))=max (CQ (ps.take j)) (depth (ps[j]'hj))
 | [],j,hj=>by simp at hj
 | p :: r,0,_=>by
  show max (depth p) (CQ (r.take 0))=max (CQ []) (depth p)
  simp [CQ]
 | p :: r,j+1,hj=>by
  have ih:=Jy (ps:=r) (j:=j) (by simpa using hj)
  show max (depth p) (CQ (r.take (j+1)))=max (max (depth p) (CQ (r.take j))) (depth (r[j]'(by simpa using hj)))
  omega
end FiS
open Go.RowKit
open FiS (Fi)
attribute [local go_sem ↓] Go.wp_at_zero Go.wp_at_succ
def AeI (n:Nat):Prop:=∀(x:Fi) (v:Value) (w:World),Dq n w v x->Calls Tryz.prog 88 #[v] w fun e w'=>e=.returned (.int .i64 ((min (FiS.nodes x) 41:Nat):Int))/\Below w.heap.size w w'
theorem AdI:∀n,AeI n:=IA (fun n IH=>by
 intro x v w h
 obtain ⟨kd,A5,vl,fs,ls,an,ps⟩:=x
 obtain ⟨a5,c5,a6,c6,hv,A8,B0,A2⟩:=FiV.parts h
 have hv:v=.agg #[.int .i64 kd,.string ⟨A5.toArray⟩,.string ⟨vl.toArray⟩,.string ⟨fs.toArray⟩,.string ⟨ls.toArray⟩,.slice a5 an.length c5,.slice a6 ps.length c6]:=hv
 subst hv
 have A8:Ai w (.slice a5 an.length c5) an:=A8
 have B0:ps.length<=c6:=B0
 have A2:BR n (fun _=>True) w (.slice a6 ps.length c6) ps:=A2
 have HT:=hZ9 (fun j (hj:j<ps.length)=>FiS.Jw hj)
 have B7:=hZ9 (fun j=>FiS.QR ps j)
 have A9:=hZ9 (fun j (hj:j<=ps.length)=>FiS.QS hj)
 have A1:Hid (ps.take ps.length=ps):=hZ9 (List.take_length)
 have hN:FiS.nodes (.mk kd A5 vl fs ls an ps)=1+FiS.Bz ps:=by rw [FiS.nodes]
 rw [hN]
 clear hN
 obtain ⟨R,hR⟩:∃r,min (1+FiS.Bz ps) 41=r:=⟨_,rfl⟩
 have HR:=hZ9 hR
 rw [hR]
 clear hR
 obtain ⟨AL,A7⟩:∃m,an.length=m:=⟨_,rfl⟩
 obtain ⟨PL,A3⟩:∃m,ps.length=m:=⟨_,rfl⟩
 have C9:=hZ9 A7
 have D0:=hZ9 A3
 rw [A7] at A8
 rw [A3] at B0 A2
 try rw [A7]
 try rw [A3]
 have C3:=Af w (.cells #[.int .i64 kd,.string ⟨A5.toArray⟩,.string ⟨vl.toArray⟩,.string ⟨fs.toArray⟩,.string ⟨ls.toArray⟩,.slice a5 AL c5,.slice a6 PL c6] 36)
 have B9:=Whole.made w 36 #[.int .i64 kd,.string ⟨A5.toArray⟩,.string ⟨vl.toArray⟩,.string ⟨fs.toArray⟩,.string ⟨ls.toArray⟩,.slice a5 AL c5,.slice a6 PL c6]
 have B6:=hZ9 (fun j (hj:j<ps.length)=>BR.at A2 j hj)
 rw [A3] at A1
 obtain ⟨q0,q1,q2,q3,q4,q5,q6⟩:=B9.seven
 clear h A8 A2 A7 A3 C9
 go_enter Tryz.func88,Tryz.ntmps88
 go_wp2_with fail
 go_loopw [3,9] (fun nv i wr=>∃j N:Nat,j<=PL/\i=.int .i64 j/\nv=.int .i64 (N:Int)/\Hid (N=1+FiS.Bz (ps.take j))/\N<=40/\Below w.heap.size w wr) (fun _ i _=>PL - (intOf i).toNat)
 case atStart=>exact ⟨0,1,Nat.zero_le _,rfl,rfl,hZ9 ((by simp [FiS.Bz])),by omega,C3⟩
 case round=>
  obtain ⟨j,N,hj,rfl,rfl,HN,B3,hb⟩:=hrel
  clear B9 C3 q0 q1 q2 q3 q4 q5 q6
  by_cases C5:j<PL
  · have A0:j<ps.length:=by rw [D0.out];exact C5
    have ht:=HT.out j A0
    have D7:=A9.out j (Nat.le_of_lt A0)
    have B2:N<=40->j<=40:=fun h=>by have:=HN.out;omega
    have D8:=B7.out (j+1)
    obtain ⟨d,rfl,g,o,rfl,hg,b5,d5,b6,d6,A6,y0,y1,y2,y3,y4,y5,y6⟩:=B6.out j A0
    have A6:=A6.call hb
    have y0:=(hb.cell (p:=⟨g,o+j*7,none⟩) hg).trans y0
    have y1:=(hb.cell (p:=⟨g,o+j*7+1,none⟩) hg).trans y1
    have y2:=(hb.cell (p:=⟨g,o+j*7+2,none⟩) hg).trans y2
    have y3:=(hb.cell (p:=⟨g,o+j*7+3,none⟩) hg).trans y3
    have y4:=(hb.cell (p:=⟨g,o+j*7+4,none⟩) hg).trans y4
    have y5:=(hb.cell (p:=⟨g,o+j*7+5,none⟩) hg).trans y5
    have y6:=(hb.cell (p:=⟨g,o+j*7+6,none⟩) hg).trans y6
    have A4:=fun v W h=>IH d rfl (ps[j]'A0) v W h
    have B1:=FiS.ZQ (ps[j]'A0)
    clear IH B6 HT B7 A9
    generalize ps[j]=p at*
    generalize p.any.length=PA at*
    generalize p.parts.length=PP at*
    have D5:(0:Int)<=(j:Int):=by omega
    have D3:(j:Int)<(PL:Int):=by omega
    have C1:=Af wr (.cells #[.int .i64 p.kind,.string ⟨p.attr.toArray⟩,.string ⟨p.value.toArray⟩,.string ⟨p.first.toArray⟩,.string ⟨p.last.toArray⟩,.slice b5 PA d5,.slice b6 PP d6] 36)
    have C0:=Whole.made wr 36 #[.int .i64 p.kind,.string ⟨p.attr.toArray⟩,.string ⟨p.value.toArray⟩,.string ⟨p.first.toArray⟩,.string ⟨p.last.toArray⟩,.slice b5 PA d5,.slice b6 PP d6]
    obtain ⟨x0,x1,x2,x3,x4,x5,x6⟩:=C0.seven
    have B8:=hb.trans (C1.mono hb.size)
    have hc:=A4 _ _ (A6.call C1)
    clear A4 A6 C0
    obtain ⟨M,hM⟩:∃m,FiS.nodes p=m:=⟨_,rfl⟩
    rw [hM] at hc ht B1
    clear hM
    obtain ⟨M2,B4⟩:∃m,min M 41=m:=⟨_,rfl⟩
    rw [B4] at hc
    have D4:M2<=41/\(M2=M\/(M2=41/\41<M)):=by omega
    have D6:=hZ9 B4
    clear B4
    go_wp2_with fail
    refine hc.mono ?_;rintro e w2 ⟨rfl,C4⟩
    have C2:=B8.trans (C4.mono B8.size)
    clear hc
    by_cases B5:40<N+M2
    · have D1:decide ((40:Int)<(N:Int)+(M2:Int))=true:=decide_eq_true (by omega)
      have hR:R=41:=by have:=HN.out;have:=HR.out;omega
      clear B5
      go_wp2_with fail
      go_ret
      exact ⟨by rw [hR];rfl,C2⟩
    · have D1:decide ((40:Int)<(N:Int)+(M2:Int))=false:=decide_eq_false (by omega)
      have C7:=B2 B3
      have C6:Hid (N+M2=1+FiS.Bz (ps.take (j+1))):=hZ9 (by have:=HN.out;omega)
      have D2:N+M2<=40:=by omega
      go_wp2_with fail
      go_roundw
      case rel=>exact ⟨j+1,N+M2,by omega,by go_num,by go_num,C6,D2,C2⟩
      case measure=>simp [intOf];omega
  · have C8:j=PL:=by omega
    subst C8
    have hR:R=N:=by have:=HN.out;rw [A1.out] at this;have:=HR.out;omega
    clear IH B6 HT B7 HN A9
    go_wp2_with fail
    go_ret
    subst hR
    exact ⟨rfl,hb⟩)
end
section
namespace FiS
def okI (i:Nat) (c:UInt8):Bool:=if i=0 then Cj c else Jm c
theorem Acm {s:List UInt8} {i:Nat} (hi:i<s.length) (h:okI i (s[i]'hi)=false):KU s=false:=by
 cases s with
 | nil=>rfl
 | cons c r=>
  show (Cj c&&r.all Jm&&decide ((c :: r).length<=40))=false
  cases i with
  | zero=>
   have h:Cj c=false:=h
   rw [h];rfl
  | succ i=>
   have h:Jm (r[i]'(by simpa using hi))=false:=h
   have A0:r.all Jm=false:=by
    rw [List.all_eq_false]
    exact ⟨_,List.getElem_mem (by simpa using hi),by rw [h];simp⟩
   rw [A0];simp
theorem ZR {s:List UInt8} (h:∀i (hi:i<s.length),okI i (s[i]'hi)=true):KU s=(!s.isEmpty&&decide (s.length<=40)):=by
 cases s with
 | nil=>rfl
 | cons c r=>
  have h0:Cj c=true:=h 0 (by simp)
  have h1:r.all Jm=true:=by
   rw [List.all_eq_true]
   intro x hx
   obtain ⟨i,hi,rfl⟩:=List.mem_iff_getElem.1 hx
   exact h (i+1) (by simpa using hi)
  show (Cj c&&r.all Jm&&decide ((c :: r).length<=40))=_
  rw [h0,h1];rfl
theorem AdJ {s:List UInt8} {j:Nat} (hj:j<s.length) (h:∀i (hi:i<s.length),i<j->okI i (s[i]'hi)=true) (h2:okI j (s[j]'hj)=true):∀i (hi:i<s.length),i<j+1->okI i (s[i]'hi)=true:=fun i hi A0=>by
 by_cases e:i=j
 · subst e;exact h2
 · exact h i hi (by omega)
theorem ZT:∀n:Fin 256,(decide ((97:Int)<=(((UInt8.ofNat n.val)||| 32).toNat:Int))&&decide ((((UInt8.ofNat n.val)||| 32).toNat:Int)<=122))=Cj (UInt8.ofNat n.val):=by decide+kernel
theorem VP (c:UInt8):(decide ((97:Int)<=((c||| 32).toNat:Int))&&decide (((c||| 32).toNat:Int)<=122))=Cj c:=by
 have:=ZT ⟨c.toNat,c.toNat_lt⟩
 simpa only [UInt8.ofNat_toNat] using this
theorem Aff:∀n:Fin 256,bits .or .u8 ((UInt8.ofNat n.val).toNat:Int) 32=(((UInt8.ofNat n.val)||| 32).toNat:Int):=by decide+kernel
theorem AdK (c:UInt8):bits .or .u8 (c.toNat:Int) 32=((c||| 32).toNat:Int):=by
 have:=Aff ⟨c.toNat,c.toNat_lt⟩
 simpa only [UInt8.ofNat_toNat] using this
end FiS
open Go.RowKit
open FiS (Fi)
attribute [local go_sem ↓] Go.wp_at_zero Go.wp_at_succ
theorem ZU (s:List UInt8) (w:World):Calls Tryz.prog 154 #[.string ⟨s.toArray⟩] w fun e w'=>e=.returned (.bool (FiS.DX s))/\w=w':=by
 cases s with
 | nil=>
  go_enter Tryz.func154,Tryz.ntmps154
  go_wp2_with fail
  go_ret
  exact ⟨rfl,rfl⟩
 | cons c r=>
  have HR:Hid (FiS.DX (c :: r)=decide ((c :: r).length<=200)):=hZ9 rfl
  generalize FiS.DX (c :: r)=R at*
  generalize hg:c :: r=s at*
  have h1:s.isEmpty=false:=by subst hg;rfl
  have h2:(s==[])=false:=by subst hg;rfl
  have h3:¬s=[]:=by subst hg;simp
  clear hg
  go_enter Tryz.func154,Tryz.ntmps154
  go_wp2_with fail
  go_ret
  refine ⟨?_,rfl⟩
  rw [HR.out]
  first | rfl | (rw [show decide ((s.length:Int)<=200)=decide (s.length<=200) from decide_eq_decide.2 (by omega)];rfl)
theorem Acn (s:List UInt8) (w:World):Calls Tryz.prog 156 #[.string ⟨s.toArray⟩] w fun e w'=>e=.returned (.bool (!FiS.DX s))/\w=w':=by
 have hc:=ZU s w
 generalize FiS.DX s=R at*
 go_enter Tryz.func156,Tryz.ntmps156
 go_wp2_with fail
 refine hc.mono ?_;rintro e w1 ⟨rfl,rfl⟩
 go_wp2_with fail
 go_ret
 exact ⟨rfl,rfl⟩
theorem VQ (s:List UInt8) (hs:s.length<=20000) (w:World):Calls Tryz.prog 153 #[.string ⟨s.toArray⟩] w fun e w'=>e=.returned (.bool (FiS.KU s))/\Below w.heap.size w w':=by
 have A7:=fun w=>Lib.run_convert_string_bytes (P:=Tryz.prog) w 9 157 5 ⟨s.toArray⟩ Tryz.underlying9 Tryz.underlying157 Tryz.underlying5
 have B9:(⟨s.toArray⟩:ByteArray).size<=grownCap w (⟨s.toArray⟩:ByteArray).size 0 5:=grownCap_ge _ _ _ _
 have hb0:=BytesIn.conv w 5 ⟨s.toArray⟩
 have C0:=Lib.bytesWorld_below w 5 ⟨s.toArray⟩
 have hsz:(⟨s.toArray⟩:ByteArray).size=s.length:=by show s.toArray.size=_;simp
 have C1:(⟨s.toArray⟩:ByteArray).data.toList=s:=by simp
 rw [C1] at hb0
 rw [hsz] at A7 B9
 have A6:=hZ9 (fun j (hj:j<s.length) h=>FiS.Acm hj h)
 have A1:=hZ9 (fun h=>FiS.ZR (s:=s) h)
 have A2:=hZ9 (fun j (hj:j<s.length) h h2=>FiS.AdJ hj h h2)
 obtain ⟨R,hR⟩:∃r,FiS.KU s=r:=⟨_,rfl⟩
 rw [hR] at A6 A1⊢
 clear hR C1
 obtain ⟨n,hn⟩:∃n,s.length=n:=⟨_,rfl⟩
 go_enter Tryz.func153,Tryz.ntmps153
 go_wp2_with fail
 clear A7
 generalize grownCap w n 0 5=cap at*
 generalize Lib.bytesWorld w 5 ⟨s.toArray⟩=w0 at*
 go_loopw [9] (fun i wr=>∃j:Nat,j<=n/\i=.int .i64 j/\Hid (∀i (hi:i<s.length),i<j->FiS.okI i (s[i]'hi)=true)/\BytesIn wr w.heap.size s/\Below w.heap.size w wr) (fun i _=>n - (intOf i).toNat)
 case atStart=>exact ⟨0,Nat.zero_le _,rfl,hZ9 (fun i hi h=>by omega),hb0,C0⟩
 case round=>
  obtain ⟨j,hj,rfl,HA,B6,hb⟩:=hrel
  clear hb0 C0
  by_cases C3:j<n
  · have B0:j<s.length:=by omega
    have hc:=B6.cell B0
    have A5:=hZ9 (fun h=>A6.out j B0 h)
    have A4:=hZ9 (fun h=>A2.out j B0 HA.out h)
    clear A6 A2 A1
    generalize s[j]=c at*
    have C4:=FiS.AdK c
    have B1:=FiS.VP c
    have B7:Hid (FiS.Jm c=(FiS.Cj c||FiS.isDig c||c==45)):=hZ9 rfl
    have C6:(0:Int)<=(j:Int):=by omega
    have C5:(j:Int)<(n:Int):=by omega
    generalize ((c||| 32).toNat:Int)=z at*
    have hz:(FiS.Cj c=true/\decide ((97:Int)<=z)=true/\decide (z<=122)=true)\/(FiS.Cj c=false/\decide ((97:Int)<=z)=false)\/(FiS.Cj c=false/\decide ((97:Int)<=z)=true/\decide (z<=122)=false):=by
     cases h1:decide ((97:Int)<=z) <;> cases h2:decide (z<=122) <;> rw [h1,h2] at B1
     · exact .inr (.inl ⟨B1.symm,rfl⟩)
     · exact .inr (.inl ⟨B1.symm,rfl⟩)
     · exact .inr (.inr ⟨B1.symm,rfl,rfl⟩)
     · exact .inl ⟨B1.symm,rfl,rfl⟩
    clear B1
    have B4:FiS.Cj c=true->FiS.okI j c=true:=fun h=>by
     unfold FiS.okI
     split
     · exact h
     · rw [B7.out,h];rfl
    have A9:=hZ9 B4
    have B2:FiS.Cj c=false->FiS.okI j c=(decide (j≠0)&&(FiS.isDig c||c==45)):=fun h=>by
     unfold FiS.okI
     split
     · rename_i h0;rw [h];simp [h0]
     · rename_i h0;rw [B7.out,h];simp [h0]
    have A8:=hZ9 B2
    clear B4 B2 B7
    have A0:FiS.Cj c=false->∀(P:Prop),((j=0->P)/\(j≠0->c.toNat=45->P)/\(j≠0->c.toNat≠45->c.toNat<48->P)/\(j≠0->c.toNat≠45->48<=c.toNat->57<c.toNat->P)/\(j≠0->c.toNat≠45->48<=c.toNat->c.toNat<=57->P))->P:=fun _ P ⟨p1,p2,p3,p4,p5⟩=>by
     by_cases h0:j=0
     · exact p1 h0
     · by_cases h1:c.toNat=45
       · exact p2 h0 h1
       · by_cases h2:c.toNat<48
         · exact p3 h0 h1 h2
         · by_cases h3:c.toNat<=57
           · exact p5 h0 h1 (by omega) h3
           · exact p4 h0 h1 (by omega) (by omega)
    have C2:∀{c:UInt8},c.toNat=45->c=45:=fun h=>UInt8.toNat_inj.1 (by rw [h];rfl)
    rcases hz with ⟨hL,z1,z2⟩ | ⟨hL,z1⟩ | ⟨hL,z1,z2⟩
    · have B5:=hZ9 (A4.out (A9.out hL))
      clear A4 A5 A9 A8 A0
      go_wp2_with fail
      go_roundw
      case rel=>exact ⟨j+1,by omega,by go_num,B5,B6,hb⟩
      case measure=>simp [intOf];omega
    all_goals
     have A3:=hZ9 (A8.out hL)
     clear A9 A8
     refine A0 hL _ ⟨fun h0=>?_,fun h0 h1=>?_,fun h0 h1 h2=>?_,fun h0 h1 h2 h3=>?_,fun h0 h1 h2 h3=>?_⟩
     · have hR:=A5.out (by rw [A3.out];simp [h0])
       subst h0
       clear A5 A4 A3 A0
       go_wp2_with fail
       go_ret
       exact ⟨by rw [hR];rfl,hb⟩
     · have B5:=hZ9 (A4.out (by rw [A3.out,C2 h1];simp [h0]))
       have g0:((j:Int)==0)=false:=by simpa using h0
       have g1:((c.toNat:Int) !=45)=false:=by simp;omega
       clear A5 A4 A3 A0
       go_wp2_with fail
       go_roundw
       case rel=>exact ⟨j+1,by omega,by go_num,B5,B6,hb⟩
       case measure=>simp [intOf];omega
     · have B8:(c==45)=false:=by
        cases h:c==45
        · rfl
        · have:=eq_of_beq h;subst this;exact absurd rfl h1
       have hR:=A5.out (by rw [A3.out,B8];simp [FiS.isDig];omega)
       have g0:((j:Int)==0)=false:=by simpa using h0
       have g1:((c.toNat:Int) !=45)=true:=by simp;omega
       have g2:decide ((c.toNat:Int)<48)=true:=decide_eq_true (by omega)
       clear A5 A4 A3 A0
       go_wp2_with fail
       go_ret
       exact ⟨by rw [hR];rfl,hb⟩
     · have B8:(c==45)=false:=by
        cases h:c==45
        · rfl
        · have:=eq_of_beq h;subst this;exact absurd rfl h1
       have hR:=A5.out (by rw [A3.out,B8];simp [FiS.isDig];omega)
       have g0:((j:Int)==0)=false:=by simpa using h0
       have g1:((c.toNat:Int) !=45)=true:=by simp;omega
       have g2:decide ((c.toNat:Int)<48)=false:=decide_eq_false (by omega)
       have g3:decide ((57:Int)<(c.toNat:Int))=true:=decide_eq_true (by omega)
       clear A5 A4 A3 A0
       go_wp2_with fail
       go_ret
       exact ⟨by rw [hR];rfl,hb⟩
     · have B5:=hZ9 (A4.out (by rw [A3.out];simp [FiS.isDig,h0];omega))
       have g0:((j:Int)==0)=false:=by simpa using h0
       have g1:((c.toNat:Int) !=45)=true:=by simp;omega
       have g2:decide ((c.toNat:Int)<48)=false:=decide_eq_false (by omega)
       have g3:decide ((57:Int)<(c.toNat:Int))=false:=decide_eq_false (by omega)
       clear A5 A4 A3 A0
       go_wp2_with fail
       go_roundw
       case rel=>exact ⟨j+1,by omega,by go_num,B5,B6,hb⟩
       case measure=>simp [intOf];omega
  · have hR:=A1.out (fun i hi=>HA.out i hi (by omega))
    clear A6 A2 A1 HA
    cases B3:s.isEmpty with
    | true=>
     have h2:s=[]:=List.isEmpty_iff.1 B3
     rw [B3] at hR
     have hR:R=false:=hR
     subst h2
     go_wp2_with fail
     go_ret
     exact ⟨by rw [hR];rfl,hb⟩
    | false=>
     have h2:(s==[])=false:=by cases s <;> simp_all
     have h3:¬s=[]:=fun h=>by rw [h] at B3;cases B3
     rw [B3,hn] at hR
     have hR:R=decide (n<=40):=hR
     have e:decide ((n:Int)<=40)=decide (n<=40):=decide_eq_decide.2 (by omega)
     rw [<-e] at hR
     clear e
     go_wp2_with fail
     go_ret
     exact ⟨by rw [hR];rfl,hb⟩
end
end Go.Proofs.YtgngjfjaelgaeaaGreatDoor
