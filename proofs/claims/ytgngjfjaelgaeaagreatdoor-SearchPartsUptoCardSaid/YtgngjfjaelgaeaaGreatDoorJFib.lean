/- Rows of the call's own whose elements have k cells each and hold slices themselves: what they hold lies outside the row. Conditions: as stated. -/
import Derived.Lib.OwnKind
import Derived.Deep.Onto
import Derived.Test.YtgngjfjaelgaeaaGreatDoorJEnt
set_option maxRecDepth 100000
set_option maxHeartbeats 2000000
namespace Go.Proofs.YtgngjfjaelgaeaaGreatDoor
open Go.Proofs.Tryz
section
open Go.RowKit
structure RLay (α:Type) where
 k:Nat
 pos:0<k
 El:(Nat->Prop)->World->List Value->α->Prop
 keep:∀{ok ok':Nat->Prop} {w w':World} {cs:List Value} {x:α},El ok w cs x->w.heap.size<=w'.heap.size->(∀g,g<w.heap.size->ok g->w'.heap[g]?=w.heap[g]?)->(∀g,g<w.heap.size->ok g->ok' g)->El ok' w' cs x
 len:∀{ok:Nat->Prop} {w:World} {cs:List Value} {x:α},El ok w cs x->cs.length=k
 one:∀{ok:Nat->Prop} {w:World} {cs:List Value} {x:α},El ok w cs x->∀u ∈ cs,u.oneCell'=true
def AtG {α:Type} (L:RLay α) (ok:Nat->Prop) (w:World) (g o:Nat) (x:α):Prop:=∃cs,(∀(j:Nat) (u:Value),cs[j]?=some u->w.cell? ⟨g,o+j,none⟩=some u)/\L.El ok w cs x
theorem AtG.keep {α:Type} {L:RLay α} {ok ok':Nat->Prop} {w w':World} {g o:Nat} {x:α} (h:AtG L ok w g o x) (c:w'.heap[g]?=w.heap[g]?) (d:w.heap.size<=w'.heap.size) (hb:∀g,g<w.heap.size->ok g->w'.heap[g]?=w.heap[g]?) (hk:∀g,g<w.heap.size->ok g->ok' g):AtG L ok' w' g o x:=by obtain ⟨cs,h1,h2⟩:=h;exact ⟨cs,fun j u b=>(World.cell?_of_block (a:=⟨g,o+j,none⟩) c).trans (h1 j u b),L.keep h2 d hb hk⟩
def KN {α:Type} (L:RLay α) (rok ok:Nat->Prop) (w:World) (v:Value) (xs:List α):Prop:=Ad L.k (AtG L ok) rok w v xs
theorem KN.keep {α:Type} {L:RLay α} {rok a ok ok':Nat->Prop} {w w':World} {v:Value} {xs:List α} (h:KN L rok ok w v xs) (d:w.heap.size<=w'.heap.size) (e:∀g,g<w.heap.size->rok g->w'.heap[g]?=w.heap[g]?) (b:∀g,g<w.heap.size->rok g->a g)
  (hb:∀g,g<w.heap.size->ok g->w'.heap[g]?=w.heap[g]?) (hk:∀g,g<w.heap.size->ok g->ok' g):KN L a ok' w' v xs:=
 Ad.imp h d b fun g _ _ f c hx=>hx.keep (e g f c) d hb hk
theorem XN {k:Nat}:∀{a:List (List Value)},(∀cs ∈ a,cs.length=k)->∀(i j:Nat) (cs:List Value) (u:Value),a[i]?=some cs->cs[j]?=some u->a.flatten[i*k+j]?=some u
 | [],_,i,j,cs,u,h,_=>by simp at h
 | c :: a,hl,0,j,cs,u,h,hj=>by simp only [aH,bn] at h;subst h;have b:=(aj.1 hj).1;rw [List.flatten_cons,cO,bi,bF b];exact hj
 | c :: a,hl,i+1,j,cs,u,h,hj=>by
  have h1:=hl c (ai ..);have f:=XN (fun d hd=>hl d (ar _ hd)) i j cs u (by simpa using h) hj;have e:(i+1)*k+j=c.length+(i*k+j):=by rw [h1,fR];omega
  rw [List.flatten_cons,e,bC (by omega),eG];exact f
theorem UA {k:Nat}:∀{a:List (List Value)},(∀cs ∈ a,cs.length=k)->a.flatten.length=a.length*k
 | [],_=>by simp
 | c :: a,hl=>by rw [List.flatten_cons,aT,hl c (ai ..),UA (fun d hd=>hl d (ar _ hd)),aO,fR,eT]
def CC {α:Type} (L:RLay α) (T:TypeId) (P:Nat->Prop) (w:World) (B:Nat) (v:Value) (xs:List α):Prop:=
 ∃a:List (List Value),w.ownsRow B T L.k v xs.length a.flatten/\a.length=xs.length/\∀(i:Nat) (cs:List Value) (x:α),a[i]?=some cs->xs[i]?=some x->L.El (fun g=>P g/\v.ownBlock≠some g) w cs x
theorem CC.empty {α:Type} (L:RLay α) (T:TypeId) (P:Nat->Prop) (w:World) (B:Nat):CC L T P w B (.slice none 0 0) []:=⟨[],World.ownsRow_nil w B _ _,rfl,fun i cs x h=>by simp at h⟩
theorem CC.form {α:Type} {L:RLay α} {T:TypeId} {P:Nat->Prop} {w:World} {B:Nat} {v:Value} {xs:List α} (h:CC L T P w B v xs):∃a c,v=.slice a xs.length c:=by
 obtain ⟨d,h,_⟩:=h;rcases h.2 with ⟨rfl,b⟩ | ⟨g,cap,cur,rfl,_⟩
 · exact ⟨_,_,by rw [b]⟩
 · exact ⟨_,_,rfl⟩
theorem CC.call {α:Type} {L:RLay α} {T:TypeId} {P:Nat->Prop} {w w':World} {B:Nat} {v:Value} {xs:List α} (h:CC L T P w B v xs) (hb:Below w.heap.size w w'):CC L T P w' B v xs:=by obtain ⟨c,h1,h2,h3⟩:=h;exact ⟨c,World.ownsRow.kept h1 (Ba hb) (by cases v.ownBlock <;> simp),h2,fun i u l a b=>L.keep (h3 i u l a b) hb.size (fun g d _=>hb.block g d) (fun g _ h=>h)⟩
theorem CC.mono {α:Type} {L:RLay α} {T:TypeId} {P:Nat->Prop} {w:World} {B a:Nat} {v:Value} {xs:List α} (h:CC L T P w B v xs) (hB:a<=B):CC L T P w a v xs:=by obtain ⟨b,h1,h2,h3⟩:=h;exact ⟨b,World.ownsRow.mono h1 hB,h2,h3⟩
theorem CC.lens {α:Type} {L:RLay α} {ok:Nat->Prop} {w:World} {a:List (List Value)} {xs:List α} (h2:a.length=xs.length) (h3:∀(i:Nat) (cs:List Value) (x:α),a[i]?=some cs->xs[i]?=some x->L.El ok w cs x):∀cs ∈ a,cs.length=L.k:=fun cs b=>by obtain ⟨i,c,rfl⟩:=bf.1 b;exact L.len (h3 i _ _ (aJ c) (aJ (show i<xs.length by omega)))
theorem CC.read {α:Type} {L:RLay α} {T:TypeId} {P:Nat->Prop} {w:World} {B:Nat} {v:Value} {xs:List α} (h:CC L T P w B v xs) (rok:Nat->Prop) (b:∀g,B<=g->rok g):KN L rok P w v xs:=by
 obtain ⟨c,h1,h2,h3⟩:=h;have m:=CC.lens h2 h3;rcases h1.2 with ⟨rfl,d⟩ | ⟨g,cap,cur,rfl,p,o,d,q,hsz,l⟩
 · exact ⟨none,0,by rw [d],by omega,.inl (aW d)⟩
 · refine ⟨some ⟨g,0,none⟩,cap,rfl,d,.inr ⟨g,0,rfl,(ah.1 o).1,b g p,fun j x f=>?_⟩⟩;have e:j<c.length:=by rw [h2];exact (aj.1 f).1
   have hu:=aJ e;refine ⟨c[j],fun i u n=>?_,L.keep (h3 j _ x hu f) (aA _) (fun _ _ _=>rfl) (fun g _ h=>h.1)⟩;have c0:=World.ownsRow.cells h1 (g:=g) rfl (j*L.k+i) u (XN m j i _ u hu n);have a:∀i,(⟨g,0,none⟩:Addr).add i=⟨g,0+i,none⟩:=fun i=>by unfold Addr.add;split <;> simp_all
   rw [a] at c0;rw [cN];exact c0
theorem CC.block {α:Type} {L:RLay α} {T:TypeId} {P:Nat->Prop} {w:World} {B:Nat} {v:Value} {xs:List α} (h:CC L T P w B v xs) {g:Nat} (a:v.ownBlock=some g):B<=g/\g<w.heap.size:=by obtain ⟨b,h1,_⟩:=h;exact World.ownsRow.lt h1 g a
theorem Ae5 {α:Type} {L:RLay α} {ok:Nat->Prop} {w:World} {xs:List α} {g o:Nat} (h:∀(j:Nat) (x:α),xs[j]?=some x->AtG L ok w g (o+j*L.k) x):
  ∃a:List (List Value),a.length=xs.length/\(∀(i:Nat) (cs:List Value) (x:α),a[i]?=some cs->xs[i]?=some x->L.El ok w cs x)/\(∀(j:Nat) (u:Value),a.flatten[j]?=some u->w.cell? ⟨g,o+j,none⟩=some u)/\∀u ∈ a.flatten,u.oneCell'=true:=by
 induction xs generalizing o with
 | nil=>exact ⟨[],rfl,fun i cs x h=>by simp at h,fun j u h=>by simp at h,fun u h=>by simp at h⟩
 | cons x xs n=>
  obtain ⟨a,k1,m,l,p⟩:=n (o:=o+L.k) (fun j y b=>by
   have:=h (j+1) y (by simpa using b);have e:o+(j+1)*L.k=o+L.k+j*L.k:=by rw [fR];omega
   rw [e] at this;exact this)
  obtain ⟨cs,c1,c2⟩:=h 0 x rfl;have q:=L.len c2;refine ⟨cs :: a,by simp [k1],fun i ds y c f=>?_,fun j u b=>?_,fun u hu=>?_⟩
  · cases i with
    | zero=>simp only [aH,bn] at c f;subst c;subst f;exact c2
    | succ i=>exact m i ds y (by simpa using c) (by simpa using f)
  · rw [List.flatten_cons] at b;by_cases d:j<cs.length
    · rw [bF d] at b;have:=c1 j u b;rw [cO,Nat.add_zero] at this;exact this
    · rw [bC (by omega)] at b;have:=l _ u b;have e:o+L.k+(j - cs.length)=o+j:=by omega
      rw [e] at this;exact this
  · rw [List.flatten_cons] at hu;rcases b9.1 hu with hu | hu
    · exact L.one c2 u hu
    · exact p u hu
theorem CC.grows {α:Type} {L:RLay α} {T:TypeId} {P:Nat->Prop} {w w':World} {B:Nat} {v j:Value} {xs ys:List α} {b dss:List (List Value)} (h2:b.length=xs.length)
  (h3:∀(i:Nat) (cs:List Value) (x:α),b[i]?=some cs->xs[i]?=some x->L.El (fun g=>P g/\v.ownBlock≠some g) w cs x) (p:dss.length=ys.length) (o:∀(i:Nat) (cs:List Value) (x:α),dss[i]?=some cs->ys[i]?=some x->L.El (fun g=>P g/\v.ownBlock≠some g) w cs x)
  (h4:w'.ownsRow B T L.k j (xs.length+ys.length) (b.flatten++dss.flatten)) (n:w.grownBy w' v.ownBlock) (c:j.ownBlock=v.ownBlock\/j.ownBlock=some w.heap.size):CC L T P w' B j (xs++ys):=by
 have a:∀{cs:List Value} {x:α},L.El (fun g=>P g/\v.ownBlock≠some g) w cs x->L.El (fun g=>P g/\j.ownBlock≠some g) w' cs x:=fun h=>L.keep h n.size (fun g f d=>n.block g f (fun e=>d.2 e.symm)) (fun g f d=>⟨d.1,fun e=>by
  rcases c with c | c
  · exact d.2 (c ▸ e)
  · rw [c] at e;cases e;omega⟩)
 refine ⟨b++dss,by rw [List.flatten_append,aT];exact h4,by simp [h2,p],fun i z y l m=>?_⟩;by_cases f:i<b.length
 · rw [bF f] at l;rw [bF (by omega)] at m;exact a (h3 i z y l m)
 · rw [bC (by omega)] at l;rw [bC (by omega),<-h2] at m;exact a (o _ z y l m)
theorem UB {α:Type} (L:RLay α) {w:World} (T n ty:TypeId) (d:prog.underlying n=some (.slice T)) {i0:TypeInfo} {z:Value}
  (r:prog.info? T=some i0) (G:i0.zero=some z) (hsz:i0.size=L.k) (E:i0.bytes<=140) (m:z.cells.size=L.k) (P:Nat->Prop) (B:Nat) (v:Value) (xs:List α) (q:CC L T P w B v xs) (u:Value) (ys:List α)
  {rok:Nat->Prop} (t:KN L rok (fun g=>P g/\v.ownBlock≠some g) w u ys) (H:xs.length+ys.length<=1000000000) (hB:B<=w.heap.size):
  ∃b w',(Builtin.append_ #[n,n] ty #[v,u]).run prog w=.ok b w'/\CC L T P w' B b (xs++ys)/\Below B w w'/\w.grownBy w' v.ownBlock/\(b.ownBlock=v.ownBlock\/b.ownBlock=some w.heap.size):=by
 obtain ⟨A,c,rfl,hc,a⟩:=t;obtain ⟨C,h1,h2,h3⟩:=q;have hbm:(xs.length+ys.length)*i0.bytes<=140737488355328:=aY (fy H E) (by decide);have hu:=run_underlying d;cases A with
 | none=>
  rcases a with rfl | ⟨g,o,e,_⟩
  · refine ⟨v,w,?_,by rw [bJ];exact ⟨C,h1,h2,h3⟩,Below.refl B w,⟨rfl,rfl,rfl,aA _,fun _ _ _=>rfl⟩,.inl rfl⟩;rcases h1.2 with ⟨rfl,J⟩ | ⟨g,cap,cur,rfl,_,_,s,_⟩
    · simp [Builtin.append_,hu,sizeOf,typeInfo,r,Builtin.lenOf,Builtin.firstCells]
    · simp [Builtin.append_,hu,sizeOf,typeInfo,r,Builtin.lenOf,Builtin.firstCells,s,storeCells]
  · cases e
 | some I=>
  rcases a with rfl | ⟨g,o2,e,K,_,hcell⟩
  · obtain ⟨b,w',F,k1,f,_,p⟩:=run_append_own_at (P:=prog) w B n ty T i0 z L.k i0.bytes d r G hsz rfl m L.pos v xs.length _ h1 I 0 c [] (by simp) (fun j u y=>by simp at y) (fun u hu=>by cases hu) (by simp at H;unfold maxLen;omega) (by simpa using hbm) hB;exact ⟨b,w',F,CC.grows (ys:=[]) (dss:=[]) h2 h3 rfl (fun i cs x h=>by simp at h) (by simpa using k1) f p,(Below.refl B w).grown f hB (fun k hk=>(World.ownsRow.lt h1 k hk).1),f,p⟩
  · cases e;obtain ⟨dss,d1,d2,d3,d4⟩:=Ae5 hcell;obtain ⟨b,w',F,k1,f,_,p⟩:=run_append_own_at (P:=prog) w B n ty T i0 z L.k i0.bytes d r G hsz rfl m L.pos v xs.length _ h1 ⟨g,o2,none⟩ ys.length c dss.flatten (by rw [UA (CC.lens d1 d2),d1])
     (fun j u y=>by
       have l:(⟨g,o2,none⟩:Addr).add j=⟨g,o2+j,none⟩:=by unfold Addr.add;split <;> simp_all
       rw [l];exact d3 j u y) d4 (by unfold maxLen;omega) hbm hB
    exact ⟨b,w',F,CC.grows h2 h3 d1 d2 k1 f p,(Below.refl B w).grown f hB (fun k hk=>(World.ownsRow.lt h1 k hk).1),f,p⟩
theorem Agv {α:Type} (L:RLay α) {w:World} {o:Oper} {a:Act} {K:Act->World->Prop} {Q:Exit->Act->World->Prop} (T d:TypeId) (j:prog.underlying d=some (.slice T)) {i0:TypeInfo} {z:Value}
  (q:prog.info? T=some i0) (l:i0.zero=some z) (hsz:i0.size=L.k) (i:i0.bytes<=140) (f:z.cells.size=L.k) (s x:Operand)
  (n:o.op=.call { callee:=.builtin .append,args:=#[s,x],argTypes:=#[d,d] })
  (P:Nat->Prop) (B:Nat) (v:Value) (xs:List α) (r:a.eval s=v) (c:CC L T P w B v xs) (u:Value) (ys:List α) (hx:a.eval x=u)
  {rok:Nat->Prop} (e:KN L rok (fun g=>P g/\v.ownBlock≠some g) w u ys) (p:xs.length+ys.length<=1000000000) (hB:B<=w.heap.size)
  (h:∀b w',CC L T P w' B b (xs++ys)->Below B w w'->w.grownBy w' v.ownBlock->(b.ownBlock=v.ownBlock\/b.ownBlock=some w.heap.size)->K (a.put o.dst b) w'):Oper.wp prog o a w K Q:=by
 obtain ⟨b,w',m,h1,h2,h3,h4⟩:=UB L T d o.type j q l hsz i f P B v xs c u ys e p hB;unfold Oper.wp execOp;simp only [n,resolve,invoke,builtin,Sem.run_bind,Sem.run_pure,Result.andThen_ok,List.map_toArray,cz,fU,r,hx,m];exact h b w' h1 h2 h3 h4
end
section
open Go.RowKit
open FiS (Fi)
def IY:Nat->(Nat->Prop)->World->Nat->Nat->Fi->Prop
 | 0,_,_,_,_,_=>False
 | n+1,ok,w,g,o,x=>∃a up,(w.cell? ⟨g,o,none⟩=some (.int .i64 x.kind)/\w.cell? ⟨g,o+1,none⟩=some (Ac x.attr)/\w.cell? ⟨g,o+2,none⟩=some (Ac x.value)/\w.cell? ⟨g,o+3,none⟩=some (Ac x.first)/\w.cell? ⟨g,o+4,none⟩=some (Ac x.last)/\w.cell? ⟨g,o+5,none⟩=some a/\w.cell? ⟨g,o+6,none⟩=some up)/\Aj ok w a x.any/\Ad 7 (IY n ok) ok w up x.parts
def BC (n:Nat) (ok:Nat->Prop) (w:World) (v:Value) (xs:List Fi):Prop:=Ad 7 (IY n ok) ok w v xs
theorem IY.keep {ok ok':Nat->Prop} {w w':World} (d:w.heap.size<=w'.heap.size) (hb:∀g,g<w.heap.size->ok g->w'.heap[g]?=w.heap[g]?) (hk:∀g,g<w.heap.size->ok g->ok' g):
  ∀{n:Nat} {g o:Nat} {x:Fi},IY n ok w g o x->w'.heap[g]?=w.heap[g]?->IY n ok' w' g o x:=by
 intro n
 induction n with
 | zero=>intro g o x h _;cases h
 | succ n j=>intro g o x h c;obtain ⟨f,up,⟨h0,h1,h2,h3,h4,h5,h6⟩,e,hp⟩:=h;have hc:=fun i=>World.cell?_of_block (a:=⟨g,i,none⟩) c;exact ⟨f,up,⟨(hc _).trans h0,(hc _).trans h1,(hc _).trans h2,(hc _).trans h3,(hc _).trans h4,(hc _).trans h5,(hc _).trans h6⟩,Aj.keep e d hb hk,Ad.imp hp d hk fun g o x c b hx=>j hx (hb g c b)⟩
theorem BC.keep {n:Nat} {ok ok':Nat->Prop} {w w':World} {v:Value} {xs:List Fi} (h:BC n ok w v xs) (b:w.heap.size<=w'.heap.size) (hb:∀g,g<w.heap.size->ok g->w'.heap[g]?=w.heap[g]?) (hk:∀g,g<w.heap.size->ok g->ok' g):BC n ok' w' v xs:=
 Ad.imp h b hk fun g _ _ c a hx=>IY.keep b hb hk hx (hb g c a)
theorem BC.call {n:Nat} {ok:Nat->Prop} {w w':World} {v:Value} {xs:List Fi} (h:BC n ok w v xs) (hb:Below w.heap.size w w'):BC n ok w' v xs:=h.keep hb.size (fun g a _=>hb.block g a) (fun _ _ h=>h)
theorem IY.mono {n:Nat}:∀{m:Nat} {ok:Nat->Prop} {w:World} {g o:Nat} {x:Fi},IY m ok w g o x->IY (m+n) ok w g o x:=by
 intro m
 induction m with
 | zero=>intro ok w g o x h;cases h
 | succ m a=>intro ok w g o x h;rw [Nat.succ_add];obtain ⟨c,up,hc,b,hp⟩:=h;exact ⟨c,up,hc,b,Ad.imp hp (aA _) (fun _ _ h=>h) fun _ _ _ _ _ hx=>a hx⟩
theorem BC.mono {n m:Nat} (a:m<=n) {ok:Nat->Prop} {w:World} {v:Value} {xs:List Fi} (h:BC m ok w v xs):BC n ok w v xs:=by
 obtain ⟨d,rfl⟩:∃d,n=m+d:=⟨n - m,by omega⟩
 exact Ad.imp h (aA _) (fun _ _ h=>h) fun _ _ _ _ _ hx=>IY.mono hx
def FiV (n:Nat) (ok:Nat->Prop) (w:World) (v:Value) (x:Fi):Prop:=∃a up,v=.agg #[.int .i64 x.kind,.string ⟨x.attr.toArray⟩,.string ⟨x.value.toArray⟩,.string ⟨x.first.toArray⟩,.string ⟨x.last.toArray⟩,a,up]/\Aj ok w a x.any/\BC n ok w up x.parts
theorem FiV.keep {n:Nat} {ok ok':Nat->Prop} {w w':World} {v:Value} {x:Fi} (h:FiV n ok w v x) (a:w.heap.size<=w'.heap.size) (hb:∀g,g<w.heap.size->ok g->w'.heap[g]?=w.heap[g]?) (hk:∀g,g<w.heap.size->ok g->ok' g):FiV n ok' w' v x:=by obtain ⟨b,up,rfl,h1,h2⟩:=h;exact ⟨b,up,rfl,h1.keep a hb hk,h2.keep a hb hk⟩
theorem FiV.call {n:Nat} {ok:Nat->Prop} {w w':World} {v:Value} {x:Fi} (h:FiV n ok w v x) (hb:Below w.heap.size w w'):FiV n ok w' v x:=h.keep hb.size (fun g a _=>hb.block g a) (fun _ _ h=>h)
abbrev Dh (n:Nat):World->Value->Fi->Prop:=FiV n (fun _=>True)
theorem FiV.ins {n:Nat} {ok:Nat->Prop} {w:World} {v:Value} {x:Fi} (h:FiV n ok w v x):Dh n w v x:=h.keep (aA _) (fun _ _ _=>rfl) (fun _ _ _=>trivial)
theorem FiV.parts {n:Nat} {w:World} {v:Value} {x:Fi} (h:Dh n w v x):∃a5 c5 b a,v=.agg #[.int .i64 x.kind,.string ⟨x.attr.toArray⟩,.string ⟨x.value.toArray⟩,.string ⟨x.first.toArray⟩,.string ⟨x.last.toArray⟩,.slice a5 x.any.length c5,.slice b x.parts.length a]/\Ah w (.slice a5 x.any.length c5) x.any/\x.parts.length<=a/\BC n (fun _=>True) w (.slice b x.parts.length a) x.parts:=by obtain ⟨c,up,rfl,h1,h2⟩:=h;obtain ⟨a5,c5,rfl,_⟩:=Ad.form h1;obtain ⟨b,a,rfl,hc⟩:=Ad.form h2;exact ⟨a5,c5,b,a,rfl,h1.strs,hc,h2⟩
theorem BC.at {n:Nat} {w:World} {a:Option Addr} {m c:Nat} {xs:List Fi} (h:BC n (fun _=>True) w (.slice a m c) xs):∀j (b:j<xs.length),∃d,n=d+1/\∃g o,a=some ⟨g,o,none⟩/\g<w.heap.size/\∃a5 c5 i f,Dh d w (.agg #[.int .i64 (xs[j]'b).kind,.string ⟨(xs[j]'b).attr.toArray⟩,.string ⟨(xs[j]'b).value.toArray⟩,.string ⟨(xs[j]'b).first.toArray⟩,.string ⟨(xs[j]'b).last.toArray⟩,.slice a5 (xs[j]'b).any.length c5,.slice i (xs[j]'b).parts.length f]) (xs[j]'b)/\
  w.cell? ⟨g,o+j*7,none⟩=some (.int .i64 (xs[j]'b).kind)/\w.cell? ⟨g,o+j*7+1,none⟩=some (.string ⟨(xs[j]'b).attr.toArray⟩)/\w.cell? ⟨g,o+j*7+2,none⟩=some (.string ⟨(xs[j]'b).value.toArray⟩)/\w.cell? ⟨g,o+j*7+3,none⟩=some (.string ⟨(xs[j]'b).first.toArray⟩)/\w.cell? ⟨g,o+j*7+4,none⟩=some (.string ⟨(xs[j]'b).last.toArray⟩)/\
  w.cell? ⟨g,o+j*7+5,none⟩=some (.slice a5 (xs[j]'b).any.length c5)/\w.cell? ⟨g,o+j*7+6,none⟩=some (.slice i (xs[j]'b).parts.length f):=by
 intro j b;obtain ⟨v,u,e,hc,l⟩:=Ad.at h;injection e with e1 e2 e3;subst e1;obtain ⟨g,o,r,s,_,hx⟩:=l j b;generalize xs[j]=x at*;cases n with
 | zero=>cases hx
 | succ d=>obtain ⟨t,up,⟨h0,h1,h2,h3,h4,h5,h6⟩,q,hp⟩:=hx;have k:=q;have p:=hp;obtain ⟨a5,c5,rfl,_⟩:=Ad.form q;obtain ⟨i,f,rfl,_⟩:=Ad.form hp;exact ⟨d,rfl,g,o,r,s,a5,c5,i,f,⟨_,_,rfl,k,p⟩,h0,h1,h2,h3,h4,h5,h6⟩
theorem Whole.seven {w:World} {g:Nat} {t:TypeId} {a0 a1 a2 a3 a4 a5 a:Value} (h:Whole w g t #[a0,a1,a2,a3,a4,a5,a]):w.cell? ⟨g,0,none⟩=some a0/\w.cell? ⟨g,1,none⟩=some a1/\w.cell? ⟨g,2,none⟩=some a2/\w.cell? ⟨g,3,none⟩=some a3/\w.cell? ⟨g,4,none⟩=some a4/\w.cell? ⟨g,5,none⟩=some a5/\w.cell? ⟨g,6,none⟩=some a:=
 ⟨h.cell 0,h.cell 1,h.cell 2,h.cell 3,h.cell 4,h.cell 5,h.cell 6⟩
theorem Fg {P:Nat->Prop} (h:∀n,(∀m,n=m+1->P m)->P n):∀n,P n:=by
 intro n
 induction n with
 | zero=>exact h 0 (fun m e=>by omega)
 | succ n a=>exact h (n+1) (fun m e=>by cases e;exact a)
end
section
namespace FiS
theorem Ie:∀{ps:List Fi} {j:Nat} (a:j<ps.length),Bi (ps.take (j+1))=Bi (ps.take j)+nodes (ps[j]'a)
 | [],j,a=>by simp at a
 | p :: r,0,_=>by
  show nodes p+Bi (r.take 0)=Bi []+nodes p
  simp [Bi]
 | p :: r,j+1,a=>by
  have b:=Ie (ps:=r) (j:=j) (by simpa using a);show nodes p+Bi (r.take (j+1))=nodes p+Bi (r.take j)+nodes (r[j]'(by simpa using a))
  omega
theorem LX:∀(ps:List Fi) (j:Nat),Bi (ps.take j)<=Bi ps
 | [],j=>by simp
 | p :: r,0=>by simp [Bi]
 | p :: r,j+1=>by
  have:=LX r j;show nodes p+Bi (r.take j)<=nodes p+Bi r
  omega
theorem LZ:∀(ps:List Fi),ps.length<=Bi ps
 | []=>aR _
 | p :: r=>by
  have h1:=LZ r;have h2:1<=nodes p:=by cases p;rw [nodes];omega
  show r.length+1<=nodes p+Bi r
  omega
theorem Mc {ps:List Fi} {j:Nat} (h:j<=ps.length):j<=Bi (ps.take j):=by have:=LZ (ps.take j);rw [au] at this;omega
theorem Ry (x:Fi):1<=nodes x:=by cases x;rw [nodes];omega
theorem Ig:∀{ps:List Fi} {j:Nat} (a:j<ps.length),BK (ps.take (j+1))=max (BK (ps.take j)) (depth (ps[j]'a))
 | [],j,a=>by simp at a
 | p :: r,0,_=>by
  show max (depth p) (BK (r.take 0))=max (BK []) (depth p)
  simp [BK]
 | p :: r,j+1,a=>by
  have b:=Ig (ps:=r) (j:=j) (by simpa using a);show max (depth p) (BK (r.take (j+1)))=max (max (depth p) (BK (r.take j))) (depth (r[j]'(by simpa using a)))
  omega
end FiS
open Go.RowKit
open FiS (Fi)
attribute [local go_sem ↓] Go.wp_at_zero Go.wp_at_succ
def Af9 (n:Nat):Prop:=∀(x:Fi) (v:Value) (w:World),Dh n w v x->Calls prog 88 #[v] w fun e w'=>e=.returned (.int .i64 ((min (FiS.nodes x) 41:Nat):Int))/\Below w.heap.size w w'
theorem Ae6:∀n,Af9 n:=Fg (fun n IH=>by
 intro x v w h;obtain ⟨kd,l,Z,X,ls,I,ps⟩:=x;obtain ⟨a5,c5,Y,J,hv,f,u,c⟩:=FiV.parts h;have hv:v=.agg #[.int .i64 kd,.string ⟨l.toArray⟩,.string ⟨Z.toArray⟩,.string ⟨X.toArray⟩,.string ⟨ls.toArray⟩,.slice a5 I.length c5,.slice Y ps.length J]:=hv;subst hv;have f:Ah w (.slice a5 I.length c5) I:=f;have u:ps.length<=J:=u;have c:BC n (fun _=>True) w (.slice Y ps.length J) ps:=c;have HT:=hZ9 (fun j (F:j<ps.length)=>FiS.Ie F);have B:=hZ9 (fun j=>FiS.LX ps j);have z:=hZ9 (fun j (F:j<=ps.length)=>FiS.Mc F);have t:Hid (ps.take ps.length=ps):=hZ9 (bE);have hN:FiS.nodes (.mk kd l Z X ls I ps)=1+FiS.Bi ps:=by rw [FiS.nodes]
 rw [hN];clear hN;obtain ⟨R,hR⟩:∃r,min (1+FiS.Bi ps) 41=r:=⟨_,rfl⟩
 have HR:=hZ9 hR;rw [hR];clear hR;obtain ⟨AL,k⟩:∃m,I.length=m:=⟨_,rfl⟩
 obtain ⟨y,b⟩:∃m,ps.length=m:=⟨_,rfl⟩
 have A6:=hZ9 k;have A1:=hZ9 b;rw [k] at f;rw [b] at u c
 try rw [k]
 try rw [b]
 have H:=Af w (.cells #[.int .i64 kd,.string ⟨l.toArray⟩,.string ⟨Z.toArray⟩,.string ⟨X.toArray⟩,.string ⟨ls.toArray⟩,.slice a5 AL c5,.slice Y y J] 36);have K:=Whole.made w 36 #[.int .i64 kd,.string ⟨l.toArray⟩,.string ⟨Z.toArray⟩,.string ⟨X.toArray⟩,.string ⟨ls.toArray⟩,.slice a5 AL c5,.slice Y y J];have E:=hZ9 (fun j (F:j<ps.length)=>BC.at c j F);rw [b] at t;obtain ⟨q0,q1,q2,q3,q4,q5,q6⟩:=K.seven;clear h f c k b A6;go_enter func88,ntmps88;go_wp2_with fail;go_loopw [3,9] (fun nv i wr=>∃j N:Nat,j<=y/\i=.int .i64 j/\nv=.int .i64 (N:Int)/\Hid (N=1+FiS.Bi (ps.take j))/\N<=40/\Below w.heap.size w wr) (fun _ i _=>y - (intOf i).toNat)
 case atStart=>exact ⟨0,1,aR _,rfl,rfl,hZ9 ((by simp [FiS.Bi])),by omega,H⟩
 case round=>
  obtain ⟨j,N,F,rfl,rfl,Q,O,hb⟩:=hrel;clear K H q0 q1 q2 q3 q4 q5 q6;by_cases A3:j<y
  · have a:j<ps.length:=by rw [A1.out];exact A3
    have ht:=HT.out j a;have B1:=z.out j (dD a);have L:N<=40->j<=40:=fun h=>by have:=Q.out;omega
    have B2:=B.out (j+1);obtain ⟨d,rfl,g,o,rfl,C,b5,d5,b6,d6,q,y0,y1,y2,y3,y4,y5,y6⟩:=E.out j a;have q:=q.call hb;have y0:=(hb.cell (p:=⟨g,o+j*7,none⟩) C).trans y0;have y1:=(hb.cell (p:=⟨g,o+j*7+1,none⟩) C).trans y1;have y2:=(hb.cell (p:=⟨g,o+j*7+2,none⟩) C).trans y2;have y3:=(hb.cell (p:=⟨g,o+j*7+3,none⟩) C).trans y3;have y4:=(hb.cell (p:=⟨g,o+j*7+4,none⟩) C).trans y4;have y5:=(hb.cell (p:=⟨g,o+j*7+5,none⟩) C).trans y5;have y6:=(hb.cell (p:=⟨g,o+j*7+6,none⟩) C).trans y6;have s:=fun v W h=>IH d rfl (ps[j]'a) v W h;have P:=FiS.Ry (ps[j]'a);clear IH E HT B z;generalize ps[j]=p at*;generalize p.any.length=PA at*;generalize p.parts.length=PP at*;have B4:(0:Int)<=(j:Int):=by omega
    have B3:(j:Int)<(y:Int):=by omega
    have S:=Af wr (.cells #[.int .i64 p.kind,.string ⟨p.attr.toArray⟩,.string ⟨p.value.toArray⟩,.string ⟨p.first.toArray⟩,.string ⟨p.last.toArray⟩,.slice b5 PA d5,.slice b6 PP d6] 36);have V:=Whole.made wr 36 #[.int .i64 p.kind,.string ⟨p.attr.toArray⟩,.string ⟨p.value.toArray⟩,.string ⟨p.first.toArray⟩,.string ⟨p.last.toArray⟩,.slice b5 PA d5,.slice b6 PP d6];obtain ⟨x0,x1,x2,x3,x4,x5,x6⟩:=V.seven;have G:=hb.trans (S.mono hb.size);have hc:=s _ _ (q.call S);clear s q V;obtain ⟨M,hM⟩:∃m,FiS.nodes p=m:=⟨_,rfl⟩
    rw [hM] at hc ht P;clear hM;obtain ⟨M2,A⟩:∃m,min M 41=m:=⟨_,rfl⟩
    rw [A] at hc;have A9:M2<=41/\(M2=M\/(M2=41/\41<M)):=by omega
    have B0:=hZ9 A;clear A;go_wp2_with fail;refine hc.mono ?_;rintro e w2 ⟨rfl,A0⟩;have T:=G.trans (A0.mono G.size);clear hc;by_cases U:40<N+M2
    · have A7:decide ((40:Int)<(N:Int)+(M2:Int))=true:=aL (by omega);have hR:R=41:=by have:=Q.out;have:=HR.out;omega
      clear U;go_wp2_with fail;go_ret;exact ⟨by rw [hR];rfl,T⟩
    · have A7:decide ((40:Int)<(N:Int)+(M2:Int))=false:=aC (by omega);have A8:=L O;have A2:Hid (N+M2=1+FiS.Bi (ps.take (j+1))):=hZ9 (by have:=Q.out;omega);have A5:N+M2<=40:=by omega
      go_wp2_with fail;go_roundw
      case rel=>exact ⟨j+1,N+M2,by omega,by go_num,by go_num,A2,A5,T⟩
      case measure=>simp [intOf];omega
  · have A4:j=y:=by omega
    subst A4;have hR:R=N:=by have:=Q.out;rw [t.out] at this;have:=HR.out;omega
    clear IH E HT B Q z;go_wp2_with fail;go_ret;subst hR;exact ⟨rfl,hb⟩)
def Aa4 (n:Nat):Prop:=∀(x:Fi) (v:Value) (w:World),Dh n w v x->Calls prog 19 #[v] w fun e w'=>e=.returned (.int .i64 ((min (FiS.nodes x) 41:Nat):Int))/\Below w.heap.size w w'
theorem PK:∀n,Aa4 n:=Fg (fun n IH=>by
 intro x v w h;obtain ⟨kd,b,V,T,ls,J,ps⟩:=x;obtain ⟨a5,c5,U,F,X,q,z,k⟩:=FiV.parts h;have X:v=.agg #[.int .i64 kd,.string ⟨b.toArray⟩,.string ⟨V.toArray⟩,.string ⟨T.toArray⟩,.string ⟨ls.toArray⟩,.slice a5 J.length c5,.slice U ps.length F]:=X;subst X;have q:Ah w (.slice a5 J.length c5) J:=q;have z:ps.length<=F:=z;have k:BC n (fun _=>True) w (.slice U ps.length F) ps:=k;have HT:=hZ9 (fun j (G:j<ps.length)=>FiS.Ie G);have t:=hZ9 (fun j=>FiS.LX ps j);have B:=hZ9 (fun j (G:j<=ps.length)=>FiS.Mc G);have y:Hid (ps.take ps.length=ps):=hZ9 (bE);have hN:FiS.nodes (.mk kd b V T ls J ps)=1+FiS.Bi ps:=by rw [FiS.nodes]
 rw [hN];clear hN;obtain ⟨R,hR⟩:∃r,min (1+FiS.Bi ps) 41=r:=⟨_,rfl⟩
 have HR:=hZ9 hR;rw [hR];clear hR;obtain ⟨AL,s⟩:∃m,J.length=m:=⟨_,rfl⟩
 obtain ⟨u,c⟩:∃m,ps.length=m:=⟨_,rfl⟩
 have A4:=hZ9 s;have Y:=hZ9 c;rw [s] at q;rw [c] at z k
 try rw [s]
 try rw [c]
 have H:=Af w (.cells #[.int .i64 kd,.string ⟨b.toArray⟩,.string ⟨V.toArray⟩,.string ⟨T.toArray⟩,.string ⟨ls.toArray⟩,.slice a5 AL c5,.slice U u F] 26);have A:=Whole.made w 26 #[.int .i64 kd,.string ⟨b.toArray⟩,.string ⟨V.toArray⟩,.string ⟨T.toArray⟩,.string ⟨ls.toArray⟩,.slice a5 AL c5,.slice U u F];have E:=hZ9 (fun j (G:j<ps.length)=>BC.at k j G);rw [c] at y;obtain ⟨q0,q1,q2,q3,q4,q5,q6⟩:=A.seven;clear h q k s c A4;go_enter func19,ntmps19;go_wp2_with fail;go_loopw [3,8] (fun nv i wr=>∃j N:Nat,j<=u/\i=.int .i64 j/\nv=.int .i64 (N:Int)/\Hid (N=1+FiS.Bi (ps.take j)\/(40<N/\N<=81/\40<1+FiS.Bi (ps.take j)))/\N<=81/\Whole wr w.heap.size 26 #[.int .i64 kd,.string ⟨b.toArray⟩,.string ⟨V.toArray⟩,.string ⟨T.toArray⟩,.string ⟨ls.toArray⟩,.slice a5 AL c5,.slice U u F]/\Below w.heap.size w wr) (fun _ i _=>u - (intOf i).toNat)
 case atStart=>exact ⟨0,1,aR _,rfl,rfl,hZ9 (.inl (by simp [FiS.Bi])),by omega,A,H⟩
 case round=>
  obtain ⟨j,N,G,rfl,rfl,S,A7,hw,hb⟩:=hrel;clear A H q0 q1 q2 q3 q4 q5 q6;by_cases A0:j<u
  · have a:j<ps.length:=by rw [Y.out];exact A0
    have ht:=HT.out j a;have B2:=B.out j (dD a);have K:N<=40->j<=40:=fun h=>by have:=S.out;omega
    have B3:=t.out (j+1);have I:=hZ9 t.out;obtain ⟨d,rfl,g,o,rfl,C,b5,d5,b6,d6,l,y0,y1,y2,y3,y4,y5,y6⟩:=E.out j a;have l:=l.call hb;have y0:=(hb.cell (p:=⟨g,o+j*7,none⟩) C).trans y0;have y1:=(hb.cell (p:=⟨g,o+j*7+1,none⟩) C).trans y1;have y2:=(hb.cell (p:=⟨g,o+j*7+2,none⟩) C).trans y2;have y3:=(hb.cell (p:=⟨g,o+j*7+3,none⟩) C).trans y3;have y4:=(hb.cell (p:=⟨g,o+j*7+4,none⟩) C).trans y4;have y5:=(hb.cell (p:=⟨g,o+j*7+5,none⟩) C).trans y5;have y6:=(hb.cell (p:=⟨g,o+j*7+6,none⟩) C).trans y6;have f:=fun v W h=>IH d rfl (ps[j]'a) v W h;have Q:=FiS.Ry (ps[j]'a);clear IH E HT t B;generalize ps[j]=p at*;generalize p.any.length=PA at*;generalize p.parts.length=PP at*;have B5:(0:Int)<=(j:Int):=by omega
    have B4:(j:Int)<(u:Int):=by omega
    by_cases A9:40<N
    · have A5:decide ((40:Int)<(N:Int))=true:=aL (by omega);have hR:R=41:=by have:=S.out;have:=I.out j;have:=HR.out;omega
      have B0:min (N:Int) 41=41:=by omega
      clear f l;go_wp2_with fail;go_ret;exact ⟨by rw [hR];rfl,hb⟩
    have A5:decide ((40:Int)<(N:Int))=false:=aC (by omega);have hc:=f _ _ l;clear f l;obtain ⟨q0,q1,q2,q3,q4,q5,q6⟩:=hw.seven;obtain ⟨M,hM⟩:∃m,FiS.nodes p=m:=⟨_,rfl⟩
    rw [hM] at hc ht Q;clear hM;obtain ⟨M2,O⟩:∃m,min M 41=m:=⟨_,rfl⟩
    rw [O] at hc;have B1:M2<=41/\(M2=M\/(M2=41/\41<M)):=by omega
    clear O;go_wp2_with fail;refine hc.mono ?_;rintro e w2 ⟨rfl,L⟩;have A6:=hb.trans (L.mono hb.size);have A3:=hw.call L;clear hc q0 q1 q2 q3 q4 q5 q6;have A8:=K (by omega);have Z:Hid (N+M2=1+FiS.Bi (ps.take (j+1))\/(40<N+M2/\N+M2<=81/\40<1+FiS.Bi (ps.take (j+1)))):=hZ9 (by have:=S.out;omega);have A2:N+M2<=81:=by omega
    go_wp2_with fail;go_roundw
    case rel=>exact ⟨j+1,N+M2,by omega,by go_num,by go_num,Z,A2,A3,A6⟩
    case measure=>simp [intOf];omega
  · have A1:j=u:=by omega
    subst A1;have P:min (N:Int) 41=(R:Int):=by have:=S.out;rw [y.out] at this;have:=HR.out;omega
    clear IH E HT t S B;go_wp2_with fail;go_ret
    first | exact ⟨rfl,hb⟩ | exact ⟨by rw [P],hb⟩ | exact ⟨by rw [<-P],hb⟩)
end
end Go.Proofs.YtgngjfjaelgaeaaGreatDoor
