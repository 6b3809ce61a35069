/- A region that draws its order, whose last operations come behind all others: what is held of the world is asked of the others alone. Conditions: as stated. -/
import Derived.StillTail
import Derived.Deep.Upon
import Derived.Test.YtgngjfjaelgaeaaGreatDoorKRdo
import Derived.Test.YtgngjfjaelgaeaaGreatDoorKSeq
namespace Go.Proofs.YtgngjfjaelgaeaaGreatDoor
section
open Go
section
variable {P:Program} {ops:Array Oper} {Q:Exit->Act->World->Prop} {md:Region.Mode} {S:World->Prop}
def JE (P:Program) (md:Region.Mode) (ops:Array Oper) (Q:Exit->Act->World->Prop) (S:World->Prop) (n:Nat) (L:Array Bool->Act->World->Prop):Nat->Array Bool->Act->World->Prop
 | 0,listed,a,w=>L listed a w
 | f+1,listed,a,w=>Region.ready md ops listed≠[]/\∀i ∈ Region.ready md ops listed,i<n/\wpOp P ops Q i (fun a' w'=>S w'/\JE P md ops Q S n L f (listed.setIfInBounds i true) a' w') a w
theorem IU {n g:Nat} {L:Array Bool->Act->World->Prop} (hL:∀listed a w,L listed a w->wpAny P md ops Q g listed a w):
  ∀(f:Nat) (listed:Array Bool) (a:Act) (w:World),JE P md ops Q S n L f listed a w->wpAny P md ops Q (f+g) listed a w
 | 0,listed,a,w,h=>by rw [Nat.zero_add];exact hL _ _ _ h
 | f+1,listed,a,w,h=>by
  rw [show f+1+g=(f+g)+1 by omega]
  exact ⟨fun h0=>absurd h0 h.1,fun i hi=>wpOp_mono (fun a' w' h'=>IU hL f _ a' w' h'.2) (h.2 i hi).2⟩
theorem Tm {n i:Nat} {oi:Oper} {v:Value} {L:Array Bool->Act->World->Prop} (hi:ops[i]?=some oi) (A6:∀(j:Nat) (o:Oper) cs b,ops[j]?=some o->o.op≠.select cs b)
  (hs:Region.sinkB md ops n=true) (hc:Region.chainB md ops n=true) (hn:n<ops.size) (B1:i<n)
  (hQ:∀c a w,Q (.panic c) (a.put oi.dst v) w->Q (.panic c) a w)
  (A5:∀listed a w,L listed a w->∀j ∈ Region.ready md ops listed,n<=j):
  ∀(f:Nat) (listed:Array Bool) (a:Act) (w:World),HeadInv md ops n listed->
   (∀j oj,ops[j]?=some oj->j≠i->listed.getD j true=false->(∀e ∈ oj.after,Region.binds md e=true->e.on≠i)->oi.apart ops oj=true)->
   i ∈ Region.ready md ops listed->YieldsIf P ops S oi v a->S w->
   JE P md ops Q S n L f (listed.setIfInBounds i true) (a.put oi.dst v) w->JE P md ops Q S n L (f+1) listed a w:=by
 intro f
 induction f with
 | zero=>
  intro listed a w inv _ hr hy hS H
  have A2:=(mem_ready.1 hr).1
  refine ⟨fun h=>(by rw [h] at hr;cases hr),fun j hj=>?_⟩
  have A7:j<n:=by
   rcases Nat.lt_or_ge j n with h | h
   · exact h
   · exact absurd hj (tail_waits hs hc hn inv _ i rfl B1 A2 j h)
  refine ⟨A7,?_⟩
  by_cases A1:j=i
  · subst A1;exact hy.wpOp hi hS ⟨hS,H⟩
  · have:=A5 _ _ _ H j (ready_mono hj A1)
    omega
 | succ f ih=>
  intro listed a w inv A0 hr hy hS H
  have A2:=(mem_ready.1 hr).1
  refine ⟨fun h=>(by rw [h] at hr;cases hr),fun j hj=>?_⟩
  have A7:j<n:=by
   rcases Nat.lt_or_ge j n with h | h
   · exact h
   · exact absurd hj (tail_waits hs hc hn inv _ i rfl B1 A2 j h)
  refine ⟨A7,?_⟩
  by_cases A1:j=i
  · subst A1;exact hy.wpOp hi hS ⟨hS,H⟩
  · have h1:=(H.2 j (ready_mono hj A1)).2
    obtain ⟨A4,oj,B0,A9⟩:=mem_ready.1 hj
    have A8:∀e ∈ oj.after,Region.binds md e=true->e.on≠i:=fun e he hb B5=>by
     have h1:=A9 e he hb
     rw [B5,getD_both A2] at h1
     cases h1
    have h2:=wpOp_putIf B0 (A0 j oj B0 A1 A4 A8) (fun cs b=>A6 i oi cs b hi) (fun cs b=>A6 j oj cs b B0) hQ hy h1
    have A3:∀k ok,ops[k]?=some ok->k≠i->(listed.setIfInBounds j true).getD k true=false->
      (∀e ∈ ok.after,Region.binds md e=true->e.on≠i)->oi.apart ops ok=true:=fun k ok hk B4 A2 B3=>by
     refine A0 k ok hk B4 ?_ B3
     by_cases B2:j=k
     · subst B2;exact A4
     · rw [getD_set_ne true B2] at A2;exact A2
    refine wpOp_mono (fun a' w' h3=>⟨h3.2.1,ih (listed.setIfInBounds j true) a' w' (inv.set hj A7) A3 (ready_mono hr (Ne.symm A1)) h3.1 h3.2.1 ?_⟩) h2
    rw [Array.setIfInBounds_comm _ _ A1]
    exact h3.2.2
end
def SI (l:List Oper) (n:Nat):Bool:=Region.noSelect l.toArray&&decide (n<l.length)&&Region.sinkB .any l.toArray n&&Region.chainB .any l.toArray n
def BG (m:Nat) (is:List Nat):Array Bool:=is.foldl (fun l i=>l.setIfInBounds i true) (Array.replicate m false)
theorem DG (m:Nat) (is:List Nat) (i:Nat):(BG m is).setIfInBounds i true=BG m (is++[i]):=by
 unfold BG
 rw [List.foldl_append]
 rfl
section
variable {P:Program} {l:List Oper} {Q:Exit->Act->World->Prop} {S:World->Prop} {n:Nat}
def MM (P:Program) (l:List Oper) (Q:Exit->Act->World->Prop) (n:Nat) (listed:Array Bool) (a:Act) (w:World):Prop:=
 Region.seqB .any l.toArray (l.length - n) n listed=true/\wpList P l.toArray Q (l.drop n) a w
def Head (P:Program) (l:List Oper) (Q:Exit->Act->World->Prop) (S:World->Prop) (n f:Nat) (is:List Nat) (a:Act) (w:World):Prop:=
 HeadInv .any l.toArray n (BG l.length is)/\SI l n=true->JE P .any l.toArray Q S n (MM P l Q n) f (BG l.length is) a w
theorem Tq {listed:Array Bool} {a:Act} {w:World} (h:MM P l Q n listed a w):∀j ∈ Region.ready .any l.toArray listed,n<=j:=seqB_ready h.1
theorem Oz (h:SI l n=true):Region.noSelect l.toArray=true/\n<l.toArray.size/\Region.sinkB .any l.toArray n=true/\Region.chainB .any l.toArray n=true:=by
 simp only [SI,Bool.and_eq_true,decide_eq_true_eq] at h
 exact ⟨h.1.1.1,by simpa using h.1.1.2,h.1.2,h.2⟩
theorem BA {c:Bool} (hc:c=true) {X E:Prop} (h:X):if c=true then X else E:=by rw [if_pos hc];exact h
theorem Gp {id:Nat} {a:Act} {w:World} (n:Nat) (S:World->Prop) (hm:P.follows .mixedOrders=true) (hB:SI l n=true) (hS:S w.drew)
  (h:S w.drew->Head P l Q S n n [] a w.drew):(Code.region id l.toArray true).wp P Q a w:=by
 obtain ⟨A1,hn,hs,hc⟩:=Oz hB
 have A2:n<l.length:=by simpa using hn
 have A0:HeadInv .any l.toArray n (BG l.length []):=
  ⟨by simp [BG],fun j oj _ hl=>(by unfold BG at hl;simp only [List.foldl_nil] at hl;rw [getD_replicate_false] at hl;cases hl),fun t _ ht=>getD_in (by simpa [BG] using ht) (getD_replicate_false _ _)⟩
 have H:=h hS ⟨A0,hB⟩
 refine wp_region_any hm ?_
 have h2:=IU (P:=P) (md:=.any) (ops:=l.toArray) (Q:=Q) (S:=S) (n:=n) (g:=l.length - n) (L:=MM P l Q n) (fun listed a w hL=>by
  have:=wpAny_of_seq (P:=P) (md:=.any) (ops:=l.toArray) (Q':=Q) (l.drop n) n listed a w (fun j=>by simp [List.getElem?_drop]) (by rw [List.length_drop];exact hL.1) hL.2
  rwa [List.length_drop] at this) n _ a _ H
 rw [show n+(l.length - n)=l.length by omega] at h2
 have h3:l.toArray.size=l.length:=by simp
 rw [h3]
 exact h2
theorem Ah {f:Nat} {is:List Nat} {a:Act} {w:World} (i:Nat) (v:Value) (hi:i<l.length) (hf:(decide (i<n)&&Region.free .any l.toArray (BG l.length is) i&&(Region.ready .any l.toArray (BG l.length is)).contains i)=true)
  (hQ:∀c a w,Q (.panic c) (a.put (l[i]'hi).dst v) w->Q (.panic c) a w) (hw:Region.wanted (l[i]'hi) (yielded l.toArray a.tmps)=true) (hv:∀W,S W->(execOp a.eval (l[i]'hi)).run P W=.ok (.value v) W) (hS:S w)
  (h:Head P l Q S n f (is++[i]) (a.put (l[i]'hi).dst v) w):Head P l Q S n (f+1) is a w:=by
 have hy:YieldsIf P l.toArray S (l[i]'hi) v a:=.inl ⟨hw,hv⟩
 intro ⟨inv,hB⟩
 obtain ⟨A1,hn,hs,hc⟩:=Oz hB
 simp only [Bool.and_eq_true,decide_eq_true_eq] at hf
 obtain ⟨⟨A2,A0⟩,hr⟩:=hf
 have A3:i ∈ Region.ready .any l.toArray (BG l.length is):=by simpa using hr
 have A4:l.toArray[i]?=some (l[i]'hi):=by simp [hi]
 refine Tm A4 (Region.noSelect_spec A1) hs hc hn A2 hQ (fun _ _ _=>Tq) f _ a w inv (Region.free_spec A4 A0) A3 hy hS ?_
 rw [DG]
 refine h ⟨?_,hB⟩
 rw [<-DG]
 exact inv.set A3 A2
theorem BN {f:Nat} {is:List Nat} {a:Act} {w:World} (i:Nat) (hi:i<l.length) (hr:(decide (i<n)&&decide (Region.ready .any l.toArray (BG l.length is)=[i]))=true)
  (h:∀K':Act->World->Prop,Shut (∀a w,S w->(S w->Head P l Q S n f (is++[i]) a w)->K' a w)->if Region.wanted (l[i]'hi) (yielded l.toArray a.tmps)=true then Oper.wp P (l[i]'hi) a w K' Q else K' (a.put (l[i]'hi).dst undef) w):
  Head P l Q S n (f+1) is a w:=by
 intro ⟨inv,hB⟩
 simp only [Bool.and_eq_true,decide_eq_true_eq] at hr
 obtain ⟨A1,hr⟩:=hr
 have A3:l.toArray[i]?=some (l[i]'hi):=by simp [hi]
 have A0:i ∈ Region.ready .any l.toArray (BG l.length is):=by rw [hr];simp
 refine ⟨by rw [hr];simp,fun j hj=>?_⟩
 rw [hr] at hj
 have A2:j=i:=by simpa using hj
 subst A2
 refine ⟨A1,wpOp_step A3 (fun K' hK=>h K' (fun a' w' hS hW=>hK a' w' ⟨hS,?_⟩))⟩
 rw [DG]
 refine hW hS ⟨?_,hB⟩
 rw [<-DG]
 exact inv.set A0 A1
theorem NR {f:Nat} {is:List Nat} {a:Act} {w:World} (i j:Nat) (hi:i<l.length) (hj:j<l.length) (hr:(decide (i<n)&&decide (j<n)&&decide (Region.ready .any l.toArray (BG l.length is)=[i,j]))=true)
  (h1:∀K':Act->World->Prop,Shut (∀a w,S w->(S w->Head P l Q S n f (is++[i]) a w)->K' a w)->if Region.wanted (l[i]'hi) (yielded l.toArray a.tmps)=true then Oper.wp P (l[i]'hi) a w K' Q else K' (a.put (l[i]'hi).dst undef) w)
  (h2:∀K':Act->World->Prop,Shut (∀a w,S w->(S w->Head P l Q S n f (is++[j]) a w)->K' a w)->if Region.wanted (l[j]'hj) (yielded l.toArray a.tmps)=true then Oper.wp P (l[j]'hj) a w K' Q else K' (a.put (l[j]'hj).dst undef) w):
  Head P l Q S n (f+1) is a w:=by
 intro ⟨inv,hB⟩
 simp only [Bool.and_eq_true,decide_eq_true_eq] at hr
 obtain ⟨⟨A1,A3⟩,hr⟩:=hr
 have step:∀m (hm:m<l.length),m<n->m ∈ Region.ready .any l.toArray (BG l.length is)->(∀K':Act->World->Prop,Shut (∀a w,S w->(S w->Head P l Q S n f (is++[m]) a w)->K' a w)->if Region.wanted (l[m]'hm) (yielded l.toArray a.tmps)=true then Oper.wp P (l[m]'hm) a w K' Q else K' (a.put (l[m]'hm).dst undef) w)->
   wpOp P l.toArray Q m (fun a' w'=>S w'/\JE P .any l.toArray Q S n (MM P l Q n) f ((BG l.length is).setIfInBounds m true) a' w') a w:=by
  intro m hm A5 A0 h
  have A6:l.toArray[m]?=some (l[m]'hm):=by simp [hm]
  refine wpOp_step A6 (fun K' hK=>h K' (fun a' w' hS hW=>hK a' w' ⟨hS,?_⟩))
  rw [DG]
  refine hW hS ⟨?_,hB⟩
  rw [<-DG]
  exact inv.set A0 A5
 refine ⟨by rw [hr];simp,fun m hm=>?_⟩
 have A2:=hm
 rw [hr] at hm
 rcases List.mem_cons.1 hm with rfl | hm
 · exact ⟨A1,step _ hi A1 A2 h1⟩
 · have A4:m=j:=by simpa using hm
   subst A4
   exact ⟨A3,step _ hj A3 A2 h2⟩
theorem EK {is:List Nat} {a:Act} {w:World} (hr:Region.seqB .any l.toArray (l.length - n) n (BG l.length is)=true) (h:wpList P l.toArray Q (l.drop n) a w):Head P l Q S n 0 is a w:=
 fun _=>⟨hr,h⟩
end
end
section
open Go.RowKit
open FiS (Fi)
attribute [local go_sem ↓] Go.wp_at_zero Go.wp_at_succ
def sev (w:World) (g:Nat) (v0 v1 v2 v3 v4 v5 v6:Value):World:=((((((w.setCell ⟨g,0,none⟩ v0).setCell ⟨g,1,none⟩ v1).setCell ⟨g,2,none⟩ v2).setCell ⟨g,3,none⟩ v3).setCell ⟨g,4,none⟩ v4).setCell ⟨g,5,none⟩ v5).setCell ⟨g,6,none⟩ v6
theorem Whole.put7 {w:World} {g:Nat} {t:TypeId} {a0 a1 a2 a3 a4 a5 a6:Value} (h:Whole w g t #[a0,a1,a2,a3,a4,a5,a6]) (v0 v1 v2 v3 v4 v5 v6:Value):Whole (sev w g v0 v1 v2 v3 v4 v5 v6) g t #[v0,v1,v2,v3,v4,v5,v6]:=by
 have:=((((((h.put 0 v0).put 1 v1).put 2 v2).put 3 v3).put 4 v4).put 5 v5).put 6 v6
 simp only [List.setIfInBounds_toArray,List.set_cons_zero,List.set_cons_succ] at this
 unfold sev
 exact this
theorem Whole.other7 {w:World} {g g':Nat} {t:TypeId} {cs:Array Value} (h:Whole w g' t cs) (A0:g'≠g) (v0 v1 v2 v3 v4 v5 v6:Value):Whole (sev w g v0 v1 v2 v3 v4 v5 v6) g' t cs:=
 ((((((h.other (p:=⟨g,0,none⟩) A0 v0).other (p:=⟨g,1,none⟩) A0 v1).other (p:=⟨g,2,none⟩) A0 v2).other (p:=⟨g,3,none⟩) A0 v3).other (p:=⟨g,4,none⟩) A0 v4).other (p:=⟨g,5,none⟩) A0 v5).other (p:=⟨g,6,none⟩) A0 v6
theorem DJ {B:Nat} {w0 w:World} {g:Nat} (h:Below B w0 w) (hg:B<=g) (v0 v1 v2 v3 v4 v5 v6:Value):Below B w0 (sev w g v0 v1 v2 v3 v4 v5 v6):=
 ((((((h.setCell (p:=⟨g,0,none⟩) hg v0).setCell (p:=⟨g,1,none⟩) hg v1).setCell (p:=⟨g,2,none⟩) hg v2).setCell (p:=⟨g,3,none⟩) hg v3).setCell (p:=⟨g,4,none⟩) hg v4).setCell (p:=⟨g,5,none⟩) hg v5).setCell (p:=⟨g,6,none⟩) hg v6
theorem Whole.thaws {w:World} {g:Nat} {t:TypeId} {cs:Array Value} (h:Whole w g t cs):w.frozen? ⟨g,0,none⟩=false/\w.frozen? ⟨g,1,none⟩=false/\w.frozen? ⟨g,2,none⟩=false/\w.frozen? ⟨g,3,none⟩=false/\w.frozen? ⟨g,4,none⟩=false/\w.frozen? ⟨g,5,none⟩=false/\w.frozen? ⟨g,6,none⟩=false:=
 ⟨h.thaw 0,h.thaw 1,h.thaw 2,h.thaw 3,h.thaw 4,h.thaw 5,h.thaw 6⟩
theorem Whole.same {w:World} {g:Nat} {t:TypeId} {cs:Array Value} (h:Whole w g t cs) {i:Nat} {v:Value} (hi:cs[i]?=some v):w.setCell ⟨g,i,none⟩ v=w:=by
 have e:(w.setCell ⟨g,i,none⟩ v).heap=w.heap:=by
  apply Array.ext_getElem?
  intro k
  by_cases hk:k=g
  · subst hk
    have h1:w.heap[k]?=some (.cells cs t (0,0)):=h
    have h2:=h.put i v
    unfold Whole at h2
    rw [h2,h1]
    congr 2
    apply Array.ext_getElem?
    intro j
    rw [Array.getElem?_setIfInBounds]
    split
    · rename_i A0
      subst A0
      rw [hi]
      split
      · rfl
      · rename_i A1
        rw [Array.getElem?_eq_none (by omega)] at hi
        cases hi
    · rfl
  · exact Below.heap_setCell _ _ _ _ hk
 show ({ w with heap:=(w.setCell ⟨g,i,none⟩ v).heap }:World)=w
 rw [e]
def Zy (v:Value):Prop:=∃(x:Fi) (s1 s2:Option Addr) (n1 c1 n2 c2:Nat),v=.agg #[.int .i64 x.kind,.string ⟨x.attr.toArray⟩,.string ⟨x.value.toArray⟩,.string ⟨x.first.toArray⟩,.string ⟨x.last.toArray⟩,.slice s1 n1 c1,.slice s2 n2 c2]
theorem FiV.form {n:Nat} {ok:Nat->Prop} {w:World} {v:Value} {x:Fi} (h:FiV n ok w v x):Zy v:=by
 obtain ⟨ua,up,rfl,h1,h2⟩:=h
 obtain ⟨a5,c5,rfl,_⟩:=Ae.form h1
 obtain ⟨a6,c6,rfl,_⟩:=Ae.form h2
 exact ⟨x,_,_,_,_,_,_,rfl⟩
def Iu (l:List UInt8) (w:World) (e:Ending) (w':World):Prop:=∃v,e=.returned (.tuple #[v,.bool (FiS.MV l).isSome])/\Zy v/\(∀x,FiS.MV l=some x->∀n,FiV n (fun g=>w.heap.size<=g) w' v x)/\Below w.heap.size w w'
theorem FiV.leaf (n:Nat) (ok:Nat->Prop) (w:World) (k:Int) (a v f l:List UInt8):FiV n ok w (.agg #[.int .i64 k,.string ⟨a.toArray⟩,.string ⟨v.toArray⟩,.string ⟨f.toArray⟩,.string ⟨l.toArray⟩,.slice none 0 0,.slice none 0 0]) (.mk k a v f l [] []):=
 ⟨_,_,rfl,Ae.nil none 0,Ae.nil none 0⟩
theorem Iu.no {l a:List UInt8} {k:Int} {w w':World} (h:FiS.MV l=none) (hb:Below w.heap.size w w'):
  Iu l w (.returned (.tuple #[.agg #[.int .i64 k,.string ⟨a.toArray⟩,.string ⟨#[]⟩,.string ⟨#[]⟩,.string ⟨#[]⟩,.slice none 0 0,.slice none 0 0],.bool false])) w':=by
 refine ⟨_,by rw [h];rfl,⟨.mk k a [] [] [] [] [],none,none,0,0,0,0,rfl⟩,fun x hx=>(by rw [h] at hx;cases hx),hb⟩
theorem Iu.one {l a v:List UInt8} {k:Int} {w w':World} (h:FiS.MV l=some (.mk k a v [] [] [] [])) (hb:Below w.heap.size w w'):
  Iu l w (.returned (.tuple #[.agg #[.int .i64 k,.string ⟨a.toArray⟩,.string ⟨v.toArray⟩,.string ⟨#[]⟩,.string ⟨#[]⟩,.slice none 0 0,.slice none 0 0],.bool true])) w':=by
 refine ⟨_,by rw [h];rfl,⟨.mk k a v [] [] [] [],none,none,0,0,0,0,rfl⟩,fun x hx n=>?_,hb⟩
 rw [h] at hx
 have hx:=Option.some.inj hx
 subst hx
 exact FiV.leaf n _ _ k a v [] []
theorem Iu.many {l a f t:List UInt8} {s:List (List UInt8)} {ua:Value} {w w':World} (h:FiS.MV l=some (.mk 4 a [] f t s [])) (hs:Ap (fun g=>w.heap.size<=g) w' ua s) (hb:Below w.heap.size w w'):
  Iu l w (.returned (.tuple #[.agg #[.int .i64 4,.string ⟨a.toArray⟩,.string ⟨#[]⟩,.string ⟨f.toArray⟩,.string ⟨t.toArray⟩,ua,.slice none 0 0],.bool true])) w':=by
 obtain ⟨sa,sc,rfl,_⟩:=Ae.form hs
 refine ⟨_,by rw [h];rfl,⟨.mk 4 a [] f t s [],_,_,_,_,_,_,rfl⟩,fun x hx n=>?_,hb⟩
 rw [h] at hx
 have hx:=Option.some.inj hx
 subst hx
 exact ⟨_,_,rfl,hs,Ae.nil none 0⟩
end
section
open Go.RowKit
open FiS (Fi)
attribute [local go_sem ↓] Go.wp_at_zero Go.wp_at_succ
theorem FiV.partsO {n:Nat} {ok:Nat->Prop} {w:World} {v:Value} {x:Fi} (h:FiV n ok w v x):∃a5 c5 a6 c6,v=.agg #[.int .i64 x.kind,.string ⟨x.attr.toArray⟩,.string ⟨x.value.toArray⟩,.string ⟨x.first.toArray⟩,.string ⟨x.last.toArray⟩,.slice a5 x.any.length c5,.slice a6 x.parts.length c6]/\Ap ok w (.slice a5 x.any.length c5) x.any/\x.parts.length<=c6/\BR n ok w (.slice a6 x.parts.length c6) x.parts:=by
 obtain ⟨ua,up,rfl,h1,h2⟩:=h
 obtain ⟨a5,c5,rfl,_⟩:=Ae.form h1
 obtain ⟨a6,c6,rfl,hc⟩:=Ae.form h2
 exact ⟨a5,c5,a6,c6,rfl,h1,hc,h2⟩
end
section
namespace FiS
theorem Tt:∀{s a b:List UInt8},YM s=some (a,b)->b.length<=s.length
 | [],a,b,h=>by cases h
 | c :: r,a,b,h=>by
  rw [YM] at h
  split at h
  · simp only [Option.some.injEq,Prod.mk.injEq] at h
    rw [<-h.2];simp
  · rw [Option.map_eq_some_iff] at h
    obtain ⟨⟨x,y⟩,h1,h2⟩:=h
    simp only [Prod.mk.injEq] at h2
    have:=Tt h1
    rw [<-h2.2,List.length_cons];omega
theorem Zz {s:List UInt8} {c:UInt8} {r:List UInt8} (h:YO s=some (c,r)):s=40 :: c :: r:=by
 match s,h with
 | [],h=>cases h
 | [_],h=>cases h
 | b :: c' :: r',h=>
  have h:(if b=40 then some (c',r') else none)=some (c,r):=h
  by_cases hb:b=40
  · rw [if_pos hb] at h
    simp only [Option.some.injEq,Prod.mk.injEq] at h
    rw [hb,h.1,h.2]
  · rw [if_neg hb] at h
    cases h
theorem ZA:∀(F n d:Nat) (s:List UInt8),(∀x r m,Fp F n d s=some (x,r,m)->r.length<=s.length)/\(∀x r m,Ez F n d s=some (x,r,m)->r.length<=s.length):=by
 intro F
 induction F with
 | zero=>intro n d s;exact ⟨fun x r m h=>by simp [Fp] at h,fun x r m h=>by simp [Ez] at h⟩
 | succ F ih=>
  intro n d s
  refine ⟨fun x r m h=>?_,fun x r m h=>?_⟩
  · rw [Fp] at h
    split at h
    · cases h
    · split at h
      · cases h
      · rename_i c r' hh
        have hs:=Zz hh
        split at h
        · rw [Option.map_eq_some_iff] at h
          obtain ⟨⟨q1,q2,q3⟩,hq,h2⟩:=h
          simp only [Prod.mk.injEq] at h2
          have:=(ih (n - 1) d _).2 _ _ _ hq
          rw [hs,<-h2.2.1,List.length_cons,List.length_cons];omega
        · unfold YP at h
          split at h
          · rename_i item rest hc
            rw [Option.map_eq_some_iff] at h
            obtain ⟨q,hq,h2⟩:=h
            simp only [Prod.mk.injEq] at h2
            have:=Tt hc
            rw [hs,<-h2.2.1,List.length_cons];omega
          · cases h
  · rw [Ez] at h
    split at h
    · simp only [Option.some.injEq,Prod.mk.injEq] at h
      rw [<-h.2.1,List.length_drop];omega
    · split at h
      · rename_i p q k hp
        rw [Option.map_eq_some_iff] at h
        obtain ⟨⟨q1,q2,q3⟩,hq,h2⟩:=h
        simp only [Prod.mk.injEq] at h2
        have h4:=(ih n (d+1) s).1 _ _ _ hp
        have h5:=(ih k d q).2 _ _ _ hq
        rw [<-h2.2.1];omega
      · cases h
theorem readS_len {n d:Nat} {s:List UInt8} {x:Fi} {r:List UInt8} {m:Nat} (h:readS n d s=some (x,r,m)):r.length<=s.length:=(ZA _ n d s).1 _ _ _ h
end FiS
open Go.RowKit
open FiS (Fi)
attribute [local go_sem ↓] Go.wp_at_zero Go.wp_at_succ
theorem Bh.far {C b:Nat} {w w':World} (h:Bh C b w w') {g:Nat} (hg:C<=g) (hb:b<=g) (i:Nat) (u:Value):Bh C b w (w'.setCell ⟨g,i,none⟩ u):=⟨h.1.setCell (p:=⟨g,i,none⟩) hb u,fun k hk A0=>by
 rw [Below.heap_setCell _ _ _ _ (by show k≠g;omega)];exact h.2 k hk A0⟩
theorem Bh.grow {C b:Nat} {u v w:World} (h:Bh C b u v) (h2:Below v.heap.size v w) (hb:b<=C) (hC:C<=v.heap.size):Bh C b u w:=h.trans (Bh.of_below (h2.mono hC) hb)
theorem Bh.grown {C b:Nat} {w w':World} (h:Bh C b w w') (hC:w.heap.size<=C):w.grownBy w' (some b):=⟨h.1.os,h.1.tape,h.1.output,h.1.size,fun k hk A0=>h.2 k (by omega) (fun e=>A0 (by rw [e]))⟩
theorem Bh.whole {C b:Nat} {w w':World} (h:Bh C b w w') {g:Nat} {t:TypeId} {cs:Array Value} (hw:Whole w g t cs) (hg:g<C) (A0:g≠b):Whole w' g t cs:=(h.2 g hg A0).trans hw
theorem CE.kept {α:Type} {L:RLay α} {T:TypeId} {C C' b:Nat} {w w':World} {v:Value} {xs:List α} (h:CE L T (fun g=>C<=g) w C v xs) (hk:Bh C' b w w') (hC:w.heap.size<=C') (hb:b<C):CE L T (fun g=>C<=g) w' C v xs:=by
 have A0:v.ownBlock≠some b:=fun e=>by have:=(h.block e).1;omega
 obtain ⟨us,h1,h2,h3⟩:=h
 exact ⟨us,World.ownsRow.kept h1 (hk.grown hC) (.inr A0),h2,fun i u l a c=>L.keep (h3 i u l a c) hk.1.size (fun g hg A1=>hk.2 g (by omega) (by have:=A1.1;omega)) (fun g _ h=>h)⟩
def fiG (n:Nat):RLay Fi:=⟨7,by decide,fun ok w cs x=>∃ua up,cs=[.int .i64 x.kind,Ac x.attr,Ac x.value,Ac x.first,Ac x.last,ua,up]/\Ap ok w ua x.any/\BR n ok w up x.parts,
 fun h hs hb hk=>by obtain ⟨ua,up,e,h1,h2⟩:=h;exact ⟨ua,up,e,Ap.keep h1 hs hb hk,h2.keep hs hb hk⟩,
 fun h=>by obtain ⟨ua,up,rfl,_⟩:=h;rfl,
 fun h=>by
  obtain ⟨ua,up,rfl,h1,h2⟩:=h
  obtain ⟨a,c,rfl,_⟩:=Ae.form h1
  obtain ⟨a',c',rfl,_⟩:=Ae.form h2
  intro z hz
  simp only [List.mem_cons,List.not_mem_nil,or_false] at hz
  rcases hz with rfl | rfl | rfl | rfl | rfl | rfl | rfl <;> rfl⟩
theorem CE.fis {n:Nat} {T:TypeId} {C:Nat} {w:World} {v:Value} {xs:List Fi} (h:CE (fiG n) T (fun g=>C<=g) w C v xs):BR (n+1) (fun g=>C<=g) w v xs:=by
 have h:=h.read (fun g=>C<=g) (fun g hg=>hg)
 refine Ae.imp h (Nat.le_refl _) (fun _ _ h=>h) fun g o x _ _ hx=>?_
 obtain ⟨cs,hc,ua,up,rfl,h1,h2⟩:=hx
 exact ⟨ua,up,⟨hc 0 _ rfl,hc 1 _ rfl,hc 2 _ rfl,hc 3 _ rfl,hc 4 _ rfl,hc 5 _ rfl,hc 6 _ rfl⟩,h1,h2⟩
theorem Kw.oneFi {n:Nat} {rok ok:Nat->Prop} {w:World} {g:Nat} {T:TypeId} {x:Fi} {ua up:Value} (h:Whole w g T #[.int .i64 x.kind,Ac x.attr,Ac x.value,Ac x.first,Ac x.last,ua,up]) (hr:rok g) (h1:Ap ok w ua x.any) (h2:BR n ok w up x.parts):Kw (fiG n) rok ok w (.slice (some ⟨g,0,none⟩) 1 1) [x]:=by
 refine ⟨_,_,rfl,Nat.le_refl _,.inr ⟨g,0,rfl,h.lt,hr,fun j y hj=>?_⟩⟩
 have A0:j=0:=by
  have:=(List.getElem?_eq_some_iff.1 hj).1
  simp at this;exact this
 subst A0
 simp only [List.getElem?_cons_zero,Option.some.injEq] at hj
 subst hj
 refine ⟨_,fun i u hi=>?_,ua,up,rfl,h1,h2⟩
 have e:w.cell? ⟨g,0+0*(fiG n).k+i,none⟩=(#[Value.int .i64 x.kind,Ac x.attr,Ac x.value,Ac x.first,Ac x.last,ua,up]:Array Value)[i]?:=by
  rw [Nat.zero_mul,Nat.zero_add];exact h.cell i
 rw [e,List.getElem?_toArray]
 exact hi
theorem Ae9:((Tryz.prog.info? 36).bind fun i=>if i.size=7/\i.bytes=120 then i.zero.map (fun z=>z.cells.size) else none)=some 7:=by kernel_rfl
theorem Tu:∃i0 z,Tryz.prog.info? 36=some i0/\i0.zero=some z/\i0.size=7/\i0.bytes=120/\z.cells.size=7:=by
 have h:=Ae9
 rw [Option.bind_eq_some_iff] at h
 obtain ⟨i,h1,h2⟩:=h
 split at h2
 · rename_i hs
   rw [Option.map_eq_some_iff] at h2
   obtain ⟨z,h3,h4⟩:=h2
   exact ⟨i,z,h1,h3,hs.1,hs.2,h4⟩
 · cases h2
end
section
open Go.RowKit
def okT (Ts:List TypeId) (B:Nat) (w:World) (g:Nat):Prop:=g<B\/∃cs T fz,w.heap[g]?=some (.cells cs T fz)/\T ∈ Ts
theorem okT.same {Ts:List TypeId} {B:Nat} {w w':World} {g:Nat} (h:okT Ts B w g) (e:w'.heap[g]?=w.heap[g]?):okT Ts B w' g:=by
 rcases h with h | ⟨cs,T,fz,h,ht⟩
 · exact .inl h
 · exact .inr ⟨cs,T,fz,e.trans h,ht⟩
theorem okT.mono {Ts Ts':List TypeId} {B B':Nat} {w:World} {g:Nat} (h:okT Ts B w g) (hB:B<=B') (hT:∀T ∈ Ts,T ∈ Ts'):okT Ts' B' w g:=by
 rcases h with h | ⟨cs,T,fz,h,ht⟩
 · exact .inl (Nat.lt_of_lt_of_le h hB)
 · exact .inr ⟨cs,T,fz,h,hT T ht⟩
structure KLay (α:Type) where
 key:α->List UInt8
 El:(Nat->Prop)->World->Value->α->Prop
 keep:∀{ok ok':Nat->Prop} {w w':World} {u:Value} {x:α},El ok w u x->w.heap.size<=w'.heap.size->(∀g,g<w.heap.size->ok g->w'.heap[g]?=w.heap[g]?)->(∀g,g<w.heap.size->ok g->ok' g)->El ok' w' u x
 one:∀{ok:Nat->Prop} {w:World} {u:Value} {x:α},El ok w u x->u.oneCell'=true
def atK:KLay EnS.At:=⟨EnS.At.typ,fun ok w u x=>Ap ok w u x.vals,fun h=>Ap.keep h,fun h=>by obtain ⟨a,c,rfl,_⟩:=Ae.form h;rfl⟩
def enK:KLay EnS.En:=⟨EnS.En.name,fun ok w u x=>Ao ok w u x.attrs,fun h=>Ao.keep h,fun h=>by obtain ⟨a,c,rfl,_⟩:=Ae.form h;rfl⟩
def flatK {α:Type} (L:KLay α):List α->List Value->List Value
 | x :: xs,u :: us=>Ac (L.key x) :: u :: flatK L xs us
 | _,_=>[]
theorem GK {α:Type} (L:KLay α):∀(xs:List α) (us:List Value) (i:Nat) (x:α) (u:Value),xs[i]?=some x->us[i]?=some u->(flatK L xs us)[i*2]?=some (Ac (L.key x))/\(flatK L xs us)[i*2+1]?=some u
 | [],_,i,x,u,h,_=>by simp at h
 | _ :: _,[],i,x,u,_,h=>by simp at h
 | y :: xs,z :: us,0,x,u,h,k=>by
  simp only [List.getElem?_cons_zero,Option.some.injEq] at h k
  subst h;subst k
  exact ⟨rfl,rfl⟩
 | y :: xs,z :: us,i+1,x,u,h,k=>by
  have hh:=GK L xs us i x u (by simpa using h) (by simpa using k)
  have e:(i+1)*2=i*2+1+1:=by omega
  rw [e]
  exact ⟨by simpa [flatK] using hh.1,by simpa [flatK] using hh.2⟩
theorem Lu {α:Type} (L:KLay α) (x:α) (u:Value):∀(xs:List α) (us:List Value),us.length=xs.length->flatK L (xs++[x]) (us++[u])=flatK L xs us++[Ac (L.key x),u]
 | [],[],_=>rfl
 | [],_ :: _,h=>by simp at h
 | _ :: _,[],h=>by simp at h
 | y :: xs,z :: us,h=>by
  have:=Lu L x u xs us (by simpa using h)
  simp [flatK,this]
theorem QE {α:Type} (L:KLay α) (v:Value):∀(xs:List α) (us:List Value) (i:Nat),us.length=xs.length->(flatK L xs us).set (i*2+1) v=flatK L xs (us.set i v)
 | [],[],i,_=>by simp [flatK]
 | [],_ :: _,i,h=>by simp at h
 | _ :: _,[],i,h=>by simp at h
 | y :: xs,z :: us,0,_=>rfl
 | y :: xs,z :: us,i+1,h=>by
  have:=QE L v xs us i (by simpa using h)
  have e:(i+1)*2+1=i*2+1+1+1:=by omega
  rw [e]
  simp [flatK,this]
def Av {α:Type} (L:KLay α) (T:TypeId) (Ts:List TypeId) (C:Nat) (w:World) (B:Nat) (v:Value) (xs:List α):Prop:=
 ∃us:List Value,w.ownsRow B T 2 v xs.length (flatK L xs us)/\us.length=xs.length/\∀(i:Nat) (u:Value) (x:α),us[i]?=some u->xs[i]?=some x->L.El (okT Ts C w) w u x
theorem Av.empty {α:Type} (L:KLay α) (T:TypeId) (Ts:List TypeId) (C:Nat) (w:World) (B:Nat):Av L T Ts C w B (.slice none 0 0) []:=⟨[],World.ownsRow_nil w B _ 2,rfl,fun i u x h=>by simp at h⟩
theorem Av.form {α:Type} {L:KLay α} {T:TypeId} {Ts:List TypeId} {C:Nat} {w:World} {B:Nat} {v:Value} {xs:List α} (h:Av L T Ts C w B v xs):∃a c,v=.slice a xs.length c:=by
 obtain ⟨us,h,_⟩:=h
 rcases h.2 with ⟨rfl,hn⟩ | ⟨g,cap,cur,rfl,_⟩
 · exact ⟨_,_,by rw [hn]⟩
 · exact ⟨_,_,rfl⟩
theorem Av.call {α:Type} {L:KLay α} {T:TypeId} {Ts:List TypeId} {C:Nat} {w w':World} {B:Nat} {v:Value} {xs:List α} (h:Av L T Ts C w B v xs) (hb:Below w.heap.size w w'):Av L T Ts C w' B v xs:=by
 obtain ⟨us,h1,h2,h3⟩:=h
 exact ⟨us,World.ownsRow.kept h1 (AX hb) (by cases v.ownBlock <;> simp),h2,fun i u l a b=>L.keep (h3 i u l a b) hb.size (fun g hg _=>hb.block g hg) (fun g hg A0=>A0.same (hb.block g hg))⟩
theorem Av.mono {α:Type} {L:KLay α} {T:TypeId} {Ts:List TypeId} {C:Nat} {w:World} {B B':Nat} {v:Value} {xs:List α} (h:Av L T Ts C w B v xs) (hB:B'<=B):Av L T Ts C w B' v xs:=by
 obtain ⟨us,h1,h2,h3⟩:=h
 exact ⟨us,World.ownsRow.mono h1 hB,h2,h3⟩
theorem Av.read {α:Type} {L:KLay α} {T:TypeId} {Ts:List TypeId} {C:Nat} {w:World} {B:Nat} {v:Value} {xs:List α} (h:Av L T Ts C w B v xs) (ok:Nat->Prop) (A2:∀g,g<w.heap.size->okT Ts C w g->ok g) (A1:∀g cs,w.heap[g]?=some (.cells cs T (0,0))->B<=g->ok g):
  Ae 2 (fun w g o x=>w.cell? ⟨g,o,none⟩=some (Ac (L.key x))/\∃u,w.cell? ⟨g,o+1,none⟩=some u/\L.El ok w u x) ok w v xs:=by
 obtain ⟨us,h1,h2,h3⟩:=h
 rcases h1.2 with ⟨rfl,hn⟩ | ⟨g,cap,cur,rfl,hg,hh,hn,hm,hsz,A4⟩
 · exact ⟨none,0,by rw [hn],by omega,.inl (List.eq_nil_of_length_eq_zero hn)⟩
 · refine ⟨some ⟨g,0,none⟩,cap,rfl,hn,.inr ⟨g,0,rfl,(Array.getElem?_eq_some_iff.1 hh).1,A1 g cur hh hg,fun j x hj=>?_⟩⟩
   have A3:j<us.length:=by rw [h2];exact (List.getElem?_eq_some_iff.1 hj).1
   have hu:=List.getElem?_eq_getElem A3
   obtain ⟨f0,f1⟩:=GK L xs us j x _ hj hu
   have c0:=World.ownsRow.cells h1 (g:=g) rfl (j*2) _ f0
   have c1:=World.ownsRow.cells h1 (g:=g) rfl (j*2+1) _ f1
   have A0:∀i,(⟨g,0,none⟩:Addr).add i=⟨g,0+i,none⟩:=fun i=>by unfold Addr.add;split <;> simp_all
   rw [A0] at c0 c1
   exact ⟨c0,us[j],c1,L.keep (h3 j _ x hu hj) (Nat.le_refl _) (fun _ _ _=>rfl) A2⟩
theorem Av.attrs {T:TypeId} {Ts:List TypeId} {C:Nat} {w:World} {B:Nat} {v:Value} {xs:List EnS.At} (h:Av atK T Ts C w B v xs):BK w v xs:=h.read (fun _=>True) (fun _ _ _=>trivial) (fun _ _ _ _=>trivial)
theorem Av.ens {T:TypeId} {Ts:List TypeId} {C:Nat} {w:World} {B:Nat} {v:Value} {xs:List EnS.En} (h:Av enK T Ts C w B v xs):Bq w v xs:=h.read (fun _=>True) (fun _ _ _=>trivial) (fun _ _ _ _=>trivial)
theorem Av.attrsB {T:TypeId} {Ts Ts':List TypeId} {C:Nat} {w:World} {B:Nat} {v:Value} {xs:List EnS.At} (h:Av atK T Ts C w B v xs) (hT:T ∈ Ts') (hs:∀t ∈ Ts,t ∈ Ts'):Ao (okT Ts' C w) w v xs:=
 h.read (okT Ts' C w) (fun _g _ hg=>hg.mono (Nat.le_refl _) hs) (fun _g cs e _=>.inr ⟨cs,T,_,e,hT⟩)
theorem JZ {α:Type} {L:KLay α} {T:TypeId} {Ts:List TypeId} {w w':World} {C B n:Nat} {v:Value} {xs:List Value} (hC:C<=B) (hT:T ∉ Ts) (h1:w.ownsRow B T 2 v n xs) (hg:w.grownBy w' v.ownBlock) {u:Value} {x:α} (h:L.El (okT Ts C w) w u x):L.El (okT Ts C w') w' u x:=by
 have hblk:∀g,g<w.heap.size->okT Ts C w g->w'.heap[g]?=w.heap[g]?:=fun g A1 A0=>by
  refine hg.block g A1 (fun e=>?_)
  rcases h1.2 with ⟨rfl,_⟩ | ⟨k,cap,cur,rfl,hk,hh,_⟩
  · cases e
  · cases e
    rcases A0 with A0 | ⟨cs,T',fz,A0,ht⟩
    · exact absurd (Nat.le_trans hC hk) (Nat.not_le_of_lt A0)
    · rw [hh] at A0
      cases A0
      exact hT ht
 exact L.keep h hg.size hblk (fun g A1 A0=>A0.same (hblk g A1 A0))
theorem Av.grow {α:Type} {L:KLay α} {T:TypeId} {Ts:List TypeId} {C B:Nat} (hC:C<=B) (hT:T ∉ Ts) {w w':World} {v v':Value} {xs:List α} {us:List Value} (h1:w.ownsRow B T 2 v xs.length (flatK L xs us)) (h2:us.length=xs.length)
  (h3:∀(i:Nat) (u:Value) (x:α),us[i]?=some u->xs[i]?=some x->L.El (okT Ts C w) w u x) {x:α} {u:Value} (hx:L.El (okT Ts C w) w u x)
  (h4:w'.ownsRow B T 2 v' (xs.length+1) (flatK L xs us++[Ac (L.key x),u])) (hg:w.grownBy w' v.ownBlock):Av L T Ts C w' B v' (xs++[x]):=by
 refine ⟨us++[u],by rw [List.length_append,Lu L x u xs us h2];exact h4,by simp [h2],fun i z y hi hy=>?_⟩
 by_cases A1:i<us.length
 · rw [List.getElem?_append_left A1] at hi
   rw [List.getElem?_append_left (by omega)] at hy
   exact JZ hC hT h1 hg (h3 i z y hi hy)
 · have A0:i=us.length:=by
    have:=(List.getElem?_eq_some_iff.1 hi).1
    simp at this;omega
   subst A0
   rw [List.getElem?_append_right (Nat.le_refl _)] at hi
   rw [h2,List.getElem?_append_right (Nat.le_refl _)] at hy
   simp at hi hy
   subst hi;subst hy
   exact JZ hC hT h1 hg hx
theorem AeA {w:World} {g:Nat} {k u:Value} (h0:w.cell? ⟨g,0,none⟩=some k) (h1:w.cell? ⟨g,1,none⟩=some u):∀(j:Nat) (z:Value),[k,u][j]?=some z->w.cell? ((⟨g,0,none⟩:Addr).add j)=some z:=fun j z hj=>by
 have A0:(⟨g,0,none⟩:Addr).add j=⟨g,0+j,none⟩:=by unfold Addr.add;split <;> simp_all
 rw [A0]
 match j,hj with
 | 0,hj=>simp at hj;subst hj;exact h0
 | 1,hj=>simp at hj;subst hj;exact h1
 | j+2,hj=>simp at hj
theorem OA {α:Type} (L:KLay α) {w:World} {ops:Array Oper} {rest:List Oper} {o:Oper} {a:Act} {Q:Exit->Act->World->Prop} (T sT:TypeId) (Ts:List TypeId) (hT:T ∉ Ts) (A3:Tryz.prog.underlying sT=some (.slice T)) {i0:TypeInfo} {z:Value}
  (hi:Tryz.prog.info? T=some i0) (hz:i0.zero=some z) (A1:i0.size=2) (A7:i0.bytes=40) (A4:z.cells.size=2) (A5:o.guard=none) (s x:Operand)
  (ho:o.op=.call { callee:=.builtin .append,args:=#[s,x],argTypes:=#[sT,sT] })
  (B:Nat) {C:Nat} (hC:C<=B) (v:Value) (xs:List α) (hs:a.eval s=v) (A0:Av L T Ts C w B v xs) (g:Nat) (hx:a.eval x=.slice (some ⟨g,0,none⟩) 1 1)
  (y:α) (u0:Value) (A2:w.cell? ⟨g,0,none⟩=some (Ac (L.key y))) (A6:w.cell? ⟨g,1,none⟩=some u0) (hy:L.El (okT Ts C w) w u0 y) (hn:xs.length<=1000000000) (hB:B<=w.heap.size)
  (h:∀v' w',Av L T Ts C w' B v' (xs++[y])->Below B w w'->w.grownBy w' v.ownBlock->wpList Tryz.prog ops Q rest (a.put o.dst v') w'):wpList Tryz.prog ops Q (o :: rest) a w:=by
 obtain ⟨us,h1,h2,h3⟩:=A0
 exact wpList_append_own w A5 s x _ ho B T i0 z 2 40 A3 hi hz A1 A7 A4 (by decide) v xs.length _ hs h1 ⟨g,0,none⟩ 1 1 [Ac (L.key y),u0] hx rfl
  (AeA A2 A6) (fun u hu=>by
    rcases List.mem_cons.1 hu with rfl | hu
    · rfl
    · rw [List.mem_singleton] at hu;subst hu;exact L.one hy) (by unfold maxLen;omega) (by omega) hB
  (fun v' w' h4 h5 _=>h v' w' (Av.grow hC hT h1 h2 h3 hy h4 h5) ((Below.refl B w).grown h5 hB (fun k hk=>(World.ownsRow.lt h1 k hk).1)) h5)
theorem Av.stored {α:Type} {L:KLay α} {T:TypeId} {Ts:List TypeId} {C B:Nat} (hC:C<=B) (hT:T ∉ Ts) {w:World} {g cap n:Nat} {xs:List α} (hn:n=xs.length) (h:Av L T Ts C w B (.slice (some ⟨g,0,none⟩) n cap) xs) (i:Nat) (y:α) (hk:∀x,xs[i]?=some x->L.key y=L.key x) (u:Value)
  (hu:L.El (okT Ts C w) w u y):Av L T Ts C (w.setCell ⟨g,i*2+1,none⟩ u) B (.slice (some ⟨g,0,none⟩) n cap) (xs.set i y)/\Below B w (w.setCell ⟨g,i*2+1,none⟩ u):=by
 subst hn
 obtain ⟨us,h1,h2,h3⟩:=h
 obtain ⟨s1,s2⟩:=World.ownsRow.stored h1 (i*2+1) u
 have A4:B<=g:=(World.ownsRow.lt h1 g rfl).1
 have A3:∀(xs:List α) (us:List Value) (i:Nat),(∀x,xs[i]?=some x->L.key y=L.key x)->flatK L (xs.set i y) us=flatK L xs us:=by
  intro xs
  induction xs with
  | nil=>intro us i _;rfl
  | cons x xs ih=>
   intro us i hk
   cases us with
   | nil=>cases i <;> rfl
   | cons z us=>
    cases i with
    | zero=>simp [flatK,hk x rfl]
    | succ i=>simp [flatK,ih us i (fun x hx=>hk x (by simpa using hx))]
 refine ⟨⟨us.set i u,?_,by simp [h2],fun j z x hj hx=>?_⟩,(Below.refl B w).setCell (p:=⟨g,i*2+1,none⟩) A4 u⟩
 · rw [List.length_set,A3 xs _ i hk,<-QE L u xs us i h2];exact s1
 · by_cases A1:i=j
   · subst A1
     rw [List.getElem?_set_self'] at hj hx
     cases A0:us[i]? with
     | none=>rw [A0] at hj;simp at hj
     | some _=>
      cases A2:xs[i]? with
      | none=>rw [A2] at hx;simp at hx
      | some _=>
       rw [A0] at hj;rw [A2] at hx
       simp at hj hx
       subst hj;subst hx
       exact JZ hC hT h1 s2 hu
   · rw [List.getElem?_set_ne A1] at hj hx
     exact JZ hC hT h1 s2 (h3 j z x hj hx)
end
section
open Go.RowKit
theorem Tv (x y:List UInt8):Op.bytesLess x y=decide (Lib.compareBytes x y=-1):=RuS.less_iff x y
theorem cmp_lt {x y:List UInt8} (h:Op.bytesLess x y=true):Lib.compareBytes x y=-1:=by rw [Tv] at h;exact of_decide_eq_true h
theorem cmp_gt {x y:List UInt8} (h:Op.bytesLess y x=true):Lib.compareBytes x y=1:=by
 have h1:=cmp_lt h
 rw [RuS.compare_swap y x,h1];rfl
theorem cmp_eq {x y:List UInt8} (h:Op.bytesLess x y=false) (h2:Op.bytesLess y x=false):Lib.compareBytes x y=0:=by
 rw [Tv] at h h2
 have h1:=of_decide_eq_false h
 have h3:=of_decide_eq_false h2
 have hr:=RuS.compare_range x y
 have hs:=RuS.compare_swap x y
 omega
namespace DnS
theorem ZB:∀(k:Nat) (x y:List (List UInt8)) (a b:List UInt8),x[k]?=some a->y[k]?=some b->cmpL (x.drop k) (y.drop k)=if Lib.compareBytes a b=0 then cmpL (x.drop (k+1)) (y.drop (k+1)) else Lib.compareBytes a b
 | k,x,y,a,b,hx,hy=>by
  obtain ⟨A0,rfl⟩:=List.getElem?_eq_some_iff.1 hx
  obtain ⟨A1,rfl⟩:=List.getElem?_eq_some_iff.1 hy
  rw [List.drop_eq_getElem_cons A0,List.drop_eq_getElem_cons A1,cmpL]
theorem ZC {x y:List (List UInt8)} {k:Nat} (hx:k<x.length) (hy:y.length<=k):cmpL (x.drop k) (y.drop k)=1:=by
 rw [List.drop_eq_getElem_cons hx,List.drop_of_length_le hy,cmpL]
theorem ZE {x y:List (List UInt8)} {k:Nat} (hx:x.length<=k) (hy:k<y.length):cmpL (x.drop k) (y.drop k)=-1:=by
 rw [List.drop_eq_getElem_cons hy,List.drop_of_length_le hx,cmpL]
theorem AbW {x y:List (List UInt8)} {k:Nat} (hx:x.length<=k) (hy:y.length<=k):cmpL (x.drop k) (y.drop k)=0:=by
 rw [List.drop_of_length_le hx,List.drop_of_length_le hy,cmpL]
end DnS
theorem Ai.cells {w:World} {a:Option Addr} {n c:Nat} {xs:List (List UInt8)} (h:Ai w (.slice a n c) xs):xs.length=n/\n<=c/\∀(k:Nat) (y:List UInt8),xs[k]?=some y->∃g o,a=some ⟨g,o,none⟩/\g<w.heap.size/\w.cell? ⟨g,o+k,none⟩=some (Ac y):=by
 obtain ⟨a',c',e,hc,A0⟩:=h
 cases e
 refine ⟨rfl,hc,fun k y hk=>?_⟩
 rcases A0 with rfl | ⟨g,o,rfl,hg,hcell⟩
 · simp at hk
 · exact ⟨g,o,rfl,hg,hcell k y hk⟩
def AdD (n:Int) (w:World) (e:Ending) (w':World):Prop:=e=.returned (.int .i64 n)/\w=w'
theorem Ni {B b:Nat} {a:World} (hb:B<=b):∀(vs:List Value) (o:Nat) (w:World),Below B a w->Below B a (w.setCells b o vs)
 | [],_,_,h=>h
 | v :: r,o,_,h=>Ni hb r (o+1) _ (h.setCell (p:=⟨b,o,none⟩) hb v)
theorem Dh {w:World} {B:Nat} {v:Value} {xs:List (List UInt8)} (h:Own w B v xs) {k:Nat} (hk:v.ownBlock=some k):B<=k/\k<w.heap.size:=by
 rcases h.2 with ⟨rfl,_⟩ | ⟨g,cap,cur,rfl,hg,hh,_⟩
 · cases hk
 · cases hk
   exact ⟨hg,(Array.getElem?_eq_some_iff.1 hh).1⟩
theorem Own.kept {w w':World} {B:Nat} {v:Value} {xs:List (List UInt8)} (h:Own w B v xs) (hb:∀k,v.ownBlock=some k->w'.heap[k]?=w.heap[k]?):Own w' B v xs:=by
 refine ⟨h.1,?_⟩
 rcases h.2 with h | ⟨g,cap,cur,rfl,hg,hh,hn,hm,hsz,A0⟩
 · exact .inl h
 · exact .inr ⟨g,cap,cur,rfl,hg,(hb g rfl).trans hh,hn,hm,hsz,A0⟩
theorem Ai.kept {w w':World} {B:Nat} {v:Value} {xs ys:List (List UInt8)} (ho:Own w B v ys) (h:Ai w v xs) (hs:w.heap.size<=w'.heap.size) (hb:∀k,v.ownBlock=some k->w'.heap[k]?=w.heap[k]?):Ai w' v xs:=by
 obtain ⟨a,c,rfl,hc,A0⟩:=h
 refine ⟨a,c,rfl,hc,?_⟩
 rcases A0 with h | ⟨g,o,rfl,hg,hcell⟩
 · exact .inl h
 · refine .inr ⟨g,o,rfl,Nat.lt_of_lt_of_le hg hs,fun j y hj=>?_⟩
   have A1:(Value.slice (some ⟨g,o,none⟩) xs.length c).ownBlock=some g:=rfl
   exact (World.cell?_of_block (a:=⟨g,o+j,none⟩) (hb g A1)).trans (hcell j y hj)
end
end Go.Proofs.YtgngjfjaelgaeaaGreatDoor
