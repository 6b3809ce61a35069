/- The walks of the law's Theirs and Ours: a filter, copied. Conditions: as stated. -/
import Derived.Test.YtgngjfjaelgaeaaGreatDoorZFip
import Derived.Test.YtgngjfjaelgaeaaGreatDoorZCqa
set_option maxRecDepth 100000
set_option maxHeartbeats 16000000
namespace Go.Proofs.YtgngjfjaelgaeaaGreatDoor
open Go.Proofs.Tryz
variable {xs:List iK} {B:Nat} {v:Value} {w:World}
open Go.RowKit
open FiS (Fi)
attribute [local go_sem ↓] Go.wp_at_zero Go.wp_at_succ
theorem Own.inRow(h:Own w B v xs)(ok:Nat->Prop)(a:∀g,B<=g->g<w.heap.size->ok g):Am ok w v xs:=h.strs.strsP ok (λg b=>a g (World.ownsRow.lt h g b).1 (World.ownsRow.lt h g b).2)
theorem Iz{o:Oper}{a:Act}{K:Act->World->Prop}{Q:Exit->Act->World->Prop}(s x:Operand)
  (C:o.op=.call { callee:=.builtin .append,args:=#[s,x],argTypes:=#[23,23] })
  (B:Nat)(v:Value)(xs:List iK)(z:a.eval s=v)(b:Own w B v xs)(u:Value)(ys:List iK)(hx:a.eval x=u)(n:Ah w u ys)
  (I:xs.length+ys.length<=1000000000)(hB:B<=w.heap.size)
  (h:∀l w',Own w' B l (xs++ys)->Below B w w'->w.grownBy w' v.ownBlock->K (a.put o.dst l) w'):Oper.wp prog o a w K Q:=by
 obtain⟨A,c,rfl,hc,d⟩:=n;obtain⟨i0,H,q,m,r⟩:=info_parts Hy;cases A with
 |none=>
  rcases d with rfl|⟨g,o,e,_⟩
  ·have f:=KP o.type b c;unfold Oper.wp;simp[execOp,C,resolve,invoke,builtin,z,hx,f,Result.andThen];exact h v w (by rw[bK];exact b) (Below.refl B w) ⟨rfl,rfl,rfl,aA _,λ_ _ _=>rfl⟩
  ·cases e
 |some E=>
  refine wp_append_own w s x _ C B 9 i0 (.string ⟨#[]⟩) 1 16 underlying23 H q m r rfl (by decide) v xs.length (xs.map Ac) z b E ys.length c (ys.map Ac) hx (by simp)
   (λj y p=>?_) (λy G=>?_) (by unfold maxLen;omega) (by omega) hB (λl w' h1 h2 _=>h l w' ?_ ?_ h2)
  ·rcases d with rfl|⟨g,o,e,J,hcell⟩
   ·simp at p
   ·cases e;rw[ba] at p;obtain⟨t,F,rfl⟩:=bF.1 p;have i:(⟨g,o,Option.none⟩:Addr).add j=⟨g,o+j,Option.none⟩:=by unfold Addr.add;split<;>simp_all
    rw[i];exact hcell j t F
  ·obtain⟨t,_,rfl⟩:=bG.1 G;rfl
  ·unfold Own;rw[bQ,aT];exact h1
  ·exact(Below.refl B w).grown h2 hB (λk hk=>(World.ownsRow.lt b k hk).1)
theorem Own.apartG{tb:Nat}{T:TypeId}{cs:Array Value}(h:Own w B v xs)(a:Whole w tb T cs)(b:T≠9):v.ownBlock≠some tb:=λe=>by obtain⟨c,fz,h2⟩:=Lib.ownsRow_kind h tb e;unfold Whole at a;rw[a] at h2;cases h2;exact b rfl
theorem Whole.grownO{w':World}{tb:Nat}{T:TypeId}{cs:Array Value}(h:Whole w tb T cs)(a:Own w B v xs)(b:T≠9)(c:w.grownBy w' v.ownBlock):Whole w' tb T cs:=
 (c.block tb h.lt (λe=>Own.apartG a h b e.symm)).trans h
def YD(n:Nat):Prop:=∀(x:Fi) (v:Value) (w:World),BF n w v x->FiS.wdF 20000 x->Calls prog 20 #[v] w λe w'=>∃a,e=.returned a/\FiV (n+1) (λg=>w.heap.size<=g) w' a x/\Below w.heap.size w w'
theorem Qo:∀n,YD n:=EU (λn IH=>by
 unfold YD at*;intro x v w h G3;obtain⟨kd,l,I,H,ls,an,ps⟩:=x;obtain⟨a5,c5,a6,c6,hv,C0,D7,B8⟩:=FiV.parts h;have hv:v=.agg #[kd,l,I,H,ls,.slice a5 an.length c5,.slice a6 ps.length c6]:=hv;subst hv;have C0:Ah w (.slice a5 an.length c5) an:=C0;have D7:ps.length<=c6:=D7;have B8:Bl n (λ_=>True) w (.slice a6 ps.length c6) ps:=B8;rw[FiS.wdF] at G3;obtain⟨_,H2,_,H0,F8⟩:=G3;have E2:=hZ9 (FiS.GX.1 F8);clear F8;have E3:=hZ9 (λj (hj:j<ps.length)=>aW hj);have B1:Hid (ps.take ps.length=ps):=hZ9 (bA);obtain⟨u,Z⟩:∃m,an.length=m:=⟨_,rfl⟩
 obtain⟨PL,D9⟩:∃m,ps.length=m:=⟨_,rfl⟩
 have I8:=hZ9 Z;have G5:=hZ9 D9;rw[Z] at C0;rw[D9] at D7 B8
 try rw[Z]
 try rw[D9]
 rw[D9] at B1 H0;rw[Z] at H2;have E4:=hZ9 (λj (hj:j<ps.length)=>Bl.at B8 j hj);have F7:=Af w (.cells #[kd,l,I,H,ls,.slice a5 u c5,.slice a6 PL c6] 26);have E5:=Af (w.alloc (.cells #[kd,l,I,H,ls,.slice a5 u c5,.slice a6 PL c6] 26)) (.cells #[.int .i64 0,.string ⟨#[]⟩,.string ⟨#[]⟩,.string ⟨#[]⟩,.string ⟨#[]⟩,.slice none 0 0,.slice none 0 0] 36);have e1:(w.alloc (.cells #[kd,l,I,H,ls,.slice a5 u c5,.slice a6 PL c6] 26)).heap.size=w.heap.size+1:=by simp
 have B2:=F7.trans (E5.mono (by rw[e1];omega));have S:=(Whole.made w 26 #[kd,l,I,H,ls,.slice a5 u c5,.slice a6 PL c6]).call E5;have M:Whole ((w.alloc (.cells #[kd,l,I,H,ls,.slice a5 u c5,.slice a6 PL c6] 26)).alloc (.cells #[.int .i64 0,.string ⟨#[]⟩,.string ⟨#[]⟩,.string ⟨#[]⟩,.string ⟨#[]⟩,.slice none 0 0,.slice none 0 0] 36)) (w.heap.size+1) 36 #[.int .i64 0,.string ⟨#[]⟩,.string ⟨#[]⟩,.string ⟨#[]⟩,.string ⟨#[]⟩,.slice none 0 0,.slice none 0 0]:=by
  have:=Whole.made (w.alloc (.cells #[kd,l,I,H,ls,.slice a5 u c5,.slice a6 PL c6] 26)) 36 #[.int .i64 0,.string ⟨#[]⟩,.string ⟨#[]⟩,.string ⟨#[]⟩,.string ⟨#[]⟩,.slice none 0 0,.slice none 0 0]
  rwa [e1] at this
 have X:=C0.call (w':=(w.alloc (.cells #[kd,l,I,H,ls,.slice a5 u c5,.slice a6 PL c6] 26)).alloc (.cells #[.int .i64 0,.string ⟨#[]⟩,.string ⟨#[]⟩,.string ⟨#[]⟩,.string ⟨#[]⟩,.slice none 0 0,.slice none 0 0] 36)) B2 (aA _);have I2:=M.lt;clear h C0 B8 F7 E5 e1 D7;go_enter func20,ntmps20;go_upto_region 1 with fail;generalize (w.alloc (.cells #[kd,l,I,H,ls,.slice a5 u c5,.slice a6 PL c6] 26)).alloc (.cells #[.int .i64 0,.string ⟨#[]⟩,.string ⟨#[]⟩,.string ⟨#[]⟩,.string ⟨#[]⟩,.slice none 0 0,.slice none 0 0] 36)=w1 at*;go_cut [3] (λp wd=>∃(tb:Nat) (F:Option Addr) (sc:Nat),p=.pointer (some ⟨tb,0,none⟩)/\w.heap.size+2<=tb/\Whole wd tb 36 #[kd,l,I,H,ls,.slice F u sc,.slice none 0 0]/\Am (λg=>w.heap.size+2<=g/\g≠tb) wd (.slice F u sc) an/\Whole wd w.heap.size 26 #[kd,l,I,H,ls,.slice a5 u c5,.slice a6 PL c6]/\Whole wd (w.heap.size+1) 36 #[.int .i64 0,.string ⟨#[]⟩,.string ⟨#[]⟩,.string ⟨#[]⟩,.string ⟨#[]⟩,.slice none 0 0,.slice none 0 0]/\Below w.heap.size w wd)
 case first=>
  obtain⟨q0,q1,q2,q3,q4,q5,q6⟩:=S.seven;have J2:=Agl;have f:Below w1.heap.size w1 w1.drew:=(Below.refl _ _).drew;go_wp2_with fail;refine Gi 16 (λW=>W.cell? ⟨w.heap.size,0,none⟩=some (.int .i64 kd)/\W.cell? ⟨w.heap.size,1,none⟩=some (.string ⟨l.toArray⟩)/\W.cell? ⟨w.heap.size,2,none⟩=some (.string ⟨I.toArray⟩)/\W.cell? ⟨w.heap.size,3,none⟩=some (.string ⟨H.toArray⟩)/\W.cell? ⟨w.heap.size,4,none⟩=some (.string ⟨ls.toArray⟩)/\W.cell? ⟨w.heap.size,5,none⟩=some (.slice a5 u c5)) (by kernel_rfl) (by kernel_rfl) ⟨q0,q1,q2,q3,q4,q5⟩ (λa=>?_);refine Ai 0 ?_ (by simp only[aN,aS];decide) (by kernel_rfl) (λ_ _ _ h=>h) (by rfl) ?_ a ?_
  rotate_left
  ·intro W G;(try simp only[aC]);(try go_split_ands);go_simp;(try with_reducible rfl)
  (try simp only[aC,Act.put,aF,aL,aQ])
  refine Ai 1 ?_ (by simp only[aN,aS];decide) (by kernel_rfl) (λ_ _ _ h=>h) (by rfl) ?_ a ?_
  rotate_left
  ·intro W G;(try simp only[aD,aC]);(try go_split_ands);go_simp;(try with_reducible rfl)
  (try simp only[aD,aC,Act.put,aF,aL,aQ])
  refine Ai 2 ?_ (by simp only[aN,aS];decide) (by kernel_rfl) (λ_ _ _ h=>h) (by rfl) ?_ a ?_
  rotate_left
  ·intro W G;(try simp only[aD,aC]);(try go_split_ands);go_simp;(try with_reducible rfl)
  (try simp only[aD,aC,Act.put,aF,aL,aQ])
  refine Ai 3 ?_ (by simp only[aN,aS];decide) (by kernel_rfl) (λ_ _ _ h=>h) (by rfl) ?_ a ?_
  rotate_left
  ·intro W G;(try simp only[aD,aC]);(try go_split_ands);go_simp;(try with_reducible rfl)
  (try simp only[aD,aC,Act.put,aF,aL,aQ])
  refine Ai 4 ?_ (by simp only[aN,aS];decide) (by kernel_rfl) (λ_ _ _ h=>h) (by rfl) ?_ a ?_
  rotate_left
  ·intro W G;(try simp only[aD,aC]);(try go_split_ands);go_simp;(try with_reducible rfl)
  (try simp only[aD,aC,Act.put,aF,aL,aQ])
  refine Ai 5 ?_ (by simp only[aN,aS];decide) (by kernel_rfl) (λ_ _ _ h=>h) (by rfl) ?_ a ?_
  rotate_left
  ·intro W G;(try simp only[aD,aC]);(try go_split_ands);go_simp;(try with_reducible rfl)
  (try simp only[aD,aC,Act.put,aF,aL,aQ])
  refine Ai 6 ?_ (by simp only[aN,aS];decide) (by kernel_rfl) (λ_ _ _ h=>h) (by rfl) ?_ a ?_
  rotate_left
  ·intro W G;(try simp only[aD,aC]);(try go_split_ands);go_simp;(try with_reducible rfl)
  (try simp only[aD,aC,Act.put,aF,aL,aQ])
  refine Ai 7 ?_ (by simp only[aN,aS];decide) (by kernel_rfl) (λ_ _ _ h=>h) (by rfl) ?_ a ?_
  rotate_left
  ·intro W G;(try simp only[aD,aC]);(try go_split_ands);go_simp;(try with_reducible rfl)
  (try simp only[aD,aC,Act.put,aF,aL,aQ])
  refine Ai 8 ?_ (by simp only[aN,aS];decide) (by kernel_rfl) (λ_ _ _ h=>h) (by rfl) ?_ a ?_
  rotate_left
  ·intro W G;(try simp only[aD,aC]);(try go_split_ands);go_simp;(try with_reducible rfl)
  (try simp only[aD,aC,Act.put,aF,aL,aQ])
  refine Ai 9 ?_ (by simp only[aN,aS];decide) (by kernel_rfl) (λ_ _ _ h=>h) (by rfl) ?_ a ?_
  rotate_left
  ·intro W G;(try simp only[aD,aC]);(try go_split_ands);go_simp;(try with_reducible rfl)
  (try simp only[aD,aC,Act.put,aF,aL,aQ])
  refine Ai 11 ?_ (by simp only[aN,aS];decide) (by kernel_rfl) (λ_ _ _ h=>h) (by rfl) ?_ a ?_
  rotate_left
  ·intro W G;(try simp only[aD,aC]);(try go_split_ands);go_simp;(try with_reducible rfl)
  (try simp only[aD,aC,Act.put,aF,aL,aQ])
  refine Ai 12 ?_ (by simp only[aN,aS];decide) (by kernel_rfl) (λ_ _ _ h=>h) (by rfl) ?_ a ?_
  rotate_left
  ·intro W G;(try simp only[aD,aC]);(try go_split_ands);go_simp;(try with_reducible rfl)
  (try simp only[aD,aC,Act.put,aF,aL,aQ])
  refine Pn 10 15 (by simp only[aN,aS];decide) (by simp only[aN,aS];decide) (by kernel_rfl) (λK N=>?_) (λK N=>?_)
  ·(try simp only[aD,aC])
   refine Bz (by rfl) ?_;go_simp;have s:Own (((w1).alloc (.cells #[] 9))).drew w1.heap.size (.slice (some ⟨w1.heap.size,0,none⟩) 0 0) []:=by have:=(Own.made0 (w1)).mono (show w1.heap.size<=(w1).heap.size by exact aA _);exact(by simpa using this:Own (((w1).alloc (.cells #[] 9))) w1.heap.size (.slice (some ⟨w1.heap.size,0,none⟩) 0 0) [])
   replace f:Below w1.heap.size w1 (((w1).alloc (.cells #[] 9))).drew:=((Below.refl _ _:Below w1.heap.size w1 (w1)).trans ((Af w1 _).mono (by exact aA _))).drew;refine N.out _ _ ?_ (λa=>?_)
   ·exact⟨Ab q0 f,Ab q1 f,Ab q2 f,Ab q3 f,Ab q4 f,Ab q5 f⟩
   clear N K
   (try simp only[aD,aC,Act.put,aF,aL,aQ])
   refine Pn 13 15 (by simp only[aN,aS];decide) (by simp only[aN,aS];decide) (by kernel_rfl) (λK N=>?_) (λK N=>?_)
   ·(try simp only[aD,aC])
    refine Bz (by rfl) ?_;have A1:=X.call f (aA _);have A2:=f.size;refine Iz _ _ (by rfl) w1.heap.size _ [] (by rfl) s _ an (by rfl) A1 (by simp;omega) A2 ?_;intro v1 w3 k B9 V;replace k:=Own.nilOf k;replace f:=f.trans B9;obtain⟨F,sc,rfl⟩:=Own.form k;rw[Z] at k
    try rw[Z]
    clear s V;refine N.out _ _ ?_ (λa=>?_)
    ·exact⟨Ab q0 f,Ab q1 f,Ab q2 f,Ab q3 f,Ab q4 f,Ab q5 f⟩
    clear N K
    (try simp only[Act.put,aF,aL,aQ])
    refine Ai 14 ?_ (by simp only[aN,aS];decide) (by kernel_rfl) (λ_ _ _ h=>h) (by rfl) ?_ a ?_
    rotate_left
    ·intro W G;(try simp only[aD,aC]);(try go_split_ands);go_simp;(try with_reducible rfl)
    (try simp only[aD,aC,Act.put,aF,aL,aQ])
    refine BB 15 (by simp only[aN,aS];decide) (by kernel_rfl) (λK N=>?_)
    (try simp only[aD,aC])
    refine Bz (by rfl) ?_;go_simp;have r:Whole (w3.alloc (.cells #[.int .i64 0,.string ⟨#[]⟩,.string ⟨#[]⟩,.string ⟨#[]⟩,.string ⟨#[]⟩,.slice none 0 0,.slice none 0 0] 36)) w3.heap.size 36 #[.int .i64 0,.string ⟨#[]⟩,.string ⟨#[]⟩,.string ⟨#[]⟩,.string ⟨#[]⟩,.slice none 0 0,.slice none 0 0]:=Whole.made w3 36 #[.int .i64 0,.string ⟨#[]⟩,.string ⟨#[]⟩,.string ⟨#[]⟩,.string ⟨#[]⟩,.slice none 0 0,.slice none 0 0];have E9:w1.heap.size<=w3.heap.size:=f.size;replace k:=k.alloc (.cells #[.int .i64 0,.string ⟨#[]⟩,.string ⟨#[]⟩,.string ⟨#[]⟩,.string ⟨#[]⟩,.slice none 0 0,.slice none 0 0] 36);replace f:=f.trans ((Af w3 (.cells #[.int .i64 0,.string ⟨#[]⟩,.string ⟨#[]⟩,.string ⟨#[]⟩,.string ⟨#[]⟩,.slice none 0 0,.slice none 0 0] 36)).mono f.size);obtain⟨tb,L⟩:∃b,b=w3.heap.size:=⟨_,rfl⟩
    have E0:w1.heap.size<=tb:=by omega
    rw[<-L] at r
    try rw[<-L]
    clear L E9;refine N.out _ _ ?_ (λa=>?_)
    ·exact⟨Ab q0 f,Ab q1 f,Ab q2 f,Ab q3 f,Ab q4 f,Ab q5 f⟩
    clear N K
    (try simp only[aD,aC,Act.put,aF,aL,aQ])
    refine EX (by kernel_rfl) ?_;simp only[bW,bI];clear a X;generalize w3.alloc (.cells #[.int .i64 0,.string ⟨#[]⟩,.string ⟨#[]⟩,.string ⟨#[]⟩,.string ⟨#[]⟩,.slice none 0 0,.slice none 0 0] 36)=w4 at*;obtain⟨m0,m1,m2,m3,m4,m5,m6⟩:=r.seven;obtain⟨t0,t1,t2,t3,t4,t5,t6⟩:=r.thaws;have P:=S.call f;have Q:=M.call f;have C9:=M.lt;have R:Am (λg=>w.heap.size+2<=g/\g≠tb) w4 (.slice F u sc) an:=k.strs.strsP _ (λg U=>⟨by have:=(World.ownsRow.lt k g U).1;omega,λe=>Own.apartG k r (by decide) (by rw[U,e])⟩);have B:=r.put7 (.int .i64 kd) (.string ⟨l.toArray⟩) (.string ⟨I.toArray⟩) (.string ⟨H.toArray⟩) (.string ⟨ls.toArray⟩) (.slice F u sc) (.slice none 0 0);have E:=P.other7 (g:=tb) (by omega) (.int .i64 kd) (.string ⟨l.toArray⟩) (.string ⟨I.toArray⟩) (.string ⟨H.toArray⟩) (.string ⟨ls.toArray⟩) (.slice F u sc) (.slice none 0 0);have A:=Q.other7 (g:=tb) (by omega) (.int .i64 kd) (.string ⟨l.toArray⟩) (.string ⟨I.toArray⟩) (.string ⟨H.toArray⟩) (.string ⟨ls.toArray⟩) (.slice F u sc) (.slice none 0 0);have y:Am (λg=>w.heap.size+2<=g/\g≠tb) (sev w4 tb (.int .i64 kd) (.string ⟨l.toArray⟩) (.string ⟨I.toArray⟩) (.string ⟨H.toArray⟩) (.string ⟨ls.toArray⟩) (.slice F u sc) (.slice none 0 0)) (.slice F u sc) an:=R.keep (Ey (Below.refl tb w4) (aA _) (.int .i64 kd) (.string ⟨l.toArray⟩) (.string ⟨I.toArray⟩) (.string ⟨H.toArray⟩) (.string ⟨ls.toArray⟩) (.slice F u sc) (.slice none 0 0)).size (λg U q=>by
     have q:w.heap.size+2<=g/\g≠tb:=q;unfold sev;rw[Below.heap_setCell _ _ _ _ (by show g≠tb;exact q.2),Below.heap_setCell _ _ _ _ (by show g≠tb;exact q.2),Below.heap_setCell _ _ _ _ (by show g≠tb;exact q.2),Below.heap_setCell _ _ _ _ (by show g≠tb;exact q.2),Below.heap_setCell _ _ _ _ (by show g≠tb;exact q.2),Below.heap_setCell _ _ _ _ (by show g≠tb;exact q.2),Below.heap_setCell _ _ _ _ (by show g≠tb;exact q.2)]) (λg _ h=>h)
    have t:=Ey ((B2.trans (f.mono B2.size))) (show w.heap.size<=tb by omega) (.int .i64 kd) (.string ⟨l.toArray⟩) (.string ⟨I.toArray⟩) (.string ⟨H.toArray⟩) (.string ⟨ls.toArray⟩) (.slice F u sc) (.slice none 0 0);unfold sev at B E A y t;have HF:=hZ9 (cn B (cn y (cn E (cn A t))));have A3:w.heap.size+2<=tb:=by omega
    clear B y E A t R P Q k;go_wp2_with fail;go_meet;exact⟨tb,F,sc,rfl,A3,HF.out.1,HF.out.2.1,HF.out.2.2.1,HF.out.2.2.2.1,HF.out.2.2.2.2⟩
   ·(try simp only[aD,aC])
    refine Bz (by rfl) ?_;go_simp;have r:Whole (((((w1).alloc (.cells #[] 9))).alloc (.cells #[.int .i64 0,.string ⟨#[]⟩,.string ⟨#[]⟩,.string ⟨#[]⟩,.string ⟨#[]⟩,.slice none 0 0,.slice none 0 0] 36))).drew (w1.heap.size+1) 36 #[.int .i64 0,.string ⟨#[]⟩,.string ⟨#[]⟩,.string ⟨#[]⟩,.string ⟨#[]⟩,.slice none 0 0,.slice none 0 0]:=by have:=Whole.made (((w1).alloc (.cells #[] 9))) 36 #[.int .i64 0,.string ⟨#[]⟩,.string ⟨#[]⟩,.string ⟨#[]⟩,.string ⟨#[]⟩,.slice none 0 0,.slice none 0 0];exact(by simpa using this:Whole (((((w1).alloc (.cells #[] 9))).alloc (.cells #[.int .i64 0,.string ⟨#[]⟩,.string ⟨#[]⟩,.string ⟨#[]⟩,.string ⟨#[]⟩,.slice none 0 0,.slice none 0 0] 36))) (w1.heap.size+1) 36 #[.int .i64 0,.string ⟨#[]⟩,.string ⟨#[]⟩,.string ⟨#[]⟩,.string ⟨#[]⟩,.slice none 0 0,.slice none 0 0])
    replace s:Own (((((w1).alloc (.cells #[] 9))).alloc (.cells #[.int .i64 0,.string ⟨#[]⟩,.string ⟨#[]⟩,.string ⟨#[]⟩,.string ⟨#[]⟩,.slice none 0 0,.slice none 0 0] 36))).drew w1.heap.size _ []:=Own.alloc (w:=((w1).alloc (.cells #[] 9))) s (.cells #[.int .i64 0,.string ⟨#[]⟩,.string ⟨#[]⟩,.string ⟨#[]⟩,.string ⟨#[]⟩,.slice none 0 0,.slice none 0 0] 36);replace f:Below w1.heap.size w1 (((((w1).alloc (.cells #[] 9))).alloc (.cells #[.int .i64 0,.string ⟨#[]⟩,.string ⟨#[]⟩,.string ⟨#[]⟩,.string ⟨#[]⟩,.slice none 0 0,.slice none 0 0] 36))).drew:=(((Af w1 _).trans ((Af ((w1).alloc (.cells #[] 9)) _).mono (by simp)))).drew;obtain⟨tb,L⟩:∃b,b=w1.heap.size+1:=⟨_,rfl⟩
    have E0:w1.heap.size<=tb:=by omega
    rw[<-L] at r
    try rw[<-L]
    clear L;refine N.out _ _ ?_ (λa=>?_)
    ·exact⟨Ab q0 f,Ab q1 f,Ab q2 f,Ab q3 f,Ab q4 f,Ab q5 f⟩
    clear N K
    (try simp only[aD,aC,Act.put,aF,aL,aQ])
    refine BB 13 (by simp only[aN,aS];decide) (by kernel_rfl) (λK N=>?_)
    (try simp only[aD,aC])
    refine Bz (by rfl) ?_;have A1:=X.call f (aA _);have A2:=f.size;refine Iz _ _ (by rfl) w1.heap.size _ [] (by rfl) s _ an (by rfl) A1 (by simp;omega) A2 ?_;intro v1 w3 k B9 V;replace k:=Own.nilOf k;replace r:=r.grownO s (by decide) V;replace f:=f.trans B9;obtain⟨F,sc,rfl⟩:=Own.form k;rw[Z] at k
    try rw[Z]
    clear s V;refine N.out _ _ ?_ (λa=>?_)
    ·exact⟨Ab q0 f,Ab q1 f,Ab q2 f,Ab q3 f,Ab q4 f,Ab q5 f⟩
    clear N K
    (try simp only[Act.put,aF,aL,aQ])
    refine Ai 14 ?_ (by simp only[aN,aS];decide) (by kernel_rfl) (λ_ _ _ h=>h) (by rfl) ?_ a ?_
    rotate_left
    ·intro W G;(try simp only[aD,aC]);(try go_split_ands);go_simp;(try with_reducible rfl)
    (try simp only[aD,aC,Act.put,aF,aL,aQ])
    refine EX (by kernel_rfl) ?_;simp only[bW,bI];clear a X;obtain⟨w4,E1⟩:∃x,x=w3:=⟨_,rfl⟩
    subst E1;obtain⟨m0,m1,m2,m3,m4,m5,m6⟩:=r.seven;obtain⟨t0,t1,t2,t3,t4,t5,t6⟩:=r.thaws;have P:=S.call f;have Q:=M.call f;have C9:=M.lt;have R:Am (λg=>w.heap.size+2<=g/\g≠tb) w4 (.slice F u sc) an:=k.strs.strsP _ (λg U=>⟨by have:=(World.ownsRow.lt k g U).1;omega,λe=>Own.apartG k r (by decide) (by rw[U,e])⟩);have B:=r.put7 (.int .i64 kd) (.string ⟨l.toArray⟩) (.string ⟨I.toArray⟩) (.string ⟨H.toArray⟩) (.string ⟨ls.toArray⟩) (.slice F u sc) (.slice none 0 0);have E:=P.other7 (g:=tb) (by omega) (.int .i64 kd) (.string ⟨l.toArray⟩) (.string ⟨I.toArray⟩) (.string ⟨H.toArray⟩) (.string ⟨ls.toArray⟩) (.slice F u sc) (.slice none 0 0);have A:=Q.other7 (g:=tb) (by omega) (.int .i64 kd) (.string ⟨l.toArray⟩) (.string ⟨I.toArray⟩) (.string ⟨H.toArray⟩) (.string ⟨ls.toArray⟩) (.slice F u sc) (.slice none 0 0);have y:Am (λg=>w.heap.size+2<=g/\g≠tb) (sev w4 tb (.int .i64 kd) (.string ⟨l.toArray⟩) (.string ⟨I.toArray⟩) (.string ⟨H.toArray⟩) (.string ⟨ls.toArray⟩) (.slice F u sc) (.slice none 0 0)) (.slice F u sc) an:=R.keep (Ey (Below.refl tb w4) (aA _) (.int .i64 kd) (.string ⟨l.toArray⟩) (.string ⟨I.toArray⟩) (.string ⟨H.toArray⟩) (.string ⟨ls.toArray⟩) (.slice F u sc) (.slice none 0 0)).size (λg U q=>by
     have q:w.heap.size+2<=g/\g≠tb:=q;unfold sev;rw[Below.heap_setCell _ _ _ _ (by show g≠tb;exact q.2),Below.heap_setCell _ _ _ _ (by show g≠tb;exact q.2),Below.heap_setCell _ _ _ _ (by show g≠tb;exact q.2),Below.heap_setCell _ _ _ _ (by show g≠tb;exact q.2),Below.heap_setCell _ _ _ _ (by show g≠tb;exact q.2),Below.heap_setCell _ _ _ _ (by show g≠tb;exact q.2),Below.heap_setCell _ _ _ _ (by show g≠tb;exact q.2)]) (λg _ h=>h)
    have t:=Ey ((B2.trans (f.mono B2.size))) (show w.heap.size<=tb by omega) (.int .i64 kd) (.string ⟨l.toArray⟩) (.string ⟨I.toArray⟩) (.string ⟨H.toArray⟩) (.string ⟨ls.toArray⟩) (.slice F u sc) (.slice none 0 0);unfold sev at B E A y t;have HF:=hZ9 (cn B (cn y (cn E (cn A t))));have A3:w.heap.size+2<=tb:=by omega
    clear B y E A t R P Q k;go_wp2_with fail;go_meet;exact⟨tb,F,sc,rfl,A3,HF.out.1,HF.out.2.1,HF.out.2.2.1,HF.out.2.2.2.1,HF.out.2.2.2.2⟩
  ·(try simp only[aD,aC])
   refine Bz (by rfl) ?_;go_simp;have r:Whole (((w1).alloc (.cells #[.int .i64 0,.string ⟨#[]⟩,.string ⟨#[]⟩,.string ⟨#[]⟩,.string ⟨#[]⟩,.slice none 0 0,.slice none 0 0] 36))).drew (w1.heap.size) 36 #[.int .i64 0,.string ⟨#[]⟩,.string ⟨#[]⟩,.string ⟨#[]⟩,.string ⟨#[]⟩,.slice none 0 0,.slice none 0 0]:=by have:=Whole.made (w1) 36 #[.int .i64 0,.string ⟨#[]⟩,.string ⟨#[]⟩,.string ⟨#[]⟩,.string ⟨#[]⟩,.slice none 0 0,.slice none 0 0];exact(by simpa using this:Whole (((w1).alloc (.cells #[.int .i64 0,.string ⟨#[]⟩,.string ⟨#[]⟩,.string ⟨#[]⟩,.string ⟨#[]⟩,.slice none 0 0,.slice none 0 0] 36))) (w1.heap.size) 36 #[.int .i64 0,.string ⟨#[]⟩,.string ⟨#[]⟩,.string ⟨#[]⟩,.string ⟨#[]⟩,.slice none 0 0,.slice none 0 0])
   have A5:Below w1.heap.size w1 (((w1).alloc (.cells #[.int .i64 0,.string ⟨#[]⟩,.string ⟨#[]⟩,.string ⟨#[]⟩,.string ⟨#[]⟩,.slice none 0 0,.slice none 0 0] 36))):=Af w1 _;replace f:Below w1.heap.size w1 (((w1).alloc (.cells #[.int .i64 0,.string ⟨#[]⟩,.string ⟨#[]⟩,.string ⟨#[]⟩,.string ⟨#[]⟩,.slice none 0 0,.slice none 0 0] 36))).drew:=A5.drew;obtain⟨tb,L⟩:∃b,b=w1.heap.size:=⟨_,rfl⟩
   have E0:w1.heap.size<=tb:=by omega
   rw[<-L] at r
   try rw[<-L]
   clear L;refine N.out _ _ ?_ (λa=>?_)
   ·exact⟨Ab q0 f,Ab q1 f,Ab q2 f,Ab q3 f,Ab q4 f,Ab q5 f⟩
   clear N K
   (try simp only[aD,aC,Act.put,aF,aL,aQ])
   refine BB 10 (by simp only[aN,aS];decide) (by kernel_rfl) (λK N=>?_)
   (try simp only[aD,aC])
   refine Bz (by rfl) ?_;go_simp;have s:Own (((((w1).alloc (.cells #[.int .i64 0,.string ⟨#[]⟩,.string ⟨#[]⟩,.string ⟨#[]⟩,.string ⟨#[]⟩,.slice none 0 0,.slice none 0 0] 36))).alloc (.cells #[] 9))).drew w1.heap.size (.slice (some ⟨w1.heap.size+1,0,none⟩) 0 0) []:=by have:=(Own.made0 (((w1).alloc (.cells #[.int .i64 0,.string ⟨#[]⟩,.string ⟨#[]⟩,.string ⟨#[]⟩,.string ⟨#[]⟩,.slice none 0 0,.slice none 0 0] 36)))).mono (show w1.heap.size<=(((w1).alloc (.cells #[.int .i64 0,.string ⟨#[]⟩,.string ⟨#[]⟩,.string ⟨#[]⟩,.string ⟨#[]⟩,.slice none 0 0,.slice none 0 0] 36))).heap.size by simp);exact(by simpa using this:Own (((((w1).alloc (.cells #[.int .i64 0,.string ⟨#[]⟩,.string ⟨#[]⟩,.string ⟨#[]⟩,.string ⟨#[]⟩,.slice none 0 0,.slice none 0 0] 36))).alloc (.cells #[] 9))) w1.heap.size (.slice (some ⟨w1.heap.size+1,0,none⟩) 0 0) [])
   replace r:Whole (((((w1).alloc (.cells #[.int .i64 0,.string ⟨#[]⟩,.string ⟨#[]⟩,.string ⟨#[]⟩,.string ⟨#[]⟩,.slice none 0 0,.slice none 0 0] 36))).alloc (.cells #[] 9))).drew tb 36 #[.int .i64 0,.string ⟨#[]⟩,.string ⟨#[]⟩,.string ⟨#[]⟩,.string ⟨#[]⟩,.slice none 0 0,.slice none 0 0]:=Whole.call (w:=((w1).alloc (.cells #[.int .i64 0,.string ⟨#[]⟩,.string ⟨#[]⟩,.string ⟨#[]⟩,.string ⟨#[]⟩,.slice none 0 0,.slice none 0 0] 36))) r ((Af ((w1).alloc (.cells #[.int .i64 0,.string ⟨#[]⟩,.string ⟨#[]⟩,.string ⟨#[]⟩,.string ⟨#[]⟩,.slice none 0 0,.slice none 0 0] 36)) _).drew);replace f:Below w1.heap.size w1 (((((w1).alloc (.cells #[.int .i64 0,.string ⟨#[]⟩,.string ⟨#[]⟩,.string ⟨#[]⟩,.string ⟨#[]⟩,.slice none 0 0,.slice none 0 0] 36))).alloc (.cells #[] 9))).drew:=((A5:Below w1.heap.size w1 (((w1).alloc (.cells #[.int .i64 0,.string ⟨#[]⟩,.string ⟨#[]⟩,.string ⟨#[]⟩,.string ⟨#[]⟩,.slice none 0 0,.slice none 0 0] 36)))).trans ((Af ((w1).alloc (.cells #[.int .i64 0,.string ⟨#[]⟩,.string ⟨#[]⟩,.string ⟨#[]⟩,.string ⟨#[]⟩,.slice none 0 0,.slice none 0 0] 36)) _).mono (by simp))).drew;refine N.out _ _ ?_ (λa=>?_)
   ·exact⟨Ab q0 f,Ab q1 f,Ab q2 f,Ab q3 f,Ab q4 f,Ab q5 f⟩
   clear N K
   (try simp only[aD,aC,Act.put,aF,aL,aQ])
   refine BB 13 (by simp only[aN,aS];decide) (by kernel_rfl) (λK N=>?_)
   (try simp only[aD,aC])
   refine Bz (by rfl) ?_;have A1:=X.call f (aA _);have A2:=f.size;refine Iz _ _ (by rfl) w1.heap.size _ [] (by rfl) s _ an (by rfl) A1 (by simp;omega) A2 ?_;intro v1 w3 k B9 V;replace k:=Own.nilOf k;replace r:=r.grownO s (by decide) V;replace f:=f.trans B9;obtain⟨F,sc,rfl⟩:=Own.form k;rw[Z] at k
   try rw[Z]
   clear s V;refine N.out _ _ ?_ (λa=>?_)
   ·exact⟨Ab q0 f,Ab q1 f,Ab q2 f,Ab q3 f,Ab q4 f,Ab q5 f⟩
   clear N K
   (try simp only[Act.put,aF,aL,aQ])
   refine Ai 14 ?_ (by simp only[aN,aS];decide) (by kernel_rfl) (λ_ _ _ h=>h) (by rfl) ?_ a ?_
   rotate_left
   ·intro W G;(try simp only[aD,aC]);(try go_split_ands);go_simp;(try with_reducible rfl)
   (try simp only[aD,aC,Act.put,aF,aL,aQ])
   refine EX (by kernel_rfl) ?_;simp only[bW,bI];clear a X;obtain⟨w4,E1⟩:∃x,x=w3:=⟨_,rfl⟩
   subst E1;obtain⟨m0,m1,m2,m3,m4,m5,m6⟩:=r.seven;obtain⟨t0,t1,t2,t3,t4,t5,t6⟩:=r.thaws;have P:=S.call f;have Q:=M.call f;have C9:=M.lt;have R:Am (λg=>w.heap.size+2<=g/\g≠tb) w4 (.slice F u sc) an:=k.strs.strsP _ (λg U=>⟨by have:=(World.ownsRow.lt k g U).1;omega,λe=>Own.apartG k r (by decide) (by rw[U,e])⟩);have B:=r.put7 (.int .i64 kd) (.string ⟨l.toArray⟩) (.string ⟨I.toArray⟩) (.string ⟨H.toArray⟩) (.string ⟨ls.toArray⟩) (.slice F u sc) (.slice none 0 0);have E:=P.other7 (g:=tb) (by omega) (.int .i64 kd) (.string ⟨l.toArray⟩) (.string ⟨I.toArray⟩) (.string ⟨H.toArray⟩) (.string ⟨ls.toArray⟩) (.slice F u sc) (.slice none 0 0);have A:=Q.other7 (g:=tb) (by omega) (.int .i64 kd) (.string ⟨l.toArray⟩) (.string ⟨I.toArray⟩) (.string ⟨H.toArray⟩) (.string ⟨ls.toArray⟩) (.slice F u sc) (.slice none 0 0);have y:Am (λg=>w.heap.size+2<=g/\g≠tb) (sev w4 tb (.int .i64 kd) (.string ⟨l.toArray⟩) (.string ⟨I.toArray⟩) (.string ⟨H.toArray⟩) (.string ⟨ls.toArray⟩) (.slice F u sc) (.slice none 0 0)) (.slice F u sc) an:=R.keep (Ey (Below.refl tb w4) (aA _) (.int .i64 kd) (.string ⟨l.toArray⟩) (.string ⟨I.toArray⟩) (.string ⟨H.toArray⟩) (.string ⟨ls.toArray⟩) (.slice F u sc) (.slice none 0 0)).size (λg U q=>by
    have q:w.heap.size+2<=g/\g≠tb:=q;unfold sev;rw[Below.heap_setCell _ _ _ _ (by show g≠tb;exact q.2),Below.heap_setCell _ _ _ _ (by show g≠tb;exact q.2),Below.heap_setCell _ _ _ _ (by show g≠tb;exact q.2),Below.heap_setCell _ _ _ _ (by show g≠tb;exact q.2),Below.heap_setCell _ _ _ _ (by show g≠tb;exact q.2),Below.heap_setCell _ _ _ _ (by show g≠tb;exact q.2),Below.heap_setCell _ _ _ _ (by show g≠tb;exact q.2)]) (λg _ h=>h)
   have t:=Ey ((B2.trans (f.mono B2.size))) (show w.heap.size<=tb by omega) (.int .i64 kd) (.string ⟨l.toArray⟩) (.string ⟨I.toArray⟩) (.string ⟨H.toArray⟩) (.string ⟨ls.toArray⟩) (.slice F u sc) (.slice none 0 0);unfold sev at B E A y t;have HF:=hZ9 (cn B (cn y (cn E (cn A t))));have A3:w.heap.size+2<=tb:=by omega
   clear B y E A t R P Q k;go_wp2_with fail;go_meet;exact⟨tb,F,sc,rfl,A3,HF.out.1,HF.out.2.1,HF.out.2.2.1,HF.out.2.2.2.1,HF.out.2.2.2.2⟩
 case rest=>
  obtain⟨tb,F,sc,rfl,E0,r,A6,A8,B6,G6⟩:=hcut;obtain⟨w2,I4⟩:∃x,x=wc:=⟨_,rfl⟩
  subst I4;clear S M B2 X I2;obtain⟨i0,z,hi,hz,hsz,I3,G9⟩:=Vq;have HI:=hZ9 hi;clear hi;obtain⟨C,hC⟩:∃c,c=w2.heap.size:=⟨_,rfl⟩
  have G4:C<=w2.heap.size:=by omega
  have G7:tb<C:=by have:=r.lt;omega
  have H5:w.heap.size<C:=by have:=A8.lt;omega
  have H8:w.heap.size+1<C:=by have:=B6.lt;omega
  have D1:=Am.keep (ok':=λg=>w.heap.size+2<=g/\g≠tb/\g<C) A6 (aA _) (λ_ _ _=>rfl) (λg U h=>⟨h.1,h.2,by omega⟩);have B3:=CY.empty (fiG n) 36 (λg=>C<=g) w2 C;have I7:PL=0\/0<PL:=by omega
  clear A6;obtain⟨q0,q1,q2,q3,q4,q5,q6⟩:=A8.seven;go_wp2_with fail;clear q0 q1 q2 q3 q4 q5 q6;go_loopw [23] (λi wr=>∃(j:Nat) (vq:Value),j<=PL/\i=.int .i64 j/\Whole wr tb 36 #[kd,l,I,H,ls,.slice F u sc,vq]/\CY (fiG n) 36 (λg=>C<=g) wr C vq (ps.take j)/\Am (λg=>w.heap.size+2<=g/\g≠tb/\g<C) wr (.slice F u sc) an/\Whole wr w.heap.size 26 #[kd,l,I,H,ls,.slice a5 u c5,.slice a6 PL c6]/\Whole wr (w.heap.size+1) 36 #[.int .i64 0,.string ⟨#[]⟩,.string ⟨#[]⟩,.string ⟨#[]⟩,.string ⟨#[]⟩,.slice none 0 0,.slice none 0 0]/\Below w.heap.size w wr/\C<=wr.heap.size) (λi _=>PL-(intOf i).toNat)
  case atStart=>exact⟨0,_,aR _,rfl,r,B3,D1,A8,B6,G6,G4⟩
  case round=>
   obtain⟨j,vq,hj,rfl,r,s,A6,S,M,hb,A4⟩:=hrel;clear A8 B6 G6 D1 B3 G4 hC;obtain⟨va,vc,rfl⟩:=s.form;have G1:(ps.take j).length=j:=by rw[ar,G5.out];omega
   rw[G1] at s r;by_cases H3:j<PL
   ·have A9:j<ps.length:=by rw[G5.out];exact H3
    have H7:=E3.out j A9;have F9:=E2.out j A9;have Y:Below w.heap.size w wr.drew:=hb.drew;obtain⟨d,rfl,g,o,rfl,U,b5,d5,b6,d6,D8,y0,y1,y2,y3,y4,y5,y6⟩:=E4.out j A9;have D8:=D8.call Y;have y0:=(Y.cell (p:=⟨g,o+j*7,none⟩) U).trans y0;have y1:=(Y.cell (p:=⟨g,o+j*7+1,none⟩) U).trans y1;have y2:=(Y.cell (p:=⟨g,o+j*7+2,none⟩) U).trans y2;have y3:=(Y.cell (p:=⟨g,o+j*7+3,none⟩) U).trans y3;have y4:=(Y.cell (p:=⟨g,o+j*7+4,none⟩) U).trans y4;have y5:=(Y.cell (p:=⟨g,o+j*7+5,none⟩) U).trans y5;have y6:=(Y.cell (p:=⟨g,o+j*7+6,none⟩) U).trans y6;have C6:=λv W h=>IH d rfl (ps[j]'A9) v W h F9;clear IH E4 E3 E2 B1;generalize ps[j]=p at*;have I9:(0:Int)<=(j:Int):=by omega
    have J1:(j:Int)<(PL:Int):=by omega
    have hc:=C6 _ _ D8;have H1:g<wr.drew.heap.size:=ae U Y.size;have B4:g<C:=by omega
    have G0:∀g,(Value.slice va j vc).ownBlock=some g->g<wr.drew.heap.size:=λg h=>(s.block h).2;have I5:(ps.take j).length+([p]:List Fi).length<=1000000000:=by rw[G1,bE];omega
    replace s:=s.call (show Below wr.heap.size wr wr.drew from (Below.refl _ _).drew);replace A6:=A6.call (show Below wr.heap.size wr wr.drew from (Below.refl _ _).drew);replace r:=r.drew;replace S:=S.drew;replace M:=M.drew;replace A4:C<=wr.drew.heap.size:=A4;have tq:=r.cell 6;have aq:=S.cell 6;simp only[aO,aH,aP] at tq aq;clear C6 D8 F9 hb;go_wp2_with fail;refine Gi 11 (λW=>W.cell? ⟨tb,6,none⟩=some (.slice va j vc)/\W.cell? ⟨w.heap.size,6,none⟩=some (.slice (some ⟨g,o,none⟩) PL c6)/\W.cell? ⟨g,o+j*7,none⟩=some (.int .i64 p.kind)/\W.cell? ⟨g,o+j*7+1,none⟩=some (.string ⟨p.attr.toArray⟩)/\W.cell? ⟨g,o+j*7+2,none⟩=some (.string ⟨p.value.toArray⟩)/\W.cell? ⟨g,o+j*7+3,none⟩=some (.string ⟨p.first.toArray⟩)/\W.cell? ⟨g,o+j*7+4,none⟩=some (.string ⟨p.last.toArray⟩)/\W.cell? ⟨g,o+j*7+5,none⟩=some (.slice b5 p.any.length d5)/\W.cell? ⟨g,o+j*7+6,none⟩=some (.slice b6 p.parts.length d6)) (by kernel_rfl) (by kernel_rfl) ⟨tq,aq,y0,y1,y2,y3,y4,y5,y6⟩ (λa=>?_);refine Ai 0 ?_ (by simp only[aN,aS];decide) (by kernel_rfl) (λ_ _ _ h=>h) (by rfl) ?_ a ?_
    rotate_left
    ·intro W G;(try simp only[aC]);(try go_split_ands);go_simp;(try with_reducible rfl)
    (try simp only[aC,Act.put,aF,aL,aQ])
    refine Ai 1 ?_ (by simp only[aN,aS];decide) (by kernel_rfl) (λ_ _ _ h=>h) (by rfl) ?_ a ?_
    rotate_left
    ·intro W G;(try simp only[aD,aC]);(try go_split_ands);go_simp;(try with_reducible rfl)
    (try simp only[aD,aC,Act.put,aF,aL,aQ])
    refine Ai 2 ?_ (by simp only[aN,aS];decide) (by kernel_rfl) (λ_ _ _ h=>h) (by rfl) ?_ a ?_
    rotate_left
    ·intro W G;(try simp only[aD,aC]);(try go_split_ands);go_simp;(try with_reducible rfl)
    (try simp only[aD,aC,Act.put,aF,aL,aQ])
    refine Ai 3 ?_ (by simp only[aN,aS];decide) (by kernel_rfl) (λ_ _ _ h=>h) (by rfl) ?_ a ?_
    rotate_left
    ·intro W G;(try simp only[aD,aC]);(try go_split_ands);go_simp;(try with_reducible rfl)
    (try simp only[aD,aC,Act.put,aF,aL,aQ])
    refine Ai 4 ?_ (by simp only[aN,aS];decide) (by kernel_rfl) (λ_ _ _ h=>h) (by rfl) ?_ a ?_
    rotate_left
    ·intro W G;(try simp only[aD,aC]);(try go_split_ands);go_simp;(try with_reducible rfl)
    (try simp only[aD,aC,Act.put,aF,aL,aQ])
    refine Ai 5 ?_ (by simp only[aN,aS];decide) (by kernel_rfl) (λ_ _ _ h=>h) (by rfl) ?_ a ?_
    rotate_left
    ·intro W G;(try simp only[aD,aC]);(try go_split_ands);go_simp;(try with_reducible rfl)
    (try simp only[aD,aC,Act.put,aF,aL,aQ])
    refine Ai 6 ?_ (by simp only[aN,aS];decide) (by kernel_rfl) (λ_ _ _ h=>h) (by rfl) ?_ a ?_
    rotate_left
    ·intro W G;(try simp only[aD,aC]);(try go_split_ands);go_simp;(try with_reducible rfl)
    (try simp only[aD,aC,Act.put,aF,aL,aQ])
    refine BB 7 (by simp only[aN,aS];decide) (by kernel_rfl) (λK N=>?_)
    (try simp only[aD,aC])
    refine Bz (by rfl) ?_;go_simp
    (go_at_call 20;(with_reducible refine hc.mono ?_);rintro e w5 ⟨v5,rfl,G8,t⟩)
    obtain⟨e5,f5,e6,f6,rfl,C8,J0,C2⟩:=FiV.partsO G8;have I1:=t.size;have A5:=Y.trans (t.mono Y.size);have A0:=s.call t;have B:=r.call t;have E:=S.call t;have A:=M.call t;have y:=A6.call t;have H6:=Ab tq t;have I6:g<wr.drew.heap.size:=H1;clear s r S M A6 hc;refine N.out _ _ ?_ (λa=>?_)
    ·exact⟨Ab tq t,Ab aq t,Ab y0 t,Ab y1 t,Ab y2 t,Ab y3 t,Ab y4 t,Ab y5 t,Ab y6 t⟩
    clear N K
    (try simp only[Act.put,aF,aL,aQ])
    refine BB 8 (by simp only[aN,aS];decide) (by kernel_rfl) (λK N=>?_)
    (try simp only[aD,aC])
    refine Bz (by rfl) ?_;go_simp;have A7:=Af w5 (.cells #[.int .i64 p.kind,.string ⟨p.attr.toArray⟩,.string ⟨p.value.toArray⟩,.string ⟨p.first.toArray⟩,.string ⟨p.last.toArray⟩,.slice e5 p.any.length f5,.slice e6 p.parts.length f6] 36);have C1:=Whole.made w5 36 #[.int .i64 p.kind,.string ⟨p.attr.toArray⟩,.string ⟨p.value.toArray⟩,.string ⟨p.first.toArray⟩,.string ⟨p.last.toArray⟩,.slice e5 p.any.length f5,.slice e6 p.parts.length f6];have C5:=Am.keep (ok':=λg=>C<=g/\(Value.slice va j vc).ownBlock≠some g) (C8.call A7) (aA _) (λ_ _ _=>rfl) (λg _ h=>⟨aX A4 h,λe=>by have h2:=G0 g e;have h:wr.drew.heap.size<=g:=h;omega⟩);have D3:=(C2.call A7).keep (ok':=λg=>C<=g/\(Value.slice va j vc).ownBlock≠some g) (aA _) (λ_ _ _=>rfl) (λg _ h=>⟨aX A4 h,λe=>by have h2:=G0 g e;have h:wr.drew.heap.size<=g:=h;omega⟩);have C3:=Lu.oneFi (n:=d+1) (rok:=λ_=>True) (x:=p) C1 trivial C5 D3;replace A0:=A0.call A7;replace B:=B.call A7;replace E:=E.call A7;replace A:=A.call A7;replace y:=y.call A7;replace A5:=A5.trans (A7.mono A5.size);have J:Below wr.drew.heap.size wr.drew (w5.alloc (.cells #[.int .i64 p.kind,.string ⟨p.attr.toArray⟩,.string ⟨p.value.toArray⟩,.string ⟨p.first.toArray⟩,.string ⟨p.last.toArray⟩,.slice e5 p.any.length f5,.slice e6 p.parts.length f6] 36)):=t.trans (A7.mono I1);have F4:C<=(w5.alloc (.cells #[.int .i64 p.kind,.string ⟨p.attr.toArray⟩,.string ⟨p.value.toArray⟩,.string ⟨p.first.toArray⟩,.string ⟨p.last.toArray⟩,.slice e5 p.any.length f5,.slice e6 p.parts.length f6] 36)).heap.size:=aX A4 J.size;clear C8 C2 C5 D3 C1 H6;refine N.out _ _ ?_ (λa=>?_)
    ·exact⟨Ab tq J,Ab aq J,Ab y0 J,Ab y1 J,Ab y2 J,Ab y3 J,Ab y4 J,Ab y5 J,Ab y6 J⟩
    clear N K
    (try simp only[aD,aC,Act.put,aF,aL,aQ])
    refine BB 9 (by simp only[aN,aS];decide) (by kernel_rfl) (λK N=>?_)
    (try simp only[aD,aC])
    refine Bz (by rfl) ?_;refine Aha (fiG (d+1)) 36 34 underlying34 HI.out hz (by rw[hsz];rfl) (by rw[I3];decide) (by rw[G9];rfl) _ _ (by rfl) (λg=>C<=g) C _ (ps.take j) (by rfl) A0 _ [p] (by rfl) C3 I5 F4 ?_;intro v7 w7 T O E7 F0;have B0:=B.below O G7;have B7:=E.below O H5;have C4:=A.below O H8;have D4:=Am.keep (ok':=λg=>w.heap.size+2<=g/\g≠tb/\g<C) y O.size (λg _ q=>O.block g q.2.2) (λg _ h=>h);replace A5:=A5.trans (O.mono (by omega));have t7:=B0.cell 6;have a7:=B7.cell 6;simp only[aO,aH,aP] at t7 a7;clear A0 C3 B E A y E7 F0;refine N.out _ _ ?_ (λa=>?_)
    ·exact⟨t7,a7,(O.cell (p:=⟨g,o+j*7,none⟩) B4).trans (Ab y0 J),(O.cell (p:=⟨g,o+j*7+1,none⟩) B4).trans (Ab y1 J),(O.cell (p:=⟨g,o+j*7+2,none⟩) B4).trans (Ab y2 J),(O.cell (p:=⟨g,o+j*7+3,none⟩) B4).trans (Ab y3 J),(O.cell (p:=⟨g,o+j*7+4,none⟩) B4).trans (Ab y4 J),(O.cell (p:=⟨g,o+j*7+5,none⟩) B4).trans (Ab y5 J),(O.cell (p:=⟨g,o+j*7+6,none⟩) B4).trans (Ab y6 J)⟩
    clear N K
    (try simp only[Act.put,aF,aL,aQ])
    refine Ai 10 ?_ (by simp only[aN,aS];decide) (by kernel_rfl) (λ_ _ _ h=>h) (by rfl) ?_ a ?_
    rotate_left
    ·intro W G;(try simp only[aD,aC]);(try go_split_ands);go_simp;(try with_reducible rfl)
    (try simp only[aD,aC,Act.put,aF,aL,aQ])
    refine EX (by kernel_rfl) ?_;simp only[bW,bI];clear a;rw[<-H7] at T;obtain⟨vb,vd,rfl⟩:=T.form;have D5:(ps.take (j+1)).length=j+1:=by rw[ar];omega
    rw[D5] at T
    try rw[D5]
    have t8:=B0.thaw 6;have C7:=B0.put 6 (.slice vb (j+1) vd);simp only[aF,aL,aQ] at C7;have E8:=B7.other (p:=⟨tb,6,none⟩) (by show w.heap.size≠tb;omega) (.slice vb (j+1) vd);have F3:=C4.other (p:=⟨tb,6,none⟩) (by show w.heap.size+1≠tb;omega) (.slice vb (j+1) vd);have D6:=T.kept ((BH.refl w7.heap.size tb w7).setCell 6 (.slice vb (j+1) vd)) (aA _) G7;have F1:Am (λg=>w.heap.size+2<=g/\g≠tb/\g<C) (w7.setCell ⟨tb,6,none⟩ (.slice vb (j+1) vd)) (.slice F u sc) an:=Am.keep D4 (by simp[World.setCell]) (λg _ q=>Below.heap_setCell _ _ _ _ q.2.1) (λg _ h=>h);have H4:=A5.setCell (p:=⟨tb,6,none⟩) (show w.heap.size<=tb by omega) (.slice vb (j+1) vd);clear B0 B7 C4 T D4 A5 y0 y1 y2 y3 y4 y5 y6;go_wp2_with fail;go_roundw
    case rel=>exact⟨j+1,_,by omega,by go_num,C7,D6,F1,E8,F3,H4,by have:=O.size;simp[World.setCell];omega⟩
    case measure=>simp[intOf];omega
   ·have F2:j=PL:=by omega
    subst F2;rw[B1.out] at s;obtain⟨m0,m1,m2,m3,m4,m5,m6⟩:=r.seven;obtain⟨k0,k1,k2,k3,k4,k5,k6⟩:=M.seven;obtain⟨t0,t1,t2,t3,t4,t5,t6⟩:=M.thaws;have B5:=M.put7 (.int .i64 kd) (.string ⟨l.toArray⟩) (.string ⟨I.toArray⟩) (.string ⟨H.toArray⟩) (.string ⟨ls.toArray⟩) (.slice F u sc) (.slice va j vc);have G2:=s.fis;have D2:Am (λg=>w.heap.size<=g) (sev wr (w.heap.size+1) (.int .i64 kd) (.string ⟨l.toArray⟩) (.string ⟨I.toArray⟩) (.string ⟨H.toArray⟩) (.string ⟨ls.toArray⟩) (.slice F u sc) (.slice va j vc)) (.slice F u sc) an:=Am.keep A6 (Ey (Below.refl (w.heap.size+1) wr) (aA _) (.int .i64 kd) (.string ⟨l.toArray⟩) (.string ⟨I.toArray⟩) (.string ⟨H.toArray⟩) (.string ⟨ls.toArray⟩) (.slice F u sc) (.slice va j vc)).size (λg U q=>by
     have q:w.heap.size+2<=g/\g≠tb/\g<C:=q;unfold sev;rw[Below.heap_setCell _ _ _ _ (by show g≠w.heap.size+1;omega),Below.heap_setCell _ _ _ _ (by show g≠w.heap.size+1;omega),Below.heap_setCell _ _ _ _ (by show g≠w.heap.size+1;omega),Below.heap_setCell _ _ _ _ (by show g≠w.heap.size+1;omega),Below.heap_setCell _ _ _ _ (by show g≠w.heap.size+1;omega),Below.heap_setCell _ _ _ _ (by show g≠w.heap.size+1;omega),Below.heap_setCell _ _ _ _ (by show g≠w.heap.size+1;omega)]) (λg _ h=>by
     have h:w.heap.size+2<=g/\g≠tb/\g<C:=h;show w.heap.size<=g
     omega)
    have D0:Bl (n+1) (λg=>w.heap.size<=g) (sev wr (w.heap.size+1) (.int .i64 kd) (.string ⟨l.toArray⟩) (.string ⟨I.toArray⟩) (.string ⟨H.toArray⟩) (.string ⟨ls.toArray⟩) (.slice F u sc) (.slice va j vc)) (.slice va j vc) ps:=G2.keep (Ey (Below.refl (w.heap.size+1) wr) (aA _) (.int .i64 kd) (.string ⟨l.toArray⟩) (.string ⟨I.toArray⟩) (.string ⟨H.toArray⟩) (.string ⟨ls.toArray⟩) (.slice F u sc) (.slice va j vc)).size (λg U q=>by
     have q:C<=g:=q;unfold sev;rw[Below.heap_setCell _ _ _ _ (by show g≠w.heap.size+1;omega),Below.heap_setCell _ _ _ _ (by show g≠w.heap.size+1;omega),Below.heap_setCell _ _ _ _ (by show g≠w.heap.size+1;omega),Below.heap_setCell _ _ _ _ (by show g≠w.heap.size+1;omega),Below.heap_setCell _ _ _ _ (by show g≠w.heap.size+1;omega),Below.heap_setCell _ _ _ _ (by show g≠w.heap.size+1;omega),Below.heap_setCell _ _ _ _ (by show g≠w.heap.size+1;omega)]) (λg _ h=>by
     have h:C<=g:=h;show w.heap.size<=g
     omega)
    have E6:=Ey hb (iE _) (.int .i64 kd) (.string ⟨l.toArray⟩) (.string ⟨I.toArray⟩) (.string ⟨H.toArray⟩) (.string ⟨ls.toArray⟩) (.slice F u sc) (.slice va j vc);have F6:Hid (FiV (n+1) (λg=>w.heap.size<=g) (sev wr (w.heap.size+1) (.int .i64 kd) (.string ⟨l.toArray⟩) (.string ⟨I.toArray⟩) (.string ⟨H.toArray⟩) (.string ⟨ls.toArray⟩) (.slice F u sc) (.slice va j vc)) (.agg #[kd,l,I,H,ls,.slice F u sc,.slice va j vc]) (.mk kd l I H ls an ps)):=hZ9 ⟨_,_,rfl,D2,D0⟩;unfold sev at B5 E6 F6;have I0:=hZ9 B5;have H9:=hZ9 E6;clear B5 E6 D2 D0 G2 IH E4 E3 E2 B1 s A6 r S;go_wp2_with fail
    (try simp only[Exit.inBlock,Exit.then])
    generalize ((((((((((((((wr).setCell ⟨w.heap.size+1,0,none⟩ (.int .i64 kd))).setCell ⟨w.heap.size+1,1,none⟩ (.string ⟨l.toArray⟩))).setCell ⟨w.heap.size+1,2,none⟩ (.string ⟨I.toArray⟩))).setCell ⟨w.heap.size+1,3,none⟩ (.string ⟨H.toArray⟩))).setCell ⟨w.heap.size+1,4,none⟩ (.string ⟨ls.toArray⟩))).setCell ⟨w.heap.size+1,5,none⟩ (.slice F u sc))).setCell ⟨w.heap.size+1,6,none⟩ (.slice va j vc))=w6 at*;have F5:=I0.out;obtain⟨r0,r1,r2,r3,r4,r5,r6⟩:=F5.seven;refine bodyPost_ret (v:=.agg #[kd,l,I,H,ls,.slice F u sc,.slice va j vc]) ?_ rfl ⟨_,rfl,F6.out,H9.out⟩;rw[BO rfl];go_simp)
