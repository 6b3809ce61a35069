/- The walks of the law's Theirs and Ours: a filter, copied. Conditions: as stated. -/
import Derived.Test.YtgngjfjaelgaeaaGreatDoorJCqa
set_option maxRecDepth 100000
set_option maxHeartbeats 16000000
namespace Go.Proofs.YtgngjfjaelgaeaaGreatDoor
open Go.Proofs.Tryz
open Go.RowKit
open FiS (Fi)
attribute [local go_sem ↓] Go.wp_at_zero Go.wp_at_succ
theorem Own.inRow {w:World} {B:Nat} {v:Value} {xs:List (List UInt8)} (h:Own w B v xs) (ok:Nat->Prop) (a:∀g,B<=g->g<w.heap.size->ok g):Aj ok w v xs:=h.strs.strsP ok (fun g b=>a g (World.ownsRow.lt h g b).1 (World.ownsRow.lt h g b).2)
theorem Io {w:World} {o:Oper} {a:Act} {K:Act->World->Prop} {Q:Exit->Act->World->Prop} (s x:Operand)
  (z:o.op=.call { callee:=.builtin .append,args:=#[s,x],argTypes:=#[23,23] })
  (B:Nat) (v:Value) (xs:List (List UInt8)) (C:a.eval s=v) (b:Own w B v xs) (u:Value) (ys:List (List UInt8)) (hx:a.eval x=u) (m:Ah w u ys)
  (I:xs.length+ys.length<=1000000000) (hB:B<=w.heap.size)
  (h:∀l w',Own w' B l (xs++ys)->Below B w w'->w.grownBy w' v.ownBlock->K (a.put o.dst l) w'):Oper.wp prog o a w K Q:=by
 obtain ⟨A,c,rfl,hc,d⟩:=m;obtain ⟨i0,F,n,r,p⟩:=info_parts Hq;cases A with
 | none=>
  rcases d with rfl | ⟨g,o,e,_⟩
  · have i:=JZ o.type b c;unfold Oper.wp;simp [execOp,z,resolve,invoke,builtin,C,hx,i,Result.andThen];exact h v w (by rw [bJ];exact b) (Below.refl B w) ⟨rfl,rfl,rfl,aA _,fun _ _ _=>rfl⟩
  · cases e
 | some E=>
  refine wp_append_own w s x _ z B 9 i0 (.string ⟨#[]⟩) 1 16 underlying23 F n r p rfl (by decide) v xs.length (xs.map Ac) C b E ys.length c (ys.map Ac) hx (by simp)
   (fun j y q=>?_) (fun y H=>?_) (by unfold maxLen;omega) (by omega) hB (fun l w' h1 h2 _=>h l w' ?_ ?_ h2)
  · rcases d with rfl | ⟨g,o,e,J,hcell⟩
    · simp at q
    · cases e;rw [bZ] at q;obtain ⟨t,G,rfl⟩:=bH.1 q;have f:(⟨g,o,Option.none⟩:Addr).add j=⟨g,o+j,Option.none⟩:=by unfold Addr.add;split <;> simp_all
      rw [f];exact hcell j t G
  · obtain ⟨t,_,rfl⟩:=bD.1 H;rfl
  · unfold Own;rw [bP,aT];exact h1
  · exact (Below.refl B w).grown h2 hB (fun k hk=>(World.ownsRow.lt b k hk).1)
theorem Own.apartG {w:World} {B tb:Nat} {v:Value} {xs:List (List UInt8)} {T:TypeId} {cs:Array Value} (h:Own w B v xs) (a:Whole w tb T cs) (b:T≠9):v.ownBlock≠some tb:=fun e=>by obtain ⟨c,fz,h2⟩:=Lib.ownsRow_kind h tb e;unfold Whole at a;rw [a] at h2;cases h2;exact b rfl
theorem Whole.grownO {w w':World} {B tb:Nat} {v:Value} {xs:List (List UInt8)} {T:TypeId} {cs:Array Value} (h:Whole w tb T cs) (a:Own w B v xs) (b:T≠9) (c:w.grownBy w' v.ownBlock):Whole w' tb T cs:=
 (c.block tb h.lt (fun e=>Own.apartG a h b e.symm)).trans h
theorem CC.filters {n:Nat} {T:TypeId} {C:Nat} {w:World} {v:Value} {xs:List Fi} (h:CC (fiG n) T (fun g=>C<=g) w C v xs):BC (n+1) (fun g=>C<=g) w v xs:=h.fis
def XS (n:Nat):Prop:=∀(x:Fi) (v:Value) (w:World),Dh n w v x->FiS.wdF 20000 x->Calls prog 20 #[v] w fun e w'=>∃a,e=.returned a/\FiV (n+1) (fun g=>w.heap.size<=g) w' a x/\Below w.heap.size w w'
theorem PS:∀n,XS n:=Fg (fun n IH=>by
 unfold XS at*;intro x v w h F7;obtain ⟨kd,l,I,H,ls,an,ps⟩:=x;obtain ⟨a5,c5,a6,c6,hv,B9,D8,B8⟩:=FiV.parts h;have hv:v=.agg #[.int .i64 kd,.string ⟨l.toArray⟩,.string ⟨I.toArray⟩,.string ⟨H.toArray⟩,.string ⟨ls.toArray⟩,.slice a5 an.length c5,.slice a6 ps.length c6]:=hv;subst hv;have B9:Ah w (.slice a5 an.length c5) an:=B9;have D8:ps.length<=c6:=D8;have B8:BC n (fun _=>True) w (.slice a6 ps.length c6) ps:=B8;rw [FiS.wdF] at F7;obtain ⟨_,H3,_,G9,F9⟩:=F7;have E4:=hZ9 (FiS.Ho.1 F9);clear F9;have E6:=hZ9 (fun j (hj:j<ps.length)=>aX hj);have B1:Hid (ps.take ps.length=ps):=hZ9 (bE);obtain ⟨u,A5⟩:∃m,an.length=m:=⟨_,rfl⟩
 obtain ⟨PL,D7⟩:∃m,ps.length=m:=⟨_,rfl⟩
 have I8:=hZ9 A5;have F8:=hZ9 D7;rw [A5] at B9;rw [D7] at D8 B8
 try rw [A5]
 try rw [D7]
 rw [D7] at B1 G9;rw [A5] at H3;have E0:=hZ9 (fun j (hj:j<ps.length)=>BC.at B8 j hj);have F6:=Af w (.cells #[.int .i64 kd,.string ⟨l.toArray⟩,.string ⟨I.toArray⟩,.string ⟨H.toArray⟩,.string ⟨ls.toArray⟩,.slice a5 u c5,.slice a6 PL c6] 26);have E5:=Af (w.alloc (.cells #[.int .i64 kd,.string ⟨l.toArray⟩,.string ⟨I.toArray⟩,.string ⟨H.toArray⟩,.string ⟨ls.toArray⟩,.slice a5 u c5,.slice a6 PL c6] 26)) (.cells #[.int .i64 0,.string ⟨#[]⟩,.string ⟨#[]⟩,.string ⟨#[]⟩,.string ⟨#[]⟩,.slice none 0 0,.slice none 0 0] 36);have e1:(w.alloc (.cells #[.int .i64 kd,.string ⟨l.toArray⟩,.string ⟨I.toArray⟩,.string ⟨H.toArray⟩,.string ⟨ls.toArray⟩,.slice a5 u c5,.slice a6 PL c6] 26)).heap.size=w.heap.size+1:=by simp
 have B2:=F6.trans (E5.mono (by rw [e1];omega));have S:=(Whole.made w 26 #[.int .i64 kd,.string ⟨l.toArray⟩,.string ⟨I.toArray⟩,.string ⟨H.toArray⟩,.string ⟨ls.toArray⟩,.slice a5 u c5,.slice a6 PL c6]).call E5;have M:Whole ((w.alloc (.cells #[.int .i64 kd,.string ⟨l.toArray⟩,.string ⟨I.toArray⟩,.string ⟨H.toArray⟩,.string ⟨ls.toArray⟩,.slice a5 u c5,.slice a6 PL c6] 26)).alloc (.cells #[.int .i64 0,.string ⟨#[]⟩,.string ⟨#[]⟩,.string ⟨#[]⟩,.string ⟨#[]⟩,.slice none 0 0,.slice none 0 0] 36)) (w.heap.size+1) 36 #[.int .i64 0,.string ⟨#[]⟩,.string ⟨#[]⟩,.string ⟨#[]⟩,.string ⟨#[]⟩,.slice none 0 0,.slice none 0 0]:=by
  have:=Whole.made (w.alloc (.cells #[.int .i64 kd,.string ⟨l.toArray⟩,.string ⟨I.toArray⟩,.string ⟨H.toArray⟩,.string ⟨ls.toArray⟩,.slice a5 u c5,.slice a6 PL c6] 26)) 36 #[.int .i64 0,.string ⟨#[]⟩,.string ⟨#[]⟩,.string ⟨#[]⟩,.string ⟨#[]⟩,.slice none 0 0,.slice none 0 0]
  rwa [e1] at this
 have V:=B9.call (w':=(w.alloc (.cells #[.int .i64 kd,.string ⟨l.toArray⟩,.string ⟨I.toArray⟩,.string ⟨H.toArray⟩,.string ⟨ls.toArray⟩,.slice a5 u c5,.slice a6 PL c6] 26)).alloc (.cells #[.int .i64 0,.string ⟨#[]⟩,.string ⟨#[]⟩,.string ⟨#[]⟩,.string ⟨#[]⟩,.slice none 0 0,.slice none 0 0] 36)) B2 (aA _);have G8:=M.lt;clear h B9 B8 F6 E5 e1 D8;go_enter func20,ntmps20;go_upto_region 1 with fail;generalize (w.alloc (.cells #[.int .i64 kd,.string ⟨l.toArray⟩,.string ⟨I.toArray⟩,.string ⟨H.toArray⟩,.string ⟨ls.toArray⟩,.slice a5 u c5,.slice a6 PL c6] 26)).alloc (.cells #[.int .i64 0,.string ⟨#[]⟩,.string ⟨#[]⟩,.string ⟨#[]⟩,.string ⟨#[]⟩,.slice none 0 0,.slice none 0 0] 36)=w1 at*;go_cut [3] (fun p wd=>∃(tb:Nat) (F:Option Addr) (sc:Nat),p=.pointer (some ⟨tb,0,none⟩)/\w.heap.size+2<=tb/\Whole wd tb 36 #[.int .i64 kd,.string ⟨l.toArray⟩,.string ⟨I.toArray⟩,.string ⟨H.toArray⟩,.string ⟨ls.toArray⟩,.slice F u sc,.slice none 0 0]/\Aj (fun g=>w.heap.size+2<=g/\g≠tb) wd (.slice F u sc) an/\Whole wd w.heap.size 26 #[.int .i64 kd,.string ⟨l.toArray⟩,.string ⟨I.toArray⟩,.string ⟨H.toArray⟩,.string ⟨ls.toArray⟩,.slice a5 u c5,.slice a6 PL c6]/\Whole wd (w.heap.size+1) 36 #[.int .i64 0,.string ⟨#[]⟩,.string ⟨#[]⟩,.string ⟨#[]⟩,.string ⟨#[]⟩,.slice none 0 0,.slice none 0 0]/\Below w.heap.size w wd)
 case first=>
  obtain ⟨q0,q1,q2,q3,q4,q5,q6⟩:=S.seven;have J0:=Af2;have f:Below w1.heap.size w1 w1.drew:=(Below.refl _ _).drew;go_wp2_with fail;refine FU 16 (fun W=>W.cell? ⟨w.heap.size,0,none⟩=some (.int .i64 kd)/\W.cell? ⟨w.heap.size,1,none⟩=some (.string ⟨l.toArray⟩)/\W.cell? ⟨w.heap.size,2,none⟩=some (.string ⟨I.toArray⟩)/\W.cell? ⟨w.heap.size,3,none⟩=some (.string ⟨H.toArray⟩)/\W.cell? ⟨w.heap.size,4,none⟩=some (.string ⟨ls.toArray⟩)/\W.cell? ⟨w.heap.size,5,none⟩=some (.slice a5 u c5)) (by kernel_rfl) (by kernel_rfl) ⟨q0,q1,q2,q3,q4,q5⟩ (fun a=>?_);refine Ag 0 ?_ (by simp only [aO,aS];decide) (by kernel_rfl) (fun _ _ _ h=>h) (by rfl) ?_ a ?_
  rotate_left
  · intro W G;(try simp only [aB]);(try go_split_ands);go_simp;(try with_reducible rfl)
  (try simp only [aB,Act.put,aF,aN,aQ])
  refine Ag 1 ?_ (by simp only [aO,aS];decide) (by kernel_rfl) (fun _ _ _ h=>h) (by rfl) ?_ a ?_
  rotate_left
  · intro W G;(try simp only [aD,aB]);(try go_split_ands);go_simp;(try with_reducible rfl)
  (try simp only [aD,aB,Act.put,aF,aN,aQ])
  refine Ag 2 ?_ (by simp only [aO,aS];decide) (by kernel_rfl) (fun _ _ _ h=>h) (by rfl) ?_ a ?_
  rotate_left
  · intro W G;(try simp only [aD,aB]);(try go_split_ands);go_simp;(try with_reducible rfl)
  (try simp only [aD,aB,Act.put,aF,aN,aQ])
  refine Ag 3 ?_ (by simp only [aO,aS];decide) (by kernel_rfl) (fun _ _ _ h=>h) (by rfl) ?_ a ?_
  rotate_left
  · intro W G;(try simp only [aD,aB]);(try go_split_ands);go_simp;(try with_reducible rfl)
  (try simp only [aD,aB,Act.put,aF,aN,aQ])
  refine Ag 4 ?_ (by simp only [aO,aS];decide) (by kernel_rfl) (fun _ _ _ h=>h) (by rfl) ?_ a ?_
  rotate_left
  · intro W G;(try simp only [aD,aB]);(try go_split_ands);go_simp;(try with_reducible rfl)
  (try simp only [aD,aB,Act.put,aF,aN,aQ])
  refine Ag 5 ?_ (by simp only [aO,aS];decide) (by kernel_rfl) (fun _ _ _ h=>h) (by rfl) ?_ a ?_
  rotate_left
  · intro W G;(try simp only [aD,aB]);(try go_split_ands);go_simp;(try with_reducible rfl)
  (try simp only [aD,aB,Act.put,aF,aN,aQ])
  refine Ag 6 ?_ (by simp only [aO,aS];decide) (by kernel_rfl) (fun _ _ _ h=>h) (by rfl) ?_ a ?_
  rotate_left
  · intro W G;(try simp only [aD,aB]);(try go_split_ands);go_simp;(try with_reducible rfl)
  (try simp only [aD,aB,Act.put,aF,aN,aQ])
  refine Ag 7 ?_ (by simp only [aO,aS];decide) (by kernel_rfl) (fun _ _ _ h=>h) (by rfl) ?_ a ?_
  rotate_left
  · intro W G;(try simp only [aD,aB]);(try go_split_ands);go_simp;(try with_reducible rfl)
  (try simp only [aD,aB,Act.put,aF,aN,aQ])
  refine Ag 8 ?_ (by simp only [aO,aS];decide) (by kernel_rfl) (fun _ _ _ h=>h) (by rfl) ?_ a ?_
  rotate_left
  · intro W G;(try simp only [aD,aB]);(try go_split_ands);go_simp;(try with_reducible rfl)
  (try simp only [aD,aB,Act.put,aF,aN,aQ])
  refine Ag 9 ?_ (by simp only [aO,aS];decide) (by kernel_rfl) (fun _ _ _ h=>h) (by rfl) ?_ a ?_
  rotate_left
  · intro W G;(try simp only [aD,aB]);(try go_split_ands);go_simp;(try with_reducible rfl)
  (try simp only [aD,aB,Act.put,aF,aN,aQ])
  refine Ag 11 ?_ (by simp only [aO,aS];decide) (by kernel_rfl) (fun _ _ _ h=>h) (by rfl) ?_ a ?_
  rotate_left
  · intro W G;(try simp only [aD,aB]);(try go_split_ands);go_simp;(try with_reducible rfl)
  (try simp only [aD,aB,Act.put,aF,aN,aQ])
  refine Ag 12 ?_ (by simp only [aO,aS];decide) (by kernel_rfl) (fun _ _ _ h=>h) (by rfl) ?_ a ?_
  rotate_left
  · intro W G;(try simp only [aD,aB]);(try go_split_ands);go_simp;(try with_reducible rfl)
  (try simp only [aD,aB,Act.put,aF,aN,aQ])
  refine OE 10 15 (by simp only [aO,aS];decide) (by simp only [aO,aS];decide) (by kernel_rfl) (fun K N=>?_) (fun K N=>?_)
  · (try simp only [aD,aB])
    refine Bo (by rfl) ?_;go_simp;have s:Own (((w1).alloc (.cells #[] 9))).drew w1.heap.size (.slice (some ⟨w1.heap.size,0,none⟩) 0 0) []:=by have:=(Own.made0 (w1)).mono (show w1.heap.size<=(w1).heap.size by exact aA _);exact (by simpa using this:Own (((w1).alloc (.cells #[] 9))) w1.heap.size (.slice (some ⟨w1.heap.size,0,none⟩) 0 0) [])
    replace f:Below w1.heap.size w1 (((w1).alloc (.cells #[] 9))).drew:=((Below.refl _ _:Below w1.heap.size w1 (w1)).trans ((Af w1 _).mono (by exact aA _))).drew;refine N.out _ _ ?_ (fun a=>?_)
    · exact ⟨Ab q0 f,Ab q1 f,Ab q2 f,Ab q3 f,Ab q4 f,Ab q5 f⟩
    clear N K
    (try simp only [aD,aB,Act.put,aF,aN,aQ])
    refine OE 13 15 (by simp only [aO,aS];decide) (by simp only [aO,aS];decide) (by kernel_rfl) (fun K N=>?_) (fun K N=>?_)
    · (try simp only [aD,aB])
      refine Bo (by rfl) ?_;have A1:=V.call f (aA _);have A2:=f.size;refine Io _ _ (by rfl) w1.heap.size _ [] (by rfl) s _ an (by rfl) A1 (by simp;omega) A2 ?_;intro v1 w3 k C0 T;replace k:=Own.nilOf k;replace f:=f.trans C0;obtain ⟨F,sc,rfl⟩:=Own.form k;rw [A5] at k
      try rw [A5]
      clear s T;refine N.out _ _ ?_ (fun a=>?_)
      · exact ⟨Ab q0 f,Ab q1 f,Ab q2 f,Ab q3 f,Ab q4 f,Ab q5 f⟩
      clear N K
      (try simp only [Act.put,aF,aN,aQ])
      refine Ag 14 ?_ (by simp only [aO,aS];decide) (by kernel_rfl) (fun _ _ _ h=>h) (by rfl) ?_ a ?_
      rotate_left
      · intro W G;(try simp only [aD,aB]);(try go_split_ands);go_simp;(try with_reducible rfl)
      (try simp only [aD,aB,Act.put,aF,aN,aQ])
      refine Bq 15 (by simp only [aO,aS];decide) (by kernel_rfl) (fun K N=>?_)
      (try simp only [aD,aB])
      refine Bo (by rfl) ?_;go_simp;have r:Whole (w3.alloc (.cells #[.int .i64 0,.string ⟨#[]⟩,.string ⟨#[]⟩,.string ⟨#[]⟩,.string ⟨#[]⟩,.slice none 0 0,.slice none 0 0] 36)) w3.heap.size 36 #[.int .i64 0,.string ⟨#[]⟩,.string ⟨#[]⟩,.string ⟨#[]⟩,.string ⟨#[]⟩,.slice none 0 0,.slice none 0 0]:=Whole.made w3 36 #[.int .i64 0,.string ⟨#[]⟩,.string ⟨#[]⟩,.string ⟨#[]⟩,.string ⟨#[]⟩,.slice none 0 0,.slice none 0 0];have F0:w1.heap.size<=w3.heap.size:=f.size;replace k:=k.alloc (.cells #[.int .i64 0,.string ⟨#[]⟩,.string ⟨#[]⟩,.string ⟨#[]⟩,.string ⟨#[]⟩,.slice none 0 0,.slice none 0 0] 36);replace f:=f.trans ((Af w3 (.cells #[.int .i64 0,.string ⟨#[]⟩,.string ⟨#[]⟩,.string ⟨#[]⟩,.string ⟨#[]⟩,.slice none 0 0,.slice none 0 0] 36)).mono f.size);obtain ⟨tb,L⟩:∃b,b=w3.heap.size:=⟨_,rfl⟩
      have E1:w1.heap.size<=tb:=by omega
      rw [<-L] at r
      try rw [<-L]
      clear L F0;refine N.out _ _ ?_ (fun a=>?_)
      · exact ⟨Ab q0 f,Ab q1 f,Ab q2 f,Ab q3 f,Ab q4 f,Ab q5 f⟩
      clear N K
      (try simp only [aD,aB,Act.put,aF,aN,aQ])
      refine EL (by kernel_rfl) ?_;simp only [bU,bQ];clear a V;generalize w3.alloc (.cells #[.int .i64 0,.string ⟨#[]⟩,.string ⟨#[]⟩,.string ⟨#[]⟩,.string ⟨#[]⟩,.slice none 0 0,.slice none 0 0] 36)=w4 at*;obtain ⟨m0,m1,m2,m3,m4,m5,m6⟩:=r.seven;obtain ⟨t0,t1,t2,t3,t4,t5,t6⟩:=r.thaws;have P:=S.call f;have R:=M.call f;have C8:=M.lt;have Q:Aj (fun g=>w.heap.size+2<=g/\g≠tb) w4 (.slice F u sc) an:=k.strs.strsP _ (fun g X=>⟨by have:=(World.ownsRow.lt k g X).1;omega,fun e=>Own.apartG k r (by decide) (by rw [X,e])⟩);have A:=r.put7 (.int .i64 kd) (.string ⟨l.toArray⟩) (.string ⟨I.toArray⟩) (.string ⟨H.toArray⟩) (.string ⟨ls.toArray⟩) (.slice F u sc) (.slice none 0 0);have y:=P.other7 (g:=tb) (by omega) (.int .i64 kd) (.string ⟨l.toArray⟩) (.string ⟨I.toArray⟩) (.string ⟨H.toArray⟩) (.string ⟨ls.toArray⟩) (.slice F u sc) (.slice none 0 0);have E:=R.other7 (g:=tb) (by omega) (.int .i64 kd) (.string ⟨l.toArray⟩) (.string ⟨I.toArray⟩) (.string ⟨H.toArray⟩) (.string ⟨ls.toArray⟩) (.slice F u sc) (.slice none 0 0);have B:Aj (fun g=>w.heap.size+2<=g/\g≠tb) (sev w4 tb (.int .i64 kd) (.string ⟨l.toArray⟩) (.string ⟨I.toArray⟩) (.string ⟨H.toArray⟩) (.string ⟨ls.toArray⟩) (.slice F u sc) (.slice none 0 0)) (.slice F u sc) an:=Q.keep (Eg (Below.refl tb w4) (aA _) (.int .i64 kd) (.string ⟨l.toArray⟩) (.string ⟨I.toArray⟩) (.string ⟨H.toArray⟩) (.string ⟨ls.toArray⟩) (.slice F u sc) (.slice none 0 0)).size (fun g X q=>by
       have q:w.heap.size+2<=g/\g≠tb:=q;unfold sev;rw [Below.heap_setCell _ _ _ _ (by show g≠tb;exact q.2),Below.heap_setCell _ _ _ _ (by show g≠tb;exact q.2),Below.heap_setCell _ _ _ _ (by show g≠tb;exact q.2),Below.heap_setCell _ _ _ _ (by show g≠tb;exact q.2),Below.heap_setCell _ _ _ _ (by show g≠tb;exact q.2),Below.heap_setCell _ _ _ _ (by show g≠tb;exact q.2),Below.heap_setCell _ _ _ _ (by show g≠tb;exact q.2)]) (fun g _ h=>h)
      have t:=Eg ((B2.trans (f.mono B2.size))) (show w.heap.size<=tb by omega) (.int .i64 kd) (.string ⟨l.toArray⟩) (.string ⟨I.toArray⟩) (.string ⟨H.toArray⟩) (.string ⟨ls.toArray⟩) (.slice F u sc) (.slice none 0 0);unfold sev at A y E B t;have HF:=hZ9 (dF A (dF B (dF y (dF E t))));have A3:w.heap.size+2<=tb:=by omega
      clear A B y E t Q P R k;go_wp2_with fail;go_meet;exact ⟨tb,F,sc,rfl,A3,HF.out.1,HF.out.2.1,HF.out.2.2.1,HF.out.2.2.2.1,HF.out.2.2.2.2⟩
    · (try simp only [aD,aB])
      refine Bo (by rfl) ?_;go_simp;have r:Whole (((((w1).alloc (.cells #[] 9))).alloc (.cells #[.int .i64 0,.string ⟨#[]⟩,.string ⟨#[]⟩,.string ⟨#[]⟩,.string ⟨#[]⟩,.slice none 0 0,.slice none 0 0] 36))).drew (w1.heap.size+1) 36 #[.int .i64 0,.string ⟨#[]⟩,.string ⟨#[]⟩,.string ⟨#[]⟩,.string ⟨#[]⟩,.slice none 0 0,.slice none 0 0]:=by have:=Whole.made (((w1).alloc (.cells #[] 9))) 36 #[.int .i64 0,.string ⟨#[]⟩,.string ⟨#[]⟩,.string ⟨#[]⟩,.string ⟨#[]⟩,.slice none 0 0,.slice none 0 0];exact (by simpa using this:Whole (((((w1).alloc (.cells #[] 9))).alloc (.cells #[.int .i64 0,.string ⟨#[]⟩,.string ⟨#[]⟩,.string ⟨#[]⟩,.string ⟨#[]⟩,.slice none 0 0,.slice none 0 0] 36))) (w1.heap.size+1) 36 #[.int .i64 0,.string ⟨#[]⟩,.string ⟨#[]⟩,.string ⟨#[]⟩,.string ⟨#[]⟩,.slice none 0 0,.slice none 0 0])
      replace s:Own (((((w1).alloc (.cells #[] 9))).alloc (.cells #[.int .i64 0,.string ⟨#[]⟩,.string ⟨#[]⟩,.string ⟨#[]⟩,.string ⟨#[]⟩,.slice none 0 0,.slice none 0 0] 36))).drew w1.heap.size _ []:=Own.alloc (w:=((w1).alloc (.cells #[] 9))) s (.cells #[.int .i64 0,.string ⟨#[]⟩,.string ⟨#[]⟩,.string ⟨#[]⟩,.string ⟨#[]⟩,.slice none 0 0,.slice none 0 0] 36);replace f:Below w1.heap.size w1 (((((w1).alloc (.cells #[] 9))).alloc (.cells #[.int .i64 0,.string ⟨#[]⟩,.string ⟨#[]⟩,.string ⟨#[]⟩,.string ⟨#[]⟩,.slice none 0 0,.slice none 0 0] 36))).drew:=(((Af w1 _).trans ((Af ((w1).alloc (.cells #[] 9)) _).mono (by simp)))).drew;obtain ⟨tb,L⟩:∃b,b=w1.heap.size+1:=⟨_,rfl⟩
      have E1:w1.heap.size<=tb:=by omega
      rw [<-L] at r
      try rw [<-L]
      clear L;refine N.out _ _ ?_ (fun a=>?_)
      · exact ⟨Ab q0 f,Ab q1 f,Ab q2 f,Ab q3 f,Ab q4 f,Ab q5 f⟩
      clear N K
      (try simp only [aD,aB,Act.put,aF,aN,aQ])
      refine Bq 13 (by simp only [aO,aS];decide) (by kernel_rfl) (fun K N=>?_)
      (try simp only [aD,aB])
      refine Bo (by rfl) ?_;have A1:=V.call f (aA _);have A2:=f.size;refine Io _ _ (by rfl) w1.heap.size _ [] (by rfl) s _ an (by rfl) A1 (by simp;omega) A2 ?_;intro v1 w3 k C0 T;replace k:=Own.nilOf k;replace r:=r.grownO s (by decide) T;replace f:=f.trans C0;obtain ⟨F,sc,rfl⟩:=Own.form k;rw [A5] at k
      try rw [A5]
      clear s T;refine N.out _ _ ?_ (fun a=>?_)
      · exact ⟨Ab q0 f,Ab q1 f,Ab q2 f,Ab q3 f,Ab q4 f,Ab q5 f⟩
      clear N K
      (try simp only [Act.put,aF,aN,aQ])
      refine Ag 14 ?_ (by simp only [aO,aS];decide) (by kernel_rfl) (fun _ _ _ h=>h) (by rfl) ?_ a ?_
      rotate_left
      · intro W G;(try simp only [aD,aB]);(try go_split_ands);go_simp;(try with_reducible rfl)
      (try simp only [aD,aB,Act.put,aF,aN,aQ])
      refine EL (by kernel_rfl) ?_;simp only [bU,bQ];clear a V;obtain ⟨w4,E3⟩:∃x,x=w3:=⟨_,rfl⟩
      subst E3;obtain ⟨m0,m1,m2,m3,m4,m5,m6⟩:=r.seven;obtain ⟨t0,t1,t2,t3,t4,t5,t6⟩:=r.thaws;have P:=S.call f;have R:=M.call f;have C8:=M.lt;have Q:Aj (fun g=>w.heap.size+2<=g/\g≠tb) w4 (.slice F u sc) an:=k.strs.strsP _ (fun g X=>⟨by have:=(World.ownsRow.lt k g X).1;omega,fun e=>Own.apartG k r (by decide) (by rw [X,e])⟩);have A:=r.put7 (.int .i64 kd) (.string ⟨l.toArray⟩) (.string ⟨I.toArray⟩) (.string ⟨H.toArray⟩) (.string ⟨ls.toArray⟩) (.slice F u sc) (.slice none 0 0);have y:=P.other7 (g:=tb) (by omega) (.int .i64 kd) (.string ⟨l.toArray⟩) (.string ⟨I.toArray⟩) (.string ⟨H.toArray⟩) (.string ⟨ls.toArray⟩) (.slice F u sc) (.slice none 0 0);have E:=R.other7 (g:=tb) (by omega) (.int .i64 kd) (.string ⟨l.toArray⟩) (.string ⟨I.toArray⟩) (.string ⟨H.toArray⟩) (.string ⟨ls.toArray⟩) (.slice F u sc) (.slice none 0 0);have B:Aj (fun g=>w.heap.size+2<=g/\g≠tb) (sev w4 tb (.int .i64 kd) (.string ⟨l.toArray⟩) (.string ⟨I.toArray⟩) (.string ⟨H.toArray⟩) (.string ⟨ls.toArray⟩) (.slice F u sc) (.slice none 0 0)) (.slice F u sc) an:=Q.keep (Eg (Below.refl tb w4) (aA _) (.int .i64 kd) (.string ⟨l.toArray⟩) (.string ⟨I.toArray⟩) (.string ⟨H.toArray⟩) (.string ⟨ls.toArray⟩) (.slice F u sc) (.slice none 0 0)).size (fun g X q=>by
       have q:w.heap.size+2<=g/\g≠tb:=q;unfold sev;rw [Below.heap_setCell _ _ _ _ (by show g≠tb;exact q.2),Below.heap_setCell _ _ _ _ (by show g≠tb;exact q.2),Below.heap_setCell _ _ _ _ (by show g≠tb;exact q.2),Below.heap_setCell _ _ _ _ (by show g≠tb;exact q.2),Below.heap_setCell _ _ _ _ (by show g≠tb;exact q.2),Below.heap_setCell _ _ _ _ (by show g≠tb;exact q.2),Below.heap_setCell _ _ _ _ (by show g≠tb;exact q.2)]) (fun g _ h=>h)
      have t:=Eg ((B2.trans (f.mono B2.size))) (show w.heap.size<=tb by omega) (.int .i64 kd) (.string ⟨l.toArray⟩) (.string ⟨I.toArray⟩) (.string ⟨H.toArray⟩) (.string ⟨ls.toArray⟩) (.slice F u sc) (.slice none 0 0);unfold sev at A y E B t;have HF:=hZ9 (dF A (dF B (dF y (dF E t))));have A3:w.heap.size+2<=tb:=by omega
      clear A B y E t Q P R k;go_wp2_with fail;go_meet;exact ⟨tb,F,sc,rfl,A3,HF.out.1,HF.out.2.1,HF.out.2.2.1,HF.out.2.2.2.1,HF.out.2.2.2.2⟩
  · (try simp only [aD,aB])
    refine Bo (by rfl) ?_;go_simp;have r:Whole (((w1).alloc (.cells #[.int .i64 0,.string ⟨#[]⟩,.string ⟨#[]⟩,.string ⟨#[]⟩,.string ⟨#[]⟩,.slice none 0 0,.slice none 0 0] 36))).drew (w1.heap.size) 36 #[.int .i64 0,.string ⟨#[]⟩,.string ⟨#[]⟩,.string ⟨#[]⟩,.string ⟨#[]⟩,.slice none 0 0,.slice none 0 0]:=by have:=Whole.made (w1) 36 #[.int .i64 0,.string ⟨#[]⟩,.string ⟨#[]⟩,.string ⟨#[]⟩,.string ⟨#[]⟩,.slice none 0 0,.slice none 0 0];exact (by simpa using this:Whole (((w1).alloc (.cells #[.int .i64 0,.string ⟨#[]⟩,.string ⟨#[]⟩,.string ⟨#[]⟩,.string ⟨#[]⟩,.slice none 0 0,.slice none 0 0] 36))) (w1.heap.size) 36 #[.int .i64 0,.string ⟨#[]⟩,.string ⟨#[]⟩,.string ⟨#[]⟩,.string ⟨#[]⟩,.slice none 0 0,.slice none 0 0])
    have Z:Below w1.heap.size w1 (((w1).alloc (.cells #[.int .i64 0,.string ⟨#[]⟩,.string ⟨#[]⟩,.string ⟨#[]⟩,.string ⟨#[]⟩,.slice none 0 0,.slice none 0 0] 36))):=Af w1 _;replace f:Below w1.heap.size w1 (((w1).alloc (.cells #[.int .i64 0,.string ⟨#[]⟩,.string ⟨#[]⟩,.string ⟨#[]⟩,.string ⟨#[]⟩,.slice none 0 0,.slice none 0 0] 36))).drew:=Z.drew;obtain ⟨tb,L⟩:∃b,b=w1.heap.size:=⟨_,rfl⟩
    have E1:w1.heap.size<=tb:=by omega
    rw [<-L] at r
    try rw [<-L]
    clear L;refine N.out _ _ ?_ (fun a=>?_)
    · exact ⟨Ab q0 f,Ab q1 f,Ab q2 f,Ab q3 f,Ab q4 f,Ab q5 f⟩
    clear N K
    (try simp only [aD,aB,Act.put,aF,aN,aQ])
    refine Bq 10 (by simp only [aO,aS];decide) (by kernel_rfl) (fun K N=>?_)
    (try simp only [aD,aB])
    refine Bo (by rfl) ?_;go_simp;have s:Own (((((w1).alloc (.cells #[.int .i64 0,.string ⟨#[]⟩,.string ⟨#[]⟩,.string ⟨#[]⟩,.string ⟨#[]⟩,.slice none 0 0,.slice none 0 0] 36))).alloc (.cells #[] 9))).drew w1.heap.size (.slice (some ⟨w1.heap.size+1,0,none⟩) 0 0) []:=by have:=(Own.made0 (((w1).alloc (.cells #[.int .i64 0,.string ⟨#[]⟩,.string ⟨#[]⟩,.string ⟨#[]⟩,.string ⟨#[]⟩,.slice none 0 0,.slice none 0 0] 36)))).mono (show w1.heap.size<=(((w1).alloc (.cells #[.int .i64 0,.string ⟨#[]⟩,.string ⟨#[]⟩,.string ⟨#[]⟩,.string ⟨#[]⟩,.slice none 0 0,.slice none 0 0] 36))).heap.size by simp);exact (by simpa using this:Own (((((w1).alloc (.cells #[.int .i64 0,.string ⟨#[]⟩,.string ⟨#[]⟩,.string ⟨#[]⟩,.string ⟨#[]⟩,.slice none 0 0,.slice none 0 0] 36))).alloc (.cells #[] 9))) w1.heap.size (.slice (some ⟨w1.heap.size+1,0,none⟩) 0 0) [])
    replace r:Whole (((((w1).alloc (.cells #[.int .i64 0,.string ⟨#[]⟩,.string ⟨#[]⟩,.string ⟨#[]⟩,.string ⟨#[]⟩,.slice none 0 0,.slice none 0 0] 36))).alloc (.cells #[] 9))).drew tb 36 #[.int .i64 0,.string ⟨#[]⟩,.string ⟨#[]⟩,.string ⟨#[]⟩,.string ⟨#[]⟩,.slice none 0 0,.slice none 0 0]:=Whole.call (w:=((w1).alloc (.cells #[.int .i64 0,.string ⟨#[]⟩,.string ⟨#[]⟩,.string ⟨#[]⟩,.string ⟨#[]⟩,.slice none 0 0,.slice none 0 0] 36))) r ((Af ((w1).alloc (.cells #[.int .i64 0,.string ⟨#[]⟩,.string ⟨#[]⟩,.string ⟨#[]⟩,.string ⟨#[]⟩,.slice none 0 0,.slice none 0 0] 36)) _).drew);replace f:Below w1.heap.size w1 (((((w1).alloc (.cells #[.int .i64 0,.string ⟨#[]⟩,.string ⟨#[]⟩,.string ⟨#[]⟩,.string ⟨#[]⟩,.slice none 0 0,.slice none 0 0] 36))).alloc (.cells #[] 9))).drew:=((Z:Below w1.heap.size w1 (((w1).alloc (.cells #[.int .i64 0,.string ⟨#[]⟩,.string ⟨#[]⟩,.string ⟨#[]⟩,.string ⟨#[]⟩,.slice none 0 0,.slice none 0 0] 36)))).trans ((Af ((w1).alloc (.cells #[.int .i64 0,.string ⟨#[]⟩,.string ⟨#[]⟩,.string ⟨#[]⟩,.string ⟨#[]⟩,.slice none 0 0,.slice none 0 0] 36)) _).mono (by simp))).drew;refine N.out _ _ ?_ (fun a=>?_)
    · exact ⟨Ab q0 f,Ab q1 f,Ab q2 f,Ab q3 f,Ab q4 f,Ab q5 f⟩
    clear N K
    (try simp only [aD,aB,Act.put,aF,aN,aQ])
    refine Bq 13 (by simp only [aO,aS];decide) (by kernel_rfl) (fun K N=>?_)
    (try simp only [aD,aB])
    refine Bo (by rfl) ?_;have A1:=V.call f (aA _);have A2:=f.size;refine Io _ _ (by rfl) w1.heap.size _ [] (by rfl) s _ an (by rfl) A1 (by simp;omega) A2 ?_;intro v1 w3 k C0 T;replace k:=Own.nilOf k;replace r:=r.grownO s (by decide) T;replace f:=f.trans C0;obtain ⟨F,sc,rfl⟩:=Own.form k;rw [A5] at k
    try rw [A5]
    clear s T;refine N.out _ _ ?_ (fun a=>?_)
    · exact ⟨Ab q0 f,Ab q1 f,Ab q2 f,Ab q3 f,Ab q4 f,Ab q5 f⟩
    clear N K
    (try simp only [Act.put,aF,aN,aQ])
    refine Ag 14 ?_ (by simp only [aO,aS];decide) (by kernel_rfl) (fun _ _ _ h=>h) (by rfl) ?_ a ?_
    rotate_left
    · intro W G;(try simp only [aD,aB]);(try go_split_ands);go_simp;(try with_reducible rfl)
    (try simp only [aD,aB,Act.put,aF,aN,aQ])
    refine EL (by kernel_rfl) ?_;simp only [bU,bQ];clear a V;obtain ⟨w4,E3⟩:∃x,x=w3:=⟨_,rfl⟩
    subst E3;obtain ⟨m0,m1,m2,m3,m4,m5,m6⟩:=r.seven;obtain ⟨t0,t1,t2,t3,t4,t5,t6⟩:=r.thaws;have P:=S.call f;have R:=M.call f;have C8:=M.lt;have Q:Aj (fun g=>w.heap.size+2<=g/\g≠tb) w4 (.slice F u sc) an:=k.strs.strsP _ (fun g X=>⟨by have:=(World.ownsRow.lt k g X).1;omega,fun e=>Own.apartG k r (by decide) (by rw [X,e])⟩);have A:=r.put7 (.int .i64 kd) (.string ⟨l.toArray⟩) (.string ⟨I.toArray⟩) (.string ⟨H.toArray⟩) (.string ⟨ls.toArray⟩) (.slice F u sc) (.slice none 0 0);have y:=P.other7 (g:=tb) (by omega) (.int .i64 kd) (.string ⟨l.toArray⟩) (.string ⟨I.toArray⟩) (.string ⟨H.toArray⟩) (.string ⟨ls.toArray⟩) (.slice F u sc) (.slice none 0 0);have E:=R.other7 (g:=tb) (by omega) (.int .i64 kd) (.string ⟨l.toArray⟩) (.string ⟨I.toArray⟩) (.string ⟨H.toArray⟩) (.string ⟨ls.toArray⟩) (.slice F u sc) (.slice none 0 0);have B:Aj (fun g=>w.heap.size+2<=g/\g≠tb) (sev w4 tb (.int .i64 kd) (.string ⟨l.toArray⟩) (.string ⟨I.toArray⟩) (.string ⟨H.toArray⟩) (.string ⟨ls.toArray⟩) (.slice F u sc) (.slice none 0 0)) (.slice F u sc) an:=Q.keep (Eg (Below.refl tb w4) (aA _) (.int .i64 kd) (.string ⟨l.toArray⟩) (.string ⟨I.toArray⟩) (.string ⟨H.toArray⟩) (.string ⟨ls.toArray⟩) (.slice F u sc) (.slice none 0 0)).size (fun g X q=>by
     have q:w.heap.size+2<=g/\g≠tb:=q;unfold sev;rw [Below.heap_setCell _ _ _ _ (by show g≠tb;exact q.2),Below.heap_setCell _ _ _ _ (by show g≠tb;exact q.2),Below.heap_setCell _ _ _ _ (by show g≠tb;exact q.2),Below.heap_setCell _ _ _ _ (by show g≠tb;exact q.2),Below.heap_setCell _ _ _ _ (by show g≠tb;exact q.2),Below.heap_setCell _ _ _ _ (by show g≠tb;exact q.2),Below.heap_setCell _ _ _ _ (by show g≠tb;exact q.2)]) (fun g _ h=>h)
    have t:=Eg ((B2.trans (f.mono B2.size))) (show w.heap.size<=tb by omega) (.int .i64 kd) (.string ⟨l.toArray⟩) (.string ⟨I.toArray⟩) (.string ⟨H.toArray⟩) (.string ⟨ls.toArray⟩) (.slice F u sc) (.slice none 0 0);unfold sev at A y E B t;have HF:=hZ9 (dF A (dF B (dF y (dF E t))));have A3:w.heap.size+2<=tb:=by omega
    clear A B y E t Q P R k;go_wp2_with fail;go_meet;exact ⟨tb,F,sc,rfl,A3,HF.out.1,HF.out.2.1,HF.out.2.2.1,HF.out.2.2.2.1,HF.out.2.2.2.2⟩
 case rest=>
  obtain ⟨tb,F,sc,rfl,E1,r,A6,A9,B7,G2⟩:=hcut;obtain ⟨w2,I2⟩:∃x,x=wc:=⟨_,rfl⟩
  subst I2;clear S M B2 V G8;obtain ⟨i0,z,hi,hz,hsz,I4,H1⟩:=UI;have HI:=hZ9 hi;clear hi;obtain ⟨C,hC⟩:∃c,c=w2.heap.size:=⟨_,rfl⟩
  have G0:C<=w2.heap.size:=by omega
  have G7:tb<C:=by have:=r.lt;omega
  have I5:w.heap.size<C:=by have:=A9.lt;omega
  have H2:w.heap.size+1<C:=by have:=B7.lt;omega
  have C3:=Aj.keep (ok':=fun g=>w.heap.size+2<=g/\g≠tb/\g<C) A6 (aA _) (fun _ _ _=>rfl) (fun g X h=>⟨h.1,h.2,by omega⟩);have B3:=CC.empty (fiG n) 36 (fun g=>C<=g) w2 C;have I9:PL=0\/0<PL:=by omega
  clear A6;obtain ⟨q0,q1,q2,q3,q4,q5,q6⟩:=A9.seven;go_wp2_with fail;clear q0 q1 q2 q3 q4 q5 q6;go_loopw [23] (fun i wr=>∃(j:Nat) (vq:Value),j<=PL/\i=.int .i64 j/\Whole wr tb 36 #[.int .i64 kd,.string ⟨l.toArray⟩,.string ⟨I.toArray⟩,.string ⟨H.toArray⟩,.string ⟨ls.toArray⟩,.slice F u sc,vq]/\CC (fiG n) 36 (fun g=>C<=g) wr C vq (ps.take j)/\Aj (fun g=>w.heap.size+2<=g/\g≠tb/\g<C) wr (.slice F u sc) an/\Whole wr w.heap.size 26 #[.int .i64 kd,.string ⟨l.toArray⟩,.string ⟨I.toArray⟩,.string ⟨H.toArray⟩,.string ⟨ls.toArray⟩,.slice a5 u c5,.slice a6 PL c6]/\Whole wr (w.heap.size+1) 36 #[.int .i64 0,.string ⟨#[]⟩,.string ⟨#[]⟩,.string ⟨#[]⟩,.string ⟨#[]⟩,.slice none 0 0,.slice none 0 0]/\Below w.heap.size w wr/\C<=wr.heap.size) (fun i _=>PL - (intOf i).toNat)
  case atStart=>exact ⟨0,_,aR _,rfl,r,B3,C3,A9,B7,G2,G0⟩
  case round=>
   obtain ⟨j,vq,hj,rfl,r,s,A6,S,M,hb,A4⟩:=hrel;clear A9 B7 G2 C3 B3 G0 hC;obtain ⟨va,vc,rfl⟩:=s.form;have G1:(ps.take j).length=j:=by rw [au,F8.out];omega
   rw [G1] at s r;by_cases I0:j<PL
   · have A8:j<ps.length:=by rw [F8.out];exact I0
     have H5:=E6.out j A8;have G6:=E4.out j A8;have Y:Below w.heap.size w wr.drew:=hb.drew;obtain ⟨d,rfl,g,o,rfl,X,b5,d5,b6,d6,D9,y0,y1,y2,y3,y4,y5,y6⟩:=E0.out j A8;have D9:=D9.call Y;have y0:=(Y.cell (p:=⟨g,o+j*7,none⟩) X).trans y0;have y1:=(Y.cell (p:=⟨g,o+j*7+1,none⟩) X).trans y1;have y2:=(Y.cell (p:=⟨g,o+j*7+2,none⟩) X).trans y2;have y3:=(Y.cell (p:=⟨g,o+j*7+3,none⟩) X).trans y3;have y4:=(Y.cell (p:=⟨g,o+j*7+4,none⟩) X).trans y4;have y5:=(Y.cell (p:=⟨g,o+j*7+5,none⟩) X).trans y5;have y6:=(Y.cell (p:=⟨g,o+j*7+6,none⟩) X).trans y6;have C2:=fun v W h=>IH d rfl (ps[j]'A8) v W h G6;clear IH E0 E6 E4 B1;generalize ps[j]=p at*;have J2:(0:Int)<=(j:Int):=by omega
     have J1:(j:Int)<(PL:Int):=by omega
     have hc:=C2 _ _ D9;have H6:g<wr.drew.heap.size:=ae X Y.size;have B4:g<C:=by omega
     have G3:∀g,(Value.slice va j vc).ownBlock=some g->g<wr.drew.heap.size:=fun g h=>(s.block h).2;have H7:(ps.take j).length+([p]:List Fi).length<=1000000000:=by rw [G1,bG];omega
     replace s:=s.call (show Below wr.heap.size wr wr.drew from (Below.refl _ _).drew);replace A6:=A6.call (show Below wr.heap.size wr wr.drew from (Below.refl _ _).drew);replace r:=r.drew;replace S:=S.drew;replace M:=M.drew;replace A4:C<=wr.drew.heap.size:=A4;have tq:=r.cell 6;have aq:=S.cell 6;simp only [aI,aH,aK] at tq aq;clear C2 D9 G6 hb;go_wp2_with fail;refine FU 11 (fun W=>W.cell? ⟨tb,6,none⟩=some (.slice va j vc)/\W.cell? ⟨w.heap.size,6,none⟩=some (.slice (some ⟨g,o,none⟩) PL c6)/\W.cell? ⟨g,o+j*7,none⟩=some (.int .i64 p.kind)/\W.cell? ⟨g,o+j*7+1,none⟩=some (.string ⟨p.attr.toArray⟩)/\W.cell? ⟨g,o+j*7+2,none⟩=some (.string ⟨p.value.toArray⟩)/\W.cell? ⟨g,o+j*7+3,none⟩=some (.string ⟨p.first.toArray⟩)/\W.cell? ⟨g,o+j*7+4,none⟩=some (.string ⟨p.last.toArray⟩)/\W.cell? ⟨g,o+j*7+5,none⟩=some (.slice b5 p.any.length d5)/\W.cell? ⟨g,o+j*7+6,none⟩=some (.slice b6 p.parts.length d6)) (by kernel_rfl) (by kernel_rfl) ⟨tq,aq,y0,y1,y2,y3,y4,y5,y6⟩ (fun a=>?_);refine Ag 0 ?_ (by simp only [aO,aS];decide) (by kernel_rfl) (fun _ _ _ h=>h) (by rfl) ?_ a ?_
     rotate_left
     · intro W G;(try simp only [aB]);(try go_split_ands);go_simp;(try with_reducible rfl)
     (try simp only [aB,Act.put,aF,aN,aQ])
     refine Ag 1 ?_ (by simp only [aO,aS];decide) (by kernel_rfl) (fun _ _ _ h=>h) (by rfl) ?_ a ?_
     rotate_left
     · intro W G;(try simp only [aD,aB]);(try go_split_ands);go_simp;(try with_reducible rfl)
     (try simp only [aD,aB,Act.put,aF,aN,aQ])
     refine Ag 2 ?_ (by simp only [aO,aS];decide) (by kernel_rfl) (fun _ _ _ h=>h) (by rfl) ?_ a ?_
     rotate_left
     · intro W G;(try simp only [aD,aB]);(try go_split_ands);go_simp;(try with_reducible rfl)
     (try simp only [aD,aB,Act.put,aF,aN,aQ])
     refine Ag 3 ?_ (by simp only [aO,aS];decide) (by kernel_rfl) (fun _ _ _ h=>h) (by rfl) ?_ a ?_
     rotate_left
     · intro W G;(try simp only [aD,aB]);(try go_split_ands);go_simp;(try with_reducible rfl)
     (try simp only [aD,aB,Act.put,aF,aN,aQ])
     refine Ag 4 ?_ (by simp only [aO,aS];decide) (by kernel_rfl) (fun _ _ _ h=>h) (by rfl) ?_ a ?_
     rotate_left
     · intro W G;(try simp only [aD,aB]);(try go_split_ands);go_simp;(try with_reducible rfl)
     (try simp only [aD,aB,Act.put,aF,aN,aQ])
     refine Ag 5 ?_ (by simp only [aO,aS];decide) (by kernel_rfl) (fun _ _ _ h=>h) (by rfl) ?_ a ?_
     rotate_left
     · intro W G;(try simp only [aD,aB]);(try go_split_ands);go_simp;(try with_reducible rfl)
     (try simp only [aD,aB,Act.put,aF,aN,aQ])
     refine Ag 6 ?_ (by simp only [aO,aS];decide) (by kernel_rfl) (fun _ _ _ h=>h) (by rfl) ?_ a ?_
     rotate_left
     · intro W G;(try simp only [aD,aB]);(try go_split_ands);go_simp;(try with_reducible rfl)
     (try simp only [aD,aB,Act.put,aF,aN,aQ])
     refine Bq 7 (by simp only [aO,aS];decide) (by kernel_rfl) (fun K N=>?_)
     (try simp only [aD,aB])
     refine Bo (by rfl) ?_;go_simp
     (go_at_call 20;(with_reducible refine hc.mono ?_);rintro e w5 ⟨v5,rfl,H0,t⟩)
     obtain ⟨e5,f5,e6,f6,rfl,C4,I7,D1⟩:=FiV.partsO H0;have H8:=t.size;have Z:=Y.trans (t.mono Y.size);have A0:=s.call t;have A:=r.call t;have y:=S.call t;have E:=M.call t;have B:=A6.call t;have H4:=Ab tq t;have I6:g<wr.drew.heap.size:=H6;clear s r S M A6 hc;refine N.out _ _ ?_ (fun a=>?_)
     · exact ⟨Ab tq t,Ab aq t,Ab y0 t,Ab y1 t,Ab y2 t,Ab y3 t,Ab y4 t,Ab y5 t,Ab y6 t⟩
     clear N K
     (try simp only [Act.put,aF,aN,aQ])
     refine Bq 8 (by simp only [aO,aS];decide) (by kernel_rfl) (fun K N=>?_)
     (try simp only [aD,aB])
     refine Bo (by rfl) ?_;go_simp;have A7:=Af w5 (.cells #[.int .i64 p.kind,.string ⟨p.attr.toArray⟩,.string ⟨p.value.toArray⟩,.string ⟨p.first.toArray⟩,.string ⟨p.last.toArray⟩,.slice e5 p.any.length f5,.slice e6 p.parts.length f6] 36);have C5:=Whole.made w5 36 #[.int .i64 p.kind,.string ⟨p.attr.toArray⟩,.string ⟨p.value.toArray⟩,.string ⟨p.first.toArray⟩,.string ⟨p.last.toArray⟩,.slice e5 p.any.length f5,.slice e6 p.parts.length f6];have C7:=Aj.keep (ok':=fun g=>C<=g/\(Value.slice va j vc).ownBlock≠some g) (C4.call A7) (aA _) (fun _ _ _=>rfl) (fun g _ h=>⟨aY A4 h,fun e=>by have h2:=G3 g e;have h:wr.drew.heap.size<=g:=h;omega⟩);have D0:=(D1.call A7).keep (ok':=fun g=>C<=g/\(Value.slice va j vc).ownBlock≠some g) (aA _) (fun _ _ _=>rfl) (fun g _ h=>⟨aY A4 h,fun e=>by have h2:=G3 g e;have h:wr.drew.heap.size<=g:=h;omega⟩);have D3:=KN.oneFi (n:=d+1) (rok:=fun _=>True) (x:=p) C5 trivial C7 D0;replace A0:=A0.call A7;replace A:=A.call A7;replace y:=y.call A7;replace E:=E.call A7;replace B:=B.call A7;replace Z:=Z.trans (A7.mono Z.size);have J:Below wr.drew.heap.size wr.drew (w5.alloc (.cells #[.int .i64 p.kind,.string ⟨p.attr.toArray⟩,.string ⟨p.value.toArray⟩,.string ⟨p.first.toArray⟩,.string ⟨p.last.toArray⟩,.slice e5 p.any.length f5,.slice e6 p.parts.length f6] 36)):=t.trans (A7.mono H8);have F4:C<=(w5.alloc (.cells #[.int .i64 p.kind,.string ⟨p.attr.toArray⟩,.string ⟨p.value.toArray⟩,.string ⟨p.first.toArray⟩,.string ⟨p.last.toArray⟩,.slice e5 p.any.length f5,.slice e6 p.parts.length f6] 36)).heap.size:=aY A4 J.size;clear C4 D1 C7 D0 C5 H4;refine N.out _ _ ?_ (fun a=>?_)
     · exact ⟨Ab tq J,Ab aq J,Ab y0 J,Ab y1 J,Ab y2 J,Ab y3 J,Ab y4 J,Ab y5 J,Ab y6 J⟩
     clear N K
     (try simp only [aD,aB,Act.put,aF,aN,aQ])
     refine Bq 9 (by simp only [aO,aS];decide) (by kernel_rfl) (fun K N=>?_)
     (try simp only [aD,aB])
     refine Bo (by rfl) ?_;refine Agv (fiG (d+1)) 36 34 underlying34 HI.out hz (by rw [hsz];rfl) (by rw [I4];decide) (by rw [H1];rfl) _ _ (by rfl) (fun g=>C<=g) C _ (ps.take j) (by rfl) A0 _ [p] (by rfl) D3 H7 F4 ?_;intro v7 w7 U O F3 F1;have B0:=A.below O G7;have B6:=y.below O I5;have C9:=E.below O H2;have D2:=Aj.keep (ok':=fun g=>w.heap.size+2<=g/\g≠tb/\g<C) B O.size (fun g _ q=>O.block g q.2.2) (fun g _ h=>h);replace Z:=Z.trans (O.mono (by omega));have t7:=B0.cell 6;have a7:=B6.cell 6;simp only [aI,aH,aK] at t7 a7;clear A0 D3 A y E B F3 F1;refine N.out _ _ ?_ (fun a=>?_)
     · exact ⟨t7,a7,(O.cell (p:=⟨g,o+j*7,none⟩) B4).trans (Ab y0 J),(O.cell (p:=⟨g,o+j*7+1,none⟩) B4).trans (Ab y1 J),(O.cell (p:=⟨g,o+j*7+2,none⟩) B4).trans (Ab y2 J),(O.cell (p:=⟨g,o+j*7+3,none⟩) B4).trans (Ab y3 J),(O.cell (p:=⟨g,o+j*7+4,none⟩) B4).trans (Ab y4 J),(O.cell (p:=⟨g,o+j*7+5,none⟩) B4).trans (Ab y5 J),(O.cell (p:=⟨g,o+j*7+6,none⟩) B4).trans (Ab y6 J)⟩
     clear N K
     (try simp only [Act.put,aF,aN,aQ])
     refine Ag 10 ?_ (by simp only [aO,aS];decide) (by kernel_rfl) (fun _ _ _ h=>h) (by rfl) ?_ a ?_
     rotate_left
     · intro W G;(try simp only [aD,aB]);(try go_split_ands);go_simp;(try with_reducible rfl)
     (try simp only [aD,aB,Act.put,aF,aN,aQ])
     refine EL (by kernel_rfl) ?_;simp only [bU,bQ];clear a;rw [<-H5] at U;obtain ⟨vb,vd,rfl⟩:=U.form;have C1:(ps.take (j+1)).length=j+1:=by rw [au];omega
     rw [C1] at U
     try rw [C1]
     have t8:=B0.thaw 6;have D4:=B0.put 6 (.slice vb (j+1) vd);simp only [aF,aN,aQ] at D4;have E9:=B6.other (p:=⟨tb,6,none⟩) (by show w.heap.size≠tb;omega) (.slice vb (j+1) vd);have F2:=C9.other (p:=⟨tb,6,none⟩) (by show w.heap.size+1≠tb;omega) (.slice vb (j+1) vd);have D6:=U.kept ((BG.refl w7.heap.size tb w7).setCell 6 (.slice vb (j+1) vd)) (aA _) G7;have E8:Aj (fun g=>w.heap.size+2<=g/\g≠tb/\g<C) (w7.setCell ⟨tb,6,none⟩ (.slice vb (j+1) vd)) (.slice F u sc) an:=Aj.keep D2 (by simp [World.setCell]) (fun g _ q=>Below.heap_setCell _ _ _ _ q.2.1) (fun g _ h=>h);have I1:=Z.setCell (p:=⟨tb,6,none⟩) (show w.heap.size<=tb by omega) (.slice vb (j+1) vd);clear B0 B6 C9 U D2 Z y0 y1 y2 y3 y4 y5 y6;go_wp2_with fail;go_roundw
     case rel=>exact ⟨j+1,_,by omega,by go_num,D4,D6,E8,E9,F2,I1,by have:=O.size;simp [World.setCell];omega⟩
     case measure=>simp [intOf];omega
   · have E7:j=PL:=by omega
     subst E7;rw [B1.out] at s;obtain ⟨m0,m1,m2,m3,m4,m5,m6⟩:=r.seven;obtain ⟨k0,k1,k2,k3,k4,k5,k6⟩:=M.seven;obtain ⟨t0,t1,t2,t3,t4,t5,t6⟩:=M.thaws;have B5:=M.put7 (.int .i64 kd) (.string ⟨l.toArray⟩) (.string ⟨I.toArray⟩) (.string ⟨H.toArray⟩) (.string ⟨ls.toArray⟩) (.slice F u sc) (.slice va j vc);have G4:=s.fis;have D5:Aj (fun g=>w.heap.size<=g) (sev wr (w.heap.size+1) (.int .i64 kd) (.string ⟨l.toArray⟩) (.string ⟨I.toArray⟩) (.string ⟨H.toArray⟩) (.string ⟨ls.toArray⟩) (.slice F u sc) (.slice va j vc)) (.slice F u sc) an:=Aj.keep A6 (Eg (Below.refl (w.heap.size+1) wr) (aA _) (.int .i64 kd) (.string ⟨l.toArray⟩) (.string ⟨I.toArray⟩) (.string ⟨H.toArray⟩) (.string ⟨ls.toArray⟩) (.slice F u sc) (.slice va j vc)).size (fun g X q=>by
      have q:w.heap.size+2<=g/\g≠tb/\g<C:=q;unfold sev;rw [Below.heap_setCell _ _ _ _ (by show g≠w.heap.size+1;omega),Below.heap_setCell _ _ _ _ (by show g≠w.heap.size+1;omega),Below.heap_setCell _ _ _ _ (by show g≠w.heap.size+1;omega),Below.heap_setCell _ _ _ _ (by show g≠w.heap.size+1;omega),Below.heap_setCell _ _ _ _ (by show g≠w.heap.size+1;omega),Below.heap_setCell _ _ _ _ (by show g≠w.heap.size+1;omega),Below.heap_setCell _ _ _ _ (by show g≠w.heap.size+1;omega)]) (fun g _ h=>by
      have h:w.heap.size+2<=g/\g≠tb/\g<C:=h;show w.heap.size<=g
      omega)
     have C6:BC (n+1) (fun g=>w.heap.size<=g) (sev wr (w.heap.size+1) (.int .i64 kd) (.string ⟨l.toArray⟩) (.string ⟨I.toArray⟩) (.string ⟨H.toArray⟩) (.string ⟨ls.toArray⟩) (.slice F u sc) (.slice va j vc)) (.slice va j vc) ps:=G4.keep (Eg (Below.refl (w.heap.size+1) wr) (aA _) (.int .i64 kd) (.string ⟨l.toArray⟩) (.string ⟨I.toArray⟩) (.string ⟨H.toArray⟩) (.string ⟨ls.toArray⟩) (.slice F u sc) (.slice va j vc)).size (fun g X q=>by
      have q:C<=g:=q;unfold sev;rw [Below.heap_setCell _ _ _ _ (by show g≠w.heap.size+1;omega),Below.heap_setCell _ _ _ _ (by show g≠w.heap.size+1;omega),Below.heap_setCell _ _ _ _ (by show g≠w.heap.size+1;omega),Below.heap_setCell _ _ _ _ (by show g≠w.heap.size+1;omega),Below.heap_setCell _ _ _ _ (by show g≠w.heap.size+1;omega),Below.heap_setCell _ _ _ _ (by show g≠w.heap.size+1;omega),Below.heap_setCell _ _ _ _ (by show g≠w.heap.size+1;omega)]) (fun g _ h=>by
      have h:C<=g:=h;show w.heap.size<=g
      omega)
     have E2:=Eg hb (fw _) (.int .i64 kd) (.string ⟨l.toArray⟩) (.string ⟨I.toArray⟩) (.string ⟨H.toArray⟩) (.string ⟨ls.toArray⟩) (.slice F u sc) (.slice va j vc);have G5:Hid (FiV (n+1) (fun g=>w.heap.size<=g) (sev wr (w.heap.size+1) (.int .i64 kd) (.string ⟨l.toArray⟩) (.string ⟨I.toArray⟩) (.string ⟨H.toArray⟩) (.string ⟨ls.toArray⟩) (.slice F u sc) (.slice va j vc)) (.agg #[.int .i64 kd,.string ⟨l.toArray⟩,.string ⟨I.toArray⟩,.string ⟨H.toArray⟩,.string ⟨ls.toArray⟩,.slice F u sc,.slice va j vc]) (.mk kd l I H ls an ps)):=hZ9 ⟨_,_,rfl,D5,C6⟩;unfold sev at B5 E2 G5;have H9:=hZ9 B5;have I3:=hZ9 E2;clear B5 E2 D5 C6 G4 IH E0 E6 E4 B1 s A6 r S;go_wp2_with fail
     (try simp only [Exit.inBlock,Exit.then])
     generalize ((((((((((((((wr).setCell ⟨w.heap.size+1,0,none⟩ (.int .i64 kd))).setCell ⟨w.heap.size+1,1,none⟩ (.string ⟨l.toArray⟩))).setCell ⟨w.heap.size+1,2,none⟩ (.string ⟨I.toArray⟩))).setCell ⟨w.heap.size+1,3,none⟩ (.string ⟨H.toArray⟩))).setCell ⟨w.heap.size+1,4,none⟩ (.string ⟨ls.toArray⟩))).setCell ⟨w.heap.size+1,5,none⟩ (.slice F u sc))).setCell ⟨w.heap.size+1,6,none⟩ (.slice va j vc))=w6 at*;have F5:=H9.out;obtain ⟨r0,r1,r2,r3,r4,r5,r6⟩:=F5.seven;refine bodyPost_ret (v:=.agg #[.int .i64 kd,.string ⟨l.toArray⟩,.string ⟨I.toArray⟩,.string ⟨H.toArray⟩,.string ⟨ls.toArray⟩,.slice F u sc,.slice va j vc]) ?_ rfl ⟨_,rfl,G5.out,I3.out⟩;rw [BM rfl];go_simp)
end Go.Proofs.YtgngjfjaelgaeaaGreatDoor
