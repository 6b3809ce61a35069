/- The walks of the law's Theirs and Ours: a filter, copied. Conditions: as stated. -/
import Derived.Test.YtgngjfjaelgaeaaGreatDoorKCqa
set_option maxRecDepth 100000
set_option maxHeartbeats 16000000
namespace Go.Proofs.YtgngjfjaelgaeaaGreatDoor
open Go.RowKit
open FiS (Fi)
attribute [local go_sem ↓] Go.wp_at_zero Go.wp_at_succ
theorem Own.inRow {w:World} {B:Nat} {v:Value} {xs:List (List UInt8)} (h:Own w B v xs) (ok:Nat->Prop) (A0:∀g,B<=g->g<w.heap.size->ok g):Ap ok w v xs:=h.strs.strsP ok (fun g hg=>A0 g (World.ownsRow.lt h g hg).1 (World.ownsRow.lt h g hg).2)
theorem Hm {w:World} {o:Oper} {a:Act} {K:Act->World->Prop} {Q:Exit->Act->World->Prop} (s x:Operand)
  (ho:o.op=.call { callee:=.builtin .append,args:=#[s,x],argTypes:=#[23,23] })
  (B:Nat) (v:Value) (xs:List (List UInt8)) (hs:a.eval s=v) (A0:Own w B v xs) (u:Value) (ys:List (List UInt8)) (hx:a.eval x=u) (A5:Ai w u ys)
  (hn:xs.length+ys.length<=1000000000) (hB:B<=w.heap.size)
  (h:∀v' w',Own w' B v' (xs++ys)->Below B w w'->w.grownBy w' v.ownBlock->K (a.put o.dst v') w'):Oper.wp Tryz.prog o a w K Q:=by
 obtain ⟨A,c,rfl,hc,A1⟩:=A5
 obtain ⟨i0,hi,A6,A4,A7⟩:=info_parts GQ
 cases A with
 | none=>
  rcases A1 with rfl | ⟨g,o,e,_⟩
  · have A2:=JG o.type A0 c
    unfold Oper.wp
    simp [execOp,ho,resolve,invoke,builtin,hs,hx,A2,Result.andThen]
    exact h v w (by rw [List.append_nil];exact A0) (Below.refl B w) ⟨rfl,rfl,rfl,Nat.le_refl _,fun _ _ _=>rfl⟩
  · cases e
 | some ad=>
  refine wp_append_own w s x _ ho B 9 i0 (.string ⟨#[]⟩) 1 16 Tryz.underlying23 hi A6 A4 A7 rfl (by decide) v xs.length (xs.map Ac) hs A0 ad ys.length c (ys.map Ac) hx (by simp)
   (fun j y hj=>?_) (fun y hy=>?_) (by unfold maxLen;omega) (by omega) hB (fun v' w' h1 h2 _=>h v' w' ?_ ?_ h2)
  · rcases A1 with rfl | ⟨g,o,e,hg,hcell⟩
    · simp at hj
    · cases e
      rw [List.getElem?_map] at hj
      obtain ⟨t,ht,rfl⟩:=Option.map_eq_some_iff.1 hj
      have A3:(⟨g,o,Option.none⟩:Addr).add j=⟨g,o+j,Option.none⟩:=by unfold Addr.add;split <;> simp_all
      rw [A3]
      exact hcell j t ht
  · obtain ⟨t,_,rfl⟩:=List.mem_map.1 hy
    rfl
  · unfold Own
    rw [List.map_append,List.length_append]
    exact h1
  · exact (Below.refl B w).grown h2 hB (fun k hk=>(World.ownsRow.lt A0 k hk).1)
theorem Own.apartG {w:World} {B tb:Nat} {v:Value} {xs:List (List UInt8)} {T:TypeId} {cs:Array Value} (h:Own w B v xs) (hw:Whole w tb T cs) (hT:T≠9):v.ownBlock≠some tb:=fun e=>by
 obtain ⟨c,fz,h2⟩:=Lib.ownsRow_kind h tb e
 unfold Whole at hw
 rw [hw] at h2
 cases h2
 exact hT rfl
theorem Whole.grownO {w w':World} {B tb:Nat} {v:Value} {xs:List (List UInt8)} {T:TypeId} {cs:Array Value} (h:Whole w tb T cs) (ho:Own w B v xs) (hT:T≠9) (hg:w.grownBy w' v.ownBlock):Whole w' tb T cs:=
 (hg.block tb h.lt (fun e=>Own.apartG ho h hT e.symm)).trans h
def WW (n:Nat):Prop:=∀(x:Fi) (v:Value) (w:World),Dq n w v x->FiS.wdF 20000 x->Calls Tryz.prog 20 #[v] w fun e w'=>∃v',e=.returned v'/\FiV (n+1) (fun g=>w.heap.size<=g) w' v' x/\Below w.heap.size w w'
theorem OT:∀n,WW n:=IA (fun n IH=>by
 unfold WW at*
 intro x v w h I2
 obtain ⟨kd,A4,vl,fs,ls,an,ps⟩:=x
 obtain ⟨a5,c5,a6,c6,hv,F4,G3,E9⟩:=FiV.parts h
 have hv:v=.agg #[.int .i64 kd,.string ⟨A4.toArray⟩,.string ⟨vl.toArray⟩,.string ⟨fs.toArray⟩,.string ⟨ls.toArray⟩,.slice a5 an.length c5,.slice a6 ps.length c6]:=hv
 subst hv
 have F4:Ai w (.slice a5 an.length c5) an:=F4
 have G3:ps.length<=c6:=G3
 have E9:BR n (fun _=>True) w (.slice a6 ps.length c6) ps:=E9
 rw [FiS.wdF] at I2
 obtain ⟨_,L2,_,J8,I5⟩:=I2
 have H1:=hZ9 (FiS.JW.1 I5)
 clear I5
 have H6:=hZ9 (fun j (hj:j<ps.length)=>List.take_succ_eq_append_getElem hj)
 have D3:Hid (ps.take ps.length=ps):=hZ9 (List.take_length)
 obtain ⟨AL,D1⟩:∃m,an.length=m:=⟨_,rfl⟩
 obtain ⟨PL,G5⟩:∃m,ps.length=m:=⟨_,rfl⟩
 have L4:=hZ9 D1
 have I6:=hZ9 G5
 rw [D1] at F4
 rw [G5] at G3 E9
 try rw [D1]
 try rw [G5]
 rw [G5] at D3 J8
 rw [D1] at L2
 have I0:=hZ9 (fun j (hj:j<ps.length)=>BR.at E9 j hj)
 have J3:=Af w (.cells #[.int .i64 kd,.string ⟨A4.toArray⟩,.string ⟨vl.toArray⟩,.string ⟨fs.toArray⟩,.string ⟨ls.toArray⟩,.slice a5 AL c5,.slice a6 PL c6] 26)
 have I1:=Af (w.alloc (.cells #[.int .i64 kd,.string ⟨A4.toArray⟩,.string ⟨vl.toArray⟩,.string ⟨fs.toArray⟩,.string ⟨ls.toArray⟩,.slice a5 AL c5,.slice a6 PL c6] 26)) (.cells #[.int .i64 0,.string ⟨#[]⟩,.string ⟨#[]⟩,.string ⟨#[]⟩,.string ⟨#[]⟩,.slice none 0 0,.slice none 0 0] 36)
 have e1:(w.alloc (.cells #[.int .i64 kd,.string ⟨A4.toArray⟩,.string ⟨vl.toArray⟩,.string ⟨fs.toArray⟩,.string ⟨ls.toArray⟩,.slice a5 AL c5,.slice a6 PL c6] 26)).heap.size=w.heap.size+1:=by simp
 have D8:=J3.trans (I1.mono (by rw [e1];omega))
 have C4:=(Whole.made w 26 #[.int .i64 kd,.string ⟨A4.toArray⟩,.string ⟨vl.toArray⟩,.string ⟨fs.toArray⟩,.string ⟨ls.toArray⟩,.slice a5 AL c5,.slice a6 PL c6]).call I1
 have B9:Whole ((w.alloc (.cells #[.int .i64 kd,.string ⟨A4.toArray⟩,.string ⟨vl.toArray⟩,.string ⟨fs.toArray⟩,.string ⟨ls.toArray⟩,.slice a5 AL c5,.slice a6 PL c6] 26)).alloc (.cells #[.int .i64 0,.string ⟨#[]⟩,.string ⟨#[]⟩,.string ⟨#[]⟩,.string ⟨#[]⟩,.slice none 0 0,.slice none 0 0] 36)) (w.heap.size+1) 36 #[.int .i64 0,.string ⟨#[]⟩,.string ⟨#[]⟩,.string ⟨#[]⟩,.string ⟨#[]⟩,.slice none 0 0,.slice none 0 0]:=by
  have:=Whole.made (w.alloc (.cells #[.int .i64 kd,.string ⟨A4.toArray⟩,.string ⟨vl.toArray⟩,.string ⟨fs.toArray⟩,.string ⟨ls.toArray⟩,.slice a5 AL c5,.slice a6 PL c6] 26)) 36 #[.int .i64 0,.string ⟨#[]⟩,.string ⟨#[]⟩,.string ⟨#[]⟩,.string ⟨#[]⟩,.slice none 0 0,.slice none 0 0]
  rwa [e1] at this
 have C0:=F4.call (w':=(w.alloc (.cells #[.int .i64 kd,.string ⟨A4.toArray⟩,.string ⟨vl.toArray⟩,.string ⟨fs.toArray⟩,.string ⟨ls.toArray⟩,.slice a5 AL c5,.slice a6 PL c6] 26)).alloc (.cells #[.int .i64 0,.string ⟨#[]⟩,.string ⟨#[]⟩,.string ⟨#[]⟩,.string ⟨#[]⟩,.slice none 0 0,.slice none 0 0] 36)) D8 (Nat.le_refl _)
 have K0:=B9.lt
 clear h F4 E9 J3 I1 e1 G3
 go_enter Tryz.func20,Tryz.ntmps20
 go_upto_region 1 with fail
 generalize (w.alloc (.cells #[.int .i64 kd,.string ⟨A4.toArray⟩,.string ⟨vl.toArray⟩,.string ⟨fs.toArray⟩,.string ⟨ls.toArray⟩,.slice a5 AL c5,.slice a6 PL c6] 26)).alloc (.cells #[.int .i64 0,.string ⟨#[]⟩,.string ⟨#[]⟩,.string ⟨#[]⟩,.string ⟨#[]⟩,.slice none 0 0,.slice none 0 0] 36)=w1 at*
 go_cut [3] (fun p wd=>∃(tb:Nat) (sa:Option Addr) (sc:Nat),p=.pointer (some ⟨tb,0,none⟩)/\w.heap.size+2<=tb/\Whole wd tb 36 #[.int .i64 kd,.string ⟨A4.toArray⟩,.string ⟨vl.toArray⟩,.string ⟨fs.toArray⟩,.string ⟨ls.toArray⟩,.slice sa AL sc,.slice none 0 0]/\Ap (fun g=>w.heap.size+2<=g/\g≠tb) wd (.slice sa AL sc) an/\Whole wd w.heap.size 26 #[.int .i64 kd,.string ⟨A4.toArray⟩,.string ⟨vl.toArray⟩,.string ⟨fs.toArray⟩,.string ⟨ls.toArray⟩,.slice a5 AL c5,.slice a6 PL c6]/\Whole wd (w.heap.size+1) 36 #[.int .i64 0,.string ⟨#[]⟩,.string ⟨#[]⟩,.string ⟨#[]⟩,.string ⟨#[]⟩,.slice none 0 0,.slice none 0 0]/\Below w.heap.size w wd)
 case first=>
  obtain ⟨q0,q1,q2,q3,q4,q5,q6⟩:=C4.seven
  have L7:=Ae8
  have A2:Below w1.heap.size w1 w1.drew:=(Below.refl _ _).drew
  go_wp2_with fail
  refine Gp 16 (fun W=>W.cell? ⟨w.heap.size,0,none⟩=some (.int .i64 kd)/\W.cell? ⟨w.heap.size,1,none⟩=some (.string ⟨A4.toArray⟩)/\W.cell? ⟨w.heap.size,2,none⟩=some (.string ⟨vl.toArray⟩)/\W.cell? ⟨w.heap.size,3,none⟩=some (.string ⟨fs.toArray⟩)/\W.cell? ⟨w.heap.size,4,none⟩=some (.string ⟨ls.toArray⟩)/\W.cell? ⟨w.heap.size,5,none⟩=some (.slice a5 AL c5)) (by kernel_rfl) (by kernel_rfl) ⟨q0,q1,q2,q3,q4,q5⟩ (fun A0=>?_)
  refine Ah 0 ?_ (by simp only [List.length_cons,List.length_nil];decide) (by kernel_rfl) (fun _ _ _ h=>h) (by rfl) ?_ A0 ?_
  rotate_left
  · intro W B3;(try simp only [List.getElem_cons_zero]);(try go_split_ands);go_simp;(try with_reducible rfl)
  (try simp only [List.getElem_cons_zero,Act.put,List.setIfInBounds_toArray,List.set_cons_zero,List.set_cons_succ])
  refine Ah 1 ?_ (by simp only [List.length_cons,List.length_nil];decide) (by kernel_rfl) (fun _ _ _ h=>h) (by rfl) ?_ A0 ?_
  rotate_left
  · intro W B3;(try simp only [List.getElem_cons_succ,List.getElem_cons_zero]);(try go_split_ands);go_simp;(try with_reducible rfl)
  (try simp only [List.getElem_cons_succ,List.getElem_cons_zero,Act.put,List.setIfInBounds_toArray,List.set_cons_zero,List.set_cons_succ])
  refine Ah 2 ?_ (by simp only [List.length_cons,List.length_nil];decide) (by kernel_rfl) (fun _ _ _ h=>h) (by rfl) ?_ A0 ?_
  rotate_left
  · intro W B3;(try simp only [List.getElem_cons_succ,List.getElem_cons_zero]);(try go_split_ands);go_simp;(try with_reducible rfl)
  (try simp only [List.getElem_cons_succ,List.getElem_cons_zero,Act.put,List.setIfInBounds_toArray,List.set_cons_zero,List.set_cons_succ])
  refine Ah 3 ?_ (by simp only [List.length_cons,List.length_nil];decide) (by kernel_rfl) (fun _ _ _ h=>h) (by rfl) ?_ A0 ?_
  rotate_left
  · intro W B3;(try simp only [List.getElem_cons_succ,List.getElem_cons_zero]);(try go_split_ands);go_simp;(try with_reducible rfl)
  (try simp only [List.getElem_cons_succ,List.getElem_cons_zero,Act.put,List.setIfInBounds_toArray,List.set_cons_zero,List.set_cons_succ])
  refine Ah 4 ?_ (by simp only [List.length_cons,List.length_nil];decide) (by kernel_rfl) (fun _ _ _ h=>h) (by rfl) ?_ A0 ?_
  rotate_left
  · intro W B3;(try simp only [List.getElem_cons_succ,List.getElem_cons_zero]);(try go_split_ands);go_simp;(try with_reducible rfl)
  (try simp only [List.getElem_cons_succ,List.getElem_cons_zero,Act.put,List.setIfInBounds_toArray,List.set_cons_zero,List.set_cons_succ])
  refine Ah 5 ?_ (by simp only [List.length_cons,List.length_nil];decide) (by kernel_rfl) (fun _ _ _ h=>h) (by rfl) ?_ A0 ?_
  rotate_left
  · intro W B3;(try simp only [List.getElem_cons_succ,List.getElem_cons_zero]);(try go_split_ands);go_simp;(try with_reducible rfl)
  (try simp only [List.getElem_cons_succ,List.getElem_cons_zero,Act.put,List.setIfInBounds_toArray,List.set_cons_zero,List.set_cons_succ])
  refine Ah 6 ?_ (by simp only [List.length_cons,List.length_nil];decide) (by kernel_rfl) (fun _ _ _ h=>h) (by rfl) ?_ A0 ?_
  rotate_left
  · intro W B3;(try simp only [List.getElem_cons_succ,List.getElem_cons_zero]);(try go_split_ands);go_simp;(try with_reducible rfl)
  (try simp only [List.getElem_cons_succ,List.getElem_cons_zero,Act.put,List.setIfInBounds_toArray,List.set_cons_zero,List.set_cons_succ])
  refine Ah 7 ?_ (by simp only [List.length_cons,List.length_nil];decide) (by kernel_rfl) (fun _ _ _ h=>h) (by rfl) ?_ A0 ?_
  rotate_left
  · intro W B3;(try simp only [List.getElem_cons_succ,List.getElem_cons_zero]);(try go_split_ands);go_simp;(try with_reducible rfl)
  (try simp only [List.getElem_cons_succ,List.getElem_cons_zero,Act.put,List.setIfInBounds_toArray,List.set_cons_zero,List.set_cons_succ])
  refine Ah 8 ?_ (by simp only [List.length_cons,List.length_nil];decide) (by kernel_rfl) (fun _ _ _ h=>h) (by rfl) ?_ A0 ?_
  rotate_left
  · intro W B3;(try simp only [List.getElem_cons_succ,List.getElem_cons_zero]);(try go_split_ands);go_simp;(try with_reducible rfl)
  (try simp only [List.getElem_cons_succ,List.getElem_cons_zero,Act.put,List.setIfInBounds_toArray,List.set_cons_zero,List.set_cons_succ])
  refine Ah 9 ?_ (by simp only [List.length_cons,List.length_nil];decide) (by kernel_rfl) (fun _ _ _ h=>h) (by rfl) ?_ A0 ?_
  rotate_left
  · intro W B3;(try simp only [List.getElem_cons_succ,List.getElem_cons_zero]);(try go_split_ands);go_simp;(try with_reducible rfl)
  (try simp only [List.getElem_cons_succ,List.getElem_cons_zero,Act.put,List.setIfInBounds_toArray,List.set_cons_zero,List.set_cons_succ])
  refine Ah 11 ?_ (by simp only [List.length_cons,List.length_nil];decide) (by kernel_rfl) (fun _ _ _ h=>h) (by rfl) ?_ A0 ?_
  rotate_left
  · intro W B3;(try simp only [List.getElem_cons_succ,List.getElem_cons_zero]);(try go_split_ands);go_simp;(try with_reducible rfl)
  (try simp only [List.getElem_cons_succ,List.getElem_cons_zero,Act.put,List.setIfInBounds_toArray,List.set_cons_zero,List.set_cons_succ])
  refine Ah 12 ?_ (by simp only [List.length_cons,List.length_nil];decide) (by kernel_rfl) (fun _ _ _ h=>h) (by rfl) ?_ A0 ?_
  rotate_left
  · intro W B3;(try simp only [List.getElem_cons_succ,List.getElem_cons_zero]);(try go_split_ands);go_simp;(try with_reducible rfl)
  (try simp only [List.getElem_cons_succ,List.getElem_cons_zero,Act.put,List.setIfInBounds_toArray,List.set_cons_zero,List.set_cons_succ])
  refine NR 10 15 (by simp only [List.length_cons,List.length_nil];decide) (by simp only [List.length_cons,List.length_nil];decide) (by kernel_rfl) (fun K hK=>?_) (fun K hK=>?_)
  · (try simp only [List.getElem_cons_succ,List.getElem_cons_zero])
    refine BA (by rfl) ?_
    go_simp
    have A3:Own (((w1).alloc (.cells #[] 9))).drew w1.heap.size (.slice (some ⟨w1.heap.size,0,none⟩) 0 0) []:=by
     have:=(Own.made0 (w1)).mono (show w1.heap.size<=(w1).heap.size by exact Nat.le_refl _)
     exact (by simpa using this:Own (((w1).alloc (.cells #[] 9))) w1.heap.size (.slice (some ⟨w1.heap.size,0,none⟩) 0 0) [])
    replace A2:Below w1.heap.size w1 (((w1).alloc (.cells #[] 9))).drew:=((Below.refl _ _:Below w1.heap.size w1 (w1)).trans ((Af w1 _).mono (by exact Nat.le_refl _))).drew
    refine hK.out _ _ ?_ (fun A0=>?_)
    · exact ⟨Ab q0 A2,Ab q1 A2,Ab q2 A2,Ab q3 A2,Ab q4 A2,Ab q5 A2⟩
    clear hK K
    (try simp only [List.getElem_cons_succ,List.getElem_cons_zero,Act.put,List.setIfInBounds_toArray,List.set_cons_zero,List.set_cons_succ])
    refine NR 13 15 (by simp only [List.length_cons,List.length_nil];decide) (by simp only [List.length_cons,List.length_nil];decide) (by kernel_rfl) (fun K hK=>?_) (fun K hK=>?_)
    · (try simp only [List.getElem_cons_succ,List.getElem_cons_zero])
      refine BA (by rfl) ?_
      have C7:=C0.call A2 (Nat.le_refl _)
      have C9:=A2.size
      refine Hm _ _ (by rfl) w1.heap.size _ [] (by rfl) A3 _ an (by rfl) C7 (by simp;omega) C9 ?_
      intro v1 w3 A1 E6 C1
      replace A1:=Own.nilOf A1
      replace A2:=A2.trans E6
      obtain ⟨sa,sc,rfl⟩:=Own.form A1
      rw [D1] at A1
      try rw [D1]
      clear A3 C1
      refine hK.out _ _ ?_ (fun A0=>?_)
      · exact ⟨Ab q0 A2,Ab q1 A2,Ab q2 A2,Ab q3 A2,Ab q4 A2,Ab q5 A2⟩
      clear hK K
      (try simp only [Act.put,List.setIfInBounds_toArray,List.set_cons_zero,List.set_cons_succ])
      refine Ah 14 ?_ (by simp only [List.length_cons,List.length_nil];decide) (by kernel_rfl) (fun _ _ _ h=>h) (by rfl) ?_ A0 ?_
      rotate_left
      · intro W B3;(try simp only [List.getElem_cons_succ,List.getElem_cons_zero]);(try go_split_ands);go_simp;(try with_reducible rfl)
      (try simp only [List.getElem_cons_succ,List.getElem_cons_zero,Act.put,List.setIfInBounds_toArray,List.set_cons_zero,List.set_cons_succ])
      refine BN 15 (by simp only [List.length_cons,List.length_nil];decide) (by kernel_rfl) (fun K hK=>?_)
      (try simp only [List.getElem_cons_succ,List.getElem_cons_zero])
      refine BA (by rfl) ?_
      go_simp
      have A6:Whole (w3.alloc (.cells #[.int .i64 0,.string ⟨#[]⟩,.string ⟨#[]⟩,.string ⟨#[]⟩,.string ⟨#[]⟩,.slice none 0 0,.slice none 0 0] 36)) w3.heap.size 36 #[.int .i64 0,.string ⟨#[]⟩,.string ⟨#[]⟩,.string ⟨#[]⟩,.string ⟨#[]⟩,.slice none 0 0,.slice none 0 0]:=Whole.made w3 36 #[.int .i64 0,.string ⟨#[]⟩,.string ⟨#[]⟩,.string ⟨#[]⟩,.string ⟨#[]⟩,.slice none 0 0,.slice none 0 0]
      have G9:w1.heap.size<=w3.heap.size:=A2.size
      replace A1:=A1.alloc (.cells #[.int .i64 0,.string ⟨#[]⟩,.string ⟨#[]⟩,.string ⟨#[]⟩,.string ⟨#[]⟩,.slice none 0 0,.slice none 0 0] 36)
      replace A2:=A2.trans ((Af w3 (.cells #[.int .i64 0,.string ⟨#[]⟩,.string ⟨#[]⟩,.string ⟨#[]⟩,.string ⟨#[]⟩,.slice none 0 0,.slice none 0 0] 36)).mono A2.size)
      obtain ⟨tb,B2⟩:∃b,b=w3.heap.size:=⟨_,rfl⟩
      have H5:w1.heap.size<=tb:=by omega
      rw [<-B2] at A6
      try rw [<-B2]
      clear B2 G9
      refine hK.out _ _ ?_ (fun A0=>?_)
      · exact ⟨Ab q0 A2,Ab q1 A2,Ab q2 A2,Ab q3 A2,Ab q4 A2,Ab q5 A2⟩
      clear hK K
      (try simp only [List.getElem_cons_succ,List.getElem_cons_zero,Act.put,List.setIfInBounds_toArray,List.set_cons_zero,List.set_cons_succ])
      refine EK (by kernel_rfl) ?_
      simp only [List.drop_succ_cons,List.drop_zero]
      clear A0 C0
      generalize w3.alloc (.cells #[.int .i64 0,.string ⟨#[]⟩,.string ⟨#[]⟩,.string ⟨#[]⟩,.string ⟨#[]⟩,.slice none 0 0,.slice none 0 0] 36)=w4 at*
      obtain ⟨m0,m1,m2,m3,m4,m5,m6⟩:=A6.seven
      obtain ⟨t0,t1,t2,t3,t4,t5,t6⟩:=A6.thaws
      have B5:=C4.call A2
      have B7:=B9.call A2
      have F9:=B9.lt
      have B6:Ap (fun g=>w.heap.size+2<=g/\g≠tb) w4 (.slice sa AL sc) an:=A1.strs.strsP _ (fun g hg=>⟨by have:=(World.ownsRow.lt A1 g hg).1;omega,fun e=>Own.apartG A1 A6 (by decide) (by rw [hg,e])⟩)
      have A9:=A6.put7 (.int .i64 kd) (.string ⟨A4.toArray⟩) (.string ⟨vl.toArray⟩) (.string ⟨fs.toArray⟩) (.string ⟨ls.toArray⟩) (.slice sa AL sc) (.slice none 0 0)
      have A8:=B5.other7 (g:=tb) (by omega) (.int .i64 kd) (.string ⟨A4.toArray⟩) (.string ⟨vl.toArray⟩) (.string ⟨fs.toArray⟩) (.string ⟨ls.toArray⟩) (.slice sa AL sc) (.slice none 0 0)
      have B0:=B7.other7 (g:=tb) (by omega) (.int .i64 kd) (.string ⟨A4.toArray⟩) (.string ⟨vl.toArray⟩) (.string ⟨fs.toArray⟩) (.string ⟨ls.toArray⟩) (.slice sa AL sc) (.slice none 0 0)
      have A7:Ap (fun g=>w.heap.size+2<=g/\g≠tb) (sev w4 tb (.int .i64 kd) (.string ⟨A4.toArray⟩) (.string ⟨vl.toArray⟩) (.string ⟨fs.toArray⟩) (.string ⟨ls.toArray⟩) (.slice sa AL sc) (.slice none 0 0)) (.slice sa AL sc) an:=B6.keep (DJ (Below.refl tb w4) (Nat.le_refl _) (.int .i64 kd) (.string ⟨A4.toArray⟩) (.string ⟨vl.toArray⟩) (.string ⟨fs.toArray⟩) (.string ⟨ls.toArray⟩) (.slice sa AL sc) (.slice none 0 0)).size (fun g hg A5=>by
       have A5:w.heap.size+2<=g/\g≠tb:=A5
       unfold sev
       rw [Below.heap_setCell _ _ _ _ (by show g≠tb;exact A5.2),Below.heap_setCell _ _ _ _ (by show g≠tb;exact A5.2),Below.heap_setCell _ _ _ _ (by show g≠tb;exact A5.2),Below.heap_setCell _ _ _ _ (by show g≠tb;exact A5.2),Below.heap_setCell _ _ _ _ (by show g≠tb;exact A5.2),Below.heap_setCell _ _ _ _ (by show g≠tb;exact A5.2),Below.heap_setCell _ _ _ _ (by show g≠tb;exact A5.2)]) (fun g _ h=>h)
      have B1:=DJ ((D8.trans (A2.mono D8.size))) (show w.heap.size<=tb by omega) (.int .i64 kd) (.string ⟨A4.toArray⟩) (.string ⟨vl.toArray⟩) (.string ⟨fs.toArray⟩) (.string ⟨ls.toArray⟩) (.slice sa AL sc) (.slice none 0 0)
      unfold sev at A9 A8 B0 A7 B1
      have HF:=hZ9 (And.intro A9 (And.intro A7 (And.intro A8 (And.intro B0 B1))))
      have C8:w.heap.size+2<=tb:=by omega
      clear A9 A7 A8 B0 B1 B6 B5 B7 A1
      go_wp2_with fail
      go_meet
      exact ⟨tb,sa,sc,rfl,C8,HF.out.1,HF.out.2.1,HF.out.2.2.1,HF.out.2.2.2.1,HF.out.2.2.2.2⟩
    · (try simp only [List.getElem_cons_succ,List.getElem_cons_zero])
      refine BA (by rfl) ?_
      go_simp
      have A6:Whole (((((w1).alloc (.cells #[] 9))).alloc (.cells #[.int .i64 0,.string ⟨#[]⟩,.string ⟨#[]⟩,.string ⟨#[]⟩,.string ⟨#[]⟩,.slice none 0 0,.slice none 0 0] 36))).drew (w1.heap.size+1) 36 #[.int .i64 0,.string ⟨#[]⟩,.string ⟨#[]⟩,.string ⟨#[]⟩,.string ⟨#[]⟩,.slice none 0 0,.slice none 0 0]:=by
       have:=Whole.made (((w1).alloc (.cells #[] 9))) 36 #[.int .i64 0,.string ⟨#[]⟩,.string ⟨#[]⟩,.string ⟨#[]⟩,.string ⟨#[]⟩,.slice none 0 0,.slice none 0 0]
       exact (by simpa using this:Whole (((((w1).alloc (.cells #[] 9))).alloc (.cells #[.int .i64 0,.string ⟨#[]⟩,.string ⟨#[]⟩,.string ⟨#[]⟩,.string ⟨#[]⟩,.slice none 0 0,.slice none 0 0] 36))) (w1.heap.size+1) 36 #[.int .i64 0,.string ⟨#[]⟩,.string ⟨#[]⟩,.string ⟨#[]⟩,.string ⟨#[]⟩,.slice none 0 0,.slice none 0 0])
      replace A3:Own (((((w1).alloc (.cells #[] 9))).alloc (.cells #[.int .i64 0,.string ⟨#[]⟩,.string ⟨#[]⟩,.string ⟨#[]⟩,.string ⟨#[]⟩,.slice none 0 0,.slice none 0 0] 36))).drew w1.heap.size _ []:=Own.alloc (w:=((w1).alloc (.cells #[] 9))) A3 (.cells #[.int .i64 0,.string ⟨#[]⟩,.string ⟨#[]⟩,.string ⟨#[]⟩,.string ⟨#[]⟩,.slice none 0 0,.slice none 0 0] 36)
      replace A2:Below w1.heap.size w1 (((((w1).alloc (.cells #[] 9))).alloc (.cells #[.int .i64 0,.string ⟨#[]⟩,.string ⟨#[]⟩,.string ⟨#[]⟩,.string ⟨#[]⟩,.slice none 0 0,.slice none 0 0] 36))).drew:=(((Af w1 _).trans ((Af ((w1).alloc (.cells #[] 9)) _).mono (by simp)))).drew
      obtain ⟨tb,B2⟩:∃b,b=w1.heap.size+1:=⟨_,rfl⟩
      have H5:w1.heap.size<=tb:=by omega
      rw [<-B2] at A6
      try rw [<-B2]
      clear B2
      refine hK.out _ _ ?_ (fun A0=>?_)
      · exact ⟨Ab q0 A2,Ab q1 A2,Ab q2 A2,Ab q3 A2,Ab q4 A2,Ab q5 A2⟩
      clear hK K
      (try simp only [List.getElem_cons_succ,List.getElem_cons_zero,Act.put,List.setIfInBounds_toArray,List.set_cons_zero,List.set_cons_succ])
      refine BN 13 (by simp only [List.length_cons,List.length_nil];decide) (by kernel_rfl) (fun K hK=>?_)
      (try simp only [List.getElem_cons_succ,List.getElem_cons_zero])
      refine BA (by rfl) ?_
      have C7:=C0.call A2 (Nat.le_refl _)
      have C9:=A2.size
      refine Hm _ _ (by rfl) w1.heap.size _ [] (by rfl) A3 _ an (by rfl) C7 (by simp;omega) C9 ?_
      intro v1 w3 A1 E6 C1
      replace A1:=Own.nilOf A1
      replace A6:=A6.grownO A3 (by decide) C1
      replace A2:=A2.trans E6
      obtain ⟨sa,sc,rfl⟩:=Own.form A1
      rw [D1] at A1
      try rw [D1]
      clear A3 C1
      refine hK.out _ _ ?_ (fun A0=>?_)
      · exact ⟨Ab q0 A2,Ab q1 A2,Ab q2 A2,Ab q3 A2,Ab q4 A2,Ab q5 A2⟩
      clear hK K
      (try simp only [Act.put,List.setIfInBounds_toArray,List.set_cons_zero,List.set_cons_succ])
      refine Ah 14 ?_ (by simp only [List.length_cons,List.length_nil];decide) (by kernel_rfl) (fun _ _ _ h=>h) (by rfl) ?_ A0 ?_
      rotate_left
      · intro W B3;(try simp only [List.getElem_cons_succ,List.getElem_cons_zero]);(try go_split_ands);go_simp;(try with_reducible rfl)
      (try simp only [List.getElem_cons_succ,List.getElem_cons_zero,Act.put,List.setIfInBounds_toArray,List.set_cons_zero,List.set_cons_succ])
      refine EK (by kernel_rfl) ?_
      simp only [List.drop_succ_cons,List.drop_zero]
      clear A0 C0
      obtain ⟨w4,H9⟩:∃x,x=w3:=⟨_,rfl⟩
      subst H9
      obtain ⟨m0,m1,m2,m3,m4,m5,m6⟩:=A6.seven
      obtain ⟨t0,t1,t2,t3,t4,t5,t6⟩:=A6.thaws
      have B5:=C4.call A2
      have B7:=B9.call A2
      have F9:=B9.lt
      have B6:Ap (fun g=>w.heap.size+2<=g/\g≠tb) w4 (.slice sa AL sc) an:=A1.strs.strsP _ (fun g hg=>⟨by have:=(World.ownsRow.lt A1 g hg).1;omega,fun e=>Own.apartG A1 A6 (by decide) (by rw [hg,e])⟩)
      have A9:=A6.put7 (.int .i64 kd) (.string ⟨A4.toArray⟩) (.string ⟨vl.toArray⟩) (.string ⟨fs.toArray⟩) (.string ⟨ls.toArray⟩) (.slice sa AL sc) (.slice none 0 0)
      have A8:=B5.other7 (g:=tb) (by omega) (.int .i64 kd) (.string ⟨A4.toArray⟩) (.string ⟨vl.toArray⟩) (.string ⟨fs.toArray⟩) (.string ⟨ls.toArray⟩) (.slice sa AL sc) (.slice none 0 0)
      have B0:=B7.other7 (g:=tb) (by omega) (.int .i64 kd) (.string ⟨A4.toArray⟩) (.string ⟨vl.toArray⟩) (.string ⟨fs.toArray⟩) (.string ⟨ls.toArray⟩) (.slice sa AL sc) (.slice none 0 0)
      have A7:Ap (fun g=>w.heap.size+2<=g/\g≠tb) (sev w4 tb (.int .i64 kd) (.string ⟨A4.toArray⟩) (.string ⟨vl.toArray⟩) (.string ⟨fs.toArray⟩) (.string ⟨ls.toArray⟩) (.slice sa AL sc) (.slice none 0 0)) (.slice sa AL sc) an:=B6.keep (DJ (Below.refl tb w4) (Nat.le_refl _) (.int .i64 kd) (.string ⟨A4.toArray⟩) (.string ⟨vl.toArray⟩) (.string ⟨fs.toArray⟩) (.string ⟨ls.toArray⟩) (.slice sa AL sc) (.slice none 0 0)).size (fun g hg A5=>by
       have A5:w.heap.size+2<=g/\g≠tb:=A5
       unfold sev
       rw [Below.heap_setCell _ _ _ _ (by show g≠tb;exact A5.2),Below.heap_setCell _ _ _ _ (by show g≠tb;exact A5.2),Below.heap_setCell _ _ _ _ (by show g≠tb;exact A5.2),Below.heap_setCell _ _ _ _ (by show g≠tb;exact A5.2),Below.heap_setCell _ _ _ _ (by show g≠tb;exact A5.2),Below.heap_setCell _ _ _ _ (by show g≠tb;exact A5.2),Below.heap_setCell _ _ _ _ (by show g≠tb;exact A5.2)]) (fun g _ h=>h)
      have B1:=DJ ((D8.trans (A2.mono D8.size))) (show w.heap.size<=tb by omega) (.int .i64 kd) (.string ⟨A4.toArray⟩) (.string ⟨vl.toArray⟩) (.string ⟨fs.toArray⟩) (.string ⟨ls.toArray⟩) (.slice sa AL sc) (.slice none 0 0)
      unfold sev at A9 A8 B0 A7 B1
      have HF:=hZ9 (And.intro A9 (And.intro A7 (And.intro A8 (And.intro B0 B1))))
      have C8:w.heap.size+2<=tb:=by omega
      clear A9 A7 A8 B0 B1 B6 B5 B7 A1
      go_wp2_with fail
      go_meet
      exact ⟨tb,sa,sc,rfl,C8,HF.out.1,HF.out.2.1,HF.out.2.2.1,HF.out.2.2.2.1,HF.out.2.2.2.2⟩
  · (try simp only [List.getElem_cons_succ,List.getElem_cons_zero])
    refine BA (by rfl) ?_
    go_simp
    have A6:Whole (((w1).alloc (.cells #[.int .i64 0,.string ⟨#[]⟩,.string ⟨#[]⟩,.string ⟨#[]⟩,.string ⟨#[]⟩,.slice none 0 0,.slice none 0 0] 36))).drew (w1.heap.size) 36 #[.int .i64 0,.string ⟨#[]⟩,.string ⟨#[]⟩,.string ⟨#[]⟩,.string ⟨#[]⟩,.slice none 0 0,.slice none 0 0]:=by
     have:=Whole.made (w1) 36 #[.int .i64 0,.string ⟨#[]⟩,.string ⟨#[]⟩,.string ⟨#[]⟩,.string ⟨#[]⟩,.slice none 0 0,.slice none 0 0]
     exact (by simpa using this:Whole (((w1).alloc (.cells #[.int .i64 0,.string ⟨#[]⟩,.string ⟨#[]⟩,.string ⟨#[]⟩,.string ⟨#[]⟩,.slice none 0 0,.slice none 0 0] 36))) (w1.heap.size) 36 #[.int .i64 0,.string ⟨#[]⟩,.string ⟨#[]⟩,.string ⟨#[]⟩,.string ⟨#[]⟩,.slice none 0 0,.slice none 0 0])
    have D0:Below w1.heap.size w1 (((w1).alloc (.cells #[.int .i64 0,.string ⟨#[]⟩,.string ⟨#[]⟩,.string ⟨#[]⟩,.string ⟨#[]⟩,.slice none 0 0,.slice none 0 0] 36))):=Af w1 _
    replace A2:Below w1.heap.size w1 (((w1).alloc (.cells #[.int .i64 0,.string ⟨#[]⟩,.string ⟨#[]⟩,.string ⟨#[]⟩,.string ⟨#[]⟩,.slice none 0 0,.slice none 0 0] 36))).drew:=D0.drew
    obtain ⟨tb,B2⟩:∃b,b=w1.heap.size:=⟨_,rfl⟩
    have H5:w1.heap.size<=tb:=by omega
    rw [<-B2] at A6
    try rw [<-B2]
    clear B2
    refine hK.out _ _ ?_ (fun A0=>?_)
    · exact ⟨Ab q0 A2,Ab q1 A2,Ab q2 A2,Ab q3 A2,Ab q4 A2,Ab q5 A2⟩
    clear hK K
    (try simp only [List.getElem_cons_succ,List.getElem_cons_zero,Act.put,List.setIfInBounds_toArray,List.set_cons_zero,List.set_cons_succ])
    refine BN 10 (by simp only [List.length_cons,List.length_nil];decide) (by kernel_rfl) (fun K hK=>?_)
    (try simp only [List.getElem_cons_succ,List.getElem_cons_zero])
    refine BA (by rfl) ?_
    go_simp
    have A3:Own (((((w1).alloc (.cells #[.int .i64 0,.string ⟨#[]⟩,.string ⟨#[]⟩,.string ⟨#[]⟩,.string ⟨#[]⟩,.slice none 0 0,.slice none 0 0] 36))).alloc (.cells #[] 9))).drew w1.heap.size (.slice (some ⟨w1.heap.size+1,0,none⟩) 0 0) []:=by
     have:=(Own.made0 (((w1).alloc (.cells #[.int .i64 0,.string ⟨#[]⟩,.string ⟨#[]⟩,.string ⟨#[]⟩,.string ⟨#[]⟩,.slice none 0 0,.slice none 0 0] 36)))).mono (show w1.heap.size<=(((w1).alloc (.cells #[.int .i64 0,.string ⟨#[]⟩,.string ⟨#[]⟩,.string ⟨#[]⟩,.string ⟨#[]⟩,.slice none 0 0,.slice none 0 0] 36))).heap.size by simp)
     exact (by simpa using this:Own (((((w1).alloc (.cells #[.int .i64 0,.string ⟨#[]⟩,.string ⟨#[]⟩,.string ⟨#[]⟩,.string ⟨#[]⟩,.slice none 0 0,.slice none 0 0] 36))).alloc (.cells #[] 9))) w1.heap.size (.slice (some ⟨w1.heap.size+1,0,none⟩) 0 0) [])
    replace A6:Whole (((((w1).alloc (.cells #[.int .i64 0,.string ⟨#[]⟩,.string ⟨#[]⟩,.string ⟨#[]⟩,.string ⟨#[]⟩,.slice none 0 0,.slice none 0 0] 36))).alloc (.cells #[] 9))).drew tb 36 #[.int .i64 0,.string ⟨#[]⟩,.string ⟨#[]⟩,.string ⟨#[]⟩,.string ⟨#[]⟩,.slice none 0 0,.slice none 0 0]:=Whole.call (w:=((w1).alloc (.cells #[.int .i64 0,.string ⟨#[]⟩,.string ⟨#[]⟩,.string ⟨#[]⟩,.string ⟨#[]⟩,.slice none 0 0,.slice none 0 0] 36))) A6 ((Af ((w1).alloc (.cells #[.int .i64 0,.string ⟨#[]⟩,.string ⟨#[]⟩,.string ⟨#[]⟩,.string ⟨#[]⟩,.slice none 0 0,.slice none 0 0] 36)) _).drew)
    replace A2:Below w1.heap.size w1 (((((w1).alloc (.cells #[.int .i64 0,.string ⟨#[]⟩,.string ⟨#[]⟩,.string ⟨#[]⟩,.string ⟨#[]⟩,.slice none 0 0,.slice none 0 0] 36))).alloc (.cells #[] 9))).drew:=((D0:Below w1.heap.size w1 (((w1).alloc (.cells #[.int .i64 0,.string ⟨#[]⟩,.string ⟨#[]⟩,.string ⟨#[]⟩,.string ⟨#[]⟩,.slice none 0 0,.slice none 0 0] 36)))).trans ((Af ((w1).alloc (.cells #[.int .i64 0,.string ⟨#[]⟩,.string ⟨#[]⟩,.string ⟨#[]⟩,.string ⟨#[]⟩,.slice none 0 0,.slice none 0 0] 36)) _).mono (by simp))).drew
    refine hK.out _ _ ?_ (fun A0=>?_)
    · exact ⟨Ab q0 A2,Ab q1 A2,Ab q2 A2,Ab q3 A2,Ab q4 A2,Ab q5 A2⟩
    clear hK K
    (try simp only [List.getElem_cons_succ,List.getElem_cons_zero,Act.put,List.setIfInBounds_toArray,List.set_cons_zero,List.set_cons_succ])
    refine BN 13 (by simp only [List.length_cons,List.length_nil];decide) (by kernel_rfl) (fun K hK=>?_)
    (try simp only [List.getElem_cons_succ,List.getElem_cons_zero])
    refine BA (by rfl) ?_
    have C7:=C0.call A2 (Nat.le_refl _)
    have C9:=A2.size
    refine Hm _ _ (by rfl) w1.heap.size _ [] (by rfl) A3 _ an (by rfl) C7 (by simp;omega) C9 ?_
    intro v1 w3 A1 E6 C1
    replace A1:=Own.nilOf A1
    replace A6:=A6.grownO A3 (by decide) C1
    replace A2:=A2.trans E6
    obtain ⟨sa,sc,rfl⟩:=Own.form A1
    rw [D1] at A1
    try rw [D1]
    clear A3 C1
    refine hK.out _ _ ?_ (fun A0=>?_)
    · exact ⟨Ab q0 A2,Ab q1 A2,Ab q2 A2,Ab q3 A2,Ab q4 A2,Ab q5 A2⟩
    clear hK K
    (try simp only [Act.put,List.setIfInBounds_toArray,List.set_cons_zero,List.set_cons_succ])
    refine Ah 14 ?_ (by simp only [List.length_cons,List.length_nil];decide) (by kernel_rfl) (fun _ _ _ h=>h) (by rfl) ?_ A0 ?_
    rotate_left
    · intro W B3;(try simp only [List.getElem_cons_succ,List.getElem_cons_zero]);(try go_split_ands);go_simp;(try with_reducible rfl)
    (try simp only [List.getElem_cons_succ,List.getElem_cons_zero,Act.put,List.setIfInBounds_toArray,List.set_cons_zero,List.set_cons_succ])
    refine EK (by kernel_rfl) ?_
    simp only [List.drop_succ_cons,List.drop_zero]
    clear A0 C0
    obtain ⟨w4,H9⟩:∃x,x=w3:=⟨_,rfl⟩
    subst H9
    obtain ⟨m0,m1,m2,m3,m4,m5,m6⟩:=A6.seven
    obtain ⟨t0,t1,t2,t3,t4,t5,t6⟩:=A6.thaws
    have B5:=C4.call A2
    have B7:=B9.call A2
    have F9:=B9.lt
    have B6:Ap (fun g=>w.heap.size+2<=g/\g≠tb) w4 (.slice sa AL sc) an:=A1.strs.strsP _ (fun g hg=>⟨by have:=(World.ownsRow.lt A1 g hg).1;omega,fun e=>Own.apartG A1 A6 (by decide) (by rw [hg,e])⟩)
    have A9:=A6.put7 (.int .i64 kd) (.string ⟨A4.toArray⟩) (.string ⟨vl.toArray⟩) (.string ⟨fs.toArray⟩) (.string ⟨ls.toArray⟩) (.slice sa AL sc) (.slice none 0 0)
    have A8:=B5.other7 (g:=tb) (by omega) (.int .i64 kd) (.string ⟨A4.toArray⟩) (.string ⟨vl.toArray⟩) (.string ⟨fs.toArray⟩) (.string ⟨ls.toArray⟩) (.slice sa AL sc) (.slice none 0 0)
    have B0:=B7.other7 (g:=tb) (by omega) (.int .i64 kd) (.string ⟨A4.toArray⟩) (.string ⟨vl.toArray⟩) (.string ⟨fs.toArray⟩) (.string ⟨ls.toArray⟩) (.slice sa AL sc) (.slice none 0 0)
    have A7:Ap (fun g=>w.heap.size+2<=g/\g≠tb) (sev w4 tb (.int .i64 kd) (.string ⟨A4.toArray⟩) (.string ⟨vl.toArray⟩) (.string ⟨fs.toArray⟩) (.string ⟨ls.toArray⟩) (.slice sa AL sc) (.slice none 0 0)) (.slice sa AL sc) an:=B6.keep (DJ (Below.refl tb w4) (Nat.le_refl _) (.int .i64 kd) (.string ⟨A4.toArray⟩) (.string ⟨vl.toArray⟩) (.string ⟨fs.toArray⟩) (.string ⟨ls.toArray⟩) (.slice sa AL sc) (.slice none 0 0)).size (fun g hg A5=>by
     have A5:w.heap.size+2<=g/\g≠tb:=A5
     unfold sev
     rw [Below.heap_setCell _ _ _ _ (by show g≠tb;exact A5.2),Below.heap_setCell _ _ _ _ (by show g≠tb;exact A5.2),Below.heap_setCell _ _ _ _ (by show g≠tb;exact A5.2),Below.heap_setCell _ _ _ _ (by show g≠tb;exact A5.2),Below.heap_setCell _ _ _ _ (by show g≠tb;exact A5.2),Below.heap_setCell _ _ _ _ (by show g≠tb;exact A5.2),Below.heap_setCell _ _ _ _ (by show g≠tb;exact A5.2)]) (fun g _ h=>h)
    have B1:=DJ ((D8.trans (A2.mono D8.size))) (show w.heap.size<=tb by omega) (.int .i64 kd) (.string ⟨A4.toArray⟩) (.string ⟨vl.toArray⟩) (.string ⟨fs.toArray⟩) (.string ⟨ls.toArray⟩) (.slice sa AL sc) (.slice none 0 0)
    unfold sev at A9 A8 B0 A7 B1
    have HF:=hZ9 (And.intro A9 (And.intro A7 (And.intro A8 (And.intro B0 B1))))
    have C8:w.heap.size+2<=tb:=by omega
    clear A9 A7 A8 B0 B1 B6 B5 B7 A1
    go_wp2_with fail
    go_meet
    exact ⟨tb,sa,sc,rfl,C8,HF.out.1,HF.out.2.1,HF.out.2.2.1,HF.out.2.2.2.1,HF.out.2.2.2.2⟩
 case rest=>
  obtain ⟨tb,sa,sc,rfl,H5,A6,D6,D7,E3,I9⟩:=hcut
  obtain ⟨w2,J9⟩:∃x,x=wc:=⟨_,rfl⟩
  subst J9
  clear C4 B9 D8 C0 K0
  obtain ⟨i0,z,hi,hz,hsz,K8,J7⟩:=Tu
  have HI:=hZ9 hi
  clear hi
  obtain ⟨C,hC⟩:∃c,c=w2.heap.size:=⟨_,rfl⟩
  have J2:C<=w2.heap.size:=by omega
  have I4:tb<C:=by have:=A6.lt;omega
  have K1:w.heap.size<C:=by have:=D7.lt;omega
  have K7:w.heap.size+1<C:=by have:=E3.lt;omega
  have G2:=Ap.keep (ok':=fun g=>w.heap.size+2<=g/\g≠tb/\g<C) D6 (Nat.le_refl _) (fun _ _ _=>rfl) (fun g hg h=>⟨h.1,h.2,by omega⟩)
  have D9:=CE.empty (fiG n) 36 (fun g=>C<=g) w2 C
  have L6:PL=0\/0<PL:=by omega
  clear D6
  obtain ⟨q0,q1,q2,q3,q4,q5,q6⟩:=D7.seven
  go_wp2_with fail
  clear q0 q1 q2 q3 q4 q5 q6
  go_loopw [23] (fun i wr=>∃(j:Nat) (vq:Value),j<=PL/\i=.int .i64 j/\Whole wr tb 36 #[.int .i64 kd,.string ⟨A4.toArray⟩,.string ⟨vl.toArray⟩,.string ⟨fs.toArray⟩,.string ⟨ls.toArray⟩,.slice sa AL sc,vq]/\CE (fiG n) 36 (fun g=>C<=g) wr C vq (ps.take j)/\Ap (fun g=>w.heap.size+2<=g/\g≠tb/\g<C) wr (.slice sa AL sc) an/\Whole wr w.heap.size 26 #[.int .i64 kd,.string ⟨A4.toArray⟩,.string ⟨vl.toArray⟩,.string ⟨fs.toArray⟩,.string ⟨ls.toArray⟩,.slice a5 AL c5,.slice a6 PL c6]/\Whole wr (w.heap.size+1) 36 #[.int .i64 0,.string ⟨#[]⟩,.string ⟨#[]⟩,.string ⟨#[]⟩,.string ⟨#[]⟩,.slice none 0 0,.slice none 0 0]/\Below w.heap.size w wr/\C<=wr.heap.size) (fun i _=>PL - (intOf i).toNat)
  case atStart=>exact ⟨0,_,Nat.zero_le _,rfl,A6,D9,G2,D7,E3,I9,J2⟩
  case round=>
   obtain ⟨j,vq,hj,rfl,A6,A3,D6,C4,B9,hb,C5⟩:=hrel
   clear D7 E3 I9 G2 D9 J2 hC
   obtain ⟨va,vc,rfl⟩:=A3.form
   have J0:(ps.take j).length=j:=by rw [List.length_take,I6.out];omega
   rw [J0] at A3 A6
   by_cases J6:j<PL
   · have D5:j<ps.length:=by rw [I6.out];exact J6
     have K9:=H6.out j D5
     have I8:=H1.out j D5
     have C6:Below w.heap.size w wr.drew:=hb.drew
     obtain ⟨d,rfl,g,o,rfl,hg,b5,d5,b6,d6,G4,y0,y1,y2,y3,y4,y5,y6⟩:=I0.out j D5
     have G4:=G4.call C6
     have y0:=(C6.cell (p:=⟨g,o+j*7,none⟩) hg).trans y0
     have y1:=(C6.cell (p:=⟨g,o+j*7+1,none⟩) hg).trans y1
     have y2:=(C6.cell (p:=⟨g,o+j*7+2,none⟩) hg).trans y2
     have y3:=(C6.cell (p:=⟨g,o+j*7+3,none⟩) hg).trans y3
     have y4:=(C6.cell (p:=⟨g,o+j*7+4,none⟩) hg).trans y4
     have y5:=(C6.cell (p:=⟨g,o+j*7+5,none⟩) hg).trans y5
     have y6:=(C6.cell (p:=⟨g,o+j*7+6,none⟩) hg).trans y6
     have F5:=fun v W h=>IH d rfl (ps[j]'D5) v W h I8
     clear IH I0 H6 H1 D3
     generalize ps[j]=p at*
     have L5:(0:Int)<=(j:Int):=by omega
     have L3:(j:Int)<(PL:Int):=by omega
     have hc:=F5 _ _ G4
     have K6:g<wr.drew.heap.size:=Nat.lt_of_lt_of_le hg C6.size
     have E2:g<C:=by omega
     have I7:∀g,(Value.slice va j vc).ownBlock=some g->g<wr.drew.heap.size:=fun g h=>(A3.block h).2
     have L0:(ps.take j).length+([p]:List Fi).length<=1000000000:=by rw [J0,List.length_singleton];omega
     replace A3:=A3.call (show Below wr.heap.size wr wr.drew from (Below.refl _ _).drew)
     replace D6:=D6.call (show Below wr.heap.size wr wr.drew from (Below.refl _ _).drew)
     replace A6:=A6.drew
     replace C4:=C4.drew
     replace B9:=B9.drew
     replace C5:C<=wr.drew.heap.size:=C5
     have tq:=A6.cell 6
     have aq:=C4.cell 6
     simp only [List.getElem?_toArray,List.getElem?_cons_zero,List.getElem?_cons_succ] at tq aq
     clear F5 G4 I8 hb
     go_wp2_with fail
     refine Gp 11 (fun W=>W.cell? ⟨tb,6,none⟩=some (.slice va j vc)/\W.cell? ⟨w.heap.size,6,none⟩=some (.slice (some ⟨g,o,none⟩) PL c6)/\W.cell? ⟨g,o+j*7,none⟩=some (.int .i64 p.kind)/\W.cell? ⟨g,o+j*7+1,none⟩=some (.string ⟨p.attr.toArray⟩)/\W.cell? ⟨g,o+j*7+2,none⟩=some (.string ⟨p.value.toArray⟩)/\W.cell? ⟨g,o+j*7+3,none⟩=some (.string ⟨p.first.toArray⟩)/\W.cell? ⟨g,o+j*7+4,none⟩=some (.string ⟨p.last.toArray⟩)/\W.cell? ⟨g,o+j*7+5,none⟩=some (.slice b5 p.any.length d5)/\W.cell? ⟨g,o+j*7+6,none⟩=some (.slice b6 p.parts.length d6)) (by kernel_rfl) (by kernel_rfl) ⟨tq,aq,y0,y1,y2,y3,y4,y5,y6⟩ (fun A0=>?_)
     refine Ah 0 ?_ (by simp only [List.length_cons,List.length_nil];decide) (by kernel_rfl) (fun _ _ _ h=>h) (by rfl) ?_ A0 ?_
     rotate_left
     · intro W B3;(try simp only [List.getElem_cons_zero]);(try go_split_ands);go_simp;(try with_reducible rfl)
     (try simp only [List.getElem_cons_zero,Act.put,List.setIfInBounds_toArray,List.set_cons_zero,List.set_cons_succ])
     refine Ah 1 ?_ (by simp only [List.length_cons,List.length_nil];decide) (by kernel_rfl) (fun _ _ _ h=>h) (by rfl) ?_ A0 ?_
     rotate_left
     · intro W B3;(try simp only [List.getElem_cons_succ,List.getElem_cons_zero]);(try go_split_ands);go_simp;(try with_reducible rfl)
     (try simp only [List.getElem_cons_succ,List.getElem_cons_zero,Act.put,List.setIfInBounds_toArray,List.set_cons_zero,List.set_cons_succ])
     refine Ah 2 ?_ (by simp only [List.length_cons,List.length_nil];decide) (by kernel_rfl) (fun _ _ _ h=>h) (by rfl) ?_ A0 ?_
     rotate_left
     · intro W B3;(try simp only [List.getElem_cons_succ,List.getElem_cons_zero]);(try go_split_ands);go_simp;(try with_reducible rfl)
     (try simp only [List.getElem_cons_succ,List.getElem_cons_zero,Act.put,List.setIfInBounds_toArray,List.set_cons_zero,List.set_cons_succ])
     refine Ah 3 ?_ (by simp only [List.length_cons,List.length_nil];decide) (by kernel_rfl) (fun _ _ _ h=>h) (by rfl) ?_ A0 ?_
     rotate_left
     · intro W B3;(try simp only [List.getElem_cons_succ,List.getElem_cons_zero]);(try go_split_ands);go_simp;(try with_reducible rfl)
     (try simp only [List.getElem_cons_succ,List.getElem_cons_zero,Act.put,List.setIfInBounds_toArray,List.set_cons_zero,List.set_cons_succ])
     refine Ah 4 ?_ (by simp only [List.length_cons,List.length_nil];decide) (by kernel_rfl) (fun _ _ _ h=>h) (by rfl) ?_ A0 ?_
     rotate_left
     · intro W B3;(try simp only [List.getElem_cons_succ,List.getElem_cons_zero]);(try go_split_ands);go_simp;(try with_reducible rfl)
     (try simp only [List.getElem_cons_succ,List.getElem_cons_zero,Act.put,List.setIfInBounds_toArray,List.set_cons_zero,List.set_cons_succ])
     refine Ah 5 ?_ (by simp only [List.length_cons,List.length_nil];decide) (by kernel_rfl) (fun _ _ _ h=>h) (by rfl) ?_ A0 ?_
     rotate_left
     · intro W B3;(try simp only [List.getElem_cons_succ,List.getElem_cons_zero]);(try go_split_ands);go_simp;(try with_reducible rfl)
     (try simp only [List.getElem_cons_succ,List.getElem_cons_zero,Act.put,List.setIfInBounds_toArray,List.set_cons_zero,List.set_cons_succ])
     refine Ah 6 ?_ (by simp only [List.length_cons,List.length_nil];decide) (by kernel_rfl) (fun _ _ _ h=>h) (by rfl) ?_ A0 ?_
     rotate_left
     · intro W B3;(try simp only [List.getElem_cons_succ,List.getElem_cons_zero]);(try go_split_ands);go_simp;(try with_reducible rfl)
     (try simp only [List.getElem_cons_succ,List.getElem_cons_zero,Act.put,List.setIfInBounds_toArray,List.set_cons_zero,List.set_cons_succ])
     refine BN 7 (by simp only [List.length_cons,List.length_nil];decide) (by kernel_rfl) (fun K hK=>?_)
     (try simp only [List.getElem_cons_succ,List.getElem_cons_zero])
     refine BA (by rfl) ?_
     go_simp
     (go_at_call 20;(with_reducible refine hc.mono ?_);rintro e w5 ⟨v5,rfl,J4,B1⟩)
     obtain ⟨e5,f5,e6,f6,rfl,E7,L8,G1⟩:=FiV.partsO J4
     have K5:=B1.size
     have D0:=C6.trans (B1.mono C6.size)
     have C2:=A3.call B1
     have A9:=A6.call B1
     have A8:=C4.call B1
     have B0:=B9.call B1
     have A7:=D6.call B1
     have J5:=Ab tq B1
     have L1:g<wr.drew.heap.size:=K6
     clear A3 A6 C4 B9 D6 hc
     refine hK.out _ _ ?_ (fun A0=>?_)
     · exact ⟨Ab tq B1,Ab aq B1,Ab y0 B1,Ab y1 B1,Ab y2 B1,Ab y3 B1,Ab y4 B1,Ab y5 B1,Ab y6 B1⟩
     clear hK K
     (try simp only [Act.put,List.setIfInBounds_toArray,List.set_cons_zero,List.set_cons_succ])
     refine BN 8 (by simp only [List.length_cons,List.length_nil];decide) (by kernel_rfl) (fun K hK=>?_)
     (try simp only [List.getElem_cons_succ,List.getElem_cons_zero])
     refine BA (by rfl) ?_
     go_simp
     have D4:=Af w5 (.cells #[.int .i64 p.kind,.string ⟨p.attr.toArray⟩,.string ⟨p.value.toArray⟩,.string ⟨p.first.toArray⟩,.string ⟨p.last.toArray⟩,.slice e5 p.any.length f5,.slice e6 p.parts.length f6] 36)
     have F3:=Whole.made w5 36 #[.int .i64 p.kind,.string ⟨p.attr.toArray⟩,.string ⟨p.value.toArray⟩,.string ⟨p.first.toArray⟩,.string ⟨p.last.toArray⟩,.slice e5 p.any.length f5,.slice e6 p.parts.length f6]
     have E4:=Ap.keep (ok':=fun g=>C<=g/\(Value.slice va j vc).ownBlock≠some g) (E7.call D4) (Nat.le_refl _) (fun _ _ _=>rfl) (fun g _ h=>⟨Nat.le_trans C5 h,fun e=>by have h2:=I7 g e;have h:wr.drew.heap.size<=g:=h;omega⟩)
     have F2:=(G1.call D4).keep (ok':=fun g=>C<=g/\(Value.slice va j vc).ownBlock≠some g) (Nat.le_refl _) (fun _ _ _=>rfl) (fun g _ h=>⟨Nat.le_trans C5 h,fun e=>by have h2:=I7 g e;have h:wr.drew.heap.size<=g:=h;omega⟩)
     have E8:=Kw.oneFi (n:=d+1) (rok:=fun _=>True) (x:=p) F3 trivial E4 F2
     replace C2:=C2.call D4
     replace A9:=A9.call D4
     replace A8:=A8.call D4
     replace B0:=B0.call D4
     replace A7:=A7.call D4
     replace D0:=D0.trans (D4.mono D0.size)
     have B4:Below wr.drew.heap.size wr.drew (w5.alloc (.cells #[.int .i64 p.kind,.string ⟨p.attr.toArray⟩,.string ⟨p.value.toArray⟩,.string ⟨p.first.toArray⟩,.string ⟨p.last.toArray⟩,.slice e5 p.any.length f5,.slice e6 p.parts.length f6] 36)):=B1.trans (D4.mono K5)
     have G8:C<=(w5.alloc (.cells #[.int .i64 p.kind,.string ⟨p.attr.toArray⟩,.string ⟨p.value.toArray⟩,.string ⟨p.first.toArray⟩,.string ⟨p.last.toArray⟩,.slice e5 p.any.length f5,.slice e6 p.parts.length f6] 36)).heap.size:=Nat.le_trans C5 B4.size
     clear E7 G1 E4 F2 F3 J5
     refine hK.out _ _ ?_ (fun A0=>?_)
     · exact ⟨Ab tq B4,Ab aq B4,Ab y0 B4,Ab y1 B4,Ab y2 B4,Ab y3 B4,Ab y4 B4,Ab y5 B4,Ab y6 B4⟩
     clear hK K
     (try simp only [List.getElem_cons_succ,List.getElem_cons_zero,Act.put,List.setIfInBounds_toArray,List.set_cons_zero,List.set_cons_succ])
     refine BN 9 (by simp only [List.length_cons,List.length_nil];decide) (by kernel_rfl) (fun K hK=>?_)
     (try simp only [List.getElem_cons_succ,List.getElem_cons_zero])
     refine BA (by rfl) ?_
     refine Afr (fiG (d+1)) 36 34 Tryz.underlying34 HI.out hz (by rw [hsz];rfl) (by rw [K8];decide) (by rw [J7];rfl) _ _ (by rfl) (fun g=>C<=g) C _ (ps.take j) (by rfl) C2 _ [p] (by rfl) E8 L0 G8 ?_
     intro v7 w7 B8 C3 G6 H4
     have D2:=A9.below C3 I4
     have E0:=A8.below C3 K1
     have F7:=B0.below C3 K7
     have G0:=Ap.keep (ok':=fun g=>w.heap.size+2<=g/\g≠tb/\g<C) A7 C3.size (fun g _ A5=>C3.block g A5.2.2) (fun g _ h=>h)
     replace D0:=D0.trans (C3.mono (by omega))
     have t7:=D2.cell 6
     have a7:=E0.cell 6
     simp only [List.getElem?_toArray,List.getElem?_cons_zero,List.getElem?_cons_succ] at t7 a7
     clear C2 E8 A9 A8 B0 A7 G6 H4
     refine hK.out _ _ ?_ (fun A0=>?_)
     · exact ⟨t7,a7,(C3.cell (p:=⟨g,o+j*7,none⟩) E2).trans (Ab y0 B4),(C3.cell (p:=⟨g,o+j*7+1,none⟩) E2).trans (Ab y1 B4),(C3.cell (p:=⟨g,o+j*7+2,none⟩) E2).trans (Ab y2 B4),(C3.cell (p:=⟨g,o+j*7+3,none⟩) E2).trans (Ab y3 B4),(C3.cell (p:=⟨g,o+j*7+4,none⟩) E2).trans (Ab y4 B4),(C3.cell (p:=⟨g,o+j*7+5,none⟩) E2).trans (Ab y5 B4),(C3.cell (p:=⟨g,o+j*7+6,none⟩) E2).trans (Ab y6 B4)⟩
     clear hK K
     (try simp only [Act.put,List.setIfInBounds_toArray,List.set_cons_zero,List.set_cons_succ])
     refine Ah 10 ?_ (by simp only [List.length_cons,List.length_nil];decide) (by kernel_rfl) (fun _ _ _ h=>h) (by rfl) ?_ A0 ?_
     rotate_left
     · intro W B3;(try simp only [List.getElem_cons_succ,List.getElem_cons_zero]);(try go_split_ands);go_simp;(try with_reducible rfl)
     (try simp only [List.getElem_cons_succ,List.getElem_cons_zero,Act.put,List.setIfInBounds_toArray,List.set_cons_zero,List.set_cons_succ])
     refine EK (by kernel_rfl) ?_
     simp only [List.drop_succ_cons,List.drop_zero]
     clear A0
     rw [<-K9] at B8
     obtain ⟨vb,vd,rfl⟩:=B8.form
     have F0:(ps.take (j+1)).length=j+1:=by rw [List.length_take];omega
     rw [F0] at B8
     try rw [F0]
     have t8:=D2.thaw 6
     have E5:=D2.put 6 (.slice vb (j+1) vd)
     simp only [List.setIfInBounds_toArray,List.set_cons_zero,List.set_cons_succ] at E5
     have H3:=E0.other (p:=⟨tb,6,none⟩) (by show w.heap.size≠tb;omega) (.slice vb (j+1) vd)
     have H7:=F7.other (p:=⟨tb,6,none⟩) (by show w.heap.size+1≠tb;omega) (.slice vb (j+1) vd)
     have F1:=B8.kept ((Bh.refl w7.heap.size tb w7).setCell 6 (.slice vb (j+1) vd)) (Nat.le_refl _) I4
     have H8:Ap (fun g=>w.heap.size+2<=g/\g≠tb/\g<C) (w7.setCell ⟨tb,6,none⟩ (.slice vb (j+1) vd)) (.slice sa AL sc) an:=Ap.keep G0 (by simp [World.setCell]) (fun g _ A5=>Below.heap_setCell _ _ _ _ A5.2.1) (fun g _ h=>h)
     have K4:=D0.setCell (p:=⟨tb,6,none⟩) (show w.heap.size<=tb by omega) (.slice vb (j+1) vd)
     clear D2 E0 F7 B8 G0 D0 y0 y1 y2 y3 y4 y5 y6
     go_wp2_with fail
     go_roundw
     case rel=>exact ⟨j+1,_,by omega,by go_num,E5,F1,H8,H3,H7,K4,by have:=C3.size;simp [World.setCell];omega⟩
     case measure=>simp [intOf];omega
   · have H0:j=PL:=by omega
     subst H0
     rw [D3.out] at A3
     obtain ⟨m0,m1,m2,m3,m4,m5,m6⟩:=A6.seven
     obtain ⟨k0,k1,k2,k3,k4,k5,k6⟩:=B9.seven
     obtain ⟨t0,t1,t2,t3,t4,t5,t6⟩:=B9.thaws
     have E1:=B9.put7 (.int .i64 kd) (.string ⟨A4.toArray⟩) (.string ⟨vl.toArray⟩) (.string ⟨fs.toArray⟩) (.string ⟨ls.toArray⟩) (.slice sa AL sc) (.slice va j vc)
     have J1:=A3.fis
     have F8:Ap (fun g=>w.heap.size<=g) (sev wr (w.heap.size+1) (.int .i64 kd) (.string ⟨A4.toArray⟩) (.string ⟨vl.toArray⟩) (.string ⟨fs.toArray⟩) (.string ⟨ls.toArray⟩) (.slice sa AL sc) (.slice va j vc)) (.slice sa AL sc) an:=Ap.keep D6 (DJ (Below.refl (w.heap.size+1) wr) (Nat.le_refl _) (.int .i64 kd) (.string ⟨A4.toArray⟩) (.string ⟨vl.toArray⟩) (.string ⟨fs.toArray⟩) (.string ⟨ls.toArray⟩) (.slice sa AL sc) (.slice va j vc)).size (fun g hg A5=>by
      have A5:w.heap.size+2<=g/\g≠tb/\g<C:=A5
      unfold sev
      rw [Below.heap_setCell _ _ _ _ (by show g≠w.heap.size+1;omega),Below.heap_setCell _ _ _ _ (by show g≠w.heap.size+1;omega),Below.heap_setCell _ _ _ _ (by show g≠w.heap.size+1;omega),Below.heap_setCell _ _ _ _ (by show g≠w.heap.size+1;omega),Below.heap_setCell _ _ _ _ (by show g≠w.heap.size+1;omega),Below.heap_setCell _ _ _ _ (by show g≠w.heap.size+1;omega),Below.heap_setCell _ _ _ _ (by show g≠w.heap.size+1;omega)]) (fun g _ h=>by
      have h:w.heap.size+2<=g/\g≠tb/\g<C:=h
      show w.heap.size<=g
      omega)
     have F6:BR (n+1) (fun g=>w.heap.size<=g) (sev wr (w.heap.size+1) (.int .i64 kd) (.string ⟨A4.toArray⟩) (.string ⟨vl.toArray⟩) (.string ⟨fs.toArray⟩) (.string ⟨ls.toArray⟩) (.slice sa AL sc) (.slice va j vc)) (.slice va j vc) ps:=J1.keep (DJ (Below.refl (w.heap.size+1) wr) (Nat.le_refl _) (.int .i64 kd) (.string ⟨A4.toArray⟩) (.string ⟨vl.toArray⟩) (.string ⟨fs.toArray⟩) (.string ⟨ls.toArray⟩) (.slice sa AL sc) (.slice va j vc)).size (fun g hg A5=>by
      have A5:C<=g:=A5
      unfold sev
      rw [Below.heap_setCell _ _ _ _ (by show g≠w.heap.size+1;omega),Below.heap_setCell _ _ _ _ (by show g≠w.heap.size+1;omega),Below.heap_setCell _ _ _ _ (by show g≠w.heap.size+1;omega),Below.heap_setCell _ _ _ _ (by show g≠w.heap.size+1;omega),Below.heap_setCell _ _ _ _ (by show g≠w.heap.size+1;omega),Below.heap_setCell _ _ _ _ (by show g≠w.heap.size+1;omega),Below.heap_setCell _ _ _ _ (by show g≠w.heap.size+1;omega)]) (fun g _ h=>by
      have h:C<=g:=h
      show w.heap.size<=g
      omega)
     have H2:=DJ hb (Nat.le_succ _) (.int .i64 kd) (.string ⟨A4.toArray⟩) (.string ⟨vl.toArray⟩) (.string ⟨fs.toArray⟩) (.string ⟨ls.toArray⟩) (.slice sa AL sc) (.slice va j vc)
     have I3:Hid (FiV (n+1) (fun g=>w.heap.size<=g) (sev wr (w.heap.size+1) (.int .i64 kd) (.string ⟨A4.toArray⟩) (.string ⟨vl.toArray⟩) (.string ⟨fs.toArray⟩) (.string ⟨ls.toArray⟩) (.slice sa AL sc) (.slice va j vc)) (.agg #[.int .i64 kd,.string ⟨A4.toArray⟩,.string ⟨vl.toArray⟩,.string ⟨fs.toArray⟩,.string ⟨ls.toArray⟩,.slice sa AL sc,.slice va j vc]) (.mk kd A4 vl fs ls an ps)):=hZ9 ⟨_,_,rfl,F8,F6⟩
     unfold sev at E1 H2 I3
     have K2:=hZ9 E1
     have K3:=hZ9 H2
     clear E1 H2 F8 F6 J1 IH I0 H6 H1 D3 A3 D6 A6 C4
     go_wp2_with fail
     (try simp only [Exit.inBlock,Exit.then])
     generalize ((((((((((((((wr).setCell ⟨w.heap.size+1,0,none⟩ (.int .i64 kd))).setCell ⟨w.heap.size+1,1,none⟩ (.string ⟨A4.toArray⟩))).setCell ⟨w.heap.size+1,2,none⟩ (.string ⟨vl.toArray⟩))).setCell ⟨w.heap.size+1,3,none⟩ (.string ⟨fs.toArray⟩))).setCell ⟨w.heap.size+1,4,none⟩ (.string ⟨ls.toArray⟩))).setCell ⟨w.heap.size+1,5,none⟩ (.slice sa AL sc))).setCell ⟨w.heap.size+1,6,none⟩ (.slice va j vc))=w6 at*
     have G7:=K2.out
     obtain ⟨r0,r1,r2,r3,r4,r5,r6⟩:=G7.seven
     refine bodyPost_ret (v:=.agg #[.int .i64 kd,.string ⟨A4.toArray⟩,.string ⟨vl.toArray⟩,.string ⟨fs.toArray⟩,.string ⟨ls.toArray⟩,.slice sa AL sc,.slice va j vc]) ?_ rfl ⟨_,rfl,I3.out,K3.out⟩
     rw [Bv rfl]
     go_simp)
end Go.Proofs.YtgngjfjaelgaeaaGreatDoor
