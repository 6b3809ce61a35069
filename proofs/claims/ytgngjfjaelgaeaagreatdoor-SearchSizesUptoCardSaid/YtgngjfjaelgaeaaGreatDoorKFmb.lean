/- The walks of the searching law's helpers: Theirs, Small, once, few. Conditions: as stated. -/
import Derived.Test.YtgngjfjaelgaeaaGreatDoorKFit
import Derived.Test.YtgngjfjaelgaeaaGreatDoorKRel
set_option maxRecDepth 100000
set_option maxHeartbeats 16000000
namespace Go.Proofs.YtgngjfjaelgaeaaGreatDoor
open Go.RowKit
open FiS (Fi)
attribute [local go_sem ↓] Go.wp_at_zero Go.wp_at_succ
def EM (w:World) (g:Nat):Nat->List Value->World
 | _,[]=>w
 | i,v :: r=>EM (w.setCell ⟨g,i,none⟩ v) g (i+1) r
theorem Ea (g k:Nat) (h:k≠g):∀(vs:List Value) (i:Nat) (w:World),(EM w g i vs).heap[k]?=w.heap[k]?/\(EM w g i vs).heap.size=w.heap.size
 | [],_,_=>⟨rfl,rfl⟩
 | v :: r,i,w=>by
  have ih:=Ea g k h r (i+1) (w.setCell ⟨g,i,none⟩ v)
  exact ⟨ih.1.trans (Below.heap_setCell w ⟨g,i,none⟩ v k h),ih.2.trans (World.size_setCell ..)⟩
theorem IB {B:Nat} {w0:World} {g:Nat} (hg:B<=g):∀(vs:List Value) (i:Nat) (w:World),Below B w0 w->Below B w0 (EM w g i vs)
 | [],_,_,h=>h
 | v :: r,i,_,h=>IB hg r (i+1) _ (h.setCell (p:=⟨g,i,none⟩) hg v)
theorem IC {g:Nat} {T:TypeId}:∀(vs pre rest:List Value) (w:World),rest.length=vs.length->Whole w g T (pre++rest).toArray->Whole (EM w g pre.length vs) g T (pre++vs).toArray
 | [],pre,rest,_,hl,h=>by
  have:rest=[]:=List.eq_nil_of_length_eq_zero hl
  rw [this] at h
  exact h
 | v :: vs,pre,[],_,hl,_=>by simp at hl
 | v :: vs,pre,r :: rest,w,hl,h=>by
  have h2:=h.put pre.length v
  have e:((pre++r :: rest).toArray.setIfInBounds pre.length v)=((pre++[v])++rest).toArray:=by
   rw [List.setIfInBounds_toArray]
   congr 1
   rw [List.set_append_right _ _ (Nat.le_refl _),Nat.sub_self,List.set_cons_zero,List.append_assoc]
   rfl
  rw [e] at h2
  have ih:=IC vs (pre++[v]) rest (w.setCell ⟨g,pre.length,none⟩ v) (by simpa using hl) h2
  rw [List.length_append,List.append_assoc] at ih
  exact ih
theorem XV (n:Nat) (q:SeS.Rq) (v:Value) (w:World) (h:Fb n w v q) (D2:FiS.wdF 20000 q.filter) (E3:q.attrs.length<=1048576):Calls Tryz.prog 10 #[v] w fun e w'=>∃v',e=.returned v'/\Fb (n+1) w' v' q/\Below w.heap.size w w':=by
 unfold Fb at h⊢
 obtain ⟨a5,a6,aa,c5,c6,ca,rfl,D6,D5⟩:=h
 obtain ⟨bs,sc,dr,x,at_,tn,sz⟩:=q
 simp only at D6 D5 D2 E3⊢
 have E0:=hZ9 (fun W (hb:Below w.heap.size w W)=>OT n x _ W (D6.call hb) D2)
 have D8:=hZ9 (fun W (hb:Below w.heap.size w W)=>D5.call hb (Nat.le_refl _))
 clear D6 D5 D2
 generalize D9:at_.length=QL at*
 have C1:=hZ9 D9
 have E1:=Af w (.cells #[.string ⟨bs.toArray⟩,.int .i64 sc,.int .i64 dr,.int .i64 x.kind,.string ⟨x.attr.toArray⟩,.string ⟨x.value.toArray⟩,.string ⟨x.first.toArray⟩,.string ⟨x.last.toArray⟩,.slice a5 x.any.length c5,.slice a6 x.parts.length c6,.slice aa QL ca,.bool tn,.int .i64 sz] 28)
 have D7:=Af (w.alloc (.cells #[.string ⟨bs.toArray⟩,.int .i64 sc,.int .i64 dr,.int .i64 x.kind,.string ⟨x.attr.toArray⟩,.string ⟨x.value.toArray⟩,.string ⟨x.first.toArray⟩,.string ⟨x.last.toArray⟩,.slice a5 x.any.length c5,.slice a6 x.parts.length c6,.slice aa QL ca,.bool tn,.int .i64 sz] 28)) (.cells #[.string ⟨#[]⟩,.int .i64 0,.int .i64 0,.int .i64 0,.string ⟨#[]⟩,.string ⟨#[]⟩,.string ⟨#[]⟩,.string ⟨#[]⟩,.slice none 0 0,.slice none 0 0,.slice none 0 0,.bool false,.int .i64 0] 38)
 have e1:(w.alloc (.cells #[.string ⟨bs.toArray⟩,.int .i64 sc,.int .i64 dr,.int .i64 x.kind,.string ⟨x.attr.toArray⟩,.string ⟨x.value.toArray⟩,.string ⟨x.first.toArray⟩,.string ⟨x.last.toArray⟩,.slice a5 x.any.length c5,.slice a6 x.parts.length c6,.slice aa QL ca,.bool tn,.int .i64 sz] 28)).heap.size=w.heap.size+1:=by simp
 have B1:=E1.trans (D7.mono (by rw [e1];omega))
 have B0:=(Whole.made w 28 #[.string ⟨bs.toArray⟩,.int .i64 sc,.int .i64 dr,.int .i64 x.kind,.string ⟨x.attr.toArray⟩,.string ⟨x.value.toArray⟩,.string ⟨x.first.toArray⟩,.string ⟨x.last.toArray⟩,.slice a5 x.any.length c5,.slice a6 x.parts.length c6,.slice aa QL ca,.bool tn,.int .i64 sz]).call D7
 have D1:Whole ((w.alloc (.cells #[.string ⟨bs.toArray⟩,.int .i64 sc,.int .i64 dr,.int .i64 x.kind,.string ⟨x.attr.toArray⟩,.string ⟨x.value.toArray⟩,.string ⟨x.first.toArray⟩,.string ⟨x.last.toArray⟩,.slice a5 x.any.length c5,.slice a6 x.parts.length c6,.slice aa QL ca,.bool tn,.int .i64 sz] 28)).alloc (.cells #[.string ⟨#[]⟩,.int .i64 0,.int .i64 0,.int .i64 0,.string ⟨#[]⟩,.string ⟨#[]⟩,.string ⟨#[]⟩,.string ⟨#[]⟩,.slice none 0 0,.slice none 0 0,.slice none 0 0,.bool false,.int .i64 0] 38)) (w.heap.size+1) 38 #[.string ⟨#[]⟩,.int .i64 0,.int .i64 0,.int .i64 0,.string ⟨#[]⟩,.string ⟨#[]⟩,.string ⟨#[]⟩,.string ⟨#[]⟩,.slice none 0 0,.slice none 0 0,.slice none 0 0,.bool false,.int .i64 0]:=by
  have:=Whole.made (w.alloc (.cells #[.string ⟨bs.toArray⟩,.int .i64 sc,.int .i64 dr,.int .i64 x.kind,.string ⟨x.attr.toArray⟩,.string ⟨x.value.toArray⟩,.string ⟨x.first.toArray⟩,.string ⟨x.last.toArray⟩,.slice a5 x.any.length c5,.slice a6 x.parts.length c6,.slice aa QL ca,.bool tn,.int .i64 sz] 28)) 38 #[.string ⟨#[]⟩,.int .i64 0,.int .i64 0,.int .i64 0,.string ⟨#[]⟩,.string ⟨#[]⟩,.string ⟨#[]⟩,.string ⟨#[]⟩,.slice none 0 0,.slice none 0 0,.slice none 0 0,.bool false,.int .i64 0]
  rwa [e1] at this
 have E6:=D1.lt
 clear E1 D7 e1 D9
 go_enter Tryz.func10,Tryz.ntmps10
 go_upto_region 1 with fail
 generalize (w.alloc (.cells #[.string ⟨bs.toArray⟩,.int .i64 sc,.int .i64 dr,.int .i64 x.kind,.string ⟨x.attr.toArray⟩,.string ⟨x.value.toArray⟩,.string ⟨x.first.toArray⟩,.string ⟨x.last.toArray⟩,.slice a5 x.any.length c5,.slice a6 x.parts.length c6,.slice aa QL ca,.bool tn,.int .i64 sz] 28)).alloc (.cells #[.string ⟨#[]⟩,.int .i64 0,.int .i64 0,.int .i64 0,.string ⟨#[]⟩,.string ⟨#[]⟩,.string ⟨#[]⟩,.string ⟨#[]⟩,.slice none 0 0,.slice none 0 0,.slice none 0 0,.bool false,.int .i64 0] 38)=w1 at*
 have q0:=B0.cell 0
 have q1:=B0.cell 1
 have q2:=B0.cell 2
 have q3:=B0.cell 3
 have q4:=B0.cell 4
 have q5:=B0.cell 5
 have q6:=B0.cell 6
 have q7:=B0.cell 7
 have q8:=B0.cell 8
 have q9:=B0.cell 9
 have B5:=B0.cell 10
 have B4:=B0.cell 11
 have B3:=B0.cell 12
 simp only [List.getElem?_toArray,List.getElem?_cons_zero,List.getElem?_cons_succ] at q0 q1 q2 q3 q4 q5 q6 q7 q8 q9 B5 B4 B3
 have A0:Below w1.heap.size w1 w1.drew:=below_drewN w1 1
 refine Gp 18 (fun W=>W.cell? ⟨w.heap.size,0,none⟩=some (.string ⟨bs.toArray⟩)/\W.cell? ⟨w.heap.size,1,none⟩=some (.int .i64 sc)/\W.cell? ⟨w.heap.size,2,none⟩=some (.int .i64 dr)/\W.cell? ⟨w.heap.size,3,none⟩=some (.int .i64 x.kind)/\W.cell? ⟨w.heap.size,4,none⟩=some (.string ⟨x.attr.toArray⟩)/\W.cell? ⟨w.heap.size,5,none⟩=some (.string ⟨x.value.toArray⟩)/\W.cell? ⟨w.heap.size,6,none⟩=some (.string ⟨x.first.toArray⟩)/\W.cell? ⟨w.heap.size,7,none⟩=some (.string ⟨x.last.toArray⟩)/\W.cell? ⟨w.heap.size,8,none⟩=some (.slice a5 x.any.length c5)/\W.cell? ⟨w.heap.size,9,none⟩=some (.slice a6 x.parts.length c6)/\W.cell? ⟨w.heap.size,10,none⟩=some (.slice aa QL ca)/\W.cell? ⟨w.heap.size,11,none⟩=some (.bool tn)/\W.cell? ⟨w.heap.size,12,none⟩=some (.int .i64 sz)) (by kernel_rfl) (by kernel_rfl) ⟨q0,q1,q2,q3,q4,q5,q6,q7,q8,q9,B5,B4,B3⟩ (fun A1=>?_)
 refine Ah 0 ?_ (by simp only [List.length_cons,List.length_nil];decide) (by kernel_rfl) (fun _ _ _ h=>h) (by rfl) ?_ A1 ?_
 rotate_left
 · intro W A8;(try simp only [List.getElem_cons_zero]);(try go_split_ands);go_simp;(try with_reducible rfl)
 (try simp only [List.getElem_cons_zero,Act.put,List.setIfInBounds_toArray,List.set_cons_zero,List.set_cons_succ])
 refine Ah 1 ?_ (by simp only [List.length_cons,List.length_nil];decide) (by kernel_rfl) (fun _ _ _ h=>h) (by rfl) ?_ A1 ?_
 rotate_left
 · intro W A8;(try simp only [List.getElem_cons_succ,List.getElem_cons_zero]);(try go_split_ands);go_simp;(try with_reducible rfl)
 (try simp only [List.getElem_cons_succ,List.getElem_cons_zero,Act.put,List.setIfInBounds_toArray,List.set_cons_zero,List.set_cons_succ])
 refine Ah 2 ?_ (by simp only [List.length_cons,List.length_nil];decide) (by kernel_rfl) (fun _ _ _ h=>h) (by rfl) ?_ A1 ?_
 rotate_left
 · intro W A8;(try simp only [List.getElem_cons_succ,List.getElem_cons_zero]);(try go_split_ands);go_simp;(try with_reducible rfl)
 (try simp only [List.getElem_cons_succ,List.getElem_cons_zero,Act.put,List.setIfInBounds_toArray,List.set_cons_zero,List.set_cons_succ])
 refine Ah 3 ?_ (by simp only [List.length_cons,List.length_nil];decide) (by kernel_rfl) (fun _ _ _ h=>h) (by rfl) ?_ A1 ?_
 rotate_left
 · intro W A8;(try simp only [List.getElem_cons_succ,List.getElem_cons_zero]);(try go_split_ands);go_simp;(try with_reducible rfl)
 (try simp only [List.getElem_cons_succ,List.getElem_cons_zero,Act.put,List.setIfInBounds_toArray,List.set_cons_zero,List.set_cons_succ])
 refine Ah 4 ?_ (by simp only [List.length_cons,List.length_nil];decide) (by kernel_rfl) (fun _ _ _ h=>h) (by rfl) ?_ A1 ?_
 rotate_left
 · intro W A8;(try simp only [List.getElem_cons_succ,List.getElem_cons_zero]);(try go_split_ands);go_simp;(try with_reducible rfl)
 (try simp only [List.getElem_cons_succ,List.getElem_cons_zero,Act.put,List.setIfInBounds_toArray,List.set_cons_zero,List.set_cons_succ])
 refine Ah 5 ?_ (by simp only [List.length_cons,List.length_nil];decide) (by kernel_rfl) (fun _ _ _ h=>h) (by rfl) ?_ A1 ?_
 rotate_left
 · intro W A8;(try simp only [List.getElem_cons_succ,List.getElem_cons_zero]);(try go_split_ands);go_simp;(try with_reducible rfl)
 (try simp only [List.getElem_cons_succ,List.getElem_cons_zero,Act.put,List.setIfInBounds_toArray,List.set_cons_zero,List.set_cons_succ])
 refine Ah 6 ?_ (by simp only [List.length_cons,List.length_nil];decide) (by kernel_rfl) (fun _ _ _ h=>h) (by rfl) ?_ A1 ?_
 rotate_left
 · intro W A8;(try simp only [List.getElem_cons_succ,List.getElem_cons_zero]);(try go_split_ands);go_simp;(try with_reducible rfl)
 (try simp only [List.getElem_cons_succ,List.getElem_cons_zero,Act.put,List.setIfInBounds_toArray,List.set_cons_zero,List.set_cons_succ])
 refine Ah 7 ?_ (by simp only [List.length_cons,List.length_nil];decide) (by kernel_rfl) (fun _ _ _ h=>h) (by rfl) ?_ A1 ?_
 rotate_left
 · intro W A8;(try simp only [List.getElem_cons_succ,List.getElem_cons_zero]);(try go_split_ands);go_simp;(try with_reducible rfl)
 (try simp only [List.getElem_cons_succ,List.getElem_cons_zero,Act.put,List.setIfInBounds_toArray,List.set_cons_zero,List.set_cons_succ])
 refine Ah 10 ?_ (by simp only [List.length_cons,List.length_nil];decide) (by kernel_rfl) (fun _ _ _ h=>h) (by rfl) ?_ A1 ?_
 rotate_left
 · intro W A8;(try simp only [List.getElem_cons_succ,List.getElem_cons_zero]);(try go_split_ands);go_simp;(try with_reducible rfl)
 (try simp only [List.getElem_cons_succ,List.getElem_cons_zero,Act.put,List.setIfInBounds_toArray,List.set_cons_zero,List.set_cons_succ])
 refine Ah 11 ?_ (by simp only [List.length_cons,List.length_nil];decide) (by kernel_rfl) (fun _ _ _ h=>h) (by rfl) ?_ A1 ?_
 rotate_left
 · intro W A8;(try simp only [List.getElem_cons_succ,List.getElem_cons_zero]);(try go_split_ands);go_simp;(try with_reducible rfl)
 (try simp only [List.getElem_cons_succ,List.getElem_cons_zero,Act.put,List.setIfInBounds_toArray,List.set_cons_zero,List.set_cons_succ])
 refine Ah 13 ?_ (by simp only [List.length_cons,List.length_nil];decide) (by kernel_rfl) (fun _ _ _ h=>h) (by rfl) ?_ A1 ?_
 rotate_left
 · intro W A8;(try simp only [List.getElem_cons_succ,List.getElem_cons_zero]);(try go_split_ands);go_simp;(try with_reducible rfl)
 (try simp only [List.getElem_cons_succ,List.getElem_cons_zero,Act.put,List.setIfInBounds_toArray,List.set_cons_zero,List.set_cons_succ])
 refine Ah 14 ?_ (by simp only [List.length_cons,List.length_nil];decide) (by kernel_rfl) (fun _ _ _ h=>h) (by rfl) ?_ A1 ?_
 rotate_left
 · intro W A8;(try simp only [List.getElem_cons_succ,List.getElem_cons_zero]);(try go_split_ands);go_simp;(try with_reducible rfl)
 (try simp only [List.getElem_cons_succ,List.getElem_cons_zero,Act.put,List.setIfInBounds_toArray,List.set_cons_zero,List.set_cons_succ])
 refine Ah 15 ?_ (by simp only [List.length_cons,List.length_nil];decide) (by kernel_rfl) (fun _ _ _ h=>h) (by rfl) ?_ A1 ?_
 rotate_left
 · intro W A8;(try simp only [List.getElem_cons_succ,List.getElem_cons_zero]);(try go_split_ands);go_simp;(try with_reducible rfl)
 (try simp only [List.getElem_cons_succ,List.getElem_cons_zero,Act.put,List.setIfInBounds_toArray,List.set_cons_zero,List.set_cons_succ])
 refine Ah 16 ?_ (by simp only [List.length_cons,List.length_nil];decide) (by kernel_rfl) (fun _ _ _ h=>h) (by rfl) ?_ A1 ?_
 rotate_left
 · intro W A8;(try simp only [List.getElem_cons_succ,List.getElem_cons_zero]);(try go_split_ands);go_simp;(try with_reducible rfl)
 (try simp only [List.getElem_cons_succ,List.getElem_cons_zero,Act.put,List.setIfInBounds_toArray,List.set_cons_zero,List.set_cons_succ])
 refine NR 8 9 (by simp only [List.length_cons,List.length_nil];decide) (by simp only [List.length_cons,List.length_nil];decide) (by kernel_rfl) (fun K hK=>?_) (fun K hK=>?_)
 · (try simp only [List.getElem_cons_succ,List.getElem_cons_zero])
   refine BA (by rfl) ?_
   go_simp
   (go_at_call 20;(with_reducible refine (E0.out _ (B1.trans (A0.mono B1.size))).mono ?_);rintro e w3 ⟨v3,rfl,C3,C4⟩)
   replace A0:=A0.trans (C4.mono A0.size)
   obtain ⟨f5,h5,f6,h6,C9,_,_⟩:=FiV.parts C3.ins
   subst C9
   refine hK.out _ _ ?_ (fun A1=>?_)
   · exact ⟨Ab q0 A0,Ab q1 A0,Ab q2 A0,Ab q3 A0,Ab q4 A0,Ab q5 A0,Ab q6 A0,Ab q7 A0,Ab q8 A0,Ab q9 A0,Ab B5 A0,Ab B4 A0,Ab B3 A0⟩
   clear hK K
   (try simp only [Act.put,List.setIfInBounds_toArray,List.set_cons_zero,List.set_cons_succ])
   refine BN 9 (by simp only [List.length_cons,List.length_nil];decide) (by kernel_rfl) (fun K hK=>?_)
   (try simp only [List.getElem_cons_succ,List.getElem_cons_zero])
   refine BA (by rfl) ?_
   go_simp
   have A5:Own (w3.alloc (.cells #[] 9)) w1.heap.size (.slice (some ⟨w3.heap.size,0,none⟩) 0 0) []:=(Own.made0 w3).mono A0.size
   have D4:FiV (n+1) (fun g=>w1.heap.size<=g/\g≠w3.heap.size) (w3.alloc (.cells #[] 9)) _ x:=(C3.keep (ok':=fun g=>w1.heap.size<=g/\g≠w3.heap.size) (Nat.le_refl _) (fun _ _ _=>rfl) (fun g E4 hg=>⟨hg,fun e=>by omega⟩)).call (Af w3 _)
   replace A0:=A0.trans ((Af w3 (.cells #[] 9)).mono A0.size)
   refine hK.out _ _ ?_ (fun A1=>?_)
   · exact ⟨Ab q0 A0,Ab q1 A0,Ab q2 A0,Ab q3 A0,Ab q4 A0,Ab q5 A0,Ab q6 A0,Ab q7 A0,Ab q8 A0,Ab q9 A0,Ab B5 A0,Ab B4 A0,Ab B3 A0⟩
   clear hK K
   (try simp only [List.getElem_cons_succ,List.getElem_cons_zero,Act.put,List.setIfInBounds_toArray,List.set_cons_zero,List.set_cons_succ])
   refine BN 12 (by simp only [List.length_cons,List.length_nil];decide) (by kernel_rfl) (fun K hK=>?_)
   (try simp only [List.getElem_cons_succ,List.getElem_cons_zero])
   refine BA (by rfl) ?_
   have B8:=D8.out _ (B1.trans (A0.mono B1.size))
   have B9:=A0.size
   refine Hm _ _ (by rfl) w1.heap.size _ [] (by rfl) A5 _ at_ (by rfl) B8 (by rw [C1.out];simp;omega) B9 ?_
   intro v4 w4 A3 C6 A9
   replace A3:=Own.nilOf A3
   have C2:=D4.keep (ok':=fun g=>w1.heap.size<=g) A9.size (fun g _ A6=>A9.block g ‹_› (fun e=>A6.2 (Option.some.inj e))) (fun g _ A6=>A6.1)
   replace A0:=A0.trans C6
   obtain ⟨sa,sk,rfl⟩:=Own.form A3
   rw [C1.out] at A3
   try rw [C1.out]
   clear A5 A9
   refine hK.out _ _ ?_ (fun A1=>?_)
   · exact ⟨Ab q0 A0,Ab q1 A0,Ab q2 A0,Ab q3 A0,Ab q4 A0,Ab q5 A0,Ab q6 A0,Ab q7 A0,Ab q8 A0,Ab q9 A0,Ab B5 A0,Ab B4 A0,Ab B3 A0⟩
   clear hK K
   (try simp only [Act.put,List.setIfInBounds_toArray,List.set_cons_zero,List.set_cons_succ])
   refine Ah 17 ?_ (by simp only [List.length_cons,List.length_nil];decide) (by kernel_rfl) (fun _ _ _ h=>h) (by rfl) ?_ A1 ?_
   rotate_left
   · intro W A8;(try simp only [List.getElem_cons_succ,List.getElem_cons_zero]);(try go_split_ands);go_simp;(try with_reducible rfl)
   (try simp only [List.getElem_cons_succ,List.getElem_cons_zero,Act.put,List.setIfInBounds_toArray,List.set_cons_zero,List.set_cons_succ])
   refine EK (by kernel_rfl) ?_
   simp only [List.drop_succ_cons,List.drop_zero]
   clear A1
   have A2:=D1.call A0
   have m0:=A2.cell 0
   have m1:=A2.cell 1
   have m2:=A2.cell 2
   have m3:=A2.cell 3
   have m4:=A2.cell 4
   have m5:=A2.cell 5
   have m6:=A2.cell 6
   have m7:=A2.cell 7
   have m8:=A2.cell 8
   have m9:=A2.cell 9
   have m10:=A2.cell 10
   have m11:=A2.cell 11
   have m12:=A2.cell 12
   have t0:=A2.thaw 0
   have t1:=A2.thaw 1
   have t2:=A2.thaw 2
   have t3:=A2.thaw 3
   have t4:=A2.thaw 4
   have t5:=A2.thaw 5
   have t6:=A2.thaw 6
   have t7:=A2.thaw 7
   have t8:=A2.thaw 8
   have t9:=A2.thaw 9
   have C7:=A2.thaw 10
   have C5:=A2.thaw 11
   have t12:=A2.thaw 12
   simp only [List.getElem?_toArray,List.getElem?_cons_zero,List.getElem?_cons_succ] at m0 m1 m2 m3 m4 m5 m6 m7 m8 m9 m10 m11 m12
   have A4:=IC [.string ⟨bs.toArray⟩,.int .i64 sc,.int .i64 dr,.int .i64 x.kind,.string ⟨x.attr.toArray⟩,.string ⟨x.value.toArray⟩,.string ⟨x.first.toArray⟩,.string ⟨x.last.toArray⟩,.slice f5 x.any.length h5,.slice f6 x.parts.length h6,.slice sa QL sk,.bool tn,.int .i64 sz] [] [.string ⟨#[]⟩,.int .i64 0,.int .i64 0,.int .i64 0,.string ⟨#[]⟩,.string ⟨#[]⟩,.string ⟨#[]⟩,.string ⟨#[]⟩,.slice none 0 0,.slice none 0 0,.slice none 0 0,.bool false,.int .i64 0] w4 rfl A2
   have B6:=IB (B:=w.heap.size) (g:=w.heap.size+1) (by omega) [.string ⟨bs.toArray⟩,.int .i64 sc,.int .i64 dr,.int .i64 x.kind,.string ⟨x.attr.toArray⟩,.string ⟨x.value.toArray⟩,.string ⟨x.first.toArray⟩,.string ⟨x.last.toArray⟩,.slice f5 x.any.length h5,.slice f6 x.parts.length h6,.slice sa QL sk,.bool tn,.int .i64 sz] 0 w4 (B1.trans (A0.mono B1.size))
   have B7:=fun k (hk:k≠w.heap.size+1)=>Ea (w.heap.size+1) k hk [.string ⟨bs.toArray⟩,.int .i64 sc,.int .i64 dr,.int .i64 x.kind,.string ⟨x.attr.toArray⟩,.string ⟨x.value.toArray⟩,.string ⟨x.first.toArray⟩,.string ⟨x.last.toArray⟩,.slice f5 x.any.length h5,.slice f6 x.parts.length h6,.slice sa QL sk,.bool tn,.int .i64 sz] 0 w4
   have C0:=C2.keep (ok':=fun _=>True) (w':=EM w4 (w.heap.size+1) 0 [.string ⟨bs.toArray⟩,.int .i64 sc,.int .i64 dr,.int .i64 x.kind,.string ⟨x.attr.toArray⟩,.string ⟨x.value.toArray⟩,.string ⟨x.first.toArray⟩,.string ⟨x.last.toArray⟩,.slice f5 x.any.length h5,.slice f6 x.parts.length h6,.slice sa QL sk,.bool tn,.int .i64 sz]) (Nat.le_of_eq (Ea (w.heap.size+1) (w.heap.size+2) (by omega) [.string ⟨bs.toArray⟩,.int .i64 sc,.int .i64 dr,.int .i64 x.kind,.string ⟨x.attr.toArray⟩,.string ⟨x.value.toArray⟩,.string ⟨x.first.toArray⟩,.string ⟨x.last.toArray⟩,.slice f5 x.any.length h5,.slice f6 x.parts.length h6,.slice sa QL sk,.bool tn,.int .i64 sz] 0 w4).2.symm) (fun g _ A6=>(B7 g (by omega)).1) (fun _ _ _=>trivial)
   have B2:=Ap.keep (ok':=fun _=>True) (w':=EM w4 (w.heap.size+1) 0 [.string ⟨bs.toArray⟩,.int .i64 sc,.int .i64 dr,.int .i64 x.kind,.string ⟨x.attr.toArray⟩,.string ⟨x.value.toArray⟩,.string ⟨x.first.toArray⟩,.string ⟨x.last.toArray⟩,.slice f5 x.any.length h5,.slice f6 x.parts.length h6,.slice sa QL sk,.bool tn,.int .i64 sz]) (A3.inRow (fun g=>w1.heap.size<=g) (fun g h1 _=>h1)) (Nat.le_of_eq (Ea (w.heap.size+1) (w.heap.size+2) (by omega) [.string ⟨bs.toArray⟩,.int .i64 sc,.int .i64 dr,.int .i64 x.kind,.string ⟨x.attr.toArray⟩,.string ⟨x.value.toArray⟩,.string ⟨x.first.toArray⟩,.string ⟨x.last.toArray⟩,.slice f5 x.any.length h5,.slice f6 x.parts.length h6,.slice sa QL sk,.bool tn,.int .i64 sz] 0 w4).2.symm) (fun g _ A6=>(B7 g (by have A6:w1.heap.size<=g:=A6;omega)).1) (fun _ _ _=>trivial)
   have A7:=B2.strs
   simp only [EM,List.length_nil,List.nil_append,Nat.zero_add,Nat.reduceAdd] at A4 B6 C0 A7
   clear B7 B2 C2 A3
   have y0:=A4.cell 0
   have y1:=A4.cell 1
   have y2:=A4.cell 2
   have y3:=A4.cell 3
   have y4:=A4.cell 4
   have y5:=A4.cell 5
   have y6:=A4.cell 6
   have y7:=A4.cell 7
   have y8:=A4.cell 8
   have y9:=A4.cell 9
   have D3:=A4.cell 10
   have C8:=A4.cell 11
   have D0:=A4.cell 12
   simp only [List.getElem?_toArray,List.getElem?_cons_zero,List.getElem?_cons_succ] at y0 y1 y2 y3 y4 y5 y6 y7 y8 y9 D3 C8 D0
   go_wp2_with fail
   (try simp only [Exit.inBlock,Exit.then])
   refine bodyPost_ret (v:=.agg #[.string ⟨bs.toArray⟩,.int .i64 sc,.int .i64 dr,.int .i64 x.kind,.string ⟨x.attr.toArray⟩,.string ⟨x.value.toArray⟩,.string ⟨x.first.toArray⟩,.string ⟨x.last.toArray⟩,.slice f5 x.any.length h5,.slice f6 x.parts.length h6,.slice sa QL sk,.bool tn,.int .i64 sz]) ?_ rfl ⟨_,rfl,⟨f5,f6,sa,h5,h6,sk,rfl,C0,A7⟩,B6⟩
   clear A4 B6 C0 A7 m0 t0 m1 t1 m2 t2 m3 t3 m4 t4 m5 t5 m6 t6 m7 t7 m8 t8 m9 t9 m10 C7 m11 C5 m12 t12
   generalize E2:(World.setCell _ ⟨w.heap.size+1,12,none⟩ (.int .i64 sz))=wf at*
   rw [Bv rfl]
   go_simp
 · (try simp only [List.getElem_cons_succ,List.getElem_cons_zero])
   refine BA (by rfl) ?_
   go_simp
   have A5:Own (w1.alloc (.cells #[] 9)).drew w1.heap.size (.slice (some ⟨w1.heap.size,0,none⟩) 0 0) []:=Own.made0 w1
   replace A0:Below w1.heap.size w1 (w1.alloc (.cells #[] 9)).drew:=(Af w1 _).drew
   refine hK.out _ _ ?_ (fun A1=>?_)
   · exact ⟨Ab q0 A0,Ab q1 A0,Ab q2 A0,Ab q3 A0,Ab q4 A0,Ab q5 A0,Ab q6 A0,Ab q7 A0,Ab q8 A0,Ab q9 A0,Ab B5 A0,Ab B4 A0,Ab B3 A0⟩
   clear hK K
   (try simp only [List.getElem_cons_succ,List.getElem_cons_zero,Act.put,List.setIfInBounds_toArray,List.set_cons_zero,List.set_cons_succ])
   refine BN 8 (by simp only [List.length_cons,List.length_nil];decide) (by kernel_rfl) (fun K hK=>?_)
   (try simp only [List.getElem_cons_succ,List.getElem_cons_zero])
   refine BA (by rfl) ?_
   go_simp
   (go_at_call 20;(with_reducible refine (E0.out _ (B1.trans (A0.mono B1.size))).mono ?_);rintro e w3 ⟨v3,rfl,C3,C4⟩)
   have D4:FiV (n+1) (fun g=>w1.heap.size<=g/\g≠w1.heap.size) w3 v3 x:=C3.keep (Nat.le_refl _) (fun _ _ _=>rfl) (fun g _ hg=>(show w1.heap.size<=g/\g≠w1.heap.size from by
    have E5:(w1.alloc (.cells #[] 9)).heap.size<=g:=hg
    have e1:(w1.alloc (.cells #[] 9)).heap.size=w1.heap.size+1:=by simp
    omega))
   replace A5:=A5.call C4
   replace A0:=A0.trans (C4.mono A0.size)
   obtain ⟨f5,h5,f6,h6,C9,_,_⟩:=FiV.parts C3.ins
   subst C9
   refine hK.out _ _ ?_ (fun A1=>?_)
   · exact ⟨Ab q0 A0,Ab q1 A0,Ab q2 A0,Ab q3 A0,Ab q4 A0,Ab q5 A0,Ab q6 A0,Ab q7 A0,Ab q8 A0,Ab q9 A0,Ab B5 A0,Ab B4 A0,Ab B3 A0⟩
   clear hK K
   (try simp only [Act.put,List.setIfInBounds_toArray,List.set_cons_zero,List.set_cons_succ])
   refine BN 12 (by simp only [List.length_cons,List.length_nil];decide) (by kernel_rfl) (fun K hK=>?_)
   (try simp only [List.getElem_cons_succ,List.getElem_cons_zero])
   refine BA (by rfl) ?_
   have B8:=D8.out _ (B1.trans (A0.mono B1.size))
   have B9:=A0.size
   refine Hm _ _ (by rfl) w1.heap.size _ [] (by rfl) A5 _ at_ (by rfl) B8 (by rw [C1.out];simp;omega) B9 ?_
   intro v4 w4 A3 C6 A9
   replace A3:=Own.nilOf A3
   have C2:=D4.keep (ok':=fun g=>w1.heap.size<=g) A9.size (fun g _ A6=>A9.block g ‹_› (fun e=>A6.2 (Option.some.inj e))) (fun g _ A6=>A6.1)
   replace A0:=A0.trans C6
   obtain ⟨sa,sk,rfl⟩:=Own.form A3
   rw [C1.out] at A3
   try rw [C1.out]
   clear A5 A9
   refine hK.out _ _ ?_ (fun A1=>?_)
   · exact ⟨Ab q0 A0,Ab q1 A0,Ab q2 A0,Ab q3 A0,Ab q4 A0,Ab q5 A0,Ab q6 A0,Ab q7 A0,Ab q8 A0,Ab q9 A0,Ab B5 A0,Ab B4 A0,Ab B3 A0⟩
   clear hK K
   (try simp only [Act.put,List.setIfInBounds_toArray,List.set_cons_zero,List.set_cons_succ])
   refine Ah 17 ?_ (by simp only [List.length_cons,List.length_nil];decide) (by kernel_rfl) (fun _ _ _ h=>h) (by rfl) ?_ A1 ?_
   rotate_left
   · intro W A8;(try simp only [List.getElem_cons_succ,List.getElem_cons_zero]);(try go_split_ands);go_simp;(try with_reducible rfl)
   (try simp only [List.getElem_cons_succ,List.getElem_cons_zero,Act.put,List.setIfInBounds_toArray,List.set_cons_zero,List.set_cons_succ])
   refine EK (by kernel_rfl) ?_
   simp only [List.drop_succ_cons,List.drop_zero]
   clear A1
   have A2:=D1.call A0
   have m0:=A2.cell 0
   have m1:=A2.cell 1
   have m2:=A2.cell 2
   have m3:=A2.cell 3
   have m4:=A2.cell 4
   have m5:=A2.cell 5
   have m6:=A2.cell 6
   have m7:=A2.cell 7
   have m8:=A2.cell 8
   have m9:=A2.cell 9
   have m10:=A2.cell 10
   have m11:=A2.cell 11
   have m12:=A2.cell 12
   have t0:=A2.thaw 0
   have t1:=A2.thaw 1
   have t2:=A2.thaw 2
   have t3:=A2.thaw 3
   have t4:=A2.thaw 4
   have t5:=A2.thaw 5
   have t6:=A2.thaw 6
   have t7:=A2.thaw 7
   have t8:=A2.thaw 8
   have t9:=A2.thaw 9
   have C7:=A2.thaw 10
   have C5:=A2.thaw 11
   have t12:=A2.thaw 12
   simp only [List.getElem?_toArray,List.getElem?_cons_zero,List.getElem?_cons_succ] at m0 m1 m2 m3 m4 m5 m6 m7 m8 m9 m10 m11 m12
   have A4:=IC [.string ⟨bs.toArray⟩,.int .i64 sc,.int .i64 dr,.int .i64 x.kind,.string ⟨x.attr.toArray⟩,.string ⟨x.value.toArray⟩,.string ⟨x.first.toArray⟩,.string ⟨x.last.toArray⟩,.slice f5 x.any.length h5,.slice f6 x.parts.length h6,.slice sa QL sk,.bool tn,.int .i64 sz] [] [.string ⟨#[]⟩,.int .i64 0,.int .i64 0,.int .i64 0,.string ⟨#[]⟩,.string ⟨#[]⟩,.string ⟨#[]⟩,.string ⟨#[]⟩,.slice none 0 0,.slice none 0 0,.slice none 0 0,.bool false,.int .i64 0] w4 rfl A2
   have B6:=IB (B:=w.heap.size) (g:=w.heap.size+1) (by omega) [.string ⟨bs.toArray⟩,.int .i64 sc,.int .i64 dr,.int .i64 x.kind,.string ⟨x.attr.toArray⟩,.string ⟨x.value.toArray⟩,.string ⟨x.first.toArray⟩,.string ⟨x.last.toArray⟩,.slice f5 x.any.length h5,.slice f6 x.parts.length h6,.slice sa QL sk,.bool tn,.int .i64 sz] 0 w4 (B1.trans (A0.mono B1.size))
   have B7:=fun k (hk:k≠w.heap.size+1)=>Ea (w.heap.size+1) k hk [.string ⟨bs.toArray⟩,.int .i64 sc,.int .i64 dr,.int .i64 x.kind,.string ⟨x.attr.toArray⟩,.string ⟨x.value.toArray⟩,.string ⟨x.first.toArray⟩,.string ⟨x.last.toArray⟩,.slice f5 x.any.length h5,.slice f6 x.parts.length h6,.slice sa QL sk,.bool tn,.int .i64 sz] 0 w4
   have C0:=C2.keep (ok':=fun _=>True) (w':=EM w4 (w.heap.size+1) 0 [.string ⟨bs.toArray⟩,.int .i64 sc,.int .i64 dr,.int .i64 x.kind,.string ⟨x.attr.toArray⟩,.string ⟨x.value.toArray⟩,.string ⟨x.first.toArray⟩,.string ⟨x.last.toArray⟩,.slice f5 x.any.length h5,.slice f6 x.parts.length h6,.slice sa QL sk,.bool tn,.int .i64 sz]) (Nat.le_of_eq (Ea (w.heap.size+1) (w.heap.size+2) (by omega) [.string ⟨bs.toArray⟩,.int .i64 sc,.int .i64 dr,.int .i64 x.kind,.string ⟨x.attr.toArray⟩,.string ⟨x.value.toArray⟩,.string ⟨x.first.toArray⟩,.string ⟨x.last.toArray⟩,.slice f5 x.any.length h5,.slice f6 x.parts.length h6,.slice sa QL sk,.bool tn,.int .i64 sz] 0 w4).2.symm) (fun g _ A6=>(B7 g (by omega)).1) (fun _ _ _=>trivial)
   have B2:=Ap.keep (ok':=fun _=>True) (w':=EM w4 (w.heap.size+1) 0 [.string ⟨bs.toArray⟩,.int .i64 sc,.int .i64 dr,.int .i64 x.kind,.string ⟨x.attr.toArray⟩,.string ⟨x.value.toArray⟩,.string ⟨x.first.toArray⟩,.string ⟨x.last.toArray⟩,.slice f5 x.any.length h5,.slice f6 x.parts.length h6,.slice sa QL sk,.bool tn,.int .i64 sz]) (A3.inRow (fun g=>w1.heap.size<=g) (fun g h1 _=>h1)) (Nat.le_of_eq (Ea (w.heap.size+1) (w.heap.size+2) (by omega) [.string ⟨bs.toArray⟩,.int .i64 sc,.int .i64 dr,.int .i64 x.kind,.string ⟨x.attr.toArray⟩,.string ⟨x.value.toArray⟩,.string ⟨x.first.toArray⟩,.string ⟨x.last.toArray⟩,.slice f5 x.any.length h5,.slice f6 x.parts.length h6,.slice sa QL sk,.bool tn,.int .i64 sz] 0 w4).2.symm) (fun g _ A6=>(B7 g (by have A6:w1.heap.size<=g:=A6;omega)).1) (fun _ _ _=>trivial)
   have A7:=B2.strs
   simp only [EM,List.length_nil,List.nil_append,Nat.zero_add,Nat.reduceAdd] at A4 B6 C0 A7
   clear B7 B2 C2 A3
   have y0:=A4.cell 0
   have y1:=A4.cell 1
   have y2:=A4.cell 2
   have y3:=A4.cell 3
   have y4:=A4.cell 4
   have y5:=A4.cell 5
   have y6:=A4.cell 6
   have y7:=A4.cell 7
   have y8:=A4.cell 8
   have y9:=A4.cell 9
   have D3:=A4.cell 10
   have C8:=A4.cell 11
   have D0:=A4.cell 12
   simp only [List.getElem?_toArray,List.getElem?_cons_zero,List.getElem?_cons_succ] at y0 y1 y2 y3 y4 y5 y6 y7 y8 y9 D3 C8 D0
   go_wp2_with fail
   (try simp only [Exit.inBlock,Exit.then])
   refine bodyPost_ret (v:=.agg #[.string ⟨bs.toArray⟩,.int .i64 sc,.int .i64 dr,.int .i64 x.kind,.string ⟨x.attr.toArray⟩,.string ⟨x.value.toArray⟩,.string ⟨x.first.toArray⟩,.string ⟨x.last.toArray⟩,.slice f5 x.any.length h5,.slice f6 x.parts.length h6,.slice sa QL sk,.bool tn,.int .i64 sz]) ?_ rfl ⟨_,rfl,⟨f5,f6,sa,h5,h6,sk,rfl,C0,A7⟩,B6⟩
   clear A4 B6 C0 A7 m0 t0 m1 t1 m2 t2 m3 t3 m4 t4 m5 t5 m6 t6 m7 t7 m8 t8 m9 t9 m10 C7 m11 C5 m12 t12
   generalize E2:(World.setCell _ ⟨w.heap.size+1,12,none⟩ (.int .i64 sz))=wf at*
   rw [Bv rfl]
   go_simp
theorem Aaf (n:Nat) (q:SeS.Rq) (v:Value) (w:World) (h:Fb n w v q):Calls Tryz.prog 22 #[v] w fun e w'=>∃b,e=.returned (.bool b)/\Hid (b=true->FiS.wdF 2000 q.filter/\q.attrs.length<=100/\q.base.length<=3000)/\Below w.heap.size w w':=by
 obtain ⟨a5,a6,aa,c5,c6,ca,rfl,A4,A7⟩:=h
 obtain ⟨bs,sc,dr,x,at_,tn,sz⟩:=q
 simp only at A4 A7⊢
 have A9:=hZ9 (fun W (hb:Below w.heap.size w W)=>AbN n x _ W (A4.call hb))
 clear A4 A7
 generalize B1:at_.length=QL at*
 clear B1
 have A5:=Af w (.cells #[.string ⟨bs.toArray⟩,.int .i64 sc,.int .i64 dr,.int .i64 x.kind,.string ⟨x.attr.toArray⟩,.string ⟨x.value.toArray⟩,.string ⟨x.first.toArray⟩,.string ⟨x.last.toArray⟩,.slice a5 x.any.length c5,.slice a6 x.parts.length c6,.slice aa QL ca,.bool tn,.int .i64 sz] 28)
 have A0:=Whole.made w 28 #[.string ⟨bs.toArray⟩,.int .i64 sc,.int .i64 dr,.int .i64 x.kind,.string ⟨x.attr.toArray⟩,.string ⟨x.value.toArray⟩,.string ⟨x.first.toArray⟩,.string ⟨x.last.toArray⟩,.slice a5 x.any.length c5,.slice a6 x.parts.length c6,.slice aa QL ca,.bool tn,.int .i64 sz]
 have r0:=A0.cell 0
 have r1:=A0.cell 1
 have r2:=A0.cell 2
 have r3:=A0.cell 3
 have r4:=A0.cell 4
 have r5:=A0.cell 5
 have r6:=A0.cell 6
 have r7:=A0.cell 7
 have r8:=A0.cell 8
 have r9:=A0.cell 9
 have A2:=A0.cell 10
 have A8:=A0.cell 11
 have A6:=A0.cell 12
 simp only [List.getElem?_toArray,List.getElem?_cons_zero,List.getElem?_cons_succ] at r0 r1 r2 r3 r4 r5 r6 r7 r8 r9 A2 A8 A6
 have B0:=A9.out _ A5
 clear A9 A0
 go_enter Tryz.func22,Tryz.ntmps22
 go_wp2_with fail
 refine B0.mono ?_
 rintro e w1 ⟨b,rfl,HB,A3⟩
 have A1:=A5.trans (A3.mono A5.size)
 have k0:=Ab r0 A3
 have B2:=Ab A2 A3
 clear B0 r0 r1 r2 r3 r4 r5 r6 r7 r8 r9 A2 A8 A6
 cases b with
 | false=>
  go_wp2_with fail
  go_ret
  exact ⟨false,rfl,hZ9 (fun h=>by cases h),A1⟩
 | true=>
 have HB:=hZ9 (HB.out rfl)
 by_cases h1:QL<=100
 case neg=>
  have d1:decide ((QL:Int)<=100)=false:=decide_eq_false (by omega)
  clear h1
  go_wp2_with fail
  go_ret
  exact ⟨false,rfl,hZ9 (fun h=>by cases h),A1⟩
 have d1:decide ((QL:Int)<=100)=true:=decide_eq_true (by omega)
 by_cases h2:bs.length<=3000
 case neg=>
  have d2:decide ((bs.length:Int)<=3000)=false:=decide_eq_false (by omega)
  clear h1 h2
  go_wp2_with fail
  go_ret
  exact ⟨false,rfl,hZ9 (fun h=>by cases h),A1⟩
 have d2:decide ((bs.length:Int)<=3000)=true:=decide_eq_true (by omega)
 have HF:=hZ9 (show FiS.wdF 2000 x/\QL<=100/\bs.length<=3000 from ⟨HB.out.1,h1,h2⟩)
 clear h1 h2
 go_wp2_with fail
 go_ret
 exact ⟨true,rfl,hZ9 (fun _=>HF.out),A1⟩
theorem Acy {l:List EnS.En} (h:∀k (hk:k<l.length),atI l (l[k]'hk).name=some k):SeS.BW l:=fun a ha b hb e=>by
 obtain ⟨i,hi,rfl⟩:=List.mem_iff_getElem.1 ha
 obtain ⟨j,hj,rfl⟩:=List.mem_iff_getElem.1 hb
 have h1:=h i hi
 rw [e,h j hj] at h1
 have h2:=Option.some.inj h1
 subst h2
 rfl
theorem Acz (v:Value) (l:List EnS.En) (w:World) (h:Bq w v l) (hl:l.length<=1048576) (hn:∀e ∈ l,e.name.length<=1000000) (hE:Env w):Calls Tryz.prog 23 #[v] w fun e w'=>∃b,e=.returned (.bool b)/\Hid (b=true->∀k (hk:k<l.length),atI l (l[k]'hk).name=some k)/\Below w.heap.size w w':=by
 have A1:=hZ9 (fun k (hk:k<l.length) W (hb:Below w.heap.size w W)=>Afw v l (l[k]'hk).name W (hE.below hb) (Ce.call h hb) hl (hn _ (List.getElem_mem hk)))
 unfold Gk at A1
 obtain ⟨a,c,hv,hc,A5⟩:=Ae.at h
 have A3:=hZ9 A5
 clear A5 h hn hE
 obtain ⟨L,hL⟩:∃m,l.length=m:=⟨_,rfl⟩
 have HL:=hZ9 hL
 rw [hL] at hc hl hv
 have HV:=hZ9 hv
 rw [hv]
 clear hL hv
 go_enter Tryz.func23,Tryz.ntmps23
 go_wp2_with fail
 go_loopw [6] (fun i wr=>∃k:Nat,k<=L/\i=.int .i64 k/\Hid (∀j (hj:j<l.length),j<k->atI l (l[j]'hj).name=some j)/\Below w.heap.size w wr) (fun i _=>L - (intOf i).toNat)
 case atStart=>exact ⟨0,Nat.zero_le _,rfl,hZ9 (fun j _ h=>absurd h (Nat.not_lt_zero _)),Below.refl _ _⟩
 case round=>
  obtain ⟨k,hk,rfl,HK,hb⟩:=hrel
  by_cases A9:k<L
  case neg=>
   have HF:Hid (∀j (hj:j<l.length),atI l (l[j]'hj).name=some j):=hZ9 (fun j hj=>HK.out j hj (by have:=HL.out;omega))
   clear A1 A3 HK
   go_wp2_with fail
   go_ret
   exact ⟨true,rfl,hZ9 (fun _=>HF.out),hb⟩
  have A0:k<l.length:=by rw [HL.out];exact A9
  obtain ⟨g,o,rfl,hg,_,hra⟩:=A3.out k A0
  obtain ⟨c0,a2,p2,c1,B3,_⟩:=Db.parts (Db.call hra hg trivial hb)
  have A2:=A1.out k A0 wr hb
  rw [HV.out] at A2
  have HS:Hid (atI l (l[k]'A0).name=some k->∀j (hj:j<l.length),j<k+1->atI l (l[j]'hj).name=some j):=hZ9 (fun h j hj B0=>by
   rcases Nat.lt_or_eq_of_le (Nat.le_of_lt_succ B0) with h2 | rfl
   · exact HK.out j hj h2
   · exact h)
  clear A1 A3 HK hra
  generalize hR:atI l (l[k]'A0).name=R at*
  clear hR
  generalize l[k]=z at*
  obtain ⟨name,B1⟩:=z
  simp only at c0 c1 A2
  have B4:(0:Int)<=(k:Int):=by omega
  have B2:(k:Int)<(L:Int):=by omega
  have A4:Hid (Ks R=(k:Int)->R=some k):=hZ9 (fun h=>by
   cases R with
   | none=>unfold Ks at h;simp only at h;omega
   | some r=>unfold Ks at h;simp only at h;rw [Int.ofNat_inj.1 h])
  generalize Ks R=X at*
  go_wp2_with fail
  refine A2.mono ?_
  rintro e w2 ⟨rfl,A8⟩
  have A6:=hb.trans (A8.mono hb.size)
  clear A2 c0 c1
  by_cases hx:X=(k:Int)
  case neg=>
   have dx:(X !=(k:Int))=true:=by simpa using hx
   clear HS A4 hx
   go_wp2_with fail
   go_ret
   exact ⟨false,rfl,hZ9 (fun h=>by cases h),A6⟩
  have dx:(X !=(k:Int))=false:=by simpa using hx
  have A7:=hZ9 (HS.out (A4.out hx))
  clear HS A4 hx
  go_wp2_with fail
  go_roundw
  case rel=>exact ⟨k+1,by omega,by go_num,A7,A6⟩
  case measure=>simp [intOf];omega
def TQ (l:List EnS.En) (q:SeS.Rq):Prop:=FH l/\SeS.BD l/\(∀e ∈ l,e.name≠[])/\SeS.BW l/\l.length<=60/\FiS.wdF 2000 q.filter/\q.attrs.length<=100/\q.base.length<=3000
theorem AdN (n:Nat) (u v:Value) (l:List EnS.En) (q:SeS.Rq) (w:World) (hE:Env w) (hu:Bq w u l) (hN:EnS.Ax EnS.cE l<=1048576) (h:Fb n w v q) (hs:q.base.length<=1048576):Calls Tryz.prog 8 #[u,v] w fun e w'=>∃b,e=.returned (.bool b)/\Hid (b=true->TQ l q)/\Below w.heap.size w w':=by
 have B5:=Nat.le_trans (JY l) hN
 unfold TQ
 have B1:=hZ9 (fun W (hb:Below w.heap.size w W)=>Aaf n q v W (h.call hb))
 have B7:=hZ9 (fun W (hb:Below w.heap.size w W) hn=>Acz u l W (Ce.call hu hb) B5 hn (hE.below hb))
 have A5:=hZ9 (fun W (hb:Below w.heap.size w W)=>Aep u l q.base W (hE.below hb) (Ce.call hu hb) hN hs)
 unfold UO at A5
 obtain ⟨ua,uc,hv,_⟩:=Ae.form hu
 obtain ⟨LN,A8⟩:∃k,l.length=k:=⟨_,rfl⟩
 have C6:=hZ9 A8
 rw [A8] at hv B5⊢
 have HV:=hZ9 hv
 obtain ⟨a5,a6,aa,c5,c6,ca,rfl,C5,C4⟩:=h
 obtain ⟨bs,sc,dr,x,at_,tn,sz⟩:=q
 simp only at B1 A5⊢
 clear C5 C4 hE hN hs hu
 generalize at_.length=QL at*
 have B3:=Af w (.cells #[.string ⟨bs.toArray⟩,.int .i64 sc,.int .i64 dr,.int .i64 x.kind,.string ⟨x.attr.toArray⟩,.string ⟨x.value.toArray⟩,.string ⟨x.first.toArray⟩,.string ⟨x.last.toArray⟩,.slice a5 x.any.length c5,.slice a6 x.parts.length c6,.slice aa QL ca,.bool tn,.int .i64 sz] 28)
 have A0:=Whole.made w 28 #[.string ⟨bs.toArray⟩,.int .i64 sc,.int .i64 dr,.int .i64 x.kind,.string ⟨x.attr.toArray⟩,.string ⟨x.value.toArray⟩,.string ⟨x.first.toArray⟩,.string ⟨x.last.toArray⟩,.slice a5 x.any.length c5,.slice a6 x.parts.length c6,.slice aa QL ca,.bool tn,.int .i64 sz]
 have r0:=A0.cell 0
 have r1:=A0.cell 1
 have r2:=A0.cell 2
 have r3:=A0.cell 3
 have r4:=A0.cell 4
 have r5:=A0.cell 5
 have r6:=A0.cell 6
 have r7:=A0.cell 7
 have r8:=A0.cell 8
 have r9:=A0.cell 9
 have A7:=A0.cell 10
 have B2:=A0.cell 11
 have B0:=A0.cell 12
 simp only [List.getElem?_toArray,List.getElem?_cons_zero,List.getElem?_cons_succ] at r0 r1 r2 r3 r4 r5 r6 r7 r8 r9 A7 B2 B0
 have A9:=A5.out _ B3
 rw [hv] at A9⊢
 clear A5 A0 hv A8
 go_enter Tryz.func8,Tryz.ntmps8
 go_wp2_with fail
 refine A9.mono ?_
 rintro e w1 ⟨b,rfl,hb,A1⟩
 have A3:=B3.trans (A1.mono B3.size)
 cases b with
 | false=>
  go_wp2_with fail
  go_ret
  exact ⟨false,rfl,hZ9 (fun h=>by cases h),A3⟩
 | true=>
 have HA:=hZ9 (hb rfl)
 clear hb A9
 by_cases h1:LN<=60
 case neg=>
  have d1:decide ((LN:Int)<=60)=false:=decide_eq_false (by omega)
  clear h1
  go_wp2_with fail
  go_ret
  exact ⟨false,rfl,hZ9 (fun h=>by cases h),A3⟩
 have d1:decide ((LN:Int)<=60)=true:=decide_eq_true (by omega)
 have k0:=Ab r0 A1
 have k1:=Ab r1 A1
 have k2:=Ab r2 A1
 have k3:=Ab r3 A1
 have k4:=Ab r4 A1
 have k5:=Ab r5 A1
 have k6:=Ab r6 A1
 have k7:=Ab r7 A1
 have k8:=Ab r8 A1
 have k9:=Ab r9 A1
 have C0:=Ab A7 A1
 have C3:=Ab B2 A1
 have k12:=Ab B0 A1
 have B8:=B1.out _ A3
 have A2:=fun W hb=>B7.out W hb (fun e he=>(HA.out.1.2 e he).1)
 have A4:=hZ9 A2
 have B4:=hZ9 h1
 clear B1 B7 A2 r0 r1 r2 r3 r4 r5 r6 r7 r8 r9 A7 B2 B0 h1
 go_wp2_with fail
 refine B8.mono ?_
 rintro e w2 ⟨b,rfl,HB,B9⟩
 have A6:=A3.trans (B9.mono A3.size)
 clear B8 k0 k1 k2 k3 k4 k5 k6 k7 k8 k9 C0 C3 k12
 cases b with
 | false=>
  go_wp2_with fail
  go_ret
  exact ⟨false,rfl,hZ9 (fun h=>by cases h),A6⟩
 | true=>
 have B6:=hZ9 (HB.out rfl)
 have A2:=A4.out w2 A6
 rw [HV.out] at A2
 clear HB A4
 go_wp2_with fail
 refine A2.mono ?_
 rintro e w3 ⟨b,rfl,HC,C2⟩
 have C1:=A6.trans (C2.mono A6.size)
 have HD:Hid (b=true->FH l/\SeS.BD l/\(∀e ∈ l,e.name≠[])/\SeS.BW l/\LN<=60/\FiS.wdF 2000 x/\QL<=100/\bs.length<=3000):=hZ9 (fun h=>by
  obtain ⟨a1,a2,a3⟩:=HA.out
  obtain ⟨b1,b2,b3⟩:=B6.out
  have ho:SeS.BD l:=fun e he=>(a3 e he).1
  refine ⟨a1,ho,fun e he=>(a3 e he).2,Acy (fun k hk=>HC.out h k hk),B4.out,b1,b2,b3⟩)
 clear HA B6 HC B4 A2
 go_wp2_with fail
 go_ret
 exact ⟨b,rfl,HD,C1⟩
end Go.Proofs.YtgngjfjaelgaeaaGreatDoor
namespace Go.Proofs.YtgngjfjaelgaeaaGreatDoor.PoS
open Go.Lib RdS DnS
structure Rl where
 who:List UInt8
 target:List UInt8
 attr:List UInt8
 rights:Int
 allow:Bool
 deriving DecidableEq
end Go.Proofs.YtgngjfjaelgaeaaGreatDoor.PoS
namespace Go.Proofs.YtgngjfjaelgaeaaGreatDoor
open Go.RowKit
structure FKeep (xs:List EnS.At) (w:World) (b:Nat) (name:List UInt8) (u:Value) (wr:World):Prop where
 env:Env wr
 whole:Whole wr b 52 #[.string ⟨name.toArray⟩,u]
 attrs:BK wr u xs
 below:Below w.heap.size w wr
theorem FKeep.call {xs:List EnS.At} {w:World} {b:Nat} {name:List UInt8} {u:Value} {w1 w2:World} (h:FKeep xs w b name u w1) (hb:Below w1.heap.size w1 w2):FKeep xs w b name u w2:=
 ⟨h.env.below hb,h.whole.call hb,h.attrs.call hb,Aa h.below hb⟩
end Go.Proofs.YtgngjfjaelgaeaaGreatDoor
