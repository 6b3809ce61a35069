/- The walk of the law SearchSizes. Conditions: as stated. -/
import Derived.Test.YtgngjfjaelgaeaaGreatDoorKRwe
set_option maxRecDepth 100000
set_option maxHeartbeats 16000000
namespace Go.Proofs.YtgngjfjaelgaeaaGreatDoor
section
open Go.RowKit
open FiS (Fi)
attribute [local go_sem ↓] Go.wp_at_zero Go.wp_at_succ
theorem Zg (n:Nat) (l:List EnS.En) (q:SeS.Rq) (u v:Value) (k:Nat) (w:World) (hu:Bq w u l) (hN:EnS.Ax EnS.cE l<=1048576) (G3:∀e ∈ l,∀x ∈ e.attrs,x.typ.length<=1048576) (h:Fb n w v q) (H1:q.base.length<=1048576) (H6:∀s ∈ q.attrs,s.length<=1048576) (hk:k<=255) (hE:Env w):
  Calls Tryz.prog 4 #[u,v,.int .u8 (k:Int)] w (KA w):=by
 have D2:=hZ9 (fun W hE=>Ab7 W hE)
 have F7:=hZ9 (fun v W hE hu h=>AdN n u v l q W hE hu hN h H1)
 have A9:=hZ9 (fun W (hb:Below w.heap.size w W)=>hE.below hb)
 have B4:=hZ9 (fun W (hb:Below w.heap.size w W)=>Ce.call hu hb)
 have E8:=hZ9 (fun (z:Int) v W (hf:TQ l q) h=>XV n { q with size:=z } v W h (FiS.Oo (by decide) _ hf.2.2.2.2.2.1) (Nat.le_trans hf.2.2.2.2.2.2.1 (by decide)))
 have C5:=hZ9 (fun (z:Int) rv W (hf:TQ l q) hu hE h=>XF u l (n+1) { q with size:=z } rv W hu hf.1 (Nat.le_trans hf.2.2.2.2.1 (by decide)) (fun e he=>⟨(hf.1.2 e he).2,G3 e he⟩) hf.2.1 hf.2.2.2.1 hf.2.2.1 hE h (FiS.Oo (by decide) _ hf.2.2.2.2.2.1) ⟨Nat.le_trans hf.2.2.2.2.2.2.1 (by decide),H6⟩ (Nat.le_trans hf.2.2.2.2.2.2.2 (by decide)))
 have A5:=hZ9 (fun c c' ys ys' h k2=>SeS.Acl (l:=l) (q:=q) (n:=k) (c:=c) (c':=c') (ys:=ys) (ys':=ys') h k2)
 have D4:=hZ9 (fun (z:Int) c ys (hf:TQ l q) h=>Aev (l:=l) (q:={ q with size:=z }) (c:=c) (ys:=ys) hf.2.1 hf.2.2.2.1 hf.1 h)
 have B6:=hZ9 (fun v1 v2 ys W h1 h2 (hb:Afa ys)=>Ab8 v1 v2 ys W h1 h2 hb.1 hb.2)
 unfold KA at*
 obtain ⟨a5,a6,aa,c5,c6,ca,rfl,E9,E7⟩:=h
 obtain ⟨bs,sc,dr,x,at_,tn,sz⟩:=q
 simp only at E9 E7 F7 E8 C5
 have F8:Hid (∀z W,Below w.heap.size w W->Fb n W (.agg #[.string ⟨bs.toArray⟩,.int .i64 sc,.int .i64 dr,.int .i64 x.kind,.string ⟨x.attr.toArray⟩,.string ⟨x.value.toArray⟩,.string ⟨x.first.toArray⟩,.string ⟨x.last.toArray⟩,.slice a5 x.any.length c5,.slice a6 x.parts.length c6,.slice aa at_.length ca,.bool tn,.int .i64 z]) ⟨bs,sc,dr,x,at_,tn,z⟩):=hZ9 (fun z W hb=>⟨a5,a6,aa,c5,c6,ca,rfl,E9.call hb,E7.call hb (Nat.le_refl _)⟩)
 have D5:=hZ9 (fun (z:Int) W (hb:Below w.heap.size w W) hf=>E8.out z _ W hf (F8.out z W hb))
 have H7:=hZ9 (fun W (hb:Below w.heap.size w W)=>F7.out _ W (A9.out W hb) (B4.out W hb) (F8.out sz W hb))
 clear E8 F7 F8 E9 E7 hN G3 H1 H6 hu hE
 obtain ⟨ua,uc,hu,_⟩:∃a c,u=.slice a l.length c/\l.length<=c:=Ae.form (B4.out w (Below.refl _ _))
 subst hu
 generalize at_.length=QL at*
 generalize l.length=LN at*
 have E1:=Af w (.cells #[.string ⟨bs.toArray⟩,.int .i64 sc,.int .i64 dr,.int .i64 x.kind,.string ⟨x.attr.toArray⟩,.string ⟨x.value.toArray⟩,.string ⟨x.first.toArray⟩,.string ⟨x.last.toArray⟩,.slice a5 x.any.length c5,.slice a6 x.parts.length c6,.slice aa QL ca,.bool tn,.int .i64 sz] 28)
 have H5:=Whole.made w 28 #[.string ⟨bs.toArray⟩,.int .i64 sc,.int .i64 dr,.int .i64 x.kind,.string ⟨x.attr.toArray⟩,.string ⟨x.value.toArray⟩,.string ⟨x.first.toArray⟩,.string ⟨x.last.toArray⟩,.slice a5 x.any.length c5,.slice a6 x.parts.length c6,.slice aa QL ca,.bool tn,.int .i64 sz]
 have D8:=D2.out _ (A9.out _ E1)
 go_enter Tryz.func4,Tryz.ntmps4
 go_wp2_with fail
 refine D8.mono ?_
 rintro e w1 ⟨rfl,E5⟩
 have D0:=E1.trans (E5.mono E1.size)
 have A1:=H5.call E5
 have I1:=H7.out _ D0
 have r0:=A1.cell 0
 have r1:=A1.cell 1
 have r2:=A1.cell 2
 have r3:=A1.cell 3
 have r4:=A1.cell 4
 have r5:=A1.cell 5
 have r6:=A1.cell 6
 have r7:=A1.cell 7
 have r8:=A1.cell 8
 have r9:=A1.cell 9
 have A6:=A1.cell 10
 have A8:=A1.cell 11
 have A7:=A1.cell 12
 simp only [List.getElem?_toArray,List.getElem?_cons_zero,List.getElem?_cons_succ] at r0 r1 r2 r3 r4 r5 r6 r7 r8 r9 A6 A8 A7
 clear D8 H5 E1 E5 H7
 go_wp2_with fail
 refine I1.mono ?_
 rintro e w2 ⟨b,rfl,HB,F4⟩
 have C4:=D0.trans (F4.mono D0.size)
 have D1:=A1.call F4
 clear I1 A1 F4 D0 r0 r1 r2 r3 r4 r5 r6 r7 r8 r9 A6 A8 A7
 cases b with
 | false=>
  have D8:=D2.out _ (A9.out _ C4)
  clear D2 A9 B4 C5 A5 D4 B6 D5 HB
  go_wp2_with fail
  refine D8.mono ?_
  rintro e w3 ⟨rfl,I4⟩
  have B1:=C4.trans (I4.mono C4.size)
  go_wp2_with fail
  go_ret
  exact ⟨by first | rfl | trivial,B1⟩
 | true=>
 have HF:=hZ9 (HB.out rfl)
 clear HB D2
 have t12:=D1.thaw 12
 have z12:=D1.cell 12
 simp only [List.getElem?_toArray,List.getElem?_cons_zero,List.getElem?_cons_succ] at z12
 have A0:=D1.put 12 (.int .i64 0)
 simp only [List.setIfInBounds_toArray,List.set_cons_succ,List.set_cons_zero] at A0
 have B1:=C4.setCell (p:=⟨w.heap.size,12,none⟩) (Nat.le_refl _) (.int .i64 0)
 go_upto_region 4 with fail
 generalize w2.setCell ⟨w.heap.size,12,none⟩ (.int .i64 0)=w3 at*
 clear t12 z12 D1 C4
 have r0:=A0.cell 0
 have r1:=A0.cell 1
 have r2:=A0.cell 2
 have r3:=A0.cell 3
 have r4:=A0.cell 4
 have r5:=A0.cell 5
 have r6:=A0.cell 6
 have r7:=A0.cell 7
 have r8:=A0.cell 8
 have r9:=A0.cell 9
 have A6:=A0.cell 10
 have A8:=A0.cell 11
 have A7:=A0.cell 12
 simp only [List.getElem?_toArray,List.getElem?_cons_zero,List.getElem?_cons_succ] at r0 r1 r2 r3 r4 r5 r6 r7 r8 r9 A6 A8 A7
 have B7:=D5.out 0 w3 B1 HF.out
 go_wp2_with fail
 refine B7.mono ?_
 rintro e w4 ⟨v4,rfl,G2,E3⟩
 have C8:=B1.trans (E3.mono B1.size)
 have H8:=A0.call E3
 have C3:=C5.out 0 v4 w4 HF.out (B4.out _ C8) (A9.out _ C8) G2
 clear B7 A0 E3 B1 G2 r0 r1 r2 r3 r4 r5 r6 r7 r8 r9 A6 A8 A7
 go_wp2_with fail
 refine C3.mono ?_
 rintro e w5 ⟨c1,v5,ys,rfl,G4,A3,E4⟩
 have H0:=C8.trans (E4.mono C8.size)
 have B3:=H8.call E4
 obtain ⟨y1,k1,rfl,_⟩:=Ae.form A3
 have F0:=hZ9 G4
 clear C3 H8 E4 C8 G4
 have I7:=B3.lt
 have t12:=B3.thaw 12
 have z12:=B3.cell 12
 simp only [List.getElem?_toArray,List.getElem?_cons_zero,List.getElem?_cons_succ] at z12
 have E6:=B3.put 12 (.int .i64 (k:Int))
 simp only [List.setIfInBounds_toArray,List.set_cons_succ,List.set_cons_zero] at E6
 have C2:=A3.int z12 (.int .i64 (k:Int))
 have G0:=H0.setCell (p:=⟨w.heap.size,12,none⟩) (Nat.le_refl _) (.int .i64 (k:Int))
 generalize G5:ys.length=YN at*
 have C7:=hZ9 G5
 have D7:=Af (w5.setCell ⟨w.heap.size,12,none⟩ (.int .i64 (k:Int))) (.cells #[.int .i64 c1,.slice y1 YN k1] 32)
 have hA7:=Whole.made (w5.setCell ⟨w.heap.size,12,none⟩ (.int .i64 (k:Int))) 32 #[.int .i64 c1,.slice y1 YN k1]
 have I0:(w5.setCell ⟨w.heap.size,12,none⟩ (.int .i64 (k:Int))).heap.size=w5.heap.size:=World.size_setCell ..
 have A2:=E6.call D7
 have C0:=Ce.call C2 D7
 have C9:=G0.trans (D7.mono G0.size)
 rw [I0] at hA7
 have E2:=B3.call (Af w5 (.cells #[.int .i64 c1,.slice y1 YN k1] 32))
 have I5:=E2.thaw 12
 have G6:=E2.cell 12
 simp only [List.getElem?_toArray,List.getElem?_cons_zero,List.getElem?_cons_succ] at G6
 clear E2 t12 z12
 clear G5 B3 H0 A3 D7 I0 E6 C2 G0
 go_upto_region 7 with fail
 generalize (w5.setCell ⟨w.heap.size,12,none⟩ (.int .i64 (k:Int))).alloc (.cells #[.int .i64 c1,.slice y1 YN k1] 32)=w7 at*
 generalize w5.heap.size=ab at*
 clear I5 G6
 have r0:=A2.cell 0
 have r1:=A2.cell 1
 have r2:=A2.cell 2
 have r3:=A2.cell 3
 have r4:=A2.cell 4
 have r5:=A2.cell 5
 have r6:=A2.cell 6
 have r7:=A2.cell 7
 have r8:=A2.cell 8
 have r9:=A2.cell 9
 have A6:=A2.cell 10
 have A8:=A2.cell 11
 have A7:=A2.cell 12
 simp only [List.getElem?_toArray,List.getElem?_cons_zero,List.getElem?_cons_succ] at r0 r1 r2 r3 r4 r5 r6 r7 r8 r9 A6 A8 A7
 have B7:=D5.out (k:Int) w7 C9 HF.out
 go_wp2_with fail
 refine B7.mono ?_
 rintro e w8 ⟨v8,rfl,G7,D3⟩
 have B8:=C9.trans (D3.mono C9.size)
 have hA8:=hA7.call D3
 have B9:=Ce.call C0 D3
 have C3:=C5.out (k:Int) v8 w8 HF.out (B4.out _ B8) (A9.out _ B8) G7
 clear B7 A2 hA7 C0 C9 D3 G7 r0 r1 r2 r3 r4 r5 r6 r7 r8 r9 A6 A8 A7
 go_wp2_with fail
 refine C3.mono ?_
 rintro e w9 ⟨c2,v9,zs,rfl,F1,B0,D9⟩
 have F6:=B8.trans (D9.mono B8.size)
 have hA9:=hA8.call D9
 have A3:=Ce.call B9 D9
 obtain ⟨y2,k2,rfl,_⟩:=Ae.form B0
 have hsz:=A5.out c1 c2 ys zs F0.out F1
 have D6:=D4.out 0 c1 ys HF.out F0.out
 have hbm:=D4.out (k:Int) c2 zs HF.out F1
 clear C3 hA8 B9 B8 D9 F1 F0 A5 D4 C5 D5 B4 HF A9
 have C6:=Af w9 (.cells #[.int .i64 c2,.slice y2 zs.length k2] 32)
 have G9:=Whole.made w9 32 #[.int .i64 c2,.slice y2 zs.length k2]
 have H3:=hA9.call C6
 have B5:=Ce.call A3 C6
 have C1:=Ce.call B0 C6
 have E0:=F6.trans (C6.mono F6.size)
 clear hA9 A3 B0 F6 C6
 go_upto_region 8 with fail
 generalize F3:zs.length=ZN at*
 generalize w9.alloc (.cells #[.int .i64 c2,.slice y2 ZN k2] 32)=wA at*
 generalize w9.heap.size=bb at*
 have a0:=H3.cell 0
 have a1:=H3.cell 1
 have b0:=G9.cell 0
 have b1:=G9.cell 1
 simp only [List.getElem?_toArray,List.getElem?_cons_zero,List.getElem?_cons_succ] at a0 a1 b0 b1
 rw [C7.out] at hsz
 have A5:=hZ9 hsz
 clear hsz
 obtain ⟨BB,G1⟩:∃b,decide (c1≠0\/k=0\/YN<=k)=b:=⟨_,rfl⟩
 have A4:=hZ9 G1
 clear G1
 go_cut [45] (fun b wd=>b=.bool BB/\wd=wA)
 case first=>
  clear A5 B5 C1 D6 hbm B6
  by_cases p1:c1=0
  case neg=>
   have d1:(c1 !=0)=true:=by simpa using p1
   have HP:Hid (true=BB):=hZ9 (by rw [<-A4.out,decide_eq_true (.inl p1)])
   clear p1 A4
   go_wp2_with fail
   go_meet
   exact ⟨by (rw [<-HP.out]) <;> rfl,rfl⟩
  have d1:(c1 !=0)=false:=by simpa using p1
  by_cases p2:k=0
  · have d2:((k:Int)==0)=true:=by simpa using p2
    have HP:Hid (true=BB):=hZ9 (by rw [<-A4.out,decide_eq_true (.inr (.inl p2))])
    clear p1 p2 A4
    go_wp2_with fail
    go_meet
    exact ⟨by (rw [<-HP.out]) <;> rfl,rfl⟩
  have d2:((k:Int)==0)=false:=by simpa using p2
  have HP:Hid (decide (YN<=k)=BB):=hZ9 (by rw [<-A4.out];simp [p1,p2])
  clear p1 p2 A4
  go_wp2_with fail
  go_meet
  exact ⟨by (rw [<-HP.out]) <;> rfl,rfl⟩
 case rest=>
 obtain ⟨rfl,I6⟩:=hcut
 subst I6
 obtain ⟨wB,rfl⟩:∃x,x=wc:=⟨_,rfl⟩
 cases BB with
 | true=>
  have hs:=A5.out
  rw [if_pos (of_decide_eq_true A4.out)] at hs
  obtain ⟨rfl,rfl⟩:=hs
  have F2:=B6.out _ _ zs _ C1 B5 D6
  have d1:(c2==c2)=true:=by simp
  obtain rfl:ZN=YN:=F3.symm.trans C7.out
  clear B6 A5 A4 B5 C1 D6 hbm C7 F3
  go_wp2_with fail
  refine F2.mono ?_
  rintro e wC ⟨rfl,B2⟩
  have F5:=E0.trans (B2.mono E0.size)
  go_wp2_with fail
  go_ret
  exact ⟨by first | rfl | trivial,F5⟩
 | false=>
  have F9:=of_decide_eq_false A4.out
  have hs:=A5.out
  rw [if_neg F9] at hs
  obtain ⟨rfl,rfl⟩:=hs
  have G8:k<=YN:=by
   refine Classical.byContradiction fun hn=>F9 (.inr (.inr ?_))
   omega
  have I2:ZN=k:=by rw [<-F3,List.length_take,C7.out];omega
  subst I2
  have I8:(ZN:Int)<=(k1:Int):=by
   obtain ⟨a',c',e,I3,_⟩:=B5
   injection e with _ _ e3
   rw [C7.out] at I3
   omega
  have H4:=Ae.take B5 G8
  have H9:=hZ9 (fun W hb=>Ce.call (w':=W) C1 hb)
  have H2:=hZ9 (fun W hb=>Ce.call (w':=W) H4 hb)
  have F2:=B6.out _ _ (ys.take ZN) wB.drew (H9.out _ (below_drewN wB 1)) (H2.out _ (below_drewN wB 1)) hbm
  have i0:(0:Int)<=(ZN:Int):=by omega
  have d4:((4:Int)==4)=true:=rfl
  clear B6 A5 A4 B5 C1 H4 D6 hbm H9 H2 F9 G8
  go_wp2_with fail
  go_region_held3 (fun W=>W.cell? ⟨bb,0,none⟩=some (.int .i64 4)/\W.cell? ⟨bb,1,none⟩=some (.slice y2 ZN k2)/\W.cell? ⟨ab,1,none⟩=some (.slice y1 YN k1))
   (first | exact ⟨b0,b1,a1⟩ | exact ⟨Ab (w:=wB.drew) b0 B2,Ab (w:=wB.drew) b1 B2,Ab (w:=wB.drew) a1 B2⟩ | go_keep)
   (first | (go_at_call 12;(with_reducible refine F2.mono ?_);rintro e wC ⟨rfl,B2⟩))
  have F5:=E0.trans (((below_drewN wB 1).trans B2).mono E0.size)
  go_wp2_with fail
  go_ret
  exact ⟨by first | rfl | trivial,F5⟩
theorem Afb {x:Int} (h:(Lit.int .u8 x).wf=true):∃k:Nat,k<=255/\x=(k:Int):=by
 have h2:0<=x/\x<256:=by
  have h0:IntKind.u8.min=0:=by decide
  have h1:IntKind.u8.max=255:=by decide
  unfold Lit.wf at h
  simp only [Bool.and_eq_true,decide_eq_true_eq] at h
  rw [h0,h1] at h
  omega
 exact ⟨x.toNat,by omega,by omega⟩
theorem Oi (n:Nat) (l:List EnS.En) (q:SeS.Rq) (u v:Value) (x:Int) (w:World) (hu:Bq w u l) (hN:EnS.Ax EnS.cE l<=1048576) (A3:∀e ∈ l,Ze 1048576 e) (h:Fb n w v q) (A0:q.base.length<=1048576) (A2:∀s ∈ q.attrs,s.length<=1048576) (hk:(Lit.int .u8 x).wf=true) (hE:Env w):
  Calls Tryz.prog 4 #[u,v,.int .u8 x] w (KA w):=by
 obtain ⟨k,A1,rfl⟩:=Afb hk
 exact Zg n l q u v k w hu hN (fun e he a ha=>((A3 e he).2.2 a ha).1) h A0 A2 A1 hE
end
section
open Go.ChangeShapes Go.WideShapes Go.ChangeAt Go.RowKit Go.Deep Go.Joins
open FiS (Fi)
section
variable {H:Type} {enc:TypeId × Value->H}
theorem NK {α:Type} {w:World} {base:Nat} {held:Bool} {sp:Nat->Bool} {t e:TypeId} {k fuel:Nat} {v:Value} {d:DataW H} {ps:List MemPlace}
  (ht:Tryz.prog.underlying t=some (.slice e)) (hk:Tryz.prog.cellsOf e=k) (A4:0<k) (El:World->Nat->Nat->α->Prop)
  (hf:DataW.trod enc Tryz.prog w base sp held fuel t [v]=some (d,ps))
  (each:∀(g o:Nat) (cs:List Value) (fu:Nat) (D:DataW H) (Pl:List MemPlace),(∀j,j<k->w.cell? ⟨g,o+j,none⟩=cs[j]?)->cs.length=k->DataW.trod enc Tryz.prog w base sp held fu e cs=some (D,Pl)->SizeOf.sizeOf D<SizeOf.sizeOf d->∃x,El w g o x):
  ∃xs:List α,Ae k El (fun _=>True) w v xs:=by
 rcases open_slice ht hf with ⟨h0,A9⟩ | ⟨a,n,c,mm,fu,D,Pl,A7,B1,B2,B3,hm,hx,A1⟩
 · simp only [List.cons.injEq,and_true] at h0
   subst h0
   exact ⟨[],Ae.nil _ _⟩
 simp only [List.cons.injEq,and_true] at A7
 subst A7
 have A5:=congrArg Prod.fst hx
 simp only at A5
 have B0:n<=mm:=by rw [hm];split <;> omega
 rw [hk] at A1
 obtain ⟨g,o,s⟩:=a
 rcases Nat.eq_zero_or_pos n with h0 | A3
 · subst h0
   exact ⟨[],Ae.nil _ _⟩
 have hs:s=none:=by
  obtain ⟨cs,h1,h2⟩:=A1 0 (by omega)
  obtain ⟨_,hlen,hc⟩:=World.cells?_some h1
  have c0:=hc 0 A4
  rw [Nat.zero_mul] at c0
  have A2:0<cs.length:=by omega
  rw [List.getElem?_eq_getElem A2] at c0
  have e1:((⟨g,o,s⟩:Addr).add 0).add 0=⟨g,o,s⟩:=by unfold Addr.add;simp
  rw [e1] at c0
  exact cell_spot c0
 subst hs
 have A0:∀i,i<n->∃x:α,El w g (o+i*k) x:=fun i hi=>by
  obtain ⟨cs,h1,h2⟩:=A1 i (by omega)
  obtain ⟨_,hlen,hc⟩:=World.cells?_some h1
  refine each g (o+i*k) cs fu (D i) (Pl i) (fun j hj=>?_) hlen h2 ?_
  · have:=hc j hj
    rw [add_add] at this
    exact this
  · have h3:=List.sizeOf_lt_of_mem (List.mem_map.2 ⟨i,List.mem_range.2 hi,rfl⟩:D i ∈ (List.range n).map D)
    rw [A5,DataW.slice.sizeOf_spec]
    omega
 have A8:g<w.heap.size:=by
  obtain ⟨cs,h1,h2⟩:=A1 0 (by omega)
  obtain ⟨_,hlen,hc⟩:=World.cells?_some h1
  have c0:=hc 0 A4
  have A2:0<cs.length:=by omega
  rw [List.getElem?_eq_getElem A2,add_add] at c0
  exact cell_lt c0
 haveI:Inhabited α:=⟨(A0 0 A3).choose⟩
 obtain ⟨S,hS⟩:=choose_lt A0
 refine ⟨(List.range n).map S,⟨some ⟨g,o,none⟩,c,by simp,by simp;omega,.inr ⟨g,o,rfl,A8,trivial,fun j q hj=>?_⟩⟩⟩
 rw [List.getElem?_map] at hj
 cases hr:(List.range n)[j]? with
 | none=>rw [hr] at hj;cases hj
 | some x=>
  rw [hr] at hj
  have A6:=(List.getElem?_eq_some_iff.1 hr).1
  have hq:=(List.getElem?_eq_some_iff.1 hr).2
  rw [List.getElem_range] at hq
  simp only [List.length_range] at A6
  have hj:=Option.some.inj hj
  subst hq;subst hj
  exact hS j A6
theorem Zh {w:World} {base:Nat} {held:Bool} {sp:Nat->Bool} {fuel:Nat} {v:Value} {d:DataW H} {ps:List MemPlace}
  (hf:DataW.trod enc Tryz.prog w base sp held fuel 23 [v]=some (d,ps)):∃xs:List (List UInt8),Ap (fun _=>True) w v xs:=by
 refine NK Tryz.underlying23 (by kernel_rfl) (by decide) SK hf (fun g o cs fu D Pl hc hlen ht _=>?_)
 match cs,hlen with
 | [x],_=>
  obtain ⟨s,e,_,_⟩:=DataW.trod_string Tryz.underlying9 ht
  simp only [List.cons.injEq,and_true] at e
  have c0:=hc 0 (by decide)
  simp only [Nat.add_zero,List.getElem?_cons_zero] at c0
  subst e
  rw [DY] at c0
  exact ⟨s.data.toList,c0⟩
theorem ME {P:Program} {w:World} {base:Nat} {spare:Nat->Bool} {held:Bool} {t:TypeId} {f0 f1 f2 f3 f4 f5 f6:Field} {fuel:Nat} {cs:List Value} {x:DataW H × List MemPlace} (ht:P.underlying t=some (.struct #[f0,f1,f2,f3,f4,f5,f6])) (h:DataW.trod enc P w base spare held fuel t cs=some x):
  ∃y0 y1 y2 y3 y4 y5 y6 n,x=(.agg [y0.1,y1.1,y2.1,y3.1,y4.1,y5.1,y6.1],y0.2++(y1.2++(y2.2++(y3.2++(y4.2++(y5.2++y6.2))))))/\cs.length=P.cellsOf t/\DataW.trod enc P w base spare held n f0.type ((cs.drop f0.offset).take (P.cellsOf f0.type))=some y0/\
   DataW.trod enc P w base spare held n f1.type ((cs.drop f1.offset).take (P.cellsOf f1.type))=some y1/\DataW.trod enc P w base spare held n f2.type ((cs.drop f2.offset).take (P.cellsOf f2.type))=some y2/\
   DataW.trod enc P w base spare held n f3.type ((cs.drop f3.offset).take (P.cellsOf f3.type))=some y3/\DataW.trod enc P w base spare held n f4.type ((cs.drop f4.offset).take (P.cellsOf f4.type))=some y4/\
   DataW.trod enc P w base spare held n f5.type ((cs.drop f5.offset).take (P.cellsOf f5.type))=some y5/\DataW.trod enc P w base spare held n f6.type ((cs.drop f6.offset).take (P.cellsOf f6.type))=some y6:=by
 obtain ⟨xs,n,_,rfl,hl,hlen,hf⟩:=DataW.trod_struct ht h
 match xs,hlen with
 | [y0,y1,y2,y3,y4,y5,y6],_=>exact ⟨y0,y1,y2,y3,y4,y5,y6,n,by simp,hl,by simpa using hf 0 f0 rfl,by simpa using hf 1 f1 rfl,by simpa using hf 2 f2 rfl,by simpa using hf 3 f3 rfl,by simpa using hf 4 f4 rfl,by simpa using hf 5 f5 rfl,by simpa using hf 6 f6 rfl⟩
theorem Rz {w:World} {base:Nat} {held:Bool} {sp:Nat->Bool} {fuel m:Nat} {cs:List Value} {d:DataW H} {ps:List MemPlace} (hlen:cs.length=7)
  (ih:∀(fu:Nat) (v:Value) (D:DataW H) (Pl:List MemPlace),SizeOf.sizeOf D<SizeOf.sizeOf d->DataW.trod enc Tryz.prog w base sp held fu 24 [v]=some (D,Pl)->∃xs,BR m (fun _=>True) w v xs)
  (h:DataW.trod enc Tryz.prog w base sp held fuel 26 cs=some (d,ps)):
  ∃(x:Fi) (ua up:Value),cs=[.int .i64 x.kind,Ac x.attr,Ac x.value,Ac x.first,Ac x.last,ua,up]/\Ap (fun _=>True) w ua x.any/\BR m (fun _=>True) w up x.parts:=by
 have A5:Tryz.prog.cellsOf 3=1:=by kernel_rfl
 have A7:Tryz.prog.cellsOf 9=1:=by kernel_rfl
 have A4:Tryz.prog.cellsOf 23=1:=by kernel_rfl
 have A9:Tryz.prog.cellsOf 24=1:=by kernel_rfl
 match cs,hlen with
 | [c0,c1,c2,c3,c4,c5,c6],_=>
  obtain ⟨y0,y1,y2,y3,y4,y5,y6,nn,e,_,t0,t1,t2,t3,t4,t5,t6⟩:=ME Tryz.underlying26 h
  simp only [A5,A7,A4,A9,List.drop_zero,List.take_succ_cons,List.take_zero,List.drop_succ_cons] at t0 t1 t2 t3 t4 t5 t6
  have e1:=congrArg Prod.fst e
  simp only at e1
  obtain ⟨n0,en,_,_⟩:=DataW.trod_int Tryz.underlying3 t0
  obtain ⟨s1,A0,_,_⟩:=DataW.trod_string Tryz.underlying9 t1
  obtain ⟨s2,A3,_,_⟩:=DataW.trod_string Tryz.underlying9 t2
  obtain ⟨s3,A1,_,_⟩:=DataW.trod_string Tryz.underlying9 t3
  obtain ⟨s4,A2,_,_⟩:=DataW.trod_string Tryz.underlying9 t4
  simp only [List.cons.injEq,and_true] at en A0 A3 A1 A2
  subst en A0 A3 A1 A2
  obtain ⟨xs,A8⟩:=Zh (d:=y5.1) (ps:=y5.2) t5
  obtain ⟨qs,A6⟩:=ih nn c6 y6.1 y6.2 (by
   rw [e1,DataW.agg.sizeOf_spec]
   have:=List.sizeOf_lt_of_mem (show y6.1 ∈ [y0.1,y1.1,y2.1,y3.1,y4.1,y5.1,y6.1] by simp)
   omega) t6
  exact ⟨.mk n0 s1.data.toList s2.data.toList s3.data.toList s4.data.toList xs qs,c5,c6,by rw [DY,DY,DY,DY];rfl,A8,A6⟩
theorem Zi {w:World} {base:Nat} {held:Bool} {sp:Nat->Bool}:∀(m:Nat) {fuel:Nat} {v:Value} {d:DataW H} {ps:List MemPlace},SizeOf.sizeOf d<=m->
  DataW.trod enc Tryz.prog w base sp held fuel 24 [v]=some (d,ps)->∃xs,BR m (fun _=>True) w v xs:=by
 intro m
 induction m with
 | zero=>
  intro fuel v d ps hd h
  have:0<SizeOf.sizeOf d:=by cases d <;> simp <;> omega
  omega
 | succ m ih=>
  intro fuel v d ps hd h
  refine NK Tryz.underlying24 (by kernel_rfl) (by decide) (Iz (m+1) (fun _=>True)) h (fun g o cs fu D Pl hc hlen ht hD=>?_)
  obtain ⟨x,ua,up,rfl,h1,h2⟩:=Rz (m:=m) hlen (fun fu v D' Pl' hs hf=>ih (by omega) hf) ht
  have k:=fun j hj=>hc j hj
  exact ⟨x,ua,up,⟨k 0 (by decide),k 1 (by decide),k 2 (by decide),k 3 (by decide),k 4 (by decide),k 5 (by decide),k 6 (by decide)⟩,h1,h2⟩
end
end
section
open Go.ChangeShapes Go.WideShapes Go.ChangeAt Go.RowKit Go.Deep Go.Joins
open FiS (Fi)
section
variable {H:Type} {enc:TypeId × Value->H}
theorem Aew {α:Type} {cs:Array α} (h:cs.size=13):∃c0 c1 c2 c3 c4 c5 c6 c7 c8 c9 A0 A1 c12,cs=#[c0,c1,c2,c3,c4,c5,c6,c7,c8,c9,A0,A1,c12]:=by
 obtain ⟨l⟩:=cs
 match l,h with
 | [c0,c1,c2,c3,c4,c5,c6,c7,c8,c9,A0,A1,c12],_=>exact ⟨c0,c1,c2,c3,c4,c5,c6,c7,c8,c9,A0,A1,c12,rfl⟩
theorem Adl {w:World} {base:Nat} {held:Bool} {r:Reach} {b0:Nat} {v:Value} {d:DataW H} {ps:List MemPlace} {sp:Nat->Bool} {N:Nat}
  (A0:Value.okWide Tryz.prog w r b0 28 v) (hd:DataW.Trod enc Tryz.prog w base sp held 28 v d ps) (hb:Rows.uptoBulk d<=N):
  ∃(q:SeS.Rq) (n:Nat),Fb n w v q/\q.base.length<=N/\q.attrs.length<=N/\∀s ∈ q.attrs,s.length<=N:=by
 have B7:Tryz.prog.cellsOf 3=1:=by kernel_rfl
 have B2:Tryz.prog.cellsOf 9=1:=by kernel_rfl
 have B3:Tryz.prog.cellsOf 23=1:=by kernel_rfl
 have B1:Tryz.prog.cellsOf 4=1:=by kernel_rfl
 have B4:Tryz.prog.cellsOf 26=7:=by kernel_rfl
 obtain ⟨cs,rfl,hsz⟩:=okWide_struct Tryz.underlying28 A0
 obtain ⟨c0,c1,c2,c3,c4,c5,c6,c7,c8,c9,A9,B0,c12,rfl⟩:=Aew (hsz.trans (by kernel_rfl))
 obtain ⟨fuel,hf⟩:=hd
 have hf:DataW.trod enc Tryz.prog w base sp held fuel 28 [c0,c1,c2,c3,c4,c5,c6,c7,c8,c9,A9,B0,c12]=some (d,ps):=by simpa [Value.cells] using hf
 obtain ⟨y0,y1,y2,y3,y4,y5,y6,nn,e,_,t0,t1,t2,t3,t4,t5,t6⟩:=ME Tryz.underlying28 hf
 simp only [B7,B2,B3,B1,B4,List.drop_zero,List.take_succ_cons,List.take_zero,List.drop_succ_cons] at t0 t1 t2 t3 t4 t5 t6
 have A3:=congrArg Prod.fst e
 simp only at A3
 rw [A3] at hb
 have B8:=Nat.le_trans (Oh _) hb
 simp only [Rows.uptoBulkAll] at B8
 have A6:Rows.uptoBulk y0.1<=N:=by omega
 have B9:Rows.uptoBulk y4.1<=N:=by omega
 obtain ⟨s0,A1,B6,_⟩:=DataW.trod_string Tryz.underlying9 t0
 obtain ⟨n1,A5,_,_⟩:=DataW.trod_int Tryz.underlying3 t1
 obtain ⟨n2,A2,_,_⟩:=DataW.trod_int Tryz.underlying3 t2
 obtain ⟨x,ua,up,ex,h1,h2⟩:=Rz (m:=SizeOf.sizeOf y3.1) (cs:=[c3,c4,c5,c6,c7,c8,c9]) (d:=y3.1) (ps:=y3.2) rfl (fun fu v D Pl hs h=>Zi _ (Nat.le_of_lt hs) h) t3
 obtain ⟨xs,A7,hx1,C0,_⟩:=open_strs (d:=y4.1) (ps:=y4.2) t4 B9
 rw [B6] at A6
 have B5:=KW A6
 obtain ⟨b5,A4,_⟩:=DataW.trod_bool Tryz.underlying4 t5
 obtain ⟨n6,A8,_,_⟩:=DataW.trod_int Tryz.underlying3 t6
 simp only [List.cons.injEq,and_true] at A1 A5 A2 ex A4 A8
 obtain ⟨rfl,rfl,rfl,rfl,rfl,rfl,rfl⟩:=ex
 subst A1 A5 A2 A4 A8
 obtain ⟨a5,k5,rfl,_⟩:=Ae.form h1
 obtain ⟨a6,k6,rfl,_⟩:=Ae.form h2
 obtain ⟨aa,ka,rfl,_⟩:=Ae.form A7
 refine ⟨⟨s0.data.toList,n1,n2,x,xs,b5,n6⟩,_,⟨a5,a6,aa,k5,k6,ka,?_,⟨_,_,rfl,h1,h2⟩,A7.strs⟩,B5,hx1,C0⟩
 show _=Value.agg #[Ac s0.data.toList,_,_,_,_,_,_,_,_,_,_,_,_]
 rw [DY]
 rfl
end
end
end Go.Proofs.YtgngjfjaelgaeaaGreatDoor
