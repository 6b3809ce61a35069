/- The walks of slices.Grow of the nil slice of texts and of slices.Concat of two. Conditions: as stated. -/
import Derived.Lib.AppendZeros
import Derived.Test.YtgngjfjaelgaeaaGreatDoorKDnv
set_option maxRecDepth 100000
set_option maxHeartbeats 2000000
namespace Go.Proofs.YtgngjfjaelgaeaaGreatDoor
section
open Go.RowKit
def Hl (w:World) (xs:List (List UInt8)) (e:Ending) (w':World):Prop:=∃v,e=.returned v/\Own w' w.heap.size v xs/\Below w.heap.size w w'
theorem AeC (n:Nat) (hn:n<=1000000) (w:World):Calls Tryz.prog 147 #[.slice none 0 0,.int .i64 n] w (Hl w []):=by
 rcases Nat.eq_zero_or_pos n with h0 | A2
 · subst h0
   go_enter Tryz.func147,Tryz.ntmps147
   go_wp2_with fail
   go_ret
   exact ⟨_,rfl,Own.empty _ _,Below.refl _ _⟩
 · have h1:¬((n:Int)<0):=by omega
   have h4:(0:Int)<(n:Int):=by omega
   obtain ⟨i0,hi,A3,A5,A4⟩:=info_parts GQ
   have A0:=fun ty=>Lib.run_append_nil_zeros (P:=Tryz.prog) w 23 3 ty 9 i0 (.string ⟨#[]⟩) .i64 .i64 Tryz.underlying23 Tryz.underlying3 hi A3 n A2 (by omega) (by omega) (by rw [A4];omega)
   obtain ⟨G,hG⟩:∃G,G=grownCap w n 0 9:=⟨_,rfl⟩
   have A8:n<=G:=by rw [hG];exact grownCap_ge w _ _ _
   have A1:G<=maxLen:=by rw [hG];exact grownCap_le_maxLen w _ _ _ (by unfold maxLen;omega)
   rw [<-hG] at A0
   have A7:G<=9223372036854775807:=by unfold maxLen at A1;omega
   have A6:=hZ9 A1
   have HR:=hZ9 A0
   clear hG hi A0 A3 A5 A4 A1
   have hz:(Builtin.zeroCells (Value.string ⟨#[]⟩).cells n++Builtin.zeroCells (Value.string ⟨#[]⟩).cells (G - n)).size=G*1:=by
    rw [Array.size_append,size_zeroCells,size_zeroCells]
    show n*1+(G - n)*1=G*1
    omega
   have HZ:=hZ9 hz
   clear hz
   generalize Builtin.zeroCells (Value.string ⟨#[]⟩).cells n++Builtin.zeroCells (Value.string ⟨#[]⟩).cells (G - n)=Z at*
   go_enter Tryz.func147,Tryz.ntmps147
   go_wp2_with (at_builtin;refine Lib.wpList_append_run _ (by rfl) _ _ _ _ (by rfl) _ _ (by rfl) (by rfl) _ _ (HR.out _) ?_)
   go_ret
   refine ⟨_,rfl,⟨rfl,.inr ⟨w.heap.size,G,Z,rfl,Nat.le_refl _,?_,Nat.zero_le _,A6.out,HZ.out,rfl⟩⟩,(Below.refl _ _).drew.alloc (Nat.le_refl _) _⟩
   show (w.heap.push _)[w.heap.size]?=_
   rw [Array.getElem?_push_size]
theorem Acg (b:Nat) (v1 v2:Value) (xs ys:List (List UInt8)) (w:World) (hb:b<w.heap.size) (A6:w.cell? ⟨b,0,none⟩=some v1) (B0:w.cell? ⟨b,1,none⟩=some v2) (h1:Ai w v1 xs) (h2:Ai w v2 ys) (hl:xs.length<=400000) (B5:ys.length<=400000):Calls Tryz.prog 113 #[.slice (some ⟨b,0,none⟩) 2 2] w (Hl w (xs++ys)):=by
 have A2:=AeC (xs.length+ys.length) (by omega) w
 obtain ⟨a1,c1,rfl⟩:=h1.form
 obtain ⟨a2,c2,rfl⟩:=h2.form
 have H1:=hZ9 h1
 have H2:=hZ9 h2
 clear h1 h2
 have hk:((xs.length+ys.length:Nat):Int)=(xs.length:Int)+(ys.length:Int):=by omega
 rw [hk] at A2
 generalize hn:xs.length=n at*
 generalize hm:ys.length=m at*
 have HN:=hZ9 hn
 have HM:=hZ9 hm
 clear hn hm hk
 have B4:¬((n:Int)<0):=by omega
 have A8:¬((n:Int)+(m:Int)<0):=by omega
 go_enter Tryz.func113,Tryz.ntmps113
 go_wp2_with fail
 refine wp_loop_rounds 3 ?_
 repeat any_goals (rw [rounds_succ];go_wp2_with fail)
 refine A2.mono ?_;rintro e w1 ⟨v0,rfl,B2,A0⟩
 have d0:w1.cell? ⟨b,0,none⟩=some (.slice a1 n c1):=Ab A6 A0
 have d1:w1.cell? ⟨b,1,none⟩=some (.slice a2 m c2):=Ab B0 A0
 have hsz:=A0.size
 clear A2 B4 A8
 go_wp2_with fail
 refine wp_loop_rounds 3 ?_
 rw [rounds_succ]
 go_wp2_with (at_builtin;refine QV (by rfl) _ _ (by rfl) w.heap.size _ [] (by rfl) B2 _ xs (by rfl) (H1.out.call A0 (Nat.le_refl _)) ?e1 ?e2 ?_)
 case e1=>rw [HN.out];simp;omega
 case e2=>omega
 intro v3 w3 A4 A1
 have d2:w3.cell? ⟨b,1,none⟩=some (.slice a2 m c2):=(A1.cell (p:=⟨b,1,none⟩) hb).trans d1
 have A7:=A1.size
 have B3:=hZ9 A4
 have A5:=A0.trans A1
 clear A4 d0 d1
 go_wp2_with fail
 rw [rounds_succ]
 go_wp2_with (at_builtin;refine QV (by rfl) _ _ (by rfl) w.heap.size _ xs (by rfl) B3.out _ ys (by rfl) (H2.out.call A5 (Nat.le_refl _)) ?f1 ?f2 ?_)
 case f1=>rw [HN.out,HM.out];omega
 case f2=>omega
 intro v4 w4 A3 A9
 have B1:=hZ9 A3
 clear A3
 go_wp2_with fail
 rw [rounds_succ]
 go_wp2_with fail
 go_ret
 exact ⟨_,rfl,B1.out,A5.trans A9⟩
end
section
open Go.RowKit
theorem AeD {s fr dst:List UInt8} {t:List (List UInt8)} {e:Int} (h:DnS.Ad s=(t,e)) (he:e≠0):DnS.CU s fr dst=([],e):=by unfold DnS.CU;rw [h,if_neg he]
theorem AeE {s fr dst:List UInt8} {t u:List (List UInt8)} {e:Int} (h:DnS.Ad s=(t,0)) (k:DnS.Ad fr=(u,e)) (he:e≠0):DnS.CU s fr dst=([],e):=by unfold DnS.CU;rw [h,k,if_pos rfl,if_neg he]
theorem AeF {s fr dst:List UInt8} {t u v:List (List UInt8)} {e:Int} (h:DnS.Ad s=(t,0)) (k:DnS.Ad fr=(u,0)) (l:DnS.Ad dst=(v,e)) (he:e≠0):DnS.CU s fr dst=([],e):=by unfold DnS.CU;rw [h,k,l,if_pos rfl,if_pos rfl,if_neg he]
theorem AdG {s fr dst:List UInt8} {t u v:List (List UInt8)} (h:DnS.Ad s=(t,0)) (k:DnS.Ad fr=(u,0)) (l:DnS.Ad dst=(v,0)) (hr:DnS.CS t u=none):DnS.CU s fr dst=([],1):=by unfold DnS.CU;rw [h,k,l,if_pos rfl,if_pos rfl,if_pos rfl,hr]
theorem Ach {s fr dst:List UInt8} {t u v r:List (List UInt8)} (h:DnS.Ad s=(t,0)) (k:DnS.Ad fr=(u,0)) (l:DnS.Ad dst=(v,0)) (hr:DnS.CS t u=some r):DnS.CU s fr dst=DnS.GY (r++v):=by unfold DnS.CU;rw [h,k,l,if_pos rfl,if_pos rfl,if_pos rfl,hr]
theorem XS {t u r v:List (List UInt8)} {M:Nat} (hr:DnS.CS t u=some r) (h1:∀x ∈ t,x.length<=M) (h2:∀x ∈ v,x.length<=M) (hl:t.length<=12) (A0:v.length<=12):(∀x ∈ r++v,x.length<=M)/\(r++v).length<=24/\r.length<=12:=by
 have h:=DnS.MI.1 hr
 subst h
 rw [List.length_append] at hl
 refine ⟨fun x hx=>?_,by rw [List.length_append];omega,by omega⟩
 rcases List.mem_append.1 hx with hx | hx
 · exact h1 x (List.mem_append_left _ hx)
 · exact h2 x hx
theorem Aci (a b c:List UInt8) (ha:a.length<=1000000) (hb0:b.length<=1000000) (H6:c.length<=1000000) (w:World) (hE:Env w):Calls Tryz.prog 73 #[.string ⟨a.toArray⟩,.string ⟨b.toArray⟩,.string ⟨c.toArray⟩] w (BM (DnS.CU a b c) w):=by
 have hp:=fun w hE=>Du a ha w hE
 have hq:=fun w hE=>Du b hb0 w hE
 have hr:=fun w hE=>Du c H6 w hE
 unfold CL at hp hq hr
 have F3:=(DnS.Da a).1
 have F5:=(DnS.Da b).1
 have E5:=(DnS.Da c).1
 have E4:=hZ9 (DnS.GG (s:=a))
 have E2:=hZ9 (DnS.GG (s:=c))
 obtain ⟨X,hX⟩:∃X,DnS.Ad a=X:=⟨_,rfl⟩
 obtain ⟨Y,hY⟩:∃Y,DnS.Ad b=Y:=⟨_,rfl⟩
 obtain ⟨Z,hZ⟩:∃Z,DnS.Ad c=Z:=⟨_,rfl⟩
 rw [hX] at hp F3 E4
 rw [hY] at hq F5
 rw [hZ] at hr E5 E2
 obtain ⟨tx,ex⟩:=X
 obtain ⟨ty,ey⟩:=Y
 obtain ⟨tz,ez⟩:=Z
 simp only at hp hq hr F3 F5 E5 E4 E2
 have HX:=hZ9 hX
 have HY:=hZ9 hY
 have HZ:=hZ9 hZ
 clear hX hY hZ
 have G2:=Whole.made w 166 #[.slice none 0 0,.slice none 0 0,.slice none 0 0]
 have G0:=Af w (.cells #[.slice none 0 0,.slice none 0 0,.slice none 0 0] 166)
 generalize F4:w.alloc (.cells #[.slice none 0 0,.slice none 0 0,.slice none 0 0] 166)=wA at*
 have C7:wA.heap.size=w.heap.size+1:=by rw [<-F4];simp
 have D3:=Whole.made wA 9 #[Ac a,Ac b,Ac c]
 have D2:=G0.alloc (by omega) (.cells #[Ac a,Ac b,Ac c] 9)
 have C5:=G2.alloc (.cells #[Ac a,Ac b,Ac c] 9)
 unfold Ac at D3 D2 C5
 rw [C7] at D3
 generalize F2:wA.alloc (.cells #[.string ⟨a.toArray⟩,.string ⟨b.toArray⟩,.string ⟨c.toArray⟩] 9)=wB at*
 have B8:wB.heap.size=w.heap.size+2:=by rw [<-F2];simp;omega
 have G7:=hE.below D2
 have B5:=hZ9 B8
 have c0:wB.cell? ⟨w.heap.size+1,0,none⟩=some (.string ⟨a.toArray⟩):=D3.cell 0
 go_enter Tryz.func73,Tryz.ntmps73
 go_wp2_with fail
 (try simp only [F2])
 clear F4 G2 G0 C7 F2 B8
 refine wp_loop_rounds 4 ?_
 rw [rounds_succ]
 go_wp2_with fail
 refine (hp _ G7).mono ?_;rintro e w1 ⟨v1,rfl,E1,D4⟩
 have A3:=C5.call D4
 have D0:=D3.call D4
 have D1:=D2.trans (D4.mono D2.size)
 have I5:=D4.size
 obtain ⟨a1,n1,m1,G6⟩:∃a n m,v1=.slice a n m:=by
  obtain ⟨a,m,e⟩:=E1.form
  exact ⟨a,_,m,e⟩
 have q1:w1.cell? ⟨w.heap.size,0,none⟩=some (.slice none 0 0):=A3.cell 0
 have p1:w1.frozen? ⟨w.heap.size,0,none⟩=false:=A3.thaw 0
 subst G6
 by_cases hx1:ex=0
 case neg=>
  have HR:=hZ9 (AeD (fr:=b) (dst:=c) HX.out hx1)
  have G4:(ex !=0)=true:=by simpa using hx1
  have C9:=hZ9 D1
  go_wp2_with fail
  go_ret2
  exact BM.mk' HR.out (C9.out.setCell (Nat.le_refl _) _)
 subst hx1
 go_wp2_with fail
 rw [rounds_succ]
 have C1:=A3.put 0 (.slice a1 n1 m1)
 have A4:=D0.other (p:=⟨w.heap.size,0,none⟩) (by show w.heap.size+1≠w.heap.size;omega) (.slice a1 n1 m1)
 have B4:=D1.setCell (p:=⟨w.heap.size,0,none⟩) (Nat.le_refl _) (.slice a1 n1 m1)
 have A8:Own (w1.setCell ⟨w.heap.size,0,none⟩ (.slice a1 n1 m1)) wB.heap.size (.slice a1 n1 m1) tx:=(E1).kept (fun q hq=>Below.heap_setCell _ _ _ _ (by
  have:=(Dh (E1) hq).1
  have h2:=B5.out
  show q≠w.heap.size
  omega))
 have H3:(w1.setCell ⟨w.heap.size,0,none⟩ (.slice a1 n1 m1)).heap.size=w1.heap.size:=by simp [World.setCell]
 generalize F1:w1.setCell ⟨w.heap.size,0,none⟩ (.slice a1 n1 m1)=u1 at*
 have H5:=hE.below B4
 have c1:u1.cell? ⟨w.heap.size+1,1,none⟩=some (.string ⟨b.toArray⟩):=A4.cell 1
 clear q1 p1 F1
 go_wp2_with fail
 refine (hq _ H5).mono ?_;rintro e w2 ⟨v2,rfl,E7,B6⟩
 have A0:=C1.call B6
 have B9:=A4.call B6
 have B7:=B4.trans (B6.mono B4.size)
 have I2:=B6.size
 obtain ⟨a2,n2,m2,H2⟩:∃a n m,v2=.slice a n m:=by
  obtain ⟨a,m,e⟩:=E7.form
  exact ⟨a,_,m,e⟩
 have q2:w2.cell? ⟨w.heap.size,1,none⟩=some (.slice none 0 0):=A0.cell 1
 have p2:w2.frozen? ⟨w.heap.size,1,none⟩=false:=A0.thaw 1
 subst H2
 by_cases E9:ey=0
 case neg=>
  have HR:=hZ9 (AeE (dst:=c) HX.out HY.out E9)
  have G4:(ey !=0)=true:=by simpa using E9
  have C9:=hZ9 B7
  go_wp2_with fail
  go_ret2
  exact BM.mk' HR.out (C9.out.setCell (Nat.le_refl _) _)
 subst E9
 go_wp2_with fail
 rw [rounds_succ]
 have C0:=A0.put 1 (.slice a2 n2 m2)
 have A7:=B9.other (p:=⟨w.heap.size,1,none⟩) (by show w.heap.size+1≠w.heap.size;omega) (.slice a2 n2 m2)
 have B3:=B7.setCell (p:=⟨w.heap.size,1,none⟩) (Nat.le_refl _) (.slice a2 n2 m2)
 have A6:Own (w2.setCell ⟨w.heap.size,1,none⟩ (.slice a2 n2 m2)) wB.heap.size (.slice a1 n1 m1) tx:=(A8.call B6).kept (fun q hq=>Below.heap_setCell _ _ _ _ (by
  have:=(Dh (A8.call B6) hq).1
  have h2:=B5.out
  show q≠w.heap.size
  omega))
 have A9:Own (w2.setCell ⟨w.heap.size,1,none⟩ (.slice a2 n2 m2)) u1.heap.size (.slice a2 n2 m2) ty:=(E7).kept (fun q hq=>Below.heap_setCell _ _ _ _ (by
  have:=(Dh (E7) hq).1
  have h2:=B5.out
  show q≠w.heap.size
  omega))
 have I1:(w2.setCell ⟨w.heap.size,1,none⟩ (.slice a2 n2 m2)).heap.size=w2.heap.size:=by simp [World.setCell]
 generalize E0:w2.setCell ⟨w.heap.size,1,none⟩ (.slice a2 n2 m2)=u2 at*
 have H9:=hE.below B3
 have c2:u2.cell? ⟨w.heap.size+1,2,none⟩=some (.string ⟨c.toArray⟩):=A7.cell 2
 clear q2 p2 E0
 go_wp2_with fail
 refine (hr _ H9).mono ?_;rintro e w3 ⟨v3,rfl,F0,A5⟩
 have A2:=C0.call A5
 have G5:=A7.call A5
 have C6:=B3.trans (A5.mono B3.size)
 have I4:=A5.size
 obtain ⟨a3,n3,m3,H0⟩:∃a n m,v3=.slice a n m:=by
  obtain ⟨a,m,e⟩:=F0.form
  exact ⟨a,_,m,e⟩
 have q3:w3.cell? ⟨w.heap.size,2,none⟩=some (.slice none 0 0):=A2.cell 2
 have p3:w3.frozen? ⟨w.heap.size,2,none⟩=false:=A2.thaw 2
 subst H0
 by_cases E8:ez=0
 case neg=>
  have HR:=hZ9 (AeF HX.out HY.out HZ.out E8)
  have G4:(ez !=0)=true:=by simpa using E8
  have C9:=hZ9 C6
  go_wp2_with fail
  go_ret2
  exact BM.mk' HR.out (C9.out.setCell (Nat.le_refl _) _)
 subst E8
 go_wp2_with fail
 rw [rounds_succ]
 have A1:=A2.put 2 (.slice a3 n3 m3)
 have B1:=C6.setCell (p:=⟨w.heap.size,2,none⟩) (Nat.le_refl _) (.slice a3 n3 m3)
 have C3:Own (w3.setCell ⟨w.heap.size,2,none⟩ (.slice a3 n3 m3)) wB.heap.size (.slice a1 n1 m1) tx:=(A6.call A5).kept (fun q hq=>Below.heap_setCell _ _ _ _ (by
  have:=(Dh (A6.call A5) hq).1
  have h2:=B5.out
  show q≠w.heap.size
  omega))
 have C2:Own (w3.setCell ⟨w.heap.size,2,none⟩ (.slice a3 n3 m3)) u1.heap.size (.slice a2 n2 m2) ty:=(A9.call A5).kept (fun q hq=>Below.heap_setCell _ _ _ _ (by
  have:=(Dh (A9.call A5) hq).1
  have h2:=B5.out
  show q≠w.heap.size
  omega))
 have C8:Own (w3.setCell ⟨w.heap.size,2,none⟩ (.slice a3 n3 m3)) u2.heap.size (.slice a3 n3 m3) tz:=(F0).kept (fun q hq=>Below.heap_setCell _ _ _ _ (by
  have:=(Dh (F0) hq).1
  have h2:=B5.out
  show q≠w.heap.size
  omega))
 have H1:(w3.setCell ⟨w.heap.size,2,none⟩ (.slice a3 n3 m3)).heap.size=w3.heap.size:=by simp [World.setCell]
 generalize E6:w3.setCell ⟨w.heap.size,2,none⟩ (.slice a3 n3 m3)=u3 at*
 have I3:=hE.below B1
 have d0:u3.cell? ⟨w.heap.size,0,none⟩=some (.slice a1 n1 m1):=A1.cell 0
 have d1:u3.cell? ⟨w.heap.size,1,none⟩=some (.slice a2 n2 m2):=A1.cell 1
 clear q3 p3 E6
 go_wp2_with fail
 refine (TG _ _ tx ty _ _ C3 C2.strs (by omega) (by omega)).mono ?_;rintro e w4 ⟨v4,rfl,F7,D7⟩
 have B0:=B1.trans (D7.mono B1.size)
 have C4:=A1.call D7
 have D8:=C8.call D7
 have d2:w4.cell? ⟨w.heap.size,2,none⟩=some (.slice a3 n3 m3):=C4.cell 2
 have D9:=hZ9 (AdG HX.out HY.out HZ.out)
 have B2:=hZ9 (fun r=>Ach (r:=r) HX.out HY.out HZ.out)
 have E3:=hZ9 (fun r (h:DnS.CS tx ty=some r)=>XS (M:=3000) h E4.out E2.out F3 E5)
 clear hp hq hr HX HY HZ d0 d1
 generalize DnS.CS tx ty=R at*
 cases R with
 | none=>
  have HR:=hZ9 (D9.out rfl)
  clear D9 B2 E3
  go_wp2_with fail
  go_ret2
  exact BM.mk' HR.out B0
 | some r=>
  have HR:=hZ9 (B2.out r rfl)
  obtain ⟨F8,I7,I6⟩:=E3.out r rfl
  have G3:=XR F8 (by omega)
  have G1:Ai w4 v4 r:=F7
  obtain ⟨a4,n4,m4,H7⟩:∃a n m,v4=.slice a n m:=by
   obtain ⟨a,m,e⟩:=G1.form
   exact ⟨a,_,m,e⟩
  subst H7
  have D6:=Whole.made w4 23 #[.slice a4 n4 m4,.slice a3 n3 m3]
  have D5:=Af w4 (.cells #[.slice a4 n4 m4,.slice a3 n3 m3] 23)
  have I0:=Acg w4.heap.size (.slice a4 n4 m4) (.slice a3 n3 m3) r tz _ D6.lt (D6.cell 0) (D6.cell 1) (G1.call D5 (Nat.le_refl _)) ((D8.call D5).strs) (by omega) (by omega)
  have H8:=hZ9 G3
  have F9:=hZ9 (B0.trans (D5.mono B0.size))
  clear D9 B2 E3 F8 F7 D6 G3 D5
  go_wp2_with fail
  refine I0.mono ?_;rintro e w6 ⟨v6,rfl,H4,G8⟩
  have F6:=hZ9 (F9.out.trans (G8.mono F9.out.size))
  go_wp2_with fail
  refine (Adz _ _ _ H4.strs (by omega) (by have:=H8.out;omega)).mono ?_;rintro e w8 ⟨rfl,G9⟩
  go_wp2_with fail
  go_ret2
  exact BM.mk' HR.out (F6.out.trans (G9.mono F6.out.size))
end
section
open Go.RowKit
def GP (xs:List EnS.At):Prop:=xs.length<=1048576/\∀x ∈ xs,x.vals.length<=1048576/\∀v ∈ x.vals,v.length<=1000000
theorem Nk:∀{xs:List EnS.At} (t:List UInt8),(∀x ∈ xs,x.vals.length<=1048576/\∀v ∈ x.vals,v.length<=1000000)->(EnS.valuesL xs t).length<=1048576/\∀v ∈ EnS.valuesL xs t,v.length<=1000000
 | [],_,_=>⟨Nat.zero_le _,fun v hv=>by cases hv⟩
 | a :: l,t,h=>by
  unfold EnS.valuesL
  split
  · exact h a (List.mem_cons_self ..)
  · exact Nk t (fun x hx=>h x (List.mem_cons_of_mem _ hx))
theorem OH {xs:List EnS.At} (h:GP xs) (name nm:List UInt8):(EnS.DI ⟨name,xs⟩ nm).length<=1048576/\∀v ∈ EnS.DI ⟨name,xs⟩ nm,v.length<=1000000:=by
 unfold EnS.DI
 split
 · exact ⟨Nat.zero_le _,fun v hv=>by cases hv⟩
 · exact Nk _ h.2
theorem VK {xs:List EnS.At} {t:List UInt8} {k:Nat} (hk:k<xs.length) (h:xs[k].typ=t):EnS.valuesL (xs.drop k) t=xs[k].vals:=by
 rw [List.drop_eq_getElem_cons hk];unfold EnS.valuesL;rw [if_pos h]
theorem TI {xs:List EnS.At} {t:List UInt8} {k:Nat} (hk:k<xs.length) (h:xs[k].typ≠t):EnS.valuesL (xs.drop k) t=EnS.valuesL (xs.drop (k+1)) t:=by
 rw [List.drop_eq_getElem_cons hk];conv=>lhs;unfold EnS.valuesL
 rw [if_neg h]
theorem VM {xs:List EnS.At} {t:List UInt8} {k:Nat} (hk:xs.length<=k):EnS.valuesL (xs.drop k) t=[]:=by rw [List.drop_eq_nil_of_le hk];rfl
def Ks (o:Option Nat):Int:=match o with | some i=>(i:Int) | none=>-1
theorem IW {α:Type} {p:α->Bool}:∀{xs:List α} {k:Nat} (hk:k<xs.length),(∀x ∈ xs.take k,p x=false)->p xs[k]=true->xs.findIdx? p=some k
 | [],k,hk,_,_=>by simp at hk
 | x :: xs,0,_,_,hp=>by rw [List.findIdx?_cons,if_pos (show p x=true from hp)]
 | x :: xs,k+1,hk,h,hp=>by
  rw [List.findIdx?_cons,if_neg (by rw [h x (by simp)];simp),IW (k:=k) (by simpa using hk) (fun y hy=>h y (by simp [hy])) (by simpa using hp)]
  rfl
theorem NS {α:Type} {p:α->Bool} {xs:List α} (h:∀x ∈ xs,p x=false):xs.findIdx? p=none:=by
 rw [List.findIdx?_eq_none_iff];exact h
theorem take_miss {α:Type} {p:α->Bool} {xs:List α} {k:Nat} (hk:k<xs.length) (h:∀x ∈ xs.take k,p x=false) (hp:p xs[k]=false):∀x ∈ xs.take (k+1),p x=false:=fun x hx=>by
 rw [List.take_succ_eq_append_getElem hk] at hx
 rcases List.mem_append.1 hx with hx | hx
 · exact h x hx
 · have:=List.mem_singleton.1 hx;subst this;exact hp
theorem OI (v:Value) (xs:List (List UInt8)) (w:World) (h:Ai w v xs) (hl:xs.length<=1048576):Calls Tryz.prog 83 #[v] w (Hl w xs):=by
 obtain ⟨a,c,rfl,hc,A0⟩:=h
 cases a with
 | none=>
  have h0:xs=[]:=by
   rcases A0 with h | ⟨g,o,e,_⟩
   · exact h
   · cases e
  subst h0
  refine (Tryz.slices_Clone_string_nil _ _ w).mono ?_
  rintro e w' ⟨rfl,rfl⟩
  exact ⟨_,rfl,Own.empty _ _,Below.refl _ _⟩
 | some ad=>
  rcases A0 with rfl | ⟨g,o,e,hg,hcell⟩
  · refine (Tryz.slices_Clone_string_zero ad c w).mono ?_
    rintro e w' ⟨v',rfl,ho,_,hb⟩
    exact ⟨_,rfl,ho,hb⟩
  · cases e
    refine (Tryz.slices_Clone_string g o xs.length c (xs.map fun l=>⟨l.toArray⟩) w (by simp) (by omega) (fun j hj=>?_)).mono ?_
    · have A1:j<xs.length:=by simpa using hj
      rw [hcell j _ (List.getElem?_eq_getElem A1)]
      unfold Ac
      simp [List.getD,A1]
    · rintro e w' ⟨v',rfl,ho,_,hb⟩
      refine ⟨_,rfl,?_,hb⟩
      have e2:((xs.map fun l=>(⟨l.toArray⟩:ByteArray)).take xs.length).map Value.string=xs.map Ac:=by
       rw [List.take_of_length_le (by simp),List.map_map];rfl
      rw [e2] at ho
      exact ho
theorem TJ (name:List UInt8) (xs:List EnS.At) (u:Value) (nm:List UInt8) (w:World) (h:BK w u xs) (hf:GP xs) (C3:nm.length<=1048576):
  Calls Tryz.prog 90 #[.agg #[.string ⟨name.toArray⟩,u],.string ⟨nm.toArray⟩] w (Hl w (EnS.DI ⟨name,xs⟩ nm)):=by
 have ht:∀w,Calls Tryz.prog 51 #[.string ⟨nm.toArray⟩] w (Am nm w):=fun w=>FW ⟨nm.toArray⟩ (by show nm.toArray.size<=_;simp;omega) w
 unfold Am at ht
 have HV:Hid (EnS.DI ⟨name,xs⟩ nm=if (RuS.typeOf nm).1=[] then [] else EnS.valuesL xs (RuS.typeOf nm).1):=hZ9 rfl
 generalize EnS.DI ⟨name,xs⟩ nm=R at*
 generalize RuS.typeOf nm=TT at*
 obtain ⟨T,sy⟩:=TT
 simp only at ht HV
 obtain ⟨hl,hv⟩:=hf
 obtain ⟨a,c,rfl,hc,B3⟩:=Ae.at h
 have B6:=hZ9 B3
 have B9:=hZ9 (fun k (h:k<xs.length)=>(hv xs[k] (List.getElem_mem h)).1)
 have A5:=Af w (.cells #[.string ⟨name.toArray⟩,.slice a xs.length c] 52)
 have A7:=Whole.made w 52 #[.string ⟨name.toArray⟩,.slice a xs.length c]
 clear B3 h hv
 generalize hn:xs.length=n at hc hl A5 A7⊢
 have HN:=hZ9 hn
 clear hn
 by_cases hT:T=[]
 · have B7:T.isEmpty=true:=by rw [hT];rfl
   have C1:(T !=[])=false:=by rw [hT];rfl
   have C0:(T==[])=true:=by rw [hT];rfl
   have HR:Hid (R=[]):=hZ9 (by rw [HV.out,if_pos hT])
   clear HV hT
   go_enter Tryz.func90,Tryz.ntmps90
   go_wp2_with fail
   refine (ht _).mono ?_;rintro e w1 ⟨rfl,A3⟩
   have hz:=Aa A5 A3
   have A2:=A7.call A3
   have q0:=A2.cell 0
   have q1:=A2.cell 1
   simp only [List.getElem?_toArray,List.getElem?_cons_zero,List.getElem?_cons_succ] at q0 q1
   clear A5 A3 A2 A7
   go_wp2_with fail
   go_loopw [17] (fun i wr=>∃k:Nat,k<=n/\i=.int .i64 k/\Below w.heap.size w wr) (fun i _=>n - (intOf i).toNat)
   case atStart=>exact ⟨0,Nat.zero_le _,rfl,hz⟩
   case round=>
    obtain ⟨k,hk,rfl,hb⟩:=hrel
    by_cases A9:k<n
    · have A0:k<xs.length:=by rw [HN.out];exact A9
      obtain ⟨g,o,rfl,hg,_,hra⟩:=B6.out k A0
      obtain ⟨c0,a2,p2,c1,B1,hu⟩:=Bl.parts (Bl.call hra hg trivial hb)
      generalize xs[k]=x at*
      obtain ⟨ty,vals⟩:=x
      simp only at c0 c1 B1
      clear hra A0 hu
      generalize vals.length=n2 at*
      have A4:=hb.alloc hb.size (.cells #[.string ⟨ty.toArray⟩,.slice a2 n2 p2] 56)
      cases hq:(ty==T) with
      | true=>
       go_wp2_with fail
       go_roundw
       case rel=>exact ⟨k+1,by omega,by go_num,A4⟩
       case measure=>simp [intOf];omega
      | false=>
       go_wp2_with fail
       go_roundw
       case rel=>exact ⟨k+1,by omega,by go_num,A4⟩
       case measure=>simp [intOf];omega
    · have C2:k=n:=by omega
      subst C2
      go_wp2_with fail
      go_ret
      exact ⟨_,rfl,by rw [HR.out];exact Own.empty _ _,hb⟩
 · have B7:T.isEmpty=false:=by cases T <;> simp_all
   have C1:(T !=[])=true:=by cases T <;> simp_all
   have C0:(T==[])=false:=by cases T <;> simp_all
   have HR:Hid (R=EnS.valuesL (xs.drop 0) T):=hZ9 (by rw [HV.out,if_neg hT];rfl)
   clear HV hT
   go_enter Tryz.func90,Tryz.ntmps90
   go_wp2_with fail
   refine (ht _).mono ?_;rintro e w1 ⟨rfl,A3⟩
   have hz:=Aa A5 A3
   have A2:=A7.call A3
   have q0:=A2.cell 0
   have q1:=A2.cell 1
   simp only [List.getElem?_toArray,List.getElem?_cons_zero,List.getElem?_cons_succ] at q0 q1
   clear A5 A3 A2 A7
   go_wp2_with fail
   go_loopw [17] (fun i wr=>∃k:Nat,k<=n/\i=.int .i64 k/\Hid (R=EnS.valuesL (xs.drop k) T)/\Below w.heap.size w wr) (fun i _=>n - (intOf i).toNat)
   case atStart=>exact ⟨0,Nat.zero_le _,rfl,HR,hz⟩
   case round=>
    obtain ⟨k,hk,rfl,HQ,hb⟩:=hrel
    clear HR
    by_cases A9:k<n
    · have A0:k<xs.length:=by rw [HN.out];exact A9
      obtain ⟨g,o,rfl,hg,_,hra⟩:=B6.out k A0
      obtain ⟨c0,a2,p2,c1,B1,hu⟩:=Bl.parts (Bl.call hra hg trivial hb)
      have A6:=hZ9 (fun he=>VK (t:=T) A0 he)
      have A1:=hZ9 (fun he=>TI (t:=T) A0 he)
      have B2:=B9.out k A0
      generalize xs[k]=x at*
      obtain ⟨ty,vals⟩:=x
      simp only at c0 c1 B1 hu A6 A1 B2
      clear hra A0
      have A4:=hb.alloc hb.size (.cells #[.string ⟨ty.toArray⟩,.slice a2 vals.length p2] 56)
      have B4:=hu.strs
      have A8:=B4.call (Af wr (.cells #[.string ⟨ty.toArray⟩,.slice a2 vals.length p2] 56)) (Nat.le_refl _)
      clear hu B4
      cases hq:(ty==T) with
      | true=>
       have HE:Hid (R=vals):=hZ9 (by rw [HQ.out];exact A6.out (beq_iff_eq.1 hq))
       have B5:=OI _ vals _ A8 B2
       unfold Hl at B5
       go_wp2_with fail
       refine B5.mono ?_;rintro e w2 ⟨v2,rfl,B0,B8⟩
       go_wp2_with fail
       go_ret
       exact ⟨_,rfl,by rw [HE.out];exact B0.mono A4.size,A4.trans (B8.mono A4.size)⟩
      | false=>
       have HE:Hid (R=EnS.valuesL (xs.drop (k+1)) T):=hZ9 (by rw [HQ.out];exact A1.out (by simpa using hq))
       clear A8
       generalize vals.length=n2 at*
       go_wp2_with fail
       go_roundw
       case rel=>exact ⟨k+1,by omega,by go_num,HE,A4⟩
       case measure=>simp [intOf];omega
    · have HE:Hid (R=[]):=hZ9 (by rw [HQ.out];exact VM (by rw [HN.out];omega))
      go_wp2_with fail
      go_ret
      exact ⟨_,rfl,by rw [HE.out];exact Own.empty _ _,hb⟩
theorem ZO (nm n v:List UInt8) (b1 b2:Nat) (w:World) (hE:Env w) (h1:w.cell? ⟨b1,0,none⟩=some (Ac nm)) (h2:w.cell? ⟨b2,0,none⟩=some (Ac n)) (hn:nm.length<=1048576) (hv:v.length<=1000000):
  Calls Tryz.prog 158 #[.string ⟨v.toArray⟩,.pointer (some ⟨b1,0,none⟩),.pointer (some ⟨b2,0,none⟩)] w (DK (EnS.Fq nm n v) w):=by
 have hc:=Gj nm v hn hv w hE
 unfold BM at hc
 have HR:Hid (EnS.Fq nm n v=(decide ((DnS.AB nm v).2=0)&&((DnS.AB nm v).1==n))):=hZ9 rfl
 generalize EnS.Fq nm n v=R at*
 generalize DnS.AB nm v=V at*
 obtain ⟨m,e0⟩:=V
 simp only at hc HR
 unfold Ac at h1 h2
 by_cases he:e0=0
 · subst he
   go_enter Tryz.func158,Tryz.ntmps158
   go_wp2_with fail
   refine hc.mono ?_;rintro e w1 ⟨rfl,A0⟩
   have h3:=Ab h2 A0
   go_wp2_with fail
   go_ret
   exact ⟨by rw [HR.out];simp,A0⟩
 · have A1:(e0==0)=false:=by simpa using he
   go_enter Tryz.func158,Tryz.ntmps158
   go_wp2_with fail
   refine hc.mono ?_;rintro e w1 ⟨rfl,A0⟩
   go_wp2_with fail
   go_ret
   exact ⟨by rw [HR.out,decide_eq_false he];rfl,A0⟩
def Gk (o:Option Nat) (w:World) (e:Ending) (w':World):Prop:=e=.returned (.int .i64 (Ks o))/\Below w.heap.size w w'
theorem Acj (nm n:List UInt8) (v:Value) (xs:List (List UInt8)) (b1 b2:Nat) (w:World) (hE:Env w) (h1:w.cell? ⟨b1,0,none⟩=some (Ac nm)) (h2:w.cell? ⟨b2,0,none⟩=some (Ac n)) (hn:nm.length<=1048576)
  (h:Ai w v xs) (hl:xs.length<=1048576) (hx:∀x ∈ xs,x.length<=1000000):
  Calls Tryz.prog 157 #[v,.func (.func 158) #[] #[.pointer (some ⟨b1,0,none⟩),.pointer (some ⟨b2,0,none⟩)]] w (Gk (xs.findIdx? (EnS.Fq nm n)) w):=by
 obtain ⟨a,c,rfl,hc,A6⟩:=Ae.at (h.strsP (fun _=>True) (fun _ _=>trivial))
 have B0:=hZ9 A6
 have HX:=hZ9 (fun k (h:k<xs.length)=>hx xs[k] (List.getElem_mem h))
 have HC:=fun x w hE k1 k2 hx=>ZO nm n x b1 b2 w hE k1 k2 hn hx
 unfold DK at HC
 have A1:=hZ9 (fun k (hk:k<xs.length)=>IW (p:=EnS.Fq nm n) hk)
 have A2:=hZ9 (NS (p:=EnS.Fq nm n) (xs:=xs))
 have A7:=hZ9 (fun k (hk:k<xs.length)=>take_miss (p:=EnS.Fq nm n) hk)
 generalize xs.findIdx? (EnS.Fq nm n)=R at*
 generalize EnS.Fq nm n=p at*
 clear A6 hx h
 generalize A8:xs.length=m at hc hl⊢
 have HN:=hZ9 A8
 clear A8
 go_enter Tryz.func157,Tryz.ntmps157
 go_wp2_with fail
 go_loopw [8] (fun i wr=>∃k:Nat,k<=m/\i=.int .i64 k/\Hid (∀x ∈ xs.take k,p x=false)/\Below w.heap.size w wr) (fun i _=>m - (intOf i).toNat)
 case atStart=>exact ⟨0,Nat.zero_le _,rfl,hZ9 (fun x hx=>by cases hx),Below.refl _ _⟩
 case round=>
  obtain ⟨k,hk,rfl,HA,hb⟩:=hrel
  by_cases B1:k<m
  · have A0:k<xs.length:=by rw [HN.out];exact B1
    obtain ⟨g,o,rfl,hg,_,hra⟩:=B0.out k A0
    have c0:wr.cell? ⟨g,o+k,none⟩=some (Ac xs[k]):=by
     have:w.cell? ⟨g,o+k*1,none⟩=some (Ac xs[k]):=hra
     rw [Nat.mul_one] at this
     exact Ab this hb
    have k1:=Ab h1 hb
    have k2:=Ab h2 hb
    have A9:=HX.out k A0
    have HF:=hZ9 (A1.out k A0 HA.out)
    have HT:=hZ9 (A7.out k A0 HA.out)
    generalize xs[k]=x at*
    unfold Ac at c0
    have A3:=HC x wr (hE.below hb) k1 k2 A9
    clear hra A0 A1 A2 A7
    cases hq:p x with
    | true=>
     have HR:=hZ9 (HF.out hq)
     rw [hq] at A3
     clear hq HF HT
     go_wp2_with fail
     refine A3.mono ?_;rintro e w1 ⟨rfl,A5⟩
     go_wp2_with fail
     go_ret
     exact ⟨by rw [HR.out];rfl,hb.trans (A5.mono hb.size)⟩
    | false=>
     have HR:=hZ9 (HT.out hq)
     rw [hq] at A3
     clear hq HF HT
     go_wp2_with fail
     refine A3.mono ?_;rintro e w1 ⟨rfl,A5⟩
     go_wp2_with fail
     go_roundw
     case rel=>exact ⟨k+1,by omega,by go_num,HR,hb.trans (A5.mono hb.size)⟩
     case measure=>simp [intOf];omega
  · have A4:Hid (R=none):=hZ9 (A2.out (by have:=HA.out;rwa [List.take_of_length_le (by rw [HN.out];omega)] at this))
    go_wp2_with fail
    go_ret
    exact ⟨by rw [A4.out];rfl,hb⟩
theorem AeG (nm v:List UInt8) (u:Value) (xs:List (List UInt8)) (w:World) (hE:Env w) (hn:nm.length<=1048576) (hv:v.length<=1000000) (h:Ai w u xs) (hl:xs.length<=1048576) (hx:∀x ∈ xs,x.length<=1000000):
  Calls Tryz.prog 125 #[.string ⟨nm.toArray⟩,u,.string ⟨v.toArray⟩] w (Gk (EnS.KY nm xs v) w):=by
 have B0:∀(fn:Fn) (first cap:Array Value) (w:World),(Instr.makeFunc fn first cap).run Tryz.prog w=.ok (.func fn first cap) w:=fun _ _ _ _=>rfl
 have hb0:=Af w (.cells #[.string ⟨nm.toArray⟩] 9)
 have A5:=Whole.made w 9 #[.string ⟨nm.toArray⟩]
 have hc:=Gj nm v hn hv _ (hE.below hb0)
 unfold BM at hc
 have HR:Hid (EnS.KY nm xs v=if (DnS.AB nm v).2=0 then xs.findIdx? (EnS.Fq nm (DnS.AB nm v).1) else none):=hZ9 rfl
 generalize EnS.KY nm xs v=R at*
 generalize DnS.AB nm v=V at*
 obtain ⟨n,e0⟩:=V
 simp only at hc HR
 have hi:=fun w b1 b2 hE h1 h2 h=>Acj nm n u xs b1 b2 w hE h1 h2 hn h hl hx
 unfold Gk at hi
 obtain ⟨a,c,rfl⟩:=h.form
 generalize hm:xs.length=m at hl h hi⊢
 by_cases he:e0=0
 · subst he
   rw [if_pos rfl] at HR
   generalize xs.findIdx? (EnS.Fq nm n)=I at*
   go_enter Tryz.func125,Tryz.ntmps125
   go_wp2_with fail
   refine hc.mono ?_;rintro e w1 ⟨rfl,A0⟩
   have hz:=Aa hb0 A0
   have k0:=A5.call A0
   have A1:=Af w1 (.cells #[.string ⟨n.toArray⟩] 9)
   have A4:=Whole.made w1 9 #[.string ⟨n.toArray⟩]
   have k1:=k0.call A1
   have A3:=(hE.below hz).below A1
   have A2:=(h.call hz (Nat.le_refl _)).call A1 (Nat.le_refl _)
   have A8:=hi _ w.heap.size w1.heap.size A3 (k1.cell 0) (A4.cell 0) A2
   have A7:=Aa hz A1
   clear hi A1 k0 A0 A3 A2 k1 A4 hz
   go_wp2_with fail
   refine A8.mono ?_;rintro e w2 ⟨rfl,A6⟩
   go_wp2_with fail
   go_ret
   exact ⟨by rw [HR.out];rfl,Aa A7 A6⟩
 · have A9:(e0 !=0)=true:=by simpa using he
   rw [if_neg he] at HR
   clear hi
   go_enter Tryz.func125,Tryz.ntmps125
   go_wp2_with fail
   refine hc.mono ?_;rintro e w1 ⟨rfl,A0⟩
   go_wp2_with fail
   go_ret
   exact ⟨by rw [HR.out];rfl,Aa (Aa hb0 A0) (Af w1 _)⟩
theorem WR (o:Option Nat):decide (0<=Ks o)=o.isSome:=by
 cases o with
 | none=>rfl
 | some i=>simp [Ks]
theorem Afe (name:List UInt8) (xs:List EnS.At) (u:Value) (nm v:List UInt8) (w:World) (hE:Env w) (h:BK w u xs) (hf:GP xs) (A3:nm.length<=1048576) (hv:v.length<=1000000):
  Calls Tryz.prog 91 #[.agg #[.string ⟨name.toArray⟩,u],.string ⟨nm.toArray⟩,.string ⟨v.toArray⟩] w (DK (EnS.QA ⟨name,xs⟩ nm v) w):=by
 have A1:=Af w (.cells #[.string ⟨name.toArray⟩,u] 52)
 have A2:=TJ name xs u nm _ (h.call A1) hf A3
 have A4:=OH hf name nm
 have HR:Hid (EnS.QA ⟨name,xs⟩ nm v=(EnS.KY nm (EnS.DI ⟨name,xs⟩ nm) v).isSome):=hZ9 (by rw [EnS.WH];rfl)
 unfold Hl at A2
 generalize EnS.QA ⟨name,xs⟩ nm v=R at*
 generalize EnS.DI ⟨name,xs⟩ nm=vals at*
 have A5:=fun u2 w hE h=>AeG nm v u2 vals w hE A3 hv h A4.1 A4.2
 unfold Gk at A5
 generalize EnS.KY nm vals v=I at*
 have HI:=hZ9 (WR I)
 generalize Ks I=z at*
 obtain ⟨a,c,rfl,_⟩:=Ae.form h
 generalize xs.length=n at*
 go_enter Tryz.func91,Tryz.ntmps91
 go_wp2_with fail
 refine A2.mono ?_;rintro e w1 ⟨v1,rfl,A0,A7⟩
 have hz:=Aa A1 A7
 go_wp2_with fail
 refine (A5 _ _ (hE.below hz) A0.strs).mono ?_;rintro e w2 ⟨rfl,A6⟩
 go_wp2_with fail
 go_ret
 exact ⟨by rw [HR.out,<-HI.out];rfl,Aa hz A6⟩
theorem WS (name:List UInt8) (xs:List EnS.At) (u:Value) (w:World) (hE:Env w) (h:BK w u xs) (hf:GP xs):
  Calls Tryz.prog 57 #[.agg #[.string ⟨name.toArray⟩,u]] w (OE (EnS.CZ ⟨name,xs⟩) w):=by
 have A8:=Af w (.cells #[.string ⟨name.toArray⟩,u] 52)
 have B0:=Whole.made w 52 #[.string ⟨name.toArray⟩,u]
 have A5:=TJ name xs u EnS.Dm _ (h.call A8) hf (by decide)
 have A6:=fun w hE h=>Afe name xs u EnS.MJ EnS.MK w hE h hf (by decide) (by decide)
 have B2:=OH hf name EnS.Dm
 have A3:=fun v w hv hE=>Gj EnS.Dm v (by decide) hv w hE
 have HR:Hid (EnS.CZ ⟨name,xs⟩=EnS.Vs (EnS.DI ⟨name,xs⟩ EnS.Dm) (EnS.QA ⟨name,xs⟩ EnS.MJ EnS.MK)):=hZ9 rfl
 unfold Hl at A5
 unfold DK at A6
 unfold BM at A3
 generalize EnS.CZ ⟨name,xs⟩=R at*
 generalize EnS.QA ⟨name,xs⟩ EnS.MJ EnS.MK=b at*
 generalize EnS.DI ⟨name,xs⟩ EnS.Dm=vals at*
 obtain ⟨a,c,rfl,_⟩:=Ae.form h
 generalize B9:xs.length=n at*
 unfold EnS.Dm at A5 A3
 unfold EnS.MJ EnS.MK at A6
 cases vals with
 | nil=>
  have HZ:Hid (R=([],false)):=hZ9 HR.out
  clear A6 A3
  go_enter Tryz.func57,Tryz.ntmps57
  go_wp2_with fail
  refine A5.mono ?_;rintro e w1 ⟨v1,rfl,A0,A2⟩
  obtain ⟨a1,c1,rfl⟩:=A0.form
  simp only [List.length_nil] at A0
  go_wp2_with fail
  go_ret2
  exact ⟨by rw [HZ.out];rfl,Aa A8 A2⟩
 | cons v0 vs=>
  have B3:=B2.2 v0 (List.mem_cons_self ..)
  have hlen:((v0 :: vs).length:Int)≠0:=by rw [List.length_cons];omega
  have C0:decide (((v0 :: vs).length:Int)=0)=false:=decide_eq_false hlen
  have B7:(((v0 :: vs).length:Int)==0)=false:=by simpa using hlen
  have B6:(0:Int)<((v0 :: vs).length:Int):=by rw [List.length_cons];omega
  cases b with
  | false=>
   have HZ:Hid (R=([],false)):=hZ9 HR.out
   clear A3
   go_enter Tryz.func57,Tryz.ntmps57
   go_wp2_with fail
   refine A5.mono ?_;rintro e w1 ⟨v1,rfl,A0,A2⟩
   obtain ⟨a1,c1,rfl⟩:=A0.form
   have A4:=B0.call A2
   have q0:=A4.cell 0
   have q1:=A4.cell 1
   simp only [List.getElem?_toArray,List.getElem?_cons_zero,List.getElem?_cons_succ] at q0 q1
   have hz:=Aa A8 A2
   generalize (v0 :: vs).length=L at*
   go_wp2_with fail
   refine (A6 _ (hE.below hz) (h.call hz)).mono ?_;rintro e w2 ⟨rfl,A7⟩
   go_wp2_with fail
   go_ret2
   exact ⟨by rw [HZ.out];rfl,Aa hz A7⟩
  | true=>
   have HZ:Hid (R=((DnS.AB EnS.Dm v0).1,decide ((DnS.AB EnS.Dm v0).2=0))):=hZ9 HR.out
   have A9:=fun w hE=>A3 v0 w B3 hE
   unfold EnS.Dm at HZ
   clear A3
   generalize DnS.AB _ v0=V at*
   obtain ⟨n0,e0⟩:=V
   simp only at A9 HZ
   go_enter Tryz.func57,Tryz.ntmps57
   go_wp2_with fail
   refine A5.mono ?_;rintro e w1 ⟨v1,rfl,A0,A2⟩
   have B5:=A0.strs
   obtain ⟨a1,c1,rfl,B8,A1⟩:=B5
   rcases A1 with A1 | ⟨g,o,rfl,hg,hcell⟩
   · cases A1
   have q2:=hcell 0 v0 rfl
   rw [Nat.add_zero] at q2
   unfold Ac at q2
   have A4:=B0.call A2
   have q0:=A4.cell 0
   have q1:=A4.cell 1
   simp only [List.getElem?_toArray,List.getElem?_cons_zero,List.getElem?_cons_succ] at q0 q1
   have hz:=Aa A8 A2
   clear hcell A0
   generalize (v0 :: vs).length=L at*
   go_wp2_with fail
   refine (A6 _ (hE.below hz) (h.call hz)).mono ?_;rintro e w2 ⟨rfl,A7⟩
   have B1:=Aa hz A7
   have q3:=Ab q2 A7
   go_wp2_with fail
   refine (A9 _ (hE.below B1)).mono ?_;rintro e w3 ⟨rfl,B4⟩
   go_wp2_with fail
   go_ret2
   exact ⟨by rw [HZ.out];rfl,Aa B1 B4⟩
end
end Go.Proofs.YtgngjfjaelgaeaaGreatDoor
