/- The walks of slices.Grow of the nil slice of texts and of slices.Concat of two. Conditions: as stated. -/
import Derived.Lib.AppendZeros
import Derived.Test.YtgngjfjaelgaeaaGreatDoorJDnv
set_option maxRecDepth 100000
set_option maxHeartbeats 2000000
namespace Go.Proofs.YtgngjfjaelgaeaaGreatDoor
open Go.Proofs.Tryz
section
open Go.RowKit
def Il (w:World) (xs:List (List UInt8)) (e:Ending) (w':World):Prop:=∃v,e=.returned v/\Own w' w.heap.size v xs/\Below w.heap.size w w'
theorem Af3 (n:Nat) (o:n<=1000000) (w:World):Calls prog 147 #[.slice none 0 0,.int .i64 n] w (Il w []):=by
 rcases bT n with h0 | e
 · subst h0;go_enter func147,ntmps147;go_wp2_with fail;go_ret;exact ⟨_,rfl,Own.empty _ _,Below.refl _ _⟩
 · have h1:¬((n:Int)<0):=by omega
   have h4:(0:Int)<(n:Int):=by omega
   obtain ⟨i0,j,c,h,d⟩:=info_parts Hq;have a:=fun ty=>Lib.run_append_nil_zeros (P:=prog) w 23 3 ty 9 i0 (.string ⟨#[]⟩) .i64 .i64 underlying23 underlying3 j c n e (by omega) (by omega) (by rw [d];omega);obtain ⟨G,f⟩:∃G,G=grownCap w n 0 9:=⟨_,rfl⟩
   have m:n<=G:=by rw [f];exact grownCap_ge w _ _ _
   have b:G<=maxLen:=by rw [f];exact grownCap_le_maxLen w _ _ _ (by unfold maxLen;omega)
   rw [<-f] at a;have k:G<=9223372036854775807:=by unfold maxLen at b;omega
   have g:=hZ9 b;have HR:=hZ9 a;clear f j a c h d b;have i:(Builtin.zeroCells (Value.string ⟨#[]⟩).cells n++Builtin.zeroCells (Value.string ⟨#[]⟩).cells (G - n)).size=G*1:=by
    rw [Array.size_append,size_zeroCells,size_zeroCells];show n*1+(G - n)*1=G*1
    omega
   have l:=hZ9 i;clear i;generalize Builtin.zeroCells (Value.string ⟨#[]⟩).cells n++Builtin.zeroCells (Value.string ⟨#[]⟩).cells (G - n)=Z at*;go_enter func147,ntmps147;go_wp2_with (at_builtin;refine Lib.wpList_append_run _ (by rfl) _ _ _ _ (by rfl) _ _ (by rfl) (by rfl) _ _ (HR.out _) ?_)
   go_ret;refine ⟨_,rfl,⟨rfl,.inr ⟨w.heap.size,G,Z,rfl,aA _,?_,aR _,g.out,l.out,rfl⟩⟩,(Below.refl _ _).drew.alloc (aA _) _⟩;show (w.heap.push _)[w.heap.size]?=_
   rw [dR]
theorem AcM (b:Nat) (x v2:Value) (xs ys:List (List UInt8)) (w:World) (hb:b<w.heap.size) (r:w.cell? ⟨b,0,none⟩=some x) (l:w.cell? ⟨b,1,none⟩=some v2) (h1:Ah w x xs) (h2:Ah w v2 ys) (E:xs.length<=400000) (C:ys.length<=400000):Calls prog 113 #[.slice (some ⟨b,0,none⟩) 2 2] w (Il w (xs++ys)):=by
 have d:=Af3 (xs.length+ys.length) (by omega) w;obtain ⟨a1,c1,rfl⟩:=h1.form;obtain ⟨a2,c2,rfl⟩:=h2.form;have H1:=hZ9 h1;have z:=hZ9 h2;clear h1 h2;have hk:((xs.length+ys.length:Nat):Int)=(xs.length:Int)+(ys.length:Int):=by omega
 rw [hk] at d;generalize t:xs.length=n at*;generalize y:ys.length=m at*;have u:=hZ9 t;have B:=hZ9 y;clear t y hk;have s:¬((n:Int)<0):=by omega
 have j:¬((n:Int)+(m:Int)<0):=by omega
 go_enter func113,ntmps113;go_wp2_with fail;refine wp_loop_rounds 3 ?_
 repeat any_goals (rw [rounds_succ];go_wp2_with fail)
 refine d.mono ?_;rintro e w1 ⟨v0,rfl,q,a⟩;have A:w1.cell? ⟨b,0,none⟩=some (.slice a1 n c1):=Ab r a;have d1:w1.cell? ⟨b,1,none⟩=some (.slice a2 m c2):=Ab l a;have hsz:=a.size;clear d s j;go_wp2_with fail;refine wp_loop_rounds 3 ?_;rw [rounds_succ];go_wp2_with (at_builtin;refine RF (by rfl) _ _ (by rfl) w.heap.size _ [] (by rfl) q _ xs (by rfl) (H1.out.call a (aA _)) ?e1 ?e2 ?_)
 case e1=>rw [u.out];simp;omega
 case e2=>omega
 intro v3 w3 h c;have d2:w3.cell? ⟨b,1,none⟩=some (.slice a2 m c2):=(c.cell (p:=⟨b,1,none⟩) hb).trans d1;have v:=c.size;have o:=hZ9 h;have g:=a.trans c;clear h A d1;go_wp2_with fail;rw [rounds_succ];go_wp2_with (at_builtin;refine RF (by rfl) _ _ (by rfl) w.heap.size _ xs (by rfl) o.out _ ys (by rfl) (z.out.call g (aA _)) ?f1 ?f2 ?_)
 case f1=>rw [u.out,B.out];omega
 case f2=>omega
 intro v4 w4 f i;have k:=hZ9 f;clear f;go_wp2_with fail;rw [rounds_succ];go_wp2_with fail;go_ret;exact ⟨_,rfl,k.out,g.trans i⟩
end
section
open Go.RowKit
theorem Af4 {s fr dst:List UInt8} {t:List (List UInt8)} {e:Int} (h:DnS.Ae s=(t,e)) (a:e≠0):DnS.Dc s fr dst=([],e):=by unfold DnS.Dc;rw [h,aG a]
theorem Af5 {s fr dst:List UInt8} {t u:List (List UInt8)} {e:Int} (h:DnS.Ae s=(t,0)) (k:DnS.Ae fr=(u,e)) (a:e≠0):DnS.Dc s fr dst=([],e):=by unfold DnS.Dc;rw [h,k,aP rfl,aG a]
theorem Af6 {s fr dst:List UInt8} {t u v:List (List UInt8)} {e:Int} (h:DnS.Ae s=(t,0)) (k:DnS.Ae fr=(u,0)) (l:DnS.Ae dst=(v,e)) (a:e≠0):DnS.Dc s fr dst=([],e):=by unfold DnS.Dc;rw [h,k,l,aP rfl,aP rfl,aG a]
theorem Ae3 {s fr dst:List UInt8} {t u v:List (List UInt8)} (h:DnS.Ae s=(t,0)) (k:DnS.Ae fr=(u,0)) (l:DnS.Ae dst=(v,0)) (a:DnS.Db t u=none):DnS.Dc s fr dst=([],1):=by unfold DnS.Dc;rw [h,k,l,aP rfl,aP rfl,aP rfl,a]
theorem AcN {s fr dst:List UInt8} {t u v r:List (List UInt8)} (h:DnS.Ae s=(t,0)) (k:DnS.Ae fr=(u,0)) (l:DnS.Ae dst=(v,0)) (a:DnS.Db t u=some r):DnS.Dc s fr dst=DnS.Hv (r++v):=by unfold DnS.Dc;rw [h,k,l,aP rfl,aP rfl,aP rfl,a]
theorem YN {t u r v:List (List UInt8)} {M:Nat} (c:DnS.Db t u=some r) (h1:∀x ∈ t,x.length<=M) (h2:∀x ∈ v,x.length<=M) (a:t.length<=12) (b:v.length<=12):(∀x ∈ r++v,x.length<=M)/\(r++v).length<=24/\r.length<=12:=by
 have h:=DnS.Ni.1 c;subst h;rw [aT] at a;refine ⟨fun x hx=>?_,by rw [aT];omega,by omega⟩;rcases b9.1 hx with hx | hx
 · exact h1 x (bq _ hx)
 · exact h2 x hx
theorem AcO (a b c:List UInt8) (ha:a.length<=1000000) (hb0:b.length<=1000000) (E7:c.length<=1000000) (w:World) (hE:Env w):Calls prog 73 #[.string ⟨a.toArray⟩,.string ⟨b.toArray⟩,.string ⟨c.toArray⟩] w (Cb (DnS.Dc a b c) w):=by
 have hp:=fun w hE=>DK a ha w hE;have d:=fun w hE=>DK b hb0 w hE;have hr:=fun w hE=>DK c E7 w hE;unfold CN at hp d hr;have A8:=(DnS.Da a).1;have C8:=(DnS.Da b).1;have A7:=(DnS.Da c).1;have B0:=hZ9 (DnS.Hl (s:=a));have B6:=hZ9 (DnS.Hl (s:=c));obtain ⟨X,hX⟩:∃X,DnS.Ae a=X:=⟨_,rfl⟩
 obtain ⟨Y,hY⟩:∃Y,DnS.Ae b=Y:=⟨_,rfl⟩
 obtain ⟨Z,hZ⟩:∃Z,DnS.Ae c=Z:=⟨_,rfl⟩
 rw [hX] at hp A8 B0;rw [hY] at d C8;rw [hZ] at hr A7 B6;obtain ⟨tx,ex⟩:=X;obtain ⟨ty,ey⟩:=Y;obtain ⟨tz,ez⟩:=Z;simp only at hp d hr A8 C8 A7 B0 B6;have HX:=hZ9 hX;have HY:=hZ9 hY;have HZ:=hZ9 hZ;clear hX hY hZ;have D2:=Whole.made w 166 #[.slice none 0 0,.slice none 0 0,.slice none 0 0];have C3:=Af w (.cells #[.slice none 0 0,.slice none 0 0,.slice none 0 0] 166);generalize C6:w.alloc (.cells #[.slice none 0 0,.slice none 0 0,.slice none 0 0] 166)=wA at*;have O:wA.heap.size=w.heap.size+1:=by rw [<-C6];simp
 have I:=Whole.made wA 9 #[Ac a,Ac b,Ac c];have L:=C3.alloc (by omega) (.cells #[Ac a,Ac b,Ac c] 9);have T:=D2.alloc (.cells #[Ac a,Ac b,Ac c] 9);unfold Ac at I L T;rw [O] at I;generalize B7:wA.alloc (.cells #[.string ⟨a.toArray⟩,.string ⟨b.toArray⟩,.string ⟨c.toArray⟩] 9)=wB at*;have U:wB.heap.size=w.heap.size+2:=by rw [<-B7];simp;omega
 have E1:=hE.below L;have o:=hZ9 U;have c0:wB.cell? ⟨w.heap.size+1,0,none⟩=some (.string ⟨a.toArray⟩):=I.cell 0;go_enter func73,ntmps73;go_wp2_with fail
 (try simp only [B7])
 clear C6 D2 C3 O B7 U;refine wp_loop_rounds 4 ?_;rw [rounds_succ];go_wp2_with fail;refine (hp _ E1).mono ?_;rintro e w1 ⟨v1,rfl,V,K⟩;have i:=T.call K;have W:=I.call K;have P:=L.trans (K.mono L.size);have F1:=K.size;obtain ⟨a1,H,m1,D9⟩:∃a n m,v1=.slice a n m:=by obtain ⟨a,m,e⟩:=V.form;exact ⟨a,_,m,e⟩
 have q1:w1.cell? ⟨w.heap.size,0,none⟩=some (.slice none 0 0):=i.cell 0;have p1:w1.frozen? ⟨w.heap.size,0,none⟩=false:=i.thaw 0;subst D9;by_cases hx1:ex=0
 case neg=>
  have HR:=hZ9 (Af4 (fr:=b) (dst:=c) HX.out hx1);have D1:(ex !=0)=true:=by simpa using hx1
  have C:=hZ9 P;go_wp2_with fail;go_ret2;exact Cb.mk' HR.out (C.out.setCell (aA _) _)
 subst hx1;go_wp2_with fail;rw [rounds_succ];have A5:=i.put 0 (.slice a1 H m1);have y:=W.other (p:=⟨w.heap.size,0,none⟩) (by show w.heap.size+1≠w.heap.size;omega) (.slice a1 H m1);have B:=P.setCell (p:=⟨w.heap.size,0,none⟩) (aA _) (.slice a1 H m1);have A:Own (w1.setCell ⟨w.heap.size,0,none⟩ (.slice a1 H m1)) wB.heap.size (.slice a1 H m1) tx:=(V).kept (fun q d=>Below.heap_setCell _ _ _ _ (by
  have:=(Du (V) d).1;have h2:=o.out;show q≠w.heap.size
  omega))
 have F0:(w1.setCell ⟨w.heap.size,0,none⟩ (.slice a1 H m1)).heap.size=w1.heap.size:=by simp [World.setCell]
 generalize B9:w1.setCell ⟨w.heap.size,0,none⟩ (.slice a1 H m1)=u1 at*;have E5:=hE.below B;have c1:u1.cell? ⟨w.heap.size+1,1,none⟩=some (.string ⟨b.toArray⟩):=y.cell 1;clear q1 p1 B9;go_wp2_with fail;refine (d _ E5).mono ?_;rintro e w2 ⟨v2,rfl,B5,l⟩;have j:=A5.call l;have A3:=y.call l;have Q:=B.trans (l.mono B.size);have F5:=l.size;obtain ⟨a2,G,m2,D5⟩:∃a n m,v2=.slice a n m:=by obtain ⟨a,m,e⟩:=B5.form;exact ⟨a,_,m,e⟩
 have q2:w2.cell? ⟨w.heap.size,1,none⟩=some (.slice none 0 0):=j.cell 1;have p2:w2.frozen? ⟨w.heap.size,1,none⟩=false:=j.thaw 1;subst D5;by_cases B4:ey=0
 case neg=>
  have HR:=hZ9 (Af5 (dst:=c) HX.out HY.out B4);have D1:(ey !=0)=true:=by simpa using B4
  have C:=hZ9 Q;go_wp2_with fail;go_ret2;exact Cb.mk' HR.out (C.out.setCell (aA _) _)
 subst B4;go_wp2_with fail;rw [rounds_succ];have A6:=j.put 1 (.slice a2 G m2);have u:=A3.other (p:=⟨w.heap.size,1,none⟩) (by show w.heap.size+1≠w.heap.size;omega) (.slice a2 G m2);have F:=Q.setCell (p:=⟨w.heap.size,1,none⟩) (aA _) (.slice a2 G m2);have x:Own (w2.setCell ⟨w.heap.size,1,none⟩ (.slice a2 G m2)) wB.heap.size (.slice a1 H m1) tx:=(A.call l).kept (fun q d=>Below.heap_setCell _ _ _ _ (by
  have:=(Du (A.call l) d).1;have h2:=o.out;show q≠w.heap.size
  omega))
 have v:Own (w2.setCell ⟨w.heap.size,1,none⟩ (.slice a2 G m2)) u1.heap.size (.slice a2 G m2) ty:=(B5).kept (fun q d=>Below.heap_setCell _ _ _ _ (by
  have:=(Du (B5) d).1;have h2:=o.out;show q≠w.heap.size
  omega))
 have E9:(w2.setCell ⟨w.heap.size,1,none⟩ (.slice a2 G m2)).heap.size=w2.heap.size:=by simp [World.setCell]
 generalize C2:w2.setCell ⟨w.heap.size,1,none⟩ (.slice a2 G m2)=u2 at*;have D8:=hE.below F;have c2:u2.cell? ⟨w.heap.size+1,2,none⟩=some (.string ⟨c.toArray⟩):=u.cell 2;clear q2 p2 C2;go_wp2_with fail;refine (hr _ D8).mono ?_;rintro e w3 ⟨v3,rfl,B8,f⟩;have g:=A6.call f;have D4:=u.call f;have S:=F.trans (f.mono F.size);have F3:=f.size;obtain ⟨a3,n3,m3,D6⟩:∃a n m,v3=.slice a n m:=by obtain ⟨a,m,e⟩:=B8.form;exact ⟨a,_,m,e⟩
 have q3:w3.cell? ⟨w.heap.size,2,none⟩=some (.slice none 0 0):=g.cell 2;have p3:w3.frozen? ⟨w.heap.size,2,none⟩=false:=g.thaw 2;subst D6;by_cases A9:ez=0
 case neg=>
  have HR:=hZ9 (Af6 HX.out HY.out HZ.out A9);have D1:(ez !=0)=true:=by simpa using A9
  have C:=hZ9 S;go_wp2_with fail;go_ret2;exact Cb.mk' HR.out (C.out.setCell (aA _) _)
 subst A9;go_wp2_with fail;rw [rounds_succ];have k:=g.put 2 (.slice a3 n3 m3);have E:=S.setCell (p:=⟨w.heap.size,2,none⟩) (aA _) (.slice a3 n3 m3);have A2:Own (w3.setCell ⟨w.heap.size,2,none⟩ (.slice a3 n3 m3)) wB.heap.size (.slice a1 H m1) tx:=(x.call f).kept (fun q d=>Below.heap_setCell _ _ _ _ (by
  have:=(Du (x.call f) d).1;have h2:=o.out;show q≠w.heap.size
  omega))
 have A1:Own (w3.setCell ⟨w.heap.size,2,none⟩ (.slice a3 n3 m3)) u1.heap.size (.slice a2 G m2) ty:=(v.call f).kept (fun q d=>Below.heap_setCell _ _ _ _ (by
  have:=(Du (v.call f) d).1;have h2:=o.out;show q≠w.heap.size
  omega))
 have A4:Own (w3.setCell ⟨w.heap.size,2,none⟩ (.slice a3 n3 m3)) u2.heap.size (.slice a3 n3 m3) tz:=(B8).kept (fun q d=>Below.heap_setCell _ _ _ _ (by
  have:=(Du (B8) d).1;have h2:=o.out;show q≠w.heap.size
  omega))
 have E8:(w3.setCell ⟨w.heap.size,2,none⟩ (.slice a3 n3 m3)).heap.size=w3.heap.size:=by simp [World.setCell]
 generalize C0:w3.setCell ⟨w.heap.size,2,none⟩ (.slice a3 n3 m3)=u3 at*;have F2:=hE.below E;have d0:u3.cell? ⟨w.heap.size,0,none⟩=some (.slice a1 H m1):=k.cell 0;have d1:u3.cell? ⟨w.heap.size,1,none⟩=some (.slice a2 G m2):=k.cell 1;clear q3 p3 C0;go_wp2_with fail;refine (Ux _ _ tx ty _ _ A2 A1.strs (by omega) (by omega)).mono ?_;rintro e w4 ⟨v4,rfl,D0,B3⟩;have t:=E.trans (B3.mono E.size);have A0:=k.call B3;have C1:=A4.call B3;have d2:w4.cell? ⟨w.heap.size,2,none⟩=some (.slice a3 n3 m3):=A0.cell 2;have B1:=hZ9 (Ae3 HX.out HY.out HZ.out);have z:=hZ9 (fun r=>AcN (r:=r) HX.out HY.out HZ.out);have B2:=hZ9 (fun r (h:DnS.Db tx ty=some r)=>YN (M:=3000) h B0.out B6.out A8 A7);clear hp d hr HX HY HZ d0 d1;generalize DnS.Db tx ty=R at*;cases R with
 | none=>have HR:=hZ9 (B1.out rfl);clear B1 z B2;go_wp2_with fail;go_ret2;exact Cb.mk' HR.out t
 | some r=>
  have HR:=hZ9 (z.out r rfl);obtain ⟨C9,F4,F6⟩:=B2.out r rfl;have C7:=YM C9 (by omega);have C5:Ah w4 v4 r:=D0;obtain ⟨a4,n4,m4,E4⟩:∃a n m,v4=.slice a n m:=by obtain ⟨a,m,e⟩:=C5.form;exact ⟨a,_,m,e⟩
  subst E4;have N:=Whole.made w4 23 #[.slice a4 n4 m4,.slice a3 n3 m3];have J:=Af w4 (.cells #[.slice a4 n4 m4,.slice a3 n3 m3] 23);have D7:=AcM w4.heap.size (.slice a4 n4 m4) (.slice a3 n3 m3) r tz _ N.lt (N.cell 0) (N.cell 1) (C5.call J (aA _)) ((C1.call J).strs) (by omega) (by omega);have E6:=hZ9 C7;have D3:=hZ9 (t.trans (J.mono t.size));clear B1 z B2 C9 D0 N C7 J;go_wp2_with fail;refine D7.mono ?_;rintro e w6 ⟨v6,rfl,E0,E3⟩;have C4:=hZ9 (D3.out.trans (E3.mono D3.out.size));go_wp2_with fail;refine (Aeo _ _ _ E0.strs (by omega) (by have:=E6.out;omega)).mono ?_;rintro e w8 ⟨rfl,E2⟩;go_wp2_with fail;go_ret2;exact Cb.mk' HR.out (C4.out.trans (E2.mono C4.out.size))
end
section
open Go.RowKit
def GW (xs:List EnS.At):Prop:=xs.length<=1048576/\∀x ∈ xs,x.vals.length<=1048576/\∀v ∈ x.vals,v.length<=1000000
theorem NM:∀{xs:List EnS.At} (t:List UInt8),(∀x ∈ xs,x.vals.length<=1048576/\∀v ∈ x.vals,v.length<=1000000)->(EnS.valuesL xs t).length<=1048576/\∀v ∈ EnS.valuesL xs t,v.length<=1000000
 | [],_,_=>⟨aR _,fun v b=>by cases b⟩
 | a :: l,t,h=>by
  unfold EnS.valuesL;split
  · exact h a (ai ..)
  · exact NM t (fun x hx=>h x (ar _ hx))
theorem Pz {xs:List EnS.At} (h:GW xs) (name nm:List UInt8):(EnS.Ee ⟨name,xs⟩ nm).length<=1048576/\∀v ∈ EnS.Ee ⟨name,xs⟩ nm,v.length<=1000000:=by
 unfold EnS.Ee;split
 · exact ⟨aR _,fun v a=>by cases a⟩
 · exact NM _ h.2
theorem WN {xs:List EnS.At} {t:List UInt8} {k:Nat} (hk:k<xs.length) (h:xs[k].typ=t):EnS.valuesL (xs.drop k) t=xs[k].vals:=by rw [av hk];unfold EnS.valuesL;rw [aP h]
theorem Uy {xs:List EnS.At} {t:List UInt8} {k:Nat} (hk:k<xs.length) (h:xs[k].typ≠t):EnS.valuesL (xs.drop k) t=EnS.valuesL (xs.drop (k+1)) t:=by
 rw [av hk];conv=>lhs;unfold EnS.valuesL
 rw [aG h]
theorem WO {xs:List EnS.At} {t:List UInt8} {k:Nat} (hk:xs.length<=k):EnS.valuesL (xs.drop k) t=[]:=by rw [dW hk];rfl
def KG (o:Option Nat):Int:=match o with | some i=>(i:Int) | none=>-1
theorem Jm {α:Type} {p:α->Bool}:∀{xs:List α} {k:Nat} (hk:k<xs.length),(∀x ∈ xs.take k,p x=false)->p xs[k]=true->xs.findIdx? p=some k
 | [],k,hk,_,_=>by simp at hk
 | x :: xs,0,_,_,hp=>by rw [dx,aP (show p x=true from hp)]
 | x :: xs,k+1,hk,h,hp=>by rw [dx,aG (by rw [h x (by simp)];simp),Jm (k:=k) (by simpa using hk) (fun y a=>h y (by simp [a])) (by simpa using hp)];rfl
theorem Oz {α:Type} {p:α->Bool} {xs:List α} (h:∀x ∈ xs,p x=false):xs.findIdx? p=none:=by rw [fL];exact h
theorem take_miss {α:Type} {p:α->Bool} {xs:List α} {k:Nat} (hk:k<xs.length) (h:∀x ∈ xs.take k,p x=false) (hp:p xs[k]=false):∀x ∈ xs.take (k+1),p x=false:=fun x hx=>by
 rw [aX hk] at hx;rcases b9.1 hx with hx | hx
 · exact h x hx
 · have:=ak.1 hx;subst this;exact hp
theorem PD (v:Value) (xs:List (List UInt8)) (w:World) (h:Ah w v xs) (p:xs.length<=1048576):Calls prog 83 #[v] w (Il w xs):=by
 obtain ⟨a,c,rfl,hc,b⟩:=h;cases a with
 | none=>
  have h0:xs=[]:=by
   rcases b with h | ⟨g,o,e,_⟩
   · exact h
   · cases e
  subst h0;refine (slices_Clone_string_nil _ _ w).mono ?_;rintro e w' ⟨rfl,rfl⟩;exact ⟨_,rfl,Own.empty _ _,Below.refl _ _⟩
 | some i=>
  rcases b with rfl | ⟨g,o,e,q,hcell⟩
  · refine (slices_Clone_string_zero i c w).mono ?_;rintro e w' ⟨m,rfl,f,_,hb⟩;exact ⟨_,rfl,f,hb⟩
  · cases e;refine (slices_Clone_string g o xs.length c (xs.map fun l=>⟨l.toArray⟩) w (by simp) (by omega) (fun j k=>?_)).mono ?_
    · have d:j<xs.length:=by simpa using k
      rw [hcell j _ (aJ d)];unfold Ac;simp [List.getD,d]
    · rintro e w' ⟨m,rfl,f,_,hb⟩;refine ⟨_,rfl,?_,hb⟩;have n:((xs.map fun l=>(⟨l.toArray⟩:ByteArray)).take xs.length).map Value.string=xs.map Ac:=by
       rw [ag (by simp),cd];rfl
      rw [n] at f;exact f
theorem Uz (name:List UInt8) (xs:List EnS.At) (u:Value) (nm:List UInt8) (w:World) (h:Cj w u xs) (hf:GW xs) (A0:nm.length<=1048576):
  Calls prog 90 #[.agg #[.string ⟨name.toArray⟩,u],.string ⟨nm.toArray⟩] w (Il w (EnS.Ee ⟨name,xs⟩ nm)):=by
 have I:∀w,Calls prog 51 #[.string ⟨nm.toArray⟩] w (Ar nm w):=fun w=>Gq ⟨nm.toArray⟩ (by show nm.toArray.size<=_;simp;omega) w;unfold Ar at I;have F:Hid (EnS.Ee ⟨name,xs⟩ nm=if (RuS.typeOf nm).1=[] then [] else EnS.valuesL xs (RuS.typeOf nm).1):=hZ9 rfl;generalize EnS.Ee ⟨name,xs⟩ nm=R at*;generalize RuS.typeOf nm=TT at*;obtain ⟨T,sy⟩:=TT;simp only at I F;obtain ⟨hl,Z⟩:=hf;obtain ⟨a,c,rfl,hc,B⟩:=Ad.at h;have H:=hZ9 B;have V:=hZ9 (fun k (h:k<xs.length)=>(Z xs[k] (aZ h)).1);have p:=Af w (.cells #[.string ⟨name.toArray⟩,.slice a xs.length c] 52);have l:=Whole.made w 52 #[.string ⟨name.toArray⟩,.slice a xs.length c];clear B h Z;generalize hn:xs.length=n at hc hl p l⊢;have W:=hZ9 hn;clear hn;by_cases v:T=[]
 · have M:T.isEmpty=true:=by rw [v];rfl
   have P:(T !=[])=false:=by rw [v];rfl
   have O:(T==[])=true:=by rw [v];rfl
   have HR:Hid (R=[]):=hZ9 (by rw [F.out,aP v]);clear F v;go_enter func90,ntmps90;go_wp2_with fail;refine (I _).mono ?_;rintro e w1 ⟨rfl,j⟩;have J:=Aa p j;have f:=l.call j;have S:=f.cell 0;have X:=f.cell 1;simp only [aI,aH,aK] at S X;clear p j f l;go_wp2_with fail;go_loopw [17] (fun i wr=>∃k:Nat,k<=n/\i=.int .i64 k/\Below w.heap.size w wr) (fun i _=>n - (intOf i).toNat)
   case atStart=>exact ⟨0,aR _,rfl,J⟩
   case round=>
    obtain ⟨k,hk,rfl,hb⟩:=hrel;by_cases y:k<n
    · have b:k<xs.length:=by rw [W.out];exact y
      obtain ⟨g,o,rfl,Y,_,hra⟩:=H.out k b;obtain ⟨c0,a2,p2,c1,s,hu⟩:=BH.parts (BH.call hra Y trivial hb);generalize xs[k]=x at*;obtain ⟨ty,vals⟩:=x;simp only at c0 c1 s;clear hra b hu;generalize vals.length=n2 at*;have d:=hb.alloc hb.size (.cells #[.string ⟨ty.toArray⟩,.slice a2 n2 p2] 56);cases K:(ty==T) with
      | true=>
       go_wp2_with fail;go_roundw
       case rel=>exact ⟨k+1,by omega,by go_num,d⟩
       case measure=>simp [intOf];omega
      | false=>
       go_wp2_with fail;go_roundw
       case rel=>exact ⟨k+1,by omega,by go_num,d⟩
       case measure=>simp [intOf];omega
    · have U:k=n:=by omega
      subst U;go_wp2_with fail;go_ret;exact ⟨_,rfl,by rw [HR.out];exact Own.empty _ _,hb⟩
 · have M:T.isEmpty=false:=by cases T <;> simp_all
   have P:(T !=[])=true:=by cases T <;> simp_all
   have O:(T==[])=false:=by cases T <;> simp_all
   have HR:Hid (R=EnS.valuesL (xs.drop 0) T):=hZ9 (by rw [F.out,aG v];rfl);clear F v;go_enter func90,ntmps90;go_wp2_with fail;refine (I _).mono ?_;rintro e w1 ⟨rfl,j⟩;have J:=Aa p j;have f:=l.call j;have S:=f.cell 0;have X:=f.cell 1;simp only [aI,aH,aK] at S X;clear p j f l;go_wp2_with fail;go_loopw [17] (fun i wr=>∃k:Nat,k<=n/\i=.int .i64 k/\Hid (R=EnS.valuesL (xs.drop k) T)/\Below w.heap.size w wr) (fun i _=>n - (intOf i).toNat)
   case atStart=>exact ⟨0,aR _,rfl,HR,J⟩
   case round=>
    obtain ⟨k,hk,rfl,N,hb⟩:=hrel;clear HR;by_cases y:k<n
    · have b:k<xs.length:=by rw [W.out];exact y
      obtain ⟨g,o,rfl,Y,_,hra⟩:=H.out k b;obtain ⟨c0,a2,p2,c1,s,hu⟩:=BH.parts (BH.call hra Y trivial hb);have q:=hZ9 (fun L=>WN (t:=T) b L);have m:=hZ9 (fun L=>Uy (t:=T) b L);have E:=V.out k b;generalize xs[k]=x at*;obtain ⟨ty,vals⟩:=x;simp only at c0 c1 s hu q m E;clear hra b;have d:=hb.alloc hb.size (.cells #[.string ⟨ty.toArray⟩,.slice a2 vals.length p2] 56);have z:=hu.strs;have r:=z.call (Af wr (.cells #[.string ⟨ty.toArray⟩,.slice a2 vals.length p2] 56)) (aA _);clear hu z;cases K:(ty==T) with
      | true=>have A:Hid (R=vals):=hZ9 (by rw [N.out];exact q.out (af.1 K));have C:=PD _ vals _ r E;unfold Il at C;go_wp2_with fail;refine C.mono ?_;rintro e w2 ⟨v2,rfl,G,Q⟩;go_wp2_with fail;go_ret;exact ⟨_,rfl,by rw [A.out];exact G.mono d.size,d.trans (Q.mono d.size)⟩
      | false=>
       have A:Hid (R=EnS.valuesL (xs.drop (k+1)) T):=hZ9 (by rw [N.out];exact m.out (by simpa using K));clear r;generalize vals.length=n2 at*;go_wp2_with fail;go_roundw
       case rel=>exact ⟨k+1,by omega,by go_num,A,d⟩
       case measure=>simp [intOf];omega
    · have A:Hid (R=[]):=hZ9 (by rw [N.out];exact WO (by rw [W.out];omega));go_wp2_with fail;go_ret;exact ⟨_,rfl,by rw [A.out];exact Own.empty _ _,hb⟩
theorem Aa1 (nm n v:List UInt8) (c d:Nat) (w:World) (hE:Env w) (h1:w.cell? ⟨c,0,none⟩=some (Ac nm)) (h2:w.cell? ⟨d,0,none⟩=some (Ac n)) (h:nm.length<=1048576) (g:v.length<=1000000):
  Calls prog 158 #[.string ⟨v.toArray⟩,.pointer (some ⟨c,0,none⟩),.pointer (some ⟨d,0,none⟩)] w (Ef (EnS.FZ nm n v) w):=by
 have hc:=GM nm v h g w hE;unfold Cb at hc;have HR:Hid (EnS.FZ nm n v=(decide ((DnS.AG nm v).2=0)&&((DnS.AG nm v).1==n))):=hZ9 rfl;generalize EnS.FZ nm n v=R at*;generalize DnS.AG nm v=V at*;obtain ⟨m,f⟩:=V;simp only at hc HR;unfold Ac at h1 h2;by_cases b:f=0
 · subst b;go_enter func158,ntmps158;go_wp2_with fail;refine hc.mono ?_;rintro e w1 ⟨rfl,a⟩;have h3:=Ab h2 a;go_wp2_with fail;go_ret;exact ⟨by rw [HR.out];simp,a⟩
 · have i:(f==0)=false:=by simpa using b
   go_enter func158,ntmps158;go_wp2_with fail;refine hc.mono ?_;rintro e w1 ⟨rfl,a⟩;go_wp2_with fail;go_ret;exact ⟨by rw [HR.out,aC b];rfl,a⟩
def GP (o:Option Nat) (w:World) (e:Ending) (w':World):Prop:=e=.returned (.int .i64 (KG o))/\Below w.heap.size w w'
theorem AcP (nm n:List UInt8) (v:Value) (xs:List (List UInt8)) (y z:Nat) (w:World) (hE:Env w) (h1:w.cell? ⟨y,0,none⟩=some (Ac nm)) (h2:w.cell? ⟨z,0,none⟩=some (Ac n)) (L:nm.length<=1048576)
  (h:Ah w v xs) (K:xs.length<=1048576) (hx:∀x ∈ xs,x.length<=1000000):
  Calls prog 157 #[v,.func (.func 158) #[] #[.pointer (some ⟨y,0,none⟩),.pointer (some ⟨z,0,none⟩)]] w (GP (xs.findIdx? (EnS.FZ nm n)) w):=by
 obtain ⟨a,c,rfl,hc,r⟩:=Ad.at (h.strsP (fun _=>True) (fun _ _=>trivial));have H:=hZ9 r;have HX:=hZ9 (fun k (h:k<xs.length)=>hx xs[k] (aZ h));have I:=fun x w hE k1 E hx=>Aa1 nm n x y z w hE k1 E L hx;unfold Ef at I;have j:=hZ9 (fun k (hk:k<xs.length)=>Jm (p:=EnS.FZ nm n) hk);have f:=hZ9 (Oz (p:=EnS.FZ nm n) (xs:=xs));have u:=hZ9 (fun k (hk:k<xs.length)=>take_miss (p:=EnS.FZ nm n) hk);generalize xs.findIdx? (EnS.FZ nm n)=R at*;generalize EnS.FZ nm n=p at*;clear r hx h;generalize s:xs.length=m at hc K⊢;have J:=hZ9 s;clear s;go_enter func157,ntmps157;go_wp2_with fail;go_loopw [8] (fun i wr=>∃k:Nat,k<=m/\i=.int .i64 k/\Hid (∀x ∈ xs.take k,p x=false)/\Below w.heap.size w wr) (fun i _=>m - (intOf i).toNat)
 case atStart=>exact ⟨0,aR _,rfl,hZ9 (fun x hx=>by cases hx),Below.refl _ _⟩
 case round=>
  obtain ⟨k,hk,rfl,G,hb⟩:=hrel;by_cases C:k<m
  · have b:k<xs.length:=by rw [J.out];exact C
    obtain ⟨g,o,rfl,M,_,hra⟩:=H.out k b;have c0:wr.cell? ⟨g,o+k,none⟩=some (Ac xs[k]):=by have:w.cell? ⟨g,o+k*1,none⟩=some (Ac xs[k]):=hra;rw [cK] at this;exact Ab this hb
    have k1:=Ab h1 hb;have E:=Ab h2 hb;have B:=HX.out k b;have F:=hZ9 (j.out k b G.out);have A:=hZ9 (u.out k b G.out);generalize xs[k]=x at*;unfold Ac at c0;have d:=I x wr (hE.below hb) k1 E B;clear hra b j f u;cases q:p x with
    | true=>have HR:=hZ9 (F.out q);rw [q] at d;clear q F A;go_wp2_with fail;refine d.mono ?_;rintro e w1 ⟨rfl,l⟩;go_wp2_with fail;go_ret;exact ⟨by rw [HR.out];rfl,hb.trans (l.mono hb.size)⟩
    | false=>
     have HR:=hZ9 (A.out q);rw [q] at d;clear q F A;go_wp2_with fail;refine d.mono ?_;rintro e w1 ⟨rfl,l⟩;go_wp2_with fail;go_roundw
     case rel=>exact ⟨k+1,by omega,by go_num,HR,hb.trans (l.mono hb.size)⟩
     case measure=>simp [intOf];omega
  · have t:Hid (R=none):=hZ9 (f.out (by have:=G.out;rwa [ag (by rw [J.out];omega)] at this));go_wp2_with fail;go_ret;exact ⟨by rw [t.out];rfl,hb⟩
theorem Af7 (nm v:List UInt8) (u:Value) (xs:List (List UInt8)) (w:World) (hE:Env w) (t:nm.length<=1048576) (B:v.length<=1000000) (h:Ah w u xs) (s:xs.length<=1048576) (hx:∀x ∈ xs,x.length<=1000000):
  Calls prog 125 #[.string ⟨nm.toArray⟩,u,.string ⟨v.toArray⟩] w (GP (EnS.Lj nm xs v) w):=by
 have F:∀(fn:Fn) (first cap:Array Value) (w:World),(Instr.makeFunc fn first cap).run prog w=.ok (.func fn first cap) w:=fun _ _ _ _=>rfl;have hb0:=Af w (.cells #[.string ⟨nm.toArray⟩] 9);have q:=Whole.made w 9 #[.string ⟨nm.toArray⟩];have hc:=GM nm v t B _ (hE.below hb0);unfold Cb at hc;have HR:Hid (EnS.Lj nm xs v=if (DnS.AG nm v).2=0 then xs.findIdx? (EnS.FZ nm (DnS.AG nm v).1) else none):=hZ9 rfl;generalize EnS.Lj nm xs v=R at*;generalize DnS.AG nm v=V at*;obtain ⟨n,y⟩:=V;simp only at hc HR;have i:=fun w A C hE h1 h2 h=>AcP nm n u xs A C w hE h1 h2 t h s hx;unfold GP at i;obtain ⟨a,c,rfl⟩:=h.form;generalize G:xs.length=m at s h i⊢;by_cases o:y=0
 · subst o;rw [aP rfl] at HR;generalize xs.findIdx? (EnS.FZ nm n)=I at*;go_enter func125,ntmps125;go_wp2_with fail;refine hc.mono ?_;rintro e w1 ⟨rfl,d⟩;have k:=Aa hb0 d;have z:=q.call d;have b:=Af w1 (.cells #[.string ⟨n.toArray⟩] 9);have f:=Whole.made w1 9 #[.string ⟨n.toArray⟩];have k1:=z.call b;have g:=(hE.below k).below b;have j:=(h.call k (aA _)).call b (aA _);have p:=i _ w.heap.size w1.heap.size g (k1.cell 0) (f.cell 0) j;have l:=Aa k b;clear i b z d g j k1 f k;go_wp2_with fail;refine p.mono ?_;rintro e w2 ⟨rfl,r⟩;go_wp2_with fail;go_ret;exact ⟨by rw [HR.out];rfl,Aa l r⟩
 · have E:(y !=0)=true:=by simpa using o
   rw [aG o] at HR;clear i;go_enter func125,ntmps125;go_wp2_with fail;refine hc.mono ?_;rintro e w1 ⟨rfl,d⟩;go_wp2_with fail;go_ret;exact ⟨by rw [HR.out];rfl,Aa (Aa hb0 d) (Af w1 _)⟩
theorem XK (o:Option Nat):decide (0<=KG o)=o.isSome:=by
 cases o with
 | none=>rfl
 | some i=>simp [KG]
theorem Agf (name:List UInt8) (xs:List EnS.At) (u:Value) (nm v:List UInt8) (w:World) (hE:Env w) (h:Cj w u xs) (o:GW xs) (j:nm.length<=1048576) (q:v.length<=1000000):
  Calls prog 91 #[.agg #[.string ⟨name.toArray⟩,u],.string ⟨nm.toArray⟩,.string ⟨v.toArray⟩] w (Ef (EnS.Rh ⟨name,xs⟩ nm v) w):=by
 have i:=Af w (.cells #[.string ⟨name.toArray⟩,u] 52);have g:=Uz name xs u nm _ (h.call i) o j;have f:=Pz o name nm;have HR:Hid (EnS.Rh ⟨name,xs⟩ nm v=(EnS.Lj nm (EnS.Ee ⟨name,xs⟩ nm) v).isSome):=hZ9 (by rw [EnS.Xv];rfl);unfold Il at g;generalize EnS.Rh ⟨name,xs⟩ nm v=R at*;generalize EnS.Ee ⟨name,xs⟩ nm=vals at*;have b:=fun u2 w hE h=>Af7 nm v u2 vals w hE j q h f.1 f.2;unfold GP at b;generalize EnS.Lj nm vals v=I at*;have p:=hZ9 (XK I);generalize KG I=z at*;obtain ⟨a,c,rfl,_⟩:=Ad.form h;generalize xs.length=n at*;go_enter func91,ntmps91;go_wp2_with fail;refine g.mono ?_;rintro e w1 ⟨r,rfl,d,k⟩;have m:=Aa i k;go_wp2_with fail;refine (b _ _ (hE.below m) d.strs).mono ?_;rintro e w2 ⟨rfl,l⟩;go_wp2_with fail;go_ret;exact ⟨by rw [HR.out,<-p.out];rfl,Aa m l⟩
theorem XM (name:List UInt8) (xs:List EnS.At) (u:Value) (w:World) (hE:Env w) (h:Cj w u xs) (G:GW xs):
  Calls prog 57 #[.agg #[.string ⟨name.toArray⟩,u]] w (Px (EnS.Dm ⟨name,xs⟩) w):=by
 have q:=Af w (.cells #[.string ⟨name.toArray⟩,u] 52);have t:=Whole.made w 52 #[.string ⟨name.toArray⟩,u];have m:=Uz name xs u EnS.Dz _ (h.call q) G (by decide);have k:=fun w hE h=>Agf name xs u EnS.Nj EnS.Nk w hE h G (by decide) (by decide);have z:=Pz G name EnS.Dz;have j:=fun v w J hE=>GM EnS.Dz v (by decide) J w hE;have HR:Hid (EnS.Dm ⟨name,xs⟩=EnS.Wi (EnS.Ee ⟨name,xs⟩ EnS.Dz) (EnS.Rh ⟨name,xs⟩ EnS.Nj EnS.Nk)):=hZ9 rfl;unfold Il at m;unfold Ef at k;unfold Cb at j;generalize EnS.Dm ⟨name,xs⟩=R at*;generalize EnS.Rh ⟨name,xs⟩ EnS.Nj EnS.Nk=b at*;generalize EnS.Ee ⟨name,xs⟩ EnS.Dz=vals at*;obtain ⟨a,c,rfl,_⟩:=Ad.form h;generalize K:xs.length=n at*;unfold EnS.Dz at m j;unfold EnS.Nj EnS.Nk at k;cases vals with
 | nil=>have s:Hid (R=([],false)):=hZ9 HR.out;clear k j;go_enter func57,ntmps57;go_wp2_with fail;refine m.mono ?_;rintro e w1 ⟨I,rfl,d,i⟩;obtain ⟨a1,c1,rfl⟩:=d.form;simp only [aS] at d;go_wp2_with fail;go_ret2;exact ⟨by rw [s.out];rfl,Aa q i⟩
 | cons v0 vs=>
  have A:=z.2 v0 (ai ..);have hlen:((v0 :: vs).length:Int)≠0:=by rw [aO];omega
  have P:decide (((v0 :: vs).length:Int)=0)=false:=aC hlen;have N:(((v0 :: vs).length:Int)==0)=false:=by simpa using hlen
  have O:(0:Int)<((v0 :: vs).length:Int):=by rw [aO];omega
  cases b with
  | false=>have s:Hid (R=([],false)):=hZ9 HR.out;clear j;go_enter func57,ntmps57;go_wp2_with fail;refine m.mono ?_;rintro e w1 ⟨I,rfl,d,i⟩;obtain ⟨a1,c1,rfl⟩:=d.form;have l:=t.call i;have E:=l.cell 0;have H:=l.cell 1;simp only [aI,aH,aK] at E H;have r:=Aa q i;generalize (v0 :: vs).length=L at*;go_wp2_with fail;refine (k _ (hE.below r) (h.call r)).mono ?_;rintro e w2 ⟨rfl,p⟩;go_wp2_with fail;go_ret2;exact ⟨by rw [s.out];rfl,Aa r p⟩
  | true=>
   have s:Hid (R=((DnS.AG EnS.Dz v0).1,decide ((DnS.AG EnS.Dz v0).2=0))):=hZ9 HR.out;have y:=fun w hE=>j v0 w A hE;unfold EnS.Dz at s;clear j;generalize DnS.AG _ v0=V at*;obtain ⟨n0,T⟩:=V;simp only at y s;go_enter func57,ntmps57;go_wp2_with fail;refine m.mono ?_;rintro e w1 ⟨I,rfl,d,i⟩;have F:=d.strs;obtain ⟨a1,c1,rfl,M,f⟩:=F;rcases f with f | ⟨g,o,rfl,Q,hcell⟩
   · cases f
   have C:=hcell 0 v0 rfl;rw [Nat.add_zero] at C;unfold Ac at C;have l:=t.call i;have E:=l.cell 0;have H:=l.cell 1;simp only [aI,aH,aK] at E H;have r:=Aa q i;clear hcell d;generalize (v0 :: vs).length=L at*;go_wp2_with fail;refine (k _ (hE.below r) (h.call r)).mono ?_;rintro e w2 ⟨rfl,p⟩;have x:=Aa r p;have S:=Ab C p;go_wp2_with fail;refine (y _ (hE.below x)).mono ?_;rintro e w3 ⟨rfl,B⟩;go_wp2_with fail;go_ret2;exact ⟨by rw [s.out];rfl,Aa x B⟩
end
end Go.Proofs.YtgngjfjaelgaeaaGreatDoor
