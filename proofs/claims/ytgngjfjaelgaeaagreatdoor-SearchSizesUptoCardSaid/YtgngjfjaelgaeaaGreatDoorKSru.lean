/- The walks of a search's limit and of searching. Conditions: as stated. -/
import Derived.Test.YtgngjfjaelgaeaaGreatDoorKTak
import Derived.Test.YtgngjfjaelgaeaaGreatDoorKSal
import Derived.Test.YtgngjfjaelgaeaaGreatDoorKSea
set_option maxRecDepth 100000
set_option maxHeartbeats 16000000
namespace Go.Proofs.YtgngjfjaelgaeaaGreatDoor
open Go.RowKit
attribute [local go_sem ↓] Go.wp_at_zero Go.wp_at_succ
theorem Bt.but {T:TypeId} {w w':World} {B:Nat} {v:Value} {xs:List SeS.Pl} (h:Bt T w B v xs) {S:Nat->Prop} (hb:But S w w') (hS:∀k,v.ownBlock=some k->¬S k):Bt T w' B v xs:=by
 refine ⟨h.1,?_⟩
 rcases h.2 with h1 | ⟨g,cap,cur,rfl,hg,hh,hr⟩
 · exact .inl h1
 · exact .inr ⟨g,cap,cur,rfl,hg,(hb.block g (Array.getElem?_eq_some_iff.1 hh).1 (hS g rfl)).trans hh,hr⟩
theorem Be.grownT {C:Nat} {w w':World} {m:Option Nat} {N:Nat} {R:List EnS.En} (h:Be C w m N R) {row:Option Nat} (A0:∀k,some k=row->C<=k/\∃cs T fz,w.heap[k]?=some (.cells cs T fz)/\T ∉ [9,56]) (hg:w.grownBy w' row):Be C w' m N R:=by
 rcases h with h | ⟨b,f,rfl,hC,hm,h1,h2⟩
 · exact .inl h
 · refine .inr ⟨b,f,rfl,hC,hm.kept hg (fun e=>?_),h1,fun e he=>?_⟩
   · obtain ⟨_,cs,T,fz,hc,_⟩:=A0 b e
     exact Dk hm hc rfl
   · obtain ⟨u,hu,ha⟩:=h2 e he
     refine ⟨u,hu,IY (S:=fun k=>some k=row) ha hg.size (fun k hk hn=>hg.block k hk hn) (fun k hk A1 hS=>?_)⟩
     obtain ⟨A6,cs,T,fz,hc,hT⟩:=A0 k hS
     rcases A1 with A1 | ⟨A4,T',A5,A2,A3⟩
     · omega
     · rw [hc] at A2
       cases A2
       exact hT A3
theorem AbP (l:List EnS.En) (dr:Bool) (p:SeS.Pl):(SeS.Fa l dr p).length<=l.length:=by
 unfold SeS.Fa SeS.AV
 refine Nat.le_trans (List.length_filter_le _ _) ?_
 split
 · exact List.length_filter_le _ _
 · exact Nat.zero_le _
theorem XE (l:List EnS.En) (dr:Bool) (ps:List SeS.Pl):∀k,(SeS.stS l dr ps k).2.length<=k*l.length
 | 0=>Nat.zero_le _
 | k+1=>by
  have ih:=XE l dr ps k
  rw [SeS.stS]
  split
  · rename_i p _
    have:=AbP l dr p
    rw [List.length_append,Nat.add_mul]
    omega
  · rw [Nat.add_mul]
    omega
theorem AbQ:(Tryz.prog.info? 65).map (fun i=>(i.zero,i.size,i.bytes))=some (some (.agg #[.string ⟨#[]⟩,.int .i64 0]),2,24):=by kernel_rfl
theorem Zv {α β:Type} (f:β->α->β) (b:β) {l:List α} {k:Nat} (hk:k<l.length):(l.take (k+1)).foldl f b=f ((l.take k).foldl f b) (l[k]'hk):=by
 rw [List.take_succ_eq_append_getElem hk,List.foldl_append]
 rfl
theorem FH.sub {l R:List EnS.En} (h:FH l) (hs:∀e ∈ R,e ∈ l) (hn:R.length<=1048576):FH R:=⟨hn,fun e he=>h.2 e (hs e he)⟩
theorem Ae.away {α:Type} {k:Nat} {El A0:World->Nat->Nat->α->Prop} {ok:Nat->Prop} {w:World} {v:Value} {xs:List α} {b:Nat} (h:Ae k El ok w v xs) (hE:∀g o x,El w g o x->g≠b/\A0 w g o x):Ae k A0 (fun g=>g≠b) w v xs:=by
 obtain ⟨a,c,e,hc,h⟩:=h
 refine ⟨a,c,e,hc,?_⟩
 rcases h with h | ⟨g,o,ha,hg,_,h⟩
 · exact .inl h
 · cases xs with
   | nil=>exact .inl rfl
   | cons x r=>exact .inr ⟨g,o,ha,hg,(hE _ _ _ (h 0 x rfl)).1,fun j y hj=>(hE _ _ _ (h j y hj)).2⟩
theorem Ce.away {w:World} {v:Value} {xs:List EnS.En} {b:Nat} {T:TypeId} {cs:Array Value} (h:Bq w v xs) (hw:Whole w b T cs) (hs:∀(i:Nat) (s:ByteArray),cs[i]?≠some (Value.string s)):Ce (fun g=>g≠b) w v xs:=by
 have A0:∀g o s,w.cell? ⟨g,o,none⟩=some (Ac s)->g≠b:=fun g o s hc e=>by
  subst e
  rw [hw.cell o] at hc
  exact hs _ _ hc
 exact Ae.away h fun g o x ⟨h0,u,h1,h2⟩=>⟨A0 _ _ _ h0,h0,u,h1,Ae.away h2 fun g o x ⟨k0,u,k1,k2⟩=>⟨A0 _ _ _ k0,k0,u,k1,Ae.away k2 fun g o x hx=>⟨A0 _ _ _ hx,hx⟩⟩⟩
theorem Ce.set {w:World} {v:Value} {xs:List EnS.En} {b:Nat} (h:Ce (fun g=>g≠b) w v xs) (i:Nat) (y:Value):Ce (fun g=>g≠b) (w.setCell ⟨b,i,none⟩ y) v xs:=
 h.keep (Nat.le_of_eq (World.size_setCell ..).symm) (fun g _ hg=>Below.heap_setCell w ⟨b,i,none⟩ y g hg) (fun _ _ h=>h)
theorem AbR (l:List EnS.En) (dr:Bool) (p:SeS.Pl):∀k,1<=(SeS.stS l dr [p] k).1.length
 | 0=>Nat.le_refl _
 | k+1=>by
  have ih:=AbR l dr p k
  rw [SeS.stS]
  split
  · rename_i q _
    obtain ⟨r,hr⟩:=SeS.Jo l q.2 ((SeS.AV l q.1 q.2).filter (SeS.FY dr q)) (SeS.stS l dr [p] k).1
    show 1<=(SeS.Jn l dr (SeS.stS l dr [p] k).1 q).length
    unfold SeS.Jn
    rw [hr,List.length_append]
    omega
  · exact ih
theorem Adu {l:List EnS.En} {dr:Bool} {p:SeS.Pl} (hp:p.1.length<=1000000) (hl:∀e ∈ l,e.name.length<=1000000) (k:Nat):∀q ∈ (SeS.stS l dr [p] k).1,q.1.length<=1000000:=fun q hq=>by
 have h:=(SeS.Ta (l:=l) (dr:=dr) (p:=p) k).2 q hq
 unfold SeS.Jp at h
 rcases List.mem_cons.1 h with rfl | h
 · exact hp
 · have h2:∃n,n ∈ [] :: l.map EnS.En.name/\q.1=n:=by
    rcases List.mem_append.1 h with h | h
    · obtain ⟨n,hn,rfl⟩:=List.mem_map.1 h
      exact ⟨n,hn,rfl⟩
    · obtain ⟨n,hn,rfl⟩:=List.mem_map.1 h
      exact ⟨n,hn,rfl⟩
   obtain ⟨n,hn,e⟩:=h2
   rw [e]
   rcases List.mem_cons.1 hn with rfl | hn
   · exact Nat.zero_le _
   · obtain ⟨x,hx,rfl⟩:=List.mem_map.1 hn
     exact hl x hx
theorem Adv (l:List EnS.En) (sc:Int) (es:List EnS.En) (ps:List SeS.Pl) {i:Nat} {p:SeS.Pl} (h:ps[i]?=some p):(es.foldl (SeS.Dj l sc) ps)[i]?=some p:=by
 obtain ⟨r,hr⟩:=SeS.Jo l sc es ps
 rw [hr,List.getElem?_append_left (List.getElem?_eq_some_iff.1 h).1]
 exact h
theorem AbS (v:Value) (ys:List EnS.En) (sz:Int) (w:World) (h:Bq w v ys) (h0:0<=sz):Calls Tryz.prog 28 #[v,.int .i64 sz] w fun e w'=>∃v',e=.returned (.agg #[.int .i64 (SeS.Gi sz ys).1,v'])/\Bq w' v' (SeS.Gi sz ys).2/\Below w.heap.size w w':=by
 obtain ⟨m,rfl⟩:∃m:Nat,sz=(m:Int):=⟨sz.toNat,by omega⟩
 obtain ⟨a,c,rfl,hc⟩:=Ae.form h
 have A2:=Af w (.cells #[.int .i64 0,.slice none 0 0] 32)
 have A3:=Whole.made w 32 #[.int .i64 0,.slice none 0 0]
 by_cases hm:m=0\/ys.length<=m
 · rw [SeS.AbH hm]
   have HK:=hZ9 (fun W (hb:Below w.heap.size w W)=>Ce.call h hb)
   clear h
   generalize hn:ys.length=n at*
   have A0:=Af w (.cells #[.int .i64 0,.slice a n c] 32)
   have A1:=Whole.made w 32 #[.int .i64 0,.slice a n c]
   have y0:=A1.cell 0
   have y1:=A1.cell 1
   simp only [List.getElem?_toArray,List.getElem?_cons_zero,List.getElem?_cons_succ] at y0 y1
   by_cases hz:m=0
   · have d0:decide (0<m)=false:=decide_eq_false (by omega)
     clear hm hz
     go_enter Tryz.func28,Tryz.ntmps28
     go_wp2_with fail
     (try simp only [Exit.inBlock,Exit.then])
     refine bodyPost_ret (v:=.agg #[.int .i64 0,.slice a n c]) ?_ rfl ⟨_,rfl,HK.out _ A0,A0⟩
     clear HK A0 A2 A3
     rw [Bv rfl]
     go_simp
   · have d0:decide (0<m)=true:=decide_eq_true (by omega)
     have d1:decide (m<n)=false:=decide_eq_false (by omega)
     clear hm hz
     go_enter Tryz.func28,Tryz.ntmps28
     go_wp2_with fail
     (try simp only [Exit.inBlock,Exit.then])
     refine bodyPost_ret (v:=.agg #[.int .i64 0,.slice a n c]) ?_ rfl ⟨_,rfl,HK.out _ A0,A0⟩
     clear HK A0 A2 A3
     rw [Bv rfl]
     go_simp
 · rw [SeS.XC (fun e=>hm (.inl e)) (by omega)]
   have HK:=hZ9 (fun W (hb:Below w.heap.size w W)=>(Ae.take (Ce.call h hb) (m:=m) (by omega)))
   clear h
   generalize hn:ys.length=n at*
   have d0:decide (0<m)=true:=decide_eq_true (by omega)
   have d1:decide (m<n)=true:=decide_eq_true (by omega)
   have i0:(0:Int)<=(m:Int):=by omega
   have i1:(m:Int)<=(c:Int):=by omega
   have A0:=Af w (.cells #[.int .i64 4,.slice a m c] 32)
   have A1:=Whole.made w 32 #[.int .i64 4,.slice a m c]
   have y0:=A1.cell 0
   have y1:=A1.cell 1
   simp only [List.getElem?_toArray,List.getElem?_cons_zero,List.getElem?_cons_succ] at y0 y1
   clear hm
   go_enter Tryz.func28,Tryz.ntmps28
   go_wp2_with fail
   (try simp only [Exit.inBlock,Exit.then])
   refine bodyPost_ret (v:=.agg #[.int .i64 4,.slice a m c]) ?_ rfl ⟨_,rfl,HK.out _ A0,A0⟩
   clear HK A0 A2 A3
   rw [Bv rfl]
   go_simp
theorem XF (u:Value) (l:List EnS.En) (n:Nat) (q:SeS.Rq) (rv:Value) (w:World) (h:Bq w u l) (hf:FH l) (hl:l.length<=100) (H2:∀e ∈ l,LJ e.attrs) (ho:SeS.BD l) (h1:SeS.BW l) (O3:∀e ∈ l,e.name≠[]) (hE:Env w) (hq:Fb n w rv q) (K9:FiS.wdF 20000 q.filter) (Q4:q.attrs.length<=1048576/\∀s ∈ q.attrs,s.length<=1048576) (S0:q.base.length<=1000000):
  Calls Tryz.prog 9 #[u,rv] w (fun e w'=>∃c v ys,e=.returned (.agg #[.int .i64 c,v])/\SeS.Gv l q c ys/\Bq w' v ys/\Below w.heap.size w w'):=by
 have I9:=hZ9 (fun v W h=>Zt n q v W h K9)
 unfold CH at I9
 have H9:=hZ9 (fun b W hE h=>UM u l q.base b W hE h hf S0)
 unfold BL at H9
 have E6:=hZ9 (fun W (hb:Below w.heap.size w W)=>h.call hb)
 have E9:=hZ9 (fun W (hb:Below w.heap.size w W)=>hE.below hb)
 have E1:=hZ9 (fun W (hb:Below w.heap.size w W)=>hq.call hb)
 have K5:Hid (SeS.CM q=true->0<=q.deref/\q.deref<=3/\0<=q.size):=hZ9 (fun I5=>by
  unfold SeS.CM at I5
  simp only [Bool.and_eq_true,decide_eq_true_eq] at I5
  omega)
 have J3:Hid (SeS.dr2 q=(decide (q.deref=2)||decide (q.deref=3))):=hZ9 rfl
 have I7:Hid (SeS.CM q=false->SeS.Gv l q 2 []):=hZ9 (fun h=>.inl ⟨h,rfl,rfl⟩)
 have B1:Hid (SeS.CM q=true->(EnS.AG l q.base (SeS.dr2 q)).2.2≠0->SeS.Gv l q (EnS.AG l q.base (SeS.dr2 q)).2.2 []):=hZ9 (fun h k=>.inr (.inl ⟨h,k,rfl,rfl⟩))
 have B0:Hid (SeS.CM q=true->(EnS.AG l q.base (SeS.dr2 q)).2.2=0->∀i c ys,SeS.Om l (SeS.dr1 q) [((EnS.AG l q.base (SeS.dr2 q)).1,q.scope)] i->(c,ys)=SeS.Gi q.size ((SeS.EI ((SeS.stS l (SeS.dr1 q) [((EnS.AG l q.base (SeS.dr2 q)).1,q.scope)] i).2.filter (SeS.FN q.filter))).map (SeS.DZ q.attrs q.tonly))->SeS.Gv l q c ys):=hZ9 (fun h k i c ys e1 e2=>.inr (.inr ⟨h,k,i,e1,e2⟩))
 have C5:Hid ((EnS.AG l q.base (SeS.dr2 q)).2.2=0->(EnS.AG l q.base (SeS.dr2 q)).1.length<=1000000):=hZ9 (fun h=>by
  rcases SeS.find_in h with h2 | h2
  · rw [h2];exact Nat.zero_le _
  · obtain ⟨x,hx,hn⟩:=List.any_eq_true.1 h2
    have T3:x.name=(EnS.AG l q.base (SeS.dr2 q)).1:=by simpa using hn
    rw [<-T3]
    exact (hf.2 x hx).1)
 have A0:=hZ9 (fun pn ps fb m N R W hb I5 F9 hW hC hk hR hN=>Afd w u l n q rv pn ps fb m N R W h hb hf H2 ho h1 O3 hE hq K9 I5 F9 hW hC hk hR hN)
 have A7:=hZ9 (fun C fb b N R W hW hk hq hf H2 ho h1 hE=>Aey C n q rv fb b N R W hW hk hq Q4 hf H2 ho h1 hE)
 have B6:=hZ9 (fun R (hs:∀e ∈ R,e ∈ l) (hn:R.length<=1048576)=>(⟨hf.sub hs hn,fun e he=>H2 e (hs e he),fun e he=>ho e (hs e he),fun a ha b hb T4=>h1 a (hs a ha) b (hs b hb) T4⟩:FH R/\(∀e ∈ R,LJ e.attrs)/\SeS.BD R/\SeS.BW R))
 have E4:=hZ9 (fun s W hE h hs=>UM u l s true W hE h hf hs)
 unfold BL at E4
 have L0:=hZ9 (fun e (he:e ∈ l)=>(hf.2 e he).1)
 obtain ⟨a5,a6,aa,c5,c6,ca,rfl,_,_⟩:=hq
 obtain ⟨ua,uc,rfl,_⟩:=Ae.form h
 have K0:Hid (l.length<=100):=hZ9 hl
 clear h hf hl H2 ho h1 O3 hE K9 Q4 S0
 generalize W0:SeS.CM q=FQ at*
 obtain ⟨D1,P0⟩:∃b,SeS.dr1 q=b:=⟨_,rfl⟩
 obtain ⟨D2,J5⟩:∃b,SeS.dr2 q=b:=⟨_,rfl⟩
 obtain ⟨bs,sc,dr,x,at_,tn,sz⟩:=q
 simp only at I9 H9 E1 K5 J3 I7 B1 B0 C5 A0 A7 P0 J5⊢
 generalize L5:SeS.Gv l ⟨bs,sc,dr,x,at_,tn,sz⟩=RUN at*
 clear L5
 generalize at_.length=QL at*
 generalize x.any.length=XL at*
 generalize x.parts.length=PL at*
 generalize x.kind=kd at*
 generalize x.attr=at0 at*
 generalize x.value=vl at*
 generalize x.first=fs at*
 generalize x.last=ls at*
 have P6:=Af w (.cells #[.string ⟨bs.toArray⟩,.int .i64 sc,.int .i64 dr,.int .i64 kd,.string ⟨at0.toArray⟩,.string ⟨vl.toArray⟩,.string ⟨fs.toArray⟩,.string ⟨ls.toArray⟩,.slice a5 XL c5,.slice a6 PL c6,.slice aa QL ca,.bool tn,.int .i64 sz] 38)
 have Q1:=Whole.made w 38 #[.string ⟨bs.toArray⟩,.int .i64 sc,.int .i64 dr,.int .i64 kd,.string ⟨at0.toArray⟩,.string ⟨vl.toArray⟩,.string ⟨fs.toArray⟩,.string ⟨ls.toArray⟩,.slice a5 XL c5,.slice a6 PL c6,.slice aa QL ca,.bool tn,.int .i64 sz]
 have M1:=Af (w.alloc (.cells #[.string ⟨bs.toArray⟩,.int .i64 sc,.int .i64 dr,.int .i64 kd,.string ⟨at0.toArray⟩,.string ⟨vl.toArray⟩,.string ⟨fs.toArray⟩,.string ⟨ls.toArray⟩,.slice a5 XL c5,.slice a6 PL c6,.slice aa QL ca,.bool tn,.int .i64 sz] 38)) (.cells #[.int .i64 0,.slice none 0 0] 32)
 have B4:=Whole.made (w.alloc (.cells #[.string ⟨bs.toArray⟩,.int .i64 sc,.int .i64 dr,.int .i64 kd,.string ⟨at0.toArray⟩,.string ⟨vl.toArray⟩,.string ⟨fs.toArray⟩,.string ⟨ls.toArray⟩,.slice a5 XL c5,.slice a6 PL c6,.slice aa QL ca,.bool tn,.int .i64 sz] 38)) 32 #[.int .i64 0,.slice none 0 0]
 have s1:(w.alloc (.cells #[.string ⟨bs.toArray⟩,.int .i64 sc,.int .i64 dr,.int .i64 kd,.string ⟨at0.toArray⟩,.string ⟨vl.toArray⟩,.string ⟨fs.toArray⟩,.string ⟨ls.toArray⟩,.slice a5 XL c5,.slice a6 PL c6,.slice aa QL ca,.bool tn,.int .i64 sz] 38)).heap.size=w.heap.size+1:=by show (w.heap.push _).size=_;exact Array.size_push _
 rw [s1] at B4
 have C1:=Aa P6 M1
 have A2:=Q1.call M1
 have r0:=A2.cell 0
 have r1:=A2.cell 1
 have r2:=A2.cell 2
 have r3:=A2.cell 3
 have r4:=A2.cell 4
 have r5:=A2.cell 5
 have r6:=A2.cell 6
 have r7:=A2.cell 7
 have r8:=A2.cell 8
 have r9:=A2.cell 9
 have P9:=A2.cell 10
 have R5:=A2.cell 11
 have O2:=A2.cell 12
 simp only [List.getElem?_toArray,List.getElem?_cons_zero,List.getElem?_cons_succ] at r0 r1 r2 r3 r4 r5 r6 r7 r8 r9 P9 R5 O2
 have J1:=I9.out _ _ (E1.out _ C1)
 clear P6 M1 Q1 s1 I9
 go_enter Tryz.func9,Tryz.ntmps9
 go_wp2_with fail
 refine J1.mono ?_
 rintro e w3 ⟨rfl,C7⟩
 have C6:=A2.call C7
 have A8:=B4.call C7
 have A3:=C1.trans (C7.mono C1.size)
 clear J1 A2 B4 C1 C7 r0 r1 r2 r3 r4 r5 r6 r7 r8 r9 P9 R5 O2
 cases FQ with
 | false=>
  have C8:=I7.out rfl
  have t0:=A8.thaw 0
  have t1:=A8.thaw 1
  have z0:=A8.cell 0
  have z1:=A8.cell 1
  simp only [List.getElem?_toArray,List.getElem?_cons_zero,List.getElem?_cons_succ] at z0 z1
  clear H9 E6 E9 E1 K5 J3 I7 B1 B0 C5 A0 A7 B6 E4
  have hA:=A8.put 0 (.int .i64 2)
  simp only [List.setIfInBounds_toArray,List.set_cons_zero] at hA
  have hB:=hA.put 1 (.slice none 0 0)
  simp only [List.setIfInBounds_toArray,List.set_cons_succ,List.set_cons_zero] at hB
  have C2:=(A3.setCell (p:=⟨w.heap.size+1,0,none⟩) (by show w.heap.size<=w.heap.size+1;omega) (.int .i64 2)).setCell (p:=⟨w.heap.size+1,1,none⟩) (by show w.heap.size<=w.heap.size+1;omega) (.slice none 0 0)
  have y0:=hB.cell 0
  have y1:=hB.cell 1
  simp only [List.getElem?_toArray,List.getElem?_cons_zero,List.getElem?_cons_succ] at y0 y1
  go_wp2_with fail
  (try simp only [Exit.inBlock,Exit.then])
  refine bodyPost_ret (v:=.agg #[.int .i64 2,.slice none 0 0]) ?_ rfl ⟨_,_,[],rfl,C8,Ae.nil _ _,C2⟩
  clear hA hB C2 A8 A3 C8 t0 t1 z0 z1
  generalize (w3.setCell ⟨w.heap.size+1,0,none⟩ (.int .i64 2)).setCell ⟨w.heap.size+1,1,none⟩ (.slice none 0 0)=wf at*
  rw [Bv rfl]
  go_simp
 | true=>
 have r0:=C6.cell 0
 have r2:=C6.cell 2
 simp only [List.getElem?_toArray,List.getElem?_cons_zero,List.getElem?_cons_succ] at r0 r2
 have K1:=K5.out rfl
 replace B1:=hZ9 (B1.out rfl)
 replace B0:=hZ9 (B0.out rfl)
 replace A0:=hZ9 (fun pn ps fb m N R W hb F9 hW hC hk hR hN=>A0.out pn ps fb m N R W hb rfl F9 hW hC hk hR hN)
 rw [J5] at B1 B0 C5
 generalize O4:EnS.AG l bs D2=FF at*
 obtain ⟨F1,FM,F3⟩:=FF
 simp only at B1 B0 C5
 have I3:∀b,b=D2->Calls Tryz.prog 14 #[.slice ua l.length uc,.string ⟨bs.toArray⟩,.bool b] w3 (fun e w'=>e=.returned (.tuple #[.string ⟨F1.toArray⟩,.bool FM,.int .i64 F3])/\Below w3.heap.size w3 w'):=fun b hb=>by
  have hh:=H9.out b w3 (E9.out w3 A3) (E6.out w3 A3)
  subst hb
  rw [O4] at hh
  simp only at hh
  with_reducible exact hh
 have L6:Hid ((decide (dr=2)||decide (dr=3))=D2):=hZ9 (J3.out.symm.trans J5)
 clear H9 O4 J3 J5 I7 K5
 go_upto_region 3 with fail
 go_cut [5,7] (fun b c wd=>b=.string ⟨F1.toArray⟩/\c=.int .i64 F3/\Below w3.heap.size w3 wd)
 case first=>
  clear E6 E9 E1 B1 B0 C5 A0 A7 B6 E4
  rcases RO K1.1 K1.2.1 with rfl | rfl | rfl | rfl
  all_goals
   have N3:=I3 _ L6.out
   clear I3 L6 K1
   go_wp2_with fail
   refine N3.mono ?_
   rintro e w4 ⟨rfl,F6⟩
   go_wp2_with fail
   go_meet
   exact ⟨rfl,rfl,F6⟩
 case rest=>
 obtain ⟨rfl,rfl,F6⟩:=hcut
 obtain ⟨w4,rfl⟩:∃x,x=wc:=⟨_,rfl⟩
 have L7:=C6.call F6
 have D0:=A8.call F6
 have A9:=A3.trans (F6.mono A3.size)
 clear I3 L6 C6 A8 A3 F6 r0 r2
 by_cases h3:F3=0
 case neg=>
  have d3:(F3 !=0)=true:=by simpa using h3
  have C8:=B1.out h3
  have t0:=D0.thaw 0
  have t1:=D0.thaw 1
  have z0:=D0.cell 0
  have z1:=D0.cell 1
  simp only [List.getElem?_toArray,List.getElem?_cons_zero,List.getElem?_cons_succ] at z0 z1
  clear E6 E9 E1 B1 B0 C5 A0 A7 B6 E4 h3
  have hA:=D0.put 0 (.int .i64 F3)
  simp only [List.setIfInBounds_toArray,List.set_cons_zero] at hA
  have hB:=hA.put 1 (.slice none 0 0)
  simp only [List.setIfInBounds_toArray,List.set_cons_succ,List.set_cons_zero] at hB
  have C2:=(A9.setCell (p:=⟨w.heap.size+1,0,none⟩) (by show w.heap.size<=w.heap.size+1;omega) (.int .i64 F3)).setCell (p:=⟨w.heap.size+1,1,none⟩) (by show w.heap.size<=w.heap.size+1;omega) (.slice none 0 0)
  have y0:=hB.cell 0
  have y1:=hB.cell 1
  simp only [List.getElem?_toArray,List.getElem?_cons_zero,List.getElem?_cons_succ] at y0 y1
  go_wp2_with fail
  (try simp only [Exit.inBlock,Exit.then])
  refine bodyPost_ret (v:=.agg #[.int .i64 F3,.slice none 0 0]) ?_ rfl ⟨_,_,[],rfl,C8,Ae.nil _ _,C2⟩
  clear hA hB C2 D0 A9 C8 t0 t1 z0 z1
  generalize (w4.setCell ⟨w.heap.size+1,0,none⟩ (.int .i64 F3)).setCell ⟨w.heap.size+1,1,none⟩ (.slice none 0 0)=wf at*
  rw [Bv rfl]
  go_simp
 have U1:=C5.out h3
 replace B0:=hZ9 (B0.out h3)
 simp only [P0] at B0 A0
 have B7:Hid (∀i,(SeS.stS l D1 [(F1,sc)] i).1.length<=203):=hZ9 (fun i=>Nat.le_trans (SeS.st_len i) (by have:=K0.out;omega))
 have J0:Hid (∀i,∀p ∈ (SeS.stS l D1 [(F1,sc)] i).1,p.1.length<=1000000):=hZ9 (fun i=>Adu U1 L0.out i)
 have G0:Hid (∀i,∀e ∈ (SeS.stS l D1 [(F1,sc)] i).2,e ∈ l):=hZ9 (fun i=>SeS.PY i)
 have J4:Hid (∀i,(SeS.stS l D1 [(F1,sc)] i).2.length<=i*100):=hZ9 (fun i=>Nat.le_trans (XE l D1 [(F1,sc)] i) (Nat.mul_le_mul_left i K0.out))
 have J6:Hid (∀i,1<=(SeS.stS l D1 [(F1,sc)] i).1.length):=hZ9 (fun i=>AbR l D1 (F1,sc) i)
 have I2:=hZ9 (fun i (hk:i<(SeS.stS l D1 [(F1,sc)] i).1.length)=>SeS.XB (l:=l) (dr:=D1) (ps:=[(F1,sc)]) hk)
 have I1:Hid (∀i,(SeS.stS l D1 [(F1,sc)] i).1.length<=i->(∀k,k<i->k<(SeS.stS l D1 [(F1,sc)] k).1.length)->SeS.Om l D1 [(F1,sc)] i):=hZ9 (fun i (h1:(SeS.stS l D1 [(F1,sc)] i).1.length<=i) (h2:∀k,k<i->k<(SeS.stS l D1 [(F1,sc)] k).1.length)=>(show SeS.Om l D1 [(F1,sc)] i from ⟨h1,h2⟩))
 have E5:SeS.stS l D1 [(F1,sc)] 0=([(F1,sc)],[]):=rfl
 generalize K7:SeS.stS l D1 [(F1,sc)]=st at*
 clear K7
 generalize SeS.FN x=holds at*
 generalize SeS.DZ at_ tn=sel at*
 subst h3
 have J9:=Af w4 (.cells #[.map none] 63)
 have P1:=Whole.made w4 63 #[.map none]
 have s5:(w4.alloc (.cells #[.map none] 63)).heap.size=w4.heap.size+1:=by show (w4.heap.push _).size=_;exact Array.size_push _
 have N7:=Af (w4.alloc (.cells #[.map none] 63)) (.cells #[.string ⟨F1.toArray⟩,.int .i64 sc] 65)
 have A5:Bt 65 _ w.heap.size _ [(F1,sc)]:=Bt.made (w:=w4.alloc (.cells #[.map none] 63)) (B:=w.heap.size) (T:=65) (Nat.le_trans A9.size J9.size) F1 sc
 have P7:=P1.call N7
 have I4:=Aa J9 N7
 have R4:=L7.call I4
 have K6:=D0.call I4
 have C0:=A9.trans (I4.mono A9.size)
 have G4:Be w.heap.size ((w4.alloc (.cells #[.map none] 63)).alloc (.cells #[.string ⟨F1.toArray⟩,.int .i64 sc] 65)) none 0 []:=.inl ⟨rfl,rfl⟩
 rw [s5] at A5
 have r1:=(L7.call J9).cell 1
 simp only [List.getElem?_toArray,List.getElem?_cons_zero,List.getElem?_cons_succ] at r1
 have W6:=A9.size
 clear J9 P1 s5 N7 I4 L7 D0 A9 B1 C5
 go_wp2_with fail
 generalize w4.heap.size=fb at*
 go_loopw [9,10] (fun pv iv wr=>∃(i N:Nat) (m:Option Nat),iv=.int .i64 i/\Bt 65 wr w.heap.size pv (st i).1/\Whole wr fb 63 #[.map m]/\Be w.heap.size wr m N ((st i).2.filter holds)/\Hid (∀k,k<i->k<(st k).1.length)/\(0<i->∃b,m=some b)/\N<=i*100/\i<=203/\Whole wr w.heap.size 38 #[.string ⟨bs.toArray⟩,.int .i64 sc,.int .i64 dr,.int .i64 kd,.string ⟨at0.toArray⟩,.string ⟨vl.toArray⟩,.string ⟨fs.toArray⟩,.string ⟨ls.toArray⟩,.slice a5 XL c5,.slice a6 PL c6,.slice aa QL ca,.bool tn,.int .i64 sz]/\Whole wr (w.heap.size+1) 32 #[.int .i64 0,.slice none 0 0]/\Below w.heap.size w wr) (fun _ iv _=>300 - (intOf iv).toNat)
 case atStart=>exact ⟨0,0,none,rfl,by rw [E5];exact A5,P7,by rw [E5];exact G4,hZ9 (fun k hk=>absurd hk (Nat.not_lt_zero _)),fun h=>absurd h (Nat.lt_irrefl _),Nat.zero_le _,Nat.zero_le _,R4,K6,C0⟩
 case round=>
  obtain ⟨i,N,m,rfl,B2,hW,hk,HK,R9,hN,hi,hr,hz,hb⟩:=hrel
  clear A5 P7 G4 R4 K6 C0 r1 E5
  have S1:=hZ9 R9
  clear R9
  have hlen:=B7.out i
  have N9:=J6.out i
  have hsz:=hb.size
  by_cases J7:i<(st i).1.length
  case neg=>
   have Q0:=hZ9 (fun c ys=>B0.out i c ys (I1.out i (by omega) HK.out))
   obtain ⟨b,rfl⟩:=S1.out (by omega)
   obtain ⟨p1,p2,p3,p4⟩:=B6.out ((st i).2.filter holds) (fun e he=>G0.out i e (SeS.Bc he)) (Nat.le_trans (List.length_filter_le _ _) (Nat.le_trans (J4.out i) (by omega)))
   have B3:=hb.trans ((below_drewN wr 1).mono hb.size)
   change Below _ w wr.drew at B3
   have H5:=A7.out w.heap.size fb b N ((st i).2.filter holds) wr.drew (Whole.drew hW) (hk.call (below_drewN wr 1)) (E1.out _ B3) p1 p2 p3 p4 (E9.out _ B3)
   have C3:Hid (∀W,Whole W w.heap.size 38 #[.string ⟨bs.toArray⟩,.int .i64 sc,.int .i64 dr,.int .i64 kd,.string ⟨at0.toArray⟩,.string ⟨vl.toArray⟩,.string ⟨fs.toArray⟩,.string ⟨ls.toArray⟩,.slice a5 XL c5,.slice a6 PL c6,.slice aa QL ca,.bool tn,.int .i64 sz]->W.cell? ⟨w.heap.size,0,none⟩=some (.string ⟨bs.toArray⟩)/\W.cell? ⟨w.heap.size,1,none⟩=some (.int .i64 sc)/\W.cell? ⟨w.heap.size,2,none⟩=some (.int .i64 dr)/\W.cell? ⟨w.heap.size,3,none⟩=some (.int .i64 kd)/\W.cell? ⟨w.heap.size,4,none⟩=some (.string ⟨at0.toArray⟩)/\W.cell? ⟨w.heap.size,5,none⟩=some (.string ⟨vl.toArray⟩)/\W.cell? ⟨w.heap.size,6,none⟩=some (.string ⟨fs.toArray⟩)/\W.cell? ⟨w.heap.size,7,none⟩=some (.string ⟨ls.toArray⟩)/\W.cell? ⟨w.heap.size,8,none⟩=some (.slice a5 XL c5)/\W.cell? ⟨w.heap.size,9,none⟩=some (.slice a6 PL c6)/\W.cell? ⟨w.heap.size,10,none⟩=some (.slice aa QL ca)/\W.cell? ⟨w.heap.size,11,none⟩=some (.bool tn)/\W.cell? ⟨w.heap.size,12,none⟩=some (.int .i64 sz)):=hZ9 (fun W hw=>⟨hw.cell 0,hw.cell 1,hw.cell 2,hw.cell 3,hw.cell 4,hw.cell 5,hw.cell 6,hw.cell 7,hw.cell 8,hw.cell 9,hw.cell 10,hw.cell 11,hw.cell 12⟩)
   have S7:=C3.out wr.drew (Whole.drew hr)
   have N0:=K1.2.2
   generalize (SeS.EI ((st i).2.filter holds)).map sel=YS at*
   obtain ⟨pa,pc,rfl⟩:=B2.form
   clear B0 I1 HK S1 p1 p2 p3 p4 hk hW A7 A0 B6 E4 B7 J0 G0 J4 J6 I2 E6 E1 E9 L0 B2 N9 hlen
   generalize (st i).1.length=PN at*
   have S5:¬((i:Int)<(PN:Int)):=by omega
   go_wp2_with fail
   refine Gp 5 (fun W=>W.cell? ⟨w.heap.size,0,none⟩=some (.string ⟨bs.toArray⟩)/\W.cell? ⟨w.heap.size,1,none⟩=some (.int .i64 sc)/\W.cell? ⟨w.heap.size,2,none⟩=some (.int .i64 dr)/\W.cell? ⟨w.heap.size,3,none⟩=some (.int .i64 kd)/\W.cell? ⟨w.heap.size,4,none⟩=some (.string ⟨at0.toArray⟩)/\W.cell? ⟨w.heap.size,5,none⟩=some (.string ⟨vl.toArray⟩)/\W.cell? ⟨w.heap.size,6,none⟩=some (.string ⟨fs.toArray⟩)/\W.cell? ⟨w.heap.size,7,none⟩=some (.string ⟨ls.toArray⟩)/\W.cell? ⟨w.heap.size,8,none⟩=some (.slice a5 XL c5)/\W.cell? ⟨w.heap.size,9,none⟩=some (.slice a6 PL c6)/\W.cell? ⟨w.heap.size,10,none⟩=some (.slice aa QL ca)/\W.cell? ⟨w.heap.size,11,none⟩=some (.bool tn)/\W.cell? ⟨w.heap.size,12,none⟩=some (.int .i64 sz)) (by kernel_rfl) (by kernel_rfl) S7 (fun A4=>?_)
   refine Ah 0 ?_ (by simp only [List.length_cons,List.length_nil];decide) (by kernel_rfl) (fun _ _ _ h=>h) (by rfl) ?_ A4 ?_
   rotate_left
   · intro W R1;(try simp only [List.getElem_cons_zero]);(try go_split_ands);go_simp;(try with_reducible rfl)
   (try simp only [List.getElem_cons_zero,Act.put,List.setIfInBounds_toArray,List.set_cons_zero,List.set_cons_succ])
   refine Ah 2 ?_ (by simp only [List.length_cons,List.length_nil];decide) (by kernel_rfl) (fun _ _ _ h=>h) (by rfl) ?_ A4 ?_
   rotate_left
   · intro W R1;(try simp only [List.getElem_cons_succ,List.getElem_cons_zero]);(try go_split_ands);go_simp;(try with_reducible rfl)
   (try simp only [List.getElem_cons_succ,List.getElem_cons_zero,Act.put,List.setIfInBounds_toArray,List.set_cons_zero,List.set_cons_succ])
   refine Ah 3 ?_ (by simp only [List.length_cons,List.length_nil];decide) (by kernel_rfl) (fun _ _ _ h=>h) (by rfl) ?_ A4 ?_
   rotate_left
   · intro W R1;(try simp only [List.getElem_cons_succ,List.getElem_cons_zero]);(try go_split_ands);go_simp;(try with_reducible rfl)
   (try simp only [List.getElem_cons_succ,List.getElem_cons_zero,Act.put,List.setIfInBounds_toArray,List.set_cons_zero,List.set_cons_succ])
   refine BN 1 (by simp only [List.length_cons,List.length_nil];decide) (by kernel_rfl) (fun K hK=>?_)
   (try simp only [List.getElem_cons_succ,List.getElem_cons_zero])
   refine BA (by rfl) ?_
   go_simp
   (go_at_call 29;(with_reducible refine H5.mono ?_);rintro e w2 ⟨v2,rfl,A6,C1⟩)
   have A2:=(Whole.drew hr).call C1
   have B4:=(Whole.drew hz).call C1
   have Q5:=AbS v2 YS sz w2 A6.ens N0
   refine hK.out _ _ ?_ (fun A4=>?_)
   · exact C3.out w2 A2
   clear hK K
   (try simp only [Act.put,List.setIfInBounds_toArray,List.set_cons_zero,List.set_cons_succ])
   refine BN 4 (by simp only [List.length_cons,List.length_nil];decide) (by kernel_rfl) (fun K hK=>?_)
   (try simp only [List.getElem_cons_succ,List.getElem_cons_zero])
   refine BA (by rfl) ?_
   go_simp
   (go_at_call 28;(with_reducible refine Q5.mono ?_);rintro e w3 ⟨v3,rfl,B9,C7⟩)
   have C6:=A2.call C7
   have A8:=B4.call C7
   obtain ⟨lv,lc,rfl,_⟩:=Ae.form B9
   refine hK.out _ _ ?_ (fun A4=>?_)
   · exact C3.out w3 C6
   clear hK K
   (try simp only [Act.put,List.setIfInBounds_toArray,List.set_cons_zero,List.set_cons_succ])
   refine EK (by kernel_rfl) ?_
   simp only [List.drop_succ_cons,List.drop_zero]
   clear A4 C3 H5 Q5
   have A3:=(B3.trans (C1.mono B3.size)).trans (C7.mono (B3.trans (C1.mono B3.size)).size)
   obtain ⟨LC,L2⟩:∃c,(SeS.Gi sz YS).1=c:=⟨_,rfl⟩
   obtain ⟨LY,K4⟩:∃y,(SeS.Gi sz YS).2=y:=⟨_,rfl⟩
   have C8:=Q0.out LC LY (by rw [<-L2,<-K4])
   rw [K4] at B9
   rw [L2,K4]
   clear L2 K4
   have R8:=Ce.away B9 A8 (fun k s=>by
    match k with
    | 0=>simp
    | 1=>simp
    | k+2=>simp)
   generalize LY.length=LN at*
   have H1:=Ce.any ((R8.set 0 (.int .i64 LC)).set 1 (.slice lv LN lc))
   have t0:=A8.thaw 0
   have t1:=A8.thaw 1
   have z0:=A8.cell 0
   have z1:=A8.cell 1
   simp only [List.getElem?_toArray,List.getElem?_cons_zero,List.getElem?_cons_succ] at z0 z1
   clear Q0 R8 B9
   have hA:=A8.put 0 (.int .i64 LC)
   simp only [List.setIfInBounds_toArray,List.set_cons_zero] at hA
   have hB:=hA.put 1 (.slice lv LN lc)
   simp only [List.setIfInBounds_toArray,List.set_cons_succ,List.set_cons_zero] at hB
   have C2:=(A3.setCell (p:=⟨w.heap.size+1,0,none⟩) (by show w.heap.size<=w.heap.size+1;omega) (.int .i64 LC)).setCell (p:=⟨w.heap.size+1,1,none⟩) (by show w.heap.size<=w.heap.size+1;omega) (.slice lv LN lc)
   have y0:=hB.cell 0
   have y1:=hB.cell 1
   simp only [List.getElem?_toArray,List.getElem?_cons_zero,List.getElem?_cons_succ] at y0 y1
   go_wp2_with fail
   (try simp only [Exit.inBlock,Exit.then])
   refine bodyPost_ret (v:=.agg #[.int .i64 LC,.slice lv LN lc]) ?_ rfl ⟨LC,_,LY,rfl,C8,H1,C2⟩
   clear hA hB C2 A8 A3 C8 t0 t1 z0 z1 H1
   generalize (w3.setCell ⟨w.heap.size+1,0,none⟩ (.int .i64 LC)).setCell ⟨w.heap.size+1,1,none⟩ (.slice lv LN lc)=wf at*
   rw [Bv rfl]
   go_simp
  have L3:=I2.out i J7
  have F9:=J0.out i _ (List.getElem_mem J7)
  have T7:=hZ9 (G0.out i)
  have U9:Hid (∀k,k<i+1->k<(st k).1.length):=hZ9 (fun k hk=>by
   rcases Nat.lt_or_eq_of_le (Nat.le_of_lt_succ hk) with h2 | rfl
   · exact HK.out k h2
   · exact J7)
  generalize U6:(st i).1=ps at*
  generalize (st i).2=fnd at*
  clear HK U6
  have N6:=List.getElem?_eq_getElem J7
  generalize ps[i]=p at*
  obtain ⟨pn,A1⟩:=p
  simp only at F9
  obtain ⟨g,cap,rfl,T6,H0,⟨cur,F2⟩,hcell⟩:=B2.slice (by omega)
  obtain ⟨c0,c1⟩:=hcell i _ N6
  unfold Ac at c0
  simp only at c0 c1
  have V4:g<wr.heap.size:=(Array.getElem?_eq_some_iff.1 F2).1
  have V0:Hid (∀k cs T fz,wr.heap[k]?=some (.cells cs T fz)->m≠some k):=hZ9 (fun k cs T fz hc e=>by
   rcases hk with ⟨e2,_⟩ | ⟨b,f,e2,_,hm,_⟩
   · rw [e2] at e;cases e
   · rw [e2] at e
     have e:=Option.some.inj e
     subst e
     exact Dk hm hc rfl)
  have J8:Hid (∀b k cs T fz,(∀j,j<wr.heap.size->j=b->m=some j)->wr.heap[k]?=some (.cells cs T fz)->T≠63->¬(k=fb\/k=b)):=hZ9 (fun b k cs T fz hb hc hT hs=>by
   rcases hs with rfl | rfl
   · have h1:=hW
     unfold Whole at h1
     rw [h1] at hc
     cases hc
     exact hT rfl
   · exact V0.out _ _ _ _ hc (hb _ (Array.getElem?_eq_some_iff.1 hc).1 rfl))
  have B3:=hb.trans ((below_drewN wr 1).mono hb.size)
  change Below _ w wr.drew at B3
  have M2:=A0.out pn A1 fb m N (fnd.filter holds) wr.drew B3 F9 (Whole.drew hW) (by omega) (hk.call (below_drewN wr 1)) (fun e he=>T7.out e (SeS.Bc he)) (by omega)
  have M6:Hid (∀b W,(∀j,j<wr.heap.size->j=b->m=some j)->But (fun j=>j=fb\/j=b) wr.drew W->Bt 65 W w.heap.size (.slice (some ⟨g,0,none⟩) ps.length cap) ps/\Whole W w.heap.size 38 #[.string ⟨bs.toArray⟩,.int .i64 sc,.int .i64 dr,.int .i64 kd,.string ⟨at0.toArray⟩,.string ⟨vl.toArray⟩,.string ⟨fs.toArray⟩,.string ⟨ls.toArray⟩,.slice a5 XL c5,.slice a6 PL c6,.slice aa QL ca,.bool tn,.int .i64 sz]/\Whole W (w.heap.size+1) 32 #[.int .i64 0,.slice none 0 0]/\Below w.heap.size w W/\(W.cell? ⟨g,i*2,none⟩=some (.string ⟨pn.toArray⟩)/\W.cell? ⟨g,i*2+1,none⟩=some (.int .i64 A1))):=hZ9 (fun b W F8 B8=>by
   have S9:Bt 65 wr.drew w.heap.size (.slice (some ⟨g,0,none⟩) ps.length cap) ps:=B2.call (below_drewN wr 1)
   refine ⟨S9.but B8 (fun k J2=>?_),B8.whole (Whole.drew hr) (J8.out b _ _ _ _ F8 hr (by decide)),B8.whole (Whole.drew hz) (J8.out b _ _ _ _ F8 hz (by decide)),B3.trans (B8.below (show w.heap.size<=wr.heap.size from hb.size) (fun j e=>?_)),?_⟩
   · obtain ⟨_,_,L1,U2⟩:=B2.lt J2
     exact J8.out b _ _ _ _ F8 U2 (by decide)
   · rcases e with rfl | rfl
     · omega
     · by_cases I0:j<wr.heap.size
       · rcases hk with ⟨e2,_⟩ | ⟨b2,f,e2,W8,_⟩
         · have:=F8 j I0 rfl
           rw [e2] at this
           cases this
         · have:=F8 j I0 rfl
           rw [e2] at this
           have:=Option.some.inj this
           omega
       · omega
   · have O6:=B8.block g V4 (J8.out b _ _ _ _ F8 F2 (by decide))
     exact ⟨(World.cell?_of_block (a:=⟨g,i*2,none⟩) O6).trans c0,(World.cell?_of_block (a:=⟨g,i*2+1,none⟩) O6).trans c1⟩)
  have C3:Hid (∀W,Whole W w.heap.size 38 #[.string ⟨bs.toArray⟩,.int .i64 sc,.int .i64 dr,.int .i64 kd,.string ⟨at0.toArray⟩,.string ⟨vl.toArray⟩,.string ⟨fs.toArray⟩,.string ⟨ls.toArray⟩,.slice a5 XL c5,.slice a6 PL c6,.slice aa QL ca,.bool tn,.int .i64 sz]->(W.cell? ⟨g,i*2,none⟩=some (.string ⟨pn.toArray⟩)/\W.cell? ⟨g,i*2+1,none⟩=some (.int .i64 A1))->W.cell? ⟨g,i*2,none⟩=some (.string ⟨pn.toArray⟩)/\W.cell? ⟨g,i*2+1,none⟩=some (.int .i64 A1)/\W.cell? ⟨w.heap.size,0,none⟩=some (.string ⟨bs.toArray⟩)/\W.cell? ⟨w.heap.size,1,none⟩=some (.int .i64 sc)/\W.cell? ⟨w.heap.size,2,none⟩=some (.int .i64 dr)/\W.cell? ⟨w.heap.size,3,none⟩=some (.int .i64 kd)/\W.cell? ⟨w.heap.size,4,none⟩=some (.string ⟨at0.toArray⟩)/\W.cell? ⟨w.heap.size,5,none⟩=some (.string ⟨vl.toArray⟩)/\W.cell? ⟨w.heap.size,6,none⟩=some (.string ⟨fs.toArray⟩)/\W.cell? ⟨w.heap.size,7,none⟩=some (.string ⟨ls.toArray⟩)/\W.cell? ⟨w.heap.size,8,none⟩=some (.slice a5 XL c5)/\W.cell? ⟨w.heap.size,9,none⟩=some (.slice a6 PL c6)/\W.cell? ⟨w.heap.size,10,none⟩=some (.slice aa QL ca)/\W.cell? ⟨w.heap.size,11,none⟩=some (.bool tn)/\W.cell? ⟨w.heap.size,12,none⟩=some (.int .i64 sz)):=hZ9 (fun W hw hc=>⟨hc.1,hc.2,hw.cell 0,hw.cell 1,hw.cell 2,hw.cell 3,hw.cell 4,hw.cell 5,hw.cell 6,hw.cell 7,hw.cell 8,hw.cell 9,hw.cell 10,hw.cell 11,hw.cell 12⟩)
  have G7:=C3.out wr.drew (Whole.drew hr) ⟨c0,c1⟩
  generalize I6:(SeS.AV l pn A1).filter (SeS.FY D1 (pn,A1))=GL at*
  have R7:Hid (SeS.Jn l D1 ps (pn,A1)=GL.foldl (SeS.Dj l A1) ps):=hZ9 (by rw [<-I6];rfl)
  have S8:Hid (∀e ∈ GL,e ∈ l):=hZ9 (fun e he=>by
   rw [<-I6] at he
   have he:=SeS.Bc he
   unfold SeS.AV at he
   split at he
   · exact SeS.Bc he
   · cases he)
  have R6:Hid (fnd.filter holds++(SeS.Fa l D1 (pn,A1)).filter holds=(st (i+1)).2.filter holds):=hZ9 (by rw [L3,List.filter_append])
  have Q2:Hid ((st (i+1)).1=GL.foldl (SeS.Dj l A1) ps):=hZ9 (by rw [L3,<-R7.out])
  have P5:=hZ9 (B7.out (i+1))
  have V7:Hid (GL.length<=100):=hZ9 (by
   rw [<-I6]
   refine Nat.le_trans (List.length_filter_le _ _) (Nat.le_trans ?_ K0.out)
   unfold SeS.AV
   split
   · exact List.length_filter_le _ _
   · exact Nat.zero_le _)
  rw [R6.out] at M2
  clear I6 L3 R6 R7 hcell F2 c0 c1 B2 hr hz hk
  have W3:(0:Int)<=(i:Int):=by omega
  generalize R0:ps.length=PN at*
  have O0:=hZ9 R0
  clear R0
  have V8:(i:Int)<(PN:Int):=by omega
  go_wp2_with fail
  have R3:=trivial
  go_region_held3 (fun W=>W.cell? ⟨g,i*2,none⟩=some (.string ⟨pn.toArray⟩)/\W.cell? ⟨g,i*2+1,none⟩=some (.int .i64 A1)/\W.cell? ⟨w.heap.size,0,none⟩=some (.string ⟨bs.toArray⟩)/\W.cell? ⟨w.heap.size,1,none⟩=some (.int .i64 sc)/\W.cell? ⟨w.heap.size,2,none⟩=some (.int .i64 dr)/\W.cell? ⟨w.heap.size,3,none⟩=some (.int .i64 kd)/\W.cell? ⟨w.heap.size,4,none⟩=some (.string ⟨at0.toArray⟩)/\W.cell? ⟨w.heap.size,5,none⟩=some (.string ⟨vl.toArray⟩)/\W.cell? ⟨w.heap.size,6,none⟩=some (.string ⟨fs.toArray⟩)/\W.cell? ⟨w.heap.size,7,none⟩=some (.string ⟨ls.toArray⟩)/\W.cell? ⟨w.heap.size,8,none⟩=some (.slice a5 XL c5)/\W.cell? ⟨w.heap.size,9,none⟩=some (.slice a6 PL c6)/\W.cell? ⟨w.heap.size,10,none⟩=some (.slice aa QL ca)/\W.cell? ⟨w.heap.size,11,none⟩=some (.bool tn)/\W.cell? ⟨w.heap.size,12,none⟩=some (.int .i64 sz))
   (first | exact G7 | exact hce2 | go_keep)
   (first | (go_at_call 25;(with_reducible refine M2.mono ?_);rintro e w2 ⟨v2,b,N2,rfl,A6,L4,J2,X0,D6,D9⟩;have haf:=M6.out b w2 D6 D9;have hce2:=C3.out w2 haf.2.1 haf.2.2.2.2;obtain ⟨va,vc,rfl⟩:=A6.form))
  have M0:=trivial
  obtain ⟨H4,A2,B4,D4,_⟩:=M6.out b w2 D6 D9
  have U8:=D4.size
  have S2:Hid (N2<=(i+1)*100):=hZ9 (by have:=K0.out;omega)
  have N8:Hid (∀k (hk:k<GL.length),∃ga ax ac,va=some ⟨ga,0,none⟩/\ga<w2.heap.size/\¬(∃cs fz,w2.heap[ga]?=some (.cells cs 65 fz))/\w2.cell? ⟨ga,k*2,none⟩=some (Ac (GL[k]'hk).name)/\w2.cell? ⟨ga,k*2+1,none⟩=some (.slice ax (GL[k]'hk).attrs.length ac)):=hZ9 (fun k hk=>by
   obtain ⟨ga,cap2,us,ea,_,_,⟨L1,C4⟩,_,c0,c1,V1⟩:=A6.slice hk
   injection ea with e1 _ _
   obtain ⟨ax,ac,rfl,_⟩:=Ae.form V1
   refine ⟨ga,ax,ac,e1,(Array.getElem?_eq_some_iff.1 C4).1,fun ⟨cs,fz,hc⟩=>?_,c0,c1⟩
   rw [C4] at hc
   cases hc)
  have K2:Hid (∀W,But (fun k=>∃cs fz,w2.heap[k]?=some (.cells cs 65 fz)) w2 W->Whole W w.heap.size 38 #[.string ⟨bs.toArray⟩,.int .i64 sc,.int .i64 dr,.int .i64 kd,.string ⟨at0.toArray⟩,.string ⟨vl.toArray⟩,.string ⟨fs.toArray⟩,.string ⟨ls.toArray⟩,.slice a5 XL c5,.slice a6 PL c6,.slice aa QL ca,.bool tn,.int .i64 sz]/\Whole W (w.heap.size+1) 32 #[.int .i64 0,.slice none 0 0]/\Whole W fb 63 #[.map (some b)]):=hZ9 (fun W hb=>by
   refine ⟨hb.whole A2 (fun ⟨cs,fz,hc⟩=>?_),hb.whole B4 (fun ⟨cs,fz,hc⟩=>?_),hb.whole L4 (fun ⟨cs,fz,hc⟩=>?_)⟩
   · have h1:=A2
     unfold Whole at h1
     rw [h1] at hc
     cases hc
   · have h1:=B4
     unfold Whole at h1
     rw [h1] at hc
     cases hc
   · have h1:=L4
     unfold Whole at h1
     rw [h1] at hc
     cases hc)
  have N4:Hid (∀es:List EnS.En,(es.foldl (SeS.Dj l A1) ps)[i]?=some (pn,A1)):=hZ9 (fun es=>Adv l A1 es ps N6)
  have N5:=hZ9 (fun k (hk:k<GL.length)=>Zv (SeS.Dj l A1) ps hk)
  have K8:Hid (∀k,((GL.take k).foldl (SeS.Dj l A1) ps).length<=203):=hZ9 (fun k=>by
   have h1:=P5.out
   rw [Q2.out] at h1
   obtain ⟨r,hr⟩:=SeS.Jo l A1 (GL.drop k) ((GL.take k).foldl (SeS.Dj l A1) ps)
   rw [<-List.foldl_append,List.take_append_drop] at hr
   rw [hr,List.length_append] at h1
   omega)
  have I8:Hid ((GL.take GL.length).foldl (SeS.Dj l A1) ps=(st (i+1)).1):=hZ9 (by rw [List.take_length,Q2.out])
  have M8:=hZ9 (fun k (hk:k<GL.length)=>L0.out _ (S8.out _ (List.getElem_mem hk)))
  clear M6 C3 G7 hce2 haf A6 A2 B4 L4 D9 D6 N6 M2
  generalize Q7:(st (i+1)).2.filter holds=R2 at*
  have B1:=hZ9 Q7
  clear Q7
  obtain ⟨GN,K3⟩:∃k,GL.length=k:=⟨_,rfl⟩
  have Q6:=hZ9 K3
  rw [K3] at I8
  have G3:Bt 65 w2 w.heap.size (.slice (some ⟨g,0,none⟩) PN cap) ps:=by rw [<-O0.out];rw [O0.out];exact H4
  have V6:=(K2.out w2 (But.refl _ _)).2.2
  have C6:=(K2.out w2 (But.refl _ _)).1
  clear H4
  go_wp2_with fail
  rw [K3]
  clear K3
  go_loopw [9,56] (fun pv jv wr=>∃j:Nat,jv=.int .i64 j/\j<=GN/\Bt 65 wr w.heap.size pv ((GL.take j).foldl (SeS.Dj l A1) ps)/\Be w.heap.size wr (some b) N2 R2/\But (fun k=>∃cs fz,w2.heap[k]?=some (.cells cs 65 fz)) w2 wr/\Below w.heap.size w wr) (fun _ jv _=>GN - (intOf jv).toNat)
  case atStart=>exact ⟨0,rfl,Nat.zero_le _,by rw [List.take_zero];exact G3,J2,But.refl _ _,D4⟩
  case round=>
   obtain ⟨j,rfl,hj,B2,hk,B8,hb⟩:=hrel
   clear G3 J2 D4 V6 C6
   have V9:=K8.out j
   have Q8:=N4.out (GL.take j)
   by_cases I0:j<GN
   case neg=>
    have V5:j=GN:=by omega
    subst V5
    rw [I8.out] at B2
    obtain ⟨S4,T5,J1⟩:=K2.out _ B8
    rw [<-B1.out] at hk
    generalize I3:(GL.take j).foldl (SeS.Dj l A1) ps=FD at*
    obtain ⟨pa,pc,rfl⟩:=B2.form
    clear N8 K2 N4 N5 K8 I8 M8 A0 I2 J0 I1 B7 G0 J4 J6 E4 A7
    have U5:=S2.out
    have hlen2:=P5.out
    go_wp2_with fail
    go_roundw
    case rel=>exact ⟨i+1,N2,some b,by go_num,B2,J1,hk,U9,fun _=>⟨b,rfl⟩,U5,by omega,S4,T5,hb⟩
    case measure=>simp [intOf];omega
   have M9:j<GL.length:=by rw [Q6.out];exact I0
   obtain ⟨ga,ax,ac,rfl,V3,T0,d0,d1⟩:=N8.out j M9
   have hblk:=B8.block ga V3 T0
   have e0:=(World.cell?_of_block (a:=⟨ga,j*2,none⟩) hblk).trans d0
   have e1:=(World.cell?_of_block (a:=⟨ga,j*2+1,none⟩) hblk).trans d1
   have Q3:=M8.out j M9
   have H3:=hZ9 (N5.out j M9)
   clear d0 d1 hblk N8 N5 K8 N4 I8 M8 A0 A7 I2 J0 I1 B7 G0 J4 J6
   generalize GL[j]=z at*
   generalize (GL.take j).foldl (SeS.Dj l A1) ps=Q at*
   obtain ⟨name,O5⟩:=z
   unfold Ac at e0
   simp only at e0 e1 Q3
   generalize O5.length=AL at*
   have G6:Hid (j+1<=GN/\j+1<=100):=hZ9 ⟨I0,by have h1:=V7.out;have h2:=Q6.out;omega⟩
   have T9:j<=99:=by have h9:=G6.out.2;omega
   have W4:(0:Int)<=(j:Int):=by omega
   have W2:(j:Int)<(GN:Int):=by omega
   have E2:=Af wr (.cells #[.string ⟨name.toArray⟩,.slice ax AL ac] 52)
   have O1:=Whole.made wr 52 #[.string ⟨name.toArray⟩,.slice ax AL ac]
   have H8:=hb.trans (E2.mono hb.size)
   have L9:=E4.out name _ (E9.out _ H8) (E6.out _ H8) Q3
   have F5:Hid (SeS.Dj l A1 Q ⟨name,O5⟩=if (EnS.AG l name true).2.2=0 then SeS.Hy Q ((EnS.AG l name true).1,SeS.Ha A1) else Q):=hZ9 rfl
   generalize EnS.AG l name true=FR at*
   obtain ⟨T1,TM,TC⟩:=FR
   simp only at L9 F5
   have G2:=B8.call E2
   have P4:=hk.call E2
   have G1:=B2.call E2
   have x0:=O1.cell 0
   simp only [List.getElem?_toArray,List.getElem?_cons_zero] at x0
   clear B8 hk B2 O1 E6
   go_wp2_with fail
   refine L9.mono ?_
   rintro e w6 ⟨rfl,C0⟩
   have K6:=E2.trans (C0.mono E2.size)
   have G5:=G2.call C0
   have G4:=P4.call C0
   have A5:=G1.call C0
   have D5:=H8.trans (C0.mono H8.size)
   clear L9 x0 H8 E2 G2 P4 G1 C0 K6 e0 e1
   have W5:i<Q.length:=(List.getElem?_eq_some_iff.1 Q8).1
   obtain ⟨g3,U0,rfl,P8,W1,_,B5⟩:=A5.slice (by omega)
   obtain ⟨c0,c1⟩:=B5 i _ Q8
   unfold Ac at c0
   simp only at c0 c1
   have P3:=Adr A1 w6
   generalize SeS.Ha A1=BS at*
   have O9:=fun W hb=>Vy _ Q T1 BS W ((A5.call (w':=W) hb).pls) (by omega)
   have F7:=Af w6 (.cells #[.string ⟨T1.toArray⟩,.int .i64 BS] 65)
   have M3:=Whole.made w6 65 #[.string ⟨T1.toArray⟩,.int .i64 BS]
   have E0:=O9 _ F7
   generalize P2:Q.length=QN at*
   have T2:=hZ9 P2
   clear P2 B5 O9
   have W9:(i:Int)<(QN:Int):=by omega
   have b0:=M3.cell 0
   have b1:=M3.cell 1
   simp only [List.getElem?_toArray,List.getElem?_cons_zero,List.getElem?_cons_succ] at b0 b1
   go_wp2_with fail
   refine P3.mono ?_
   rintro e w7 ⟨rfl,rfl⟩
   clear P3
   go_upto_region 16 with fail
   generalize U7:w6.alloc (.cells #[.string ⟨T1.toArray⟩,.int .i64 BS] 65)=W7 at*
   have E8:=G5.call F7
   have N1:=G4.call F7
   have E3:=A5.call F7
   have F0:=D5.trans (F7.mono D5.size)
   clear U7 G5 G4 A5 D5 F7 c0 c1
   generalize w6.heap.size=pb at*
   obtain ⟨CT,F4⟩:∃c,Q.contains ((T1,BS):SeS.Pl)=c:=⟨_,rfl⟩
   rw [F4] at E0
   go_cut [83] (fun v wd=>v=.bool (decide (TC=0)&&!CT)/\Below W7.heap.size W7 wd)
   case first=>
    clear F5 H3 F4 N1 E3 E8
    by_cases h0:TC=0
    · have t0:(TC==0)=true:=by simpa using h0
      have t1:decide (TC=0)=true:=decide_eq_true h0
      clear h0
      go_wp2_with fail
      refine E0.mono ?_
      rintro e w8 ⟨rfl,C9⟩
      go_wp2_with fail
      go_meet
      exact ⟨by first | rfl | simp [t1],C9⟩
    · have t0:(TC==0)=false:=by simpa using h0
      have t1:decide (TC=0)=false:=decide_eq_false h0
      clear h0
      go_wp2_with fail
      go_meet
      exact ⟨by first | rfl | simp [t1],Below.refl _ _⟩
   case rest=>
   obtain ⟨rfl,C9⟩:=hcut
   obtain ⟨w8,rfl⟩:∃x,x=wc:=⟨_,rfl⟩
   have G8:=E8.call C9
   have Q9:=N1.call C9
   have G9:=E3.call C9
   have E7:=F0.trans (C9.mono F0.size)
   have y0:=Ab b0 C9
   have y1:=Ab b1 C9
   clear E8 N1 E3 F0 b0 b1 E0 M3
   cases D7:(decide (TC=0)&&!CT) with
   | false=>
    have M4:Hid ((GL.take (j+1)).foldl (SeS.Dj l A1) ps=Q):=hZ9 (by
     rw [H3.out,F5.out]
     by_cases h0:TC=0
     · rw [if_pos h0]
       rw [decide_eq_true h0,Bool.true_and] at D7
       have hc:CT=true:=by simpa using D7
       unfold SeS.Hy
       rw [F4,hc,if_pos rfl]
     · rw [if_neg h0])
    clear H3 F5 F4 D7
    go_wp2_with fail
    go_roundw
    case rel=>exact ⟨j+1,by go_num,G6.out.1,by rw [M4.out];exact G9,Q9,G8,E7⟩
    case measure=>have h9:=G6.out;simp [intOf];omega
   | true=>
    have M4:Hid ((GL.take (j+1)).foldl (SeS.Dj l A1) ps=Q++[(T1,BS)]):=hZ9 (by
     rw [H3.out,F5.out]
     rw [Bool.and_eq_true,decide_eq_true_eq] at D7
     rw [if_pos D7.1]
     have hc:CT=false:=by simpa using D7.2
     unfold SeS.Hy
     rw [F4,hc,if_neg (by simp)])
    clear H3 F5 F4 D7
    have H0:=Af w8 (.cells #[.string ⟨T1.toArray⟩,.int .i64 BS] 65)
    have O7:=Whole.made w8 65 #[.string ⟨T1.toArray⟩,.int .i64 BS]
    have D8:=G9.call H0
    have S3:=Q9.call H0
    have H7:=G8.call H0
    have H6:=E7.trans (H0.mono E7.size)
    have q0:=O7.cell 0
    have q1:=O7.cell 1
    simp only [List.getElem?_toArray,List.getElem?_cons_zero,List.getElem?_cons_succ] at q0 q1
    have M7:=H6.size
    obtain ⟨i0,S6,V2,U3,B4⟩:=info_parts AbQ
    go_wp2_with (at_builtin;refine Ae1 65 66 Tryz.underlying66 S6 V2 U3 B4 (by rfl) (by rfl) _ _ (by rfl) w.heap.size _ Q (by rfl) D8 w8.heap.size (by rfl) (T1,BS) q0 q1 (by rw [T2.out];omega) M7 ?_)
    intro v9 w9 L8 T8 O8
    have U4:=S3.grownT (fun k e=>by
     obtain ⟨h1,_,D3,h3⟩:=D8.lt e.symm
     exact ⟨h1,D3,_,_,h3,by decide⟩) O8
    have M5:=H7.grown O8 (fun k hk e=>by
     obtain ⟨_,_,D3,h3⟩:=D8.lt e
     refine Classical.byContradiction fun hn=>hn ⟨D3,(0,0),?_⟩
     rw [<-H7.block k hk hn]
     exact h3)
    go_wp2_with fail
    go_roundw
    case rel=>exact ⟨j+1,by go_num,G6.out.1,by rw [M4.out];exact L8,U4,M5,H6.trans T8⟩
    case measure=>have h9:=G6.out;simp [intOf];omega
end Go.Proofs.YtgngjfjaelgaeaaGreatDoor
