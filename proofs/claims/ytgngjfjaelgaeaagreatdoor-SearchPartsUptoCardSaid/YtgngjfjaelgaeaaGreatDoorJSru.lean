/- The walks of a search's limit and of searching. Conditions: as stated. -/
import Derived.Test.YtgngjfjaelgaeaaGreatDoorJTak
import Derived.Test.YtgngjfjaelgaeaaGreatDoorJSea
set_option maxRecDepth 100000
set_option maxHeartbeats 16000000
namespace Go.Proofs.YtgngjfjaelgaeaaGreatDoor
open Go.Proofs.Tryz
open Go.RowKit
attribute [local go_sem ↓] Go.wp_at_zero Go.wp_at_succ
theorem BL.but {T:TypeId} {w w':World} {B:Nat} {v:Value} {xs:List SeS.Pl} (h:BL T w B v xs) {S:Nat->Prop} (hb:But S w w') (hS:∀k,v.ownBlock=some k->¬S k):BL T w' B v xs:=by
 refine ⟨h.1,?_⟩;rcases h.2 with h1 | ⟨g,cap,cur,rfl,c,a,b⟩
 · exact .inl h1
 · exact .inr ⟨g,cap,cur,rfl,c,(hb.block g (ah.1 a).1 (hS g rfl)).trans a,b⟩
theorem Bz.grownT {C:Nat} {w w':World} {m:Option Nat} {N:Nat} {R:List EnS.En} (h:Bz C w m N R) {row:Option Nat} (a:∀k,some k=row->C<=k/\∃cs T fz,w.heap[k]?=some (.cells cs T fz)/\T ∉ [9,56]) (i:w.grownBy w' row):Bz C w' m N R:=by
 rcases h with h | ⟨b,f,rfl,hC,j,h1,h2⟩
 · exact .inl h
 · refine .inr ⟨b,f,rfl,hC,j.kept i (fun e=>?_),h1,fun e n=>?_⟩
   · obtain ⟨_,cs,T,fz,hc,_⟩:=a b e;exact Dx j hc rfl
   · obtain ⟨u,hu,l⟩:=h2 e n;refine ⟨u,hu,JK (S:=fun k=>some k=row) l i.size (fun k hk p=>i.block k hk p) (fun k hk c hS=>?_)⟩;obtain ⟨q,cs,T,fz,hc,o⟩:=a k hS;rcases c with c | ⟨s,t,r,d,g⟩
     · omega
     · rw [hc] at d;cases d;exact o g
theorem AcE (l:List EnS.En) (dr:Bool) (p:SeS.Pl):(SeS.FK l dr p).length<=l.length:=by
 unfold SeS.FK SeS.Bf;refine aY (bL _ _) ?_;split
 · exact bL _ _
 · exact aR _
theorem YB (l:List EnS.En) (dr:Bool) (ps:List SeS.Pl):∀k,(SeS.stS l dr ps k).2.length<=k*l.length
 | 0=>aR _
 | k+1=>by
  have a:=YB l dr ps k;rw [SeS.stS];split
  · rename_i p _;have:=AcE l dr p;rw [aT,dI];omega
  · rw [dI];omega
theorem AcF:(prog.info? 65).map (fun i=>(i.zero,i.size,i.bytes))=some (some (.agg #[.string ⟨#[]⟩,.int .i64 0]),2,24):=by kernel_rfl
theorem Aar {α β:Type} (f:β->α->β) (b:β) {l:List α} {k:Nat} (hk:k<l.length):(l.take (k+1)).foldl f b=f ((l.take k).foldl f b) (l[k]'hk):=by rw [aX hk,dE];rfl
theorem Eb.sub {l R:List EnS.En} (h:Eb l) (c:∀e ∈ R,e ∈ l) (b:R.length<=1048576):Eb R:=⟨b,fun e a=>h.2 e (c e a)⟩
theorem AV.callT {Ts:List TypeId} {C:Nat} {w w':World} {v:Value} {xs:List EnS.En} (h:AV (okT Ts C w) w v xs) (hb:Below w.heap.size w w'):AV (okT Ts C w') w' v xs:=h.keep hb.size (fun g b _=>hb.block g b) (fun g b a=>a.same (hb.block g b))
theorem AV.box {Ts:List TypeId} {C:Nat} {w:World} {v:Value} {xs:List EnS.En} (h:AV (okT Ts C w) w v xs) {b:Nat} {T:TypeId} {cs:Array Value} (d:Whole w b T cs) (hb:C<=b) (f:T ∉ Ts) (i:Nat) (y:Value):AV (okT Ts C (w.setCell ⟨b,i,none⟩ y)) (w.setCell ⟨b,i,none⟩ y) v xs:=by
 have hk:∀k,okT Ts C w k->k≠b:=fun k a e=>by
  subst e;rcases a with a | ⟨g,T2,fz,hc,c⟩
  · omega
  · unfold Whole at d;rw [d] at hc;cases hc;exact f c
 exact h.keep (cH (World.size_setCell ..).symm) (fun k _ a=>Below.heap_setCell w ⟨b,i,none⟩ y k (hk k a)) (fun k _ a=>a.same (Below.heap_setCell w ⟨b,i,none⟩ y k (hk k a)))
abbrev ETs:List TypeId:=[9,56,52]
theorem Ao.ensT {C:Nat} {w:World} {B:Nat} {v:Value} {xs:List EnS.En} (h:Ao enK 52 [9,56] C w B v xs):AV (okT ETs C w) w v xs:=
 h.read (okT ETs C w) (fun _ _ a=>a.mono (aA _) (by simp)) (fun g cs e _=>.inr ⟨cs,_,_,e,by simp⟩)
theorem AcG (l:List EnS.En) (dr:Bool) (p:SeS.Pl):∀k,1<=(SeS.stS l dr [p] k).1.length
 | 0=>aA _
 | k+1=>by
  have a:=AcG l dr p k;rw [SeS.stS];split
  · rename_i q _;obtain ⟨r,b⟩:=SeS.JH l q.2 ((SeS.Bf l q.1 q.2).filter (SeS.Gv dr q)) (SeS.stS l dr [p] k).1;show 1<=(SeS.JG l dr (SeS.stS l dr [p] k).1 q).length
    unfold SeS.JG;rw [b,aT];omega
  · exact a
theorem Aem {l:List EnS.En} {dr:Bool} {p:SeS.Pl} (hp:p.1.length<=1000000) (c:∀e ∈ l,e.name.length<=1000000) (k:Nat):∀q ∈ (SeS.stS l dr [p] k).1,q.1.length<=1000000:=fun q b=>by
 have h:=(SeS.Ug (l:=l) (dr:=dr) (p:=p) k).2 q b;unfold SeS.JI at h;rcases ay.1 h with rfl | h
 · exact hp
 · have h2:∃n,n ∈ [] :: l.map EnS.En.name/\q.1=n:=by
    rcases b9.1 h with h | h
    · obtain ⟨n,a,rfl⟩:=bD.1 h;exact ⟨n,a,rfl⟩
    · obtain ⟨n,a,rfl⟩:=bD.1 h;exact ⟨n,a,rfl⟩
   obtain ⟨n,a,e⟩:=h2;rw [e];rcases ay.1 a with rfl | a
   · exact aR _
   · obtain ⟨x,hx,rfl⟩:=bD.1 a;exact c x hx
theorem Aen (l:List EnS.En) (sc:Int) (es:List EnS.En) (ps:List SeS.Pl) {i:Nat} {p:SeS.Pl} (h:ps[i]?=some p):(es.foldl (SeS.Dv l sc) ps)[i]?=some p:=by obtain ⟨r,a⟩:=SeS.JH l sc es ps;rw [a,bF (aj.1 h).1];exact h
theorem AcH (ok:Nat->Prop) (v:Value) (ys:List EnS.En) (sz:Int) (w:World) (h:AV ok w v ys) (h0:0<=sz):Calls prog 28 #[v,.int .i64 sz] w fun e w'=>∃p,e=.returned (.agg #[.int .i64 (SeS.GF sz ys).1,p])/\AV ok w' p (SeS.GF sz ys).2/\Below w.heap.size w w':=by
 obtain ⟨m,rfl⟩:∃m:Nat,sz=(m:Int):=⟨sz.toNat,by omega⟩
 obtain ⟨a,c,rfl,hc⟩:=Ad.form h;have i:=Af w (.cells #[.int .i64 0,.slice none 0 0] 32);have g:=Whole.made w 32 #[.int .i64 0,.slice none 0 0];by_cases j:m=0\/ys.length<=m
 · rw [SeS.Aga j];have f:=hZ9 (fun W (hb:Below w.heap.size w W)=>AV.call h hb);clear h;generalize q:ys.length=n at*;have b:=Af w (.cells #[.int .i64 0,.slice a n c] 32);have d:=Whole.made w 32 #[.int .i64 0,.slice a n c];have k:=d.cell 0;have y1:=d.cell 1;simp only [aI,aH,aK] at k y1;by_cases l:m=0
   · have o:decide (0<m)=false:=aC (by omega);clear j l;go_enter func28,ntmps28;go_wp2_with fail
     (try simp only [Exit.inBlock,Exit.then])
     refine bodyPost_ret (v:=.agg #[.int .i64 0,.slice a n c]) ?_ rfl ⟨_,rfl,f.out _ b,b⟩;clear f b i g;rw [BM rfl];go_simp
   · have o:decide (0<m)=true:=aL (by omega);have d1:decide (m<n)=false:=aC (by omega);clear j l;go_enter func28,ntmps28;go_wp2_with fail
     (try simp only [Exit.inBlock,Exit.then])
     refine bodyPost_ret (v:=.agg #[.int .i64 0,.slice a n c]) ?_ rfl ⟨_,rfl,f.out _ b,b⟩;clear f b i g;rw [BM rfl];go_simp
 · rw [SeS.Afn (fun e=>j (.inl e)) (by omega)];have f:=hZ9 (fun W (hb:Below w.heap.size w W)=>(Ad.take (AV.call h hb) (m:=m) (by omega)));clear h;generalize q:ys.length=n at*;have o:decide (0<m)=true:=aL (by omega);have d1:decide (m<n)=true:=aL (by omega);have i0:(0:Int)<=(m:Int):=by omega
   have r:(m:Int)<=(c:Int):=by omega
   have b:=Af w (.cells #[.int .i64 4,.slice a m c] 32);have d:=Whole.made w 32 #[.int .i64 4,.slice a m c];have k:=d.cell 0;have y1:=d.cell 1;simp only [aI,aH,aK] at k y1;clear j;go_enter func28,ntmps28;go_wp2_with fail
   (try simp only [Exit.inBlock,Exit.then])
   refine bodyPost_ret (v:=.agg #[.int .i64 4,.slice a m c]) ?_ rfl ⟨_,rfl,f.out _ b,b⟩;clear f b i g;rw [BM rfl];go_simp
theorem YC (w0:World) (u:Value) (l:List EnS.En) (n:Nat) (q:SeS.Rq) (rv:Value) (w:World) (h:Cm w0 u l) (hb0:Below w0.heap.size w0 w) (hf:Eb l) (hl:l.length<=100) (E2:∀e ∈ l,MB e.attrs) (ho:SeS.Bt l) (h1:SeS.BD l) (N5:∀e ∈ l,e.name≠[]) (hE:Env w) (hq:EC n w rv q) (K1:FiS.wdF 20000 q.filter) (N4:q.attrs.length<=1048576/\∀s ∈ q.attrs,s.length<=1048576) (O6:q.base.length<=1000000):
  Calls prog 9 #[u,rv] w (fun e w'=>∃c v ys,e=.returned (.agg #[.int .i64 c,v])/\SeS.Ew l q c ys/\AV (okT ETs w0.heap.size w') w' v ys/\Below w.heap.size w w'):=by
 have I3:=hZ9 (fun v W h=>YF n q v W h K1);unfold BB at I3;have E5:=hZ9 (fun b W hE h=>VP u l q.base b W hE h hf O6);unfold BZ at E5;have B5:=hZ9 (fun W (hb:Below w.heap.size w W)=>h.call (hb0.trans (hb.mono hb0.size)));have B4:=hZ9 (fun W (hb:Below w.heap.size w W)=>hE.below hb);have B8:=hZ9 (fun W (hb:Below w.heap.size w W)=>hq.call hb);have H8:Hid (SeS.AW q=true->0<=q.deref/\q.deref<=3/\0<=q.size):=hZ9 (fun G7=>by
  unfold SeS.AW at G7;simp only [bA,az] at G7;omega)
 have G3:Hid (SeS.dr2 q=(decide (q.deref=2)||decide (q.deref=3))):=hZ9 rfl;have I1:Hid (SeS.AW q=false->SeS.Ew l q 2 []):=hZ9 (fun h=>.inl ⟨h,rfl,rfl⟩);have J:Hid (SeS.AW q=true->(EnS.AK l q.base (SeS.dr2 q)).2.2≠0->SeS.Ew l q (EnS.AK l q.base (SeS.dr2 q)).2.2 []):=hZ9 (fun h k=>.inr (.inl ⟨h,k,rfl,rfl⟩));have E:Hid (SeS.AW q=true->(EnS.AK l q.base (SeS.dr2 q)).2.2=0->∀i c ys,SeS.OV l (SeS.dr1 q) [((EnS.AK l q.base (SeS.dr2 q)).1,q.scope)] i->(c,ys)=SeS.GF q.size ((SeS.Bd ((SeS.stS l (SeS.dr1 q) [((EnS.AK l q.base (SeS.dr2 q)).1,q.scope)] i).2.filter (SeS.Cc q.filter))).map (SeS.DC q.attrs q.tonly))->SeS.Ew l q c ys):=hZ9 (fun h k i c ys e1 e2=>.inr (.inr ⟨h,k,i,e1,e2⟩));have A4:Hid ((EnS.AK l q.base (SeS.dr2 q)).2.2=0->(EnS.AK l q.base (SeS.dr2 q)).1.length<=1000000):=hZ9 (fun h=>by
  rcases SeS.find_in h with h2 | h2
  · rw [h2];exact aR _
  · obtain ⟨x,hx,hn⟩:=fV.1 h2;have T6:x.name=(EnS.AK l q.base (SeS.dr2 q)).1:=by simpa using hn
    rw [<-T6];exact (hf.2 x hx).1)
 have o:=hZ9 (fun pn ps fb m N R W hb G7 D4 hW hC K9 hk hR hN=>Age w0 w u l n q rv pn ps fb m N R W h hb0 hb hf E2 ho h1 N5 hE hq K1 G7 D4 hW hC K9 hk hR hN);have H:=hZ9 (fun fb b N R W hC hW hk hq hf E2 ho h1 hE=>AeJ w0.heap.size n q rv fb b N R W hC hW hk hq N4 hf E2 ho h1 hE);have A1:=hZ9 (fun R (hs:∀e ∈ R,e ∈ l) (hn:R.length<=1048576)=>(⟨hf.sub hs hn,fun e he=>E2 e (hs e he),fun e he=>ho e (hs e he),fun a ha b hb S7=>h1 a (hs a ha) b (hs b hb) S7⟩:Eb R/\(∀e ∈ R,MB e.attrs)/\SeS.Bt R/\SeS.BD R));have B6:=hZ9 (fun s W hE h hs=>VP u l s true W hE h hf hs);unfold BZ at B6;have K6:=hZ9 (fun e (he:e ∈ l)=>(hf.2 e he).1);obtain ⟨a5,a6,aa,c5,c6,ca,rfl,_,_⟩:=hq;obtain ⟨ua,uc,rfl,_⟩:=Ad.form h;have G5:Hid (l.length<=100):=hZ9 hl;have B1:=hb0.size;clear h hf hl E2 ho h1 N5 hE K1 N4 O6 hb0;generalize V1:SeS.AW q=FQ at*;obtain ⟨V,P3⟩:∃b,SeS.dr1 q=b:=⟨_,rfl⟩
 obtain ⟨D2,I2⟩:∃b,SeS.dr2 q=b:=⟨_,rfl⟩
 obtain ⟨bs,sc,dr,x,at_,tn,sz⟩:=q;simp only at I3 E5 B8 H8 G3 I1 J E A4 o H P3 I2⊢;generalize M1:SeS.Ew l ⟨bs,sc,dr,x,at_,tn,sz⟩=RUN at*;clear M1;generalize at_.length=QL at*;generalize x.any.length=XL at*;generalize x.parts.length=PL at*;generalize x.kind=kd at*;generalize x.attr=at0 at*;generalize x.value=vl at*;generalize x.first=fs at*;generalize x.last=ls at*;have N8:=Af w (.cells #[.string ⟨bs.toArray⟩,.int .i64 sc,.int .i64 dr,.int .i64 kd,.string ⟨at0.toArray⟩,.string ⟨vl.toArray⟩,.string ⟨fs.toArray⟩,.string ⟨ls.toArray⟩,.slice a5 XL c5,.slice a6 PL c6,.slice aa QL ca,.bool tn,.int .i64 sz] 38);have O1:=Whole.made w 38 #[.string ⟨bs.toArray⟩,.int .i64 sc,.int .i64 dr,.int .i64 kd,.string ⟨at0.toArray⟩,.string ⟨vl.toArray⟩,.string ⟨fs.toArray⟩,.string ⟨ls.toArray⟩,.slice a5 XL c5,.slice a6 PL c6,.slice aa QL ca,.bool tn,.int .i64 sz];have L0:=Af (w.alloc (.cells #[.string ⟨bs.toArray⟩,.int .i64 sc,.int .i64 dr,.int .i64 kd,.string ⟨at0.toArray⟩,.string ⟨vl.toArray⟩,.string ⟨fs.toArray⟩,.string ⟨ls.toArray⟩,.slice a5 XL c5,.slice a6 PL c6,.slice aa QL ca,.bool tn,.int .i64 sz] 38)) (.cells #[.int .i64 0,.slice none 0 0] 32);have O:=Whole.made (w.alloc (.cells #[.string ⟨bs.toArray⟩,.int .i64 sc,.int .i64 dr,.int .i64 kd,.string ⟨at0.toArray⟩,.string ⟨vl.toArray⟩,.string ⟨fs.toArray⟩,.string ⟨ls.toArray⟩,.slice a5 XL c5,.slice a6 PL c6,.slice aa QL ca,.bool tn,.int .i64 sz] 38)) 32 #[.int .i64 0,.slice none 0 0];have s1:(w.alloc (.cells #[.string ⟨bs.toArray⟩,.int .i64 sc,.int .i64 dr,.int .i64 kd,.string ⟨at0.toArray⟩,.string ⟨vl.toArray⟩,.string ⟨fs.toArray⟩,.string ⟨ls.toArray⟩,.slice a5 XL c5,.slice a6 PL c6,.slice aa QL ca,.bool tn,.int .i64 sz] 38)).heap.size=w.heap.size+1:=by show (w.heap.push _).size=_;exact bh _
 rw [s1] at O;have X:=Aa N8 L0;have t:=O1.call L0;have r0:=t.cell 0;have r1:=t.cell 1;have r2:=t.cell 2;have r3:=t.cell 3;have r4:=t.cell 4;have r5:=t.cell 5;have r6:=t.cell 6;have r7:=t.cell 7;have r8:=t.cell 8;have r9:=t.cell 9;have M5:=t.cell 10;have P1:=t.cell 11;have Q2:=t.cell 12;simp only [aI,aH,aK] at r0 r1 r2 r3 r4 r5 r6 r7 r8 r9 M5 P1 Q2;have G6:=I3.out _ _ (B8.out _ X);clear N8 L0 O1 s1 I3;go_enter func9,ntmps9;go_wp2_with fail;refine G6.mono ?_;rintro e w3 ⟨rfl,Z⟩;have A8:=t.call Z;have A:=O.call Z;have C:=X.trans (Z.mono X.size);clear G6 t O X Z r0 r1 r2 r3 r4 r5 r6 r7 r8 r9 M5 P1 Q2;cases FQ with
 | false=>
  have A9:=I1.out rfl;have t0:=A.thaw 0;have t1:=A.thaw 1;have z0:=A.cell 0;have z1:=A.cell 1;simp only [aI,aH,aK] at z0 z1;clear E5 B5 B4 B8 H8 G3 I1 J E A4 o H A1 B6;have hA:=A.put 0 (.int .i64 2);simp only [aF,aN] at hA;have hB:=hA.put 1 (.slice none 0 0);simp only [aF,aQ,aN] at hB;have A7:=(C.setCell (p:=⟨w.heap.size+1,0,none⟩) (by show w.heap.size<=w.heap.size+1;omega) (.int .i64 2)).setCell (p:=⟨w.heap.size+1,1,none⟩) (by show w.heap.size<=w.heap.size+1;omega) (.slice none 0 0);have y0:=hB.cell 0;have y1:=hB.cell 1;simp only [aI,aH,aK] at y0 y1;go_wp2_with fail
  (try simp only [Exit.inBlock,Exit.then])
  refine bodyPost_ret (v:=.agg #[.int .i64 2,.slice none 0 0]) ?_ rfl ⟨_,_,[],rfl,A9,Ad.nil _ _,A7⟩;clear hA hB A7 A C A9 t0 t1 z0 z1;generalize (w3.setCell ⟨w.heap.size+1,0,none⟩ (.int .i64 2)).setCell ⟨w.heap.size+1,1,none⟩ (.slice none 0 0)=wf at*;rw [BM rfl];go_simp
 | true=>
 have r0:=A8.cell 0;have r2:=A8.cell 2;simp only [aI,aH,aK] at r0 r2;have G9:=H8.out rfl;replace J:=hZ9 (J.out rfl);replace E:=hZ9 (E.out rfl);replace o:=hZ9 (fun pn ps fb m N R W hb D4 hW hC K9 hk hR hN=>o.out pn ps fb m N R W hb rfl D4 hW hC K9 hk hR hN);rw [I2] at J E A4;generalize Q1:EnS.AK l bs D2=FF at*;obtain ⟨F1,FM,F3⟩:=FF;simp only at J E A4;have H3:∀b,b=D2->Calls prog 14 #[.slice ua l.length uc,.string ⟨bs.toArray⟩,.bool b] w3 (fun e w'=>e=.returned (.tuple #[.string ⟨F1.toArray⟩,.bool FM,.int .i64 F3])/\Below w3.heap.size w3 w'):=fun b hb=>by
  have hh:=E5.out b w3 (B4.out w3 C) (B5.out w3 C);subst hb;rw [Q1] at hh;simp only at hh
  with_reducible exact hh
 have K3:Hid ((decide (dr=2)||decide (dr=3))=D2):=hZ9 (G3.out.symm.trans I2);clear E5 Q1 G3 I2 I1 H8;go_upto_region 3 with fail;go_cut [5,7] (fun b c wd=>b=.string ⟨F1.toArray⟩/\c=.int .i64 F3/\Below w3.heap.size w3 wd)
 case first=>
  clear B5 B4 B8 J E A4 o H A1 B6;rcases Tc G9.1 G9.2.1 with rfl | rfl | rfl | rfl
  all_goals
   have L6:=H3 _ K3.out;clear H3 K3 G9;go_wp2_with fail;refine L6.mono ?_;rintro e w4 ⟨rfl,D6⟩;go_wp2_with fail;go_meet;exact ⟨rfl,rfl,D6⟩
 case rest=>
 obtain ⟨rfl,rfl,D6⟩:=hcut;obtain ⟨w4,rfl⟩:∃x,x=wc:=⟨_,rfl⟩
 have K8:=A8.call D6;have B0:=A.call D6;have P:=C.trans (D6.mono C.size);clear H3 K3 A8 A C D6 r0 r2;by_cases h3:F3=0
 case neg=>
  have d3:(F3 !=0)=true:=by simpa using h3
  have A9:=J.out h3;have t0:=B0.thaw 0;have t1:=B0.thaw 1;have z0:=B0.cell 0;have z1:=B0.cell 1;simp only [aI,aH,aK] at z0 z1;clear B5 B4 B8 J E A4 o H A1 B6 h3;have hA:=B0.put 0 (.int .i64 F3);simp only [aF,aN] at hA;have hB:=hA.put 1 (.slice none 0 0);simp only [aF,aQ,aN] at hB;have A7:=(P.setCell (p:=⟨w.heap.size+1,0,none⟩) (by show w.heap.size<=w.heap.size+1;omega) (.int .i64 F3)).setCell (p:=⟨w.heap.size+1,1,none⟩) (by show w.heap.size<=w.heap.size+1;omega) (.slice none 0 0);have y0:=hB.cell 0;have y1:=hB.cell 1;simp only [aI,aH,aK] at y0 y1;go_wp2_with fail
  (try simp only [Exit.inBlock,Exit.then])
  refine bodyPost_ret (v:=.agg #[.int .i64 F3,.slice none 0 0]) ?_ rfl ⟨_,_,[],rfl,A9,Ad.nil _ _,A7⟩;clear hA hB A7 B0 P A9 t0 t1 z0 z1;generalize (w4.setCell ⟨w.heap.size+1,0,none⟩ (.int .i64 F3)).setCell ⟨w.heap.size+1,1,none⟩ (.slice none 0 0)=wf at*;rw [BM rfl];go_simp
 have R8:=A4.out h3;replace E:=hZ9 (E.out h3);simp only [P3] at E o;have A0:Hid (∀i,(SeS.stS l V [(F1,sc)] i).1.length<=203):=hZ9 (fun i=>aY (SeS.st_len i) (by have:=G5.out;omega));have I8:Hid (∀i,∀p ∈ (SeS.stS l V [(F1,sc)] i).1,p.1.length<=1000000):=hZ9 (fun i=>Aem R8 K6.out i);have E0:Hid (∀i,∀e ∈ (SeS.stS l V [(F1,sc)] i).2,e ∈ l):=hZ9 (fun i=>SeS.Nl i);have I4:Hid (∀i,(SeS.stS l V [(F1,sc)] i).2.length<=i*100):=hZ9 (fun i=>aY (YB l V [(F1,sc)] i) (eY i G5.out));have I6:Hid (∀i,1<=(SeS.stS l V [(F1,sc)] i).1.length):=hZ9 (fun i=>AcG l V (F1,sc) i);have I5:=hZ9 (fun i (hk:i<(SeS.stS l V [(F1,sc)] i).1.length)=>SeS.Yu (l:=l) (dr:=V) (ps:=[(F1,sc)]) hk);have H2:Hid (∀i,(SeS.stS l V [(F1,sc)] i).1.length<=i->(∀k,k<i->k<(SeS.stS l V [(F1,sc)] k).1.length)->SeS.OV l V [(F1,sc)] i):=hZ9 (fun i (h1:(SeS.stS l V [(F1,sc)] i).1.length<=i) (h2:∀k,k<i->k<(SeS.stS l V [(F1,sc)] k).1.length)=>(show SeS.OV l V [(F1,sc)] i from ⟨h1,h2⟩));have C8:SeS.stS l V [(F1,sc)] 0=([(F1,sc)],[]):=rfl;generalize L9:SeS.stS l V [(F1,sc)]=st at*;clear L9;generalize SeS.Cc x=holds at*;generalize SeS.DC at_ tn=sel at*;subst h3;have H9:=Af w4 (.cells #[.map none] 63);have O4:=Whole.made w4 63 #[.map none];have s5:(w4.alloc (.cells #[.map none] 63)).heap.size=w4.heap.size+1:=by show (w4.heap.push _).size=_;exact bh _
 have K2:=Af (w4.alloc (.cells #[.map none] 63)) (.cells #[.string ⟨F1.toArray⟩,.int .i64 sc] 65);have I:BL 65 _ w.heap.size _ [(F1,sc)]:=BL.made (w:=w4.alloc (.cells #[.map none] 63)) (B:=w.heap.size) (T:=65) (aY P.size H9.size) F1 sc;have Q0:=O4.call K2;have I9:=Aa H9 K2;have O0:=K8.call I9;have I0:=B0.call I9;have Y:=P.trans (I9.mono P.size);have D9:Bz w0.heap.size ((w4.alloc (.cells #[.map none] 63)).alloc (.cells #[.string ⟨F1.toArray⟩,.int .i64 sc] 65)) none 0 []:=.inl ⟨rfl,rfl⟩;rw [s5] at I;have r1:=(K8.call H9).cell 1;simp only [aI,aH,aK] at r1;have V4:=P.size;clear H9 O4 s5 K2 I9 K8 B0 P J A4;go_wp2_with fail;generalize w4.heap.size=fb at*;go_loopw [9,10] (fun pv iv wr=>∃(i N:Nat) (m:Option Nat),iv=.int .i64 i/\BL 65 wr w.heap.size pv (st i).1/\Whole wr fb 63 #[.map m]/\Bz w0.heap.size wr m N ((st i).2.filter holds)/\Hid (∀k,k<i->k<(st k).1.length)/\((0<i->∃b,m=some b)/\∀b,m=some b->w.heap.size<=b)/\N<=i*100/\i<=203/\Whole wr w.heap.size 38 #[.string ⟨bs.toArray⟩,.int .i64 sc,.int .i64 dr,.int .i64 kd,.string ⟨at0.toArray⟩,.string ⟨vl.toArray⟩,.string ⟨fs.toArray⟩,.string ⟨ls.toArray⟩,.slice a5 XL c5,.slice a6 PL c6,.slice aa QL ca,.bool tn,.int .i64 sz]/\Whole wr (w.heap.size+1) 32 #[.int .i64 0,.slice none 0 0]/\Below w.heap.size w wr) (fun _ iv _=>300 - (intOf iv).toNat)
 case atStart=>exact ⟨0,0,none,rfl,by rw [C8];exact I,Q0,by rw [C8];exact D9,hZ9 (fun k hk=>absurd hk (cu _)),⟨fun h=>absurd h (gK _),fun b e=>(by cases e)⟩,aR _,aR _,O0,I0,Y⟩
 case round=>
  obtain ⟨i,N,m,rfl,M,hW,hk,HK,L2,hN,hi,hr,hz,hb⟩:=hrel;clear I Q0 D9 O0 I0 Y r1 C8;have N7:=hZ9 L2.1;have O9:=hZ9 L2.2;clear L2;have hlen:=A0.out i;have L5:=I6.out i;have hsz:=hb.size;by_cases H6:i<(st i).1.length
  case neg=>
   have N3:=hZ9 (fun c ys=>E.out i c ys (H2.out i (by omega) HK.out));obtain ⟨b,rfl⟩:=N7.out (by omega);obtain ⟨p1,p2,p3,p4⟩:=A1.out ((st i).2.filter holds) (fun e he=>E0.out i e (SeS.AP he)) (aY (bL _ _) (aY (I4.out i) (by omega)));have L:=hb.trans ((below_drewN wr 1).mono hb.size);change Below _ w wr.drew at L;have E8:=H.out fb b N ((st i).2.filter holds) wr.drew (aY B1 L.size) (Whole.drew hW) (hk.call (below_drewN wr 1)) (B8.out _ L) p1 p2 p3 p4 (B4.out _ L);have A6:Hid (∀W,Whole W w.heap.size 38 #[.string ⟨bs.toArray⟩,.int .i64 sc,.int .i64 dr,.int .i64 kd,.string ⟨at0.toArray⟩,.string ⟨vl.toArray⟩,.string ⟨fs.toArray⟩,.string ⟨ls.toArray⟩,.slice a5 XL c5,.slice a6 PL c6,.slice aa QL ca,.bool tn,.int .i64 sz]->W.cell? ⟨w.heap.size,0,none⟩=some (.string ⟨bs.toArray⟩)/\W.cell? ⟨w.heap.size,1,none⟩=some (.int .i64 sc)/\W.cell? ⟨w.heap.size,2,none⟩=some (.int .i64 dr)/\W.cell? ⟨w.heap.size,3,none⟩=some (.int .i64 kd)/\W.cell? ⟨w.heap.size,4,none⟩=some (.string ⟨at0.toArray⟩)/\W.cell? ⟨w.heap.size,5,none⟩=some (.string ⟨vl.toArray⟩)/\W.cell? ⟨w.heap.size,6,none⟩=some (.string ⟨fs.toArray⟩)/\W.cell? ⟨w.heap.size,7,none⟩=some (.string ⟨ls.toArray⟩)/\W.cell? ⟨w.heap.size,8,none⟩=some (.slice a5 XL c5)/\W.cell? ⟨w.heap.size,9,none⟩=some (.slice a6 PL c6)/\W.cell? ⟨w.heap.size,10,none⟩=some (.slice aa QL ca)/\W.cell? ⟨w.heap.size,11,none⟩=some (.bool tn)/\W.cell? ⟨w.heap.size,12,none⟩=some (.int .i64 sz)):=hZ9 (fun W G=>⟨G.cell 0,G.cell 1,G.cell 2,G.cell 3,G.cell 4,G.cell 5,G.cell 6,G.cell 7,G.cell 8,G.cell 9,G.cell 10,G.cell 11,G.cell 12⟩);have T3:=A6.out wr.drew (Whole.drew hr);have M2:=G9.2.2;generalize (SeS.Bd ((st i).2.filter holds)).map sel=YS at*;obtain ⟨pa,pc,rfl⟩:=M.form;clear E H2 HK N7 p1 p2 p3 p4 hk hW H o A1 B6 A0 I8 E0 I4 I6 I5 B5 B8 B4 K6 M L5 hlen;generalize (st i).1.length=PN at*;have U0:¬((i:Int)<(PN:Int)):=by omega
   go_wp2_with fail;refine FU 5 (fun W=>W.cell? ⟨w.heap.size,0,none⟩=some (.string ⟨bs.toArray⟩)/\W.cell? ⟨w.heap.size,1,none⟩=some (.int .i64 sc)/\W.cell? ⟨w.heap.size,2,none⟩=some (.int .i64 dr)/\W.cell? ⟨w.heap.size,3,none⟩=some (.int .i64 kd)/\W.cell? ⟨w.heap.size,4,none⟩=some (.string ⟨at0.toArray⟩)/\W.cell? ⟨w.heap.size,5,none⟩=some (.string ⟨vl.toArray⟩)/\W.cell? ⟨w.heap.size,6,none⟩=some (.string ⟨fs.toArray⟩)/\W.cell? ⟨w.heap.size,7,none⟩=some (.string ⟨ls.toArray⟩)/\W.cell? ⟨w.heap.size,8,none⟩=some (.slice a5 XL c5)/\W.cell? ⟨w.heap.size,9,none⟩=some (.slice a6 PL c6)/\W.cell? ⟨w.heap.size,10,none⟩=some (.slice aa QL ca)/\W.cell? ⟨w.heap.size,11,none⟩=some (.bool tn)/\W.cell? ⟨w.heap.size,12,none⟩=some (.int .i64 sz)) (by kernel_rfl) (by kernel_rfl) T3 (fun F=>?_);refine Ag 0 ?_ (by simp only [aO,aS];decide) (by kernel_rfl) (fun _ _ _ h=>h) (by rfl) ?_ F ?_
   rotate_left
   · intro W P0;(try simp only [aB]);(try go_split_ands);go_simp;(try with_reducible rfl)
   (try simp only [aB,Act.put,aF,aN,aQ])
   refine Ag 2 ?_ (by simp only [aO,aS];decide) (by kernel_rfl) (fun _ _ _ h=>h) (by rfl) ?_ F ?_
   rotate_left
   · intro W P0;(try simp only [aD,aB]);(try go_split_ands);go_simp;(try with_reducible rfl)
   (try simp only [aD,aB,Act.put,aF,aN,aQ])
   refine Ag 3 ?_ (by simp only [aO,aS];decide) (by kernel_rfl) (fun _ _ _ h=>h) (by rfl) ?_ F ?_
   rotate_left
   · intro W P0;(try simp only [aD,aB]);(try go_split_ands);go_simp;(try with_reducible rfl)
   (try simp only [aD,aB,Act.put,aF,aN,aQ])
   refine Bq 1 (by simp only [aO,aS];decide) (by kernel_rfl) (fun K hK=>?_)
   (try simp only [aD,aB])
   refine Bo (by rfl) ?_;go_simp
   (go_at_call 29;(with_reducible refine E8.mono ?_);rintro e w2 ⟨v2,rfl,S,X⟩)
   have t:=(Whole.drew hr).call X;have O:=(Whole.drew hz).call X;have P6:=AcH (okT ETs w0.heap.size w2) v2 YS sz w2 S.ensT M2;refine hK.out _ _ ?_ (fun F=>?_)
   · exact A6.out w2 t
   clear hK K
   (try simp only [Act.put,aF,aN,aQ])
   refine Bq 4 (by simp only [aO,aS];decide) (by kernel_rfl) (fun K hK=>?_)
   (try simp only [aD,aB])
   refine Bo (by rfl) ?_;go_simp
   (go_at_call 28;(with_reducible refine P6.mono ?_);rintro e w3 ⟨v3,rfl,A3,Z⟩)
   have A8:=t.call Z;have A:=O.call Z;obtain ⟨lv,lc,rfl,_⟩:=Ad.form A3;refine hK.out _ _ ?_ (fun F=>?_)
   · exact A6.out w3 A8
   clear hK K
   (try simp only [Act.put,aF,aN,aQ])
   refine EL (by kernel_rfl) ?_;simp only [bU,bQ];clear F A6 E8 P6;have C:=(L.trans (X.mono L.size)).trans (Z.mono (L.trans (X.mono L.size)).size);obtain ⟨LC,J6⟩:∃c,(SeS.GF sz YS).1=c:=⟨_,rfl⟩
   obtain ⟨LY,H5⟩:∃y,(SeS.GF sz YS).2=y:=⟨_,rfl⟩
   have A9:=N3.out LC LY (by rw [<-J6,<-H5]);rw [H5] at A3;rw [J6,H5];clear J6 H5;have O5:=AV.keep (ok':=okT ETs w0.heap.size w3) A3 (aA _) (fun _ _ _=>rfl) (fun g _ K7=>(show okT ETs w0.heap.size w3 g from by
    rcases K7 with K7 | ⟨cs,T,fz,hc,hT⟩
    · exact .inl K7
    · exact .inr ⟨cs,T,fz,(Z.block g (ah.1 hc).1).trans hc,hT⟩))
   generalize LY.length=LN at*;have G2:=(O5.box A (by omega) (by decide) 0 (.int .i64 LC)).box (A.put 0 (.int .i64 LC)) (by omega) (by decide) 1 (.slice lv LN lc);have t0:=A.thaw 0;have t1:=A.thaw 1;have z0:=A.cell 0;have z1:=A.cell 1;simp only [aI,aH,aK] at z0 z1;clear N3 O5 A3;have hA:=A.put 0 (.int .i64 LC);simp only [aF,aN] at hA;have hB:=hA.put 1 (.slice lv LN lc);simp only [aF,aQ,aN] at hB;have A7:=(C.setCell (p:=⟨w.heap.size+1,0,none⟩) (by show w.heap.size<=w.heap.size+1;omega) (.int .i64 LC)).setCell (p:=⟨w.heap.size+1,1,none⟩) (by show w.heap.size<=w.heap.size+1;omega) (.slice lv LN lc);have y0:=hB.cell 0;have y1:=hB.cell 1;simp only [aI,aH,aK] at y0 y1;go_wp2_with fail
   (try simp only [Exit.inBlock,Exit.then])
   refine bodyPost_ret (v:=.agg #[.int .i64 LC,.slice lv LN lc]) ?_ rfl ⟨LC,_,LY,rfl,A9,G2,A7⟩;clear hA hB A7 A C A9 t0 t1 z0 z1 G2;generalize (w3.setCell ⟨w.heap.size+1,0,none⟩ (.int .i64 LC)).setCell ⟨w.heap.size+1,1,none⟩ (.slice lv LN lc)=wf at*;rw [BM rfl];go_simp
  have J3:=I5.out i H6;have D4:=I8.out i _ (aZ H6);have S3:=hZ9 (E0.out i);have S4:Hid (∀k,k<i+1->k<(st k).1.length):=hZ9 (fun k hk=>by
   rcases br (cF hk) with h2 | rfl
   · exact HK.out k h2
   · exact H6)
  generalize R3:(st i).1=ps at*;generalize (st i).2=fnd at*;clear HK R3;have J1:=aJ H6;generalize ps[i]=p at*;obtain ⟨pn,d⟩:=p;simp only at D4;obtain ⟨g,cap,rfl,U4,E3,⟨cur,C5⟩,hcell⟩:=M.slice (by omega);obtain ⟨c0,c1⟩:=hcell i _ J1;unfold Ac at c0;simp only at c0 c1;have R5:g<wr.heap.size:=(ah.1 C5).1;have S1:Hid (∀k cs T fz,wr.heap[k]?=some (.cells cs T fz)->m≠some k):=hZ9 (fun k cs T fz hc e=>by
   rcases hk with ⟨e2,_⟩ | ⟨b,f,e2,_,hm,_⟩
   · rw [e2] at e;cases e
   · rw [e2] at e;have e:=aU e;subst e;exact Dx hm hc rfl)
  have H7:Hid (∀b k cs T fz,(∀j,j<wr.heap.size->j=b->m=some j)->wr.heap[k]?=some (.cells cs T fz)->T≠63->¬(k=fb\/k=b)):=hZ9 (fun b k cs T fz hb hc hT hs=>by
   rcases hs with rfl | rfl
   · have h1:=hW;unfold Whole at h1;rw [h1] at hc;cases hc;exact hT rfl
   · exact S1.out _ _ _ _ hc (hb _ (ah.1 hc).1 rfl))
  have L:=hb.trans ((below_drewN wr 1).mono hb.size);change Below _ w wr.drew at L;have J5:=o.out pn d fb m N (fnd.filter holds) wr.drew L D4 (Whole.drew hW) (by omega) O9.out (hk.call (below_drewN wr 1)) (fun e he=>S3.out e (SeS.AP he)) (by omega);have J4:Hid (∀b W,(∀j,j<wr.heap.size->j=b->m=some j)->But (fun j=>j=fb\/j=b) wr.drew W->BL 65 W w.heap.size (.slice (some ⟨g,0,none⟩) ps.length cap) ps/\Whole W w.heap.size 38 #[.string ⟨bs.toArray⟩,.int .i64 sc,.int .i64 dr,.int .i64 kd,.string ⟨at0.toArray⟩,.string ⟨vl.toArray⟩,.string ⟨fs.toArray⟩,.string ⟨ls.toArray⟩,.slice a5 XL c5,.slice a6 PL c6,.slice aa QL ca,.bool tn,.int .i64 sz]/\Whole W (w.heap.size+1) 32 #[.int .i64 0,.slice none 0 0]/\Below w.heap.size w W/\(W.cell? ⟨g,i*2,none⟩=some (.string ⟨pn.toArray⟩)/\W.cell? ⟨g,i*2+1,none⟩=some (.int .i64 d))):=hZ9 (fun b W E1 U=>by
   have S8:BL 65 wr.drew w.heap.size (.slice (some ⟨g,0,none⟩) ps.length cap) ps:=M.call (below_drewN wr 1);refine ⟨S8.but U (fun k H1=>?_),U.whole (Whole.drew hr) (H7.out b _ _ _ _ E1 hr (by decide)),U.whole (Whole.drew hz) (H7.out b _ _ _ _ E1 hz (by decide)),L.trans (U.below (show w.heap.size<=wr.heap.size from hb.size) (fun j e=>?_)),?_⟩
   · obtain ⟨_,_,M0,S2⟩:=M.lt H1;exact H7.out b _ _ _ _ E1 S2 (by decide)
   · rcases e with rfl | rfl
     · omega
     · by_cases H0:j<wr.heap.size
       · exact O9.out j (E1 j H0 rfl)
       · omega
   · have P7:=U.block g R5 (H7.out b _ _ _ _ E1 C5 (by decide));exact ⟨(World.cell?_of_block (a:=⟨g,i*2,none⟩) P7).trans c0,(World.cell?_of_block (a:=⟨g,i*2+1,none⟩) P7).trans c1⟩)
  have A6:Hid (∀W,Whole W w.heap.size 38 #[.string ⟨bs.toArray⟩,.int .i64 sc,.int .i64 dr,.int .i64 kd,.string ⟨at0.toArray⟩,.string ⟨vl.toArray⟩,.string ⟨fs.toArray⟩,.string ⟨ls.toArray⟩,.slice a5 XL c5,.slice a6 PL c6,.slice aa QL ca,.bool tn,.int .i64 sz]->(W.cell? ⟨g,i*2,none⟩=some (.string ⟨pn.toArray⟩)/\W.cell? ⟨g,i*2+1,none⟩=some (.int .i64 d))->W.cell? ⟨g,i*2,none⟩=some (.string ⟨pn.toArray⟩)/\W.cell? ⟨g,i*2+1,none⟩=some (.int .i64 d)/\W.cell? ⟨w.heap.size,0,none⟩=some (.string ⟨bs.toArray⟩)/\W.cell? ⟨w.heap.size,1,none⟩=some (.int .i64 sc)/\W.cell? ⟨w.heap.size,2,none⟩=some (.int .i64 dr)/\W.cell? ⟨w.heap.size,3,none⟩=some (.int .i64 kd)/\W.cell? ⟨w.heap.size,4,none⟩=some (.string ⟨at0.toArray⟩)/\W.cell? ⟨w.heap.size,5,none⟩=some (.string ⟨vl.toArray⟩)/\W.cell? ⟨w.heap.size,6,none⟩=some (.string ⟨fs.toArray⟩)/\W.cell? ⟨w.heap.size,7,none⟩=some (.string ⟨ls.toArray⟩)/\W.cell? ⟨w.heap.size,8,none⟩=some (.slice a5 XL c5)/\W.cell? ⟨w.heap.size,9,none⟩=some (.slice a6 PL c6)/\W.cell? ⟨w.heap.size,10,none⟩=some (.slice aa QL ca)/\W.cell? ⟨w.heap.size,11,none⟩=some (.bool tn)/\W.cell? ⟨w.heap.size,12,none⟩=some (.int .i64 sz)):=hZ9 (fun W G hc=>⟨hc.1,hc.2,G.cell 0,G.cell 1,G.cell 2,G.cell 3,G.cell 4,G.cell 5,G.cell 6,G.cell 7,G.cell 8,G.cell 9,G.cell 10,G.cell 11,G.cell 12⟩);have G1:=A6.out wr.drew (Whole.drew hr) ⟨c0,c1⟩;generalize G8:(SeS.Bf l pn d).filter (SeS.Gv V (pn,d))=GL at*;have M9:Hid (SeS.JG l V ps (pn,d)=GL.foldl (SeS.Dv l d) ps):=hZ9 (by rw [<-G8];rfl);have R1:Hid (∀e ∈ GL,e ∈ l):=hZ9 (fun e he=>by
   rw [<-G8] at he;have he:=SeS.AP he;unfold SeS.Bf at he;split at he
   · exact SeS.AP he
   · cases he)
  have N1:Hid (fnd.filter holds++(SeS.FK l V (pn,d)).filter holds=(st (i+1)).2.filter holds):=hZ9 (by rw [J3,cM]);have P5:Hid ((st (i+1)).1=GL.foldl (SeS.Dv l d) ps):=hZ9 (by rw [J3,<-M9.out]);have P9:=hZ9 (A0.out (i+1));have T8:Hid (GL.length<=100):=hZ9 (by
   rw [<-G8];refine aY (bL _ _) (aY ?_ G5.out);unfold SeS.Bf;split
   · exact bL _ _
   · exact aR _)
  rw [N1.out] at J5;clear G8 J3 N1 M9 hcell C5 c0 c1 M hr hz hk;have V0:(0:Int)<=(i:Int):=by omega
  generalize O3:ps.length=PN at*;have P8:=hZ9 O3;clear O3;have V5:(i:Int)<(PN:Int):=by omega
  go_wp2_with fail;have Q5:=trivial
  go_region_held3 (fun W=>W.cell? ⟨g,i*2,none⟩=some (.string ⟨pn.toArray⟩)/\W.cell? ⟨g,i*2+1,none⟩=some (.int .i64 d)/\W.cell? ⟨w.heap.size,0,none⟩=some (.string ⟨bs.toArray⟩)/\W.cell? ⟨w.heap.size,1,none⟩=some (.int .i64 sc)/\W.cell? ⟨w.heap.size,2,none⟩=some (.int .i64 dr)/\W.cell? ⟨w.heap.size,3,none⟩=some (.int .i64 kd)/\W.cell? ⟨w.heap.size,4,none⟩=some (.string ⟨at0.toArray⟩)/\W.cell? ⟨w.heap.size,5,none⟩=some (.string ⟨vl.toArray⟩)/\W.cell? ⟨w.heap.size,6,none⟩=some (.string ⟨fs.toArray⟩)/\W.cell? ⟨w.heap.size,7,none⟩=some (.string ⟨ls.toArray⟩)/\W.cell? ⟨w.heap.size,8,none⟩=some (.slice a5 XL c5)/\W.cell? ⟨w.heap.size,9,none⟩=some (.slice a6 PL c6)/\W.cell? ⟨w.heap.size,10,none⟩=some (.slice aa QL ca)/\W.cell? ⟨w.heap.size,11,none⟩=some (.bool tn)/\W.cell? ⟨w.heap.size,12,none⟩=some (.int .i64 sz))
   (first | exact G1 | exact hce2 | go_keep)
   (first | (go_at_call 25;(with_reducible refine J5.mono ?_);rintro e w2 ⟨v2,b,N2,rfl,S,J2,H1,U5,C6,C4,E9⟩;have haf:=J4.out b w2 C6 C4;have hce2:=A6.out w2 haf.2.1 haf.2.2.2.2;obtain ⟨va,vc,rfl⟩:=S.form))
  have M4:=trivial;obtain ⟨F2,t,O,C7,_⟩:=J4.out b w2 C6 C4;have T7:=hZ9 E9;clear E9;have U1:=C7.size;have R6:Hid (N2<=(i+1)*100):=hZ9 (by have:=G5.out;omega);have J9:Hid (∀k (hk:k<GL.length),∃ga ax ac,va=some ⟨ga,0,none⟩/\ga<w2.heap.size/\¬(∃cs fz,w2.heap[ga]?=some (.cells cs 65 fz))/\w2.cell? ⟨ga,k*2,none⟩=some (Ac (GL[k]'hk).name)/\w2.cell? ⟨ga,k*2+1,none⟩=some (.slice ax (GL[k]'hk).attrs.length ac)):=hZ9 (fun k hk=>by
   obtain ⟨ga,cap2,us,ea,_,_,⟨M0,B2⟩,_,c0,c1,T2⟩:=S.slice hk;injection ea with e1 _ _;obtain ⟨ax,ac,rfl,_⟩:=Ad.form T2;refine ⟨ga,ax,ac,e1,(ah.1 B2).1,fun ⟨cs,fz,hc⟩=>?_,c0,c1⟩;rw [B2] at hc;cases hc)
  have G4:Hid (∀W,But (fun k=>∃cs fz,w2.heap[k]?=some (.cells cs 65 fz)) w2 W->Whole W w.heap.size 38 #[.string ⟨bs.toArray⟩,.int .i64 sc,.int .i64 dr,.int .i64 kd,.string ⟨at0.toArray⟩,.string ⟨vl.toArray⟩,.string ⟨fs.toArray⟩,.string ⟨ls.toArray⟩,.slice a5 XL c5,.slice a6 PL c6,.slice aa QL ca,.bool tn,.int .i64 sz]/\Whole W (w.heap.size+1) 32 #[.int .i64 0,.slice none 0 0]/\Whole W fb 63 #[.map (some b)]):=hZ9 (fun W hb=>by
   refine ⟨hb.whole t (fun ⟨cs,fz,hc⟩=>?_),hb.whole O (fun ⟨cs,fz,hc⟩=>?_),hb.whole J2 (fun ⟨cs,fz,hc⟩=>?_)⟩
   · have h1:=t;unfold Whole at h1;rw [h1] at hc;cases hc
   · have h1:=O;unfold Whole at h1;rw [h1] at hc;cases hc
   · have h1:=J2;unfold Whole at h1;rw [h1] at hc;cases hc)
  have J7:Hid (∀es:List EnS.En,(es.foldl (SeS.Dv l d) ps)[i]?=some (pn,d)):=hZ9 (fun es=>Aen l d es ps J1);have L3:=hZ9 (fun k (hk:k<GL.length)=>Aar (SeS.Dv l d) ps hk);have L4:Hid (∀k,((GL.take k).foldl (SeS.Dv l d) ps).length<=203):=hZ9 (fun k=>by
   have h1:=P9.out;rw [P5.out] at h1;obtain ⟨r,hr⟩:=SeS.JH l d (GL.drop k) ((GL.take k).foldl (SeS.Dv l d) ps);rw [<-dE,dB] at hr;rw [hr,aT] at h1;omega)
  have I7:Hid ((GL.take GL.length).foldl (SeS.Dv l d) ps=(st (i+1)).1):=hZ9 (by rw [bE,P5.out]);have L1:=hZ9 (fun k (hk:k<GL.length)=>K6.out _ (R1.out _ (aZ hk)));clear J4 A6 G1 hce2 haf S t O J2 C4 C6 J1 J5;generalize N6:(st (i+1)).2.filter holds=R2 at*;have J:=hZ9 N6;clear N6;obtain ⟨GN,H4⟩:∃k,GL.length=k:=⟨_,rfl⟩
  have Q3:=hZ9 H4;rw [H4] at I7;have G0:BL 65 w2 w.heap.size (.slice (some ⟨g,0,none⟩) PN cap) ps:=by rw [<-P8.out];rw [P8.out];exact F2
  have T5:=(G4.out w2 (But.refl _ _)).2.2;have A8:=(G4.out w2 (But.refl _ _)).1;clear F2;go_wp2_with fail;rw [H4];clear H4;go_loopw [9,56] (fun pv jv wr=>∃j:Nat,jv=.int .i64 j/\j<=GN/\BL 65 wr w.heap.size pv ((GL.take j).foldl (SeS.Dv l d) ps)/\Bz w0.heap.size wr (some b) N2 R2/\But (fun k=>∃cs fz,w2.heap[k]?=some (.cells cs 65 fz)) w2 wr/\Below w.heap.size w wr) (fun _ jv _=>GN - (intOf jv).toNat)
  case atStart=>exact ⟨0,rfl,aR _,by rw [List.take_zero];exact G0,H1,But.refl _ _,C7⟩
  case round=>
   obtain ⟨j,rfl,hj,M,hk,U,hb⟩:=hrel;clear G0 H1 C7 T5 A8;have V2:=L4.out j;have O7:=J7.out (GL.take j);by_cases H0:j<GN
   case neg=>
    have Q8:j=GN:=by omega
    subst Q8;rw [I7.out] at M;obtain ⟨S5,S0,G6⟩:=G4.out _ U;rw [<-J.out] at hk;generalize H3:(GL.take j).foldl (SeS.Dv l d) ps=FD at*;obtain ⟨pa,pc,rfl⟩:=M.form;clear J9 G4 J7 L3 L4 I7 L1 o I5 I8 H2 A0 E0 I4 I6 B6 H;have R0:=R6.out;have hlen2:=P9.out;go_wp2_with fail;go_roundw
    case rel=>exact ⟨i+1,N2,some b,by go_num,M,G6,hk,S4,⟨fun _=>⟨b,rfl⟩,fun b' e=>(by cases e;exact T7.out)⟩,R0,by omega,S5,S0,hb⟩
    case measure=>simp [intOf];omega
   have K0:j<GL.length:=by rw [Q3.out];exact H0
   obtain ⟨ga,ax,ac,rfl,Q9,R4,d0,d1⟩:=J9.out j K0;have hblk:=U.block ga Q9 R4;have e0:=(World.cell?_of_block (a:=⟨ga,j*2,none⟩) hblk).trans d0;have e1:=(World.cell?_of_block (a:=⟨ga,j*2+1,none⟩) hblk).trans d1;have M8:=L1.out j K0;have E6:=hZ9 (L3.out j K0);clear d0 d1 hblk J9 L3 L4 J7 I7 L1 o H I5 I8 H2 A0 E0 I4 I6;generalize GL[j]=z at*;generalize (GL.take j).foldl (SeS.Dv l d) ps=Q at*;obtain ⟨name,N9⟩:=z;unfold Ac at e0;simp only at e0 e1 M8;generalize N9.length=AL at*;have E7:Hid (j+1<=GN/\j+1<=100):=hZ9 ⟨H0,by have h1:=T8.out;have h2:=Q3.out;omega⟩;have U3:j<=99:=by have h9:=E7.out.2;omega
   have U8:(0:Int)<=(j:Int):=by omega
   have U9:(j:Int)<(GN:Int):=by omega
   have B3:=Af wr (.cells #[.string ⟨name.toArray⟩,.slice ax AL ac] 52);have M7:=Whole.made wr 52 #[.string ⟨name.toArray⟩,.slice ax AL ac];have E4:=hb.trans (B3.mono hb.size);have K5:=B6.out name _ (B4.out _ E4) (B5.out _ E4) M8;have D5:Hid (SeS.Dv l d Q ⟨name,N9⟩=if (EnS.AK l name true).2.2=0 then SeS.Iw Q ((EnS.AK l name true).1,SeS.Hy d) else Q):=hZ9 rfl;generalize EnS.AK l name true=FR at*;obtain ⟨T1,TM,TC⟩:=FR;simp only at K5 D5;have F9:=U.call B3;have P4:=hk.call B3;have F6:=M.call B3;have x0:=M7.cell 0;simp only [aI,aH] at x0;clear U hk M M7 B5;go_wp2_with fail;refine K5.mono ?_;rintro e w6 ⟨rfl,Y⟩;have I0:=B3.trans (Y.mono B3.size);have F0:=F9.call Y;have D9:=P4.call Y;have I:=F6.call Y;have C1:=E4.trans (Y.mono E4.size);clear K5 x0 E4 B3 F9 P4 F6 Y I0 e0 e1;have U7:i<Q.length:=(aj.1 O7).1;obtain ⟨g3,U2,rfl,Q6,V3,_,A2⟩:=I.slice (by omega);obtain ⟨c0,c1⟩:=A2 i _ O7;unfold Ac at c0;simp only at c0 c1;have Q4:=AdN d w6;generalize SeS.Hy d=BS at*;have O8:=fun W hb=>Ws _ Q T1 BS W ((I.call (w':=W) hb).pls) (by omega);have D7:=Af w6 (.cells #[.string ⟨T1.toArray⟩,.int .i64 BS] 65);have J8:=Whole.made w6 65 #[.string ⟨T1.toArray⟩,.int .i64 BS];have C0:=O8 _ D7;generalize O2:Q.length=QN at*;have Q7:=hZ9 O2;clear O2 A2 O8;have U6:(i:Int)<(QN:Int):=by omega
   have b0:=J8.cell 0;have b1:=J8.cell 1;simp only [aI,aH,aK] at b0 b1;go_wp2_with fail;refine Q4.mono ?_;rintro e w7 ⟨rfl,rfl⟩;clear Q4;go_upto_region 16 with fail;generalize R7:w6.alloc (.cells #[.string ⟨T1.toArray⟩,.int .i64 BS] 65)=W7 at*;have C3:=F0.call D7;have K4:=D9.call D7;have D0:=I.call D7;have B9:=C1.trans (D7.mono C1.size);clear R7 F0 D9 I C1 D7 c0 c1;generalize w6.heap.size=pb at*;obtain ⟨CT,D8⟩:∃c,Q.contains ((T1,BS):SeS.Pl)=c:=⟨_,rfl⟩
   rw [D8] at C0;go_cut [83] (fun v wd=>v=.bool (decide (TC=0)&&!CT)/\Below W7.heap.size W7 wd)
   case first=>
    clear D5 E6 D8 K4 D0 C3;by_cases h0:TC=0
    · have t0:(TC==0)=true:=by simpa using h0
      have t1:decide (TC=0)=true:=aL h0;clear h0;go_wp2_with fail;refine C0.mono ?_;rintro e w8 ⟨rfl,A5⟩;go_wp2_with fail;go_meet;exact ⟨by first | rfl | simp [t1],A5⟩
    · have t0:(TC==0)=false:=by simpa using h0
      have t1:decide (TC=0)=false:=aC h0;clear h0;go_wp2_with fail;go_meet;exact ⟨by first | rfl | simp [t1],Below.refl _ _⟩
   case rest=>
   obtain ⟨rfl,A5⟩:=hcut;obtain ⟨w8,rfl⟩:∃x,x=wc:=⟨_,rfl⟩
   have F5:=C3.call A5;have P2:=K4.call A5;have F7:=D0.call A5;have C9:=B9.trans (A5.mono B9.size);have y0:=Ab b0 A5;have y1:=Ab b1 A5;clear C3 K4 D0 B9 b0 b1 C0 J8;cases B7:(decide (TC=0)&&!CT) with
   | false=>
    have J0:Hid ((GL.take (j+1)).foldl (SeS.Dv l d) ps=Q):=hZ9 (by
     rw [E6.out,D5.out];by_cases h0:TC=0
     · rw [aP h0];rw [aL h0,cf] at B7;have hc:CT=true:=by simpa using B7
       unfold SeS.Iw;rw [D8,hc,aP rfl]
     · rw [aG h0])
    clear E6 D5 D8 B7;go_wp2_with fail;go_roundw
    case rel=>exact ⟨j+1,by go_num,E7.out.1,by rw [J0.out];exact F7,P2,F5,C9⟩
    case measure=>have h9:=E7.out;simp [intOf];omega
   | true=>
    have J0:Hid ((GL.take (j+1)).foldl (SeS.Dv l d) ps=Q++[(T1,BS)]):=hZ9 (by
     rw [E6.out,D5.out];rw [bA,az] at B7;rw [aP B7.1];have hc:CT=false:=by simpa using B7.2
     unfold SeS.Iw;rw [D8,hc,aG (by simp)])
    clear E6 D5 D8 B7;have E3:=Af w8 (.cells #[.string ⟨T1.toArray⟩,.int .i64 BS] 65);have M6:=Whole.made w8 65 #[.string ⟨T1.toArray⟩,.int .i64 BS];have D3:=F7.call E3;have T0:=P2.call E3;have F8:=F5.call E3;have F4:=C9.trans (E3.mono C9.size);have q0:=M6.cell 0;have q1:=M6.cell 1;simp only [aI,aH,aK] at q0 q1;have M3:=F4.size;obtain ⟨i0,S6,S9,T4,O⟩:=info_parts AcF;go_wp2_with (at_builtin;refine AeK 65 66 underlying66 S6 S9 T4 O (by rfl) (by rfl) _ _ (by rfl) w.heap.size _ Q (by rfl) D3 w8.heap.size (by rfl) (T1,BS) q0 q1 (by rw [Q7.out];omega) M3 ?_)
    intro v9 w9 L8 T9 N0;have R9:=T0.grownT (fun k e=>by
     obtain ⟨h1,_,C2,h3⟩:=D3.lt e.symm;exact ⟨aY B1 h1,C2,_,_,h3,by decide⟩) N0
    have L7:=F8.grown N0 (fun k hk e=>by
     obtain ⟨_,_,C2,h3⟩:=D3.lt e;refine fP fun hn=>hn ⟨C2,(0,0),?_⟩;rw [<-F8.block k hk hn];exact h3)
    go_wp2_with fail;go_roundw
    case rel=>exact ⟨j+1,by go_num,E7.out.1,by rw [J0.out];exact L8,R9,L7,F4.trans T9⟩
    case measure=>have h9:=E7.out;simp [intOf];omega
end Go.Proofs.YtgngjfjaelgaeaaGreatDoor
