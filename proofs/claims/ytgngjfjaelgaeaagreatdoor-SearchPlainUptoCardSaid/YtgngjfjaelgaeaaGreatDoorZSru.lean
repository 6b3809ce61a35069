/- The walks of a search's limit and of searching. Conditions: as stated. -/
import Derived.Test.YtgngjfjaelgaeaaGreatDoorZTak
import Derived.Test.YtgngjfjaelgaeaaGreatDoorZSea
set_option maxRecDepth 100000
set_option maxHeartbeats 16000000
namespace Go.Proofs.YtgngjfjaelgaeaaGreatDoor
open Go.Proofs.Tryz
variable {xs:List EnS.En} {C:Nat} {v:Value} {w w':World}
open Go.RowKit
attribute [local go_sem ↓] Go.wp_at_zero Go.wp_at_succ
theorem BN.but{T:TypeId}{B:Nat}{xs:List SeS.Pl}(h:BN T w B v xs){S:Nat->Prop}(hb:But S w w')(hS:∀k,v.ownBlock=some k->¬S k):BN T w' B v xs:=by
 refine⟨h.1,?_⟩;rcases h.2 with h1|⟨g,cap,cur,rfl,c,a,b⟩
 ·exact .inl h1
 ·exact .inr ⟨g,cap,cur,rfl,c,(hb.block g (ah.1 a).1 (hS g rfl)).trans a,b⟩
theorem Bt.grownT{m:Option Nat}{N:Nat}{R:List EnS.En}(h:Bt C w m N R){row:Option Nat}(a:∀k,some k=row->C<=k/\∃cs T fz,w.heap[k]?=some (.cells cs T fz)/\T∉[9,56])(g:w.grownBy w' row):Bt C w' m N R:=by
 rcases h with h|⟨b,f,rfl,hC,j,h1,h2⟩
 ·exact .inl h
 ·refine .inr ⟨b,f,rfl,hC,j.kept g (λe=>?_),h1,λe l=>?_⟩
  ·obtain⟨_,cs,T,fz,hc,_⟩:=a b e;exact DI j hc rfl
  ·obtain⟨u,hu,p⟩:=h2 e l;refine⟨u,hu,Kv (S:=λk=>some k=row) p g.size (λk hk q=>g.block k hk q) (λk hk c hS=>?_)⟩;obtain⟨s,cs,T,fz,hc,n⟩:=a k hS;rcases c with c|⟨o,t,r,d,i⟩
   ·omega
   ·rw[hc] at d;cases d;exact n i
theorem Adt(l:List EnS.En)(dr:Bool)(p:SeS.Pl):(SeS.Gg l dr p).length<=l.length:=by
 unfold SeS.Gg SeS.AO;refine aX (bJ _ _) ?_;split
 ·exact bJ _ _
 ·exact aR _
theorem Zr(l:List EnS.En)(dr:Bool)(ps:List SeS.Pl):∀k,(SeS.stS l dr ps k).2.length<=k*l.length
 |0=>aR _
 |k+1=>by
  have a:=Zr l dr ps k;rw[SeS.stS];split
  ·rename_i p _;have:=Adt l dr p;rw[aT,dJ];omega
  ·rw[dJ];omega
theorem Adu:(prog.info? 65).map (λi=>(i.zero,i.size,i.bytes))=some (some (.agg #[.string ⟨#[]⟩,.int .i64 0]),2,24):=by kernel_rfl
theorem AaT{α β:Type}(f:β->α->β)(b:β){l:List α}{k:Nat}(hk:k<l.length):(l.take (k+1)).foldl f b=f ((l.take k).foldl f b) (l[k]'hk):=by rw[aW hk,dG];rfl
theorem Eo.sub{l R:List EnS.En}(h:Eo l)(b:∀e∈R,e∈l)(a:R.length<=1048576):Eo R:=⟨a,λe c=>h.2 e (b e c)⟩
theorem CE.callT{Ts:List TypeId}(h:CE (okT Ts C w) w v xs)(hb:Below w.heap.size w w'):CE (okT Ts C w') w' v xs:=h.keep hb.size (λg b _=>hb.block g b) (λg b a=>a.same (hb.block g b))
theorem CE.box{Ts:List TypeId}(h:CE (okT Ts C w) w v xs){b:Nat}{T:TypeId}{cs:Array Value}(d:Whole w b T cs)(hb:C<=b)(f:T∉Ts)(i:Nat)(y:Value):CE (okT Ts C (w.setCell ⟨b,i,none⟩ y)) (w.setCell ⟨b,i,none⟩ y) v xs:=by
 have hk:∀k,okT Ts C w k->k≠b:=λk a e=>by
  subst e;rcases a with a|⟨g,T2,fz,hc,c⟩
  ·omega
  ·unfold Whole at d;rw[d] at hc;cases hc;exact f c
 exact h.keep (cu (World.size_setCell ..).symm) (λk _ a=>Below.heap_setCell w ⟨b,i,none⟩ y k (hk k a)) (λk _ a=>a.same (Below.heap_setCell w ⟨b,i,none⟩ y k (hk k a)))
abbrev ETs:List TypeId:=[9,56,52]
theorem Ao.ensT{B:Nat}(h:Ao enK 52 [9,56] C w B v xs):CE (okT ETs C w) w v xs:=
 h.read (okT ETs C w) (λ_ _ a=>a.mono (aA _) (by simp)) (λg cs e _=>.inr ⟨cs,_,_,e,by simp⟩)
theorem Adv(l:List EnS.En)(dr:Bool)(p:SeS.Pl):∀k,1<=(SeS.stS l dr [p] k).1.length
 |0=>aA _
 |k+1=>by
  have a:=Adv l dr p k;rw[SeS.stS];split
  ·rename_i q _;obtain⟨r,b⟩:=SeS.Kr l q.2 ((SeS.AO l q.1 q.2).filter (SeS.GG dr q)) (SeS.stS l dr [p] k).1;show 1<=(SeS.Kq l dr (SeS.stS l dr [p] k).1 q).length
   unfold SeS.Kq;rw[b,aT];omega
  ·exact a
theorem AeQ{l:List EnS.En}{dr:Bool}{p:SeS.Pl}(hp:p.1.length<=1000000)(c:∀e∈l,e.name.length<=1000000)(k:Nat):∀q∈(SeS.stS l dr [p] k).1,q.1.length<=1000000:=λq b=>by
 have h:=(SeS.UN (l:=l) (dr:=dr) (p:=p) k).2 q b;unfold SeS.Ks at h;rcases ay.1 h with rfl|h
 ·exact hp
 ·have h2:∃n,n∈[] :: l.map EnS.En.name/\q.1=n:=by
   rcases bB.1 h with h|h
   ·obtain⟨n,a,rfl⟩:=bG.1 h;exact⟨n,a,rfl⟩
   ·obtain⟨n,a,rfl⟩:=bG.1 h;exact⟨n,a,rfl⟩
  obtain⟨n,a,e⟩:=h2;rw[e];rcases ay.1 a with rfl|a
  ·exact aR _
  ·obtain⟨x,hx,rfl⟩:=bG.1 a;exact c x hx
theorem AeR(l:List EnS.En)(sc:Int)(es:List EnS.En)(ps:List SeS.Pl){i:Nat}{p:SeS.Pl}(h:ps[i]?=some p):(es.foldl (SeS.DC l sc) ps)[i]?=some p:=by obtain⟨r,a⟩:=SeS.Kr l sc es ps;rw[a,bN (ak.1 h).1];exact h
theorem Adw(ok:Nat->Prop)(v:Value)(ys:List EnS.En)(sz:Int)(w:World)(h:CE ok w v ys)(h0:0<=sz):Calls prog 28 #[v,sz] w λe w'=>∃p,e=.returned (.agg #[.int .i64 (SeS.Ht sz ys).1,p])/\CE ok w' p (SeS.Ht sz ys).2/\Below w.heap.size w w':=by
 obtain⟨m,rfl⟩:∃m:Nat,sz=(m:Int):=⟨sz.toNat,by omega⟩
 obtain⟨a,c,rfl,hc⟩:=Ad.form h;have f:=Af w (.cells #[.int .i64 0,.slice none 0 0] 32);have i:=Whole.made w 32 #[.int .i64 0,.slice none 0 0];by_cases j:m=0\/ys.length<=m
 ·rw[SeS.AgG j];have g:=hZ9 (λW (hb:Below w.heap.size w W)=>CE.call h hb);clear h;generalize r:ys.length=n at*;have b:=Af w (.cells #[.int .i64 0,.slice a n c] 32);have d:=Whole.made w 32 #[.int .i64 0,.slice a n c];have k:=d.cell 0;have l:=d.cell 1;simp only[aO,aH,aP] at k l;by_cases o:m=0
  ·have q:decide (0<m)=false:=aB (by omega);clear j o;go_enter func28,ntmps28;go_wp2_with fail
   (try simp only[Exit.inBlock,Exit.then])
   refine bodyPost_ret (v:=.agg #[.int .i64 0,.slice a n c]) ?_ rfl ⟨_,rfl,g.out _ b,b⟩;clear g b f i;rw[BO rfl];go_simp
  ·have q:decide (0<m)=true:=aI (by omega);have d1:decide (m<n)=false:=aB (by omega);clear j o;go_enter func28,ntmps28;go_wp2_with fail
   (try simp only[Exit.inBlock,Exit.then])
   refine bodyPost_ret (v:=.agg #[.int .i64 0,.slice a n c]) ?_ rfl ⟨_,rfl,g.out _ b,b⟩;clear g b f i;rw[BO rfl];go_simp
 ·rw[SeS.AfR (λe=>j (.inl e)) (by omega)];have g:=hZ9 (λW (hb:Below w.heap.size w W)=>(Ad.take (CE.call h hb) (m:=m) (by omega)));clear h;generalize r:ys.length=n at*;have q:decide (0<m)=true:=aI (by omega);have d1:decide (m<n)=true:=aI (by omega);have i0:(0:Int)<=(m:Int):=by omega
  have s:(m:Int)<=(c:Int):=by omega
  have b:=Af w (.cells #[.int .i64 4,.slice a m c] 32);have d:=Whole.made w 32 #[.int .i64 4,.slice a m c];have k:=d.cell 0;have l:=d.cell 1;simp only[aO,aH,aP] at k l;clear j;go_enter func28,ntmps28;go_wp2_with fail
  (try simp only[Exit.inBlock,Exit.then])
  refine bodyPost_ret (v:=.agg #[.int .i64 4,.slice a m c]) ?_ rfl ⟨_,rfl,g.out _ b,b⟩;clear g b f i;rw[BO rfl];go_simp
theorem Zt(w0:World)(u:Value)(l:List EnS.En)(n:Nat)(q:SeS.Rq)(rv:Value)(w:World)(h:Ci w0 u l)(hb0:Below w0.heap.size w0 w)(hf:Eo l)(hl:l.length<=100)(E7:∀e∈l,KC e.attrs)(ho:SeS.BU l)(h1:SeS.CL l)(Q3:∀e∈l,e.name≠[])(hE:Env w)(hq:FI n w rv q)(K9:FiS.wdF 20000 q.filter)(N9:q.attrs.length<=1048576/\∀s∈q.attrs,s.length<=1048576)(O6:q.base.length<=1000000):
  Calls prog 9 #[u,rv] w (λe w'=>∃c v ys,e=.returned (.agg #[.int .i64 c,v])/\SeS.Jb l q c ys/\CE (okT ETs w0.heap.size w') w' v ys/\Below w.heap.size w w'):=by
 have H5:=hZ9 (λv W h=>Zv n q v W h K9);unfold AP at H5;have E2:=hZ9 (λb W hE h=>PI u l q.base b W hE h hf O6);unfold BR at E2;have B5:=hZ9 (λW (hb:Below w.heap.size w W)=>h.call (hb0.trans (hb.mono hb0.size)));have B4:=hZ9 (λW (hb:Below w.heap.size w W)=>hE.below hb);have B6:=hZ9 (λW (hb:Below w.heap.size w W)=>hq.call hb);have I0:Hid (SeS.CU q=true->0<=q.deref/\q.deref<=3/\0<=q.size):=hZ9 (λI9=>by
  unfold SeS.CU at I9;simp only[bC,az] at I9;omega)
 have H9:Hid (SeS.dr2 q=(decide (q.deref=2)||decide (q.deref=3))):=hZ9 rfl;have G5:Hid (SeS.CU q=false->SeS.Jb l q 2 []):=hZ9 (λh=>.inl ⟨h,rfl,rfl⟩);have O:Hid (SeS.CU q=true->(EnS.AQ l q.base (SeS.dr2 q)).2.2≠0->SeS.Jb l q (EnS.AQ l q.base (SeS.dr2 q)).2.2 []):=hZ9 (λh k=>.inr (.inl ⟨h,k,rfl,rfl⟩));have G:Hid (SeS.CU q=true->(EnS.AQ l q.base (SeS.dr2 q)).2.2=0->∀i c ys,SeS.PS l (SeS.dr1 q) [((EnS.AQ l q.base (SeS.dr2 q)).1,q.scope)] i->(c,ys)=SeS.Ht q.size ((SeS.BM ((SeS.stS l (SeS.dr1 q) [((EnS.AQ l q.base (SeS.dr2 q)).1,q.scope)] i).2.filter (SeS.Ez q.filter))).map (SeS.DN q.attrs q.tonly))->SeS.Jb l q c ys):=hZ9 (λh k i c ys e1 e2=>.inr (.inr ⟨h,k,i,e1,e2⟩));have A7:Hid ((EnS.AQ l q.base (SeS.dr2 q)).2.2=0->(EnS.AQ l q.base (SeS.dr2 q)).1.length<=1000000):=hZ9 (λh=>by
  rcases SeS.find_in h with h2|h2
  ·rw[h2];exact aR _
  ·obtain⟨x,hx,hn⟩:=dx.1 h2;have S3:x.name=(EnS.AQ l q.base (SeS.dr2 q)).1:=by simpa using hn
   rw[<-S3];exact(hf.2 x hx).1)
 have o:=hZ9 (λpn ps fb m N R W hb I9 D9 hW hC L5 hk hR hN=>AgI w0 w u l n q rv pn ps fb m N R W h hb0 hb hf E7 ho h1 Q3 hE hq K9 I9 D9 hW hC L5 hk hR hN);have J:=hZ9 (λfb b N R W hC hW hk hq hf E7 ho h1 hE=>AfT w0.heap.size n q rv fb b N R W hC hW hk hq N9 hf E7 ho h1 hE);have A1:=hZ9 (λR (hs:∀e∈R,e∈l) (hn:R.length<=1048576)=>(⟨hf.sub hs hn,λe he=>E7 e (hs e he),λe he=>ho e (hs e he),λa ha b hb T4=>h1 a (hs a ha) b (hs b hb) T4⟩:Eo R/\(∀e∈R,KC e.attrs)/\SeS.BU R/\SeS.CL R));have B7:=hZ9 (λs W hE h hs=>PI u l s true W hE h hf hs);unfold BR at B7;have L1:=hZ9 (λe (he:e∈l)=>(hf.2 e he).1);obtain⟨a5,a6,aa,c5,c6,ca,rfl,_,_⟩:=hq;obtain⟨ua,uc,rfl,_⟩:=Ad.form h;have I7:Hid (l.length<=100):=hZ9 hl;have B2:=hb0.size;clear h hf hl E7 ho h1 Q3 hE K9 N9 O6 hb0;generalize V1:SeS.CU q=FQ at*;obtain⟨X,M9⟩:∃b,SeS.dr1 q=b:=⟨_,rfl⟩
 obtain⟨D2,I1⟩:∃b,SeS.dr2 q=b:=⟨_,rfl⟩
 obtain⟨bs,sc,dr,x,at_,tn,sz⟩:=q;simp only at H5 E2 B6 I0 H9 G5 O G A7 o J M9 I1⊢;generalize L9:SeS.Jb l ⟨bs,sc,dr,x,at_,tn,sz⟩=RUN at*;clear L9;generalize at_.length=QL at*;generalize x.any.length=XL at*;generalize x.parts.length=PL at*;generalize x.kind=kd at*;generalize x.attr=at0 at*;generalize x.value=vl at*;generalize x.first=fs at*;generalize x.last=ls at*;have O2:=Af w (.cells #[bs,sc,dr,kd,at0,vl,fs,ls,.slice a5 XL c5,.slice a6 PL c6,.slice aa QL ca,tn,sz] 38);have P1:=Whole.made w 38 #[bs,sc,dr,kd,at0,vl,fs,ls,.slice a5 XL c5,.slice a6 PL c6,.slice aa QL ca,tn,sz];have J4:=Af (w.alloc (.cells #[bs,sc,dr,kd,at0,vl,fs,ls,.slice a5 XL c5,.slice a6 PL c6,.slice aa QL ca,tn,sz] 38)) (.cells #[.int .i64 0,.slice none 0 0] 32);have U:=Whole.made (w.alloc (.cells #[bs,sc,dr,kd,at0,vl,fs,ls,.slice a5 XL c5,.slice a6 PL c6,.slice aa QL ca,tn,sz] 38)) 32 #[.int .i64 0,.slice none 0 0];have s1:(w.alloc (.cells #[bs,sc,dr,kd,at0,vl,fs,ls,.slice a5 XL c5,.slice a6 PL c6,.slice aa QL ca,tn,sz] 38)).heap.size=w.heap.size+1:=by show (w.heap.push _).size=_;exact br _
 rw[s1] at U;have A3:=Aa O2 J4;have t:=P1.call J4;have r0:=t.cell 0;have r1:=t.cell 1;have r2:=t.cell 2;have r3:=t.cell 3;have r4:=t.cell 4;have r5:=t.cell 5;have r6:=t.cell 6;have r7:=t.cell 7;have r8:=t.cell 8;have r9:=t.cell 9;have Q2:=t.cell 10;have N4:=t.cell 11;have P3:=t.cell 12;simp only[aO,aH,aP] at r0 r1 r2 r3 r4 r5 r6 r7 r8 r9 Q2 N4 P3;have G9:=H5.out _ _ (B6.out _ A3);clear O2 J4 P1 s1 H5;go_enter func9,ntmps9;go_wp2_with fail;refine G9.mono ?_;rintro e w3 ⟨rfl,Z⟩;have A5:=t.call Z;have A:=U.call Z;have E:=A3.trans (Z.mono A3.size);clear G9 t U A3 Z r0 r1 r2 r3 r4 r5 r6 r7 r8 r9 Q2 N4 P3;cases FQ with
 |false=>
  have A6:=G5.out rfl;have t0:=A.thaw 0;have t1:=A.thaw 1;have z0:=A.cell 0;have z1:=A.cell 1;simp only[aO,aH,aP] at z0 z1;clear E2 B5 B4 B6 I0 H9 G5 O G A7 o J A1 B7;have hA:=A.put 0 (.int .i64 2);simp only[aF,aL] at hA;have hB:=hA.put 1 (.slice none 0 0);simp only[aF,aQ,aL] at hB;have B0:=(E.setCell (p:=⟨w.heap.size+1,0,none⟩) (by show w.heap.size<=w.heap.size+1;omega) (.int .i64 2)).setCell (p:=⟨w.heap.size+1,1,none⟩) (by show w.heap.size<=w.heap.size+1;omega) (.slice none 0 0);have y0:=hB.cell 0;have y1:=hB.cell 1;simp only[aO,aH,aP] at y0 y1;go_wp2_with fail
  (try simp only[Exit.inBlock,Exit.then])
  refine bodyPost_ret (v:=.agg #[.int .i64 2,.slice none 0 0]) ?_ rfl ⟨_,_,[],rfl,A6,Ad.nil _ _,B0⟩;clear hA hB B0 A E A6 t0 t1 z0 z1;generalize (w3.setCell ⟨w.heap.size+1,0,none⟩ (.int .i64 2)).setCell ⟨w.heap.size+1,1,none⟩ (.slice none 0 0)=wf at*;rw[BO rfl];go_simp
 |true=>
 have r0:=A5.cell 0;have r2:=A5.cell 2;simp only[aO,aH,aP] at r0 r2;have I2:=I0.out rfl;replace O:=hZ9 (O.out rfl);replace G:=hZ9 (G.out rfl);replace o:=hZ9 (λpn ps fb m N R W hb D9 hW hC L5 hk hR hN=>o.out pn ps fb m N R W hb rfl D9 hW hC L5 hk hR hN);rw[I1] at O G A7;generalize P0:EnS.AQ l bs D2=FF at*;obtain⟨F1,FM,F3⟩:=FF;simp only at O G A7;have H2:∀b,b=D2->Calls prog 14 #[.slice ua l.length uc,bs,.bool b] w3 (λe w'=>e=.returned (.tuple #[F1,FM,F3])/\Below w3.heap.size w3 w'):=λb hb=>by
  have hh:=E2.out b w3 (B4.out w3 E) (B5.out w3 E);subst hb;rw[P0] at hh;simp only at hh
  with_reducible exact hh
 have L3:Hid ((decide (dr=2)||decide (dr=3))=D2):=hZ9 (H9.out.symm.trans I1);clear E2 P0 H9 I1 G5 I0;go_upto_region 3 with fail;go_cut [5,7] (λb c wd=>b=.string ⟨F1.toArray⟩/\c=.int .i64 F3/\Below w3.heap.size w3 wd)
 case first=>
  clear B5 B4 B6 O G A7 o J A1 B7;rcases TZ I2.1 I2.2.1 with rfl|rfl|rfl|rfl
  all_goals
   have L6:=H2 _ L3.out;clear H2 L3 I2;go_wp2_with fail;refine L6.mono ?_;rintro e w4 ⟨rfl,D5⟩;go_wp2_with fail;go_meet;exact⟨rfl,rfl,D5⟩
 case rest=>
 obtain⟨rfl,rfl,D5⟩:=hcut;obtain⟨w4,rfl⟩:∃x,x=wc:=⟨_,rfl⟩
 have K3:=A5.call D5;have A9:=A.call D5;have S:=E.trans (D5.mono E.size);clear H2 L3 A5 A E D5 r0 r2;by_cases h3:F3=0
 case neg=>
  have d3:(F3 !=0)=true:=by simpa using h3
  have A6:=O.out h3;have t0:=A9.thaw 0;have t1:=A9.thaw 1;have z0:=A9.cell 0;have z1:=A9.cell 1;simp only[aO,aH,aP] at z0 z1;clear B5 B4 B6 O G A7 o J A1 B7 h3;have hA:=A9.put 0 (.int .i64 F3);simp only[aF,aL] at hA;have hB:=hA.put 1 (.slice none 0 0);simp only[aF,aQ,aL] at hB;have B0:=(S.setCell (p:=⟨w.heap.size+1,0,none⟩) (by show w.heap.size<=w.heap.size+1;omega) (.int .i64 F3)).setCell (p:=⟨w.heap.size+1,1,none⟩) (by show w.heap.size<=w.heap.size+1;omega) (.slice none 0 0);have y0:=hB.cell 0;have y1:=hB.cell 1;simp only[aO,aH,aP] at y0 y1;go_wp2_with fail
  (try simp only[Exit.inBlock,Exit.then])
  refine bodyPost_ret (v:=.agg #[F3,.slice none 0 0]) ?_ rfl ⟨_,_,[],rfl,A6,Ad.nil _ _,B0⟩;clear hA hB B0 A9 S A6 t0 t1 z0 z1;generalize (w4.setCell ⟨w.heap.size+1,0,none⟩ (.int .i64 F3)).setCell ⟨w.heap.size+1,1,none⟩ (.slice none 0 0)=wf at*;rw[BO rfl];go_simp
 have R9:=A7.out h3;replace G:=hZ9 (G.out h3);simp only[M9] at G o;have A0:Hid (∀i,(SeS.stS l X [(F1,sc)] i).1.length<=203):=hZ9 (λi=>aX (SeS.st_len i) (by have:=I7.out;omega));have H3:Hid (∀i,∀p∈(SeS.stS l X [(F1,sc)] i).1,p.1.length<=1000000):=hZ9 (λi=>AeQ R9 L1.out i);have E1:Hid (∀i,∀e∈(SeS.stS l X [(F1,sc)] i).2,e∈l):=hZ9 (λi=>SeS.Re i);have H6:Hid (∀i,(SeS.stS l X [(F1,sc)] i).2.length<=i*100):=hZ9 (λi=>aX (Zr l X [(F1,sc)] i) (fC i I7.out));have I3:Hid (∀i,1<=(SeS.stS l X [(F1,sc)] i).1.length):=hZ9 (λi=>Adv l X (F1,sc) i);have G6:=hZ9 (λi (hk:i<(SeS.stS l X [(F1,sc)] i).1.length)=>SeS.Zj (l:=l) (dr:=X) (ps:=[(F1,sc)]) hk);have I8:Hid (∀i,(SeS.stS l X [(F1,sc)] i).1.length<=i->(∀k,k<i->k<(SeS.stS l X [(F1,sc)] k).1.length)->SeS.PS l X [(F1,sc)] i):=hZ9 (λi (h1:(SeS.stS l X [(F1,sc)] i).1.length<=i) (h2:∀k,k<i->k<(SeS.stS l X [(F1,sc)] k).1.length)=>(show SeS.PS l X [(F1,sc)] i from⟨h1,h2⟩));have D0:SeS.stS l X [(F1,sc)] 0=([(F1,sc)],[]):=rfl;generalize M1:SeS.stS l X [(F1,sc)]=st at*;clear M1;generalize SeS.Ez x=holds at*;generalize SeS.DN at_ tn=sel at*;subst h3;have H7:=Af w4 (.cells #[.map none] 63);have O4:=Whole.made w4 63 #[.map none];have s5:(w4.alloc (.cells #[.map none] 63)).heap.size=w4.heap.size+1:=by show (w4.heap.push _).size=_;exact br _
 have K5:=Af (w4.alloc (.cells #[.map none] 63)) (.cells #[F1,sc] 65);have I:BN 65 _ w.heap.size _ [(F1,sc)]:=BN.made (w:=w4.alloc (.cells #[.map none] 63)) (B:=w.heap.size) (T:=65) (aX S.size H7.size) F1 sc;have N0:=O4.call K5;have I5:=Aa H7 K5;have Q5:=K3.call I5;have G8:=A9.call I5;have Y:=S.trans (I5.mono S.size);have E5:Bt w0.heap.size ((w4.alloc (.cells #[.map none] 63)).alloc (.cells #[F1,sc] 65)) none 0 []:=.inl ⟨rfl,rfl⟩;rw[s5] at I;have r1:=(K3.call H7).cell 1;simp only[aO,aH,aP] at r1;have V6:=S.size;clear H7 O4 s5 K5 I5 K3 A9 S O A7;go_wp2_with fail;generalize w4.heap.size=fb at*;go_loopw [9,10] (λpv iv wr=>∃(i N:Nat) (m:Option Nat),iv=.int .i64 i/\BN 65 wr w.heap.size pv (st i).1/\Whole wr fb 63 #[.map m]/\Bt w0.heap.size wr m N ((st i).2.filter holds)/\Hid (∀k,k<i->k<(st k).1.length)/\((0<i->∃b,m=some b)/\∀b,m=some b->w.heap.size<=b)/\N<=i*100/\i<=203/\Whole wr w.heap.size 38 #[bs,sc,dr,kd,at0,vl,fs,ls,.slice a5 XL c5,.slice a6 PL c6,.slice aa QL ca,tn,sz]/\Whole wr (w.heap.size+1) 32 #[.int .i64 0,.slice none 0 0]/\Below w.heap.size w wr) (λ_ iv _=>300-(intOf iv).toNat)
 case atStart=>exact⟨0,0,none,rfl,by rw[D0];exact I,N0,by rw[D0];exact E5,hZ9 (λk hk=>absurd hk (bj _)),⟨λh=>absurd h (gW _),λb e=>(by cases e)⟩,aR _,aR _,Q5,G8,Y⟩
 case round=>
  obtain⟨i,N,m,rfl,M,hW,hk,HK,J1,hN,hi,hr,hz,hb⟩:=hrel;clear I N0 E5 Q5 G8 Y r1 D0;have P7:=hZ9 J1.1;have O8:=hZ9 J1.2;clear J1;have hlen:=A0.out i;have L7:=I3.out i;have hsz:=hb.size;by_cases G7:i<(st i).1.length
  case neg=>
   have P2:=hZ9 (λc ys=>G.out i c ys (I8.out i (by omega) HK.out));obtain⟨b,rfl⟩:=P7.out (by omega);obtain⟨p1,p2,p3,p4⟩:=A1.out ((st i).2.filter holds) (λe he=>E1.out i e (SeS.Be he)) (aX (bJ _ _) (aX (H6.out i) (by omega)));have L:=hb.trans ((below_drewN wr 1).mono hb.size);change Below _ w wr.drew at L;have F5:=J.out fb b N ((st i).2.filter holds) wr.drew (aX B2 L.size) (Whole.drew hW) (hk.call (below_drewN wr 1)) (B6.out _ L) p1 p2 p3 p4 (B4.out _ L);have B1:Hid (∀W,Whole W w.heap.size 38 #[bs,sc,dr,kd,at0,vl,fs,ls,.slice a5 XL c5,.slice a6 PL c6,.slice aa QL ca,tn,sz]->W.cell? ⟨w.heap.size,0,none⟩=some (.string ⟨bs.toArray⟩)/\W.cell? ⟨w.heap.size,1,none⟩=some (.int .i64 sc)/\W.cell? ⟨w.heap.size,2,none⟩=some (.int .i64 dr)/\W.cell? ⟨w.heap.size,3,none⟩=some (.int .i64 kd)/\W.cell? ⟨w.heap.size,4,none⟩=some (.string ⟨at0.toArray⟩)/\W.cell? ⟨w.heap.size,5,none⟩=some (.string ⟨vl.toArray⟩)/\W.cell? ⟨w.heap.size,6,none⟩=some (.string ⟨fs.toArray⟩)/\W.cell? ⟨w.heap.size,7,none⟩=some (.string ⟨ls.toArray⟩)/\W.cell? ⟨w.heap.size,8,none⟩=some (.slice a5 XL c5)/\W.cell? ⟨w.heap.size,9,none⟩=some (.slice a6 PL c6)/\W.cell? ⟨w.heap.size,10,none⟩=some (.slice aa QL ca)/\W.cell? ⟨w.heap.size,11,none⟩=some (.bool tn)/\W.cell? ⟨w.heap.size,12,none⟩=some (.int .i64 sz)):=hZ9 (λW F=>⟨F.cell 0,F.cell 1,F.cell 2,F.cell 3,F.cell 4,F.cell 5,F.cell 6,F.cell 7,F.cell 8,F.cell 9,F.cell 10,F.cell 11,F.cell 12⟩);have R0:=B1.out wr.drew (Whole.drew hr);have M4:=I2.2.2;generalize (SeS.BM ((st i).2.filter holds)).map sel=YS at*;obtain⟨pa,pc,rfl⟩:=M.form;clear G I8 HK P7 p1 p2 p3 p4 hk hW J o A1 B7 A0 H3 E1 H6 I3 G6 B5 B6 B4 L1 M L7 hlen;generalize (st i).1.length=PN at*;have U5:¬((i:Int)<(PN:Int)):=by omega
   go_wp2_with fail;refine Gi 5 (λW=>W.cell? ⟨w.heap.size,0,none⟩=some (.string ⟨bs.toArray⟩)/\W.cell? ⟨w.heap.size,1,none⟩=some (.int .i64 sc)/\W.cell? ⟨w.heap.size,2,none⟩=some (.int .i64 dr)/\W.cell? ⟨w.heap.size,3,none⟩=some (.int .i64 kd)/\W.cell? ⟨w.heap.size,4,none⟩=some (.string ⟨at0.toArray⟩)/\W.cell? ⟨w.heap.size,5,none⟩=some (.string ⟨vl.toArray⟩)/\W.cell? ⟨w.heap.size,6,none⟩=some (.string ⟨fs.toArray⟩)/\W.cell? ⟨w.heap.size,7,none⟩=some (.string ⟨ls.toArray⟩)/\W.cell? ⟨w.heap.size,8,none⟩=some (.slice a5 XL c5)/\W.cell? ⟨w.heap.size,9,none⟩=some (.slice a6 PL c6)/\W.cell? ⟨w.heap.size,10,none⟩=some (.slice aa QL ca)/\W.cell? ⟨w.heap.size,11,none⟩=some (.bool tn)/\W.cell? ⟨w.heap.size,12,none⟩=some (.int .i64 sz)) (by kernel_rfl) (by kernel_rfl) R0 (λH=>?_);refine Ai 0 ?_ (by simp only[aN,aS];decide) (by kernel_rfl) (λ_ _ _ h=>h) (by rfl) ?_ H ?_
   rotate_left
   ·intro W Q4;(try simp only[aC]);(try go_split_ands);go_simp;(try with_reducible rfl)
   (try simp only[aC,Act.put,aF,aL,aQ])
   refine Ai 2 ?_ (by simp only[aN,aS];decide) (by kernel_rfl) (λ_ _ _ h=>h) (by rfl) ?_ H ?_
   rotate_left
   ·intro W Q4;(try simp only[aD,aC]);(try go_split_ands);go_simp;(try with_reducible rfl)
   (try simp only[aD,aC,Act.put,aF,aL,aQ])
   refine Ai 3 ?_ (by simp only[aN,aS];decide) (by kernel_rfl) (λ_ _ _ h=>h) (by rfl) ?_ H ?_
   rotate_left
   ·intro W Q4;(try simp only[aD,aC]);(try go_split_ands);go_simp;(try with_reducible rfl)
   (try simp only[aD,aC,Act.put,aF,aL,aQ])
   refine BB 1 (by simp only[aN,aS];decide) (by kernel_rfl) (λK hK=>?_)
   (try simp only[aD,aC])
   refine Bz (by rfl) ?_;go_simp
   (go_at_call 29;(with_reducible refine F5.mono ?_);rintro e w2 ⟨v2,rfl,P,A3⟩)
   have t:=(Whole.drew hr).call A3;have U:=(Whole.drew hz).call A3;have O3:=Adw (okT ETs w0.heap.size w2) v2 YS sz w2 P.ensT M4;refine hK.out _ _ ?_ (λH=>?_)
   ·exact B1.out w2 t
   clear hK K
   (try simp only[Act.put,aF,aL,aQ])
   refine BB 4 (by simp only[aN,aS];decide) (by kernel_rfl) (λK hK=>?_)
   (try simp only[aD,aC])
   refine Bz (by rfl) ?_;go_simp
   (go_at_call 28;(with_reducible refine O3.mono ?_);rintro e w3 ⟨v3,rfl,A4,Z⟩)
   have A5:=t.call Z;have A:=U.call Z;obtain⟨lv,lc,rfl,_⟩:=Ad.form A4;refine hK.out _ _ ?_ (λH=>?_)
   ·exact B1.out w3 A5
   clear hK K
   (try simp only[Act.put,aF,aL,aQ])
   refine EX (by kernel_rfl) ?_;simp only[bW,bI];clear H B1 F5 O3;have E:=(L.trans (A3.mono L.size)).trans (Z.mono (L.trans (A3.mono L.size)).size);obtain⟨LC,J8⟩:∃c,(SeS.Ht sz YS).1=c:=⟨_,rfl⟩
   obtain⟨LY,J0⟩:∃y,(SeS.Ht sz YS).2=y:=⟨_,rfl⟩
   have A6:=P2.out LC LY (by rw[<-J8,<-J0]);rw[J0] at A4;rw[J8,J0];clear J8 J0;have N1:=CE.keep (ok':=okT ETs w0.heap.size w3) A4 (aA _) (λ_ _ _=>rfl) (λg _ J2=>(show okT ETs w0.heap.size w3 g from by
    rcases J2 with J2|⟨cs,T,fz,hc,hT⟩
    ·exact .inl J2
    ·exact .inr ⟨cs,T,fz,(Z.block g (ah.1 hc).1).trans hc,hT⟩))
   generalize LY.length=LN at*;have F6:=(N1.box A (by omega) (by decide) 0 (.int .i64 LC)).box (A.put 0 (.int .i64 LC)) (by omega) (by decide) 1 (.slice lv LN lc);have t0:=A.thaw 0;have t1:=A.thaw 1;have z0:=A.cell 0;have z1:=A.cell 1;simp only[aO,aH,aP] at z0 z1;clear P2 N1 A4;have hA:=A.put 0 (.int .i64 LC);simp only[aF,aL] at hA;have hB:=hA.put 1 (.slice lv LN lc);simp only[aF,aQ,aL] at hB;have B0:=(E.setCell (p:=⟨w.heap.size+1,0,none⟩) (by show w.heap.size<=w.heap.size+1;omega) (.int .i64 LC)).setCell (p:=⟨w.heap.size+1,1,none⟩) (by show w.heap.size<=w.heap.size+1;omega) (.slice lv LN lc);have y0:=hB.cell 0;have y1:=hB.cell 1;simp only[aO,aH,aP] at y0 y1;go_wp2_with fail
   (try simp only[Exit.inBlock,Exit.then])
   refine bodyPost_ret (v:=.agg #[LC,.slice lv LN lc]) ?_ rfl ⟨LC,_,LY,rfl,A6,F6,B0⟩;clear hA hB B0 A E A6 t0 t1 z0 z1 F6;generalize (w3.setCell ⟨w.heap.size+1,0,none⟩ (.int .i64 LC)).setCell ⟨w.heap.size+1,1,none⟩ (.slice lv LN lc)=wf at*;rw[BO rfl];go_simp
  have J3:=G6.out i G7;have D9:=H3.out i _ (aZ G7);have R5:=hZ9 (E1.out i);have T3:Hid (∀k,k<i+1->k<(st k).1.length):=hZ9 (λk hk=>by
   rcases bV (bX hk) with h2|rfl
   ·exact HK.out k h2
   ·exact G7)
  generalize Q8:(st i).1=ps at*;generalize (st i).2=fnd at*;clear HK Q8;have K2:=aK G7;generalize ps[i]=p at*;obtain⟨pn,d⟩:=p;simp only at D9;obtain⟨g,cap,rfl,U1,E6,⟨cur,C6⟩,hcell⟩:=M.slice (by omega);obtain⟨c0,c1⟩:=hcell i _ K2;unfold Ac at c0;simp only at c0 c1;have U0:g<wr.heap.size:=(ah.1 C6).1;have R7:Hid (∀k cs T fz,wr.heap[k]?=some (.cells cs T fz)->m≠some k):=hZ9 (λk cs T fz hc e=>by
   rcases hk with⟨e2,_⟩|⟨b,f,e2,_,hm,_⟩
   ·rw[e2] at e;cases e
   ·rw[e2] at e;have e:=aU e;subst e;exact DI hm hc rfl)
  have G4:Hid (∀b k cs T fz,(∀j,j<wr.heap.size->j=b->m=some j)->wr.heap[k]?=some (.cells cs T fz)->T≠63->¬(k=fb\/k=b)):=hZ9 (λb k cs T fz hb hc hT hs=>by
   rcases hs with rfl|rfl
   ·have h1:=hW;unfold Whole at h1;rw[h1] at hc;cases hc;exact hT rfl
   ·exact R7.out _ _ _ _ hc (hb _ (ah.1 hc).1 rfl))
  have L:=hb.trans ((below_drewN wr 1).mono hb.size);change Below _ w wr.drew at L;have K8:=o.out pn d fb m N (fnd.filter holds) wr.drew L D9 (Whole.drew hW) (by omega) O8.out (hk.call (below_drewN wr 1)) (λe he=>R5.out e (SeS.Be he)) (by omega);have K6:Hid (∀b W,(∀j,j<wr.heap.size->j=b->m=some j)->But (λj=>j=fb\/j=b) wr.drew W->BN 65 W w.heap.size (.slice (some ⟨g,0,none⟩) ps.length cap) ps/\Whole W w.heap.size 38 #[bs,sc,dr,kd,at0,vl,fs,ls,.slice a5 XL c5,.slice a6 PL c6,.slice aa QL ca,tn,sz]/\Whole W (w.heap.size+1) 32 #[.int .i64 0,.slice none 0 0]/\Below w.heap.size w W/\(W.cell? ⟨g,i*2,none⟩=some (.string ⟨pn.toArray⟩)/\W.cell? ⟨g,i*2+1,none⟩=some (.int .i64 d))):=hZ9 (λb W E8 V=>by
   have S9:BN 65 wr.drew w.heap.size (.slice (some ⟨g,0,none⟩) ps.length cap) ps:=M.call (below_drewN wr 1);refine⟨S9.but V (λk I6=>?_),V.whole (Whole.drew hr) (G4.out b _ _ _ _ E8 hr (by decide)),V.whole (Whole.drew hz) (G4.out b _ _ _ _ E8 hz (by decide)),L.trans (V.below (show w.heap.size<=wr.heap.size from hb.size) (λj e=>?_)),?_⟩
   ·obtain⟨_,_,M3,T5⟩:=M.lt I6;exact G4.out b _ _ _ _ E8 T5 (by decide)
   ·rcases e with rfl|rfl
    ·omega
    ·by_cases H0:j<wr.heap.size
     ·exact O8.out j (E8 j H0 rfl)
     ·omega
   ·have P5:=V.block g U0 (G4.out b _ _ _ _ E8 C6 (by decide));exact⟨(World.cell?_of_block (a:=⟨g,i*2,none⟩) P5).trans c0,(World.cell?_of_block (a:=⟨g,i*2+1,none⟩) P5).trans c1⟩)
  have B1:Hid (∀W,Whole W w.heap.size 38 #[bs,sc,dr,kd,at0,vl,fs,ls,.slice a5 XL c5,.slice a6 PL c6,.slice aa QL ca,tn,sz]->(W.cell? ⟨g,i*2,none⟩=some (.string ⟨pn.toArray⟩)/\W.cell? ⟨g,i*2+1,none⟩=some (.int .i64 d))->W.cell? ⟨g,i*2,none⟩=some (.string ⟨pn.toArray⟩)/\W.cell? ⟨g,i*2+1,none⟩=some (.int .i64 d)/\W.cell? ⟨w.heap.size,0,none⟩=some (.string ⟨bs.toArray⟩)/\W.cell? ⟨w.heap.size,1,none⟩=some (.int .i64 sc)/\W.cell? ⟨w.heap.size,2,none⟩=some (.int .i64 dr)/\W.cell? ⟨w.heap.size,3,none⟩=some (.int .i64 kd)/\W.cell? ⟨w.heap.size,4,none⟩=some (.string ⟨at0.toArray⟩)/\W.cell? ⟨w.heap.size,5,none⟩=some (.string ⟨vl.toArray⟩)/\W.cell? ⟨w.heap.size,6,none⟩=some (.string ⟨fs.toArray⟩)/\W.cell? ⟨w.heap.size,7,none⟩=some (.string ⟨ls.toArray⟩)/\W.cell? ⟨w.heap.size,8,none⟩=some (.slice a5 XL c5)/\W.cell? ⟨w.heap.size,9,none⟩=some (.slice a6 PL c6)/\W.cell? ⟨w.heap.size,10,none⟩=some (.slice aa QL ca)/\W.cell? ⟨w.heap.size,11,none⟩=some (.bool tn)/\W.cell? ⟨w.heap.size,12,none⟩=some (.int .i64 sz)):=hZ9 (λW F hc=>⟨hc.1,hc.2,F.cell 0,F.cell 1,F.cell 2,F.cell 3,F.cell 4,F.cell 5,F.cell 6,F.cell 7,F.cell 8,F.cell 9,F.cell 10,F.cell 11,F.cell 12⟩);have G1:=B1.out wr.drew (Whole.drew hr) ⟨c0,c1⟩;generalize H8:(SeS.AO l pn d).filter (SeS.GG X (pn,d))=GL at*;have M7:Hid (SeS.Kq l X ps (pn,d)=GL.foldl (SeS.DC l d) ps):=hZ9 (by rw[<-H8];rfl);have T9:Hid (∀e∈GL,e∈l):=hZ9 (λe he=>by
   rw[<-H8] at he;have he:=SeS.Be he;unfold SeS.AO at he;split at he
   ·exact SeS.Be he
   ·cases he)
  have P9:Hid (fnd.filter holds++(SeS.Gg l X (pn,d)).filter holds=(st (i+1)).2.filter holds):=hZ9 (by rw[J3,bi]);have O7:Hid ((st (i+1)).1=GL.foldl (SeS.DC l d) ps):=hZ9 (by rw[J3,<-M7.out]);have N8:=hZ9 (A0.out (i+1));have S0:Hid (GL.length<=100):=hZ9 (by
   rw[<-H8];refine aX (bJ _ _) (aX ?_ I7.out);unfold SeS.AO;split
   ·exact bJ _ _
   ·exact aR _)
  rw[P9.out] at K8;clear H8 J3 P9 M7 hcell C6 c0 c1 M hr hz hk;have U8:(0:Int)<=(i:Int):=by omega
  generalize N5:ps.length=PN at*;have M8:=hZ9 N5;clear N5;have V0:(i:Int)<(PN:Int):=by omega
  go_wp2_with fail;have Q6:=trivial
  go_region_held3 (λW=>W.cell? ⟨g,i*2,none⟩=some (.string ⟨pn.toArray⟩)/\W.cell? ⟨g,i*2+1,none⟩=some (.int .i64 d)/\W.cell? ⟨w.heap.size,0,none⟩=some (.string ⟨bs.toArray⟩)/\W.cell? ⟨w.heap.size,1,none⟩=some (.int .i64 sc)/\W.cell? ⟨w.heap.size,2,none⟩=some (.int .i64 dr)/\W.cell? ⟨w.heap.size,3,none⟩=some (.int .i64 kd)/\W.cell? ⟨w.heap.size,4,none⟩=some (.string ⟨at0.toArray⟩)/\W.cell? ⟨w.heap.size,5,none⟩=some (.string ⟨vl.toArray⟩)/\W.cell? ⟨w.heap.size,6,none⟩=some (.string ⟨fs.toArray⟩)/\W.cell? ⟨w.heap.size,7,none⟩=some (.string ⟨ls.toArray⟩)/\W.cell? ⟨w.heap.size,8,none⟩=some (.slice a5 XL c5)/\W.cell? ⟨w.heap.size,9,none⟩=some (.slice a6 PL c6)/\W.cell? ⟨w.heap.size,10,none⟩=some (.slice aa QL ca)/\W.cell? ⟨w.heap.size,11,none⟩=some (.bool tn)/\W.cell? ⟨w.heap.size,12,none⟩=some (.int .i64 sz))
   (first|exact G1|exact hce2|go_keep)
   (first|(go_at_call 25;(with_reducible refine K8.mono ?_);rintro e w2 ⟨v2,b,N2,rfl,P,L2,I6,V2,C2,D4,F4⟩;have haf:=K6.out b w2 C2 D4;have hce2:=B1.out w2 haf.2.1 haf.2.2.2.2;obtain⟨va,vc,rfl⟩:=P.form))
  have M5:=trivial;obtain⟨F2,t,U,C1,_⟩:=K6.out b w2 C2 D4;have R1:=hZ9 F4;clear F4;have U2:=C1.size;have R6:Hid (N2<=(i+1)*100):=hZ9 (by have:=I7.out;omega);have L0:Hid (∀k (hk:k<GL.length),∃ga ax ac,va=some ⟨ga,0,none⟩/\ga<w2.heap.size/\¬(∃cs fz,w2.heap[ga]?=some (.cells cs 65 fz))/\w2.cell? ⟨ga,k*2,none⟩=some (Ac (GL[k]'hk).name)/\w2.cell? ⟨ga,k*2+1,none⟩=some (.slice ax (GL[k]'hk).attrs.length ac)):=hZ9 (λk hk=>by
   obtain⟨ga,cap2,us,ea,_,_,⟨M3,B3⟩,_,c0,c1,S4⟩:=P.slice hk;injection ea with e1 _ _;obtain⟨ax,ac,rfl,_⟩:=Ad.form S4;refine⟨ga,ax,ac,e1,(ah.1 B3).1,λ⟨cs,fz,hc⟩=>?_,c0,c1⟩;rw[B3] at hc;cases hc)
  have H1:Hid (∀W,But (λk=>∃cs fz,w2.heap[k]?=some (.cells cs 65 fz)) w2 W->Whole W w.heap.size 38 #[bs,sc,dr,kd,at0,vl,fs,ls,.slice a5 XL c5,.slice a6 PL c6,.slice aa QL ca,tn,sz]/\Whole W (w.heap.size+1) 32 #[.int .i64 0,.slice none 0 0]/\Whole W fb 63 #[.map (some b)]):=hZ9 (λW hb=>by
   refine⟨hb.whole t (λ⟨cs,fz,hc⟩=>?_),hb.whole U (λ⟨cs,fz,hc⟩=>?_),hb.whole L2 (λ⟨cs,fz,hc⟩=>?_)⟩
   ·have h1:=t;unfold Whole at h1;rw[h1] at hc;cases hc
   ·have h1:=U;unfold Whole at h1;rw[h1] at hc;cases hc
   ·have h1:=L2;unfold Whole at h1;rw[h1] at hc;cases hc)
  have J9:Hid (∀es:List EnS.En,(es.foldl (SeS.DC l d) ps)[i]?=some (pn,d)):=hZ9 (λes=>AeR l d es ps K2);have K1:=hZ9 (λk (hk:k<GL.length)=>AaT (SeS.DC l d) ps hk);have L4:Hid (∀k,((GL.take k).foldl (SeS.DC l d) ps).length<=203):=hZ9 (λk=>by
   have h1:=N8.out;rw[O7.out] at h1;obtain⟨r,hr⟩:=SeS.Kr l d (GL.drop k) ((GL.take k).foldl (SeS.DC l d) ps);rw[<-dG,cK] at hr;rw[hr,aT] at h1;omega)
  have I4:Hid ((GL.take GL.length).foldl (SeS.DC l d) ps=(st (i+1)).1):=hZ9 (by rw[bA,O7.out]);have J6:=hZ9 (λk (hk:k<GL.length)=>L1.out _ (T9.out _ (aZ hk)));clear K6 B1 G1 hce2 haf P t U L2 D4 C2 K2 K8;generalize P8:(st (i+1)).2.filter holds=R2 at*;have O:=hZ9 P8;clear P8;obtain⟨GN,H4⟩:∃k,GL.length=k:=⟨_,rfl⟩
  have O0:=hZ9 H4;rw[H4] at I4;have F9:BN 65 w2 w.heap.size (.slice (some ⟨g,0,none⟩) PN cap) ps:=by rw[<-M8.out];rw[M8.out];exact F2
  have T8:=(H1.out w2 (But.refl _ _)).2.2;have A5:=(H1.out w2 (But.refl _ _)).1;clear F2;go_wp2_with fail;rw[H4];clear H4;go_loopw [9,56] (λpv jv wr=>∃j:Nat,jv=.int .i64 j/\j<=GN/\BN 65 wr w.heap.size pv ((GL.take j).foldl (SeS.DC l d) ps)/\Bt w0.heap.size wr (some b) N2 R2/\But (λk=>∃cs fz,w2.heap[k]?=some (.cells cs 65 fz)) w2 wr/\Below w.heap.size w wr) (λ_ jv _=>GN-(intOf jv).toNat)
  case atStart=>exact⟨0,rfl,aR _,by rw[List.take_zero];exact F9,I6,But.refl _ _,C1⟩
  case round=>
   obtain⟨j,rfl,hj,M,hk,V,hb⟩:=hrel;clear F9 I6 C1 T8 A5;have V5:=L4.out j;have N3:=J9.out (GL.take j);by_cases H0:j<GN
   case neg=>
    have S2:j=GN:=by omega
    subst S2;rw[I4.out] at M;obtain⟨R8,S6,G9⟩:=H1.out _ V;rw[<-O.out] at hk;generalize H2:(GL.take j).foldl (SeS.DC l d) ps=FD at*;obtain⟨pa,pc,rfl⟩:=M.form;clear L0 H1 J9 K1 L4 I4 J6 o G6 H3 I8 A0 E1 H6 I3 B7 J;have T7:=R6.out;have hlen2:=N8.out;go_wp2_with fail;go_roundw
    case rel=>exact⟨i+1,N2,some b,by go_num,M,G9,hk,T3,⟨λ_=>⟨b,rfl⟩,λb' e=>(by cases e;exact R1.out)⟩,T7,by omega,R8,S6,hb⟩
    case measure=>simp[intOf];omega
   have K4:j<GL.length:=by rw[O0.out];exact H0
   obtain⟨ga,ax,ac,rfl,S8,S7,d0,d1⟩:=L0.out j K4;have hblk:=V.block ga S8 S7;have e0:=(World.cell?_of_block (a:=⟨ga,j*2,none⟩) hblk).trans d0;have e1:=(World.cell?_of_block (a:=⟨ga,j*2+1,none⟩) hblk).trans d1;have N7:=J6.out j K4;have E0:=hZ9 (K1.out j K4);clear d0 d1 hblk L0 K1 L4 J9 I4 J6 o J G6 H3 I8 A0 E1 H6 I3;generalize GL[j]=z at*;generalize (GL.take j).foldl (SeS.DC l d) ps=Q at*;obtain⟨name,O1⟩:=z;unfold Ac at e0;simp only at e0 e1 N7;generalize O1.length=AL at*;have E4:Hid (j+1<=GN/\j+1<=100):=hZ9 ⟨H0,by have h1:=S0.out;have h2:=O0.out;omega⟩;have U4:j<=99:=by have h9:=E4.out.2;omega
   have U6:(0:Int)<=(j:Int):=by omega
   have U9:(j:Int)<(GN:Int):=by omega
   have B8:=Af wr (.cells #[name,.slice ax AL ac] 52);have P4:=Whole.made wr 52 #[name,.slice ax AL ac];have E3:=hb.trans (B8.mono hb.size);have K7:=B7.out name _ (B4.out _ E3) (B5.out _ E3) N7;have D6:Hid (SeS.DC l d Q ⟨name,O1⟩=if(EnS.AQ l name true).2.2=0 then SeS.IE Q ((EnS.AQ l name true).1,SeS.Ie d) else Q):=hZ9 rfl;generalize EnS.AQ l name true=FR at*;obtain⟨T1,TM,TC⟩:=FR;simp only at K7 D6;have G3:=V.call B8;have Q1:=hk.call B8;have G2:=M.call B8;have x0:=P4.cell 0;simp only[aO,aH] at x0;clear V hk M P4 B5;go_wp2_with fail;refine K7.mono ?_;rintro e w6 ⟨rfl,Y⟩;have G8:=B8.trans (Y.mono B8.size);have F7:=G3.call Y;have E5:=Q1.call Y;have I:=G2.call Y;have C7:=E3.trans (Y.mono E3.size);clear K7 x0 E3 B8 G3 Q1 G2 Y G8 e0 e1;have V4:i<Q.length:=(ak.1 N3).1;obtain⟨g3,U3,rfl,Q7,U7,_,A2⟩:=I.slice (by omega);obtain⟨c0,c1⟩:=A2 i _ N3;unfold Ac at c0;simp only at c0 c1;have O5:=Ae7 d w6;generalize SeS.Ie d=BS at*;have O9:=λW hb=>Xc _ Q T1 BS W ((I.call (w':=W) hb).pls) (by omega);have D7:=Af w6 (.cells #[T1,BS] 65);have J5:=Whole.made w6 65 #[T1,BS];have D3:=O9 _ D7;generalize M6:Q.length=QN at*;have R3:=hZ9 M6;clear M6 A2 O9;have V3:(i:Int)<(QN:Int):=by omega
   have b0:=J5.cell 0;have b1:=J5.cell 1;simp only[aO,aH,aP] at b0 b1;go_wp2_with fail;refine O5.mono ?_;rintro e w7 ⟨rfl,rfl⟩;clear O5;go_upto_region 16 with fail;generalize T0:w6.alloc (.cells #[T1,BS] 65)=W7 at*;have C3:=F7.call D7;have J7:=E5.call D7;have C0:=I.call D7;have C4:=C7.trans (D7.mono C7.size);clear T0 F7 E5 I C7 D7 c0 c1;generalize w6.heap.size=pb at*;obtain⟨CT,D8⟩:∃c,Q.contains ((T1,BS):SeS.Pl)=c:=⟨_,rfl⟩
   rw[D8] at D3;go_cut [83] (λv wd=>v=.bool (decide (TC=0)&&!CT)/\Below W7.heap.size W7 wd)
   case first=>
    clear D6 E0 D8 J7 C0 C3;by_cases h0:TC=0
    ·have t0:(TC==0)=true:=by simpa using h0
     have t1:decide (TC=0)=true:=aI h0;clear h0;go_wp2_with fail;refine D3.mono ?_;rintro e w8 ⟨rfl,A8⟩;go_wp2_with fail;go_meet;exact⟨by first|rfl|simp[t1],A8⟩
    ·have t0:(TC==0)=false:=by simpa using h0
     have t1:decide (TC=0)=false:=aB h0;clear h0;go_wp2_with fail;go_meet;exact⟨by first|rfl|simp[t1],Below.refl _ _⟩
   case rest=>
   obtain⟨rfl,A8⟩:=hcut;obtain⟨w8,rfl⟩:∃x,x=wc:=⟨_,rfl⟩
   have F8:=C3.call A8;have N6:=J7.call A8;have G0:=C0.call A8;have C8:=C4.trans (A8.mono C4.size);have y0:=Ab b0 A8;have y1:=Ab b1 A8;clear C3 J7 C0 C4 b0 b1 D3 J5;cases B9:(decide (TC=0)&&!CT) with
   |false=>
    have K0:Hid ((GL.take (j+1)).foldl (SeS.DC l d) ps=Q):=hZ9 (by
     rw[E0.out,D6.out];by_cases h0:TC=0
     ·rw[aJ h0];rw[aI h0,cy] at B9;have hc:CT=true:=by simpa using B9
      unfold SeS.IE;rw[D8,hc,aJ rfl]
     ·rw[aG h0])
    clear E0 D6 D8 B9;go_wp2_with fail;go_roundw
    case rel=>exact⟨j+1,by go_num,E4.out.1,by rw[K0.out];exact G0,N6,F8,C8⟩
    case measure=>have h9:=E4.out;simp[intOf];omega
   |true=>
    have K0:Hid ((GL.take (j+1)).foldl (SeS.DC l d) ps=Q++[(T1,BS)]):=hZ9 (by
     rw[E0.out,D6.out];rw[bC,az] at B9;rw[aJ B9.1];have hc:CT=false:=by simpa using B9.2
     unfold SeS.IE;rw[D8,hc,aG (by simp)])
    clear E0 D6 D8 B9;have E6:=Af w8 (.cells #[T1,BS] 65);have Q0:=Whole.made w8 65 #[T1,BS];have C5:=G0.call E6;have R4:=N6.call E6;have E9:=F8.call E6;have F0:=C8.trans (E6.mono C8.size);have q0:=Q0.cell 0;have q1:=Q0.cell 1;simp only[aO,aH,aP] at q0 q1;have L8:=F0.size;obtain⟨i0,T6,Q9,S1,U⟩:=info_parts Adu;go_wp2_with (at_builtin;refine AfU 65 66 underlying66 T6 Q9 S1 U (by rfl) (by rfl) _ _ (by rfl) w.heap.size _ Q (by rfl) C5 w8.heap.size (by rfl) (T1,BS) q0 q1 (by rw[R3.out];omega) L8 ?_)
    intro v9 w9 M0 T2 P6;have S5:=R4.grownT (λk e=>by
     obtain⟨h1,_,C9,h3⟩:=C5.lt e.symm;exact⟨aX B2 h1,C9,_,_,h3,by decide⟩) P6
    have M2:=E9.grown P6 (λk hk e=>by
     obtain⟨_,_,C9,h3⟩:=C5.lt e;refine fX λhn=>hn ⟨C9,(0,0),?_⟩;rw[<-E9.block k hk hn];exact h3)
    go_wp2_with fail;go_roundw
    case rel=>exact⟨j+1,by go_num,E4.out.1,by rw[K0.out];exact M0,S5,M2,F0.trans T2⟩
    case measure=>have h9:=E4.out;simp[intOf];omega
