/- The walk of the searching law's awake; bounds of what a search answers. Conditions: as stated. -/
import Derived.Lib.SmallJoins
import Derived.Test.YtgngjfjaelgaeaaGreatDoorKSru
import Derived.Test.YtgngjfjaelgaeaaGreatDoorKRow
set_option maxRecDepth 100000
set_option maxHeartbeats 4000000
namespace Go.Proofs.YtgngjfjaelgaeaaGreatDoor
section
open Go.RowKit
open FiS (Fi)
attribute [local go_sem ↓] Go.wp_at_zero Go.wp_at_succ
namespace SeS
open EnS DnS
theorem Aeu {xs l:List En} (h:Srt xs) (hs:∀e ∈ xs,e ∈ l):xs.length<=l.length:=by
 have hn:(xs.map En.name).Nodup:=List.pairwise_map.2 (List.Pairwise.imp (fun {a b} hab e=>by rw [e,KZ] at hab;omega) h)
 have h2:=Na (U:=l.map En.name) hn (fun s A0=>by
  obtain ⟨e,he,rfl⟩:=List.mem_map.1 A0
  exact List.mem_map.2 ⟨e,hs e he,rfl⟩)
 simpa using h2
theorem Adi {l:List En} {q:Rq} {c:Int} {ys:List En} (ho:BD l) (h1:BW l) (h:Gv l q c ys):ys.length<=l.length/\∀y ∈ ys,∃e ∈ l,y=DZ q.attrs q.tonly e:=by
 rcases h with ⟨_,_,rfl⟩ | ⟨_,_,_,rfl⟩ | ⟨_,_,N,_,h4⟩
 · exact ⟨Nat.zero_le _,fun y hy=>by cases hy⟩
 · exact ⟨Nat.zero_le _,fun y hy=>by cases hy⟩
 · have hR:∀e ∈ (stS l (dr1 q) [((AG l q.base (dr2 q)).1,q.scope)] N).2.filter (FN q.filter),e ∈ l:=fun e he=>PY N e (Bc he)
   obtain ⟨g1,g2⟩:=Hw (xs:=(stS l (dr1 q) [((AG l q.base (dr2 q)).1,q.scope)] N).2.filter (FN q.filter)) (fun e he=>ho e (hR e he)) (fun a ha b hb e=>h1 a (hR a ha) b (hR b hb) e)
   have hF:(Gu l q (AG l q.base (dr2 q)).1 N).length<=l.length/\∀y ∈ Gu l q (AG l q.base (dr2 q)).1 N,∃e ∈ l,y=DZ q.attrs q.tonly e:=by
    unfold Gu
    refine ⟨by rw [List.length_map];exact Aeu g1 (fun e he=>hR e ((g2 e).1 he)),fun y hy=>?_⟩
    obtain ⟨e,he,rfl⟩:=List.mem_map.1 hy
    exact ⟨e,hR e ((g2 e).1 he),rfl⟩
   have e2:ys=(Gi q.size (Gu l q (AG l q.base (dr2 q)).1 N)).2:=congrArg Prod.snd h4
   subst e2
   unfold Gi
   split
   · refine ⟨Nat.le_trans (by rw [List.length_take];omega) hF.1,fun y hy=>hF.2 y (List.mem_of_mem_take hy)⟩
   · exact hF
end SeS
def Afa (ys:List EnS.En):Prop:=ys.length<=1048576/\∀e ∈ ys,e.attrs.length<=1048576/\∀x ∈ e.attrs,x.vals.length<=1048576
theorem Aev {l:List EnS.En} {q:SeS.Rq} {c:Int} {ys:List EnS.En} (ho:SeS.BD l) (h1:SeS.BW l) (hf:FH l) (h:SeS.Gv l q c ys):Afa ys:=by
 obtain ⟨g1,g2⟩:=SeS.Adi ho h1 h
 refine ⟨Nat.le_trans g1 hf.1,fun y hy=>?_⟩
 obtain ⟨e,he,rfl⟩:=g2 y hy
 have h2:=(hf.2 e he).2
 unfold SeS.DZ
 refine ⟨by rw [List.length_map];exact Nat.le_trans (List.length_filter_le _ _) h2.1,fun x hx=>?_⟩
 obtain ⟨z,hz,rfl⟩:=List.mem_map.1 hx
 split
 · exact Nat.zero_le _
 · exact (h2.2 z (List.mem_filter.1 hz).1).1
theorem IM {w:World} {p a:Addr} {kd:IntKind} {z:Int} {v:Value} (hp:w.cell? p=some (.int kd z)) (y:Value) (h:w.cell? a=some v) (hv:∀k i,v≠.int k i):(w.setCell p y).cell? a=some v:=
 (World.cell?_setCell_other w p a y (fun e=>by
   subst e
   rw [hp] at h
   exact hv _ _ (Option.some.inj h).symm)).trans h
theorem Ap.int {w:World} {v:Value} {xs:List (List UInt8)} {p:Addr} {kd:IntKind} {z:Int} (h:Ap (fun _=>True) w v xs) (hp:w.cell? p=some (.int kd z)) (y:Value):Ap (fun _=>True) (w.setCell p y) v xs:=
 Ae.imp h (Nat.le_of_eq (World.size_setCell ..).symm) (fun _ _ h=>h) fun g o x _ _ hx=>IM hp y hx (fun k i e=>by unfold Ac at e;cases e)
theorem Ao.int {w:World} {v:Value} {xs:List EnS.At} {p:Addr} {kd:IntKind} {z:Int} (h:BK w v xs) (hp:w.cell? p=some (.int kd z)) (y:Value):BK (w.setCell p y) v xs:=
 Ae.imp h (Nat.le_of_eq (World.size_setCell ..).symm) (fun _ _ h=>h) fun g o x _ _ ⟨h0,u,h1,h2⟩=>⟨IM hp y h0 (fun k i e=>by unfold Ac at e;cases e),u,IM hp y h1 (fun k i e=>by obtain ⟨a,c,rfl,_⟩:=Ae.form h2;cases e),h2.int hp y⟩
theorem Ce.int {w:World} {v:Value} {xs:List EnS.En} {p:Addr} {kd:IntKind} {z:Int} (h:Bq w v xs) (hp:w.cell? p=some (.int kd z)) (y:Value):Bq (w.setCell p y) v xs:=
 Ae.imp h (Nat.le_of_eq (World.size_setCell ..).symm) (fun _ _ h=>h) fun g o x _ _ ⟨h0,u,h1,h2⟩=>⟨IM hp y h0 (fun k i e=>by unfold Ac at e;cases e),u,IM hp y h1 (fun k i e=>by obtain ⟨a,c,rfl,_⟩:=Ae.form h2;cases e),Ao.int h2 hp y⟩
def awL:List EnS.En:=[⟨[100,99,61,120],[⟨[100,99],[[120]]⟩]⟩]
def awF:Fi:=.mk 0 [] [] [] [] [] []
def awQ:SeS.Rq:=⟨[],2,0,awF,[],false,0⟩
theorem IP:FH awL/\(∀e ∈ awL,LJ e.attrs)/\SeS.BD awL/\SeS.BW awL/\∀e ∈ awL,e.name≠[]:=by
 have hf:∀e ∈ awL,e=⟨[100,99,61,120],[⟨[100,99],[[120]]⟩]⟩:=fun e he=>by
  unfold awL at he
  exact List.mem_singleton.1 he
 have ha:GP [⟨[100,99],[[120]]⟩]:=by
  refine ⟨by decide,fun x hx=>?_⟩
  rw [List.mem_singleton] at hx
  subst hx
  refine ⟨by decide,fun v hv=>?_⟩
  rw [List.mem_singleton] at hv
  subst hv
  decide
 refine ⟨⟨by decide,fun e he=>?_⟩,fun e he=>?_,fun e he=>?_,fun a ha b hb _=>?_,fun e he=>?_⟩
 · rw [hf e he]
   exact ⟨by decide,ha⟩
 · rw [hf e he]
   refine ⟨ha,fun x hx=>?_⟩
   have hx:x ∈ [(⟨[100,99],[[120]]⟩:EnS.At)]:=hx
   rw [List.mem_singleton] at hx
   subst hx
   decide
 · rw [hf e he]
   show DnS.Au _=_
   decide+kernel
 · rw [hf a ha,hf b hb]
 · rw [hf e he]
   decide
theorem Zb {c:Int} {ys:List EnS.En} (h:SeS.Gv awL awQ c ys):c=0/\ys.length=1:=by
 have h2:=SeS.ZP IP.2.2.1 IP.2.2.2.1 (by decide+kernel) rfl rfl h
 rw [if_neg (by decide+kernel)] at h2
 obtain ⟨rfl,rfl⟩:=h2
 exact ⟨rfl,by decide+kernel⟩
theorem Ab7 (w:World) (hE:Env w):Calls Tryz.prog 7 #[] w (KA w):=by
 have A2:Below w.heap.size w (((w.alloc (.cells #[.string ⟨#[120]⟩] 9)).alloc (.cells #[.string ⟨#[100,99]⟩,.slice (some ⟨w.heap.size,0,none⟩) 1 1] 56)).alloc (.cells #[.string ⟨#[100,99,61,120]⟩,.slice (some ⟨w.heap.size+1,0,none⟩) 1 1] 52)):=BQ (BQ (Af w _) _) _
 have A1:Bq (((w.alloc (.cells #[.string ⟨#[120]⟩] 9)).alloc (.cells #[.string ⟨#[100,99]⟩,.slice (some ⟨w.heap.size,0,none⟩) 1 1] 56)).alloc (.cells #[.string ⟨#[100,99,61,120]⟩,.slice (some ⟨w.heap.size+1,0,none⟩) 1 1] 52)) (.slice (some ⟨w.heap.size+1+1,0,none⟩) 1 1) awL:=by
  have a1:=Whole.made w 9 #[.string ⟨#[120]⟩]
  have a2:=Whole.made (w.alloc (.cells #[.string ⟨#[120]⟩] 9)) 56 #[.string ⟨#[100,99]⟩,.slice (some ⟨w.heap.size,0,none⟩) 1 1]
  rw [KT] at a2
  have a3:=Whole.made ((w.alloc (.cells #[.string ⟨#[120]⟩] 9)).alloc (.cells #[.string ⟨#[100,99]⟩,.slice (some ⟨w.heap.size,0,none⟩) 1 1] 56)) 52 #[.string ⟨#[100,99,61,120]⟩,.slice (some ⟨w.heap.size+1,0,none⟩) 1 1]
  rw [KT,KT] at a3
  have b1:=(a1.call (Af _ (.cells #[.string ⟨#[100,99]⟩,.slice (some ⟨w.heap.size,0,none⟩) 1 1] 56))).call (Af _ (.cells #[.string ⟨#[100,99,61,120]⟩,.slice (some ⟨w.heap.size+1,0,none⟩) 1 1] 52))
  have b2:=a2.call (Af _ (.cells #[.string ⟨#[100,99,61,120]⟩,.slice (some ⟨w.heap.size+1,0,none⟩) 1 1] 52))
  refine Aeo a3 trivial rfl (fun j x hj=>?_)
  unfold awL at hj
  match j,hj with
  | 0,hj=>
   have:=Option.some.inj hj
   subst this
   refine ⟨rfl,_,rfl,Abh b2 trivial rfl (fun j x hj=>?_)⟩
   match j,hj with
   | 0,hj=>
    have:=Option.some.inj hj
    subst this
    refine ⟨rfl,_,rfl,Adb b1 trivial rfl (fun j x hj=>?_)⟩
    match j,hj with
    | 0,hj=>have:=Option.some.inj hj;subst this;rfl
    | j+1,hj=>simp at hj
   | j+1,hj=>simp at hj
  | j+1,hj=>simp at hj
 have B0:FiS.wdF 20000 awF:=by
  unfold awF
  rw [FiS.wdF]
  exact ⟨⟨by decide,by decide,by decide,by decide⟩,by decide,fun t ht=>(by cases ht),by decide,by rw [FiS.wdL];trivial⟩
 have A4:=OT 0 awF (.agg #[.int .i64 0,.string ⟨#[]⟩,.string ⟨#[]⟩,.string ⟨#[]⟩,.string ⟨#[]⟩,.slice none 0 0,.slice none 0 0]) _ (FiV.leaf 0 _ (((w.alloc (.cells #[.string ⟨#[120]⟩] 9)).alloc (.cells #[.string ⟨#[100,99]⟩,.slice (some ⟨w.heap.size,0,none⟩) 1 1] 56)).alloc (.cells #[.string ⟨#[100,99,61,120]⟩,.slice (some ⟨w.heap.size+1,0,none⟩) 1 1] 52)) 0 [] [] [] []) B0
 have B5:=hZ9 (fun rv W (hb:Below (((w.alloc (.cells #[.string ⟨#[120]⟩] 9)).alloc (.cells #[.string ⟨#[100,99]⟩,.slice (some ⟨w.heap.size,0,none⟩) 1 1] 56)).alloc (.cells #[.string ⟨#[100,99,61,120]⟩,.slice (some ⟨w.heap.size+1,0,none⟩) 1 1] 52)).heap.size (((w.alloc (.cells #[.string ⟨#[120]⟩] 9)).alloc (.cells #[.string ⟨#[100,99]⟩,.slice (some ⟨w.heap.size,0,none⟩) 1 1] 56)).alloc (.cells #[.string ⟨#[100,99,61,120]⟩,.slice (some ⟨w.heap.size+1,0,none⟩) 1 1] 52)) W) hq=>XF (.slice (some ⟨w.heap.size+1+1,0,none⟩) 1 1) awL 1 awQ rv W (Ce.call A1 hb) IP.1 (by decide) IP.2.1 IP.2.2.1 IP.2.2.2.1 IP.2.2.2.2 ((hE.below A2).below hb) hq B0 ⟨by decide,fun s hs=>by cases hs⟩ (by decide))
 have B2:=hZ9 (fun c ys h=>@Zb c ys h)
 clear A1
 generalize A8:awL=AL at*
 clear A8
 unfold awF at A4
 go_enter Tryz.func7,Tryz.ntmps7
 go_wp2_with fail
 refine A4.mono ?_
 rintro e w4 ⟨v4,rfl,A5,A3⟩
 obtain ⟨f5,h5,f6,h6,A6,_,_⟩:=FiV.parts A5.ins
 replace A6:v4=.agg #[.int .i64 0,.string ⟨#[]⟩,.string ⟨#[]⟩,.string ⟨#[]⟩,.string ⟨#[]⟩,.slice f5 0 h5,.slice f6 0 h6]:=A6
 subst A6
 have B1:=B5.out (.agg #[.string ⟨#[]⟩,.int .i64 2,.int .i64 0,.int .i64 0,.string ⟨#[]⟩,.string ⟨#[]⟩,.string ⟨#[]⟩,.string ⟨#[]⟩,.slice f5 0 h5,.slice f6 0 h6,.slice none 0 0,.bool false,.int .i64 0]) w4 A3 ⟨f5,f6,none,h5,h6,0,rfl,A5.ins,Ai.empty _⟩
 have A9:=A2.trans (A3.mono A2.size)
 clear A4 B5 A5 A3 A2
 go_wp2_with fail
 refine B1.mono ?_
 rintro e w5 ⟨c,v5,ys,rfl,B4,A0,B3⟩
 obtain ⟨rfl,hy⟩:=B2.out c ys B4
 obtain ⟨ya,yc,rfl,_⟩:=Ae.form A0
 have A7:=A9.trans (B3.mono A9.size)
 have B6:=A7.trans ((Af w5 (.cells #[.int .i64 0,.slice ya 1 yc] 32)).mono A7.size)
 rw [hy]
 clear B1 B2 B4 A0 hy B3 A9 A7
 go_wp2_with fail
 go_ret
 exact ⟨by first | rfl | trivial,B6⟩
end
section
open Go.RowKit
attribute [local go_sem ↓] Go.wp_at_zero Go.wp_at_succ
def PS (w:World) (e:Ending) (w':World):Prop:=e=.returned (.bool true)/\∃m,w'=w.drewN m
theorem Zc {P:Program} {f:FuncId} {args:Array Value} {w:World} {a n:Nat} {v:Value}
  (h:Calls P f args (w.drewN (a+n)) fun e w'=>e=.returned v/\∃m,w'=(w.drewN (a+n)).drewN m):
  Calls P f args (w.drewN (a+n)) fun e A0=>e=.returned v/\∃m,A0=w.drewN (a+m):=
 h.mono fun _ _ ⟨he,m,hm⟩=>⟨he,n+m,by rw [hm,World.drewN_drewN,Nat.add_assoc]⟩
theorem Xv (l:List UInt8):(l !=l)=false:=by simp
theorem WA (v1 v2:Value) (xs:List (List UInt8)) (w:World) (h1:Ai w v1 xs) (h2:Ai w v2 xs) (hl:xs.length<=4611686018427387904):Calls Tryz.prog 104 #[v1,v2] w (PS w):=by
 obtain ⟨a1,c1,rfl,A3,A0⟩:=Ae.at (h1.strsP (fun _=>True) (fun _ _=>trivial))
 obtain ⟨a2,c2,rfl,A5,A1⟩:=Ae.at (h2.strsP (fun _=>True) (fun _ _=>trivial))
 have H1:=hZ9 A0
 have H2:=hZ9 A1
 clear A0 A1 h1 h2
 generalize hn:xs.length=n at A3 A5 hl⊢
 have HN:=hZ9 hn
 clear hn
 go_enter Tryz.func104,Tryz.ntmps104
 go_wp2_with fail
 go_loopw [13] (fun i wr=>∃k m:Nat,k<=n/\i=.int .i64 k/\wr=w.drewN m) (fun i _=>n - (intOf i).toNat)
 case atStart=>exact ⟨0,0,Nat.zero_le _,rfl,rfl⟩
 case round=>
  obtain ⟨k,m,hk,rfl,rfl⟩:=hrel
  by_cases A4:k<n
  · have hx:k<xs.length:=by rw [HN.out];exact A4
    obtain ⟨g1,o1,rfl,_,_,d1⟩:=H1.out k hx
    obtain ⟨g2,o2,rfl,_,_,d2⟩:=H2.out k hx
    generalize xs[k]=s at d1 d2
    unfold SK Ac at d1 d2
    simp only [Nat.mul_one] at d1 d2
    have hs:=Xv s
    clear hx
    go_wp2_with fail
    go_quiet (fail)
    go_wp2_with fail
    go_roundw
    case rel=>exact ⟨k+1,_,by omega,by go_num,rfl⟩
    case measure=>simp [intOf];omega
  · have A2:k=n:=by omega
    subst A2
    go_wp2_with fail
    go_ret
    exact ⟨rfl,_,rfl⟩
theorem WB (v1 v2:Value) (xs:List EnS.At) (w:World) (h1:BK w v1 xs) (h2:BK w v2 xs) (hl:xs.length<=1048576) (hf:∀x ∈ xs,x.vals.length<=1048576):Calls Tryz.prog 67 #[v1,v2] w (PS w):=by
 obtain ⟨a1,c1,rfl,A7,A0⟩:=Ae.at h1
 obtain ⟨a2,c2,rfl,A9,A1⟩:=Ae.at h2
 have H1:=hZ9 A0
 have H2:=hZ9 A1
 have HF:=hZ9 (fun k (h:k<xs.length)=>hf xs[k] (List.getElem_mem h))
 clear A0 A1 h1 h2 hf
 generalize hn:xs.length=n at A7 A9 hl⊢
 have HN:=hZ9 hn
 clear hn
 go_enter Tryz.func67,Tryz.ntmps67
 go_wp2_with fail
 go_loopw [13] (fun i wr=>∃k m:Nat,k<=n/\i=.int .i64 k/\wr=w.drewN m) (fun i _=>n - (intOf i).toNat)
 case atStart=>exact ⟨0,0,Nat.zero_le _,rfl,rfl⟩
 case round=>
  obtain ⟨k,m,hk,rfl,rfl⟩:=hrel
  by_cases A8:k<n
  · have hx:k<xs.length:=by rw [HN.out];exact A8
    obtain ⟨g1,o1,rfl,_,_,r1⟩:=H1.out k hx
    obtain ⟨g2,o2,rfl,_,_,r2⟩:=H2.out k hx
    have A2:=HF.out k hx
    generalize xs[k]=x at r1 r2 A2
    obtain ⟨d1,p1,q1,e1,A4,u1⟩:=Bl.parts r1
    obtain ⟨d2,p2,q2,e2,A6,u2⟩:=Bl.parts r2
    obtain ⟨ty,vals⟩:=x
    simp only at d1 d2 e1 e2 A4 A6 u1 u2 A2
    have hs:=Xv ty
    have A3:=fun N=>WA _ _ vals (w.drewN N) (Ai.call (Ap.strs u1) (below_drewN w N) (Nat.le_refl _)) (Ai.call (Ap.strs u2) (below_drewN w N) (Nat.le_refl _)) (by omega)
    unfold PS at A3
    generalize vals.length=L at*
    clear hx r1 r2 u1 u2
    go_wp2_with fail
    go_quiet ((go_at_call 104;exact Zc (A3 _)))
    go_wp2_with fail
    go_roundw
    case rel=>exact ⟨k+1,_,by omega,by go_num,rfl⟩
    case measure=>simp [intOf];omega
  · have A5:k=n:=by omega
    subst A5
    go_wp2_with fail
    go_ret
    exact ⟨rfl,_,rfl⟩
theorem Adj (name:List UInt8) (xs:List EnS.At) (u1 u2:Value) (w:World) (h1:BK w u1 xs) (h2:BK w u2 xs) (hl:xs.length<=1048576) (hf:∀x ∈ xs,x.vals.length<=1048576):
  Calls Tryz.prog 35 #[.agg #[.string ⟨name.toArray⟩,u1],.agg #[.string ⟨name.toArray⟩,u2]] w (KA w):=by
 have hb0:=Af w (.cells #[.string ⟨name.toArray⟩,u1] 52)
 have A0:=Af (w.alloc (.cells #[.string ⟨name.toArray⟩,u1] 52)) (.cells #[.string ⟨name.toArray⟩,u2] 52)
 have hb:=Aa hb0 A0
 have hc:=WB u1 u2 xs _ (Ao.call h1 hb) (Ao.call h2 hb) hl hf
 unfold PS at hc
 have he:(name==name)=true:=by simp
 clear h1 h2 hb0 A0
 go_enter Tryz.func35,Tryz.ntmps35
 go_wp2_with fail
 refine hc.mono ?_;rintro e w1 ⟨rfl,m,rfl⟩
 go_wp2_with fail
 go_ret
 exact ⟨rfl,Aa hb (below_drewN _ _)⟩
theorem Ab8 (v1 v2:Value) (xs:List EnS.En) (w:World) (h1:Bq w v1 xs) (h2:Bq w v2 xs) (hl:xs.length<=1048576) (hf:∀e ∈ xs,e.attrs.length<=1048576/\∀x ∈ e.attrs,x.vals.length<=1048576):Calls Tryz.prog 12 #[v1,v2] w (KA w):=by
 obtain ⟨a1,c1,rfl,A8,A1⟩:=Ae.at h1
 obtain ⟨a2,c2,rfl,B1,A2⟩:=Ae.at h2
 have H1:=hZ9 A1
 have H2:=hZ9 A2
 have HF:=hZ9 (fun k (h:k<xs.length)=>hf xs[k] (List.getElem_mem h))
 clear A1 A2 h1 h2 hf
 generalize hn:xs.length=n at A8 B1 hl⊢
 have HN:=hZ9 hn
 clear hn
 go_enter Tryz.func12,Tryz.ntmps12
 go_wp2_with fail
 go_loopw [13] (fun i wr=>∃k:Nat,k<=n/\i=.int .i64 k/\Below w.heap.size w wr) (fun i _=>n - (intOf i).toNat)
 case atStart=>exact ⟨0,Nat.zero_le _,rfl,Below.refl _ _⟩
 case round=>
  obtain ⟨k,hk,rfl,hb⟩:=hrel
  by_cases B0:k<n
  · have hx:k<xs.length:=by rw [HN.out];exact B0
    obtain ⟨g1,o1,rfl,B2,_,z1⟩:=H1.out k hx
    obtain ⟨g2,o2,rfl,A9,_,z2⟩:=H2.out k hx
    have A3:=HF.out k hx
    have r1:=Db.call z1 B2 trivial hb
    have r2:=Db.call z2 A9 trivial hb
    clear z1 z2
    generalize xs[k]=x at r1 r2 A3
    obtain ⟨d1,p1,q1,e1,A5,u1⟩:=Db.parts r1
    obtain ⟨d2,p2,q2,e2,A7,u2⟩:=Db.parts r2
    obtain ⟨name,attrs⟩:=x
    simp only at d1 d2 e1 e2 A5 A7 u1 u2 A3
    have A4:=Adj name attrs _ _ wr.drew (Ao.call u1 (below_drewN wr 1)) (Ao.call u2 (below_drewN wr 1)) A3.1 A3.2
    unfold KA at A4
    generalize attrs.length=L at*
    clear hx r1 r2 u1 u2
    go_wp2_with fail
    go_region_held3 (fun W=>W.cell? ⟨g1,o1+k*2,none⟩=some (.string ⟨name.toArray⟩)/\W.cell? ⟨g1,o1+k*2+1,none⟩=some (.slice p1 L q1)/\W.cell? ⟨g2,o2+k*2,none⟩=some (.string ⟨name.toArray⟩)/\W.cell? ⟨g2,o2+k*2+1,none⟩=some (.slice p2 L q2))
     (first | exact ⟨d1,e1,d2,e2⟩ | exact ⟨Ab (w:=wr.drew) d1 A0,Ab (w:=wr.drew) e1 A0,Ab (w:=wr.drew) d2 A0,Ab (w:=wr.drew) e2 A0⟩ | go_keep)
     (first | (go_at_call 35;(with_reducible refine A4.mono ?_);rintro e w1 ⟨rfl,A0⟩))
    go_wp2_with fail
    go_roundw
    case rel=>exact ⟨k+1,by omega,by go_num,hb.trans (((below_drewN wr 1).trans A0).mono hb.size)⟩
    case measure=>simp [intOf];omega
  · have A6:k=n:=by omega
    subst A6
    go_wp2_with fail
    go_ret
    exact ⟨rfl,hb⟩
end
section
open Go.ChangeShapes Go.WideShapes Go.ChangeAt Go.RowKit Go.Deep
section
variable {H:Type} {enc:TypeId × Value->H}
theorem WC {w:World} {r:Reach} {b0:Nat} {t e:TypeId} {v:Value} (ht:Tryz.prog.underlying t=some (.slice e)) (h:Value.okWide Tryz.prog w r b0 t v):
  v=.slice none 0 0\/∃g o n c,v=.slice (some ⟨g,o,none⟩) n c:=by
 simp only [Value.okWide,ht,Cell.okWide] at h
 cases v with
 | slice a n c=>
  cases a with
  | none=>
   match n,c,h with
   | 0,0,_=>exact .inl rfl
   | n+1,c,h=>simp [Cell.ok,ht] at h
   | 0,c+1,h=>simp [Cell.ok,ht] at h
  | some a=>
   simp only [Cell.ok,ht] at h
   have hs:=h.2.2.2.1
   obtain ⟨g,o,s⟩:=a
   simp only at hs
   subst hs
   exact .inr ⟨g,o,n,c,rfl⟩
 | _=>simp [Cell.ok,ht] at h
end
end
section
open Go.ChangeShapes Go.WideShapes Go.ChangeAt Go.RowKit Go.Deep Go.Joins
section
variable {H:Type} {enc:TypeId × Value->H}
theorem GX {d:DataW H}:∀{l:List (DataW H)},d ∈ l->Rows.uptoBulk d<=Rows.uptoBulkAll l
 | [],h=>by cases h
 | x :: r,h=>by
  unfold Rows.uptoBulkAll
  rcases List.mem_cons.1 h with rfl | h
  · omega
  · have:=GX h;omega
theorem IQ (d:DataW H):1<=Rows.uptoBulk d:=by unfold Rows.uptoBulk;split <;> omega
theorem Vh:∀(l:List (DataW H)),l.length<=Rows.uptoBulkAll l
 | []=>Nat.zero_le _
 | x :: r=>by
  unfold Rows.uptoBulkAll
  have h1:=IQ x
  have h2:=Vh r
  rw [List.length_cons];omega
theorem Zd (A B:List (DataW H)):Rows.uptoBulkAll A<=Rows.uptoBulk (.slice A B):=by unfold Rows.uptoBulk;omega
theorem Oh (A:List (DataW H)):Rows.uptoBulkAll A<=Rows.uptoBulk (.agg A):=by unfold Rows.uptoBulk;omega
theorem KW {l:List UInt8} {N:Nat} (h:Rows.uptoBulk (.lit (.string l):DataW H)<=N):l.length<=N:=by unfold Rows.uptoBulk at h;omega
theorem DY (s:ByteArray):(Value.string s)=Ac s.data.toList:=by cases s;simp [Ac]
theorem add_add (g o i j:Nat):((⟨g,o,none⟩:Addr).add i).add j=⟨g,o+i+j,none⟩:=by unfold Addr.add;split <;> split <;> simp_all
theorem Vi {α:Type} {m:α->Nat} {S:Nat->α} {D:Nat->DataW H}:∀l:List Nat,(∀i ∈ l,m (S i)<=Rows.uptoBulk (D i))->EnS.Ax m (l.map S)<=Rows.uptoBulkAll (l.map D)
 | [],_=>Nat.zero_le _
 | i :: l,h=>by
  show m (S i)+EnS.Ax m (l.map S)<=Rows.uptoBulkAll (D i :: l.map D)
  unfold Rows.uptoBulkAll
  have h1:=h i (List.mem_cons_self ..)
  have h2:=Vi (m:=m) (S:=S) (D:=D) l (fun j hj=>h j (List.mem_cons_of_mem _ hj))
  omega
theorem WE (A B:List (DataW H)):Rows.uptoBulkAll A+1<=Rows.uptoBulk (.slice A B):=by unfold Rows.uptoBulk;omega
theorem JB {α:Type} {w:World} {base:Nat} {held:Bool} {sp:Nat->Bool} {t e:TypeId} {k fuel:Nat} {v:Value} {d:DataW H} {ps:List MemPlace} {N:Nat}
  (ht:Tryz.prog.underlying t=some (.slice e)) (hk:Tryz.prog.cellsOf e=k) (A5:0<k) (El:World->Nat->Nat->α->Prop) (G:α->Prop) (m:α->Nat)
  (hf:DataW.trod enc Tryz.prog w base sp held fuel t [v]=some (d,ps)) (hb:Rows.uptoBulk d<=N)
  (each:∀(g o:Nat) (cs:List Value) (fu:Nat) (D:DataW H) (Pl:List MemPlace),(∀j,j<k->w.cell? ⟨g,o+j,none⟩=cs[j]?)->cs.length=k->DataW.trod enc Tryz.prog w base sp held fu e cs=some (D,Pl)->Rows.uptoBulk D<=N->∃x,El w g o x/\G x/\m x<=Rows.uptoBulk D):
  ∃xs:List α,Ae k El (fun _=>True) w v xs/\xs.length<=N/\(∀x ∈ xs,G x)/\EnS.Ax m xs+1<=Rows.uptoBulk d:=by
 rcases open_slice ht hf with ⟨h0,B0⟩ | ⟨a,n,c,mm,fu,D,Pl,A7,B2,B3,B4,hm,hx,A1⟩
 · simp only [List.cons.injEq,and_true] at h0
   subst h0
   exact ⟨[],Ae.nil _ _,Nat.zero_le _,(fun x hx=>(by cases hx)),IQ d⟩
 simp only [List.cons.injEq,and_true] at A7
 subst A7
 have A2:=congrArg Prod.fst hx
 simp only at A2
 rw [A2] at hb
 have A9:=Nat.le_trans (Zd _ _) hb
 have B1:n<=mm:=by rw [hm];split <;> omega
 rw [hk] at A1
 obtain ⟨g,o,s⟩:=a
 rcases Nat.eq_zero_or_pos n with h0 | A4
 · subst h0
   exact ⟨[],Ae.nil _ _,Nat.zero_le _,(fun x hx=>(by cases hx)),IQ d⟩
 have hs:s=none:=by
  obtain ⟨cs,h1,h2⟩:=A1 0 (by omega)
  obtain ⟨_,hlen,hc⟩:=World.cells?_some h1
  have c0:=hc 0 A5
  rw [Nat.zero_mul] at c0
  have A3:0<cs.length:=by omega
  rw [List.getElem?_eq_getElem A3] at c0
  have e1:((⟨g,o,s⟩:Addr).add 0).add 0=⟨g,o,s⟩:=by unfold Addr.add;simp
  rw [e1] at c0
  exact cell_spot c0
 subst hs
 have A0:∀i,i<n->∃x:α,El w g (o+i*k) x/\G x/\m x<=Rows.uptoBulk (D i):=fun i hi=>by
  obtain ⟨cs,h1,h2⟩:=A1 i (by omega)
  obtain ⟨_,hlen,hc⟩:=World.cells?_some h1
  refine each g (o+i*k) cs fu (D i) (Pl i) (fun j hj=>?_) hlen h2 ?_
  · have:=hc j hj
    rw [add_add] at this
    exact this
  · exact Nat.le_trans (GX (List.mem_map.2 ⟨i,List.mem_range.2 hi,rfl⟩)) A9
 have hlen2:n<=N:=by
  have:=Vh ((List.range n).map D)
  rw [List.length_map,List.length_range] at this
  omega
 have A8:g<w.heap.size:=by
  obtain ⟨cs,h1,h2⟩:=A1 0 (by omega)
  obtain ⟨_,hlen,hc⟩:=World.cells?_some h1
  have c0:=hc 0 A5
  have A3:0<cs.length:=by omega
  rw [List.getElem?_eq_getElem A3,add_add] at c0
  exact cell_lt c0
 haveI:Inhabited α:=⟨(A0 0 A4).choose⟩
 obtain ⟨S,hS⟩:=choose_lt A0
 refine ⟨(List.range n).map S,⟨some ⟨g,o,none⟩,c,by simp,by simp;omega,.inr ⟨g,o,rfl,A8,trivial,fun j q hj=>?_⟩⟩,by simpa using hlen2,fun q hq=>?_,?_⟩
 · rw [List.getElem?_map] at hj
   cases hr:(List.range n)[j]? with
   | none=>rw [hr] at hj;cases hj
   | some x=>
    rw [hr] at hj
    have A6:=(List.getElem?_eq_some_iff.1 hr).1
    have hq:=(List.getElem?_eq_some_iff.1 hr).2
    rw [List.getElem_range] at hq
    simp only [List.length_range] at A6
    have hj:=Option.some.inj hj
    subst hq;subst hj
    exact (hS j A6).1
 · obtain ⟨i,hi,rfl⟩:=List.mem_map.1 hq
   exact (hS i (List.mem_range.1 hi)).2.1
 · have h1:=Vi (m:=m) (S:=S) (D:=D) (List.range n) (fun i hi=>(hS i (List.mem_range.1 hi)).2.2)
   have h2:=WE ((List.range n).map D) ((List.range (mm - n)).map fun j=>D (n+j))
   rw [A2]
   omega
theorem open_strs {w:World} {base:Nat} {held:Bool} {sp:Nat->Bool} {fuel:Nat} {v:Value} {d:DataW H} {ps:List MemPlace} {N:Nat}
  (hf:DataW.trod enc Tryz.prog w base sp held fuel 23 [v]=some (d,ps)) (hb:Rows.uptoBulk d<=N):
  ∃xs:List (List UInt8),Ap (fun _=>True) w v xs/\xs.length<=N/\(∀x ∈ xs,x.length<=N)/\EnS.Ax (fun v=>1+EnS.cV v) xs+1<=Rows.uptoBulk d:=by
 refine JB Tryz.underlying23 (by kernel_rfl) (by decide) SK (fun x=>x.length<=N) (fun v=>1+EnS.cV v) hf hb (fun g o cs fu D Pl hc hlen ht hD=>?_)
 match cs,hlen with
 | [x],_=>
  obtain ⟨s,e,k,_⟩:=DataW.trod_string Tryz.underlying9 ht
  simp only [List.cons.injEq,and_true] at e
  have c0:=hc 0 (by decide)
  simp only [Nat.add_zero,List.getElem?_cons_zero] at c0
  subst e
  rw [DY] at c0
  have k1:D=.lit (.string s.data.toList):=by first | exact k | exact congrArg Prod.fst k | simpa using k
  rw [k1] at hD⊢
  refine ⟨s.data.toList,c0,KW hD,?_⟩
  unfold Rows.uptoBulk EnS.cV
  have:=Nat.div_le_self s.data.toList.length 100
  omega
def Vj (N:Nat) (x:EnS.At):Prop:=x.typ.length<=N/\x.vals.length<=N/\∀v ∈ x.vals,v.length<=N
def Ze (N:Nat) (e:EnS.En):Prop:=e.name.length<=N/\e.attrs.length<=N/\∀x ∈ e.attrs,Vj N x
theorem Vk {w:World} {base:Nat} {held:Bool} {sp:Nat->Bool} {fuel:Nat} {v:Value} {d:DataW H} {ps:List MemPlace} {N:Nat}
  (hf:DataW.trod enc Tryz.prog w base sp held fuel 50 [v]=some (d,ps)) (hb:Rows.uptoBulk d<=N):
  ∃xs:List EnS.At,BK w v xs/\xs.length<=N/\(∀x ∈ xs,Vj N x)/\EnS.Ax EnS.cA xs+1<=Rows.uptoBulk d:=by
 have A2:Tryz.prog.cellsOf 9=1:=by kernel_rfl
 have A1:Tryz.prog.cellsOf 23=1:=by kernel_rfl
 refine JB Tryz.underlying50 (by kernel_rfl) (by decide) (Bl (fun _=>True)) (Vj N) EnS.cA hf hb (fun g o cs fu D Pl hc hlen ht hD=>?_)
 match cs,hlen with
 | [x,y],_=>
  obtain ⟨y0,y1,nn,e,_,t0,t1⟩:=trod_struct2 Tryz.underlying56 ht
  simp only [A2,A1,List.drop_zero,List.take_succ_cons,List.take_zero,List.drop_succ_cons] at t0 t1
  have e1:=congrArg Prod.fst e
  simp only at e1
  rw [e1] at hD
  have A0:=Nat.le_trans (Oh _) hD
  obtain ⟨s,es,k,_⟩:=DataW.trod_string Tryz.underlying9 t0
  simp only [List.cons.injEq,and_true] at es
  subst es
  obtain ⟨xs,h1,h2,h3,h5⟩:=open_strs (N:=N) (d:=y1.1) (ps:=y1.2) t1 (Nat.le_trans (GX (by simp)) A0)
  have c0:=hc 0 (by decide)
  have c1:=hc 1 (by decide)
  simp only [Nat.add_zero,List.getElem?_cons_zero,List.getElem?_cons_succ] at c0 c1
  rw [DY] at c0
  have k1:y0.1=.lit (.string s.data.toList):=by first | exact k | exact congrArg Prod.fst k | simp [k]
  have h4:=Nat.le_trans (GX (d:=y0.1) (by simp)) A0
  rw [k1] at h4
  refine ⟨⟨s.data.toList,xs⟩,⟨c0,y,c1,h1⟩,⟨KW h4,h2,h3⟩,?_⟩
  rw [e1,k1]
  show 1+xs.length+EnS.Ax EnS.cV xs<=_
  rw [EnS.QQ] at h5
  unfold Rows.uptoBulk Rows.uptoBulkAll Rows.uptoBulkAll Rows.uptoBulkAll
  have:=IQ (.lit (.string s.data.toList):DataW H)
  omega
theorem Zf {w:World} {base:Nat} {held:Bool} {sp:Nat->Bool} {fuel:Nat} {v:Value} {d:DataW H} {ps:List MemPlace} {N:Nat}
  (hf:DataW.trod enc Tryz.prog w base sp held fuel 22 [v]=some (d,ps)) (hb:Rows.uptoBulk d<=N):
  ∃xs:List EnS.En,Bq w v xs/\xs.length<=N/\(∀x ∈ xs,Ze N x)/\EnS.Ax EnS.cE xs+1<=Rows.uptoBulk d:=by
 have A2:Tryz.prog.cellsOf 9=1:=by kernel_rfl
 have A1:Tryz.prog.cellsOf 50=1:=by kernel_rfl
 refine JB Tryz.underlying22 (by kernel_rfl) (by decide) (Db (fun _=>True)) (Ze N) EnS.cE hf hb (fun g o cs fu D Pl hc hlen ht hD=>?_)
 match cs,hlen with
 | [x,y],_=>
  obtain ⟨y0,y1,nn,e,_,t0,t1⟩:=trod_struct2 Tryz.underlying52 ht
  simp only [A2,A1,List.drop_zero,List.take_succ_cons,List.take_zero,List.drop_succ_cons] at t0 t1
  have e1:=congrArg Prod.fst e
  simp only at e1
  rw [e1] at hD
  have A0:=Nat.le_trans (Oh _) hD
  obtain ⟨s,es,k,_⟩:=DataW.trod_string Tryz.underlying9 t0
  simp only [List.cons.injEq,and_true] at es
  subst es
  obtain ⟨xs,h1,h2,h3,h5⟩:=Vk (N:=N) (d:=y1.1) (ps:=y1.2) t1 (Nat.le_trans (GX (by simp)) A0)
  have c0:=hc 0 (by decide)
  have c1:=hc 1 (by decide)
  simp only [Nat.add_zero,List.getElem?_cons_zero,List.getElem?_cons_succ] at c0 c1
  rw [DY] at c0
  have k1:y0.1=.lit (.string s.data.toList):=by first | exact k | exact congrArg Prod.fst k | simp [k]
  have h4:=Nat.le_trans (GX (d:=y0.1) (by simp)) A0
  rw [k1] at h4
  refine ⟨⟨s.data.toList,xs⟩,⟨c0,y,c1,h1⟩,⟨KW h4,h2,h3⟩,?_⟩
  rw [e1,k1]
  show 1+s.data.toList.length / 100+EnS.Ax EnS.cA xs<=_
  have h6:s.data.toList.length+1=Rows.uptoBulk (.lit (.string s.data.toList):DataW H):=by unfold Rows.uptoBulk;rfl
  have h7:=Nat.div_le_self s.data.toList.length 100
  unfold Rows.uptoBulk Rows.uptoBulkAll Rows.uptoBulkAll Rows.uptoBulkAll
  omega
theorem Adk {w:World} {base:Nat} {held:Bool} {r:Reach} {b0:Nat} {v:Value} {d:DataW H} {ps:List MemPlace} {sp:Nat->Bool} {N:Nat}
  (A0:Value.okWide Tryz.prog w r b0 22 v) (hd:DataW.Trod enc Tryz.prog w base sp held 22 v d ps) (hb:Rows.uptoBulk d<=N):
  ∃xs:List EnS.En,Bq w v xs/\xs.length<=N/\(∀x ∈ xs,Ze N x)/\EnS.Ax EnS.cE xs+1<=Rows.uptoBulk d:=by
 obtain ⟨fuel,hf⟩:=hd
 rcases WC Tryz.underlying22 A0 with rfl | ⟨g,o,n,c,rfl⟩
 · exact ⟨[],Ae.nil _ _,Nat.zero_le _,(fun x hx=>(by cases hx)),IQ d⟩
 · exact Zf (by simpa [Value.cells] using hf) hb
end
end
end Go.Proofs.YtgngjfjaelgaeaaGreatDoor
