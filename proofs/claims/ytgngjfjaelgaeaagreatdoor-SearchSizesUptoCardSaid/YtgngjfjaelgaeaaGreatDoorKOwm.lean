/- Slices of rules (five cells an element) in memory. Conditions: as stated. -/
import Derived.Test.YtgngjfjaelgaeaaGreatDoorKFmb
set_option maxRecDepth 100000
set_option maxHeartbeats 8000000
namespace Go.Proofs.YtgngjfjaelgaeaaGreatDoor
section
open Go.RowKit
def LL (w:World) (g o:Nat) (r:PoS.Rl):Prop:=
 w.cell? ⟨g,o,none⟩=some (Ac r.who)/\w.cell? ⟨g,o+1,none⟩=some (Ac r.target)/\w.cell? ⟨g,o+2,none⟩=some (Ac r.attr)/\w.cell? ⟨g,o+3,none⟩=some (.int .i64 r.rights)/\w.cell? ⟨g,o+4,none⟩=some (.bool r.allow)
theorem LL.call {w w':World} {g o:Nat} {r:PoS.Rl} (h:LL w g o r) {B:Nat} (hb:Below B w w') (hg:g<B):LL w' g o r:=
 ⟨(hb.cell (p:=⟨g,o,none⟩) hg).trans h.1,(hb.cell (p:=⟨g,o+1,none⟩) hg).trans h.2.1,(hb.cell (p:=⟨g,o+2,none⟩) hg).trans h.2.2.1,(hb.cell (p:=⟨g,o+3,none⟩) hg).trans h.2.2.2.1,(hb.cell (p:=⟨g,o+4,none⟩) hg).trans h.2.2.2.2⟩
def Ff (w:World) (v:Value) (xs:List PoS.Rl):Prop:=
 ∃a c,v=.slice a xs.length c/\xs.length<=c/\(xs=[]\/∃g o,a=some ⟨g,o,none⟩/\g<w.heap.size/\∀(j:Nat) (r:PoS.Rl),xs[j]?=some r->LL w g (o+j*5) r)
theorem Ff.call {w w':World} {v:Value} {xs:List PoS.Rl} (h:Ff w v xs) {B:Nat} (hb:Below B w w') (hB:w.heap.size<=B):Ff w' v xs:=by
 obtain ⟨a,c,rfl,hc,h⟩:=h
 refine ⟨a,c,rfl,hc,?_⟩
 rcases h with h | ⟨g,o,rfl,hg,h⟩
 · exact .inl h
 · exact .inr ⟨g,o,rfl,Nat.lt_of_lt_of_le hg hb.size,fun j r hj=>(h j r hj).call hb (Nat.lt_of_lt_of_le hg hB)⟩
theorem Ff.empty (w:World):Ff w (.slice none 0 0) []:=⟨none,0,rfl,Nat.le_refl _,.inl rfl⟩
theorem Ff.form {w:World} {v:Value} {xs:List PoS.Rl} (h:Ff w v xs):∃a c,v=.slice a xs.length c:=by obtain ⟨a,c,e,_⟩:=h;exact ⟨a,c,e⟩
theorem Ff.at {w:World} {v:Value} {xs:List PoS.Rl} (h:Ff w v xs):∃a c,v=.slice a xs.length c/\xs.length<=c/\∀k (h:k<xs.length),∃g o,a=some ⟨g,o,none⟩/\g<w.heap.size/\LL w g (o+k*5) xs[k]:=by
 obtain ⟨a,c,rfl,hc,h⟩:=h
 refine ⟨a,c,rfl,hc,fun k hk=>?_⟩
 rcases h with rfl | ⟨g,o,rfl,hg,h⟩
 · simp at hk
 · exact ⟨g,o,rfl,hg,h k _ (List.getElem?_eq_getElem hk)⟩
def Aft (r:PoS.Rl):List Value:=[Ac r.who,Ac r.target,Ac r.attr,.int .i64 r.rights,.bool r.allow]
def Afi (xs:List PoS.Rl):List Value:=xs.flatMap Aft
def GU (T:TypeId) (w:World) (B:Nat) (v:Value) (xs:List PoS.Rl):Prop:=w.ownsRow B T 5 v xs.length (Afi xs)
theorem GU.empty (T:TypeId) (w:World) (B:Nat):GU T w B (.slice none 0 0) []:=World.ownsRow_nil w B _ 5
theorem GU.form {T:TypeId} {w:World} {B:Nat} {v:Value} {xs:List PoS.Rl} (h:GU T w B v xs):∃a c,v=.slice a xs.length c:=by
 rcases h.2 with ⟨rfl,hn⟩ | ⟨g,cap,cur,rfl,_⟩
 · exact ⟨_,_,by rw [hn]⟩
 · exact ⟨_,_,rfl⟩
theorem GU.call {T:TypeId} {w w':World} {B:Nat} {v:Value} {xs:List PoS.Rl} (h:GU T w B v xs) (hb:Below w.heap.size w w'):GU T w' B v xs:=
 World.ownsRow.kept h (AX hb) (by cases v.ownBlock <;> simp)
theorem GU.alloc {T:TypeId} {w:World} {B:Nat} {v:Value} {xs:List PoS.Rl} (h:GU T w B v xs) (o:Obj):GU T (w.alloc o) B v xs:=World.ownsRow.alloc h o
theorem GU.mono {T:TypeId} {w:World} {B B':Nat} {v:Value} {xs:List PoS.Rl} (h:GU T w B v xs) (hB:B'<=B):GU T w B' v xs:=by
 refine ⟨h.1,?_⟩
 rcases h.2 with h | ⟨g,cap,cur,e,hg,h⟩
 · exact .inl h
 · exact .inr ⟨g,cap,cur,e,Nat.le_trans hB hg,h⟩
end
section
open Go.RowKit
def MQ (r:List (List UInt8)):Prop:=r.length<=12/\(DnS.Ak r).length<=1000/\∀t ∈ r,DnS.SZ t
theorem MQ.texts {r:List (List UInt8)} (h:MQ r):DnS.Ad (DnS.Ak r)=(r,0):=DnS.Vq h.2.2 h.1 h.2.1
theorem MQ.ne {t:List UInt8} {r:List (List UInt8)} (h:MQ (t :: r)):DnS.Ak (t :: r)≠[]:=fun e=>by
 have h1:=h.texts
 rw [e] at h1
 have h2:DnS.Ad []=([],0):=by decide+kernel
 rw [h2] at h1
 have:=congrArg Prod.fst h1
 cases this
end
section
open Go.RowKit
theorem KB {α:Type} {p:α->Bool} {l:List α} {k:Nat} (hk:k<l.length) (h:p l[k]=true):(l.take (k+1)).filter p=(l.take k).filter p++[l[k]]:=by
 rw [List.take_succ_eq_append_getElem hk,List.filter_append,List.filter_cons,if_pos h,List.filter_nil]
theorem MR {α:Type} {p:α->Bool} {l:List α} {k:Nat} (hk:k<l.length) (h:p l[k]=false):(l.take (k+1)).filter p=(l.take k).filter p:=by
 rw [List.take_succ_eq_append_getElem hk,List.filter_append,List.filter_cons,if_neg (by rw [h];simp),List.filter_nil,List.append_nil]
theorem GP.filter {xs:List EnS.At} (h:GP xs) (p:EnS.At->Bool):GP (xs.filter p):=⟨Nat.le_trans (List.length_filter_le _ _) h.1,fun x hx=>h.2 x (List.mem_filter.1 hx).1⟩
theorem Bl.partsT {w:World} {C g o:Nat} {x:EnS.At} {Ts:List TypeId} (h:Bl (okT Ts C w) w g o x):w.cell? ⟨g,o,none⟩=some (.string ⟨x.typ.toArray⟩)/\∃a c,w.cell? ⟨g,o+1,none⟩=some (.slice a x.vals.length c)/\x.vals.length<=c/\Ap (okT Ts C w) w (.slice a x.vals.length c) x.vals:=by
 obtain ⟨h1,u,h2,h3⟩:=h
 obtain ⟨a,c,rfl,hc⟩:=Ae.form h3
 exact ⟨h1,a,c,h2,hc,h3⟩
end
section
open Go.RowKit
theorem FI.in {w:World} {C:Nat} {u:Value} {xs:List EnS.At} {Ts:List TypeId} (h:FI Ts C w u xs):BK w u xs:=
 Ae.imp h (Nat.le_refl _) (fun _ _ h=>h) fun _ _ _ _ _ hx=>by obtain ⟨h1,u,h2,h3⟩:=hx;exact ⟨h1,u,h2,h3.any⟩
theorem type_short (x:List UInt8):(RuS.typeOf x).1.length<=17:=by
 unfold RuS.typeOf
 rcases RuS.typeM_all (RuS.lower x) with h | h
 · rw [h];simp
 · exact h.2.2.2
end
section
open Go.RowKit
theorem LM:(Tryz.prog.info? 52).map (fun i=>(i.zero,i.size,i.bytes))=some (some (.agg #[.string ⟨#[]⟩,.slice none 0 0]),2,40):=by kernel_rfl
end
section
open Go.RowKit
attribute [local go_sem ↓] Go.wp_at_zero Go.wp_at_succ
theorem AdR {n:List UInt8} (h:SeS.Gh n) (A0:n≠[]):(DnS.EF n).2=true:=by
 unfold DnS.EF
 split
 · rename_i h0
   exact absurd (h.join.symm.trans (by rw [h0];rfl)) A0
 · rfl
def EO (nn:List UInt8) (sc:Int) (m:List UInt8):Bool:=decide (0<=sc/\sc<=2)&&SeS.inScope nn sc m
theorem Ac5 {l:List EnS.En} {s nn:List UInt8} {sc:Int} (h:DnS.Au s=(nn,0)):SeS.AV l s sc=l.filter (fun e=>EO nn sc e.name):=by
 unfold SeS.AV EO
 rw [h]
 by_cases hc:0<=sc/\sc<=2
 · rw [if_pos ⟨rfl,hc⟩]
   simp [hc]
 · rw [if_neg (fun k=>hc k.2)]
   simp [hc]
theorem Aai {l:List EnS.En} {s nn:List UInt8} {sc e0:Int} (h:DnS.Au s=(nn,e0)) (he:e0≠0):SeS.AV l s sc=[]:=by
 unfold SeS.AV
 rw [h,if_neg (fun k=>he k.1)]
theorem Aaj (w0:World) (u:Value) (l:List EnS.En) (s:List UInt8) (sc:Int) (w:World) (h:Bq w0 u l) (hb0:Below w0.heap.size w0 w) (hf:FH l) (hs:s.length<=1000000) (ho:SeS.BD l) (B7:∀e ∈ l,e.name≠[]) (hE:Env w):
  Calls Tryz.prog 16 #[u,.string ⟨s.toArray⟩,.int .i64 sc] w (fun e w'=>∃v,e=.returned v/\Av enK 52 [9,56] w0.heap.size w' w.heap.size v (SeS.AV l s sc)/\Below w.heap.size w w'):=by
 have B9:=Ik s hs w hE
 unfold BM at B9
 have C1:=hZ9 (fun nn (h:DnS.Au s=(nn,0))=>Ac5 (l:=l) (sc:=sc) h)
 have C2:=hZ9 (fun nn e0 (h:DnS.Au s=(nn,e0)) he=>Aai (l:=l) (sc:=sc) h he)
 obtain ⟨RS,E6⟩:∃r,SeS.AV l s sc=r:=⟨_,rfl⟩
 rw [E6] at C1 C2⊢
 clear E6
 obtain ⟨NN,E9⟩:∃p,DnS.Au s=p:=⟨_,rfl⟩
 have F5:=DnS.GZ s
 rw [E9] at B9 C1 C2 F5
 clear E9
 obtain ⟨nn,e0⟩:=NN
 simp only at B9 F5
 obtain ⟨a,c,rfl,hc,F9⟩:=Ae.at h
 have D2:=hZ9 F9
 have H2:l.length<=1048576:=hf.1
 have D0:=hZ9 (fun k (hk:k<l.length)=>ho _ (List.getElem_mem hk))
 have C7:=hZ9 (fun k (hk:k<l.length)=>B7 _ (List.getElem_mem hk))
 have C8:=hZ9 (fun k (hk:k<l.length)=>hf.2 _ (List.getElem_mem hk))
 have D3:=hZ9 (fun W (hb:Below w.heap.size w W)=>hE.below hb)
 have A9:=hZ9 (fun k (hk:k<l.length) h=>KB (p:=fun e=>EO nn sc e.name) hk h)
 have C9:=hZ9 (fun k (hk:k<l.length) h=>MR (p:=fun e=>EO nn sc e.name) hk h)
 have B0:=hZ9 (fun k=>show ((l.take k).filter (fun e=>EO nn sc e.name)).length<=1048576 from Nat.le_trans (List.length_filter_le _ _) (Nat.le_trans (by rw [List.length_take];omega) hf.1))
 have C6:Hid (l.take l.length=l):=hZ9 (List.take_length)
 obtain ⟨i0,hi,H1,G7,G3⟩:=info_parts LM
 have HI:=hZ9 hi
 clear F9 h hf ho B7 hi hE
 obtain ⟨L,hL⟩:∃m,l.length=m:=⟨_,rfl⟩
 have HL:=hZ9 hL
 rw [hL] at hc H2 C6⊢
 clear hL
 by_cases he:e0=0
 case neg=>
  have H6:(e0 !=0)=true:=by simpa using he
  have HR:=hZ9 (C2.out nn e0 rfl he)
  clear C2 C1 D2 D0 C7 C8 D3 A9 C9 B0 HI C6
  go_enter Tryz.func16,Tryz.ntmps16
  go_wp2_with fail
  refine B9.mono ?_;rintro e w1 ⟨rfl,D5⟩
  go_wp2_with fail
  go_ret
  exact ⟨_,rfl,by rw [HR.out];exact Av.empty _ _ _ _ _ _,D5⟩
 subst he
 have HR:=hZ9 (C1.out nn rfl)
 clear C2 C1
 go_enter Tryz.func16,Tryz.ntmps16
 go_wp2_with fail
 refine B9.mono ?_;rintro e w1 ⟨rfl,D5⟩
 clear B9
 go_wp2_with fail
 go_loopw [9,24] (fun out i wr=>∃k:Nat,k<=L/\i=.int .i64 k/\Av enK 52 [9,56] w0.heap.size wr w.heap.size out ((l.take k).filter (fun e=>EO nn sc e.name))/\Below w.heap.size w wr) (fun _ i _=>L - (intOf i).toNat)
 case atStart=>exact ⟨0,Nat.zero_le _,rfl,Av.empty _ _ _ _ _ _,D5⟩
 case round=>
  obtain ⟨k,hk,rfl,A8,hb⟩:=hrel
  obtain ⟨oa,oc,rfl⟩:=A8.form
  by_cases G6:k<L
  case neg=>
   have G2:k=L:=by omega
   subst G2
   have G5:=hZ9 (show (l.take k).filter (fun e=>EO nn sc e.name)=RS by rw [C6.out,HR.out])
   generalize (l.take k).filter (fun e=>EO nn sc e.name)=Q at*
   clear D2 D0 C7 C8 D3 A9 C9 B0 HI C6
   go_wp2_with fail
   go_ret
   exact ⟨_,rfl,by rw [<-G5.out];exact A8,hb⟩
  have A0:k<l.length:=by rw [HL.out];exact G6
  obtain ⟨g,o,rfl,hg,_,hra⟩:=D2.out k A0
  have A7:=hb0.trans (hb.mono hb0.size)
  have C5:=Db.call hra hg trivial A7
  obtain ⟨_,ax,cx,F0,_,D7⟩:=Db.parts hra
  obtain ⟨c0,a2,p2,c1,G9,_⟩:=Db.parts C5
  have B2:(Value.slice ax (l[k]'A0).attrs.length cx)=.slice a2 (l[k]'A0).attrs.length p2:=by
   have:=(A7.cell (p:=⟨g,o+k*2+1,none⟩) hg).trans F0
   rw [c1] at this
   exact (Option.some.inj this).symm
  rw [B2] at D7
  have E5:=Ao.exp (Ao.callT (D7.base [9]) A7)
  have F4:=C8.out k A0
  have F1:=D0.out k A0
  have B7:=C7.out k A0
  have A1:=A9.out k A0
  have B5:=C9.out k A0
  have H4:=B0.out k
  have B8:=fun C W hC h=>Ti C (l[k]'A0).name (l[k]'A0).attrs (.slice a2 (l[k]'A0).attrs.length p2) W hC h F4.2
  have E0:=AdR F1 B7
  clear hra C5 F0 D7 B2 D2 D0 C7 C8 A9 C9 B0 C6
  generalize l[k]=x at*
  obtain ⟨name,E7⟩:=x
  simp only at c0 c1 G9 E5 F4 F1 B7 A1 B5 B8 E0
  unfold JD at B8
  have H7:(0:Int)<=(k:Int):=by omega
  have H3:(k:Int)<(L:Int):=by omega
  have A2:=fun W hE=>XP name (by omega) W hE
  have B1:=fun W hE=>QM name nn (by omega) (by omega) W hE
  unfold OE at A2
  unfold DK at B1
  have A5:Hid (EO nn sc name=(decide (0<=sc/\sc<=2)&&(if sc=0 then name==nn else if sc=1 then (name !=[]&&(DnS.EF name).1==nn) else DnS.ED name nn))):=hZ9 rfl
  obtain ⟨PX,F2⟩:∃b,EO nn sc name=b:=⟨_,rfl⟩
  rw [F2] at A5 A1 B5
  clear F2
  generalize DnS.EF name=P at*
  obtain ⟨P1,P2⟩:=P
  generalize DnS.ED name nn=U at*
  simp only at A2 E0 A5
  subst E0
  generalize G0:E7.length=AL at*
  have G8:=hZ9 G0
  clear G0
  have D1:=Af wr (.cells #[.string ⟨name.toArray⟩,.slice a2 AL p2] 52)
  have D4:=Whole.made wr 52 #[.string ⟨name.toArray⟩,.slice a2 AL p2]
  have E4:=hb.trans (D1.mono hb.size)
  have A6:=A8.call D1
  have B4:=E5.callT D1
  have e0:=D4.cell 0
  have e1:=D4.cell 1
  simp only [List.getElem?_toArray,List.getElem?_cons_zero,List.getElem?_cons_succ] at e0 e1
  clear A8 E5 D1
  generalize ((l.take k).filter (fun e=>EO nn sc e.name))=Q at*
  go_upto_block 2 with fail
  go_cut [12] (fun b wd=>b=.bool PX/\Below (wr.alloc (.cells #[.string ⟨name.toArray⟩,.slice a2 AL p2] 52)).heap.size (wr.alloc (.cells #[.string ⟨name.toArray⟩,.slice a2 AL p2] 52)) wd)
  case first=>
   clear A1 B5 A6 B4 B8 HI HR
   have F6:=D3.out _ E4
   by_cases h0:sc=0
   · have HP:Hid ((name==nn)=PX):=hZ9 (by rw [A5.out];simp [h0])
     subst h0
     clear A5
     go_wp2_with fail
     go_meet
     exact ⟨by (rw [<-HP.out]) <;> rfl,Below.refl _ _⟩
   have d0:(sc==0)=false:=by simpa using h0
   by_cases h1:sc=1
   · have HP:Hid ((P1==nn)=PX):=hZ9 (by rw [A5.out,if_neg h0,if_pos h1];simp [h1,B7])
     subst h1
     clear A5
     have G4:=A2 _ F6
     clear A2
     go_wp2_with fail
     refine G4.mono ?_;rintro e w2 ⟨rfl,E3⟩
     go_wp2_with fail
     go_meet
     exact ⟨by (rw [<-HP.out]) <;> rfl,E3⟩
   have d1:(sc==1)=false:=by simpa using h1
   by_cases h2:sc=2
   · have HP:Hid (U=PX):=hZ9 (by rw [A5.out,if_neg h0,if_neg h1];simp [h2])
     subst h2
     clear A5
     have G1:=B1 _ F6
     clear B1
     go_wp2_with fail
     refine G1.mono ?_;rintro e w2 ⟨rfl,E3⟩
     go_wp2_with fail
     go_meet
     exact ⟨by (rw [<-HP.out]) <;> rfl,E3⟩
   have d2:(sc==2)=false:=by simpa using h2
   have HP:Hid (false=PX):=hZ9 (by rw [A5.out,decide_eq_false (by omega)];rfl)
   clear A5
   go_wp2_with fail
   go_meet
   exact ⟨by (rw [<-HP.out]) <;> rfl,Below.refl _ _⟩
  case rest=>
  obtain ⟨rfl,B6⟩:=hcut
  have D8:=E4.trans (B6.mono E4.size)
  have A4:=A6.call B6
  have E2:=B4.callT B6
  have f0:=Ab e0 B6
  have f1:=Ab e1 B6
  clear A6 B4 e0 e1 D4 A5 A2 B1
  obtain ⟨w5,rfl⟩:∃x,x=wc:=⟨_,rfl⟩
  cases PX with
  | false=>
   have HQ:=hZ9 (B5 rfl)
   clear A1 B5 B8 HI
   go_wp2_with fail
   go_roundw
   case rel=>exact ⟨k+1,by omega,by go_num,by rw [HQ.out];exact A4,D8⟩
   case measure=>simp [intOf];omega
  | true=>
   have HQ:=hZ9 (A1 rfl)
   have C4:=B8 w0.heap.size w5 (Nat.le_trans A7.size (Nat.le_trans (by simp) B6.size)) E2
   clear A1 B5 B8
   go_wp2_with fail
   refine C4.mono ?_
   rintro e w6 ⟨u6,rfl,A3,F7⟩
   have F8:=D8.trans (F7.mono D8.size)
   have B3:=A4.call F7
   have E1:=A3.attrsB (Ts':=[9,56]) (by simp) (by simp)
   obtain ⟨yb,yd,rfl⟩:=A3.form
   rw [G8.out] at E1⊢
   have D9:=Af w6 (.cells #[.string ⟨name.toArray⟩,.slice yb AL yd] 52)
   have F3:=Whole.made w6 52 #[.string ⟨name.toArray⟩,.slice yb AL yd]
   have E8:=F8.trans (D9.mono F8.size)
   have C0:=B3.call D9
   have D6:=Ao.callT E1 D9
   have b0:=F3.cell 0
   have b1:=F3.cell 1
   have hsz:=E8.size
   simp only [List.getElem?_toArray,List.getElem?_cons_zero,List.getElem?_cons_succ] at b0 b1
   clear C4 A3 A4 B3 E1
   go_wp2_with (at_builtin;refine OA enK 52 22 [9,56] (by decide) Tryz.underlying22 HI.out H1 G7 G3 (by rfl) (by rfl) _ _ (by rfl) w.heap.size hb0.size _ Q (by rfl) C0 w6.heap.size (by rfl) ⟨name,E7⟩ _ b0 b1 D6 (by omega) hsz ?_)
   intro v7 w7 C3 H0 H5
   go_wp2_with fail
   go_roundw
   case rel=>exact ⟨k+1,by omega,by go_num,by rw [HQ.out];exact C3,E8.trans H0⟩
   case measure=>simp [intOf];omega
end
section
open Go.Maps
def Ac6 (v:Value):Option (DataW Value × List MemPlace):=some (.held v,[])
def Aak (D:DataW Value) (f:List UInt8->Option Value):Prop:=∀s,(Maps.has D (.string s)=(f s).isSome)/\∀v,f s=some v->∀z,D.atKey (.string s) z=.held v
def CW (P:Program) (k:TypeId) (w:World) (b n:Nat) (f:List UInt8->Option Value):Prop:=∃D,w.ownsMap P k Ac6 b n D/\Aak D f
def NU (f:List UInt8->Option Value) (s:List UInt8) (v:Value):List UInt8->Option Value:=fun x=>if x=s then some v else f x
theorem TS (s:List UInt8):WideAt.IsKeyLit (.string s):=trivial
variable {P:Program} {k e t:TypeId} {w:World} {b n:Nat} {f:List UInt8->Option Value}
theorem CW.made (P:Program) (k:TypeId) (w:World):CW P k (w.alloc (.map #[] 0)) w.heap.size 0 (fun _=>none):=⟨_,World.ownsMap_made w P k Ac6,fun s=>⟨rfl,fun v h=>by cases h⟩⟩
theorem CW.kept {w':World} {row:Option Nat} (h:CW P k w b n f) (hg:w.grownBy w' row) (A0:some b≠row):CW P k w' b n f:=by
 obtain ⟨D,h1,h2⟩:=h
 exact ⟨D,h1.kept hg A0,h2⟩
theorem CW.lt (h:CW P k w b n f):b<w.heap.size:=by
 obtain ⟨D,h1,_⟩:=h
 exact h1.lt
theorem CW.look (h:CW P k w b n f) (hk:P.underlying k=some .string) (ht:P.underlying t=some (.map k e)) {z:Value} (hz:(zeroValue e).run P w=.ok z w) (s:List UInt8) (hs:s.length<=maxLen):
  (Instr.lookup t (.map (some b)) (.string ⟨s.toArray⟩) true).run P w=.ok (.tuple #[(f s).getD z,.bool (f s).isSome]) w/\(Instr.lookup t (.map (some b)) (.string ⟨s.toArray⟩) false).run P w=.ok ((f s).getD z) w:=by
 obtain ⟨D,h1,h2⟩:=h
 have A0:keyOf P k (.string ⟨s.toArray⟩)=some (.string s):=Go.WideMaps.keyOf_string_mk hk (by show (⟨s.toArray⟩:ByteArray).size<=_;show s.toArray.size<=_;rw [List.size_toArray];exact hs)
 obtain ⟨v,ps,hr,hv⟩:=h1.look_ok (Maps.string_keyed hk) ht hz (zd:=.held z) (zp:=[]) rfl A0
 obtain ⟨v2,A4,A3,A2⟩:=h1.lookup (Maps.string_keyed hk) ht hz (zd:=.held z) (zp:=[]) rfl A0
 obtain ⟨g1,g2⟩:=h2 s
 have A1:D.atKey (.string s) (.held z)=.held ((f s).getD z):=by
  cases hf:f s with
  | some y=>exact g2 y hf _
  | none=>rw [hf] at g1;exact Maps.atKey_of_not_has g1 _
 rw [A1] at hv A2
 have e1:v=(f s).getD z:=by
  have:=Option.some.inj hv
  simp only [Prod.mk.injEq,DataW.held.injEq] at this
  exact this.1
 have e2:v2=(f s).getD z:=by
  have:=Option.some.inj A2
  simp only [Prod.mk.injEq,DataW.held.injEq] at this
  exact this.1
 rw [<-g1]
 rw [e1] at hr
 rw [e2] at A3
 exact ⟨hr,A3⟩
theorem CW.store (h:CW P k w b n f) (hk:P.underlying k=some .string) (ht:P.underlying t=some (.map k e)) (hn:n<maxLen) (s:List UInt8) (hs:s.length<=maxLen) (v:Value):
  ∃w',(Instr.mapUpdate t (.map (some b)) (.string ⟨s.toArray⟩) v).run P w=.ok () w'/\CW P k w' b (n+1) (NU f s v)/\w.grownBy w' (some b)/\w'.heap.size=w.heap.size:=by
 obtain ⟨D,h1,h2⟩:=h
 have A0:keyOf P k (.string ⟨s.toArray⟩)=some (.string s):=Go.WideMaps.keyOf_string_mk hk (by show (⟨s.toArray⟩:ByteArray).size<=_;show s.toArray.size<=_;rw [List.size_toArray];exact hs)
 obtain ⟨w',hr,ho,A2⟩:=h1.store (Maps.string_keyed hk) ht hn A0 (d:=.held v) (ps:=[]) rfl
 have hI:=h1.isMap
 refine ⟨w',hr,⟨_,ho,fun x=>?_⟩,A2.grown,?_⟩
 · unfold NU
   by_cases hx:x=s
   · subst hx
     rw [if_pos rfl]
     refine ⟨Maps.has_put_same hI (TS x) _,fun y hy z=>?_⟩
     cases hy
     exact Maps.atKey_put_same hI (TS x) _ _
   · rw [if_neg hx]
     have A1:(Lit.string x)≠.string s:=fun e=>hx (by injection e)
     rw [Maps.has_put_other A1]
     exact ⟨(h2 x).1,fun y hy z=>by rw [Maps.atKey_put_other A1];exact (h2 x).2 y hy z⟩
 · obtain ⟨es,c,A3,c',_,rfl⟩:=A2
   simp [Go.ChangeMaps.setBlock]
def Dx (P:Program) (k:TypeId) (w:World) (b r n:Nat) (f:List UInt8->Option Value) (todo:List UInt8->Bool) (cnt:Nat):Prop:=
 ∃D left,w.ranges P k Ac6 b r n D left cnt/\Aak D f/\∀s,left (.string s)=todo s
variable {r cnt:Nat} {todo:List UInt8->Bool}
theorem Dx.kept {w':World} {row:Option Nat} (h:Dx P k w b r n f todo cnt) (hg:w.grownBy w' row) (A0:some b≠row) (A1:some r≠row):Dx P k w' b r n f todo cnt:=by
 obtain ⟨D,left,h1,h2,h3⟩:=h
 exact ⟨D,left,h1.kept hg A0 A1,h2,h3⟩
theorem Dx.left_eq (h:Dx P k w b r n f todo cnt):w.rangeLeft b r=cnt:=by
 obtain ⟨D,left,h1,_⟩:=h
 exact h1.left_eq
theorem Dx.lt (h:Dx P k w b r n f todo cnt):r<w.heap.size/\b<w.heap.size/\r≠b:=by
 obtain ⟨D,left,h1,_⟩:=h
 exact ⟨h1.lt,h1.owns.lt,h1.ne⟩
theorem CW.range (h:CW P k w b n f) (hk:P.underlying k=some .string) (ht:P.underlying t=some (.map k e)):
  ∃w',(Instr.range t (.map (some b))).run P w=.ok (.pointer (some ⟨w.heap.size,0,none⟩)) w'/\(∃cnt,Dx P k w' b w.heap.size n f (fun s=>(f s).isSome) cnt)/\w.grownBy w' none/\w'.heap.size=w.heap.size+1:=by
 obtain ⟨D,h1,h2⟩:=h
 obtain ⟨w',hr,hg,hb,hs⟩:=h1.range (Maps.string_keyed hk) ht
 exact ⟨w',hr,⟨_,D,_,hg,h2,fun s=>(h2 s).1⟩,hb,hs⟩
theorem Dx.next (h:Dx P k w b r n f todo cnt) (hk:P.underlying k=some .string) (ty:TypeId):
  ((∀s,todo s=false)/\(Instr.next (.pointer (some ⟨r,0,none⟩)) false ty).run P w=.ok (.tuple #[.bool false]) w)\/
  ∃(s:List UInt8) (v:Value) (w':World) (A0:Nat),s.length<=maxLen/\todo s=true/\f s=some v/\(Instr.next (.pointer (some ⟨r,0,none⟩)) false ty).run P w=.ok (.tuple #[.bool true,.string ⟨s.toArray⟩,v]) w'/\
   Dx P k w' b r n f (fun x=>todo x&&decide (x≠s)) A0/\A0<cnt/\w.grownBy w' (some r)/\w'.heap.size=w.heap.size/\(Instr.entry (.pointer (some ⟨r,0,none⟩))).run P w'=.ok (.tuple #[.string ⟨s.toArray⟩,v]) w':=by
 obtain ⟨D,left,h1,h2,h3⟩:=h
 rcases h1.next (Maps.string_keyed hk) ty with ⟨_,hl,A1⟩ | ⟨key,v,kl,y,w',A0,A3,A5,hv,A4,A1,A6,B0,A8,hsz,A9⟩
 · exact .inl ⟨fun s=>by rw [<-h3];exact hl _,A1⟩
 · obtain ⟨x,rfl,rfl,hx⟩:∃x:ByteArray,key=.string x/\kl=.string x.data.toList/\x.size<=maxLen:=by
    cases key <;> simp [keyOf,hk,mapKey] at A3
    obtain ⟨hx,rfl⟩:=A3
    exact ⟨_,rfl,rfl,hx⟩
   obtain ⟨l,rfl⟩:∃l:List UInt8,x=⟨l.toArray⟩:=⟨x.data.toList,by cases x;simp⟩
   simp only at A5 A4 A6
   cases hv
   have A2:(f l).isSome=true:=by
    cases hf:f l with
    | some _=>rfl
    | none=>
     have:=(h2 l).1
     rw [hf] at this
     have h4:=Maps.atKey_of_not_has this (.held (.bool true))
     have h5:=Maps.atKey_of_not_has this (.held (.bool false))
     rw [A4] at h4 h5
     rw [h4] at h5
     simp at h5
   obtain ⟨v',hf⟩:=Option.isSome_iff_exists.1 A2
   have A7:v=v':=by
    have:=(h2 l).2 v' hf (.held (.bool true))
    rw [A4] at this
    simpa using this
   subst A7
   refine .inr ⟨l,v,w',A0,by (have hx':l.toArray.size<=maxLen:=hx);rwa [List.size_toArray] at hx',by rw [<-h3];exact A5,hf,A1,⟨D,_,A6,h2,fun s=>?_⟩,B0,A8,hsz,A9⟩
   rw [h3]
   by_cases hs:s=l
   · subst hs
     rw [WideAt.sameKey_self (TS s)]
     simp
   · rw [Maps.sameKey_ne (fun e=>hs (by injection e))]
     simp [hs]
end
section
open Go.RowKit
structure But (S:Nat->Prop) (w w':World):Prop where
 os:w'.os=w.os
 tape:w'.tape=w.tape
 output:w'.output=w.output
 size:w.heap.size<=w'.heap.size
 block:∀k,k<w.heap.size->¬S k->w'.heap[k]?=w.heap[k]?
theorem But.refl (S:Nat->Prop) (w:World):But S w w:=⟨rfl,rfl,rfl,Nat.le_refl _,fun _ _ _=>rfl⟩
theorem But.trans {S S':Nat->Prop} {a b c:World} (h:But S a b) (k:But S' b c) (hS:∀i,i<a.heap.size->S' i->S i):But S a c:=
 ⟨k.os.trans h.os,k.tape.trans h.tape,k.output.trans h.output,Nat.le_trans h.size k.size,fun i hi hn=>(k.block i (Nat.lt_of_lt_of_le hi h.size) (fun hs=>hn (hS i hi hs))).trans (h.block i hi hn)⟩
theorem But.call {S:Nat->Prop} {a b c:World} (h:But S a b) (k:Below b.heap.size b c):But S a c:=
 ⟨k.os.trans h.os,k.tape.trans h.tape,k.output.trans h.output,Nat.le_trans h.size k.size,fun i hi hn=>(k.block i (Nat.lt_of_lt_of_le hi h.size)).trans (h.block i hi hn)⟩
theorem But.grown {S:Nat->Prop} {a b c:World} {row:Option Nat} (h:But S a b) (k:b.grownBy c row) (hr:∀i,i<a.heap.size->row=some i->S i):But S a c:=
 ⟨k.os.trans h.os,k.tape.trans h.tape,k.output.trans h.output,Nat.le_trans h.size k.size,fun i hi hn=>(k.block i (Nat.lt_of_lt_of_le hi h.size) (fun e=>hn (hr i hi e.symm))).trans (h.block i hi hn)⟩
theorem But.below {S:Nat->Prop} {w w':World} (h:But S w w') {B:Nat} (hB:B<=w.heap.size) (hS:∀i,S i->B<=i):Below B w w':=
 ⟨h.os,h.tape,h.output,h.size,fun k hk=>h.block k (Nat.lt_of_lt_of_le hk hB) (fun hs=>by have:=hS k hs;omega)⟩
theorem But.whole {S:Nat->Prop} {w w':World} (h:But S w w') {g:Nat} {T:TypeId} {cs:Array Value} (hw:Whole w g T cs) (hg:¬S g):Whole w' g T cs:=(h.block g hw.lt hg).trans hw
theorem Dk {w:World} {b:Nat} {P:Program} {k:TypeId} {n:Nat} {f:List UInt8->Option Value} (hm:CW P k w b n f) {g:Nat} {cs:Array Value} {T:TypeId} {fz:Nat × Nat} (h:w.heap[g]?=some (.cells cs T fz)):g≠b:=by
 rintro rfl
 obtain ⟨D,⟨es,c,hb,_⟩,_⟩:=hm
 rw [h] at hb
 cases hb
theorem Whole.mapped {w w':World} {g b:Nat} {T:TypeId} {cs:Array Value} (h:Whole w g T cs) (hg:w.grownBy w' (some b)) (A0:g≠b):Whole w' g T cs:=(hg.block g h.lt (fun e=>A0 (Option.some.inj e))).trans h
theorem Av.mapped {α:Type} {L:KLay α} {T:TypeId} {Ts:List TypeId} {C:Nat} {w w':World} {B:Nat} {v:Value} {xs:List α} (h:Av L T Ts C w B v xs) {P:Program} {k:TypeId} {b n:Nat} {f:List UInt8->Option Value} (hm:CW P k w b n f) (hC:C<=b) (hg:w.grownBy w' (some b)):Av L T Ts C w' B v xs:=by
 obtain ⟨us,h1,h2,h3⟩:=h
 have hv:v.ownBlock=none\/v.ownBlock≠some b:=by
  rcases h1.2 with ⟨rfl,_⟩ | ⟨g,cap,cur,rfl,_,hh,_⟩
  · exact .inl rfl
  · refine .inr (fun e=>?_)
    exact Dk hm hh (Option.some.inj e)
 refine ⟨us,h1.kept hg hv,h2,fun i u x hu hx=>?_⟩
 refine L.keep (h3 i u x hu hx) hg.size (fun g A1 A0=>hg.block g A1 (fun e=>?_)) (fun g A1 A0=>A0.same (hg.block g A1 (fun e=>?_)))
 all_goals
  have e:=Option.some.inj e
  subst e
  rcases A0 with A0 | ⟨cs,T',fz,hc,_⟩
  · omega
  · exact Dk hm hc rfl
end
end Go.Proofs.YtgngjfjaelgaeaaGreatDoor
