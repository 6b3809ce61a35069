/- Slices of places (a name and a scope, two cells an element) in memory. Conditions: as stated. -/
import Derived.Test.YtgngjfjaelgaeaaGreatDoorKDnv
set_option maxRecDepth 100000
set_option maxHeartbeats 4000000
namespace Go.Proofs.YtgngjfjaelgaeaaGreatDoor
section
open Go.RowKit
def Jq (w:World) (v:Value) (xs:List SeS.Pl):Prop:=
 ∃a c,v=.slice a xs.length c/\xs.length<=c/\(xs=[]\/∃g o,a=some ⟨g,o,none⟩/\g<w.heap.size/\
  ∀(j:Nat) (p:SeS.Pl),xs[j]?=some p->w.cell? ⟨g,o+j*2,none⟩=some (Ac p.1)/\w.cell? ⟨g,o+j*2+1,none⟩=some (.int .i64 p.2))
theorem Jq.call {w w':World} {v:Value} {xs:List SeS.Pl} (h:Jq w v xs) {B:Nat} (hb:Below B w w') (hB:w.heap.size<=B):Jq w' v xs:=by
 obtain ⟨a,c,rfl,hc,h⟩:=h
 refine ⟨a,c,rfl,hc,?_⟩
 rcases h with h | ⟨g,o,rfl,hg,h⟩
 · exact .inl h
 · refine .inr ⟨g,o,rfl,Nat.lt_of_lt_of_le hg hb.size,fun j p hj=>⟨?_,?_⟩⟩
   · exact (hb.cell (p:=⟨g,o+j*2,none⟩) (Nat.lt_of_lt_of_le hg hB)).trans (h j p hj).1
   · exact (hb.cell (p:=⟨g,o+j*2+1,none⟩) (Nat.lt_of_lt_of_le hg hB)).trans (h j p hj).2
theorem Jq.empty (w:World):Jq w (.slice none 0 0) []:=⟨Option.none,0,rfl,Nat.le_refl _,.inl rfl⟩
def plC (xs:List SeS.Pl):List Value:=xs.flatMap fun p=>[Ac p.1,.int .i64 p.2]
theorem Zp (xs ys:List SeS.Pl):plC (xs++ys)=plC xs++plC ys:=by unfold plC;rw [List.flatMap_append]
theorem Vx:∀(xs:List SeS.Pl) (j:Nat) (p:SeS.Pl),xs[j]?=some p->(plC xs)[j*2]?=some (Ac p.1)/\(plC xs)[j*2+1]?=some (.int .i64 p.2)
 | [],j,p,h=>by simp at h
 | q :: xs,0,p,h=>by have:=Option.some.inj h;subst this;exact ⟨rfl,rfl⟩
 | q :: xs,j+1,p,h=>by
  have:=Vx xs j p (by simpa using h)
  have e:plC (q :: xs)=Ac q.1 :: .int .i64 q.2 :: plC xs:=rfl
  rw [e,show (j+1)*2=j*2+1+1 from by omega]
  exact this
def Bt (T:TypeId) (w:World) (B:Nat) (v:Value) (xs:List SeS.Pl):Prop:=w.ownsRow B T 2 v xs.length (plC xs)
theorem Bt.empty (T:TypeId) (w:World) (B:Nat):Bt T w B (.slice none 0 0) []:=World.ownsRow_nil w B _ 2
theorem Bt.form {T:TypeId} {w:World} {B:Nat} {v:Value} {xs:List SeS.Pl} (h:Bt T w B v xs):∃a c,v=.slice a xs.length c:=by
 rcases h.2 with ⟨rfl,hn⟩ | ⟨g,cap,cur,rfl,_⟩
 · exact ⟨_,_,by rw [hn]⟩
 · exact ⟨_,_,rfl⟩
theorem Bt.call {T:TypeId} {w w':World} {B:Nat} {v:Value} {xs:List SeS.Pl} (h:Bt T w B v xs) (hb:Below w.heap.size w w'):Bt T w' B v xs:=
 World.ownsRow.kept h (AX hb) (by cases v.ownBlock <;> simp)
theorem Bt.alloc {T:TypeId} {w:World} {B:Nat} {v:Value} {xs:List SeS.Pl} (h:Bt T w B v xs) (o:Obj):Bt T (w.alloc o) B v xs:=World.ownsRow.alloc h o
theorem Bt.pls {T:TypeId} {w:World} {B:Nat} {v:Value} {xs:List SeS.Pl} (h:Bt T w B v xs):Jq w v xs:=by
 rcases h.2 with ⟨rfl,hn⟩ | ⟨g,cap,cur,rfl,hg,hh,hn,hm,hsz,A1⟩
 · exact ⟨Option.none,0,by rw [hn],by omega,.inl (List.eq_nil_of_length_eq_zero hn)⟩
 · refine ⟨some ⟨g,0,Option.none⟩,cap,rfl,hn,.inr ⟨g,0,rfl,(Array.getElem?_eq_some_iff.1 hh).1,fun j p hj=>?_⟩⟩
   have h2:=Vx xs j p hj
   have A0:∀k,(⟨g,0,Option.none⟩:Addr).add k=⟨g,0+k,Option.none⟩:=fun k=>by unfold Addr.add;split <;> simp_all
   have c1:=World.ownsRow.cells h (g:=g) rfl _ _ h2.1
   have c2:=World.ownsRow.cells h (g:=g) rfl _ _ h2.2
   rw [A0] at c1 c2
   exact ⟨c1,by rw [Nat.add_assoc];exact c2⟩
theorem AbI (g k:Nat):(⟨g,0,Option.none⟩:Addr).add k=⟨g,k,Option.none⟩:=by unfold Addr.add;split <;> simp_all
theorem Bt.slice {T:TypeId} {w:World} {B:Nat} {v:Value} {xs:List SeS.Pl} (h:Bt T w B v xs) (hn:0<xs.length):∃g cap,v=.slice (some ⟨g,0,Option.none⟩) xs.length cap/\xs.length<=cap/\B<=g/\(∃cur,w.heap[g]?=some (.cells cur T (0,0)))/\∀(j:Nat) (p:SeS.Pl),xs[j]?=some p->w.cell? ⟨g,j*2,Option.none⟩=some (Ac p.1)/\w.cell? ⟨g,j*2+1,Option.none⟩=some (.int .i64 p.2):=by
 rcases h.2 with ⟨_,h0⟩ | ⟨g,cap,cur,rfl,hg,hh,hc,_⟩
 · omega
 · refine ⟨g,cap,rfl,hc,hg,⟨cur,hh⟩,fun j p hj=>?_⟩
   have h2:=Vx xs j p hj
   have c1:=World.ownsRow.cells h (g:=g) rfl _ _ h2.1
   have c2:=World.ownsRow.cells h (g:=g) rfl _ _ h2.2
   rw [AbI] at c1 c2
   exact ⟨c1,c2⟩
theorem Bt.made {T:TypeId} {B:Nat} {w:World} (hB:B<=w.heap.size) (n:List UInt8) (s:Int):Bt T (w.alloc (.cells #[.string ⟨n.toArray⟩,.int .i64 s] T)) B (.slice (some ⟨w.heap.size,0,Option.none⟩) 1 1) [(n,s)]:=
 ⟨rfl,.inr ⟨w.heap.size,1,#[.string ⟨n.toArray⟩,.int .i64 s],rfl,hB,Whole.made w T _,Nat.le_refl _,by unfold maxLen;omega,rfl,rfl⟩⟩
theorem Bt.lt {T:TypeId} {w:World} {B:Nat} {v:Value} {xs:List SeS.Pl} (h:Bt T w B v xs) {k:Nat} (hk:v.ownBlock=some k):B<=k/\k<w.heap.size/\∃cur,w.heap[k]?=some (.cells cur T (0,0)):=by
 refine ⟨(World.ownsRow.lt h k hk).1,(World.ownsRow.lt h k hk).2,?_⟩
 rcases h.2 with ⟨rfl,_⟩ | ⟨g,cap,cur,rfl,_,hh,_⟩
 · cases hk
 · cases hk
   exact ⟨cur,hh⟩
theorem Ae1 {w:World} {ops:Array Oper} {rest:List Oper} {o:Oper} {a:Act} {Q:Exit->Act->World->Prop} (T sT:TypeId) (A5:Tryz.prog.underlying sT=some (.slice T)) {i0:TypeInfo} {z:Value}
  (hi:Tryz.prog.info? T=some i0) (hz:i0.zero=some z) (A2:i0.size=2) (A8:i0.bytes=24) (A4:z.cells.size=2) (A6:o.guard=none) (s x:Operand)
  (ho:o.op=.call { callee:=.builtin .append,args:=#[s,x],argTypes:=#[sT,sT] })
  (B:Nat) (v:Value) (xs:List SeS.Pl) (hs:a.eval s=v) (A0:Bt T w B v xs) (g:Nat) (hx:a.eval x=.slice (some ⟨g,0,Option.none⟩) 1 1)
  (p:SeS.Pl) (A3:w.cell? ⟨g,0,Option.none⟩=some (Ac p.1)) (A7:w.cell? ⟨g,1,Option.none⟩=some (.int .i64 p.2)) (hn:xs.length<=1000000000) (hB:B<=w.heap.size)
  (h:∀v' w',Bt T w' B v' (xs++[p])->Below B w w'->w.grownBy w' v.ownBlock->wpList Tryz.prog ops Q rest (a.put o.dst v') w'):wpList Tryz.prog ops Q (o :: rest) a w:=by
 refine wpList_append_own w A6 s x _ ho B T i0 z 2 24 A5 hi hz A2 A8 A4 (by decide) v xs.length (plC xs) hs A0 ⟨g,0,Option.none⟩ 1 1 [Ac p.1,.int .i64 p.2] hx rfl
  (fun j u hj=>?_) (fun u hu=>?_) (by unfold maxLen;omega) (by omega) hB (fun v' w' h1 h2 _=>h v' w' ?_ ?_ h2)
 · have A1:∀k,(⟨g,0,Option.none⟩:Addr).add k=⟨g,k,Option.none⟩:=fun k=>by unfold Addr.add;split <;> simp_all
   rw [A1]
   match j,hj with
   | 0,hj=>rw [A3];simpa using hj
   | 1,hj=>rw [A7];simpa using hj
 · simp only [List.mem_cons,List.not_mem_nil,or_false] at hu
   rcases hu with rfl | rfl <;> rfl
 · unfold Bt
   rw [Zp,List.length_append]
   exact h1
 · exact (Below.refl B w).grown h2 hB (fun k hk=>(World.ownsRow.lt A0 k hk).1)
theorem WL (T:TypeId) (hf:(Tryz.prog.fieldsOf T).toList.map (fun f=>(f.name== "_",f.type,f.offset))=[(false,9,0),(false,3,1)]) (ht:Tryz.prog.underlying T=some (.struct (Tryz.prog.fieldsOf T))) (hp:Tryz.prog.stoodInHeld T=false)
  (t1 t2:List UInt8) (u1 u2:Int) (w:World):(Op.equalIn 10000 T (.agg #[.string ⟨t1.toArray⟩,.int .i64 u1]) (.agg #[.string ⟨t2.toArray⟩,.int .i64 u2])).run Tryz.prog w=.ok (t1==t2&&u1==u2) w:=by
 rw [run_equalIn_struct w 9999 T _ _ ht hp]
 generalize (Tryz.prog.fieldsOf T).toList=fs at hf
 rcases fs with _ | ⟨f0,_ | ⟨f1,_ | ⟨f2,fs⟩⟩⟩
 · simp at hf
 · simp at hf
 · simp only [List.map_cons,List.map_nil,List.cons.injEq,Prod.mk.injEq,and_true] at hf
   obtain ⟨⟨n0,a0,o0⟩,⟨n1,a1,o1⟩⟩:=hf
   have A1:f0.name≠ "_":=by simpa using n0
   have A0:f1.name≠ "_":=by simpa using n1
   cases h1:(t1==t2) <;> cases h2:(u1==u2) <;> simp [Op.eqFields,A1,A0,a0,a1,o0,o1,go_sem,Tryz.underlying9,Tryz.underlying3,h1,h2,part]
 · simp at hf
end
section
open Go.RowKit
attribute [local go_sem ↓] Go.wp_at_zero Go.wp_at_succ
theorem Adr (sc:Int) (w:World):Calls Tryz.prog 26 #[.int .i64 sc] w fun e w'=>e=.returned (.int .i64 (SeS.Ha sc))/\w=w':=by
 have HB:Hid (SeS.Ha sc=if sc=2 then 2 else 0):=hZ9 rfl
 generalize SeS.Ha sc=B at*
 by_cases h:sc=2
 · have e:(sc==2)=true:=by simpa using h
   have HR:Hid (B=2):=hZ9 (by rw [HB.out,if_pos h])
   clear HB
   go_enter Tryz.func26,Tryz.ntmps26
   go_wp2_with fail
   go_ret
   exact ⟨by (rw [HR.out]) <;> rfl,by first | rfl | trivial⟩
 · have e:(sc==2)=false:=by simpa using h
   have HR:Hid (B=0):=hZ9 (by rw [HB.out,if_neg h])
   clear HB
   go_enter Tryz.func26,Tryz.ntmps26
   go_wp2_with fail
   go_ret
   exact ⟨by (rw [HR.out]) <;> rfl,by first | rfl | trivial⟩
theorem Ae2 {ps:List SeS.Pl} {p:SeS.Pl} {j:Nat} (hj:j<ps.length) (h:(ps[j]'hj==p)=true):ps.contains p=true:=by
 rw [List.contains_iff_mem]
 have:ps[j]'hj=p:=by simpa using h
 exact this ▸ List.getElem_mem hj
theorem Ae3 {ps:List SeS.Pl} {p:SeS.Pl} (h:∀j (hj:j<ps.length),(ps[j]'hj==p)=false):ps.contains p=false:=by
 rw [List.contains_eq_any_beq,List.any_eq_false]
 intro x hx
 obtain ⟨j,hj,rfl⟩:=List.mem_iff_getElem.1 hx
 have h1:=h j hj
 intro h2
 have e:ps[j]=p:=by
  have h3:(p==ps[j])=true:=h2
  simpa using (eq_of_beq h3).symm
 rw [e] at h1
 simp at h1
theorem Afq (a b:List UInt8) (x y:Int):(((a,x):SeS.Pl)==(b,y))=(a==b&&x==y):=rfl
theorem RI (v:Value) (ps:List SeS.Pl) (pn:List UInt8) (A0:Int) (w:World) (h:Jq w v ps) (hl:ps.length<=1048576):Calls Tryz.prog 59 #[v,.agg #[.string ⟨pn.toArray⟩,.int .i64 A0]] w fun e w'=>(∃r:Int,e=.returned (.int .i64 r)/\ps.contains ((pn,A0):SeS.Pl)=decide (0<=r))/\Below w.heap.size w w':=by
 have A1:=hZ9 (fun j (hj:j<ps.length) h=>Ae2 (p:=(pn,A0)) hj h)
 have A4:=hZ9 (fun h=>@Ae3 ps (pn,A0) h)
 obtain ⟨a,c,rfl,hc,A2⟩:=h
 have A7:Hid (∀j (hj:j<ps.length),∃g o,a=some ⟨g,o,none⟩/\g<w.heap.size/\w.cell? ⟨g,o+j*2,none⟩=some (Ac (ps[j]'hj).1)/\w.cell? ⟨g,o+j*2+1,none⟩=some (.int .i64 (ps[j]'hj).2)):=hZ9 (fun j hj=>by
  rcases A2 with rfl | ⟨g,o,rfl,hg,B7⟩
  · simp at hj
  · exact ⟨g,o,rfl,hg,B7 j _ (List.getElem?_eq_getElem hj)⟩)
 clear A2
 obtain ⟨L,hL⟩:∃m,ps.length=m:=⟨_,rfl⟩
 have HL:=hZ9 hL
 rw [hL] at hc hl⊢
 clear hL
 obtain ⟨CB,B0⟩:∃b,ps.contains ((pn,A0):SeS.Pl)=b:=⟨_,rfl⟩
 rw [B0] at A1 A4⊢
 clear B0
 have B1:=Af w (.cells #[.string ⟨pn.toArray⟩,.int .i64 A0] 65)
 have A8:=Whole.made w 65 #[.string ⟨pn.toArray⟩,.int .i64 A0]
 go_enter Tryz.func59,Tryz.ntmps59
 go_wp2_with fail
 go_loopw [8] (fun i wr=>∃j:Nat,j<=L/\i=.int .i64 j/\Whole wr w.heap.size 65 #[.string ⟨pn.toArray⟩,.int .i64 A0]/\Below w.heap.size w wr/\Hid (∀k (hk:k<ps.length),k<j->(ps[k]'hk==((pn,A0):SeS.Pl))=false)) (fun i _=>L - (intOf i).toNat)
 case atStart=>exact ⟨0,Nat.zero_le _,rfl,A8,B1,hZ9 (fun k hk h=>absurd h (Nat.not_lt_zero _))⟩
 case round=>
  obtain ⟨j,hj,rfl,hw,hb,HV⟩:=hrel
  clear A8 B1
  by_cases B3:j<L
  case neg=>
   have B4:j=L:=by omega
   have HR:Hid (CB=false):=hZ9 (A4.out (fun k hk=>HV.out k hk (by rw [HL.out] at hk;omega)))
   subst B4
   clear A1 A4 A7 HV
   go_wp2_with fail
   go_ret
   exact ⟨⟨-1,by first | rfl | trivial,by rw [HR.out];rfl⟩,hb⟩
  have A3:j<ps.length:=by rw [HL.out];exact B3
  obtain ⟨g,o,B5,hg,d0,d1⟩:=A7.out j A3
  subst B5
  have y0:wr.cell? ⟨g,o+j*2,none⟩=_:=(hb.cell (p:=⟨g,o+j*2,none⟩) hg).trans d0
  have y1:wr.cell? ⟨g,o+j*2+1,none⟩=_:=(hb.cell (p:=⟨g,o+j*2+1,none⟩) hg).trans d1
  have x0:=hw.cell 0
  have x1:=hw.cell 1
  simp only [List.getElem?_toArray,List.getElem?_cons_zero,List.getElem?_cons_succ] at x0 x1
  have HY:=hZ9 (A1.out j A3)
  have A6:Hid ((ps[j]'A3==((pn,A0):SeS.Pl))=false->∀k (hk:k<ps.length),k<j+1->(ps[k]'hk==((pn,A0):SeS.Pl))=false):=hZ9 (fun h k hk B2=>by
   rcases Nat.lt_or_eq_of_le (Nat.le_of_lt_succ B2) with h2 | rfl
   · exact HV.out k hk h2
   · exact h)
  clear d0 d1 A1 A4 A7 HV
  generalize ps[j]=t at*
  obtain ⟨tn,ts⟩:=t
  unfold Ac at y0
  have B8:(0:Int)<=(j:Int):=by omega
  have B9:(j:Int)<(L:Int):=by omega
  have C1:∀x y w,(eqGuard .eql 65 x y (.agg #[.string ⟨pn.toArray⟩,.int .i64 A0]) (.agg #[.string ⟨tn.toArray⟩,.int .i64 ts])).run Tryz.prog w=.ok () w:=fun x y w=>run_eqGuard_agg w .eql _ x y _ _ (by kernel_rfl)
  have A9:∀w,(binOp .eql 65 (.agg #[.string ⟨pn.toArray⟩,.int .i64 A0]) (.agg #[.string ⟨tn.toArray⟩,.int .i64 ts])).run Tryz.prog w=.ok (.bool (pn==tn&&A0==ts)) w:=fun w=>by
   rw [run_eql_struct,WL 65 (by kernel_rfl) (by kernel_rfl) (by kernel_rfl)];rfl
  have A5:Hid (((((tn,ts):SeS.Pl))==(pn,A0))=(pn==tn&&A0==ts)):=hZ9 (by rw [Afq,BEq.comm (a:=tn),BEq.comm (a:=ts)])
  cases hq:(pn==tn&&A0==ts) with
  | true=>
   rw [hq] at A9
   have HR:Hid (CB=true):=hZ9 (HY.out (by rw [A5.out,hq]))
   clear HY A6 A5 hq
   go_wp2_with fail
   go_quiet (fail)
   go_wp2_with fail
   go_ret
   exact ⟨⟨(j:Int),by first | rfl | trivial,by rw [HR.out];simp⟩,hb.trans ((below_drewN wr _).mono hb.size)⟩
  | false=>
   rw [hq] at A9
   have B6:=hZ9 (A6.out (by rw [A5.out,hq]))
   clear HY A6 A5 hq
   have C0:=hw.call (below_drewN wr 1)
   go_wp2_with fail
   go_quiet (fail)
   go_wp2_with fail
   go_roundw
   case rel=>exact ⟨j+1,by omega,by go_num,hw.call (below_drewN wr _),hb.trans ((below_drewN wr _).mono hb.size),B6⟩
   case measure=>simp [intOf];omega
theorem Vy (v:Value) (ps:List SeS.Pl) (pn:List UInt8) (A0:Int) (w:World) (h:Jq w v ps) (hl:ps.length<=1048576):Calls Tryz.prog 27 #[v,.agg #[.string ⟨pn.toArray⟩,.int .i64 A0]] w fun e w'=>e=.returned (.bool (ps.contains ((pn,A0):SeS.Pl)))/\Below w.heap.size w w':=by
 have A2:=Af w (.cells #[.string ⟨pn.toArray⟩,.int .i64 A0] 65)
 have hi:=RI v ps pn A0 w h hl
 have A4:=RI v ps pn A0 _ (h.call A2 (Nat.le_refl _)) hl
 obtain ⟨a,c,rfl,_⟩:=h
 obtain ⟨CB,A3⟩:∃b,ps.contains ((pn,A0):SeS.Pl)=b:=⟨_,rfl⟩
 rw [A3] at hi A4⊢
 clear A3
 generalize ps.length=L at*
 go_enter Tryz.func27,Tryz.ntmps27
 go_wp2_with fail
 first
 | (refine hi.mono ?_;rintro e w1 ⟨⟨r,rfl,hr⟩,A1⟩
    subst hr
    go_wp2_with fail
    go_ret
    exact ⟨by first | rfl | trivial,A1⟩)
 | (refine A4.mono ?_;rintro e w1 ⟨⟨r,rfl,hr⟩,A1⟩
    have A5:=A2.trans (A1.mono A2.size)
    subst hr
    go_wp2_with fail
    go_ret
    exact ⟨by first | rfl | trivial,A5⟩)
end
end Go.Proofs.YtgngjfjaelgaeaaGreatDoor
