/- The walks of Small, and of what makes a filter formed (the program's, the document's). Conditions: as stated. -/
import Derived.Test.YtgngjfjaelgaeaaGreatDoorKFid
set_option maxRecDepth 100000
set_option maxHeartbeats 4000000
namespace Go.Proofs.YtgngjfjaelgaeaaGreatDoor
section
namespace FiS
mutual
def wdF (n:Nat):Fi->Prop
 | .mk _ a v f l s ps=>(a.length<=n/\v.length<=n/\f.length<=n/\l.length<=n)/\s.length<=n/\(∀t ∈ s,t.length<=n)/\ps.length<=n/\wdL n ps
def wdL (n:Nat):List Fi->Prop
 | []=>True
 | p :: r=>wdF n p/\wdL n r
end
mutual
theorem Oo {n m:Nat} (A0:n<=m):∀x:Fi,wdF n x->wdF m x
 | .mk k a v f l s ps,h=>by
  rw [wdF] at h⊢
  obtain ⟨⟨h1,h2,h3,h4⟩,h5,h6,h7,h8⟩:=h
  exact ⟨⟨by omega,by omega,by omega,by omega⟩,by omega,fun t ht=>Nat.le_trans (h6 t ht) A0,by omega,Vz A0 ps h8⟩
theorem Vz {n m:Nat} (A0:n<=m):∀l:List Fi,wdL n l->wdL m l
 | [],_=>by rw [wdL];trivial
 | p :: r,h=>by
  rw [wdL] at h⊢
  exact ⟨Oo A0 p h.1,Vz A0 r h.2⟩
end
theorem JW {n:Nat}:∀{l:List Fi},wdL n l↔∀j (hj:j<l.length),wdF n (l[j]'hj)
 | []=>⟨fun _ j hj=>by simp at hj,fun _=>by rw [wdL];trivial⟩
 | p :: r=>by
  rw [wdL,JW (l:=r)]
  constructor
  · rintro ⟨h1,h2⟩ j hj
    cases j with
    | zero=>exact h1
    | succ j=>exact h2 j (by simpa using hj)
  · intro h
    exact ⟨h 0 (by simp),fun j hj=>h (j+1) (by simpa using hj)⟩
theorem RJ:∀{ps:List Fi} {j:Nat} (hj:j<ps.length),allL (ps.take (j+1))=(allL (ps.take j)&&Ey (ps[j]'hj))
 | [],j,hj=>by simp at hj
 | p :: r,0,_=>by
  show (Ey p&&allL (r.take 0))=(allL []&&Ey p)
  simp [allL]
 | p :: r,j+1,hj=>by
  have ih:=RJ (ps:=r) (j:=j) (by simpa using hj)
  show (Ey p&&allL (r.take (j+1)))=(Ey p&&allL (r.take j)&&Ey (r[j]'(by simpa using hj)))
  rw [ih,Bool.and_assoc]
theorem VA:∀{ps:List Fi} {j:Nat} (hj:j<ps.length),Ey (ps[j]'hj)=false->allL ps=false
 | [],j,hj,_=>by simp at hj
 | p :: r,0,_,h=>by
  show (Ey p&&allL r)=false
  rw [show Ey p=false from h];rfl
 | p :: r,j+1,hj,h=>by
  show (Ey p&&allL r)=false
  rw [VA (ps:=r) (j:=j) (by simpa using hj) h,Bool.and_false]
theorem RL:∀{ps:List Fi} {j:Nat} (hj:j<ps.length),depth (ps[j]'hj)<=CQ ps
 | [],j,hj=>by simp at hj
 | p :: r,0,_=>by show depth p<=max (depth p) (CQ r);omega
 | p :: r,j+1,hj=>by
  have:=RL (ps:=r) (j:=j) (by simpa using hj)
  show depth (r[j]'(by simpa using hj))<=max (depth p) (CQ r)
  omega
def Eg (d:Nat) (x:Fi):Bool:=decide (d+depth x<=21)&&Ey x
theorem Ads {d:Nat} {k:Int} {a v f l:List UInt8} {s:List (List UInt8)} {ps:List Fi}:Eg d (.mk k a v f l s ps)=(decide (d<=20/\d+1+CQ ps<=21)&&(KV (.mk k a v f l s ps)&&allL ps)):=by
 unfold Eg
 rw [depth,Ey]
 congr 1
 exact decide_eq_decide.2 ⟨fun h=>by omega,fun h=>by omega⟩
theorem AbJ (x:Fi):formedS x=(decide (nodes x<=40)&&Eg 1 x):=by
 unfold formedS Eg
 congr 2
 exact decide_eq_decide.2 ⟨fun h=>by omega,fun h=>by omega⟩
theorem AbK {d:Nat} {ps:List Fi} {j:Nat} (hj:j<ps.length) (h:Eg (d+1) (ps[j]'hj)=false):(decide (d<=20/\d+1+CQ ps<=21)&&allL ps)=false:=by
 unfold Eg at h
 have hd:=RL hj
 cases ha:Ey (ps[j]'hj) with
 | false=>rw [VA hj ha,Bool.and_false]
 | true=>
  rw [ha,Bool.and_true,decide_eq_false_iff_not] at h
  rw [decide_eq_false (by omega),Bool.false_and]
def Nb (d:Nat) (ps:List Fi):Prop:=d+1+CQ ps<=21/\allL ps=true
theorem AbL {d:Nat} (h:d<=20):Nb d []:=⟨by simp [CQ];omega,rfl⟩
theorem Zq {d:Nat} {ps:List Fi} {j:Nat} (hj:j<ps.length) (h:Eg (d+1) (ps[j]'hj)=true) (ht:Nb d (ps.take j)):Nb d (ps.take (j+1)):=by
 unfold Eg at h
 rw [Bool.and_eq_true,decide_eq_true_eq] at h
 refine ⟨?_,by rw [RJ hj,ht.2,h.2];rfl⟩
 rw [Jy hj]
 have:=ht.1
 omega
end FiS
open Go.RowKit
open FiS (Fi)
attribute [local go_sem ↓] Go.wp_at_zero Go.wp_at_succ
def XD (n:Nat):Prop:=∀(x:Fi) (v:Value) (w:World) (d:Nat) (di:Int),Dq n w v x->FiS.wdF 20000 x->d<=21->di=(d:Int)->Calls Tryz.prog 89 #[v,.int .i64 di] w (CH (FiS.Eg d x) w)
theorem Zr:∀n,XD n:=IA (fun n IH=>by
 unfold XD CH at*
 intro x v w D di h C3 hD C9
 have D3:0<=di/\di<=21:=by omega
 have A0:=fun w h ha hs=>Afg n x v w h ha hs
 unfold CH at A0
 obtain ⟨kd,A5,vl,fs,ls,an,ps⟩:=x
 obtain ⟨a5,c5,a6,c6,hv,B8,C0,B3⟩:=FiV.parts h
 have hv:v=.agg #[.int .i64 kd,.string ⟨A5.toArray⟩,.string ⟨vl.toArray⟩,.string ⟨fs.toArray⟩,.string ⟨ls.toArray⟩,.slice a5 an.length c5,.slice a6 ps.length c6]:=hv
 subst hv
 have B8:Ai w (.slice a5 an.length c5) an:=B8
 have C0:ps.length<=c6:=C0
 have B3:BR n (fun _=>True) w (.slice a6 ps.length c6) ps:=B3
 rw [FiS.wdF] at C3
 obtain ⟨⟨ha,_⟩,hs,_,E0,C6⟩:=C3
 have C1:=hZ9 (FiS.JW.1 C6)
 clear C6
 have A0:=fun w h=>A0 w h ha (by show an.length<=_;omega)
 have A6:=hZ9 (fun j (hj:j<ps.length) (h:FiS.Eg (D+1) (ps[j]'hj)=false)=>FiS.AbK hj h)
 have A1:=hZ9 (fun j (hj:j<ps.length) (h:FiS.Eg (D+1) (ps[j]'hj)=true) (ht:FiS.Nb D (ps.take j))=>FiS.Zq hj h ht)
 have B0:=hZ9 (fun h:D<=20=>FiS.AbL h)
 have B2:Hid (ps.take ps.length=ps):=hZ9 (List.take_length)
 have C5:Hid (FiS.Nb D ps->D+1+FiS.CQ ps<=21/\FiS.allL ps=true):=hZ9 (fun h=>h)
 have A4:Hid (FiS.Eg D (.mk kd A5 vl fs ls an ps)=(decide (D<=20/\D+1+FiS.CQ ps<=21)&&(FiS.KV (.mk kd A5 vl fs ls an ps)&&FiS.allL ps))):=hZ9 FiS.Ads
 obtain ⟨AL,B4⟩:∃m,an.length=m:=⟨_,rfl⟩
 obtain ⟨PL,A8⟩:∃m,ps.length=m:=⟨_,rfl⟩
 have D7:=hZ9 B4
 have C7:=hZ9 A8
 rw [B4] at B8
 rw [A8] at C0 B3
 obtain ⟨R,hR⟩:∃b,FiS.Eg D (.mk kd A5 vl fs ls an ps)=b:=⟨_,rfl⟩
 obtain ⟨B,hB⟩:∃b,FiS.KV (.mk kd A5 vl fs ls an ps)=b:=⟨_,rfl⟩
 rw [hR,hB] at A4
 rw [hR]
 rw [hB] at A0
 clear hB hR
 have A7:=Af w (.cells #[.int .i64 kd,.string ⟨A5.toArray⟩,.string ⟨vl.toArray⟩,.string ⟨fs.toArray⟩,.string ⟨ls.toArray⟩,.slice a5 AL c5,.slice a6 PL c6] 36)
 have B9:=Whole.made w 36 #[.int .i64 kd,.string ⟨A5.toArray⟩,.string ⟨vl.toArray⟩,.string ⟨fs.toArray⟩,.string ⟨ls.toArray⟩,.slice a5 AL c5,.slice a6 PL c6]
 have D1:Dq n w (.agg #[.int .i64 kd,.string ⟨A5.toArray⟩,.string ⟨vl.toArray⟩,.string ⟨fs.toArray⟩,.string ⟨ls.toArray⟩,.slice a5 AL c5,.slice a6 PL c6]) (.mk kd A5 vl fs ls an ps):=by rw [B4,A8] at h;exact h
 rw [B4,A8] at A0⊢
 have A0:=A0 _ (D1.call A7)
 have C2:=hZ9 (fun j (hj:j<ps.length)=>BR.at B3 j hj)
 rw [A8] at B2
 obtain ⟨q0,q1,q2,q3,q4,q5,q6⟩:=B9.seven
 have B1:=hZ9 B9
 clear h B8 B3 B4 A8 D7 D1 B9
 have B5:decide ((20:Int)<di)=decide (20<D):=decide_eq_decide.2 (by omega)
 have D8:=hZ9 C9
 clear C9
 by_cases hd:20<D
 · rw [decide_eq_true hd] at B5
   have HR:Hid (R=false):=hZ9 (by rw [A4.out,decide_eq_false (by omega),Bool.false_and])
   clear A4 A0 IH
   go_enter Tryz.func89,Tryz.ntmps89
   go_wp2_with fail
   go_ret
   exact ⟨by (rw [HR.out]) <;> rfl,A7⟩
 rw [decide_eq_false hd] at B5
 cases B with
 | false=>
  have HR:Hid (R=false):=hZ9 (by rw [A4.out];simp)
  clear A4 IH
  go_enter Tryz.func89,Tryz.ntmps89
  go_wp2_with fail
  refine A0.mono ?_;rintro e w2 ⟨rfl,A3⟩
  go_wp2_with fail
  go_ret
  exact ⟨by (rw [HR.out]) <;> rfl,A7.trans (A3.mono A7.size)⟩
 | true=>
  go_enter Tryz.func89,Tryz.ntmps89
  go_wp2_with fail
  refine A0.mono ?_;rintro e w2 ⟨rfl,A3⟩
  have D2:=A7.trans (A3.mono A7.size)
  clear q0 q1 q2 q3 q4 q5 q6
  obtain ⟨q0,q1,q2,q3,q4,q5,q6⟩:=(B1.out.call A3).seven
  clear A0
  go_wp2_with fail
  go_loopw [17] (fun i wr=>∃j:Nat,j<=PL/\i=.int .i64 j/\Hid (FiS.Nb D (ps.take j))/\Below w.heap.size w wr) (fun i _=>PL - (intOf i).toNat)
  case atStart=>exact ⟨0,Nat.zero_le _,rfl,hZ9 (B0.out (by omega)),D2⟩
  case round=>
   obtain ⟨j,hj,rfl,HA,hb⟩:=hrel
   clear A7 D2 A3 q0 q1 q2 q3 q4 q5 q6 B1
   by_cases D4:j<PL
   · have A2:j<ps.length:=by rw [C7.out];exact D4
     have D5:j<=20000:=by have:=C7.out;omega
     have HB:=hZ9 (fun h=>A6.out j A2 h)
     have HS:=hZ9 (fun h=>A1.out j A2 h HA.out)
     have D0:=C1.out j A2
     obtain ⟨d,rfl,g,o,rfl,hg,b5,d5,b6,d6,B7,y0,y1,y2,y3,y4,y5,y6⟩:=C2.out j A2
     have B7:=B7.call hb
     have y0:=(hb.cell (p:=⟨g,o+j*7,none⟩) hg).trans y0
     have y1:=(hb.cell (p:=⟨g,o+j*7+1,none⟩) hg).trans y1
     have y2:=(hb.cell (p:=⟨g,o+j*7+2,none⟩) hg).trans y2
     have y3:=(hb.cell (p:=⟨g,o+j*7+3,none⟩) hg).trans y3
     have y4:=(hb.cell (p:=⟨g,o+j*7+4,none⟩) hg).trans y4
     have y5:=(hb.cell (p:=⟨g,o+j*7+5,none⟩) hg).trans y5
     have y6:=(hb.cell (p:=⟨g,o+j*7+6,none⟩) hg).trans y6
     have A9:=fun v W h=>IH d rfl (ps[j]'A2) v W (D+1) (di+1) h D0 (by omega) (by have:=D8.out;omega)
     clear IH C2 A6 A1 C1
     generalize ps[j]=p at*
     generalize p.any.length=PA at*
     generalize p.parts.length=PP at*
     have E1:(0:Int)<=(j:Int):=by omega
     have D9:(j:Int)<(PL:Int):=by omega
     have C8:=Af wr (.cells #[.int .i64 p.kind,.string ⟨p.attr.toArray⟩,.string ⟨p.value.toArray⟩,.string ⟨p.first.toArray⟩,.string ⟨p.last.toArray⟩,.slice b5 PA d5,.slice b6 PP d6] 36)
     have C4:=Whole.made wr 36 #[.int .i64 p.kind,.string ⟨p.attr.toArray⟩,.string ⟨p.value.toArray⟩,.string ⟨p.first.toArray⟩,.string ⟨p.last.toArray⟩,.slice b5 PA d5,.slice b6 PP d6]
     obtain ⟨x0,x1,x2,x3,x4,x5,x6⟩:=C4.seven
     have B6:=hb.trans (C8.mono hb.size)
     have hc:=A9 _ _ (B7.call C8)
     clear A9 B7 C4 D0
     cases hq:FiS.Eg (D+1) p with
     | true=>
      have D6:=hZ9 (HS.out hq)
      rw [hq] at hc
      clear hq HS HB HA
      go_wp2_with fail
      refine hc.mono ?_;rintro e w2 ⟨rfl,A3⟩
      go_wp2_with fail
      go_roundw
      case rel=>exact ⟨j+1,by omega,by go_num,D6,B6.trans (A3.mono B6.size)⟩
      case measure=>simp [intOf];omega
     | false=>
      have HR:Hid (R=false):=hZ9 (by rw [A4.out,Bool.true_and];exact HB.out hq)
      rw [hq] at hc
      clear hq HS HB HA A4
      go_wp2_with fail
      refine hc.mono ?_;rintro e w2 ⟨rfl,A3⟩
      go_wp2_with fail
      go_ret
      exact ⟨by (rw [HR.out]) <;> rfl,B6.trans (A3.mono B6.size)⟩
   · have HR:Hid (R=true):=hZ9 (by
      have h1:=HA.out
      rw [show j=PL by omega,B2.out] at h1
      obtain ⟨h2,h3⟩:=C5.out h1
      rw [A4.out,decide_eq_true ⟨by omega,h2⟩,h3];rfl)
     clear IH C2 A6 A1 C1 HA A4 C5 B0
     go_wp2_with fail
     go_ret
     exact ⟨by (rw [HR.out]) <;> rfl,hb⟩)
theorem PZ (n:Nat) (x:Fi) (v:Value) (w:World) (h:Dq n w v x) (A6:FiS.wdF 20000 x):Calls Tryz.prog 56 #[v] w (CH (FiS.formedS x) w):=by
 have hn:=fun W h=>AdI n x v W h
 have hf:=fun W h=>Zr n x v W 1 1 h A6 (by omega) rfl
 unfold CH at*
 have HR:Hid (FiS.formedS x=(decide (FiS.nodes x<=40)&&FiS.Eg 1 x)):=hZ9 (FiS.AbJ x)
 generalize FiS.formedS x=R at*
 generalize FiS.nodes x=N at*
 generalize FiS.Eg 1 x=B at*
 obtain ⟨a5,c5,a6,c6,hv,B0,B1,A7⟩:=FiV.parts h
 generalize x.any.length=AL at*
 generalize x.parts.length=PL at*
 generalize x.kind=kd at*
 generalize x.attr=at0 at*
 generalize x.value=vl at*
 generalize x.first=fs at*
 generalize x.last=ls at*
 subst hv
 have A4:=Af w (.cells #[.int .i64 kd,.string ⟨at0.toArray⟩,.string ⟨vl.toArray⟩,.string ⟨fs.toArray⟩,.string ⟨ls.toArray⟩,.slice a5 AL c5,.slice a6 PL c6] 36)
 have A1:=Whole.made w 36 #[.int .i64 kd,.string ⟨at0.toArray⟩,.string ⟨vl.toArray⟩,.string ⟨fs.toArray⟩,.string ⟨ls.toArray⟩,.slice a5 AL c5,.slice a6 PL c6]
 obtain ⟨q0,q1,q2,q3,q4,q5,q6⟩:=A1.seven
 have A3:=hn _ (h.call A4)
 obtain ⟨M,hM⟩:∃m,min N 41=m:=⟨_,rfl⟩
 rw [hM] at A3
 clear B0 A7 hn
 go_enter Tryz.func56,Tryz.ntmps56
 go_wp2_with fail
 refine A3.mono ?_;rintro e w2 ⟨rfl,A5⟩
 have A0:=A4.trans (A5.mono A4.size)
 have A9:=hf _ (h.call A0)
 clear q0 q1 q2 q3 q4 q5 q6 A3 h hf
 obtain ⟨q0,q1,q2,q3,q4,q5,q6⟩:=(A1.call A5).seven
 clear A1
 by_cases hN:M<=40
 · have hi:decide ((M:Int)<=40)=true:=decide_eq_true (by omega)
   have A2:Hid (R=B):=hZ9 (by rw [HR.out,decide_eq_true (by omega),Bool.true_and])
   clear HR hM
   go_wp2_with fail
   refine A9.mono ?_;rintro e w3 ⟨rfl,A8⟩
   go_wp2_with fail
   go_ret
   exact ⟨by (rw [A2.out]) <;> rfl,A0.trans (A8.mono A0.size)⟩
 · have hi:decide ((M:Int)<=40)=false:=decide_eq_false (by omega)
   have A2:Hid (R=false):=hZ9 (by rw [HR.out,decide_eq_false (by omega),Bool.false_and])
   clear HR hM
   go_wp2_with fail
   go_ret
   exact ⟨by (rw [A2.out]) <;> rfl,A0⟩
end
section
open Go.RowKit
open FiS (Fi)
attribute [local go_sem ↓] Go.wp_at_zero Go.wp_at_succ
def Oq (x:Fi) (d lf:Nat) (w:World) (e:Ending) (w':World):Prop:=∃r:Int,e=.returned (.int .i64 r)/\-1<=r/\r<=60/\Hid (0<=r->FiS.wdF 2000 x/\d+FiS.depth x<=41/\r+FiS.nodes x=lf)/\Below w.heap.size w w'
def VB (n:Nat):Prop:=∀(x:Fi) (v:Value) (w:World) (d lf:Nat) (di li:Int),Dq n w v x->d<=41->lf<=60->di=(d:Int)->li=(lf:Int)->Calls Tryz.prog 87 #[v,.int .i64 di,.int .i64 li] w (Oq x d lf w)
def SmT (ps:List Fi) (d lf j:Nat) (r:Int):Prop:=0<=r->(∀i (hi:i<ps.length),i<j->FiS.wdF 2000 (ps[i]'hi))/\d+1+FiS.CQ (ps.take j)<=41/\r+1+FiS.Bz (ps.take j)=lf
theorem SmT.step {ps:List Fi} {d lf j m:Nat} {r r2:Int} (hj:j<ps.length) (hm:(m:Int)=r) (h:SmT ps d lf j r) (h2:0<=r2->FiS.wdF 2000 (ps[j]'hj)/\d+1+FiS.depth (ps[j]'hj)<=41/\r2+FiS.nodes (ps[j]'hj)=m):SmT ps d lf (j+1) r2:=by
 intro hr
 obtain ⟨h3,h4,h5⟩:=h2 hr
 obtain ⟨h6,h7,h8⟩:=h (by omega)
 refine ⟨fun i hi A0=>?_,?_,?_⟩
 · by_cases e:i=j
   · subst e;exact h3
   · exact h6 i hi (by omega)
 · rw [FiS.Jy hj];omega
 · rw [FiS.Jw hj];omega
theorem AbM:∀n,VB n:=IA (fun n IH=>by
 unfold VB Oq at*
 intro x v w D lf di li h hD F3 D1 D0
 obtain ⟨kd,A2,vl,fs,ls,an,ps⟩:=x
 obtain ⟨a5,c5,a6,c6,hv,B5,C3,B4⟩:=FiV.parts h
 have hv:v=.agg #[.int .i64 kd,.string ⟨A2.toArray⟩,.string ⟨vl.toArray⟩,.string ⟨fs.toArray⟩,.string ⟨ls.toArray⟩,.slice a5 an.length c5,.slice a6 ps.length c6]:=hv
 subst hv
 have B5:Ai w (.slice a5 an.length c5) an:=B5
 have C3:ps.length<=c6:=C3
 have B4:BR n (fun _=>True) w (.slice a6 ps.length c6) ps:=B4
 have A0:=hZ9 (fun j (hj:j<ps.length) (m:Nat) (r r2:Int) (hm:(m:Int)=r) (h:SmT ps D lf j r) h2=>SmT.step (r2:=r2) hj hm h h2)
 have A1:Hid (∀r:Int,D<=40->r+1=lf->SmT ps D lf 0 r):=hZ9 (fun r h1 h2 h3=>⟨fun i hi h=>by omega,by simp [FiS.CQ];omega,by simp [FiS.Bz];omega⟩)
 have C7:=hZ9 (fun j (hj:j<=ps.length)=>FiS.QS hj)
 have C5:Hid (ps.take ps.length=ps):=hZ9 (List.take_length)
 have E2:Hid (ps.length<=FiS.Bz ps):=hZ9 (FiS.LF ps)
 have A8:Hid (∀r:Int,SmT ps D lf ps.length r->(A2.length<=2000/\vl.length<=2000/\fs.length<=2000/\ls.length<=2000)->an.length<=2000->(∀t ∈ an,t.length<=2000)->0<=r->FiS.wdF 2000 (.mk kd A2 vl fs ls an ps)/\D+FiS.depth (.mk kd A2 vl fs ls an ps)<=41/\r+FiS.nodes (.mk kd A2 vl fs ls an ps)=lf):=hZ9 (fun r h1 h2 h3 h4 h5=>by
  obtain ⟨h6,h7,h8⟩:=h1 h5
  rw [C5.out] at h7 h8
  rw [FiS.wdF,FiS.depth,FiS.nodes]
  have:=E2.out
  exact ⟨⟨h2,h3,h4,by omega,FiS.JW.2 (fun i hi=>h6 i hi hi)⟩,by omega,by omega⟩)
 obtain ⟨AL,B6⟩:∃m,an.length=m:=⟨_,rfl⟩
 obtain ⟨PL,B7⟩:∃m,ps.length=m:=⟨_,rfl⟩
 have C6:=hZ9 B6
 have E4:=hZ9 B7
 rw [B6] at B5
 rw [B7] at C3 B4
 try rw [B6]
 try rw [B7]
 have A7:=Af w (.cells #[.int .i64 kd,.string ⟨A2.toArray⟩,.string ⟨vl.toArray⟩,.string ⟨fs.toArray⟩,.string ⟨ls.toArray⟩,.slice a5 AL c5,.slice a6 PL c6] 26)
 have C2:=Whole.made w 26 #[.int .i64 kd,.string ⟨A2.toArray⟩,.string ⟨vl.toArray⟩,.string ⟨fs.toArray⟩,.string ⟨ls.toArray⟩,.slice a5 AL c5,.slice a6 PL c6]
 have A5:=hZ9 (fun j (hj:j<ps.length)=>BR.at B4 j hj)
 obtain ⟨a',c',e,F1,C4⟩:=Ae.at (B5.strsP (fun _=>True) (fun _ _=>trivial))
 injection e with e1 e2 e3
 rw [<-e1] at C4
 have A9:=hZ9 C4
 clear C4 B5 e1 e2 e3 F1
 obtain ⟨A6,hG⟩:∃G:Int->Prop,G=fun r:Int=>0<=r->FiS.wdF 2000 (.mk kd A2 vl fs ls an ps)/\D+FiS.depth (.mk kd A2 vl fs ls an ps)<=41/\r+FiS.nodes (.mk kd A2 vl fs ls an ps)=lf:=⟨_,rfl⟩
 have B0:Hid (∀r:Int,(0<=r->FiS.wdF 2000 (.mk kd A2 vl fs ls an ps)/\D+FiS.depth (.mk kd A2 vl fs ls an ps)<=41/\r+FiS.nodes (.mk kd A2 vl fs ls an ps)=lf)->A6 r):=hZ9 (fun r h=>by rw [hG];exact h)
 have A3:Hid (A6 (-1)):=hZ9 (by rw [hG];intro h;omega)
 suffices hS:Calls Tryz.prog 87 #[.agg #[.int .i64 kd,.string ⟨A2.toArray⟩,.string ⟨vl.toArray⟩,.string ⟨fs.toArray⟩,.string ⟨ls.toArray⟩,.slice a5 AL c5,.slice a6 PL c6],.int .i64 di,.int .i64 li] w fun e w'=>∃r:Int,e=.returned (.int .i64 r)/\-1<=r/\r<=60/\Hid (A6 r)/\Below w.heap.size w w' by
  rw [hG] at hS;exact hS
 clear hG
 rw [B6,B7] at A8
 obtain ⟨q0,q1,q2,q3,q4,q5,q6⟩:=C2.seven
 clear h B4 B6 B7
 have g1:decide ((40:Int)<di)=decide (40<D):=decide_eq_decide.2 (by omega)
 have F5:0<=di/\di<=41/\0<=li/\li<=60:=by omega
 have E5:=hZ9 D1
 have E9:=hZ9 D0
 clear D1 D0
 by_cases k0:40<D
 · rw [decide_eq_true k0] at g1
   clear IH A5 A9 A8 A0 A1 B0
   go_enter Tryz.func87,Tryz.ntmps87
   go_wp2_with fail
   go_ret
   exact ⟨-1,by rfl,by omega,by omega,A3,A7⟩
 rw [decide_eq_false k0] at g1
 have g2:decide ((100:Int)<(AL:Int))=decide (100<AL):=decide_eq_decide.2 (by omega)
 by_cases k1:100<AL
 · rw [decide_eq_true k1] at g2
   clear IH A5 A9 A8 A0 A1 B0
   go_enter Tryz.func87,Tryz.ntmps87
   go_wp2_with fail
   go_ret
   exact ⟨-1,by rfl,by omega,by omega,A3,A7⟩
 rw [decide_eq_false k1] at g2
 have g3:decide ((2000:Int)<(vl.length:Int))=decide (2000<vl.length):=decide_eq_decide.2 (by omega)
 by_cases k2:2000<vl.length
 · rw [decide_eq_true k2] at g3
   clear IH A5 A9 A8 A0 A1 B0
   go_enter Tryz.func87,Tryz.ntmps87
   go_wp2_with fail
   go_ret
   exact ⟨-1,by rfl,by omega,by omega,A3,A7⟩
 rw [decide_eq_false k2] at g3
 have g4:decide ((2000:Int)<(A2.length:Int))=decide (2000<A2.length):=decide_eq_decide.2 (by omega)
 by_cases k3:2000<A2.length
 · rw [decide_eq_true k3] at g4
   clear IH A5 A9 A8 A0 A1 B0
   go_enter Tryz.func87,Tryz.ntmps87
   go_wp2_with fail
   go_ret
   exact ⟨-1,by rfl,by omega,by omega,A3,A7⟩
 rw [decide_eq_false k3] at g4
 have g5:decide ((2000:Int)<(fs.length:Int))=decide (2000<fs.length):=decide_eq_decide.2 (by omega)
 by_cases k4:2000<fs.length
 · rw [decide_eq_true k4] at g5
   clear IH A5 A9 A8 A0 A1 B0
   go_enter Tryz.func87,Tryz.ntmps87
   go_wp2_with fail
   go_ret
   exact ⟨-1,by rfl,by omega,by omega,A3,A7⟩
 rw [decide_eq_false k4] at g5
 have g6:decide ((2000:Int)<(ls.length:Int))=decide (2000<ls.length):=decide_eq_decide.2 (by omega)
 by_cases k5:2000<ls.length
 · rw [decide_eq_true k5] at g6
   clear IH A5 A9 A8 A0 A1 B0
   go_enter Tryz.func87,Tryz.ntmps87
   go_wp2_with fail
   go_ret
   exact ⟨-1,by rfl,by omega,by omega,A3,A7⟩
 rw [decide_eq_false k5] at g6
 have B1:Hid (∀r:Int,SmT ps D lf PL r->(∀t ∈ an,t.length<=2000)->A6 r):=hZ9 (fun r h1 h2=>B0.out r (A8.out r h1 ⟨by omega,by omega,by omega,by omega⟩ (by omega) h2))
 clear A8 B0
 go_enter Tryz.func87,Tryz.ntmps87
 go_wp2_with fail
 clear g1 g2 g3 g4 g5 g6
 go_loopw [44] (fun i wr=>∃j:Nat,j<=AL/\i=.int .i64 j/\Hid (∀i (hi:i<an.length),i<j->(an[i]'hi).length<=2000)/\w.alloc (.cells #[.int .i64 kd,.string ⟨A2.toArray⟩,.string ⟨vl.toArray⟩,.string ⟨fs.toArray⟩,.string ⟨ls.toArray⟩,.slice a5 AL c5,.slice a6 PL c6] 26)=wr) (fun i _=>AL - (intOf i).toNat)
 case atStart=>exact ⟨0,Nat.zero_le _,rfl,hZ9 (fun i hi h=>by omega),rfl⟩
 case round=>
  obtain ⟨j,hj,rfl,HA,rfl⟩:=hrel
  by_cases C1:j<AL
  · have A4:j<an.length:=by rw [C6.out];exact C1
    have E1:=hZ9 HA.out
    obtain ⟨g,o,D4,hg,_,hra⟩:=A9.out j A4
    have E3:(w.alloc (.cells #[.int .i64 kd,.string ⟨A2.toArray⟩,.string ⟨vl.toArray⟩,.string ⟨fs.toArray⟩,.string ⟨ls.toArray⟩,.slice a5 AL c5,.slice a6 PL c6] 26)).cell? ⟨g,o+j,none⟩=some (Ac an[j]):=by
     have:w.cell? ⟨g,o+j*1,none⟩=some (Ac an[j]):=hra
     rw [Nat.mul_one] at this
     exact Ab this A7
    clear hra A9 IH A5 A0 A1 B1
    subst D4
    have C9:Hid ((an[j]'A4).length<=2000->∀i (hi:i<an.length),i<j+1->(an[i]'hi).length<=2000):=hZ9 (fun h i hi F4=>by
     by_cases e:i=j
     · subst e;exact h
     · exact HA.out i hi (by omega))
    generalize an[j]=s at*
    unfold Ac at E3
    have E6:(0:Int)<=(j:Int):=by omega
    have D3:(j:Int)<(AL:Int):=by omega
    by_cases hs:2000<s.length
    · have g1:decide ((2000:Int)<(s.length:Int))=true:=decide_eq_true (by omega)
      go_wp2_with fail
      go_ret
      exact ⟨-1,by rfl,by omega,by omega,A3,A7⟩
    · have g1:decide ((2000:Int)<(s.length:Int))=false:=decide_eq_false (by omega)
      have D6:=hZ9 (C9.out (by omega))
      clear C9 HA E1
      go_wp2_with fail
      go_roundw
      case rel=>exact ⟨j+1,by omega,by go_num,D6,by first | rfl | trivial⟩
      case measure=>simp [intOf];omega
  · have B2:Hid (∀r:Int,SmT ps D lf PL r->A6 r):=hZ9 (fun r h=>B1.out r h (fun t ht=>by
     obtain ⟨i,hi,rfl⟩:=List.getElem_of_mem ht
     exact HA.out i hi (by rw [C6.out] at hi;omega)))
    clear B1 HA A9 C6
    go_wp2_with fail
    go_loopw [2,60] (fun lv i wr=>∃(j:Nat) (r:Int),j<=PL/\i=.int .i64 j/\lv=.int .i64 r/\-1<=r/\r<=60/\Hid (SmT ps D lf j r)/\Whole wr w.heap.size 26 #[.int .i64 kd,.string ⟨A2.toArray⟩,.string ⟨vl.toArray⟩,.string ⟨fs.toArray⟩,.string ⟨ls.toArray⟩,.slice a5 AL c5,.slice a6 PL c6]/\Below w.heap.size w wr) (fun _ i _=>PL - (intOf i).toNat)
    case atStart=>exact ⟨0,li - 1,Nat.zero_le _,rfl,by first | rfl | go_num,by omega,by omega,hZ9 (A1.out _ (by omega) (by have:=E9.out;omega)),C2,A7⟩
    case round=>
     obtain ⟨j,r,hj,rfl,rfl,D2,F2,HM,hw,hb⟩:=hrel
     clear C2 A7 q0 q1 q2 q3 q4 q5 q6
     by_cases C1:j<PL
     · by_cases B3:r<0
       · have g1:decide (r<0)=true:=decide_eq_true B3
         clear IH A5 A0 A1 B2 HM
         go_wp2_with fail
         go_ret
         exact ⟨-1,by rfl,by omega,by omega,A3,hb⟩
       have g1:decide (r<0)=false:=decide_eq_false B3
       have A4:j<ps.length:=by rw [E4.out];exact C1
       have E8:=C7.out j (Nat.le_of_lt A4)
       have D5:j<=60:=by have:=(HM.out (by omega)).2.2;omega
       obtain ⟨m,hm⟩:∃m:Nat,(m:Int)=r:=⟨r.toNat,by omega⟩
       have HS:=hZ9 (fun r2 h2=>A0.out j A4 m r r2 hm HM.out h2)
       clear E8 C7
       obtain ⟨d,rfl,g,o,rfl,hg,b5,d5,b6,d6,B9,y0,y1,y2,y3,y4,y5,y6⟩:=A5.out j A4
       have B9:=B9.call hb
       have y0:=(hb.cell (p:=⟨g,o+j*7,none⟩) hg).trans y0
       have y1:=(hb.cell (p:=⟨g,o+j*7+1,none⟩) hg).trans y1
       have y2:=(hb.cell (p:=⟨g,o+j*7+2,none⟩) hg).trans y2
       have y3:=(hb.cell (p:=⟨g,o+j*7+3,none⟩) hg).trans y3
       have y4:=(hb.cell (p:=⟨g,o+j*7+4,none⟩) hg).trans y4
       have y5:=(hb.cell (p:=⟨g,o+j*7+5,none⟩) hg).trans y5
       have y6:=(hb.cell (p:=⟨g,o+j*7+6,none⟩) hg).trans y6
       have B8:=fun v W h=>IH d rfl (ps[j]'A4) v W (D+1) m (di+1) r h (by omega) (by omega) (by have:=E5.out;omega) hm.symm
       clear IH A5 A0 A1 HM
       clear hm
       generalize ps[j]=p at*
       generalize p.any.length=PA at*
       generalize p.parts.length=PP at*
       have E6:(0:Int)<=(j:Int):=by omega
       have D3:(j:Int)<(PL:Int):=by omega
       have hc:=B8 _ _ B9
       clear B8 B9
       obtain ⟨q0,q1,q2,q3,q4,q5,q6⟩:=hw.seven
       go_wp2_with fail
       refine hc.mono ?_;rintro e w2 ⟨r2,rfl,D7,D9,C0,C8⟩
       have F0:=hb.trans (C8.mono hb.size)
       have E0:=hw.call C8
       have E7:=hZ9 (HS.out r2 C0.out)
       clear hc q0 q1 q2 q3 q4 q5 q6 HS C0
       go_wp2_with fail
       go_roundw
       case rel=>exact ⟨j+1,r2,by omega,by go_num,rfl,D7,D9,E7,E0,F0⟩
       case measure=>simp [intOf];omega
     · have D8:j=PL:=by omega
       subst D8
       have C0:=hZ9 (B2.out r HM.out)
       clear IH A5 A0 A1 B2 HM C7
       go_wp2_with fail
       go_ret
       exact ⟨r,rfl,D2,F2,C0,hb⟩)
theorem AbN (n:Nat) (x:Fi) (v:Value) (w:World) (h:Dq n w v x):Calls Tryz.prog 54 #[v] w fun e w'=>∃b,e=.returned (.bool b)/\Hid (b=true->FiS.wdF 2000 x/\FiS.depth x<=41/\FiS.nodes x<=60)/\Below w.heap.size w w':=by
 have hn:=fun W h=>AbM n x v W 0 60 0 60 h (by omega) (by omega) rfl rfl
 unfold Oq at*
 have HR:Hid (∀r:Int,(0<=r->FiS.wdF 2000 x/\0+FiS.depth x<=41/\r+FiS.nodes x=(60:Nat))->decide (0<=r)=true->FiS.wdF 2000 x/\FiS.depth x<=41/\FiS.nodes x<=60):=hZ9 (fun r h h2=>by
  obtain ⟨h3,h4,h5⟩:=h (of_decide_eq_true h2)
  have:=of_decide_eq_true h2
  exact ⟨h3,by omega,by omega⟩)
 obtain ⟨a5,c5,a6,c6,hv,A7,A8,A4⟩:=FiV.parts h
 generalize x.any.length=AL at*
 generalize x.parts.length=PL at*
 generalize x.kind=kd at*
 generalize x.attr=at0 at*
 generalize x.value=vl at*
 generalize x.first=fs at*
 generalize x.last=ls at*
 subst hv
 have A0:=Af w (.cells #[.int .i64 kd,.string ⟨at0.toArray⟩,.string ⟨vl.toArray⟩,.string ⟨fs.toArray⟩,.string ⟨ls.toArray⟩,.slice a5 AL c5,.slice a6 PL c6] 26)
 have A3:=Whole.made w 26 #[.int .i64 kd,.string ⟨at0.toArray⟩,.string ⟨vl.toArray⟩,.string ⟨fs.toArray⟩,.string ⟨ls.toArray⟩,.slice a5 AL c5,.slice a6 PL c6]
 obtain ⟨q0,q1,q2,q3,q4,q5,q6⟩:=A3.seven
 have A2:=hn _ (h.call A0)
 clear A7 A4 hn
 go_enter Tryz.func54,Tryz.ntmps54
 go_wp2_with fail
 refine A2.mono ?_;rintro e w2 ⟨r,rfl,A9,B0,A1,A5⟩
 have A6:=A0.trans (A5.mono A0.size)
 have HF:=hZ9 (HR.out r A1.out)
 clear HR A1 A2
 go_wp2_with fail
 go_ret
 exact ⟨_,rfl,HF,A6⟩
end
section
open Go.RowKit
open FiS (Fi)
attribute [local go_sem ↓] Go.wp_at_zero Go.wp_at_succ
def Fb (n:Nat) (w:World) (v:Value) (q:SeS.Rq):Prop:=∃(a5 a6 aa:Option Addr) (c5 c6 ca:Nat),v=.agg #[.string ⟨q.base.toArray⟩,.int .i64 q.scope,.int .i64 q.deref,.int .i64 q.filter.kind,.string ⟨q.filter.attr.toArray⟩,.string ⟨q.filter.value.toArray⟩,.string ⟨q.filter.first.toArray⟩,.string ⟨q.filter.last.toArray⟩,.slice a5 q.filter.any.length c5,.slice a6 q.filter.parts.length c6,.slice aa q.attrs.length ca,.bool q.tonly,.int .i64 q.size]/\Dq n w (.agg #[.int .i64 q.filter.kind,.string ⟨q.filter.attr.toArray⟩,.string ⟨q.filter.value.toArray⟩,.string ⟨q.filter.first.toArray⟩,.string ⟨q.filter.last.toArray⟩,.slice a5 q.filter.any.length c5,.slice a6 q.filter.parts.length c6]) q.filter/\Ai w (.slice aa q.attrs.length ca) q.attrs
theorem Fb.call {n:Nat} {w w':World} {v:Value} {q:SeS.Rq} (h:Fb n w v q) (hb:Below w.heap.size w w'):Fb n w' v q:=by
 obtain ⟨a5,a6,aa,c5,c6,ca,hv,h1,h2⟩:=h
 exact ⟨a5,a6,aa,c5,c6,ca,hv,h1.call hb,h2.call hb (Nat.le_refl _)⟩
theorem Zt (n:Nat) (q:SeS.Rq) (v:Value) (w:World) (h:Fb n w v q) (A8:FiS.wdF 20000 q.filter):Calls Tryz.prog 24 #[v] w (CH (SeS.CM q) w):=by
 have A4:=hZ9 (fun v W h=>PZ n q.filter v W h A8)
 unfold CH SeS.CM at*
 obtain ⟨a5,a6,aa,c5,c6,ca,rfl,A9,_⟩:=h
 have A5:=hZ9 A9
 clear A9 A8
 obtain ⟨bs,sc,dr,x,at_,tn,sz⟩:=q
 simp only at A4 A5⊢
 generalize at_.length=QL at*
 generalize x.any.length=AL at*
 generalize x.parts.length=PL at*
 generalize x.kind=kd at*
 generalize x.attr=at0 at*
 generalize x.value=vl at*
 generalize x.first=fs at*
 generalize x.last=ls at*
 have A2:=Af w (.cells #[.string ⟨bs.toArray⟩,.int .i64 sc,.int .i64 dr,.int .i64 kd,.string ⟨at0.toArray⟩,.string ⟨vl.toArray⟩,.string ⟨fs.toArray⟩,.string ⟨ls.toArray⟩,.slice a5 AL c5,.slice a6 PL c6,.slice aa QL ca,.bool tn,.int .i64 sz] 38)
 have A0:=Whole.made w 38 #[.string ⟨bs.toArray⟩,.int .i64 sc,.int .i64 dr,.int .i64 kd,.string ⟨at0.toArray⟩,.string ⟨vl.toArray⟩,.string ⟨fs.toArray⟩,.string ⟨ls.toArray⟩,.slice a5 AL c5,.slice a6 PL c6,.slice aa QL ca,.bool tn,.int .i64 sz]
 have q1:=A0.cell 1
 have q2:=A0.cell 2
 have q3:=A0.cell 3
 have q4:=A0.cell 4
 have q5:=A0.cell 5
 have q6:=A0.cell 6
 have q7:=A0.cell 7
 have q8:=A0.cell 8
 have q9:=A0.cell 9
 have B0:=A0.cell 12
 simp only [List.getElem?_toArray,List.getElem?_cons_zero,List.getElem?_cons_succ] at q1 q2 q3 q4 q5 q6 q7 q8 q9 B0
 have A1:=A4.out _ _ (A5.out.call A2)
 clear A4 A5 A0
 obtain ⟨FB,A7⟩:∃b,FiS.formedS x=b:=⟨_,rfl⟩
 rw [A7] at A1⊢
 clear A7
 obtain ⟨FQ,A6⟩:∃b,(decide (0<=sc)&&decide (sc<=2)&&decide (0<=dr)&&decide (dr<=3)&&decide (0<=sz)&&FB)=b:=⟨_,rfl⟩
 rw [A6]
 have A3:=hZ9 A6
 clear A6
 by_cases e0:0<=sc
 case neg=>
  have d0:decide (0<=sc)=false:=decide_eq_false e0
  clear A1
  have HR:Hid (FQ=false):=hZ9 (by rw [<-A3.out,d0];simp)
  go_enter Tryz.func24,Tryz.ntmps24
  go_wp2_with fail
  go_ret
  exact ⟨by (rw [HR.out]) <;> rfl,A2⟩
 have d0:decide (0<=sc)=true:=decide_eq_true e0
 by_cases e1:sc<=2
 case neg=>
  have d1:decide (sc<=2)=false:=decide_eq_false e1
  clear A1
  have HR:Hid (FQ=false):=hZ9 (by rw [<-A3.out,d1];simp)
  go_enter Tryz.func24,Tryz.ntmps24
  go_wp2_with fail
  go_ret
  exact ⟨by (rw [HR.out]) <;> rfl,A2⟩
 have d1:decide (sc<=2)=true:=decide_eq_true e1
 by_cases e2:0<=dr
 case neg=>
  have d2:decide (0<=dr)=false:=decide_eq_false e2
  clear A1
  have HR:Hid (FQ=false):=hZ9 (by rw [<-A3.out,d2];simp)
  go_enter Tryz.func24,Tryz.ntmps24
  go_wp2_with fail
  go_ret
  exact ⟨by (rw [HR.out]) <;> rfl,A2⟩
 have d2:decide (0<=dr)=true:=decide_eq_true e2
 by_cases e3:dr<=3
 case neg=>
  have d3:decide (dr<=3)=false:=decide_eq_false e3
  clear A1
  have HR:Hid (FQ=false):=hZ9 (by rw [<-A3.out,d3];simp)
  go_enter Tryz.func24,Tryz.ntmps24
  go_wp2_with fail
  go_ret
  exact ⟨by (rw [HR.out]) <;> rfl,A2⟩
 have d3:decide (dr<=3)=true:=decide_eq_true e3
 by_cases e4:0<=sz
 case neg=>
  have d4:decide (0<=sz)=false:=decide_eq_false e4
  clear A1
  have HR:Hid (FQ=false):=hZ9 (by rw [<-A3.out,d4];simp)
  go_enter Tryz.func24,Tryz.ntmps24
  go_wp2_with fail
  go_ret
  exact ⟨by (rw [HR.out]) <;> rfl,A2⟩
 have d4:decide (0<=sz)=true:=decide_eq_true e4
 have HR:Hid (FQ=FB):=hZ9 (by rw [<-A3.out,d0,d1,d2,d3,d4];rfl)
 go_enter Tryz.func24,Tryz.ntmps24
 go_wp2_with fail
 refine A1.mono ?_;rintro e w1 ⟨rfl,B2⟩
 have B1:=A2.trans (B2.mono A2.size)
 clear A1
 go_wp2_with fail
 go_ret
 exact ⟨by (rw [HR.out]) <;> rfl,B1⟩
end
end Go.Proofs.YtgngjfjaelgaeaaGreatDoor
