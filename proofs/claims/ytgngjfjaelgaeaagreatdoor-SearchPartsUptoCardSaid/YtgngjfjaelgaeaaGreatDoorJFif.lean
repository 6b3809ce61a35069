/- The walks of Small, and of what makes a filter formed (the program's, the document's). Conditions: as stated. -/
import Derived.Test.YtgngjfjaelgaeaaGreatDoorJFid
set_option maxRecDepth 100000
set_option maxHeartbeats 2000000
namespace Go.Proofs.YtgngjfjaelgaeaaGreatDoor
open Go.Proofs.Tryz
section
namespace FiS
mutual
def wdF (n:Nat):Fi->Prop
 | .mk _ a v f l s ps=>(a.length<=n/\v.length<=n/\f.length<=n/\l.length<=n)/\s.length<=n/\(∀t ∈ s,t.length<=n)/\ps.length<=n/\wdL n ps
def wdL (n:Nat):List Fi->Prop
 | []=>True
 | p :: r=>wdF n p/\wdL n r
end
mutual
theorem OB {n m:Nat} (b:n<=m):∀x:Fi,wdF n x->wdF m x
 | .mk k a v f l s ps,h=>by rw [wdF] at h⊢;obtain ⟨⟨h1,h2,h3,h4⟩,h5,h6,h7,h8⟩:=h;exact ⟨⟨by omega,by omega,by omega,by omega⟩,by omega,fun t c=>aY (h6 t c) b,by omega,UD b ps h8⟩
theorem UD {n m:Nat} (a:n<=m):∀l:List Fi,wdL n l->wdL m l
 | [],_=>by rw [wdL];trivial
 | p :: r,h=>by rw [wdL] at h⊢;exact ⟨OB a p h.1,UD a r h.2⟩
end
theorem Ho {n:Nat}:∀{l:List Fi},wdL n l↔∀j (a:j<l.length),wdF n (l[j]'a)
 | []=>⟨fun _ j a=>by simp at a,fun _=>by rw [wdL];trivial⟩
 | p :: r=>by
  rw [wdL,Ho (l:=r)];constructor
  · rintro ⟨h1,h2⟩ j a;cases j with
    | zero=>exact h1
    | succ j=>exact h2 j (by simpa using a)
  · intro h;exact ⟨h 0 (by simp),fun j a=>h (j+1) (by simpa using a)⟩
theorem Md:∀{ps:List Fi} {j:Nat} (a:j<ps.length),allL (ps.take (j+1))=(allL (ps.take j)&&Dp (ps[j]'a))
 | [],j,a=>by simp at a
 | p :: r,0,_=>by
  show (Dp p&&allL (r.take 0))=(allL []&&Dp p)
  simp [allL]
 | p :: r,j+1,a=>by
  have b:=Md (ps:=r) (j:=j) (by simpa using a);show (Dp p&&allL (r.take (j+1)))=(Dp p&&allL (r.take j)&&Dp (r[j]'(by simpa using a)))
  rw [b,Bool.and_assoc]
theorem OC:∀{ps:List Fi} {j:Nat} (a:j<ps.length),Dp (ps[j]'a)=false->allL ps=false
 | [],j,a,_=>by simp at a
 | p :: r,0,_,h=>by
  show (Dp p&&allL r)=false
  rw [show Dp p=false from h];rfl
 | p :: r,j+1,a,h=>by
  show (Dp p&&allL r)=false
  rw [OC (ps:=r) (j:=j) (by simpa using a) h,bX]
theorem RB:∀{ps:List Fi} {j:Nat} (a:j<ps.length),depth (ps[j]'a)<=BK ps
 | [],j,a=>by simp at a
 | p :: r,0,_=>by show depth p<=max (depth p) (BK r);omega
 | p :: r,j+1,a=>by
  have:=RB (ps:=r) (j:=j) (by simpa using a);show depth (r[j]'(by simpa using a))<=max (depth p) (BK r)
  omega
def Ey (d:Nat) (x:Fi):Bool:=decide (d+depth x<=21)&&Dp x
theorem AcX {d:Nat} {k:Int} {a v f l:List UInt8} {s:List (List UInt8)} {ps:List Fi}:Ey d (.mk k a v f l s ps)=(decide (d<=20/\d+1+BK ps<=21)&&(Hj (.mk k a v f l s ps)&&allL ps)):=by unfold Ey;rw [depth,Dp];congr 1;exact bO.2 ⟨fun h=>by omega,fun h=>by omega⟩
theorem AaB (x:Fi):formedS x=(decide (nodes x<=40)&&Ey 1 x):=by unfold formedS Ey;congr 2;exact bO.2 ⟨fun h=>by omega,fun h=>by omega⟩
theorem AaC {d:Nat} {ps:List Fi} {j:Nat} (a:j<ps.length) (h:Ey (d+1) (ps[j]'a)=false):(decide (d<=20/\d+1+BK ps<=21)&&allL ps)=false:=by
 unfold Ey at h;have hd:=RB a;cases b:Dp (ps[j]'a) with
 | false=>rw [OC a b,bX]
 | true=>rw [b,Bool.and_true,bc] at h;rw [aC (by omega),cG]
def Ns (d:Nat) (ps:List Fi):Prop:=d+1+BK ps<=21/\allL ps=true
theorem AaD {d:Nat} (h:d<=20):Ns d []:=⟨by simp [BK];omega,rfl⟩
theorem YO {d:Nat} {ps:List Fi} {j:Nat} (a:j<ps.length) (h:Ey (d+1) (ps[j]'a)=true) (b:Ns d (ps.take j)):Ns d (ps.take (j+1)):=by unfold Ey at h;rw [bA,az] at h;refine ⟨?_,by rw [Md a,b.2,h.2];rfl⟩;rw [Ig a];have:=b.1;omega
end FiS
open Go.RowKit
open FiS (Fi)
attribute [local go_sem ↓] Go.wp_at_zero Go.wp_at_succ
def XQ (n:Nat):Prop:=∀(x:Fi) (v:Value) (w:World) (d:Nat) (a:Int),Dh n w v x->FiS.wdF 20000 x->d<=21->a=(d:Int)->Calls prog 89 #[v,.int .i64 a] w (BB (FiS.Ey d x) w)
theorem YP:∀n,XQ n:=Fg (fun n IH=>by
 unfold XQ BB at*;intro x v w D di h X hD A0;have B2:0<=di/\di<=21:=by omega
 have a:=fun w h ha hs=>Agh n x v w h ha hs;unfold BB at a;obtain ⟨kd,c,G,F,ls,z,ps⟩:=x;obtain ⟨a5,c5,a6,V,hv,C,P,y⟩:=FiV.parts h;have hv:v=.agg #[.int .i64 kd,.string ⟨c.toArray⟩,.string ⟨G.toArray⟩,.string ⟨F.toArray⟩,.string ⟨ls.toArray⟩,.slice a5 z.length c5,.slice a6 ps.length V]:=hv;subst hv;have C:Ah w (.slice a5 z.length c5) z:=C;have P:ps.length<=V:=P;have y:BC n (fun _=>True) w (.slice a6 ps.length V) ps:=y;rw [FiS.wdF] at X;obtain ⟨⟨ha,_⟩,hs,_,B3,Z⟩:=X;have S:=hZ9 (FiS.Ho.1 Z);clear Z;have a:=fun w h=>a w h ha (by show z.length<=_;omega);have u:=hZ9 (fun j (K:j<ps.length) (h:FiS.Ey (D+1) (ps[j]'K)=false)=>FiS.AaC K h);have r:=hZ9 (fun j (K:j<ps.length) (h:FiS.Ey (D+1) (ps[j]'K)=true) (ht:FiS.Ns D (ps.take j))=>FiS.YO K h ht);have L:=hZ9 (fun h:D<=20=>FiS.AaD h);have N:Hid (ps.take ps.length=ps):=hZ9 (bE);have A6:Hid (FiS.Ns D ps->D+1+FiS.BK ps<=21/\FiS.allL ps=true):=hZ9 (fun h=>h);have k:Hid (FiS.Ey D (.mk kd c G F ls z ps)=(decide (D<=20/\D+1+FiS.BK ps<=21)&&(FiS.Hj (.mk kd c G F ls z ps)&&FiS.allL ps))):=hZ9 FiS.AcX;obtain ⟨AL,t⟩:∃m,z.length=m:=⟨_,rfl⟩
 obtain ⟨H,s⟩:∃m,ps.length=m:=⟨_,rfl⟩
 have A9:=hZ9 t;have Y:=hZ9 s;rw [t] at C;rw [s] at P y;obtain ⟨R,hR⟩:∃b,FiS.Ey D (.mk kd c G F ls z ps)=b:=⟨_,rfl⟩
 obtain ⟨B,hB⟩:∃b,FiS.Hj (.mk kd c G F ls z ps)=b:=⟨_,rfl⟩
 rw [hR,hB] at k;rw [hR];rw [hB] at a;clear hB hR;have q:=Af w (.cells #[.int .i64 kd,.string ⟨c.toArray⟩,.string ⟨G.toArray⟩,.string ⟨F.toArray⟩,.string ⟨ls.toArray⟩,.slice a5 AL c5,.slice a6 H V] 36);have Q:=Whole.made w 36 #[.int .i64 kd,.string ⟨c.toArray⟩,.string ⟨G.toArray⟩,.string ⟨F.toArray⟩,.string ⟨ls.toArray⟩,.slice a5 AL c5,.slice a6 H V];have A2:Dh n w (.agg #[.int .i64 kd,.string ⟨c.toArray⟩,.string ⟨G.toArray⟩,.string ⟨F.toArray⟩,.string ⟨ls.toArray⟩,.slice a5 AL c5,.slice a6 H V]) (.mk kd c G F ls z ps):=by rw [t,s] at h;exact h
 rw [t,s] at a⊢;have a:=a _ (A2.call q);have O:=hZ9 (fun j (K:j<ps.length)=>BC.at y j K);rw [s] at N;obtain ⟨q0,q1,q2,q3,q4,q5,q6⟩:=Q.seven;have J:=hZ9 Q;clear h C y t s A9 A2 Q;have M:decide ((20:Int)<di)=decide (20<D):=bO.2 (by omega);have A8:=hZ9 A0;clear A0;by_cases hd:20<D
 · rw [aL hd] at M;have HR:Hid (R=false):=hZ9 (by rw [k.out,aC (by omega),cG]);clear k a IH;go_enter func89,ntmps89;go_wp2_with fail;go_ret;exact ⟨by (rw [HR.out]) <;> rfl,q⟩
 rw [aC hd] at M;cases B with
 | false=>have HR:Hid (R=false):=hZ9 (by rw [k.out];simp);clear k IH;go_enter func89,ntmps89;go_wp2_with fail;refine a.mono ?_;rintro e w2 ⟨rfl,f⟩;go_wp2_with fail;go_ret;exact ⟨by (rw [HR.out]) <;> rfl,q.trans (f.mono q.size)⟩
 | true=>
  go_enter func89,ntmps89;go_wp2_with fail;refine a.mono ?_;rintro e w2 ⟨rfl,f⟩;have A3:=q.trans (f.mono q.size);clear q0 q1 q2 q3 q4 q5 q6;obtain ⟨q0,q1,q2,q3,q4,q5,q6⟩:=(J.out.call f).seven;clear a;go_wp2_with fail;go_loopw [17] (fun i wr=>∃j:Nat,j<=H/\i=.int .i64 j/\Hid (FiS.Ns D (ps.take j))/\Below w.heap.size w wr) (fun i _=>H - (intOf i).toNat)
  case atStart=>exact ⟨0,aR _,rfl,hZ9 (L.out (by omega)),A3⟩
  case round=>
   obtain ⟨j,K,rfl,HA,hb⟩:=hrel;clear q A3 f q0 q1 q2 q3 q4 q5 q6 J;by_cases A7:j<H
   · have l:j<ps.length:=by rw [Y.out];exact A7
     have B1:j<=20000:=by have:=Y.out;omega
     have HB:=hZ9 (fun h=>u.out j l h);have HS:=hZ9 (fun h=>r.out j l h HA.out);have A4:=S.out j l;obtain ⟨d,rfl,g,o,rfl,T,b5,d5,b6,d6,E,y0,y1,y2,y3,y4,y5,y6⟩:=O.out j l;have E:=E.call hb;have y0:=(hb.cell (p:=⟨g,o+j*7,none⟩) T).trans y0;have y1:=(hb.cell (p:=⟨g,o+j*7+1,none⟩) T).trans y1;have y2:=(hb.cell (p:=⟨g,o+j*7+2,none⟩) T).trans y2;have y3:=(hb.cell (p:=⟨g,o+j*7+3,none⟩) T).trans y3;have y4:=(hb.cell (p:=⟨g,o+j*7+4,none⟩) T).trans y4;have y5:=(hb.cell (p:=⟨g,o+j*7+5,none⟩) T).trans y5;have y6:=(hb.cell (p:=⟨g,o+j*7+6,none⟩) T).trans y6;have I:=fun v W h=>IH d rfl (ps[j]'l) v W (D+1) (di+1) h A4 (by omega) (by have:=A8.out;omega);clear IH O u r S;generalize ps[j]=p at*;generalize p.any.length=PA at*;generalize p.parts.length=PP at*;have B5:(0:Int)<=(j:Int):=by omega
     have B4:(j:Int)<(H:Int):=by omega
     have A1:=Af wr (.cells #[.int .i64 p.kind,.string ⟨p.attr.toArray⟩,.string ⟨p.value.toArray⟩,.string ⟨p.first.toArray⟩,.string ⟨p.last.toArray⟩,.slice b5 PA d5,.slice b6 PP d6] 36);have A5:=Whole.made wr 36 #[.int .i64 p.kind,.string ⟨p.attr.toArray⟩,.string ⟨p.value.toArray⟩,.string ⟨p.first.toArray⟩,.string ⟨p.last.toArray⟩,.slice b5 PA d5,.slice b6 PP d6];obtain ⟨x0,x1,x2,x3,x4,x5,x6⟩:=A5.seven;have A:=hb.trans (A1.mono hb.size);have hc:=I _ _ (E.call A1);clear I E A5 A4;cases U:FiS.Ey (D+1) p with
     | true=>
      have B0:=hZ9 (HS.out U);rw [U] at hc;clear U HS HB HA;go_wp2_with fail;refine hc.mono ?_;rintro e w2 ⟨rfl,f⟩;go_wp2_with fail;go_roundw
      case rel=>exact ⟨j+1,by omega,by go_num,B0,A.trans (f.mono A.size)⟩
      case measure=>simp [intOf];omega
     | false=>have HR:Hid (R=false):=hZ9 (by rw [k.out,cf];exact HB.out U);rw [U] at hc;clear U HS HB HA k;go_wp2_with fail;refine hc.mono ?_;rintro e w2 ⟨rfl,f⟩;go_wp2_with fail;go_ret;exact ⟨by (rw [HR.out]) <;> rfl,A.trans (f.mono A.size)⟩
   · have HR:Hid (R=true):=hZ9 (by
      have h1:=HA.out;rw [show j=H by omega,N.out] at h1;obtain ⟨h2,h3⟩:=A6.out h1;rw [k.out,aL ⟨by omega,h2⟩,h3];rfl)
     clear IH O u r S HA k A6 L;go_wp2_with fail;go_ret;exact ⟨by (rw [HR.out]) <;> rfl,hb⟩)
theorem PO (n:Nat) (x:Fi) (v:Value) (w:World) (h:Dh n w v x) (k:FiS.wdF 20000 x):Calls prog 56 #[v] w (BB (FiS.formedS x) w):=by
 have u:=fun W h=>Ae6 n x v W h;have A:=fun W h=>YP n x v W 1 1 h k (by omega) rfl;unfold BB at*;have HR:Hid (FiS.formedS x=(decide (FiS.nodes x<=40)&&FiS.Ey 1 x)):=hZ9 (FiS.AaB x);generalize FiS.formedS x=R at*;generalize FiS.nodes x=N at*;generalize FiS.Ey 1 x=B at*;obtain ⟨a5,c5,z,r,G,i,H,j⟩:=FiV.parts h;generalize x.any.length=AL at*;generalize x.parts.length=PL at*;generalize x.kind=kd at*;generalize x.attr=at0 at*;generalize x.value=vl at*;generalize x.first=fs at*;generalize x.last=ls at*;subst G;have b:=Af w (.cells #[.int .i64 kd,.string ⟨at0.toArray⟩,.string ⟨vl.toArray⟩,.string ⟨fs.toArray⟩,.string ⟨ls.toArray⟩,.slice a5 AL c5,.slice z PL r] 36);have c:=Whole.made w 36 #[.int .i64 kd,.string ⟨at0.toArray⟩,.string ⟨vl.toArray⟩,.string ⟨fs.toArray⟩,.string ⟨ls.toArray⟩,.slice a5 AL c5,.slice z PL r];obtain ⟨t,C,s,E,y,q,F⟩:=c.seven;have d:=u _ (h.call b);obtain ⟨M,p⟩:∃m,min N 41=m:=⟨_,rfl⟩
 rw [p] at d;clear i j u;go_enter func56,ntmps56;go_wp2_with fail;refine d.mono ?_;rintro e w2 ⟨rfl,g⟩;have a:=b.trans (g.mono b.size);have o:=A _ (h.call a);clear t C s E y q F d h A;obtain ⟨t,C,s,E,y,q,F⟩:=(c.call g).seven;clear c;by_cases J:M<=40
 · have I:decide ((M:Int)<=40)=true:=aL (by omega);have f:Hid (R=B):=hZ9 (by rw [HR.out,aL (by omega),cf]);clear HR p;go_wp2_with fail;refine o.mono ?_;rintro e w3 ⟨rfl,l⟩;go_wp2_with fail;go_ret;exact ⟨by (rw [f.out]) <;> rfl,a.trans (l.mono a.size)⟩
 · have I:decide ((M:Int)<=40)=false:=aC (by omega);have f:Hid (R=false):=hZ9 (by rw [HR.out,aC (by omega),cG]);clear HR p;go_wp2_with fail;go_ret;exact ⟨by (rw [f.out]) <;> rfl,a⟩
end
section
open Go.RowKit
open FiS (Fi)
attribute [local go_sem ↓] Go.wp_at_zero Go.wp_at_succ
def Aeq (n:Nat):Prop:=∀(x:Fi) (v:Value) (w:World) (lf:Nat) (a:Int),Dh n w v x->FiS.wdF 20000 x->lf<=20->a=(lf:Int)->Calls prog 68 #[v,.int .i64 a] w fun e w'=>e=.returned (.int .i64 ((min (FiS.depth x) (lf+1):Nat):Int))/\Below w.heap.size w w'
theorem AfB:∀n,Aeq n:=Fg (fun n T=>by
 unfold Aeq at*;intro x v w lf V h H B3 E;obtain ⟨kd,b,Q,L,ls,I,ps⟩:=x;obtain ⟨a5,c5,O,G,X,k,B,f⟩:=FiV.parts h;have X:v=.agg #[.int .i64 kd,.string ⟨b.toArray⟩,.string ⟨Q.toArray⟩,.string ⟨L.toArray⟩,.string ⟨ls.toArray⟩,.slice a5 I.length c5,.slice O ps.length G]:=X;subst X;have k:Ah w (.slice a5 I.length c5) I:=k;have B:ps.length<=G:=B;have f:BC n (fun _=>True) w (.slice O ps.length G) ps:=f;rw [FiS.wdF] at H;obtain ⟨_,_,_,Y,K⟩:=H;have s:=hZ9 (FiS.Ho.1 K);clear K;have S:=hZ9 (fun j (U:j<ps.length)=>FiS.Ig U);have H0:Hid (FiS.BK (ps.take 0)=0):=hZ9 (by simp [FiS.BK]);have z:Hid (ps.take ps.length=ps):=hZ9 (bE);have hN:FiS.depth (.mk kd b Q L ls I ps)=1+FiS.BK ps:=by rw [FiS.depth]
 rw [hN];clear hN;obtain ⟨R,hR⟩:∃r,min (1+FiS.BK ps) (lf+1)=r:=⟨_,rfl⟩
 have HR:=hZ9 hR;rw [hR];clear hR;obtain ⟨AL,l⟩:∃m,I.length=m:=⟨_,rfl⟩
 obtain ⟨u,c⟩:∃m,ps.length=m:=⟨_,rfl⟩
 have A5:=hZ9 l;have Z:=hZ9 c;rw [l] at k;rw [c] at B f
 try rw [l]
 try rw [c]
 have A:=Af w (.cells #[.int .i64 kd,.string ⟨b.toArray⟩,.string ⟨Q.toArray⟩,.string ⟨L.toArray⟩,.string ⟨ls.toArray⟩,.slice a5 AL c5,.slice O u G] 26);have C:=Whole.made w 26 #[.int .i64 kd,.string ⟨b.toArray⟩,.string ⟨Q.toArray⟩,.string ⟨L.toArray⟩,.string ⟨ls.toArray⟩,.slice a5 AL c5,.slice O u G];have t:=hZ9 (fun j (U:j<ps.length)=>BC.at f j U);rw [c] at z Y;obtain ⟨q0,q1,q2,q3,q4,q5,q6⟩:=C.seven;clear h k f l c A5;by_cases h0:lf=0
 · subst h0;subst E;have hR:R=1:=by have:=HR.out;omega
   clear T t S s;go_enter func68,ntmps68;go_wp2_with fail;go_ret;exact ⟨by (rw [hR]) <;> rfl,A⟩
 have A8:(V==0)=false:=by simp;omega
 have B1:0<=V/\V<=20:=by omega
 have A1:=hZ9 E;clear E;go_enter func68,ntmps68;go_wp2_with fail;go_loopw [5,12] (fun mv i wr=>∃j M:Nat,j<=u/\i=.int .i64 j/\mv=.int .i64 (M:Int)/\Hid (M=min (FiS.BK (ps.take j)) lf)/\Whole wr w.heap.size 26 #[.int .i64 kd,.string ⟨b.toArray⟩,.string ⟨Q.toArray⟩,.string ⟨L.toArray⟩,.string ⟨ls.toArray⟩,.slice a5 AL c5,.slice O u G]/\Below w.heap.size w wr) (fun _ i _=>u - (intOf i).toNat)
 case atStart=>exact ⟨0,0,aR _,rfl,rfl,hZ9 (by rw [H0.out];omega),C,A⟩
 case round=>
  obtain ⟨j,M,U,rfl,rfl,P,hw,hb⟩:=hrel;clear C A q0 q1 q2 q3 q4 q5 q6;have B0:M<=20:=by have:=P.out;omega
  by_cases A0:j<u
  · have a:j<ps.length:=by rw [Z.out];exact A0
    have ht:=S.out j a;have A9:j<=20000:=by omega
    have N:=s.out j a;obtain ⟨d,rfl,g,o,rfl,F,b5,d5,b6,d6,q,y0,y1,y2,y3,y4,y5,y6⟩:=t.out j a;have q:=q.call hb;have y0:=(hb.cell (p:=⟨g,o+j*7,none⟩) F).trans y0;have y1:=(hb.cell (p:=⟨g,o+j*7+1,none⟩) F).trans y1;have y2:=(hb.cell (p:=⟨g,o+j*7+2,none⟩) F).trans y2;have y3:=(hb.cell (p:=⟨g,o+j*7+3,none⟩) F).trans y3;have y4:=(hb.cell (p:=⟨g,o+j*7+4,none⟩) F).trans y4;have y5:=(hb.cell (p:=⟨g,o+j*7+5,none⟩) F).trans y5;have y6:=(hb.cell (p:=⟨g,o+j*7+6,none⟩) F).trans y6;have y:=fun v W h=>T d rfl (ps[j]'a) v W (lf - 1) (V - 1) h N (by omega) (by have:=A1.out;omega);clear T t S s;generalize ps[j]=p at*;generalize p.any.length=PA at*;generalize p.parts.length=PP at*;have B5:(0:Int)<=(j:Int):=by omega
    have B4:(j:Int)<(u:Int):=by omega
    have hc:=y _ _ q;clear y q N;obtain ⟨q0,q1,q2,q3,q4,q5,q6⟩:=hw.seven;obtain ⟨D,hD⟩:∃m,min (FiS.depth p) (lf - 1+1)=m:=⟨_,rfl⟩
    rw [hD] at hc;have A2:Hid (max M D=min (FiS.BK (ps.take (j+1))) lf):=hZ9 (by have:=P.out;omega);have B2:D<=20:=by omega
    have A7:max (M:Int) (D:Int)=((max M D:Nat):Int):=by omega
    clear hD ht P;go_wp2_with fail;refine hc.mono ?_;rintro e w2 ⟨rfl,J⟩;have A6:=hb.trans (J.mono hb.size);have A4:=hw.call J;clear hc q0 q1 q2 q3 q4 q5 q6;go_wp2_with fail;go_roundw
    case rel=>exact ⟨j+1,max M D,by omega,by go_num,by first | rfl | (rw [A7]) | (congr 1),A2,A4,A6⟩
    case measure=>simp [intOf];omega
  · have A3:j=u:=by omega
    subst A3;have hR:R=M+1:=by have:=P.out;rw [z.out] at this;have:=HR.out;omega
    clear T t S s P;go_wp2_with fail;go_ret;subst hR;exact ⟨by first | rfl | (congr 2),hb⟩)
def AfC (n:Nat):Prop:=∀(x:Fi) (v:Value) (w:World),Dh n w v x->FiS.wdF 20000 x->Calls prog 69 #[v] w (BB (FiS.Dp x) w)
theorem Agi:∀n,AfC n:=Fg (fun n IH=>by
 unfold AfC BB at*;intro x v w h V;have a:=fun w h hs=>AfA n x v w h hs;unfold BB at a;obtain ⟨kd,c,A,z,ls,y,ps⟩:=x;obtain ⟨a5,c5,S,K,hv,C,J,s⟩:=FiV.parts h;have hv:v=.agg #[.int .i64 kd,.string ⟨c.toArray⟩,.string ⟨A.toArray⟩,.string ⟨z.toArray⟩,.string ⟨ls.toArray⟩,.slice a5 y.length c5,.slice S ps.length K]:=hv;subst hv;have C:Ah w (.slice a5 y.length c5) y:=C;have J:ps.length<=K:=J;have s:BC n (fun _=>True) w (.slice S ps.length K) ps:=s;rw [FiS.wdF] at V;obtain ⟨_,hs,_,A5,A0⟩:=V;have N:=hZ9 (FiS.Ho.1 A0);clear A0;have a:=fun w h=>a w h (by show y.length<=_;omega);have HT:=hZ9 (fun j (M:j<ps.length)=>FiS.Md M);have HN:=hZ9 (fun j (M:j<ps.length) (h:FiS.Dp (ps[j]'M)=false)=>FiS.OC M h);have I:Hid (ps.take ps.length=ps):=hZ9 (bE);have l:Hid (FiS.Dp (.mk kd c A z ls y ps)=(FiS.Hj (.mk kd c A z ls y ps)&&FiS.allL ps)):=hZ9 (by rw [FiS.Dp]);obtain ⟨AL,t⟩:∃m,y.length=m:=⟨_,rfl⟩
 obtain ⟨F,q⟩:∃m,ps.length=m:=⟨_,rfl⟩
 have A1:=hZ9 t;have Y:=hZ9 q;rw [t] at C;rw [q] at J s;obtain ⟨R,hR⟩:∃b,FiS.Dp (.mk kd c A z ls y ps)=b:=⟨_,rfl⟩
 obtain ⟨B,hB⟩:∃b,FiS.Hj (.mk kd c A z ls y ps)=b:=⟨_,rfl⟩
 rw [hR,hB] at l;rw [hR];rw [hB] at a;clear hB hR;have r:=Af w (.cells #[.int .i64 kd,.string ⟨c.toArray⟩,.string ⟨A.toArray⟩,.string ⟨z.toArray⟩,.string ⟨ls.toArray⟩,.slice a5 AL c5,.slice S F K] 26);have L:=Whole.made w 26 #[.int .i64 kd,.string ⟨c.toArray⟩,.string ⟨A.toArray⟩,.string ⟨z.toArray⟩,.string ⟨ls.toArray⟩,.slice a5 AL c5,.slice S F K];have U:Dh n w (.agg #[.int .i64 kd,.string ⟨c.toArray⟩,.string ⟨A.toArray⟩,.string ⟨z.toArray⟩,.string ⟨ls.toArray⟩,.slice a5 AL c5,.slice S F K]) (.mk kd c A z ls y ps):=by rw [t,q] at h;exact h
 rw [t,q] at a⊢;have a:=a _ (U.call r);have P:=hZ9 (fun j (M:j<ps.length)=>BC.at s j M);rw [q] at I;obtain ⟨q0,q1,q2,q3,q4,T,q6⟩:=L.seven;have H:=hZ9 L;clear h C s t q A1 U L;cases B with
 | false=>have HR:Hid (R=false):=hZ9 (by rw [l.out];simp);clear l IH;go_enter func69,ntmps69;go_wp2_with fail;refine a.mono ?_;rintro e w2 ⟨rfl,f⟩;go_wp2_with fail;go_ret;exact ⟨by (rw [HR.out]) <;> rfl,r.trans (f.mono r.size)⟩
 | true=>
  go_enter func69,ntmps69;go_wp2_with fail;refine a.mono ?_;rintro e w2 ⟨rfl,f⟩;have X:=r.trans (f.mono r.size);clear q0 q1 q2 q3 q4 T q6;have u:=H.out.call f;obtain ⟨q0,q1,q2,q3,q4,T,q6⟩:=u.seven;clear a;go_wp2_with fail;go_loopw [10] (fun i wr=>∃j:Nat,j<=F/\i=.int .i64 j/\Hid (FiS.allL (ps.take j)=true)/\Whole wr w.heap.size 26 #[.int .i64 kd,.string ⟨c.toArray⟩,.string ⟨A.toArray⟩,.string ⟨z.toArray⟩,.string ⟨ls.toArray⟩,.slice a5 AL c5,.slice S F K]/\Below w.heap.size w wr) (fun i _=>F - (intOf i).toNat)
  case atStart=>exact ⟨0,aR _,rfl,hZ9 (by simp [FiS.allL]),u,X⟩
  case round=>
   obtain ⟨j,M,rfl,HA,hw,hb⟩:=hrel;clear r X f u q0 q1 q2 q3 q4 T q6 H;by_cases A2:j<F
   · have k:j<ps.length:=by rw [Y.out];exact A2
     have A4:j<=20000:=by have:=Y.out;omega
     have HB:=hZ9 (fun h=>HN.out j k h);have HS:=hZ9 (HT.out j k);have Z:=N.out j k;obtain ⟨d,rfl,g,o,rfl,O,b5,d5,b6,d6,E,y0,y1,y2,y3,y4,y5,y6⟩:=P.out j k;have E:=E.call hb;have y0:=(hb.cell (p:=⟨g,o+j*7,none⟩) O).trans y0;have y1:=(hb.cell (p:=⟨g,o+j*7+1,none⟩) O).trans y1;have y2:=(hb.cell (p:=⟨g,o+j*7+2,none⟩) O).trans y2;have y3:=(hb.cell (p:=⟨g,o+j*7+3,none⟩) O).trans y3;have y4:=(hb.cell (p:=⟨g,o+j*7+4,none⟩) O).trans y4;have y5:=(hb.cell (p:=⟨g,o+j*7+5,none⟩) O).trans y5;have y6:=(hb.cell (p:=⟨g,o+j*7+6,none⟩) O).trans y6;have G:=fun v W h=>IH d rfl (ps[j]'k) v W h Z;clear IH P HN HT N;generalize ps[j]=p at*;generalize p.any.length=PA at*;generalize p.parts.length=PP at*;have A7:(0:Int)<=(j:Int):=by omega
     have A6:(j:Int)<(F:Int):=by omega
     have hc:=G _ _ E;clear G E Z;obtain ⟨q0,q1,q2,q3,q4,T,q6⟩:=hw.seven;cases Q:FiS.Dp p with
     | true=>
      have A3:Hid (FiS.allL (ps.take (j+1))=true):=hZ9 (by rw [HS.out,HA.out,Q];rfl);rw [Q] at hc;clear Q HS HB HA;go_wp2_with fail;refine hc.mono ?_;rintro e w2 ⟨rfl,f⟩;have u:=hw.call f;clear q0 q1 q2 q3 q4 T q6;go_wp2_with fail;go_roundw
      case rel=>exact ⟨j+1,by omega,by go_num,A3,u,hb.trans (f.mono hb.size)⟩
      case measure=>simp [intOf];omega
     | false=>have HR:Hid (R=false):=hZ9 (by rw [l.out,cf];exact HB.out Q);rw [Q] at hc;clear Q HS HB HA l;go_wp2_with fail;refine hc.mono ?_;rintro e w2 ⟨rfl,f⟩;go_wp2_with fail;go_ret;exact ⟨by (rw [HR.out]) <;> rfl,hb.trans (f.mono hb.size)⟩
   · have HR:Hid (R=true):=hZ9 (by
      have h1:=HA.out;rw [show j=F by omega,I.out] at h1;rw [l.out,h1];rfl)
     clear IH P HN HT N HA l;go_wp2_with fail;go_ret;exact ⟨by (rw [HR.out]) <;> rfl,hb⟩)
theorem Tm (n:Nat) (x:Fi) (v:Value) (w:World) (h:Dh n w v x) (j:FiS.wdF 20000 x):Calls prog 36 #[v] w (BB (FiS.formedS x) w):=by
 have P:=fun W h=>PK n x v W h;have hd:=fun W h=>AfB n x v W 20 20 h j (by omega) rfl;have L:=fun W h=>Agi n x v W h j;unfold BB at*;have HR:Hid (FiS.formedS x=(decide (FiS.nodes x<=40)&&(decide (FiS.depth x<=20)&&FiS.Dp x))):=hZ9 rfl;generalize FiS.formedS x=R at*;generalize FiS.nodes x=N at*;generalize FiS.depth x=D at*;generalize FiS.Dp x=B at*;obtain ⟨a5,c5,Q,O,S,F,T,G⟩:=FiV.parts h;generalize x.any.length=AL at*;generalize x.parts.length=PL at*;generalize x.kind=kd at*;generalize x.attr=at0 at*;generalize x.value=vl at*;generalize x.first=fs at*;generalize x.last=ls at*;subst S;have d:=Af w (.cells #[.int .i64 kd,.string ⟨at0.toArray⟩,.string ⟨vl.toArray⟩,.string ⟨fs.toArray⟩,.string ⟨ls.toArray⟩,.slice a5 AL c5,.slice Q PL O] 26);have g:=Whole.made w 26 #[.int .i64 kd,.string ⟨at0.toArray⟩,.string ⟨vl.toArray⟩,.string ⟨fs.toArray⟩,.string ⟨ls.toArray⟩,.slice a5 AL c5,.slice Q PL O];obtain ⟨t,y,s,z,u,r,A⟩:=g.seven;have i:=P _ (h.call d);obtain ⟨M,H⟩:∃m,min N 41=m:=⟨_,rfl⟩
 rw [H] at i;obtain ⟨E,hE⟩:∃m,min D (20+1)=m:=⟨_,rfl⟩
 rw [hE] at hd;clear F G P;go_enter func36,ntmps36;go_wp2_with fail;refine i.mono ?_;rintro e w2 ⟨rfl,k⟩;have b:=d.trans (k.mono d.size);have o:=hd _ (h.call b);clear t y s z u r A i hd;have q:=g.call k;obtain ⟨t,y,s,z,u,r,A⟩:=q.seven;clear g;by_cases X:M<=40
 · have U:decide ((M:Int)<=40)=true:=aL (by omega);have a:Hid (R=(decide (D<=20)&&B)):=hZ9 (by rw [HR.out,aL (p:=N<=40) (by omega),cf]);clear HR H;go_wp2_with fail;refine o.mono ?_;rintro e w3 ⟨rfl,l⟩;have c:=b.trans (l.mono b.size);have K:=L _ (h.call c);clear t y s z u r A o L h;have J:=q.call l;obtain ⟨t,y,s,z,u,r,A⟩:=J.seven;by_cases V:E<=20
   · have I:decide ((E:Int)<=20)=true:=aL (by omega);have f:Hid (R=B):=hZ9 (by rw [a.out,aL (by omega),cf]);clear a hE;go_wp2_with fail;refine K.mono ?_;rintro e w4 ⟨rfl,C⟩;go_wp2_with fail;go_ret;exact ⟨by (rw [f.out]) <;> rfl,c.trans (C.mono c.size)⟩
   · have I:decide ((E:Int)<=20)=false:=aC (by omega);have f:Hid (R=false):=hZ9 (by rw [a.out,aC (by omega),cG]);clear a hE;go_wp2_with fail;go_ret;exact ⟨by (rw [f.out]) <;> rfl,c⟩
 · have U:decide ((M:Int)<=40)=false:=aC (by omega);have a:Hid (R=false):=hZ9 (by rw [HR.out,aC (p:=N<=40) (by omega),cG]);clear HR H hE;go_wp2_with fail;go_ret;exact ⟨by (rw [a.out]) <;> rfl,b⟩
def OD (x:Fi) (d lf:Nat) (w:World) (e:Ending) (w':World):Prop:=∃r:Int,e=.returned (.int .i64 r)/\-1<=r/\r<=60/\Hid (0<=r->FiS.wdF 2000 x/\d+FiS.depth x<=41/\r+FiS.nodes x=lf)/\Below w.heap.size w w'
def UE (n:Nat):Prop:=∀(x:Fi) (v:Value) (w:World) (d lf:Nat) (a b:Int),Dh n w v x->d<=41->lf<=60->a=(d:Int)->b=(lf:Int)->Calls prog 87 #[v,.int .i64 a,.int .i64 b] w (OD x d lf w)
def SmT (ps:List Fi) (d lf j:Nat) (r:Int):Prop:=0<=r->(∀i (hi:i<ps.length),i<j->FiS.wdF 2000 (ps[i]'hi))/\d+1+FiS.BK (ps.take j)<=41/\r+1+FiS.Bi (ps.take j)=lf
theorem SmT.step {ps:List Fi} {d lf j m:Nat} {r r2:Int} (a:j<ps.length) (g:(m:Int)=r) (h:SmT ps d lf j r) (h2:0<=r2->FiS.wdF 2000 (ps[j]'a)/\d+1+FiS.depth (ps[j]'a)<=41/\r2+FiS.nodes (ps[j]'a)=m):SmT ps d lf (j+1) r2:=by
 intro b;obtain ⟨h3,h4,h5⟩:=h2 b;obtain ⟨h6,h7,h8⟩:=h (by omega);refine ⟨fun i c f=>?_,?_,?_⟩
 · by_cases e:i=j
   · subst e;exact h3
   · exact h6 i c (by omega)
 · rw [FiS.Ig a];omega
 · rw [FiS.Ie a];omega
theorem AaE:∀n,UE n:=Fg (fun n O=>by
 unfold UE OD at*;intro x v w D lf di li h hD D0 A7 A6;obtain ⟨kd,b,z,y,ls,k,ps⟩:=x;obtain ⟨a5,c5,V,Q,hv,J,Y,P⟩:=FiV.parts h;have hv:v=.agg #[.int .i64 kd,.string ⟨b.toArray⟩,.string ⟨z.toArray⟩,.string ⟨y.toArray⟩,.string ⟨ls.toArray⟩,.slice a5 k.length c5,.slice V ps.length Q]:=hv;subst hv;have J:Ah w (.slice a5 k.length c5) k:=J;have Y:ps.length<=Q:=Y;have P:BC n (fun _=>True) w (.slice V ps.length Q) ps:=P;have a:=hZ9 (fun j (hj:j<ps.length) (m:Nat) (r r2:Int) (hm:(m:Int)=r) (h:SmT ps D lf j r) h2=>SmT.step (r2:=r2) hj hm h h2);have c:Hid (∀r:Int,D<=40->r+1=lf->SmT ps D lf 0 r):=hZ9 (fun r h1 h2 h3=>⟨fun i H h=>by omega,by simp [FiS.BK];omega,by simp [FiS.Bi];omega⟩);have A0:=hZ9 (fun j (hj:j<=ps.length)=>FiS.Mc hj);have A4:Hid (ps.take ps.length=ps):=hZ9 (bE);have B2:Hid (ps.length<=FiS.Bi ps):=hZ9 (FiS.LZ ps);have A:Hid (∀r:Int,SmT ps D lf ps.length r->(b.length<=2000/\z.length<=2000/\y.length<=2000/\ls.length<=2000)->k.length<=2000->(∀t ∈ k,t.length<=2000)->0<=r->FiS.wdF 2000 (.mk kd b z y ls k ps)/\D+FiS.depth (.mk kd b z y ls k ps)<=41/\r+FiS.nodes (.mk kd b z y ls k ps)=lf):=hZ9 (fun r h1 h2 h3 h4 h5=>by
  obtain ⟨h6,h7,h8⟩:=h1 h5;rw [A4.out] at h7 h8;rw [FiS.wdF,FiS.depth,FiS.nodes];have:=B2.out;exact ⟨⟨h2,h3,h4,by omega,FiS.Ho.2 (fun i H=>h6 i H H)⟩,by omega,by omega⟩)
 obtain ⟨I,K⟩:∃m,k.length=m:=⟨_,rfl⟩
 obtain ⟨F,N⟩:∃m,ps.length=m:=⟨_,rfl⟩
 have A3:=hZ9 K;have B4:=hZ9 N;rw [K] at J;rw [N] at Y P
 try rw [K]
 try rw [N]
 have u:=Af w (.cells #[.int .i64 kd,.string ⟨b.toArray⟩,.string ⟨z.toArray⟩,.string ⟨y.toArray⟩,.string ⟨ls.toArray⟩,.slice a5 I c5,.slice V F Q] 26);have Z:=Whole.made w 26 #[.int .i64 kd,.string ⟨b.toArray⟩,.string ⟨z.toArray⟩,.string ⟨y.toArray⟩,.string ⟨ls.toArray⟩,.slice a5 I c5,.slice V F Q];have q:=hZ9 (fun j (hj:j<ps.length)=>BC.at P j hj);obtain ⟨a',c',e,B3,A1⟩:=Ad.at (J.strsP (fun _=>True) (fun _ _=>trivial));injection e with e1 e2 e3;rw [<-e1] at A1;have B:=hZ9 A1;clear A1 J e1 e2 e3 B3;obtain ⟨E,hG⟩:∃G:Int->Prop,G=fun r:Int=>0<=r->FiS.wdF 2000 (.mk kd b z y ls k ps)/\D+FiS.depth (.mk kd b z y ls k ps)<=41/\r+FiS.nodes (.mk kd b z y ls k ps)=lf:=⟨_,rfl⟩
 have C:Hid (∀r:Int,(0<=r->FiS.wdF 2000 (.mk kd b z y ls k ps)/\D+FiS.depth (.mk kd b z y ls k ps)<=41/\r+FiS.nodes (.mk kd b z y ls k ps)=lf)->E r):=hZ9 (fun r h=>by rw [hG];exact h);have f:Hid (E (-1)):=hZ9 (by rw [hG];intro h;omega)
 suffices hS:Calls prog 87 #[.agg #[.int .i64 kd,.string ⟨b.toArray⟩,.string ⟨z.toArray⟩,.string ⟨y.toArray⟩,.string ⟨ls.toArray⟩,.slice a5 I c5,.slice V F Q],.int .i64 di,.int .i64 li] w fun e w'=>∃r:Int,e=.returned (.int .i64 r)/\-1<=r/\r<=60/\Hid (E r)/\Below w.heap.size w w' by rw [hG] at hS;exact hS
 clear hG;rw [K,N] at A;obtain ⟨q0,q1,q2,q3,q4,q5,q6⟩:=Z.seven;clear h P K N;have g1:decide ((40:Int)<di)=decide (40<D):=bO.2 (by omega);have D2:0<=di/\di<=41/\0<=li/\li<=60:=by omega
 have C1:=hZ9 A7;have B8:=hZ9 A6;clear A7 A6;by_cases k0:40<D
 · rw [aL k0] at g1;clear O q B A a c C;go_enter func87,ntmps87;go_wp2_with fail;go_ret;exact ⟨-1,by rfl,by omega,by omega,f,u⟩
 rw [aC k0] at g1;have g2:decide ((100:Int)<(I:Int))=decide (100<I):=bO.2 (by omega);by_cases k1:100<I
 · rw [aL k1] at g2;clear O q B A a c C;go_enter func87,ntmps87;go_wp2_with fail;go_ret;exact ⟨-1,by rfl,by omega,by omega,f,u⟩
 rw [aC k1] at g2;have g3:decide ((2000:Int)<(z.length:Int))=decide (2000<z.length):=bO.2 (by omega);by_cases k2:2000<z.length
 · rw [aL k2] at g3;clear O q B A a c C;go_enter func87,ntmps87;go_wp2_with fail;go_ret;exact ⟨-1,by rfl,by omega,by omega,f,u⟩
 rw [aC k2] at g3;have g4:decide ((2000:Int)<(b.length:Int))=decide (2000<b.length):=bO.2 (by omega);by_cases k3:2000<b.length
 · rw [aL k3] at g4;clear O q B A a c C;go_enter func87,ntmps87;go_wp2_with fail;go_ret;exact ⟨-1,by rfl,by omega,by omega,f,u⟩
 rw [aC k3] at g4;have g5:decide ((2000:Int)<(y.length:Int))=decide (2000<y.length):=bO.2 (by omega);by_cases k4:2000<y.length
 · rw [aL k4] at g5;clear O q B A a c C;go_enter func87,ntmps87;go_wp2_with fail;go_ret;exact ⟨-1,by rfl,by omega,by omega,f,u⟩
 rw [aC k4] at g5;have g6:decide ((2000:Int)<(ls.length:Int))=decide (2000<ls.length):=bO.2 (by omega);by_cases k5:2000<ls.length
 · rw [aL k5] at g6;clear O q B A a c C;go_enter func87,ntmps87;go_wp2_with fail;go_ret;exact ⟨-1,by rfl,by omega,by omega,f,u⟩
 rw [aC k5] at g6;have M:Hid (∀r:Int,SmT ps D lf F r->(∀t ∈ k,t.length<=2000)->E r):=hZ9 (fun r h1 h2=>C.out r (A.out r h1 ⟨by omega,by omega,by omega,by omega⟩ (by omega) h2));clear A C;go_enter func87,ntmps87;go_wp2_with fail;clear g1 g2 g3 g4 g5 g6;go_loopw [44] (fun i wr=>∃j:Nat,j<=I/\i=.int .i64 j/\Hid (∀i (H:i<k.length),i<j->(k[i]'H).length<=2000)/\w.alloc (.cells #[.int .i64 kd,.string ⟨b.toArray⟩,.string ⟨z.toArray⟩,.string ⟨y.toArray⟩,.string ⟨ls.toArray⟩,.slice a5 I c5,.slice V F Q] 26)=wr) (fun i _=>I - (intOf i).toNat)
 case atStart=>exact ⟨0,aR _,rfl,hZ9 (fun i H h=>by omega),rfl⟩
 case round=>
  obtain ⟨j,hj,rfl,HA,rfl⟩:=hrel;by_cases A2:j<I
  · have l:j<k.length:=by rw [A3.out];exact A2
    have B1:=hZ9 HA.out;obtain ⟨g,o,C7,X,_,hra⟩:=B.out j l;have B7:(w.alloc (.cells #[.int .i64 kd,.string ⟨b.toArray⟩,.string ⟨z.toArray⟩,.string ⟨y.toArray⟩,.string ⟨ls.toArray⟩,.slice a5 I c5,.slice V F Q] 26)).cell? ⟨g,o+j,none⟩=some (Ac k[j]):=by have:w.cell? ⟨g,o+j*1,none⟩=some (Ac k[j]):=hra;rw [cK] at this;exact Ab this u
    clear hra B O q a c M;subst C7;have A8:Hid ((k[j]'l).length<=2000->∀i (H:i<k.length),i<j+1->(k[i]'H).length<=2000):=hZ9 (fun h i H D1=>by
     by_cases e:i=j
     · subst e;exact h
     · exact HA.out i H (by omega))
    generalize k[j]=s at*;unfold Ac at B7;have C6:(0:Int)<=(j:Int):=by omega
    have C5:(j:Int)<(I:Int):=by omega
    by_cases hs:2000<s.length
    · have g1:decide ((2000:Int)<(s.length:Int))=true:=aL (by omega);go_wp2_with fail;go_ret;exact ⟨-1,by rfl,by omega,by omega,f,u⟩
    · have g1:decide ((2000:Int)<(s.length:Int))=false:=aC (by omega);have C8:=hZ9 (A8.out (by omega));clear A8 HA B1;go_wp2_with fail;go_roundw
      case rel=>exact ⟨j+1,by omega,by go_num,C8,by first | rfl | trivial⟩
      case measure=>simp [intOf];omega
  · have L:Hid (∀r:Int,SmT ps D lf F r->E r):=hZ9 (fun r h=>M.out r h (fun t ht=>by
     obtain ⟨i,H,rfl⟩:=gW ht;exact HA.out i H (by rw [A3.out] at H;omega)))
    clear M HA B A3;go_wp2_with fail;go_loopw [2,60] (fun lv i wr=>∃(j:Nat) (r:Int),j<=F/\i=.int .i64 j/\lv=.int .i64 r/\-1<=r/\r<=60/\Hid (SmT ps D lf j r)/\Whole wr w.heap.size 26 #[.int .i64 kd,.string ⟨b.toArray⟩,.string ⟨z.toArray⟩,.string ⟨y.toArray⟩,.string ⟨ls.toArray⟩,.slice a5 I c5,.slice V F Q]/\Below w.heap.size w wr) (fun _ i _=>F - (intOf i).toNat)
    case atStart=>exact ⟨0,li - 1,aR _,rfl,by first | rfl | go_num,by omega,by omega,hZ9 (c.out _ (by omega) (by have:=B8.out;omega)),Z,u⟩
    case round=>
     obtain ⟨j,r,hj,rfl,rfl,B6,A9,HM,hw,hb⟩:=hrel;clear Z u q0 q1 q2 q3 q4 q5 q6;by_cases A2:j<F
     · by_cases U:r<0
       · have g1:decide (r<0)=true:=aL U;clear O q a c L HM;go_wp2_with fail;go_ret;exact ⟨-1,by rfl,by omega,by omega,f,hb⟩
       have g1:decide (r<0)=false:=aC U;have l:j<ps.length:=by rw [B4.out];exact A2
       have C4:=A0.out j (dD l);have C9:j<=60:=by have:=(HM.out (by omega)).2.2;omega
       obtain ⟨m,hm⟩:∃m:Nat,(m:Int)=r:=⟨r.toNat,by omega⟩
       have HS:=hZ9 (fun r2 h2=>a.out j l m r r2 hm HM.out h2);clear C4 A0;obtain ⟨d,rfl,g,o,rfl,X,b5,d5,b6,d6,R,y0,y1,y2,y3,y4,y5,y6⟩:=q.out j l;have R:=R.call hb;have y0:=(hb.cell (p:=⟨g,o+j*7,none⟩) X).trans y0;have y1:=(hb.cell (p:=⟨g,o+j*7+1,none⟩) X).trans y1;have y2:=(hb.cell (p:=⟨g,o+j*7+2,none⟩) X).trans y2;have y3:=(hb.cell (p:=⟨g,o+j*7+3,none⟩) X).trans y3;have y4:=(hb.cell (p:=⟨g,o+j*7+4,none⟩) X).trans y4;have y5:=(hb.cell (p:=⟨g,o+j*7+5,none⟩) X).trans y5;have y6:=(hb.cell (p:=⟨g,o+j*7+6,none⟩) X).trans y6;have T:=fun v W h=>O d rfl (ps[j]'l) v W (D+1) m (di+1) r h (by omega) (by omega) (by have:=C1.out;omega) hm.symm;clear O q a c HM;clear hm;generalize ps[j]=p at*;generalize p.any.length=PA at*;generalize p.parts.length=PP at*;have C6:(0:Int)<=(j:Int):=by omega
       have C5:(j:Int)<(F:Int):=by omega
       have hc:=T _ _ R;clear T R;obtain ⟨q0,q1,q2,q3,q4,q5,q6⟩:=hw.seven;go_wp2_with fail;refine hc.mono ?_;rintro e w2 ⟨r2,rfl,B0,B5,S,A5⟩;have C3:=hb.trans (A5.mono hb.size);have C2:=hw.call A5;have C0:=hZ9 (HS.out r2 S.out);clear hc q0 q1 q2 q3 q4 q5 q6 HS S;go_wp2_with fail;go_roundw
       case rel=>exact ⟨j+1,r2,by omega,by go_num,rfl,B0,B5,C0,C2,C3⟩
       case measure=>simp [intOf];omega
     · have B9:j=F:=by omega
       subst B9;have S:=hZ9 (L.out r HM.out);clear O q a c L HM A0;go_wp2_with fail;go_ret;exact ⟨r,rfl,B6,A9,S,hb⟩)
theorem AaF (n:Nat) (x:Fi) (v:Value) (w:World) (h:Dh n w v x):Calls prog 54 #[v] w fun e w'=>∃b,e=.returned (.bool b)/\Hid (b=true->FiS.wdF 2000 x/\FiS.depth x<=41/\FiS.nodes x<=60)/\Below w.heap.size w w':=by
 have m:=fun W h=>AaE n x v W 0 60 0 60 h (by omega) (by omega) rfl rfl;unfold OD at*;have HR:Hid (∀r:Int,(0<=r->FiS.wdF 2000 x/\0+FiS.depth x<=41/\r+FiS.nodes x=(60:Nat))->decide (0<=r)=true->FiS.wdF 2000 x/\FiS.depth x<=41/\FiS.nodes x<=60):=hZ9 (fun r h h2=>by
  obtain ⟨h3,h4,h5⟩:=h (bB h2);have:=bB h2;exact ⟨h3,by omega,by omega⟩)
 obtain ⟨a5,c5,o,l,q,f,s,g⟩:=FiV.parts h;generalize x.any.length=AL at*;generalize x.parts.length=PL at*;generalize x.kind=kd at*;generalize x.attr=at0 at*;generalize x.value=vl at*;generalize x.first=fs at*;generalize x.last=ls at*;subst q;have a:=Af w (.cells #[.int .i64 kd,.string ⟨at0.toArray⟩,.string ⟨vl.toArray⟩,.string ⟨fs.toArray⟩,.string ⟨ls.toArray⟩,.slice a5 AL c5,.slice o PL l] 26);have j:=Whole.made w 26 #[.int .i64 kd,.string ⟨at0.toArray⟩,.string ⟨vl.toArray⟩,.string ⟨fs.toArray⟩,.string ⟨ls.toArray⟩,.slice a5 AL c5,.slice o PL l];obtain ⟨A,C,z,E,B,y,F⟩:=j.seven;have c:=m _ (h.call a);clear f g m;go_enter func54,ntmps54;go_wp2_with fail;refine c.mono ?_;rintro e w2 ⟨r,rfl,t,p,d,k⟩;have i:=a.trans (k.mono a.size);have u:=hZ9 (HR.out r d.out);clear HR d c;go_wp2_with fail;go_ret;exact ⟨_,rfl,u,i⟩
end
end Go.Proofs.YtgngjfjaelgaeaaGreatDoor
