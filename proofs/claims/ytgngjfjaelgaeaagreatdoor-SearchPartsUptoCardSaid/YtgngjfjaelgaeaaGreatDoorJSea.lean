/- Small walks of search: Beyond, Index and Contains of places, Fresh, Limit, within. Conditions: as stated. -/
import Derived.Test.YtgngjfjaelgaeaaGreatDoorJPlc
set_option maxRecDepth 100000
set_option maxHeartbeats 4000000
namespace Go.Proofs.YtgngjfjaelgaeaaGreatDoor
open Go.Proofs.Tryz
open Go.RowKit
attribute [local go_sem ↓] Go.wp_at_zero Go.wp_at_succ
theorem AdN (sc:Int) (w:World):Calls prog 26 #[.int .i64 sc] w fun e w'=>e=.returned (.int .i64 (SeS.Hy sc))/\w=w':=by
 have a:Hid (SeS.Hy sc=if sc=2 then 2 else 0):=hZ9 rfl;generalize SeS.Hy sc=B at*;by_cases h:sc=2
 · have e:(sc==2)=true:=by simpa using h
   have HR:Hid (B=2):=hZ9 (by rw [a.out,aP h]);clear a;go_enter func26,ntmps26;go_wp2_with fail;go_ret;exact ⟨by (rw [HR.out]) <;> rfl,by first | rfl | trivial⟩
 · have e:(sc==2)=false:=by simpa using h
   have HR:Hid (B=0):=hZ9 (by rw [a.out,aG h]);clear a;go_enter func26,ntmps26;go_wp2_with fail;go_ret;exact ⟨by (rw [HR.out]) <;> rfl,by first | rfl | trivial⟩
theorem Afo {ps:List SeS.Pl} {p:SeS.Pl} {j:Nat} (a:j<ps.length) (h:(ps[j]'a==p)=true):ps.contains p=true:=by
 rw [cZ];have:ps[j]'a=p:=by simpa using h
 exact this ▸ aZ a
theorem Afp {ps:List SeS.Pl} {p:SeS.Pl} (h:∀j (a:j<ps.length),(ps[j]'a==p)=false):ps.contains p=false:=by
 rw [fo,gq];intro x hx;obtain ⟨j,a,rfl⟩:=bf.1 hx;have h1:=h j a;intro h2;have e:ps[j]=p:=by
  have h3:(p==ps[j])=true:=h2
  simpa using (eq_of_beq h3).symm
 rw [e] at h1;simp at h1
theorem Agr (a b:List UInt8) (x y:Int):(((a,x):SeS.Pl)==(b,y))=(a==b&&x==y):=rfl
theorem SQ (v:Value) (ps:List SeS.Pl) (f:List UInt8) (d:Int) (w:World) (h:Jv w v ps) (Y:ps.length<=1048576):Calls prog 59 #[v,.agg #[.string ⟨f.toArray⟩,.int .i64 d]] w fun e w'=>(∃r:Int,e=.returned (.int .i64 r)/\ps.contains ((f,d):SeS.Pl)=decide (0<=r))/\Below w.heap.size w w':=by
 have l:=hZ9 (fun j (z:j<ps.length) h=>Afo (p:=(f,d)) z h);have u:=hZ9 (fun h=>@Afp ps (f,d) h);obtain ⟨a,c,rfl,hc,n⟩:=h;have C:Hid (∀j (z:j<ps.length),∃g o,a=some ⟨g,o,none⟩/\g<w.heap.size/\w.cell? ⟨g,o+j*2,none⟩=some (Ac (ps[j]'z).1)/\w.cell? ⟨g,o+j*2+1,none⟩=some (.int .i64 (ps[j]'z).2)):=hZ9 (fun j z=>by
  rcases n with rfl | ⟨g,o,rfl,M,R⟩
  · simp at z
  · exact ⟨g,o,rfl,M,R j _ (aJ z)⟩)
 clear n;obtain ⟨L,S⟩:∃m,ps.length=m:=⟨_,rfl⟩
 have W:=hZ9 S;rw [S] at hc Y⊢;clear S;obtain ⟨V,H⟩:∃b,ps.contains ((f,d):SeS.Pl)=b:=⟨_,rfl⟩
 rw [H] at l u⊢;clear H;have F:=Af w (.cells #[.string ⟨f.toArray⟩,.int .i64 d] 65);have G:=Whole.made w 65 #[.string ⟨f.toArray⟩,.int .i64 d];go_enter func59,ntmps59;go_wp2_with fail;go_loopw [8] (fun i wr=>∃j:Nat,j<=L/\i=.int .i64 j/\Whole wr w.heap.size 65 #[.string ⟨f.toArray⟩,.int .i64 d]/\Below w.heap.size w wr/\Hid (∀k (hk:k<ps.length),k<j->(ps[k]'hk==((f,d):SeS.Pl))=false)) (fun i _=>L - (intOf i).toNat)
 case atStart=>exact ⟨0,aR _,rfl,G,F,hZ9 (fun k hk h=>absurd h (cu _))⟩
 case round=>
  obtain ⟨j,z,rfl,J,hb,K⟩:=hrel;clear G F;by_cases O:j<L
  case neg=>
   have Q:j=L:=by omega
   have HR:Hid (V=false):=hZ9 (u.out (fun k hk=>K.out k hk (by rw [W.out] at hk;omega)));subst Q;clear l u C K;go_wp2_with fail;go_ret;exact ⟨⟨-1,by first | rfl | trivial,by rw [HR.out];rfl⟩,hb⟩
  have q:j<ps.length:=by rw [W.out];exact O
  obtain ⟨g,o,U,M,X,d1⟩:=C.out j q;subst U;have y0:wr.cell? ⟨g,o+j*2,none⟩=_:=(hb.cell (p:=⟨g,o+j*2,none⟩) M).trans X;have y1:wr.cell? ⟨g,o+j*2+1,none⟩=_:=(hb.cell (p:=⟨g,o+j*2+1,none⟩) M).trans d1;have x0:=J.cell 0;have x1:=J.cell 1;simp only [aI,aH,aK] at x0 x1;have N:=hZ9 (l.out j q);have A:Hid ((ps[j]'q==((f,d):SeS.Pl))=false->∀k (hk:k<ps.length),k<j+1->(ps[k]'hk==((f,d):SeS.Pl))=false):=hZ9 (fun h k hk T=>by
   rcases br (cF T) with h2 | rfl
   · exact K.out k hk h2
   · exact h)
  clear X d1 l u C K;generalize ps[j]=t at*;obtain ⟨B,ts⟩:=t;unfold Ac at y0;have A1:(0:Int)<=(j:Int):=by omega
  have A0:(j:Int)<(L:Int):=by omega
  have Z:∀x y w,(eqGuard .eql 65 x y (.agg #[.string ⟨f.toArray⟩,.int .i64 d]) (.agg #[.string ⟨B.toArray⟩,.int .i64 ts])).run prog w=.ok () w:=fun x y w=>run_eqGuard_agg w .eql _ x y _ _ (by kernel_rfl);have I:∀w,(binOp .eql 65 (.agg #[.string ⟨f.toArray⟩,.int .i64 d]) (.agg #[.string ⟨B.toArray⟩,.int .i64 ts])).run prog w=.ok (.bool (f==B&&d==ts)) w:=fun w=>by rw [run_eql_struct,Xc 65 (by kernel_rfl) (by kernel_rfl) (by kernel_rfl)];rfl
  have s:Hid (((((B,ts):SeS.Pl))==(f,d))=(f==B&&d==ts)):=hZ9 (by rw [Agr,BEq.comm (a:=B),BEq.comm (a:=ts)]);cases E:(f==B&&d==ts) with
  | true=>
   rw [E] at I;have HR:Hid (V=true):=hZ9 (N.out (by rw [s.out,E]));clear N A s E;go_wp2_with fail
   go_quiet (fail)
   go_wp2_with fail;go_ret;exact ⟨⟨(j:Int),by first | rfl | trivial,by rw [HR.out];simp⟩,hb.trans ((below_drewN wr _).mono hb.size)⟩
  | false=>
   rw [E] at I;have P:=hZ9 (A.out (by rw [s.out,E]));clear N A s E;have A2:=J.call (below_drewN wr 1);go_wp2_with fail
   go_quiet (fail)
   go_wp2_with fail;go_roundw
   case rel=>exact ⟨j+1,by omega,by go_num,J.call (below_drewN wr _),hb.trans ((below_drewN wr _).mono hb.size),P⟩
   case measure=>simp [intOf];omega
theorem Ws (v:Value) (ps:List SeS.Pl) (i:List UInt8) (d:Int) (w:World) (h:Jv w v ps) (n:ps.length<=1048576):Calls prog 27 #[v,.agg #[.string ⟨i.toArray⟩,.int .i64 d]] w fun e w'=>e=.returned (.bool (ps.contains ((i,d):SeS.Pl)))/\Below w.heap.size w w':=by
 have g:=Af w (.cells #[.string ⟨i.toArray⟩,.int .i64 d] 65);have o:=SQ v ps i d w h n;have k:=SQ v ps i d _ (h.call g (aA _)) n;obtain ⟨a,c,rfl,_⟩:=h;obtain ⟨p,j⟩:∃b,ps.contains ((i,d):SeS.Pl)=b:=⟨_,rfl⟩
 rw [j] at o k⊢;clear j;generalize ps.length=L at*;go_enter func27,ntmps27;go_wp2_with fail
 first
 | (refine o.mono ?_;rintro e w1 ⟨⟨r,rfl,l⟩,f⟩
    subst l;go_wp2_with fail;go_ret;exact ⟨by first | rfl | trivial,f⟩)
 | (refine k.mono ?_;rintro e w1 ⟨⟨r,rfl,l⟩,f⟩
    have m:=g.trans (f.mono g.size);subst l;go_wp2_with fail;go_ret;exact ⟨by first | rfl | trivial,m⟩)
end Go.Proofs.YtgngjfjaelgaeaaGreatDoor
