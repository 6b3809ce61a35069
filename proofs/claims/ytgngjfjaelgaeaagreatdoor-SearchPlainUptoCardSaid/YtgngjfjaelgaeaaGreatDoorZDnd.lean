/- The walk of the document's Print of a part. Conditions: as stated. -/
import Derived.Lib.LazyBuf
import Derived.Test.YtgngjfjaelgaeaaGreatDoorZDna
set_option maxRecDepth 100000
set_option maxHeartbeats 4000000
namespace Go.Proofs.YtgngjfjaelgaeaaGreatDoor
open Go.Proofs.Tryz
variable {e:Int} {ts:List iK} {s:iK} {k:Nat}
section
open Go.RowKit
attribute [local go_sem ↓] Go.wp_at_zero Go.wp_at_succ
def Afk(xs:List RdS.Pr)(w1:World)(s i:Value)(wr:World):Prop:=∃k:Nat,k<=xs.length/\i=.int .i64 k/\s=.string ⟨(RdS.Bd xs k).toArray⟩/\Below w1.heap.size w1 wr
theorem Zz(v:Value)(xs:List RdS.Pr)(w:World)(h:AY w v xs)(hf:Fb xs)(hE:Env w):Calls prog 78 #[v] w (EW xs w):=by
 have y:=IQ v xs w h hf hE;unfold JX at y;cases b:RdS.formedS xs with
 |false=>rw[b] at y;have F:=hZ9 b;clear h hf b;go_enter func78,ntmps78;go_wp2_with fail;refine y.mono ?_;rintro e w1 ⟨rfl,q⟩;go_wp2_with fail;go_ret2;exact EW.bad F.out q
 |true=>
  rw[b] at y;have F:=hZ9 b;have P:=hZ9 (RdS.EP b);have A3:=hZ9 (RdS.LM b);have V:Hid (RdS.printS xs=(RdS.Bd xs xs.length,0)):=hZ9 (by unfold RdS.printS;rw[aJ b]);clear b hf;obtain⟨a,c,rfl,hc,M⟩:=h;rcases M with rfl|⟨g,o,rfl,U,hcell⟩
  ·have:=F.out;cases this
  have HC:=hZ9 hcell;generalize hn:xs.length=n at*;have T:=hZ9 hn;have A5:n<=3:=P.out.1;clear hn hcell;go_enter func78,ntmps78;go_wp2_with fail;refine y.mono ?_;rintro e w1 ⟨rfl,q⟩;have H:g<w1.heap.size:=ae U q.size;go_wp2_with fail;go_loopw [4,11] (λs i wr=>Afk xs w1 s i wr) (λ_ i _=>n-(intOf i).toNat)
  case atStart=>exact⟨0,aR _,rfl,rfl,Below.refl _ _⟩
  case round=>
   obtain⟨k,hk,rfl,rfl,hb⟩:=hrel;rw[T.out] at hk;have hsz:=hb.size;by_cases Y:k<n
   ·have x:k<xs.length:=by rw[T.out];exact Y
    obtain⟨c0,c1⟩:=HC.out k _ (aK x);have R:=hZ9 (RdS.Iq xs k x);have A2:=P.out.2 _ (aZ x);have A6:=A3.out k hk;generalize xs[k]=p at*;obtain⟨t,u⟩:=p;simp only at c0 c1 A2;have O:Hid (RdS.pairT (t,u)=t++[61]++RdS.EJ u):=hZ9 rfl;have A4:=RdS.Wb u;have N:=λw=>ZN u (by omega) w;replace c0:wr.cell? ⟨g,o+k*2,none⟩=some (Ac t):=(hb.cell (p:=⟨g,o+k*2,none⟩) H).trans ((q.cell (p:=⟨g,o+k*2,none⟩) U).trans c0);replace c1:wr.cell? ⟨g,o+k*2+1,none⟩=some (Ac u):=(hb.cell (p:=⟨g,o+k*2+1,none⟩) H).trans ((q.cell (p:=⟨g,o+k*2+1,none⟩) U).trans c1);unfold Ac at c0 c1;have C:g<wr.heap.size:=ae H hsz;clear x;by_cases B:k=0
    ·have G:Hid (RdS.Bd xs (k+1)=RdS.Bd xs k++t++[61]++RdS.EJ u):=hZ9 (by rw[R.out,aJ B,O.out];simp);have Z:decide ((0:Int)<(k:Int))=false:=aB (by omega);have S:decide (0<k)=false:=aB (by omega);clear B;generalize RdS.Bd xs k=acc at*;generalize RdS.EJ u=eu at*;have J:=EM acc t (by omega) (by omega);have d:(acc++t).length<=4000:=by rw[aT];omega
     obtain⟨z,l⟩:∃z,z=acc++t:=⟨_,rfl⟩
     rw[<-l] at J d;have L:=EM z [61] (by omega) (by decide);have f:(z++[61]).length<=5000:=by rw[aT,bE];omega
     obtain⟨A,m⟩:∃A,A=z++[61]:=⟨_,rfl⟩
     rw[<-m] at L f;have K:=EM A eu (by omega) (by omega);obtain⟨y3,r⟩:∃y3,y3=A++eu:=⟨_,rfl⟩
     rw[<-r] at K;have HY:Hid (y3=acc++t++[61]++eu):=hZ9 (by rw[r,m,l]);clear l m r d f;go_wp2_with fail
     go_region_held3 (λW=>W.cell? ⟨g,o+k*2,none⟩=some (.string ⟨t.toArray⟩)/\W.cell? ⟨g,o+k*2+1,none⟩=some (.string ⟨u.toArray⟩)) (first|exact⟨c0,c1⟩|exact⟨(j.cell (p:=⟨g,o+k*2,none⟩) C).trans c0,(j.cell (p:=⟨g,o+k*2+1,none⟩) C).trans c1⟩)
      (first|(go_at_call 118;(with_reducible refine(N _).mono ?_);rintro e w2 ⟨rfl,j⟩))
     all_goals go_wp2_with fail
     all_goals go_roundw
     all_goals first|exact⟨k+1,by rw[T.out];omega,by go_num,by rw[G.out,HY.out],hb.trans ((Aa (Below.drew (Below.refl _ _)) j).mono hsz)⟩|(simp[intOf];omega)
    ·have G:Hid (RdS.Bd xs (k+1)=RdS.Bd xs k++[43]++t++[61]++RdS.EJ u):=hZ9 (by rw[R.out,aG B,O.out];simp);have Z:(0:Int)<(k:Int):=by omega
     have S:0<k:=by omega
     clear B;generalize RdS.Bd xs k=acc at*;generalize RdS.EJ u=eu at*;have X:=EM acc [43] (by omega) (by decide);have A1:(⟨acc.toArray⟩++⟨#[43]⟩:ByteArray)=⟨(acc++[43]).toArray⟩:=MN acc [43];have E:(acc++[43]).length<=3500:=by rw[aT,bE];omega
     obtain⟨Q,I⟩:∃Q,Q=acc++[43]:=⟨_,rfl⟩
     rw[<-I] at X A1 E;have J:=EM Q t (by omega) (by omega);have d:(Q++t).length<=4000:=by rw[aT];omega
     obtain⟨z,l⟩:∃z,z=Q++t:=⟨_,rfl⟩
     rw[<-l] at J d;have L:=EM z [61] (by omega) (by decide);have f:(z++[61]).length<=5000:=by rw[aT,bE];omega
     obtain⟨A,m⟩:∃A,A=z++[61]:=⟨_,rfl⟩
     rw[<-m] at L f;have K:=EM A eu (by omega) (by omega);obtain⟨y3,r⟩:∃y3,y3=A++eu:=⟨_,rfl⟩
     rw[<-r] at K;have HY:Hid (y3=acc++[43]++t++[61]++eu):=hZ9 (by rw[r,m,l,I]);clear I l m r E d f;go_wp2_with fail
     go_region_held3 (λW=>W.cell? ⟨g,o+k*2,none⟩=some (.string ⟨t.toArray⟩)/\W.cell? ⟨g,o+k*2+1,none⟩=some (.string ⟨u.toArray⟩)) (first|exact⟨c0,c1⟩|exact⟨(j.cell (p:=⟨g,o+k*2,none⟩) C).trans c0,(j.cell (p:=⟨g,o+k*2+1,none⟩) C).trans c1⟩)
      (first|(go_at_call 118;(with_reducible refine(N _).mono ?_);rintro e w2 ⟨rfl,j⟩))
     all_goals go_wp2_with fail
     all_goals go_roundw
     all_goals first|exact⟨k+1,by rw[T.out];omega,by go_num,by rw[G.out,HY.out],hb.trans ((Aa (Below.drew (Below.refl _ _)) j).mono hsz)⟩|(simp[intOf];omega)
   ·have A0:k=n:=by omega
    subst A0;generalize RdS.Bd xs k=tx at*;go_wp2_with fail;go_ret2;exact⟨by rw[V.out];rfl,q.trans (hb.mono q.size)⟩
end
section
open Go.RowKit
attribute [local go_sem ↓] Go.wp_at_zero Go.wp_at_succ
theorem Abi(T:TypeId)(w:World):Bg T (w.alloc (.cells #[] T)) w.heap.size (.slice (some ⟨w.heap.size,0,none⟩) 0 0) []:=
 ⟨rfl,.inr ⟨w.heap.size,0,#[],rfl,aA _,by show (w.heap.push _)[w.heap.size]?=_;rw[dV],aA _,by unfold maxLen;omega,rfl,rfl⟩⟩
theorem Afl(v:Value)(xs:List RdS.Pr)(w:World)(h:AY w v xs)(h0:xs≠[])(H:xs.length<=1000):Calls prog 142 #[v] w λe w'=>∃u,e=.returned u/\Bg 190 w' w.heap.size u xs/\Below w.heap.size w w':=by
 obtain⟨a,c,rfl,hc,d⟩:=h;rcases d with rfl|⟨g,o,rfl,F,hcell⟩
 ·exact absurd rfl h0
 have m:∀(j:Nat) (u:Value),(CO xs)[j]?=some u->(w.alloc (.cells #[] 190)).cell? ((⟨g,o,none⟩:Addr).add j)=some u:=λj u f=>by
  have i:(⟨g,o,none⟩:Addr).add j=⟨g,o+j,none⟩:=by unfold Addr.add;split<;>simp_all
  rw[i];have t:=(ak.1 f).1;rw[Le] at t;have l:j / 2<xs.length:=by omega
  obtain⟨c0,c1⟩:=hcell (j / 2) _ (aK l);obtain⟨a0,a1⟩:=Ji xs (j / 2) xs[j / 2] (aK l);have hb:=Af w (.cells #[] 190);rcases eB j with h2|h2
  ·rw[show j / 2*2=j from by omega] at c0 a0;rw[a0] at f;cases f;exact Ab c0 hb
  ·rw[show o+j / 2*2+1=o+j from by omega] at c1;rw[show j / 2*2+1=j from by omega] at a1;rw[a1] at f;cases f;exact Ab c1 hb
 have x:=hZ9 m;obtain⟨i0,z,p,r,s⟩:=info_parts YW;have A:=hZ9 z;clear z m hcell;generalize y:xs.length=n at*;have B:=hZ9 y;clear y;have E:=λw=>Lib.run_eql_slice_nil (P:=prog) w 151 190 (some ⟨g,o,none⟩) n c 0 0 underlying151;go_enter func142,ntmps142;go_wp2_with (at_builtin;refine Ix 190 151 underlying151 A.out p r s (by rfl) (by rfl) _ _ (by rfl) w.heap.size _ [] (by rfl) (Abi _ w) ⟨g,o,none⟩ n _ (by rfl) xs B.out x.out (by simp;omega) (by simp) ?_)
 intro G w2 b q C;go_wp2_with fail;go_ret;exact⟨_,rfl,b,(Af w _).trans q⟩
def ES(xs:List RdS.Pr)(w:World)(e:Ending)(w':World):Prop:=∃v,e=.returned (.tuple #[v,.int .i64 (RdS.normP xs).2])/\AY w' v (RdS.normP xs).1/\Below w.heap.size w w'
theorem ES.bad{xs:List RdS.Pr}{w w':World}(h:RdS.formedS xs=false)(hb:Below w.heap.size w w'):ES xs w (.returned (.tuple #[.slice Option.none 0 0,.int .i64 1])) w':=by unfold ES RdS.normP;rw[h];exact⟨_,rfl,AY.empty w',hb⟩
def ET(xs:List RdS.Pr)(k:Nat):List RdS.Pr:=RdS.AW (xs.take k)++xs.drop k
theorem Abj(xs:List RdS.Pr)(k:Nat):(ET xs k).length=xs.length:=by unfold ET;rw[aT,RdS.FW,ar,bD];omega
theorem Ad1{xs:List RdS.Pr}(h:k<xs.length):(ET xs k)[k]?=some xs[k]:=by
 unfold ET;have a:(RdS.AW (xs.take k)).length=k:=by rw[RdS.FW,ar];omega
 rw[bH (by omega),a,eZ,eJ,Nat.add_zero,aK h]
theorem ZA{xs:List RdS.Pr}(h:k<xs.length):ET xs (k+1)=(ET xs k).set k (xs[k].1,(RuS.normal xs[k].1 xs[k].2).1):=by
 have a:(RdS.AW (xs.take k)).length=k:=by rw[RdS.FW,ar];omega
 unfold ET;rw[dm _ _ (by omega),a,eZ,av h,aL,aW h];unfold RdS.AW;rw[bQ];simp
theorem Ad2(xs:List RdS.Pr):∀(k:Nat) (p:RdS.Pr) (y:iK),xs[k]?=some p->CO (xs.set k (p.1,y))=(CO xs).set (k*2+1) (Ac y):=by
 induction xs with
 |nil=>intro k p y h;simp at h
 |cons q xs a=>
  intro k p y h;cases k with
  |zero=>have:=aU h;subst this;rfl
  |succ k=>
   have b:xs[k]?=some p:=by simpa using h
   show Ac q.1 :: Ac q.2 :: CO (xs.set k (p.1,y))=_
   rw[a k p y b,show (k+1)*2+1=k*2+1+1+1 from by omega];rfl
theorem Bg.stored{T:TypeId}{w:World}{B g n cap:Nat}{xs:List RdS.Pr}(h:Bg T w B (.slice (some ⟨g,0,none⟩) n cap) xs)(a:n=xs.length){p:RdS.Pr}(hk:xs[k]?=some p)(y:iK):
  Bg T (w.setCell ⟨g,k*2+1,none⟩ (Ac y)) B (.slice (some ⟨g,0,none⟩) n cap) (xs.set k (p.1,y)):=by
 subst a;have h1:=(World.ownsRow.stored h (k*2+1) (Ac y)).1;unfold Bg;rw[List.length_set,Ad2 xs k p y hk];exact h1
def Agm(xs:List RdS.Pr)(w1:World)(u i:Value)(wr:World):Prop:=∃k:Nat,k<=xs.length/\i=.int .i64 k/\Bg 190 wr w1.heap.size u (ET xs k)/\Below w1.heap.size w1 wr
theorem ZB(v:Value)(xs:List RdS.Pr)(w:World)(h:AY w v xs)(Y:Fb xs)(hE:Env w):Calls prog 107 #[v] w (ES xs w):=by
 have f:=LO v xs w h Y hE;unfold JX at f;cases c:RdS.formedS xs with
 |false=>rw[c] at f;have Q:=hZ9 c;clear h Y c;go_enter func107,ntmps107;go_wp2_with fail;refine f.mono ?_;rintro e w1 ⟨rfl,m⟩;go_wp2_with fail;go_ret2;exact ES.bad Q.out m
 |true=>
  rw[c] at f;have q:=RdS.Hm c;have U:xs≠[]:=by intro h0;rw[h0] at q;simp at q
  have M:=hZ9 (RdS.EP c);have I:Hid (RdS.normP xs=(RdS.AW xs,0)):=hZ9 (by unfold RdS.normP;rw[aJ c]);have J:0<xs.length:=q.1;have L:=λw h=>Afl v xs w h U (by have:=q.2.1;omega);clear c Y q;go_enter func107,ntmps107;go_wp2_with fail;refine f.mono ?_;rintro e w1 ⟨rfl,m⟩;have K:=hE.below m;go_wp2_with fail;refine(L _ (h.call m (aA _))).mono ?_;rintro e w2 ⟨u,rfl,a,F⟩;have A3:=K.below F;obtain⟨g2,cap,rfl,O,A1⟩:=World.ownsRow.form a J;have h00:ET xs 0=xs:=by unfold ET;simp[RdS.AW]
  have o:Bg 190 w2 w1.heap.size (.slice (some ⟨g2,0,none⟩) xs.length cap) (ET xs 0):=by rw[h00];exact a
  have E:=hZ9 o;generalize hn:xs.length=n at*;have H:=hZ9 hn;have A2:n<=3:=M.out.1;clear hn a o h00 f L h;go_wp2_with fail;go_loopw [14] (λi wr=>Agm xs w1 (.slice (some ⟨g2,0,none⟩) n cap) i wr) (λi _=>n-(intOf i).toNat)
  case atStart=>exact⟨0,aR _,rfl,E.out,F⟩
  case round=>
   obtain⟨k,hk,rfl,a,hb⟩:=hrel;rw[H.out] at hk;have hsz:=hb.size;by_cases R:k<n
   ·have d:k<xs.length:=by rw[H.out];exact R
    have C:=Ad1 d;have A:=hZ9 (ZA d);have X:=M.out.2 _ (aZ d);obtain⟨a0,a1⟩:=Ji (ET xs k) k xs[k] C;have c0:=World.ownsRow.cells a (g:=g2) rfl _ _ a0;have c1:=World.ownsRow.cells a (g:=g2) rfl _ _ a1;have G:∀j,(⟨g2,0,none⟩:Addr).add j=⟨g2,j,none⟩:=λj=>by unfold Addr.add;split<;>simp_all
    rw[G] at c0 c1;have b:=Abj xs k;rw[H.out] at b;have P:=hZ9 (λ(w':World) (B:Below wr.heap.size wr w') (y:iK)=>Bg.stored (Bg.call a B) b.symm C y);have N:=λ(w':World) (B:Below wr.heap.size wr w')=>World.ownsRow.frozenAt (n:=(ET xs k).length) (cap:=cap) (by have h5:=Bg.call a B;rw[b];unfold Bg at h5;rw[b] at h5;exact h5) (k*2+1);have Z:=hZ9 N;have A4:g2<wr.heap.size:=(World.ownsRow.lt a g2 rfl).2;generalize xs[k]=p at*;obtain⟨t,u⟩:=p;simp only at c0 c1 X;unfold Ac at c0 c1;have s:=λw hE=>Ge ⟨t.toArray⟩ ⟨u.toArray⟩ (by show t.toArray.size<=_;rw[bS];omega) (by show u.toArray.size<=_;rw[bS];omega) w hE;unfold AX at s;have S:∀l:iK,(⟨l.toArray⟩:ByteArray).data.toList=l:=λ_=>rfl;rw[S,S] at s;simp only at A;generalize RuS.normal t u=nr at*;obtain⟨x,e0⟩:=nr;simp only at s A;have A0:Below wr.heap.size wr (wr.alloc (.cells #[t,u] 190)):=Af wr _;have W:Env (wr.alloc (.cells #[t,u] 190)):=(K.below hb).alloc _;clear C a0 a1 d a S N;go_wp2_with fail;refine(s _ W).mono ?_;rintro e w3 ⟨rfl,V⟩;have r:Below wr.heap.size wr w3:=Aa A0 V;have d1:w3.cell? ⟨g2,k*2+1,none⟩=some (.string ⟨u.toArray⟩):=Ab c1 r;have f1:=Z.out w3 r;go_wp2_with fail;go_roundw
    case rel=>exact⟨k+1,by rw[H.out];omega,by go_num,by rw[A.out];exact P.out w3 r x,(hb.trans (r.mono hsz)).setCell (p:=⟨g2,k*2+1,none⟩) O _⟩
    case measure=>simp[intOf];omega
   ·have T:k=n:=by omega
    subst T;have z:ET xs k=RdS.AW xs:=by unfold ET;rw[<-H.out,bA,cj,bK]
    rw[z] at a;clear z;go_wp2_with fail;go_ret2;exact⟨_,by rw[I.out];rfl,by rw[I.out];exact a.avas,m.trans (hb.mono m.size)⟩
end
section
open Go.RowKit
attribute [local go_sem ↓] Go.wp_at_zero Go.wp_at_succ
def Afm(xs:List RdS.Pr)(w1:World)(out i:Value)(wr:World):Prop:=∃k:Nat,k<=xs.length/\i=.int .i64 k/\Bg 173 wr w1.heap.size out (RdS.AW (xs.take k))/\Below w1.heap.size w1 wr
theorem Uf(v:Value)(xs:List RdS.Pr)(w:World)(h:AY w v xs)(Z:Fb xs)(hE:Env w):Calls prog 77 #[v] w (ES xs w):=by
 have r:=IQ v xs w h Z hE;unfold JX at r;cases b:RdS.formedS xs with
 |false=>rw[b] at r;have z:=hZ9 b;clear h Z b;go_enter func77,ntmps77;go_wp2_with fail;refine r.mono ?_;rintro e w1 ⟨rfl,d⟩;go_wp2_with fail;go_ret2;exact ES.bad z.out d
 |true=>
  rw[b] at r;have z:=hZ9 b;have M:=hZ9 (RdS.EP b);have J:Hid (RdS.normP xs=(RdS.AW xs,0)):=hZ9 (by unfold RdS.normP;rw[aJ b]);clear b Z;obtain⟨a,c,rfl,hc,G⟩:=h;rcases G with rfl|⟨g,o,rfl,O,hcell⟩
  ·have:=z.out;cases this
  have HC:=hZ9 hcell;obtain⟨i0,hi,Q,S,U⟩:=info_parts UZ;have HI:=hZ9 hi;generalize hn:xs.length=n at*;have N:=hZ9 hn;have A1:n<=3:=M.out.1;clear hn hcell hi;go_enter func77,ntmps77;go_wp2_with fail;refine r.mono ?_;rintro e w1 ⟨rfl,d⟩;have V:=hE.below d;have B:g<w1.heap.size:=ae O d.size;go_wp2_with fail;go_loopw [4,13] (λout i wr=>Afm xs w1 out i wr) (λ_ i _=>n-(intOf i).toNat)
  case atStart=>exact⟨0,aR _,rfl,Bg.empty _ _ _,Below.refl _ _⟩
  case round=>
   obtain⟨k,hk,rfl,f,hb⟩:=hrel;rw[N.out] at hk;have hsz:=hb.size;by_cases R:k<n
   ·have j:k<xs.length:=by rw[N.out];exact R
    obtain⟨c0,c1⟩:=HC.out k _ (aK j);have Y:=M.out.2 _ (aZ j);have E:Hid (RdS.AW (xs.take (k+1))=RdS.AW (xs.take k)++[(xs[k].1,(RuS.normal xs[k].1 xs[k].2).1)]):=hZ9 (by
     rw[aW j];unfold RdS.AW;rw[bQ];rfl)
    have A0:(RdS.AW (xs.take k)).length<=1000:=by rw[RdS.FW,ar];omega
    generalize xs[k]=p at*;obtain⟨t,u⟩:=p;simp only at c0 c1 Y E;replace c0:wr.cell? ⟨g,o+k*2,none⟩=some (Ac t):=(hb.cell (p:=⟨g,o+k*2,none⟩) B).trans ((d.cell (p:=⟨g,o+k*2,none⟩) O).trans c0);replace c1:wr.cell? ⟨g,o+k*2+1,none⟩=some (Ac u):=(hb.cell (p:=⟨g,o+k*2+1,none⟩) B).trans ((d.cell (p:=⟨g,o+k*2+1,none⟩) O).trans c1);unfold Ac at c0 c1;have m:=λw hE=>Fq ⟨t.toArray⟩ ⟨u.toArray⟩ (by show t.toArray.size<=_;rw[bS];omega) (by show u.toArray.size<=_;rw[bS];omega) w hE;unfold AX at m;have T:∀l:iK,(⟨l.toArray⟩:ByteArray).data.toList=l:=λ_=>rfl;rw[T,T] at m;generalize RuS.normal t u=nr at*;obtain⟨x,e0⟩:=nr;simp only at m E;have s:=m wr.drew (V.below hb).drew;have H:g<wr.heap.size:=ae B hsz;have I:=hZ9 f;generalize RdS.AW (xs.take k)=ac at*;clear j T m f;go_wp2_with fail
    go_region_held3 (λW=>W.cell? ⟨g,o+k*2,none⟩=some (.string ⟨t.toArray⟩)/\W.cell? ⟨g,o+k*2+1,none⟩=some (.string ⟨u.toArray⟩)) (first|exact⟨c0,c1⟩|exact⟨(A.cell (p:=⟨g,o+k*2,none⟩) H).trans c0,(A.cell (p:=⟨g,o+k*2+1,none⟩) H).trans c1⟩)
     (first|(go_at_call 102;(with_reducible refine s.mono ?_);rintro e w2 ⟨rfl,A⟩))
    have q:Below wr.heap.size wr w2:=Aa (Below.drew (Below.refl _ _)) A;have d0:w2.cell? ⟨g,o+k*2,none⟩=some (.string ⟨t.toArray⟩):=(q.cell (p:=⟨g,o+k*2,none⟩) H).trans c0;have C:=Bg.call I.out q;have L:Below w1.heap.size w1 w2:=hb.trans (q.mono hsz);have K:=L.size;clear c0 c1 s;go_wp2_with (at_builtin;refine Jm 173 124 underlying124 HI.out Q S U (by rfl) (by rfl) _ _ (by rfl) w1.heap.size _ ac (by rfl) (C.alloc _) w2.heap.size (by rfl) (t,x) ?e1 ?e2 ?e3 ?e4 ?_)
    case e1=>simp[go_sem,Ac]
    case e2=>simp[go_sem,Ac]
    case e3=>omega
    case e4=>simp;omega
    intro v' w4 F P;go_wp2_with fail;go_roundw
    case rel=>exact⟨k+1,by rw[N.out];omega,by go_num,by rw[E.out];exact F,(L.alloc K _).trans P⟩
    case measure=>simp[intOf];omega
   ·have X:k=n:=by omega
    subst X;have y:xs.take k=xs:=af (by rw[N.out];omega);rw[y] at f;clear y;go_wp2_with fail;go_ret2;exact⟨_,by rw[J.out];rfl,by rw[J.out];exact f.avas,d.trans (hb.mono d.size)⟩
end
section
open Go.RowKit
namespace DnS
open RdS
theorem join_snoc:∀(l:List iK) (x:iK),Au (l++[x])=if l=[] then x else Au l++[44]++x
 |[],x=>by rw[aJ rfl];exact Lib.join_one x [44]
 |[a],x=>by
  rw[aG (by simp)];show Lib.join (a :: x :: []) [44]=Lib.join [a] [44]++[44]++x
  rw[RuS.join_cons_cons,Lib.join_one,Lib.join_one]
 |a :: b :: l,x=>by have c:=join_snoc (b :: l) x;rw[aG (by simp)] at c⊢;unfold Au at c⊢;rw[List.cons_append,List.cons_append,RuS.join_cons_cons,RuS.join_cons_cons,<-List.cons_append,c];simp
theorem Abk(h:k<ts.length):Au (ts.take (k+1))=if k=0 then ts[k] else Au (ts.take k)++[44]++ts[k]:=by
 rw[aW h,join_snoc];by_cases hk:k=0
 ·subst hk;simp
 ·rw[aG hk,aG];intro h0;have:=congrArg List.length h0;rw[ar,aS,cO (by omega)] at this;exact hk this
theorem Ll{M:Nat}:∀(ts:List iK),(∀t∈ts,t.length<=M)->(Au ts).length<=ts.length*(M+1)
 |[],_=>by simp[Au,Lib.join,List.intercalate]
 |[a],h=>by unfold Au;rw[Lib.join_one];have:=h a (aj.2 rfl);simp;omega
 |a :: b :: l,h=>by
  have d:=Ll (b :: l) (λt c=>h t (au _ c));have:=h a (ai ..);unfold Au at d⊢;rw[RuS.join_cons_cons,aT,aT,bE];have e:(a :: b :: l).length*(M+1)=(b :: l).length*(M+1)+(M+1):=by rw[aN (a:=a),fe]
  omega
theorem Ug{M:Nat}(h:∀t∈ts,t.length<=M){n:Nat}(b:ts.length<=n)(k:Nat):(Au (ts.take k)).length<=n*(M+1):=by have h1:=Ll (ts.take k) (λt a=>h t (dO a));refine aX h1 (bu _ ?_);rw[ar];omega
end DnS
theorem JI{xs:List RdS.Pr}(h:RdS.formedS xs=true):Fb xs:=λp hp=>by have:=(RdS.EP h).2 p hp;omega
theorem Qg(v:Value)(ts:List iK)(w:World)(h:Ah w v ts)(n:ts.length<=1000000)(m:(DnS.Au ts).length<=1000000000):Calls prog 71 #[v,.string ⟨#[44]⟩] w λe w'=>e=.returned (.string ⟨(DnS.Au ts).toArray⟩)/\Below w.heap.size w w':=by
 obtain⟨a,c,rfl,hc,b⟩:=h;by_cases h0:ts=[]
 ·subst h0;refine(strings_Join_none a c ⟨#[44]⟩ w).mono ?_;rintro e w' ⟨rfl,rfl⟩;exact⟨by simp[DnS.Au,Lib.join,List.intercalate],Below.refl _ _⟩
 ·rcases b with b|⟨g,o,rfl,l,hcell⟩
  ·exact absurd b h0
  have f:(ts.map (λt:iK=>(⟨t.toArray⟩:ByteArray))).map (·.data.toList)=ts:=by
   rw[ck]
   conv=>rhs;rw[<-fF ts]
   exact cX λt _=>rfl
  have d:=strings_Join g o c (ts.map (λt:iK=>(⟨t.toArray⟩:ByteArray))) ⟨#[44]⟩ w (λj x hx=>by
   rw[ba] at hx;obtain⟨t,i,rfl⟩:=bF.1 hx;exact hcell j t i) l (by rw[b9];omega) (by rw[b9];exact hc) (by
   rw[f];exact aX m (by decide))
  rw[f,b9] at d;exact d
theorem AeW(v:Value)(ts:List iK)(w:World)(h:Ah w v ts)(j:ts.length<=1000000)(l:(DnS.Au ts).length<=1000000000):Calls prog 109 #[v] w λe w'=>e=.returned (.tuple #[.string ⟨(DnS.Ib ts).1.toArray⟩,.int .i64 (DnS.Ib ts).2])/\Below w.heap.size w w':=by
 have d:=Qg v ts w h j l;obtain⟨a,c,rfl,hc,b⟩:=h;clear b;have f:Hid (DnS.Ib ts=if 12<ts.length\/1000<(DnS.Au ts).length then([],4) else(DnS.Au ts,0)):=hZ9 rfl;generalize DnS.Au ts=J at*;generalize DnS.Ib ts=F at*;generalize ts.length=n at*;by_cases h12:12<n
 ·have i:(12:Int)<(n:Int):=by omega
  go_enter func109,ntmps109;go_wp2_with fail;refine d.mono ?_;rintro e w1 ⟨rfl,hb⟩;go_wp2_with fail;go_ret2;exact⟨by rw[f.out,aJ (.inl h12)];rfl,hb⟩
 ·have i:decide ((12:Int)<(n:Int))=false:=aB (by omega);by_cases h1000:1000<J.length
  ·have g:(1000:Int)<(J.length:Int):=by omega
   go_enter func109,ntmps109;go_wp2_with fail;refine d.mono ?_;rintro e w1 ⟨rfl,hb⟩;go_wp2_with fail;go_ret2;exact⟨by rw[f.out,aJ (.inr h1000)];rfl,hb⟩
  ·have g:decide ((1000:Int)<(J.length:Int))=false:=aB (by omega);go_enter func109,ntmps109;go_wp2_with fail;refine d.mono ?_;rintro e w1 ⟨rfl,hb⟩;go_wp2_with fail;go_ret2;exact⟨by rw[f.out,aG (λh=>h.elim h12 h1000)];rfl,hb⟩
theorem Vf(v:Value)(ts:List iK)(w:World)(h:Ah w v ts)(N:ts.length<=100)(H:∀t∈ts,t.length<=3000):Calls prog 79 #[v] w λe w'=>e=.returned (.string ⟨(DnS.Au ts).toArray⟩)/\w=w':=by
 obtain⟨a,c,rfl,hc,f⟩:=h;have C:=hZ9 (DnS.Ug H N);have M:=hZ9 H;clear H;generalize r:ts.length=n at*;have K:=hZ9 r;clear r;have L:Hid (∀k (h:k<ts.length),∃g o,a=some ⟨g,o,none⟩/\g<w.heap.size/\w.cell? ⟨g,o+k,none⟩=some (Ac ts[k])):=hZ9 (λk hk=>by
  rcases f with rfl|⟨g,o,rfl,I,hcell⟩
  ·simp at hk
  ·exact⟨g,o,rfl,I,hcell k _ (aK hk)⟩)
 clear f;go_enter func79,ntmps79;go_wp2_with fail;go_loop [3,7] (λs i=>∃k:Nat,k<=n/\i=.int .i64 k/\s=.string ⟨(DnS.Au (ts.take k)).toArray⟩) (λ_ i=>n-(intOf i).toNat)
 case atStart=>exact⟨0,aR _,rfl,by simp[DnS.Au,Lib.join,List.intercalate]⟩
 case round=>
  obtain⟨k,hk,rfl,rfl⟩:=hrel;by_cases z:k<n
  ·have b:k<ts.length:=by rw[K.out];exact z
   obtain⟨g,o,rfl,I,B⟩:=L.out k b;have m:=hZ9 (DnS.Abk b);have x:Hid (k=0->DnS.Au (ts.take k)=[]):=hZ9 (λh=>by subst h;simp[DnS.Au,Lib.join,List.intercalate]);have O:=C.out k;have P:=M.out ts[k] (aZ b);generalize ts[k]=p at*;unfold Ac at B;generalize DnS.Au (ts.take k)=acc at*;clear b;by_cases d:k=0
   ·have A:decide ((0:Int)<(k:Int))=false:=aB (by omega);have y:decide (0<k)=false:=aB (by omega);have j:Hid (DnS.Au (ts.take (k+1))=acc++p):=hZ9 (by
     rw[m.out,aJ d,x.out d];rfl)
    have J:=EM acc p (by omega) (by omega);clear d;go_wp2_with fail;go_round
    case rel=>exact⟨k+1,by omega,by go_num,by rw[j.out]⟩
    case measure=>simp[intOf];omega
   ·have A:(0:Int)<(k:Int):=by omega
    have y:0<k:=by omega
    have j:Hid (DnS.Au (ts.take (k+1))=acc++[44]++p):=hZ9 (by
     rw[m.out,aG d])
    have J:=EM acc [44] (by omega) (by decide);have l:(acc++[44]).length<=2000000:=by rw[aT,bE];omega
    have G:=MN acc [44];obtain⟨F,q⟩:∃F,F=acc++[44]:=⟨_,rfl⟩
    rw[<-q] at J l j G;have Q:=EM F p l (by omega);clear d q;go_wp2_with fail;go_round
    case rel=>exact⟨k+1,by omega,by go_num,by rw[j.out]⟩
    case measure=>simp[intOf];omega
  ·have E:k=n:=by omega
   subst E;have u:Hid (ts.take k=ts):=hZ9 (af (by rw[K.out];omega));go_wp2_with fail;go_ret;exact⟨by rw[u.out];rfl,rfl⟩
end
section
open Go.RowKit
def CP(l:iK)(w:World)(e:Ending)(w':World):Prop:=∃v,e=.returned (.tuple #[v,.int .i64 (DnS.Ae l).2])/\Own w' w.heap.size v (DnS.Ae l).1/\Below w.heap.size w w'
theorem CP.none{l:iK}{w w':World}{e:Int}(h:DnS.Ae l=([],e))(hb:Below w.heap.size w w'):CP l w (.returned (.tuple #[.slice none 0 0,e])) w':=by
 refine⟨.slice Option.none 0 0,?_,?_,hb⟩
 ·rw[h]
 ·rw[h];exact Own.empty w' _
def Sl(ls:List (List RdS.Pr))(w0:World)(out i:Value)(wr:World):Prop:=
 ∃k:Nat,k<=ls.length/\i=.int .i64 k/\Own wr w0.heap.size out ((ls.take k).map DnS.AK)/\Below w0.heap.size w0 wr
namespace DnS
theorem Vg(h:(Bv s).2≠0):(Bv s).1=[]:=by
 unfold Bv at h⊢;split
 ·rfl
 ·rename_i h1;rw[aG h1] at h;split
  ·rfl
  ·rename_i h2;rw[aG h2] at h;split
   ·rfl
   ·rename_i h3;rw[aG h3] at h;cases hp:partsS (RdS.Ap 44 s) with
    |none=>rfl
    |some l=>rw[hp] at h;exact absurd rfl h
theorem Vh{ls:List (List RdS.Pr)}(h:Bv s=(ls,e))(a:e≠0):Ae s=([],e):=by unfold Ae;rw[h,aG a]
theorem Qh{ls:List (List RdS.Pr)}(h:Bv s=(ls,0))(a:1000<(Au (ls.map AK)).length):Ae s=([],4):=by unfold Ae;rw[h,aJ rfl,aJ a]
theorem Sm{ls:List (List RdS.Pr)}(h:Bv s=(ls,0))(a:¬1000<(Au (ls.map AK)).length):Ae s=(ls.map AK,0):=by unfold Ae;rw[h,aJ rfl,aG a]
theorem KB{ls:List (List RdS.Pr)}(b:∀q∈ls,RdS.formedS q=true):∀t∈ls.map AK,t.length<=3000:=λt a=>by obtain⟨q,c,rfl⟩:=bG.1 a;exact OZ (b q c)
theorem map_take{ls:List (List RdS.Pr)}(h:k<ls.length):(ls.take (k+1)).map AK=(ls.take k).map AK++[AK ls[k]]:=by rw[aW h,bQ];rfl
theorem join_small{ls:List (List RdS.Pr)}(b:ls.length<=12)(a:∀q∈ls,RdS.formedS q=true):(Au (ls.map AK)).length<=100000:=by have h:=Ll (ls.map AK) (KB a);rw[b9] at h;have:ls.length*(3000+1)<=12*3001:=bu _ b;omega
end DnS
theorem Qi(l:iK)(hl:l.length<=1000000)(w:World)(hE:Env w):Calls prog 44 #[l] w (CP l w):=by
 have j:=Abe l hl w hE;unfold GV at j;obtain⟨P,B⟩:∃P,DnS.Bv l=P:=⟨_,rfl⟩
 obtain⟨ls,e0⟩:=P;rw[B] at j;simp only at j;by_cases W:e0=0
 ·subst W;have m:=DnS.Gf B;have A4:=hZ9 m.2.1;have V:ls.length<=12:=m.1;have A6:=hZ9 (DnS.join_small m.1 m.2.1);have A5:=hZ9 (DnS.KB m.2.1);have d:=hZ9 (DnS.Qh B);have A:=hZ9 (DnS.Sm B);clear m B;go_enter func44,ntmps44;go_wp2_with fail;refine j.mono ?_;rintro e w0 ⟨v,rfl,hv,hb0⟩;obtain⟨a,c,rfl,hc,y⟩:=hv.at;have HC:Hid (∀k (h:k<ls.length),∃g o,a=some ⟨g,o,none⟩/\g<w0.heap.size/\∃u,w0.cell? ⟨g,o+k,none⟩=some u/\AY w0 u ls[k]):=hZ9 (λk hk=>by
   rcases y with rfl|⟨g,o,rfl,Y,hcell⟩
   ·simp at hk
   ·exact⟨g,o,rfl,Y,hcell k _ (aK hk)⟩)
  have M:=hZ9 (λk (h:k<ls.length)=>A4.out ls[k] (aZ h));clear y hv j;generalize R:ls.length=n at V hc⊢;have S:=hZ9 R;clear R;go_wp2_with fail;go_loopw [6,22] (λout i wr=>Sl ls w0 out i wr) (λ_ i _=>n-(intOf i).toNat)
  case atStart=>exact⟨0,aR _,rfl,Own.empty _ _,Below.refl _ _⟩
  case round=>
   obtain⟨k,hk,rfl,b,hb⟩:=hrel;rw[S.out] at hk;have hsz:=hb.size;have z:Below w.heap.size w wr:=hb0.trans (hb.mono hb0.size);have U:=hE.below z;have F:=hZ9 b;clear b;by_cases A1:k<n
   ·have f:k<ls.length:=by rw[S.out];exact A1
    obtain⟨g,o,rfl,Y,u,Q,x⟩:=HC.out k f;replace Q:wr.cell? ⟨g,o+k,none⟩=some u:=(hb.cell (p:=⟨g,o+k,none⟩) Y).trans Q;replace x:AY wr u ls[k]:=x.call hb (aA _);have A2:=hZ9 (DnS.map_take f);have N:=M.out k f;generalize ls[k]=q at*;obtain⟨a1,n1,c1,rfl⟩:∃a1 n1 c1,u=.slice a1 n1 c1:=by obtain⟨a1,c1,e,_⟩:=x;exact⟨a1,_,c1,e⟩
    have E:=Uf _ q wr x (JI N) U;unfold ES at E;rw[DnS.NI N] at E;have C:=λv w h hE=>Zz v (RdS.AW q) w h (JI (RdS.Ea N).1) hE;unfold EW at C;rw[DnS.Pe N] at C;simp only at E C;generalize RdS.AW q=qn at*;generalize DnS.AK q=t at*;clear f x N;go_wp2_with fail;refine E.mono ?_;rintro e w1 ⟨v1,rfl,G,T⟩;obtain⟨a2,n2,c2,rfl⟩:∃a2 n2 c2,v1=.slice a2 n2 c2:=by obtain⟨a1,c1,e,_⟩:=G;exact⟨a1,_,c1,e⟩
    go_wp2_with fail;refine(C _ _ G (U.below T)).mono ?_;rintro e w2 ⟨rfl,A0⟩;have K:=Aa T A0;have A7:=K.size;go_wp2_with (at_builtin;refine Hz (by rfl) _ _ (by rfl) w0.heap.size _ ((ls.take k).map DnS.AK) (by rfl) ((F.out.call K).alloc _) w2.heap.size (by rfl) t ?e1 ?e3 ?e4 ?_)
    case e1=>simp[go_sem,Ac]
    case e3=>rw[b9,ar];omega
    case e4=>simp;omega
    intro v' w4 r Z;have I:=hZ9 r;clear r;go_wp2_with fail;go_roundw
    case rel=>exact⟨k+1,by rw[S.out];omega,by go_num,by rw[A2.out,gX];exact I.out,((hb.trans (K.mono hsz)).alloc (by omega) _).trans Z⟩
    case measure=>simp[intOf];omega
   ·have A3:k=n:=by omega
    subst A3;have H:ls.take k=ls:=af (by rw[S.out];omega);have b:=F.out;rw[H] at b;have O:=Vf _ _ wr b.strs (by rw[b9,S.out];omega) A5.out;have A8:=A6.out;have L:=hZ9 b;generalize DnS.Au (ls.map DnS.AK)=J at*;clear H b;by_cases h1000:1000<J.length
    ·have hz:(1000:Int)<(J.length:Int):=by omega
     have HR:=hZ9 (d.out h1000);clear d A;go_wp2_with fail;refine O.mono ?_;rintro e w1 ⟨rfl,rfl⟩;go_wp2_with fail;go_ret2;exact CP.none HR.out z
    ·have hz:decide ((1000:Int)<(J.length:Int))=false:=aB (by omega);have HR:=hZ9 (A.out h1000);clear d A;go_wp2_with fail;refine O.mono ?_;rintro e w1 ⟨rfl,rfl⟩;go_wp2_with fail;go_ret2;exact⟨_,by rw[HR.out];rfl,by rw[HR.out];exact L.out.mono hb0.size,z⟩
 ·have HR:=hZ9 (DnS.Vh B W);have X:ls=[]:=by
   have:=DnS.Vg (s:=l) (by rw[B];exact W);rw[B] at this;exact this
  subst X;clear B;have A9:(e0 !=0)=true:=by simpa using W
  go_enter func44,ntmps44;go_wp2_with fail;refine j.mono ?_;rintro e w0 ⟨v,rfl,hv,hb0⟩;go_wp2_with fail;go_ret2;exact CP.none HR.out hb0
end
section
open Go.RowKit
theorem DY(l:iK)(hl:l.length<=1000000)(w:World)(hE:Env w):Calls prog 70 #[l] w (CP l w):=by
 have x:=Abh l hl w hE;unfold FK at x;obtain⟨P,E⟩:∃P,DnS.Bv l=P:=⟨_,rfl⟩
 obtain⟨ls,e0⟩:=P;rw[E] at x;simp only at x;by_cases Z:e0=0
 ·subst Z;have y:=DnS.Gf E;have A7:=hZ9 y.2.1;have X:ls.length<=12:=y.1;have Y:=hZ9 (DnS.join_small y.1 y.2.1);have B1:=hZ9 (DnS.KB y.2.1);have f:=hZ9 (DnS.Qh E);have C:=hZ9 (DnS.Sm E);clear y E;go_enter func70,ntmps70;go_wp2_with fail;refine x.mono ?_;rintro e w0 ⟨v,rfl,hv,hb0⟩;obtain⟨a,c,rfl,hc,B⟩:=hv.at;have HC:Hid (∀k (h:k<ls.length),∃g o,a=some ⟨g,o,none⟩/\g<w0.heap.size/\∃u,w0.cell? ⟨g,o+k,none⟩=some u/\AY w0 u ls[k]):=hZ9 (λk hk=>by
   rcases B with rfl|⟨g,o,rfl,hg,hcell⟩
   ·simp at hk
   ·exact⟨g,o,rfl,hg,hcell k _ (aK hk)⟩)
  have S:=hZ9 (λk (h:k<ls.length)=>A7.out ls[k] (aZ h));clear B hv x;generalize V:ls.length=n at X hc⊢;have R:=hZ9 V;clear V;go_wp2_with fail;go_loopw [6,26] (λout i wr=>Sl ls w0 out i wr) (λ_ i _=>n-(intOf i).toNat)
  case atStart=>exact⟨0,aR _,rfl,Own.empty _ _,Af w0 _⟩
  case round=>
   obtain⟨k,hk,rfl,b,hb⟩:=hrel;rw[R.out] at hk;have hsz:=hb.size;have d:Below w.heap.size w wr:=hb0.trans (hb.mono hb0.size);have W:=hE.below d;have H:=hZ9 b;clear b;by_cases A4:k<n
   ·have m:k<ls.length:=by rw[R.out];exact A4
    obtain⟨g,o,rfl,hg,u,U,A⟩:=HC.out k m;replace U:wr.cell? ⟨g,o+k,none⟩=some u:=(hb.cell (p:=⟨g,o+k,none⟩) hg).trans U;replace A:AY wr u ls[k]:=A.call hb (aA _);have A5:=hZ9 (DnS.map_take m);have T:=S.out k m;generalize ls[k]=q at*;obtain⟨a1,n1,c1,rfl⟩:∃a1 n1 c1,u=.slice a1 n1 c1:=by obtain⟨a1,c1,e,_⟩:=A;exact⟨a1,_,c1,e⟩
    have G:=ZB _ q wr A (JI T) W;unfold ES at G;rw[DnS.NI T] at G;have F:=λv w h hE=>Ab2 v (RdS.AW q) w h (JI (RdS.Ea T).1) hE;unfold EW at F;rw[DnS.Pe T] at F;simp only at G F;generalize RdS.AW q=qn at*;generalize DnS.AK q=t at*;clear m A T;go_wp2_with fail;refine G.mono ?_;rintro e w1 ⟨v1,rfl,I,j⟩;obtain⟨a2,n2,c2,rfl⟩:∃a2 n2 c2,v1=.slice a2 n2 c2:=by obtain⟨a1,c1,e,_⟩:=I;exact⟨a1,_,c1,e⟩
    go_wp2_with fail;refine(F _ _ I (W.below j)).mono ?_;rintro e w2 ⟨rfl,A3⟩;have N:=Aa j A3;have A8:=N.size;go_wp2_with (at_builtin;refine Hz (by rfl) _ _ (by rfl) w0.heap.size _ ((ls.take k).map DnS.AK) (by rfl) ((H.out.call N).alloc _) w2.heap.size (by rfl) t ?e1 ?e3 ?e4 ?_)
    case e1=>simp[go_sem,Ac]
    case e3=>rw[b9,ar];omega
    case e4=>simp;omega
    intro v' w4 z A2;have L:=hZ9 z;clear z;go_wp2_with fail;go_roundw
    case rel=>exact⟨k+1,by rw[R.out];omega,by go_num,by rw[A5.out,gX];exact L.out,((hb.trans (N.mono hsz)).alloc (by omega) _).trans A2⟩
    case measure=>simp[intOf];omega
   ·have A6:k=n:=by omega
    subst A6;have K:ls.take k=ls:=af (by rw[R.out];omega);have b:=H.out;rw[K] at b;have r:=AeW _ _ wr b.strs (by rw[b9,R.out];omega) (by have:=Y.out;omega);have A9:=Y.out;have O:=hZ9 b;have M:Hid (1000<(DnS.Au (ls.map DnS.AK)).length->DnS.Ib (ls.map DnS.AK)=([],4)):=hZ9 (λh=>by unfold DnS.Ib;rw[aJ (.inr h)]);have Q:Hid (¬1000<(DnS.Au (ls.map DnS.AK)).length->DnS.Ib (ls.map DnS.AK)=(DnS.Au (ls.map DnS.AK),0)):=hZ9 (λh=>DnS.AgF (by rw[b9,R.out];omega) (by omega));generalize DnS.Au (ls.map DnS.AK)=J at*;clear K b;by_cases h1000:1000<J.length
    ·have hz:(1000:Int)<(J.length:Int):=by omega
     have HR:=hZ9 (f.out h1000);rw[M.out h1000] at r;simp only at r;have A0:=d;clear M Q;clear f C;go_wp2_with fail;refine r.mono ?_;rintro e w1 ⟨rfl,j⟩;go_wp2_with fail;go_ret2;exact CP.none HR.out (d.trans (j.mono d.size))
    ·have hz:decide ((1000:Int)<(J.length:Int))=false:=aB (by omega);have HR:=hZ9 (C.out h1000);rw[Q.out h1000] at r;simp only at r;clear M Q;clear f C;go_wp2_with fail;refine r.mono ?_;rintro e w1 ⟨rfl,j⟩;go_wp2_with fail;go_ret2;exact⟨_,by rw[HR.out];rfl,by rw[HR.out];exact(O.out.call j).mono hb0.size,d.trans (j.mono d.size)⟩
 ·have HR:=hZ9 (DnS.Vh E Z);have A1:ls=[]:=by
   have:=DnS.Vg (s:=l) (by rw[E];exact Z);rw[E] at this;exact this
  subst A1;clear E;have B0:(e0 !=0)=true:=by simpa using Z
  go_enter func70,ntmps70;go_wp2_with fail;refine x.mono ?_;rintro e w0 ⟨v,rfl,hv,hb0⟩;obtain⟨a,c,rfl,hc,-⟩:=hv.at;go_wp2_with fail;go_ret2;exact CP.none HR.out (BJ hb0 _)
end
section
open Go.RowKit
def Bo(r:iK×Int)(w:World)(e:Ending)(w':World):Prop:=e=.returned (.tuple #[r.1,r.2])/\Below w.heap.size w w'
def Qj(r:iK×Bool)(w:World)(e:Ending)(w':World):Prop:=e=.returned (.tuple #[r.1,r.2])/\Below w.heap.size w w'
def UE(n:Int)(w:World)(e:Ending)(w':World):Prop:=e=.returned n/\Below w.heap.size w w'
def Ew(b:Bool)(w:World)(e:Ending)(w':World):Prop:=e=.returned b/\Below w.heap.size w w'
theorem Xx{l:iK}(h:DnS.Ae l=(ts,e))(h0:ts=[]):DnS.Fv l=([],false):=by unfold DnS.Fv;rw[h,aJ h0]
theorem Xy{l:iK}(h:DnS.Ae l=(ts,e))(h0:ts≠[]):DnS.Fv l=(DnS.Au (ts.drop 1),true):=by unfold DnS.Fv;rw[h,aG h0]
theorem ZC(h:DnS.Ae s=(ts,e)):(DnS.Au (ts.drop 1)).length<=1000:=by
 have a:=(DnS.Dh s).2;rw[h] at a;cases ts with
 |nil=>exact a
 |cons t ts=>exact aX (DnS.AcY t ts) a
theorem IX(l:iK)(i:l.length<=1000000)(w:World)(hE:Env w):Calls prog 37 #[l] w (Bo (DnS.Ax l) w):=by have hp:=DY l i w hE;unfold CP at hp;have g:Hid (DnS.Ax l=(DnS.Au (DnS.Ae l).1,(DnS.Ae l).2)):=hZ9 rfl;have d:=DnS.Dh l;have h:=hZ9 (DnS.Hr (s:=l));generalize DnS.Ae l=T at*;obtain⟨ts,j⟩:=T;simp only at hp d h g;go_enter func37,ntmps37;go_wp2_with fail;refine hp.mono ?_;rintro e w1 ⟨v,rfl,b,hb⟩;obtain⟨a,c,rfl⟩:=b.form;go_wp2_with fail;refine(Qg _ ts _ b.strs (by omega) (by omega)).mono ?_;rintro e w2 ⟨rfl,f⟩;go_wp2_with fail;go_ret2;exact⟨by rw[g.out];rfl,Aa hb f⟩
theorem Abl(l:iK)(d:l.length<=1000000)(w:World)(hE:Env w):Calls prog 72 #[l] w (UE (DnS.Ae l).1.length w):=by have hp:=DY l d w hE;unfold CP at hp;generalize DnS.Ae l=T at*;obtain⟨ts,f⟩:=T;simp only at hp;go_enter func72,ntmps72;go_wp2_with fail;refine hp.mono ?_;rintro e w1 ⟨v,rfl,b,hb⟩;obtain⟨a,c,rfl⟩:=b.form;go_wp2_with fail;go_ret;exact⟨rfl,hb⟩
theorem ZE(l:iK)(I:l.length<=1000000)(w:World)(hE:Env w):Calls prog 46 #[l] w (Qj (DnS.Fv l) w):=by
 have hp:=DY l I w hE;unfold CP at hp;have r:=DnS.Dh l;have p:=hZ9 (DnS.Hr (s:=l));obtain⟨T,i⟩:∃T,DnS.Ae l=T:=⟨_,rfl⟩
 rw[i] at hp r p;obtain⟨ts,y⟩:=T;simp only at hp r p;have hd:=ZC i;have j:=hZ9 (Xx i);have d:=hZ9 (Xy i);have b:Hid (y≠0->ts=[]):=hZ9 (λh=>by
  have:=DnS.NJ (s:=l) (by rw[i];exact h);rw[i] at this;exact this)
 clear i;go_enter func46,ntmps46;go_wp2_with fail;refine hp.mono ?_;rintro e w1 ⟨v,rfl,f,hb⟩;obtain⟨a,c,rfl⟩:=f.form;by_cases h0:ts=[]
 ·have HR:=hZ9 (j.out h0);clear j d b;subst h0;go_wp2_with fail;go_ret2;exact⟨by rw[HR.out];rfl,hb⟩
 ·have HR:=hZ9 (d.out h0);have z:y=0:=by
   by_cases A:y=0
   ·exact A
   ·exact absurd (b.out A) h0
  subst z;have B:0<ts.length:=by
   rcases bU ts.length with h|h
   ·exact absurd (aY h) h0
   ·exact h
  have F:=f.strs;have H:Hid (∀t∈ts.drop 1,t.length<=3000):=hZ9 (λt M=>p.out t (gU M));clear j d b;have E:ts.length<=c:=by obtain⟨_,_,e,hc,_⟩:=F;cases e;exact hc
  obtain⟨g,o,rfl,hdr⟩:=F.drop (k:=1) (by omega) (by omega);have K:(ts.drop 1).length<=100:=by rw[bD];omega
  generalize C:ts.length=n at*;have G:=hZ9 C;have P:((n:Int)==0)=false:=by simp;omega
  have J:(1:Int)<=(n:Int):=by omega
  have O:(n:Int)<=(c:Int):=by omega
  clear C h0;by_cases u:1=c
  ·subst u;have x:n=1:=by omega
   subst x;have q:ts.drop 1=[]:=bO (by rw[G.out];exact aA _);rw[q] at HR H hd;clear hdr q;go_wp2_with fail;refine(Qg _ [] _ (Ah.nil _ _ _) (by simp) (by omega)).mono ?_;rintro e w2 ⟨rfl,m⟩;go_wp2_with fail;go_ret2;exact⟨by rw[HR.out];rfl,Aa hb m⟩
  ·have L:(1:Int)<(c:Int):=by omega
   have N:¬c=1:=λh=>u h.symm;generalize ts.drop 1=ds at*;go_wp2_with fail;refine(Qg _ ds _ hdr (by omega) (by omega)).mono ?_;rintro e w2 ⟨rfl,m⟩;go_wp2_with fail;go_ret2;exact⟨by rw[HR.out];rfl,Aa hb m⟩
theorem Lm(l:iK)(h:l.length<=1000000)(w:World)(hE:Env w):Calls prog 53 #[l] w (Bo (DnS.Ax l) w):=by have hp:=Qi l h w hE;unfold CP at hp;have f:Hid (DnS.Ax l=(DnS.Au (DnS.Ae l).1,(DnS.Ae l).2)):=hZ9 rfl;have d:=DnS.Dh l;have g:=hZ9 (DnS.Hr (s:=l));generalize DnS.Ae l=T at*;obtain⟨ts,i⟩:=T;simp only at hp d g f;go_enter func53,ntmps53;go_wp2_with fail;refine hp.mono ?_;rintro e w1 ⟨v,rfl,b,hb⟩;obtain⟨a,c,rfl⟩:=b.form;go_wp2_with fail;refine(Vf _ ts _ b.strs (by omega) g.out).mono ?_;rintro e w2 ⟨rfl,rfl⟩;go_wp2_with fail;go_ret2;exact⟨by rw[f.out];rfl,hb⟩
end
