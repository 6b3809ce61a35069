/- The walks of an entry's values, of what is alike one of them, and of aliases: the document's. Conditions: as stated. -/
import Derived.Test.YtgngjfjaelgaeaaGreatDoorZCpz
set_option maxRecDepth 100000
set_option maxHeartbeats 4000000
namespace Go.Proofs.YtgngjfjaelgaeaaGreatDoor
open Go.Proofs.Tryz
section
open Go.RowKit
theorem Own.made0(w:World):Own (w.alloc (.cells #[] 9)) w.heap.size (.slice (some ⟨w.heap.size,0,none⟩) 0 0) []:=World.ownsRow_made w #[] 0 (aA _) (aR _) rfl
theorem Agl(w:World):(Instr.buildSlice 23 0 #[]).run prog w=.ok (.slice (some ⟨w.heap.size,0,none⟩) 0 0) (w.alloc (.cells #[] 9)):=by obtain⟨i0,a,b,c,d⟩:=info_parts Hy;simp[Instr.buildSlice,run_underlying underlying23,sizeOf,typeInfo,a,newRow,Instr.fill];have e:∀f:Nat->Value,Array.map f (Array.range 0)=#[]:=λf=>Array.eq_empty_of_size_eq_zero (by simp);rw[e]
end
section
open Go.RowKit
theorem Lj(l:List EnS.En):l.length<=EnS.Av EnS.cE l:=EnS.Ni (λx=>by unfold EnS.cE;omega) l
theorem Qd(l:List EnS.At):l.length<=EnS.Av EnS.cA l:=EnS.Ni (λx=>by unfold EnS.cA;omega) l
def UY(xs:List EnS.En)(w:World)(e:Ending)(w':World):Prop:=∃b,e=.returned (.bool b)/\w=w'/\(b=true->EnS.Av EnS.cE xs<=3000)
theorem Ou(n:Nat):Int.tdiv (n:Int) 100=((n / 100:Nat):Int):=rfl
theorem Afj(v:Value)(xs:List EnS.En)(w:World)(h:Ci w v xs)(hN:EnS.Av EnS.cE xs<=1048576):Calls prog 52 #[v] w (UY xs w):=by
 obtain⟨a,c,rfl,hc,X⟩:=Ad.at h;have A4:=hZ9 X;have hl:=Lj xs;have A8:=hZ9 (λk (h:k<xs.length)=>EnS.Ls (f:=EnS.cE) h);have R:=hZ9 (λk=>EnS.Lt (f:=EnS.cE) xs k);clear X h;generalize hn:xs.length=n at hc hl⊢;have HN:=hZ9 hn;clear hn;go_enter func52,ntmps52;go_wp2_with fail;go_loop [3,9] (λm i=>∃k:Nat,k<=n/\i=.int .i64 k/\m=.int .i64 (EnS.Av EnS.cE (xs.take k):Nat)/\(0<k->EnS.Av EnS.cE (xs.take k)<=3000)) (λ_ i=>n-(intOf i).toNat)
 case atStart=>exact⟨0,aR _,rfl,rfl,λh=>absurd h (gW 0)⟩
 case round=>
  obtain⟨k,hk,rfl,rfl,h3⟩:=hrel;have C3:=R.out k;by_cases A9:k<n
  ·have b:k<xs.length:=by rw[HN.out];exact A9
   have A7:=A8.out k b;have B7:=R.out (k+1);obtain⟨g,o,rfl,hg,_,hra⟩:=A4.out k b;obtain⟨c0,a1,p1,c1,A1,d⟩:=Dk.parts hra;have G:EnS.cE xs[k]=1+xs[k].name.length / 100+EnS.Av EnS.cA xs[k].attrs:=rfl;clear hra;generalize xs[k]=x at*;clear b;obtain⟨name,attrs⟩:=x;simp only at c0 c1 A1 d G;have M:=Ad.at d;obtain⟨_,_,e1,_,p⟩:=M;cases e1;have Q:=hZ9 p;have A5:=Qd attrs;have L:=hZ9 (λk (h:k<attrs.length)=>EnS.Ls (f:=EnS.cA) h);have C:=hZ9 (λk=>EnS.Lt (f:=EnS.cA) attrs k);clear p d;have hq:=Ou name.length;generalize B4:name.length / 100=q at*;generalize B:EnS.Av EnS.cE (xs.take (k+1))=S1 at*;have P:=hZ9 B;clear B;generalize EnS.Av EnS.cE (xs.take k)=S0 at*;generalize EnS.Av EnS.cE xs=SS at*;generalize S:EnS.Av EnS.cA attrs=SA at*;have B2:=hZ9 S;clear S B4;rw[G] at A7;clear G;generalize U:attrs.length=n1 at c1 A1 A5⊢;have A2:=hZ9 U;clear U;go_wp2_with fail;go_loop [3,28] (λm i=>∃j:Nat,j<=n1/\i=.int .i64 j/\m=.int .i64 (S0+1+q+EnS.Av EnS.cA (attrs.take j):Nat)) (λ_ i=>n1-(intOf i).toNat)
   case atStart=>exact⟨0,aR _,rfl,by simp[EnS.Av]⟩
   case round=>
    obtain⟨j,hj,rfl,rfl⟩:=hrel;have B8:=C.out j;by_cases K:j<n1
    ·have b:j<attrs.length:=by rw[A2.out];exact K
     have J:=L.out j b;have C1:=C.out (j+1);obtain⟨g1,o1,rfl,B9,_,r⟩:=Q.out j b;obtain⟨d0,a2,p2,d1,Z,l⟩:=BG.parts r;have I:EnS.cA attrs[j]=1+attrs[j].vals.length+EnS.Av EnS.cV attrs[j].vals:=rfl;clear r;generalize attrs[j]=y at*;clear b;obtain⟨ty,vals⟩:=y;simp only at d0 d1 Z l I;obtain⟨_,_,e2,_,s⟩:=Ad.at l;cases e2;have Y:=hZ9 s;have V:=hZ9 (λk (h:k<vals.length)=>EnS.Ls (f:=EnS.cV) h);have A:=hZ9 (λk=>EnS.Lt (f:=EnS.cV) vals k);clear s l;generalize u:EnS.Av EnS.cA (attrs.take (j+1))=T1 at*;have A3:=hZ9 u;clear u;generalize EnS.Av EnS.cA (attrs.take j)=T0 at*;generalize O:EnS.Av EnS.cV vals=SV at*;have A6:=hZ9 O;clear O;rw[I] at J;clear I;generalize N:vals.length=n2 at d1 Z J⊢;have A0:=hZ9 N;clear N;go_wp2_with fail;go_loop [3,54] (λm i=>∃t:Nat,t<=n2/\i=.int .i64 t/\m=.int .i64 (S0+1+q+T0+1+n2+EnS.Av EnS.cV (vals.take t):Nat)) (λ_ i=>n2-(intOf i).toNat)
     case atStart=>exact⟨0,aR _,rfl,by simp[EnS.Av]⟩
     case round=>
      obtain⟨t,ht,rfl,rfl⟩:=hrel;have C2:=A.out t;by_cases T:t<n2
      ·have b:t<vals.length:=by rw[A0.out];exact T
       have W:=V.out t b;have B6:=A.out (t+1);obtain⟨g2,o2,rfl,B5,_,F⟩:=Y.out t b;have r0:w.cell? ⟨g2,o2+t,none⟩=some (Ac vals[t]):=by
        have:w.cell? ⟨g2,o2+t*1,none⟩=some (Ac vals[t]):=F
        rwa [bp] at this
       unfold Ac at r0;have B0:EnS.cV vals[t]=vals[t].length / 100:=rfl;clear F;generalize vals[t]=z at*;clear b;have C0:=Ou z.length;rw[B0] at W;generalize z.length / 100=q2 at*;generalize E:EnS.Av EnS.cV (vals.take (t+1))=V1 at*;have B3:=hZ9 E;clear E;generalize EnS.Av EnS.cV (vals.take t)=V0 at*;go_wp2_with fail;go_round
       case rel=>exact⟨t+1,by omega,by go_num,by rw[B3.out];subst W;go_num⟩
       case measure=>simp[intOf];omega
      ·have H:t=n2:=by omega
       subst H;have e:vals.take t=vals:=af (by rw[A0.out];omega);rw[e,A6.out];go_wp2_with fail;go_round
       case rel=>exact⟨j+1,by omega,by go_num,by rw[A3.out];subst J;go_num⟩
       case measure=>simp[intOf];omega
    ·have H:j=n1:=by omega
     subst H;have e:attrs.take j=attrs:=af (by rw[A2.out];omega);rw[e,B2.out];have B1:S0+1+q+SA=S1:=by omega
     rw[B1];by_cases h3000:3000<S1
     ·have hz:(3000:Int)<(S1:Int):=by omega
      go_wp2_with fail;go_ret;exact⟨false,rfl,rfl,λh=>by cases h⟩
     ·have hz:decide ((3000:Int)<(S1:Int))=false:=aB (by omega);go_wp2_with fail;go_round
      case rel=>exact⟨k+1,by omega,by go_num,by rw[P.out],λ_=>by rw[P.out];omega⟩
      case measure=>simp[intOf];omega
  ·have e:xs.take k=xs:=af (by rw[HN.out];omega);rw[e] at h3;have HR:Hid (EnS.Av EnS.cE xs<=3000):=hZ9 (by
    rcases bU k with h0|h0
    ·have:xs=[]:=aY (by rw[HN.out];omega);rw[this];decide
    ·exact h3 h0)
   go_wp2_with fail;go_ret;exact⟨true,rfl,rfl,λ_=>HR.out⟩
end
section
open Go.RowKit
theorem Whole.grown{α:Type}{L:KLay α}{T a:TypeId}{Ts:List TypeId}{w w':World}{C B g:Nat}{v:Value}{xs:List α}{cs:Array Value}(h:Whole w g a cs)(d:Ao L T Ts C w B v xs)(b:T≠a)(f:w.grownBy w' v.ownBlock):Whole w' g a cs:=by refine(f.block g h.lt (λe=>?_)).trans h;obtain⟨i,h1,_⟩:=d;obtain⟨c,fz,h2⟩:=Lib.ownsRow_kind h1 g e.symm;unfold Whole at h;rw[h] at h2;cases h2;exact b rfl
theorem Own.nilOf{w:World}{B:Nat}{v:Value}{xs:List iK}(h:Own w B v ([]++xs)):Own w B v xs:=h
end
