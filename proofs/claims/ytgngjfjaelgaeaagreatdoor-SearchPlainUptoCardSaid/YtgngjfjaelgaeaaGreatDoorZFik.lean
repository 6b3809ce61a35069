/- The walk of the document's 'read': a value, read. Conditions: as stated. -/
import Derived.StillTail
import Derived.Test.YtgngjfjaelgaeaaGreatDoorZRdh
set_option maxRecDepth 100000
set_option maxHeartbeats 8000000
namespace Go.Proofs.YtgngjfjaelgaeaaGreatDoor
open Go.Proofs.Tryz
variable {a:Act} {cs:Array Value} {l:iK} {f g n:Nat} {ok:Nat->Prop} {E:Prop} {t:TypeId} {v:Value} {w w':World}
section
open Go.RowKit
attribute [local go_sem ↓] Go.wp_at_zero Go.wp_at_succ
def Vm(l:iK)(w:World)(out i:Value)(wr:World):Prop:=
 ∃(k:Nat) (acc:iK),k<=l.length/\i=.int .i64 k/\OwnB wr w.heap.size out acc/\acc.length<=k/\RdS.readS l=(RdS.AG (decide (k=0)) (l.drop k)).map (acc++·)/\Below w.heap.size w wr
theorem Ab0{ops:Array Oper}{o:Oper}{K:Act->World->Prop}{Q:Exit->Act->World->Prop}(q:o.guard=none)(s x:Operand)
  (C:o.op=.call { callee:=.builtin .append,args:=#[s,x],argTypes:=#[157,157] })
  (B:Nat)(v:Value)(l:iK)(A:a.eval s=v)(b:OwnB w B v l)(g c:Nat)(hx:a.eval x=.slice (some ⟨g,0,none⟩) 1 c)
  (y:UInt8)(hc:w.cell? ⟨g,0,none⟩=some (Aj y))(I:l.length<=1000000000)(hB:B<=w.heap.size)
  (G:∀e w',OwnB w' B e (l++[y])->Below B w w'->K (a.put o.dst e) w'):if Region.wanted o (yielded ops a.tmps)=true then Oper.wp prog o a w K Q else E:=by
 have F:Region.wanted o (yielded ops a.tmps)=true:=by simp[Region.wanted,q]
 rw[aJ F];obtain⟨i0,H,p,i,r⟩:=info_parts Qs;refine wp_append_own w s x _ C B 5 i0 (.int .u8 0) 1 1 underlying157 H p i r rfl (by decide) v l.length (l.map Aj) A b ⟨g,0,none⟩ 1 c [Aj y] hx rfl
  (λj u m=>?_) (λu hu=>?_) (by unfold maxLen;omega) (by omega) hB (λe w' h1 h2 _=>G e w' ?_ ?_)
 ·have z:j=0:=by
   rcases bU j with h|h
   ·exact h
   ·rw[dE (by simp;omega)] at m;cases m
  subst z;have d:(⟨g,0,none⟩:Addr).add 0=⟨g,0,none⟩:=by unfold Addr.add;split<;>simp_all
  rw[d,hc]
  simpa using m
 ·rw[aj] at hu;subst hu;rfl
 ·unfold OwnB;rw[bQ,aT];exact h1
 ·exact(Below.refl B w).grown h2 hB (λk hk=>(World.ownsRow.lt b k hk).1)
theorem Ab1(l:iK)(hl:l.length<=1000000)(w:World):Calls prog 177 #[l] w (Cc l w):=by
 go_enter func177,ntmps177;go_wp2_with fail;go_loopw [4,5] (λout i wr=>Vm l w out i wr) (λ_ i _=>l.length-(intOf i).toNat)
 case atStart=>exact⟨0,[],aR _,rfl,OwnB.empty _ _,aR _,by simp[RdS.readS],Below.refl _ _⟩
 case round=>
  obtain⟨k,acc,hk,rfl,r,C1,A4,hb⟩:=hrel;have HK:=hZ9 hk;have T:=hZ9 A4;have hsz:=hb.size;clear A4 hk;by_cases B1:k<l.length
  ·have L:=hZ9 (av B1);generalize A1:l[k]=c at*;have D3:∀h,(⟨l.toArray⟩:ByteArray)[k]'h=c:=λ_=>A1;clear A1;have m:Hid (RdS.AG (decide (k=0)) (l.drop k)=none->RdS.readS l=none):=hZ9 (λh=>by rw[T.out,h];rfl);have H:Hid (∀(V:Nat) (x:UInt8) (out i:Value) (w2:World),V<=l.length->k<V->i=.int .i64 V->RdS.AG (decide (k=0)) (l.drop k)=(RdS.AG false (l.drop V)).map (x :: ·)->OwnB w2 w.heap.size out (acc++[x])->Below w.heap.size w w2->Vm l w out i w2):=
    hZ9 (λV x out i w2 h1 h2 hi h3 h4 h5=>⟨V,acc++[x],h1,hi,h4,by simp;omega,by rw[T.out,h3,Option.map_map,aB (show ¬V=0 by omega)];congr 1;funext y;simp,h5⟩)
   have D5:((k:Int)==0)=decide (k=0):=by rw[bR,ag,az];omega
   by_cases h92:c=92
   ·have p:=hZ9 h92;have B2:((c.toNat:Int) !=92)=false:=by rw[h92];rfl
    clear h92;by_cases A9:k+1<l.length
    ·have F:=hZ9 (av A9);generalize A2:l[k+1]=d at*;have C7:∀h,(⟨l.toArray⟩:ByteArray)[k+1]'h=d:=λ_=>A2;clear A2;have A0:(k:Int)+1<(l.length:Int):=by omega
     have q:=λw=>NS d w;have A5:Hid (RdS.Em d=(RdS.AE d||d==35||d==61||d==32)):=hZ9 rfl;have N:Hid (RdS.Em d=true->RdS.AG (decide (k=0)) (l.drop k)=(RdS.AG false (l.drop (k+2))).map (d :: ·)):=hZ9 (λh=>by rw[L.out,p.out,F.out,RdS.EL _ h]);generalize X:RdS.AE d=sv at*;by_cases o:sv=true\/d=35\/d=61\/d=32
     ·have B3:Hid (RdS.Em d=true):=hZ9 (by rw[A5.out];rcases o with rfl|rfl|rfl|rfl<;>simp);have B5:=hZ9 (N.out B3.out);have U:sv=true\/(sv=false/\((d.toNat:Int)==35)=true)\/(sv=false/\((d.toNat:Int)==35)=false/\((d.toNat:Int)==61)=true)\/(sv=false/\((d.toNat:Int)==35)=false/\((d.toNat:Int)==61)=false/\((d.toNat:Int)==32)=true):=by
       rcases o with rfl|rfl|rfl|rfl
       ·exact .inl rfl
       ·cases sv<;>simp
       ·cases sv<;>simp
       ·cases sv<;>simp
      have C5:=hZ9 X;clear o X;rcases U with rfl|⟨rfl,g1⟩|⟨rfl,g1,g2⟩|⟨rfl,g1,g2,g3⟩
      all_goals
       go_wp2_with fail;refine(q _).mono ?_;rintro e w1 ⟨rfl,rfl⟩;go_wp2_with (at_builtin;refine DW (by rfl) _ _ (by rfl) w.heap.size _ acc (by rfl) (r.alloc _) wr.heap.size 1 1 (by rfl) [d] (by rfl) ?c1 ?c2 ?c3 ?_)
       case c1=>first|exact one_cell (by simp[go_sem,Aj])|exact EY _
       case c2=>omega
       case c3=>simp;omega
       intro v' w2 b B;go_wp2_with fail;go_roundw
       case rel=>exact H.out (k+2) d _ _ _ (by omega) (by omega) (by go_num) B5.out b ((hb.alloc hsz _).trans B)
       case measure=>simp[intOf];omega
     ·have A8:sv=false:=by cases sv with|true=>exact absurd (.inl rfl) o|false=>rfl
      subst A8;have J:Hid (RdS.Em d=false):=hZ9 (by
       rw[A5.out];have n1:(d==35)=false:=by simpa using λh=>o (.inr (.inl h))
       have n2:(d==61)=false:=by simpa using λh=>o (.inr (.inr (.inl h)))
       have n3:(d==32)=false:=by simpa using λh=>o (.inr (.inr (.inr h)))
       rw[n1,n2,n3];rfl)
      have g1:((d.toNat:Int)==35)=false:=aV.2 (λh=>o (.inr (.inl (Dn rfl h))));have g2:((d.toNat:Int)==61)=false:=aV.2 (λh=>o (.inr (.inr (.inl (Dn rfl h)))));have g3:((d.toNat:Int)==32)=false:=aV.2 (λh=>o (.inr (.inr (.inr (Dn rfl h)))));clear o X N;by_cases B6:k+2<l.length
      ·have R:=hZ9 (av B6);generalize A3:l[k+2]=f at*;have D1:∀h,(⟨l.toArray⟩:ByteArray)[k+2]'h=f:=λ_=>A3;clear A3;have M:decide ((l.length:Int)<=(k:Int)+2)=false:=aB (by omega);have C0:(k:Int)+2<(l.length:Int):=by omega
       have s:=λw=>AaS d w;have C:=λw=>AaS f w;rcases RdS.Jh d with⟨hn,hv⟩|⟨x,hx,W,C2⟩
       ·rw[hv] at s;have u:Hid (RdS.readS l=none):=hZ9 (m.out (by rw[L.out,p.out,F.out,show k+1+1=k+2 from rfl,R.out,RdS.Df _ J.out (.inl hn)]));clear hn hv C;go_wp2_with fail;refine(q _).mono ?_;rintro e w0 ⟨rfl,rfl⟩;go_wp2_with fail;refine(s _).mono ?_;rintro e w1 ⟨rfl,rfl⟩;go_wp2_with fail;go_ret2;exact Cc.none u.out hb
       ·rcases RdS.Jh f with⟨hn,hv⟩|⟨y,hy,B0,B8⟩
        ·rw[W] at s;rw[hv] at C;have u:Hid (RdS.readS l=none):=hZ9 (m.out (by rw[L.out,p.out,F.out,show k+1+1=k+2 from rfl,R.out,RdS.Df _ J.out (.inr hn)]));have B4:decide ((x:Int)<0)=false:=aB (by omega);clear hn hv hx W;go_wp2_with fail;refine(q _).mono ?_;rintro e w0 ⟨rfl,rfl⟩;go_wp2_with fail;refine(s _).mono ?_;rintro e w1 ⟨rfl,rfl⟩;go_wp2_with fail;refine(C _).mono ?_;rintro e w2 ⟨rfl,rfl⟩;go_wp2_with fail;go_ret2;exact Cc.none u.out hb
        ·have N:Hid (RdS.AG (decide (k=0)) (l.drop k)=(RdS.AG false (l.drop (k+3))).map (UInt8.ofNat (16*x+y) :: ·)):=hZ9 (by
          rw[L.out,p.out,F.out,show k+1+1=k+2 from rfl,R.out,RdS.EZ _ J.out hx hy])
         obtain⟨z,hz⟩:∃z:UInt8,z=UInt8.ofNat (16*x+y):=⟨_,rfl⟩
         have Z:(z.toNat:Int)=16*(x:Int)+(y:Int):=by rw[hz,bz];omega
         rw[<-hz] at N;have A7:=z.toNat_lt;have B9:(16:Int)*(x:Int)+(y:Int)=(z.toNat:Int):=Z.symm;have C3:IntKind.u8.wrap (z.toNat:Int)=(z.toNat:Int):=by rw[IntKind.wrap_u8];omega
         have C4:IntKind.i64.wrap (z.toNat:Int)=(z.toNat:Int):=by rw[IntKind.wrap_i64];omega
         have C9:IntKind.i64.wrap (16*(x:Int))=16*(x:Int):=by rw[IntKind.wrap_i64];omega
         have B4:decide ((x:Int)<0)=false:=aB (by omega);have D2:decide ((y:Int)<0)=false:=aB (by omega);have j1:(0:Int)<=(k:Int)+1:=by omega
         have j2:(0:Int)<=(k:Int)+2:=by omega
         have t1:((k:Int)+1).toNat=k+1:=by omega
         have t2:((k:Int)+2).toNat=k+2:=by omega
         have D4:IntKind.i64.wrap ((k:Int)+1)=(k:Int)+1:=by rw[IntKind.wrap_i64];omega
         have C8:IntKind.i64.wrap ((k:Int)+2)=(k:Int)+2:=by rw[IntKind.wrap_i64];omega
         clear hx hy hz Z;rw[W] at s;rw[B0] at C;go_wp2_with fail;refine(q _).mono ?_;rintro e w0 ⟨rfl,rfl⟩;go_wp2_with fail;refine(s _).mono ?_;rintro e w1 ⟨rfl,rfl⟩;go_wp2_with fail;refine(C _).mono ?_;rintro e w2 ⟨rfl,rfl⟩;go_wp2_with fail;have O:=r;clear s C q r
         go_region_law (first
          |(refine Ab0 (by rfl) _ _ (by rfl) w.heap.size _ acc (by rfl) (World.ownsRow.alloc O _) wr.heap.size 1 (by rfl) z (by simp[go_sem,Aj]) (by omega) (by simp;omega) ?_;intro v' w2 b B)
          |(go_simp;go_at_call 199;refine(AaS _ _).mono ?_;rintro e w1 ⟨rfl,rfl⟩))
         all_goals go_wp2_with fail
         all_goals go_roundw
         all_goals first|(simp[intOf];omega)|exact H.out (k+3) z _ _ _ (by omega) (by omega) (by go_num) N.out b ((hb.drew.alloc hsz _).trans B)
      ·have M:(l.length:Int)<=(k:Int)+2:=by omega
       have j:l.drop (k+1+1)=[]:=bO (by omega);have u:Hid (RdS.readS l=none):=hZ9 (m.out (by rw[L.out,p.out,F.out,j,RdS.FV _ J.out]));clear j;go_wp2_with fail;refine(q _).mono ?_;rintro e w0 ⟨rfl,rfl⟩;go_wp2_with fail;go_ret2;exact Cc.none u.out hb
    ·have A0:decide ((k:Int)+1<(l.length:Int))=false:=aB (by omega);have M:(l.length:Int)<=(k:Int)+2:=by omega
     have j:l.drop (k+1)=[]:=bO (by omega);have u:Hid (RdS.readS l=none):=hZ9 (m.out (by rw[L.out,p.out,j,RdS.IC]));clear j;go_wp2_with fail;go_ret2;exact Cc.none u.out hb
   ·have p:=hZ9 h92;have B2:((c.toNat:Int) !=92)=true:=by rw[fR];exact λh=>p.out (Dn rfl h)
    clear h92;have Y:(l.drop (k+1)).isEmpty=decide (k+1=l.length):=by rw[bR,dD,ej,az];omega
    have I:Hid (RdS.Dq (decide (k=0)) (decide (k+1=l.length)) c=true->RdS.readS l=none):=hZ9 (λh=>m.out (by rw[L.out];exact RdS.JW p.out (by rw[Y];exact h)));have B7:Hid (RdS.Dq (decide (k=0)) (decide (k+1=l.length)) c=false->RdS.AG (decide (k=0)) (l.drop k)=(RdS.AG false (l.drop (k+1))).map (c :: ·)):=hZ9 (λh=>by rw[L.out];exact RdS.Ir p.out (by rw[Y];exact h));have el:((k:Int)==(l.length:Int)-1)=decide (k+1=l.length):=by rw[bR,ag,az];omega
    have K:Hid (∀f last,RdS.Dq f last c=(RdS.AE c||c==0||(c==32&&(f||last))||(c==35&&f))):=hZ9 (λ_ _=>rfl);have e0:((c.toNat:Int)==0)=(c==0):=by rw[bR,ag,ag];exact⟨λh=>Dn rfl h,λh=>by rw[h];rfl⟩
    have C6:((c.toNat:Int)==32)=(c==32):=by rw[bR,ag,ag];exact⟨λh=>Dn rfl h,λh=>by rw[h];rfl⟩
    have D0:((c.toNat:Int)==35)=(c==35):=by rw[bR,ag,ag];exact⟨λh=>Dn rfl h,λh=>by rw[h];rfl⟩
    have A:=λw=>NS c w;have G:=hZ9 (λout w2=>H.out (k+1) c out _ w2 (by omega) (by omega) rfl);clear Y;generalize decide (k+1=l.length)=ql at*;generalize decide (k=0)=qf at*;generalize RdS.AE c=sv at*;generalize (c==0)=z0 at*;generalize (c==32)=z32 at*;generalize (c==35)=z35 at*;cases sv
    case true=>have u:=hZ9 (I.out (by rw[K.out];rfl));go_wp2_with fail;refine(A _).mono ?_;rintro e w1 ⟨rfl,rfl⟩;go_wp2_with fail;go_ret2;exact Cc.none u.out hb
    cases z0
    case true=>have u:=hZ9 (I.out (by rw[K.out];rfl));go_wp2_with fail;refine(A _).mono ?_;rintro e w1 ⟨rfl,rfl⟩;go_wp2_with fail;go_ret2;exact Cc.none u.out hb
    cases z32<;>cases z35<;>cases qf<;>cases ql
    all_goals first
     |(have u:=hZ9 (I.out (by rw[K.out];rfl))
       go_wp2_with fail;refine(A _).mono ?_;rintro e w1 ⟨rfl,rfl⟩;go_wp2_with fail;go_ret2;exact Cc.none u.out hb)
     |(have N:=hZ9 (B7.out (by rw[K.out];rfl))
       go_wp2_with fail;refine(A _).mono ?_;rintro e w1 ⟨rfl,rfl⟩;go_wp2_with (at_builtin;refine DW (by rfl) _ _ (by rfl) w.heap.size _ acc (by rfl) (r.alloc _) wr.heap.size 1 1 (by rfl) [c] (by rfl) (by first|exact one_cell (by simp[go_sem,Aj])|exact EY _) (by omega) (by simp;omega) ?_)
       intro v' w2 b B;go_wp2_with fail;go_roundw
       ·first|exact G.out _ _ N.out b ((hb.alloc hsz _).trans B)|(simp[intOf];omega)
       ·first|exact G.out _ _ N.out b ((hb.alloc hsz _).trans B)|(simp[intOf];omega))
  ·have j:l.drop k=[]:=bO (by omega);have u:Hid (RdS.readS l=some acc):=hZ9 (by rw[T.out,j];simp[RdS.AG]);have A6:=r.back;clear j;go_wp2_with fail;go_ret2;exact⟨by rw[u.out];rfl,hb⟩
end
section
open Go.RowKit
def EW(xs:List RdS.Pr)(w:World)(e:Ending)(w':World):Prop:=e=.returned (.tuple #[.string ⟨(RdS.printS xs).1.toArray⟩,.int .i64 (RdS.printS xs).2])/\Below w.heap.size w w'
theorem EW.bad{xs:List RdS.Pr}(h:RdS.formedS xs=false)(hb:Below w.heap.size w w'):EW xs w (.returned (.tuple #[.string ⟨#[]⟩,.int .i64 1])) w':=by unfold EW RdS.printS;rw[h];exact⟨rfl,hb⟩
def Agv(xs:List RdS.Pr)(w1:World)(i:Value)(wr:World):Prop:=∃k:Nat,k<=xs.length/\i=.int .i64 k/\Bld w1.heap.size w1.heap.size (RdS.Bd xs k) wr/\Below w1.heap.size w1 wr
theorem BZ(l:iK):(⟨l.toArray⟩:ByteArray).size=l.length:=by show l.toArray.size=_;simp
theorem EM(x y:iK)(h1:x.length<=2000000)(h2:y.length<=2000000)(w:World):(Op.stringOp .add ⟨x.toArray⟩ ⟨y.toArray⟩).run prog w=.ok (.string ⟨(x++y).toArray⟩) w:=by rw[<-MN];exact run_string_add_sum w _ _ (by show x.toArray.size+y.toArray.size<=_;simp;omega)
theorem Ab2(v:Value)(xs:List RdS.Pr)(w:World)(h:AY w v xs)(hf:Fb xs)(hE:Env w):Calls prog 108 #[v] w (EW xs w):=by
 have z:=LO v xs w h hf hE;unfold JX at z;cases b:RdS.formedS xs with
 |false=>rw[b] at z;have J:=hZ9 b;clear h hf b;go_enter func108,ntmps108;go_wp2_with fail;refine z.mono ?_;rintro e w1 ⟨rfl,m⟩;go_wp2_with fail;go_ret2;exact EW.bad J.out m
 |true=>
  rw[b] at z;have J:=hZ9 b;have A1:=hZ9 (RdS.EP b);have B1:=hZ9 (RdS.LM b);have A3:Hid (RdS.printS xs=(RdS.Bd xs xs.length,0)):=hZ9 (by unfold RdS.printS;rw[aJ b]);clear b hf;obtain⟨a,c,rfl,hc,T⟩:=h;rcases T with rfl|⟨g,o,rfl,hg,hcell⟩
  ·have:=J.out;cases this
  have HC:=hZ9 hcell;generalize hn:xs.length=n at*;have HN:=hZ9 hn;have B4:n<=3:=A1.out.1;clear hn hcell;go_enter func108,ntmps108;go_wp2_with fail;refine z.mono ?_;rintro e w1 ⟨rfl,m⟩;have X:g<w1.heap.size:=ae hg m.size;go_wp2_with fail;go_loopw [12] (λi wr=>Agv xs w1 i wr) (λi _=>n-(intOf i).toNat)
  case atStart=>exact⟨0,aR _,rfl,Bld.fresh w1,Af w1 _⟩
  case round=>
   obtain⟨k,hk,rfl,B,hb⟩:=hrel;rw[HN.out] at hk;have hsz:=hb.size;by_cases A4:k<n
   ·have r:k<xs.length:=by rw[HN.out];exact A4
    obtain⟨c0,c1⟩:=HC.out k _ (aK r);have A2:=hZ9 (RdS.Iq xs k r);have A9:=A1.out.2 _ (aZ r);have B5:=B1.out k hk;generalize xs[k]=p at*;obtain⟨t,u⟩:=p;simp only at c0 c1 A9;have Z:Hid (RdS.pairT (t,u)=t++[61]++RdS.EJ u):=hZ9 rfl;replace c0:wr.cell? ⟨g,o+k*2,none⟩=some (Ac t):=(hb.cell (p:=⟨g,o+k*2,none⟩) X).trans ((m.cell (p:=⟨g,o+k*2,none⟩) hg).trans c0);replace c1:wr.cell? ⟨g,o+k*2+1,none⟩=some (Ac u):=(hb.cell (p:=⟨g,o+k*2+1,none⟩) X).trans ((m.cell (p:=⟨g,o+k*2+1,none⟩) hg).trans c1);unfold Ac at c0 c1;have B2:=EM t [61] (by omega) (by decide);have B3:(⟨t.toArray⟩++⟨#[61]⟩:ByteArray)=⟨(t++[61]).toArray⟩:=MN t [61];have q:Below w1.heap.size w1 (wr.alloc (.cells #[t,u] 190)):=hb.alloc hsz _;have I:=B.alloc (.cells #[t,u] 190);have V:=Whole.made wr 190 #[t,u];have U:=hZ9 V;have O:Hid (wr.heap.size≠w1.heap.size):=hZ9 (by have:=B.lt.1;omega);clear r B V;by_cases H:k=0
    ·have K:Hid (RdS.Bd xs (k+1)=RdS.Bd xs k++(t++[61])++RdS.EJ u):=hZ9 (by rw[A2.out,aJ H,Z.out];simp);have A5:decide ((0:Int)<(k:Int))=false:=aB (by omega);have A0:decide (0<k)=false:=aB (by omega);clear H;generalize RdS.Bd xs k=acc at*;go_wp2_with fail;have hL:acc.length+(⟨(t++[61]).toArray⟩:ByteArray).size<=900000000:=by rw[BZ,aT,bE];omega
     have G:=MA w1.heap.size w1.heap.size acc ⟨(t++[61]).toArray⟩ _ I hL q.size;refine G.mono ?_;rintro e w2 ⟨rfl,s,j,y⟩;have A:=y.cell (by decide) O.out U.out;have d1:w2.cell? ⟨wr.heap.size,1,none⟩=some (.string ⟨u.toArray⟩):=A.cell 1;have N:w1.heap.size<=w2.heap.size:=(q.trans j).size;clear y A;go_wp2_with fail;have d:Bld w1.heap.size w1.heap.size (acc++(t++[61])) w2:=s.bld;have F:(acc++(t++[61])).length<=100000000:=by rw[aT,aT,bE];omega
     have x:u.length<=100000000:=by omega
     have R:=Wc w1.heap.size w1.heap.size _ u _ d F x N;clear hL F x s d G;refine R.mono ?_;rintro e w3 ⟨rfl,L,M⟩;go_wp2_with fail;go_roundw
     case rel=>exact⟨k+1,by rw[HN.out];omega,by go_num,by rw[K.out];exact L,(q.trans j).trans M⟩
     case measure=>simp[intOf];omega
    ·have K:Hid (RdS.Bd xs (k+1)=RdS.Bd xs k++[43]++(t++[61])++RdS.EJ u):=hZ9 (by rw[A2.out,aG H,Z.out];simp);have A5:(0:Int)<(k:Int):=by omega
     have A0:0<k:=by omega
     clear H;generalize RdS.Bd xs k=acc at*;go_wp2_with fail;refine(Dw w1.heap.size w1.heap.size acc 43 _ I (by omega) q.size).mono ?_;rintro e w15 ⟨rfl,A7,C,Y⟩;have W:=Y.cell (by decide) O.out U.out;have d0:w15.cell? ⟨wr.heap.size,0,none⟩=some (.string ⟨t.toArray⟩):=W.cell 0;have A6:w1.heap.size<=w15.heap.size:=(q.trans C).size;clear Y;go_wp2_with fail;have hL:(acc++[43]).length+(⟨(t++[61]).toArray⟩:ByteArray).size<=900000000:=by rw[BZ,aT,aT,bE,bE];omega
     have G:=MA w1.heap.size w1.heap.size (acc++[43]) ⟨(t++[61]).toArray⟩ _ A7.bld hL A6;refine G.mono ?_;rintro e w2 ⟨rfl,s,j,y⟩;have A:=y.cell (by decide) O.out W;have d1:w2.cell? ⟨wr.heap.size,1,none⟩=some (.string ⟨u.toArray⟩):=A.cell 1;have N:w1.heap.size<=w2.heap.size:=((q.trans C).trans j).size;clear y A;go_wp2_with fail;have d:Bld w1.heap.size w1.heap.size (acc++[43]++(t++[61])) w2:=s.bld;have F:(acc++[43]++(t++[61])).length<=100000000:=by rw[aT,aT,aT,bE,bE];omega
     have x:u.length<=100000000:=by omega
     have R:=Wc w1.heap.size w1.heap.size _ u _ d F x N;clear hL F x s d G;refine R.mono ?_;rintro e w3 ⟨rfl,L,M⟩;go_wp2_with fail;go_roundw
     case rel=>exact⟨k+1,by rw[HN.out];omega,by go_num,by rw[K.out];exact L,((q.trans C).trans j).trans M⟩
     case measure=>simp[intOf];omega
   ·have A8:k=n:=by omega
    subst A8;have B0:=Builder_String_any w1.heap.size w1.heap.size (RdS.Bd xs k) wr (by first|exact B|simpa[Bld,Aj,Lib.byteCells] using B) hsz;generalize RdS.Bd xs k=tx at*;go_wp2_with fail;refine B0.mono ?_;rintro e w2 ⟨rfl,j⟩;go_wp2_with fail;go_ret2;exact⟨by rw[A3.out];rfl,m.trans ((hb.trans j).mono m.size)⟩
end
section
open Go.RowKit
attribute [local go_sem ↓] Go.wp_at_zero Go.wp_at_succ
theorem ZM{ops:Array Oper}{o:Oper}{K:Act->World->Prop}{Q:Exit->Act->World->Prop}(r:o.guard=none)(s x:Operand)
  (C:o.op=.call { callee:=.builtin .append,args:=#[s,x],argTypes:=#[157,157] })
  (B:Nat)(v:Value)(l:iK)(A:a.eval s=v)(b:OwnB w B v l)(g m c:Nat)(hx:a.eval x=.slice (some ⟨g,0,none⟩) m c)
  (ys:iK)(I:ys.length=m)(hc:∀(j:Nat) (y:UInt8),ys[j]?=some y->w.cell? ⟨g,j,none⟩=some (Aj y))(J:l.length+m<=1000000000)(hB:B<=w.heap.size)
  (G:∀h w',OwnB w' B h (l++ys)->Below B w w'->K (a.put o.dst h) w'):if Region.wanted o (yielded ops a.tmps)=true then Oper.wp prog o a w K Q else E:=by
 have F:Region.wanted o (yielded ops a.tmps)=true:=by simp[Region.wanted,r]
 rw[aJ F];obtain⟨i0,H,q,i,z⟩:=info_parts Qs;subst I;refine wp_append_own w s x _ C B 5 i0 (.int .u8 0) 1 1 underlying157 H q i z rfl (by decide) v l.length (l.map Aj) A b ⟨g,0,none⟩ ys.length c (ys.map Aj) hx (by simp)
  (λj u d=>?_) (λu hu=>?_) (by unfold maxLen;omega) (by omega) hB (λh w' h1 h2 _=>G h w' ?_ ?_)
 ·rw[ba] at d;cases p:ys[j]? with
  |none=>rw[p] at d;cases d
  |some y=>
   rw[p] at d;have d:=aU d;subst d;have e:(⟨g,0,none⟩:Addr).add j=⟨g,j,none⟩:=by unfold Addr.add;split<;>simp_all
   rw[e];exact hc j y p
 ·obtain⟨y,_,rfl⟩:=bG.1 hu;rfl
 ·unfold OwnB;rw[bQ,aT];exact h1
 ·exact(Below.refl B w).grown h2 hB (λk hk=>(World.ownsRow.lt b k hk).1)
def YC(l:iK)(w:World)(out i:Value)(wr:World):Prop:=∃k:Nat,k<=l.length/\i=.int .i64 k/\OwnB wr w.heap.size out (RdS.Dp l k)/\Below w.heap.size w wr
theorem ZN(l:iK)(R:l.length<=1000000)(w:World):Calls prog 118 #[l] w λe w'=>e=.returned (.string ⟨(RdS.EJ l).toArray⟩)/\Below w.heap.size w w':=by
 go_enter func118,ntmps118;go_wp2_with fail;go_loopw [3,4] (λout i wr=>YC l w out i wr) (λ_ i _=>l.length-(intOf i).toNat)
 case atStart=>exact⟨0,aR _,rfl,OwnB.empty _ _,Below.refl _ _⟩
 case round=>
  obtain⟨k,hk,rfl,d,hb⟩:=hrel;have hsz:=hb.size;by_cases y:k<l.length
  ·have J:=hZ9 (RdS.Jf l k y);have F:=RdS.JS l k hk;have H:(RdS.Dp l k).length<=3000000:=by omega
   generalize u:l[k]=c at*;have L:∀h,(⟨l.toArray⟩:ByteArray)[k]'h=c:=λ_=>u;clear u F;have O:((k:Int)==0)=decide (k=0):=by rw[bR,ag,az];omega
   have el:((k:Int)==(l.length:Int)-1)=decide (k+1=l.length):=by rw[bR,ag,az];omega
   have N:((c.toNat:Int)==32)=(c==32):=QQ rfl;have I:((c.toNat:Int)==35)=(c==35):=QQ rfl;have p:=λw=>NS c w;have m:Hid (∀(x:iK) (out i:Value) (w2:World),i=.int .i64 ((k+1:Nat):Int)->RdS.Bq (decide (k=0)) (decide (k+1=l.length)) c=x->OwnB w2 w.heap.size out (RdS.Dp l k++x)->Below w.heap.size w w2->YC l w out i w2):=
    hZ9 (λx out i w2 M hx h1 h2=>⟨k+1,y,M,by rw[J.out,hx];exact h1,h2⟩)
   have K:Hid (∀f la,(RdS.AE c||(c==32&&(f||la))||(c==35&&f))=true->RdS.Bq f la c=[92,c]):=hZ9 (λf la h=>BQ h);have HX:Hid (∀f la,(RdS.AE c||(c==32&&(f||la))||(c==35&&f))=false->(decide (c.toNat<32)||decide (126<c.toNat))=true->RdS.Bq f la c=[92,RdS.BI (c.toNat / 16),RdS.BI (c.toNat % 16)]):=hZ9 (λf la h h2=>JD h h2);have HP:Hid (∀f la,(RdS.AE c||(c==32&&(f||la))||(c==35&&f))=false->(decide (c.toNat<32)||decide (126<c.toNat))=false->RdS.Bq f la c=[c]):=hZ9 (λf la h h2=>EE h h2);have hx1:=Nz c;have z:=NC c;have hand:bits .and .u8 (c.toNat:Int) 15=(c.toNat:Int) % 16:=u8_and15 (c.toNat:Int) (by omega) (by have:=c.toNat_lt;omega);generalize decide (k+1=l.length)=ql at*;generalize decide (k=0)=qf at*;generalize RdS.AE c=sv at*;generalize (c==32)=z32 at*;generalize (c==35)=z35 at*;generalize RdS.Dp l k=acc at*;by_cases q:(sv||(z32&&(qf||ql))||(z35&&qf))=true
   ·have r:=hZ9 (K.out qf ql q);clear hx1 z;cases sv<;>cases z32<;>cases z35<;>cases qf<;>cases ql
    all_goals first
     |(exact absurd q (by decide))
     |(clear q
       go_wp2_with fail;refine(p _).mono ?_;rintro e w1 ⟨rfl,rfl⟩;go_wp2_with (at_builtin;refine DW (by rfl) _ _ (by rfl) w.heap.size _ acc (by rfl) (d.alloc _) wr.heap.size 2 2 (by rfl) [92,c] (by rfl) (Db (by simp[go_sem,Aj]) (by simp[go_sem,Aj])) (by omega) (by simp;omega) ?_)
       intro G w2 b o;go_wp2_with fail;go_roundw
       ·first|exact m.out _ _ _ _ (by go_num) r.out b ((hb.alloc hsz _).trans o)|(simp[intOf];omega)
       ·first|exact m.out _ _ _ _ (by go_num) r.out b ((hb.alloc hsz _).trans o)|(simp[intOf];omega))
   ·have j:(sv||(z32&&(qf||ql))||(z35&&qf))=false:=by simpa using q
    clear q;by_cases hu:c.toNat<32\/126<c.toNat
    ·have r:=hZ9 (HX.out qf ql j (by rcases hu with hu|hu<;>simp[hu]));have A:(decide ((c.toNat:Int)<32)=true)\/(decide ((c.toNat:Int)<32)=false/\decide ((126:Int)<(c.toNat:Int))=true):=by
      by_cases h:c.toNat<32
      ·exact .inl (aI (by omega))
      ·exact .inr ⟨aB (by omega),aI (by omega)⟩
     clear hu;have s:=d;clear d;rcases A with g1|⟨g1,g2⟩
     all_goals cases sv<;>cases z32<;>cases z35<;>cases qf<;>cases ql
     all_goals first
      |(exact absurd j (by decide))
      |(clear j
        go_wp2_with fail;refine(p _).mono ?_;rintro e w1 ⟨rfl,rfl⟩;go_wp2_with fail
        go_region_law (first|(refine ZM (by rfl) _ _ (by rfl) w.heap.size _ acc (by rfl) (World.ownsRow.alloc s _) wr.heap.size 3 3 (by rfl) [92,RdS.BI (c.toNat / 16),RdS.BI (c.toNat % 16)] (by rfl) (Dy (by simp[go_sem,Aj]) (by simp[go_sem,Aj]) (by simp[go_sem,Aj])) (by omega) (by simp;omega) ?_;intro G w2 b o))
        all_goals go_wp2_with fail
        all_goals go_roundw
        all_goals first|exact m.out _ _ _ _ (by go_num) r.out b ((hb.drew.alloc hsz _).trans o)|(simp[intOf];omega))
    ·have r:=hZ9 (HP.out qf ql j (by rw[aB (λh=>hu (.inl h)),aB (λh=>hu (.inr h))];rfl));have g1:decide ((c.toNat:Int)<32)=false:=aB (by omega);have g2:decide ((126:Int)<(c.toNat:Int))=false:=aB (by omega);clear hu hx1 z;cases sv<;>cases z32<;>cases z35<;>cases qf<;>cases ql
     all_goals first
      |(exact absurd j (by decide))
      |(clear j
        go_wp2_with fail;refine(p _).mono ?_;rintro e w1 ⟨rfl,rfl⟩;go_wp2_with (at_builtin;refine DW (by rfl) _ _ (by rfl) w.heap.size _ acc (by rfl) (d.alloc _) wr.heap.size 1 1 (by rfl) [c] (by rfl) (by first|exact one_cell (by simp[go_sem,Aj])|exact EY _) (by omega) (by simp;omega) ?_)
        intro G w2 b o;go_wp2_with fail;go_roundw
        ·first|exact m.out _ _ _ _ (by go_num) r.out b ((hb.alloc hsz _).trans o)|(simp[intOf];omega)
        ·first|exact m.out _ _ _ _ (by go_num) r.out b ((hb.alloc hsz _).trans o)|(simp[intOf];omega))
  ·have B:k=l.length:=by omega
   subst B;have C:=d.back;have r:Hid (RdS.Dp l l.length=RdS.EJ l):=hZ9 rfl;clear d;go_wp2_with fail;go_ret;exact⟨by rw[<-r.out];rfl,hb⟩
end
section
open Go
section
variable {P:Program} {ops:Array Oper} {Q:Exit->Act->World->Prop} {md:Region.Mode} {S:World->Prop}
def KI(P:Program)(md:Region.Mode)(ops:Array Oper)(Q:Exit->Act->World->Prop)(S:World->Prop)(n:Nat)(L:Array Bool->Act->World->Prop):Nat->Array Bool->Act->World->Prop
 |0,listed,a,w=>L listed a w
 |f+1,listed,a,w=>Region.ready md ops listed≠[]/\∀i∈Region.ready md ops listed,i<n/\wpOp P ops Q i (λb w'=>S w'/\KI P md ops Q S n L f (listed.setIfInBounds i true) b w') a w
theorem JJ{n g:Nat}{L:Array Bool->Act->World->Prop}(b:∀listed a w,L listed a w->wpAny P md ops Q g listed a w):
  ∀(f:Nat) (listed:Array Bool) (a:Act) (w:World),KI P md ops Q S n L f listed a w->wpAny P md ops Q (f+g) listed a w
 |0,listed,a,w,h=>by rw[bv];exact b _ _ _ h
 |f+1,listed,a,w,h=>by rw[show f+1+g=(f+g)+1 by omega];exact⟨λh0=>absurd h0 h.1,λi c=>wpOp_mono (λe w' d=>JJ b f _ e w' d.2) (h.2 i c).2⟩
theorem Vn{i:Nat}{B:Oper}{L:Array Bool->Act->World->Prop}(O:ops[i]?=some B)(s:∀(j:Nat) (o:Oper) cs b,ops[j]?=some o->o.op≠.select cs b)
  (T:Region.sinkB md ops n=true)(hc:Region.chainB md ops n=true)(R:n<ops.size)(F:i<n)
  (X:∀c a w,Q (.panic c) (a.put B.dst v) w->Q (.panic c) a w)
  (z:∀listed a w,L listed a w->∀j∈Region.ready md ops listed,n<=j):
  ∀(f:Nat) (listed:Array Bool) (a:Act) (w:World),HeadInv md ops n listed->
   (∀j oj,ops[j]?=some oj->j≠i->listed.getD j true=false->(∀e∈oj.after,Region.binds md e=true->e.on≠i)->B.apart ops oj=true)->
   i∈Region.ready md ops listed->YieldsIf P ops S B v a->S w->
   KI P md ops Q S n L f (listed.setIfInBounds i true) (a.put B.dst v) w->KI P md ops Q S n L (f+1) listed a w:=by
 intro f
 induction f with
 |zero=>
  intro listed a w inv _ u J hS H;have m:=(mem_ready.1 u).1;refine⟨λh=>(by rw[h] at u;cases u),λj y=>?_⟩;have q:j<n:=by
   rcases eI j n with h|h
   ·exact h
   ·exact absurd y (tail_waits T hc R inv _ i rfl F m j h)
  refine⟨q,?_⟩;by_cases d:j=i
  ·subst d;exact J.wpOp O hS ⟨hS,H⟩
  ·have:=z _ _ _ H j (ready_mono y d);omega
 |succ f V=>
  intro listed a w inv p u J hS H;have m:=(mem_ready.1 u).1;refine⟨λh=>(by rw[h] at u;cases u),λj y=>?_⟩;have q:j<n:=by
   rcases eI j n with h|h
   ·exact h
   ·exact absurd y (tail_waits T hc R inv _ i rfl F m j h)
  refine⟨q,?_⟩;by_cases d:j=i
  ·subst d;exact J.wpOp O hS ⟨hS,H⟩
  ·have h1:=(H.2 j (ready_mono y d)).2;obtain⟨x,oj,A,I⟩:=mem_ready.1 y;have G:∀e∈oj.after,Region.binds md e=true->e.on≠i:=λe U hb K=>by
    have h1:=I e U hb;rw[K,getD_both m] at h1;cases h1
   have h2:=wpOp_putIf A (p j oj A d x G) (λcs b=>s i B cs b O) (λcs b=>s j oj cs b A) X J h1;have r:∀k ok,ops[k]?=some ok->k≠i->(listed.setIfInBounds j true).getD k true=false->
     (∀e∈ok.after,Region.binds md e=true->e.on≠i)->B.apart ops ok=true:=λk ok hk N m M=>by
    refine p k ok hk N ?_ M;by_cases C:j=k
    ·subst C;exact x
    ·rw[getD_set_ne true C] at m;exact m
   refine wpOp_mono (λW w' h3=>⟨h3.2.1,V (listed.setIfInBounds j true) W w' (inv.set y q) r (ready_mono u (Ne.symm d)) h3.1 h3.2.1 ?_⟩) h2;rw[Array.setIfInBounds_comm _ _ d];exact h3.2.2
end
def UG(l:List Oper)(n:Nat):Bool:=Region.noSelect l.toArray&&decide (n<l.length)&&Region.sinkB .any l.toArray n&&Region.chainB .any l.toArray n
def BW(m:Nat)(is:List Nat):Array Bool:=is.foldl (λl i=>l.setIfInBounds i true) (Array.replicate m false)
theorem Es(m:Nat)(is:List Nat)(i:Nat):(BW m is).setIfInBounds i true=BW m (is++[i]):=by unfold BW;rw[dG];rfl
section
variable {P:Program} {l:List Oper} {Q:Exit->Act->World->Prop} {S:World->Prop} {n:Nat}
def NW(P:Program)(l:List Oper)(Q:Exit->Act->World->Prop)(n:Nat)(listed:Array Bool)(a:Act)(w:World):Prop:=
 Region.seqB .any l.toArray (l.length-n) n listed=true/\wpList P l.toArray Q (l.drop n) a w
def Head(P:Program)(l:List Oper)(Q:Exit->Act->World->Prop)(S:World->Prop)(n f:Nat)(is:List Nat)(a:Act)(w:World):Prop:=
 HeadInv .any l.toArray n (BW l.length is)/\UG l n=true->KI P .any l.toArray Q S n (NW P l Q n) f (BW l.length is) a w
theorem Vo{listed:Array Bool}(h:NW P l Q n listed a w):∀j∈Region.ready .any l.toArray listed,n<=j:=seqB_ready h.1
theorem Qm(h:UG l n=true):Region.noSelect l.toArray=true/\n<l.toArray.size/\Region.sinkB .any l.toArray n=true/\Region.chainB .any l.toArray n=true:=by simp only[UG,bC,az] at h;exact⟨h.1.1.1,by simpa using h.1.1.2,h.1.2,h.2⟩
theorem Bz{c:Bool}(hc:c=true){X:Prop}(h:X):if c=true then X else E:=by rw[aJ hc];exact h
theorem Gi{id:Nat}(n:Nat)(S:World->Prop)(o:P.follows .mixedOrders=true)(hB:UG l n=true)(hS:S w.drew)
  (h:S w.drew->Head P l Q S n n [] a w.drew):(Code.region id l.toArray true).wp P Q a w:=by
 obtain⟨d,k,p,hc⟩:=Qm hB;have i:n<l.length:=by simpa using k
 have b:HeadInv .any l.toArray n (BW l.length []):=
  ⟨by simp[BW],λj oj _ c=>(by unfold BW at c;simp only[List.foldl_nil] at c;rw[getD_replicate_false] at c;cases c),λt _ m=>getD_in (by simpa[BW] using m) (getD_replicate_false _ _)⟩
 have H:=h hS ⟨b,hB⟩;refine wp_region_any o ?_;have h2:=JJ (P:=P) (md:=.any) (ops:=l.toArray) (Q:=Q) (S:=S) (n:=n) (g:=l.length-n) (L:=NW P l Q n) (λlisted a w e=>by
  have:=wpAny_of_seq (P:=P) (md:=.any) (ops:=l.toArray) (Q':=Q) (l.drop n) n listed a w (λj=>by simp[List.getElem?_drop]) (by rw[bD];exact e.1) e.2
  rwa [bD] at this) n _ a _ H
 rw[show n+(l.length-n)=l.length by omega] at h2;have h3:l.toArray.size=l.length:=by simp
 rw[h3];exact h2
theorem Ai{is:List Nat}(i:Nat)(v:Value)(d:i<l.length)(o:(decide (i<n)&&Region.free .any l.toArray (BW l.length is) i&&(Region.ready .any l.toArray (BW l.length is)).contains i)=true)
  (x:∀c a w,Q (.panic c) (a.put (l[i]'d).dst v) w->Q (.panic c) a w)(r:Region.wanted (l[i]'d) (yielded l.toArray a.tmps)=true)(y:∀W,S W->(execOp a.eval (l[i]'d)).run P W=.ok (.value v) W)(hS:S w)
  (h:Head P l Q S n f (is++[i]) (a.put (l[i]'d).dst v) w):Head P l Q S n (f+1) is a w:=by
 have u:YieldsIf P l.toArray S (l[i]'d) v a:=.inl ⟨r,y⟩;intro⟨inv,hB⟩;obtain⟨j,q,p,hc⟩:=Qm hB;simp only[bC,az] at o;obtain⟨⟨e,b⟩,s⟩:=o;have k:i∈Region.ready .any l.toArray (BW l.length is):=by simpa using s
 have m:l.toArray[i]?=some (l[i]'d):=by simp[d]
 refine Vn m (Region.noSelect_spec j) p hc q e x (λ_ _ _=>Vo) f _ a w inv (Region.free_spec m b) k u hS ?_;rw[Es];refine h ⟨?_,hB⟩;rw[<-Es];exact inv.set k e
theorem BB{is:List Nat}(i:Nat)(e:i<l.length)(b:(decide (i<n)&&decide (Region.ready .any l.toArray (BW l.length is)=[i]))=true)
  (h:∀c:Act->World->Prop,Shut (∀a w,S w->(S w->Head P l Q S n f (is++[i]) a w)->c a w)->if Region.wanted (l[i]'e) (yielded l.toArray a.tmps)=true then Oper.wp P (l[i]'e) a w c Q else c (a.put (l[i]'e).dst undef) w):
  Head P l Q S n (f+1) is a w:=by
 intro⟨inv,hB⟩;simp only[bC,az] at b;obtain⟨d,b⟩:=b;have m:l.toArray[i]?=some (l[i]'e):=by simp[e]
 have k:i∈Region.ready .any l.toArray (BW l.length is):=by rw[b];simp
 refine⟨by rw[b];simp,λj p=>?_⟩;rw[b] at p;have o:j=i:=by simpa using p
 subst o;refine⟨d,wpOp_step m (λc r=>h c (λq w' hS hW=>r q w' ⟨hS,?_⟩))⟩;rw[Es];refine hW hS ⟨?_,hB⟩;rw[<-Es];exact inv.set k d
theorem Pn{is:List Nat}(i j:Nat)(r:i<l.length)(q:j<l.length)(k:(decide (i<n)&&decide (j<n)&&decide (Region.ready .any l.toArray (BW l.length is)=[i,j]))=true)
  (h1:∀b:Act->World->Prop,Shut (∀a w,S w->(S w->Head P l Q S n f (is++[i]) a w)->b a w)->if Region.wanted (l[i]'r) (yielded l.toArray a.tmps)=true then Oper.wp P (l[i]'r) a w b Q else b (a.put (l[i]'r).dst undef) w)
  (h2:∀b:Act->World->Prop,Shut (∀a w,S w->(S w->Head P l Q S n f (is++[j]) a w)->b a w)->if Region.wanted (l[j]'q) (yielded l.toArray a.tmps)=true then Oper.wp P (l[j]'q) a w b Q else b (a.put (l[j]'q).dst undef) w):
  Head P l Q S n (f+1) is a w:=by
 intro⟨inv,hB⟩;simp only[bC,az] at k;obtain⟨⟨d,e⟩,k⟩:=k;have step:∀m (c:m<l.length),m<n->m∈Region.ready .any l.toArray (BW l.length is)->(∀b:Act->World->Prop,Shut (∀a w,S w->(S w->Head P l Q S n f (is++[m]) a w)->b a w)->if Region.wanted (l[m]'c) (yielded l.toArray a.tmps)=true then Oper.wp P (l[m]'c) a w b Q else b (a.put (l[m]'c).dst undef) w)->
   wpOp P l.toArray Q m (λx w'=>S w'/\KI P .any l.toArray Q S n (NW P l Q n) f ((BW l.length is).setIfInBounds m true) x w') a w:=by
  intro m c s o h;have u:l.toArray[m]?=some (l[m]'c):=by simp[c]
  refine wpOp_step u (λb z=>h b (λx w' hS hW=>z x w' ⟨hS,?_⟩));rw[Es];refine hW hS ⟨?_,hB⟩;rw[<-Es];exact inv.set o s
 refine⟨by rw[k];simp,λm c=>?_⟩;have p:=c;rw[k] at c;rcases ay.1 c with rfl|c
 ·exact⟨d,step _ r d p h1⟩
 ·have y:m=j:=by simpa using c
  subst y;exact⟨e,step _ q e p h2⟩
theorem EX{is:List Nat}(b:Region.seqB .any l.toArray (l.length-n) n (BW l.length is)=true)(h:wpList P l.toArray Q (l.drop n) a w):Head P l Q S n 0 is a w:=
 λ_=>⟨b,h⟩
end
end
section
open Go.RowKit
open FiS (Fi)
attribute [local go_sem ↓] Go.wp_at_zero Go.wp_at_succ
def sev(w:World)(g:Nat)(v0 c v2 v3 v4 v5 b:Value):World:=((((((w.setCell ⟨g,0,none⟩ v0).setCell ⟨g,1,none⟩ c).setCell ⟨g,2,none⟩ v2).setCell ⟨g,3,none⟩ v3).setCell ⟨g,4,none⟩ v4).setCell ⟨g,5,none⟩ v5).setCell ⟨g,6,none⟩ b
theorem Whole.put7{a0 a1 a2 a3 a4 a5 d:Value}(h:Whole w g t #[a0,a1,a2,a3,a4,a5,d])(v0 c v2 v3 v4 v5 b:Value):Whole (sev w g v0 c v2 v3 v4 v5 b) g t #[v0,c,v2,v3,v4,v5,b]:=by have:=((((((h.put 0 v0).put 1 c).put 2 v2).put 3 v3).put 4 v4).put 5 v5).put 6 b;simp only[aF,aL,aQ] at this;unfold sev;exact this
theorem Whole.other7{c:Nat}(h:Whole w c t cs)(b:c≠g)(v0 e v2 v3 v4 v5 d:Value):Whole (sev w g v0 e v2 v3 v4 v5 d) c t cs:=
 ((((((h.other (p:=⟨g,0,none⟩) b v0).other (p:=⟨g,1,none⟩) b e).other (p:=⟨g,2,none⟩) b v2).other (p:=⟨g,3,none⟩) b v3).other (p:=⟨g,4,none⟩) b v4).other (p:=⟨g,5,none⟩) b v5).other (p:=⟨g,6,none⟩) b d
theorem Ey{B:Nat}{w0:World}(h:Below B w0 w)(b:B<=g)(v0 d v2 v3 v4 v5 c:Value):Below B w0 (sev w g v0 d v2 v3 v4 v5 c):=
 ((((((h.setCell (p:=⟨g,0,none⟩) b v0).setCell (p:=⟨g,1,none⟩) b d).setCell (p:=⟨g,2,none⟩) b v2).setCell (p:=⟨g,3,none⟩) b v3).setCell (p:=⟨g,4,none⟩) b v4).setCell (p:=⟨g,5,none⟩) b v5).setCell (p:=⟨g,6,none⟩) b c
theorem Whole.thaws(h:Whole w g t cs):w.frozen? ⟨g,0,none⟩=false/\w.frozen? ⟨g,1,none⟩=false/\w.frozen? ⟨g,2,none⟩=false/\w.frozen? ⟨g,3,none⟩=false/\w.frozen? ⟨g,4,none⟩=false/\w.frozen? ⟨g,5,none⟩=false/\w.frozen? ⟨g,6,none⟩=false:=
 ⟨h.thaw 0,h.thaw 1,h.thaw 2,h.thaw 3,h.thaw 4,h.thaw 5,h.thaw 6⟩
theorem Whole.same(h:Whole w g t cs){i:Nat}(c:cs[i]?=some v):w.setCell ⟨g,i,none⟩ v=w:=by
 have e:(w.setCell ⟨g,i,none⟩ v).heap=w.heap:=by
  apply gg;intro k;by_cases hk:k=g
  ·subst hk;have h1:w.heap[k]?=some (.cells cs t (0,0)):=h;have h2:=h.put i v;unfold Whole at h2;rw[h2,h1];congr 2;apply gg;intro j;rw[fD];split
   ·rename_i b;subst b;rw[c];split
    ·rfl
    ·rename_i d;rw[eU (by omega)] at c;cases c
   ·rfl
  ·exact Below.heap_setCell _ _ _ _ hk
 show ({ w with heap:=(w.setCell ⟨g,i,none⟩ v).heap }:World)=w
 rw[e]
def Ab3(v:Value):Prop:=∃(x:Fi) (b e:Option Addr) (d c1 c c2:Nat),v=.agg #[x.kind,x.attr,x.value,x.first,x.last,.slice b d c1,.slice e c c2]
theorem FiV.form{x:Fi}(h:FiV n ok w v x):Ab3 v:=by obtain⟨b,up,rfl,h1,h2⟩:=h;obtain⟨a5,c5,rfl,_⟩:=Ad.form h1;obtain⟨c,d,rfl,_⟩:=Ad.form h2;exact⟨x,_,_,_,_,_,_,rfl⟩
def Jk(l:iK)(w:World)(e:Ending)(w':World):Prop:=∃v,e=.returned (.tuple #[v,.bool (FiS.Oc l).isSome])/\Ab3 v/\(∀x,FiS.Oc l=some x->∀n,FiV n (λg=>w.heap.size<=g) w' v x)/\Below w.heap.size w w'
theorem FiV.leaf(n:Nat)(ok:Nat->Prop)(w:World)(k:Int)(a v f l:iK):FiV n ok w (.agg #[k,a,v,f,l,.slice none 0 0,.slice none 0 0]) (.mk k a v f l [] []):=
 ⟨_,_,rfl,Ad.nil none 0,Ad.nil none 0⟩
theorem Jk.no{a:iK}{k:Int}(h:FiS.Oc l=none)(hb:Below w.heap.size w w'):
  Jk l w (.returned (.tuple #[.agg #[k,a,.string ⟨#[]⟩,.string ⟨#[]⟩,.string ⟨#[]⟩,.slice none 0 0,.slice none 0 0],false])) w':=by
 refine⟨_,by rw[h];rfl,⟨.mk k a [] [] [] [] [],none,none,0,0,0,0,rfl⟩,λx hx=>(by rw[h] at hx;cases hx),hb⟩
theorem Jk.one{a v:iK}{k:Int}(h:FiS.Oc l=some (.mk k a v [] [] [] []))(hb:Below w.heap.size w w'):
  Jk l w (.returned (.tuple #[.agg #[k,a,v,.string ⟨#[]⟩,.string ⟨#[]⟩,.slice none 0 0,.slice none 0 0],true])) w':=by
 refine⟨_,by rw[h];rfl,⟨.mk k a v [] [] [] [],none,none,0,0,0,0,rfl⟩,λx hx n=>?_,hb⟩;rw[h] at hx;have hx:=aU hx;subst hx;exact FiV.leaf n _ _ k a v [] []
theorem Jk.many{a f t:iK}{s:List iK}{b:Value}(h:FiS.Oc l=some (.mk 4 a [] f t s []))(c:Am (λg=>w.heap.size<=g) w' b s)(hb:Below w.heap.size w w'):
  Jk l w (.returned (.tuple #[.agg #[.int .i64 4,a,.string ⟨#[]⟩,f,t,b,.slice none 0 0],true])) w':=by
 obtain⟨d,sc,rfl,_⟩:=Ad.form c;refine⟨_,by rw[h];rfl,⟨.mk 4 a [] f t s [],_,_,_,_,_,_,rfl⟩,λx hx n=>?_,hb⟩;rw[h] at hx;have hx:=aU hx;subst hx;exact⟨_,_,rfl,c,Ad.nil none 0⟩
end
section
open Go.RowKit
open FiS (Fi)
attribute [local go_sem ↓] Go.wp_at_zero Go.wp_at_succ
theorem Bl.atO{a:Option Addr}{m c:Nat}{xs:List Fi}(h:Bl n ok w (.slice a m c) xs):∀j (b:j<xs.length),∃d,n=d+1/\∃g o,a=some ⟨g,o,none⟩/\g<w.heap.size/\ok g/\∃a5 c5 i k,FiV d ok w (.agg #[.int .i64 (xs[j]'b).kind,.string ⟨(xs[j]'b).attr.toArray⟩,.string ⟨(xs[j]'b).value.toArray⟩,.string ⟨(xs[j]'b).first.toArray⟩,.string ⟨(xs[j]'b).last.toArray⟩,.slice a5 (xs[j]'b).any.length c5,.slice i (xs[j]'b).parts.length k]) (xs[j]'b)/\
  w.cell? ⟨g,o+j*7,none⟩=some (.int .i64 (xs[j]'b).kind)/\w.cell? ⟨g,o+j*7+1,none⟩=some (.string ⟨(xs[j]'b).attr.toArray⟩)/\w.cell? ⟨g,o+j*7+2,none⟩=some (.string ⟨(xs[j]'b).value.toArray⟩)/\w.cell? ⟨g,o+j*7+3,none⟩=some (.string ⟨(xs[j]'b).first.toArray⟩)/\w.cell? ⟨g,o+j*7+4,none⟩=some (.string ⟨(xs[j]'b).last.toArray⟩)/\
  w.cell? ⟨g,o+j*7+5,none⟩=some (.slice a5 (xs[j]'b).any.length c5)/\w.cell? ⟨g,o+j*7+6,none⟩=some (.slice i (xs[j]'b).parts.length k):=by
 intro j b;obtain⟨A,C,e,hc,p⟩:=Ad.at h;injection e with e1 e2 e3;subst e1;obtain⟨g,o,y,z,s,hx⟩:=p j b;generalize xs[j]=x at*;cases n with
 |zero=>cases hx
 |succ d=>obtain⟨B,up,⟨h0,h1,h2,h3,h4,h5,h6⟩,u,hp⟩:=hx;have q:=u;have r:=hp;obtain⟨a5,c5,rfl,_⟩:=Ad.form u;obtain⟨i,k,rfl,_⟩:=Ad.form hp;exact⟨d,rfl,g,o,y,z,s,a5,c5,i,k,⟨_,_,rfl,q,r⟩,h0,h1,h2,h3,h4,h5,h6⟩
theorem FiV.partsO{x:Fi}(h:FiV n ok w v x):∃a5 c5 c b,v=.agg #[x.kind,x.attr,x.value,x.first,x.last,.slice a5 x.any.length c5,.slice c x.parts.length b]/\Am ok w (.slice a5 x.any.length c5) x.any/\x.parts.length<=b/\Bl n ok w (.slice c x.parts.length b) x.parts:=by obtain⟨d,up,rfl,h1,h2⟩:=h;obtain⟨a5,c5,rfl,_⟩:=Ad.form h1;obtain⟨c,b,rfl,hc⟩:=Ad.form h2;exact⟨a5,c5,c,b,rfl,h1,hc,h2⟩
end
