/- The walk of the document's 'ParsePart'. Conditions: as stated. -/
import Derived.Test.YtgngjfjaelgaeaaGreatDoorZRdk
set_option maxRecDepth 100000
set_option maxHeartbeats 8000000
namespace Go.Proofs.YtgngjfjaelgaeaaGreatDoor
open Go.Proofs.Tryz
variable {ps:List iK} {l:iK} {B g j k:Nat} {T T2:TypeId} {u v:Value} {w w':World}
section
open Go.RowKit
namespace RdS
theorem Aba{p:iK}{a:Pr}(h:CJ p=some a):a.1.length<=17/\a.2.length<=p.length:=by
 unfold CJ at h;split at h
 ·split at h
  ·cases h
  ·obtain⟨v,b,rfl⟩:=bF.1 h;refine⟨?_,?_⟩
   ·rcases RuS.typeM_all (RuS.lower (nameOf p)) with e|e
    ·have:RuS.typeOf (nameOf p)=([],0):=e;rw[this];simp
    ·exact e.2.2.2
   ·have:=readS_len b;rw[bD] at this;show v.length<=_;omega
 ·cases h
theorem Zy(b:List Pr)(a:Pr):CH (b++[a])=Fa a (CH b):=by unfold CH;rw[dG];rfl
theorem Yx(a:Pr):∀(os:List Pr) (n:Nat),n<=os.length->(∀j (h:j<os.length),j<n->Op.bytesLess os[j].1 a.1=true)->(∀h:n<os.length,Op.bytesLess os[n].1 a.1=false)->Fa a os=os.take n++[a]++os.drop n
 |[],n,hn,_,_=>by
  have:n=0:=by simpa using hn
  subst this;rfl
 |p :: os,0,_,_,h2=>by have:=h2 (by simp);unfold Fa;rw[aG (by simpa using this)];rfl
 |p :: os,n+1,hn,h1,h2=>by have h0:Op.bytesLess p.1 a.1=true:=h1 0 (by simp) (by omega);have b:=Yx a os n (by simpa using hn) (λj h c=>h1 (j+1) (by simpa using h) (by omega)) (λh=>h2 (by simpa using h));unfold Fa;rw[aJ h0,b];rfl
end RdS
theorem Ix{ops:Array Oper}{rest:List Oper}{o:Oper}{a:Act}{Q:Exit->Act->World->Prop}(T i:TypeId)(q:prog.underlying i=some (.slice T)){i0:TypeInfo}{z:Value}
  (C:prog.info? T=some i0)(t:i0.zero=some z)(d:i0.size=2)(r:i0.bytes=32)(f:z.cells.size=2)(n:o.guard=none)(s x:Operand)
  (A:o.op=.call { callee:=.builtin .append,args:=#[s,x],argTypes:=#[i,i] })
  (B:Nat)(v:Value)(xs:List RdS.Pr)(y:a.eval s=v)(b:Bg T w B v xs)(l:Addr)(m c:Nat)(hx:a.eval x=.slice (some l) m c)
  (ys:List RdS.Pr)(E:ys.length=m)(hc:∀(j:Nat) (u:Value),(CO ys)[j]?=some u->w.cell? (l.add j)=some u)(F:xs.length+m<=1000000000)(hB:B<=w.heap.size)
  (h:∀e w',Bg T w' B e (xs++ys)->Below B w w'->w.grownBy w' v.ownBlock->wpList prog ops Q rest (a.put o.dst e) w'):wpList prog ops Q (o :: rest) a w:=by
 subst E;refine wpList_append_own w n s x _ A B T i0 z 2 32 q C t d r f (by decide) v xs.length (CO xs) y b l ys.length c (CO ys) hx (by rw[Le])
  hc (λu hu=>?_) (by unfold maxLen;omega) (by omega) hB (λe w' h1 h2 _=>h e w' ?_ ?_ h2)
 ·obtain⟨p,_,hp⟩:=List.mem_flatMap.1 hu;simp only[ay,dX,fZ] at hp;rcases hp with rfl|rfl<;>rfl
 ·unfold Bg;rw[KA,aT];exact h1
 ·exact(Below.refl B w).grown h2 hB (λk hk=>(World.ownsRow.lt b k hk).1)
theorem Bg.mono{a:Nat}{xs:List RdS.Pr}(h:Bg T w B v xs)(hB:a<=B):Bg T w a v xs:=by
 refine⟨h.1,?_⟩;rcases h.2 with h|⟨g,cap,cur,e,b,rest⟩
 ·exact .inl h
 ·exact .inr ⟨g,cap,cur,e,aX hB b,rest⟩
theorem UZ:(prog.info? 173).map (λi=>(i.zero,i.size,i.bytes))=some (some (.agg #[.string ⟨#[]⟩,.string ⟨#[]⟩]),2,32):=by kernel_rfl
theorem Si(os:List RdS.Pr)(j:Nat):CO os=CO (os.take j)++CO (os.drop j):=by rw[<-KA,cK]
theorem Qe{os:List RdS.Pr}{W:World}(h:∀j u,(CO os)[j]?=some u->W.cell? ⟨g,j,none⟩=some u){i:Nat}(b:(CO (os.take j))[i]?=some u):W.cell? ((⟨g,0,none⟩:Addr).add i)=some u:=by
 have a:(⟨g,0,none⟩:Addr).add i=⟨g,i,none⟩:=by unfold Addr.add;split<;>simp_all
 rw[a];refine h i u ?_;rw[Si os j,bN (ak.1 b).1];exact b
theorem Qf{os:List RdS.Pr}{W:World}(e:j<=os.length)(h:∀j u,(CO os)[j]?=some u->W.cell? ⟨g,j,none⟩=some u){c:Addr}(f:j<os.length->c=⟨g,j*2,none⟩){i:Nat}(d:(CO (os.drop j))[i]?=some u):W.cell? (c.add i)=some u:=by
 have b:=(ak.1 d).1;rw[Le,bD] at b;rw[f (by omega)];have a:(⟨g,j*2,none⟩:Addr).add i=⟨g,j*2+i,none⟩:=by unfold Addr.add;split<;>simp_all
 rw[a];refine h (j*2+i) u ?_;have l:(CO (os.take j)).length=j*2:=by rw[Le,ar,cO e]
 rw[Si os j,bH (by omega),l,dY];exact d
theorem Va{os:List RdS.Pr}(h:os.length=k):(os.drop j).length=k-j:=by rw[bD,h]
theorem drop_at(_h:j<k):(⟨g,j*2,none⟩:Addr)=⟨g,j*2,none⟩:=rfl
def Vb(ps:List iK)(w0:World)(out i:Value)(wr:World):Prop:=
 ∃(k:Nat) (a:List RdS.Pr),k<=ps.length/\i=.int .i64 k/\Bg 173 wr w0.heap.size out (RdS.CH a)/\a.length=k/\RdS.CZ (ps.take k)=some a/\(∀q∈a,q.1.length<=17/\q.2.length<=1000000)/\Below w0.heap.size w0 wr
theorem Abb(l:iK)(hl:l.length<=100000)(w:World)(hE:Env w):Calls prog 116 #[l] w (CQ 173 l w):=by
 have C2:=PY l 43 (by omega) (by decide) w;unfold Hv at C2;have H6:=RdS.Jg (sep:=43) l;have D1:=RdS.EO (sep:=43) l;obtain⟨ps,C3⟩:∃ps,RdS.Ap 43 l=ps:=⟨_,rfl⟩
 rw[C3] at C2 H6 D1;have B9:=hZ9 C3;have G6:=hZ9 D1;clear C3 D1;go_enter func116,ntmps116;go_wp2_with fail;refine C2.mono ?_;rintro e w0 ⟨v,rfl,hv,hb0⟩;obtain⟨a,c,rfl,hc,B5⟩:=hv;generalize hn:ps.length=n at*;have HN:=hZ9 hn;have I1:=hE.below hb0;by_cases I0:3<n
 ·have h3:(3:Int)<(n:Int):=by omega
  have C1:Hid (RdS.Bh l=([],2)):=hZ9 (by
   unfold RdS.Bh;rw[B9.out];cases G:RdS.CZ ps with
   |none=>rfl
   |some Q=>
    simp only;rw[aG];unfold RdS.formedS;rw[RdS.JC,RdS.QK G,HN.out,aB (show ¬n<=3 by omega)];simp)
  clear hn;go_wp2_with fail;go_ret2;exact CQ.none C1.out hb0
 have h3:decide ((3:Int)<(n:Int))=false:=aB (by omega);rcases B5 with rfl|⟨g,o,rfl,hg,hcell⟩
 ·obtain⟨p0,I2,F8⟩:=RdS.CS 43 l;rw[B9.out] at F8;cases F8
 have B3:=hZ9 hcell;clear hn hcell C2;go_wp2_with fail;go_loopw [4,18] (λout i wr=>Vb ps w0 out i wr) (λ_ i _=>n-(intOf i).toNat)
 case atStart=>exact⟨0,[],aR _,rfl,Bg.empty _ _ _,rfl,rfl,by simp,Below.refl _ _⟩
 case round=>
  obtain⟨k,Q,hk,rfl,C,F5,G,B7,hb⟩:=hrel;rw[HN.out] at hk;have hsz:=hb.size;have x:Below w.heap.size w wr:=hb0.trans (hb.mono hb0.size);by_cases G2:k<n
  ·have F:k<ps.length:=by rw[HN.out];exact G2
   have H4:wr.cell? ⟨g,o+k,none⟩=some (Ac ps[k]):=(hb.cell (p:=⟨g,o+k,none⟩) hg).trans (B3.out k _ (aK F));have H9:=G6.out ps[k] (aZ F);have C1:=hZ9 (QS B9.out F);have B0:=hZ9 (λ(a:RdS.Pr)=>OQ F G (a:=a));have E8:=hZ9 B7;have A5:=hZ9 (λ(a:RdS.Pr)=>RdS.Aba (p:=ps[k]) (a:=a));generalize ps[k]=p at*;unfold Ac at H4;clear G F B7;have D4:=λw=>Ac0 p (by omega) w;unfold YX at D4;have A6:=hZ9 C;clear C;go_wp2_with fail;refine(D4 _).mono ?_;rintro e w1 ⟨t,v,b,rfl,B8,C4,B6⟩;cases b with
   |false=>have G5:=hZ9 (C1.out (C4 rfl));clear B8 C4;go_wp2_with fail;go_ret2;exact CQ.none G5.out (((x.trans (B6.mono x.size)).alloc (aX x.size B6.size) _))
   |true=>
    have F7:=hZ9 (B0.out (t,v) (B8 rfl));have F0:=hZ9 (A5.out (t,v) (B8 rfl));clear B8 C4;have A0:=A6.out.call B6;have A9:Below w0.heap.size w0 w1:=hb.trans (B6.mono hsz);have C0:=Whole.made w1 173 #[t,v];have A4:Below w1.heap.size w1 (w1.alloc (.cells #[t,v] 173)):=Af w1 _;go_wp2_with fail;generalize H8:(w1.alloc (.cells #[t,v] 173))=w2 at*;clear H8;have K:=Bg.call A0 A4;have N:Below w0.heap.size w0 w2:=A9.trans (A4.mono A9.size);have hlen:(RdS.CH Q).length=k:=by rw[RdS.JC,F5]
    have A3:w2.cell? ⟨w1.heap.size,0,none⟩=some (.string ⟨t.toArray⟩):=C0.cell 0;have Y:w2.cell? ⟨w1.heap.size,1,none⟩=some (.string ⟨v.toArray⟩):=C0.cell 1;have F2:w1.heap.size<w2.heap.size:=C0.lt;have Z:=N.size;have A7:=hZ9 (λn h0 h1 h2=>RdS.Yx (t,v) (RdS.CH Q) n h0 h1 h2);have E7:=hZ9 (RdS.Zy Q (t,v));have W:Hid (∀(B:Nat) (v' i:Value) (w':World),Bg 173 w' B v' (RdS.Fa (t,v) (RdS.CH Q))->w0.heap.size<=B->i=.int .i64 ((k+1:Nat):Int)->Below w0.heap.size w0 w'->Vb ps w0 v' i w'):=hZ9 (λB v' i w' h1 h2 P h3=>by
     refine⟨k+1,Q++[(t,v)],by rw[HN.out];omega,P,?_,by simp[F5],F7.out,?_,h3⟩
     ·rw[E7.out];exact Bg.mono h1 h2
     ·intro q G;rcases bB.1 G with G|G
      ·exact E8.out q G
      ·have:=aj.1 G;subst this;have h:=F0.out;exact⟨h.1,aX h.2 (by omega)⟩)
    clear A0 C0 F7 B0 C1 A5 F0 E7 E8 A6 D4;generalize RdS.CH Q=os at*;obtain⟨i0,P,H,J,L⟩:=info_parts UZ;have HI:=hZ9 P;clear P;have E:=K;rcases E.2 with⟨rfl,F1⟩|⟨g2,cap,cur,rfl,I3,E9,E0,_⟩
    ·have H1:os=[]:=aY F1;subst H1;have G4:=hZ9 (A7.out 0 (aA _) (λj h _=>by simp at h) (λh=>by simp at h));clear K E F1;refine wp_loop_rounds 1 ?_;rw[rounds_succ];go_wp2_with fail
     go_quiet (fail)
     generalize F4:w2.drewN nq=w3 at*;have d:Below w2.heap.size w2 w3:=by rw[<-F4];exact below_drewN w2 nq
     have E2:w3.cell? ⟨w1.heap.size,0,none⟩=some (.string ⟨t.toArray⟩):=Ab A3 d;have D9:w3.cell? ⟨w1.heap.size,1,none⟩=some (.string ⟨v.toArray⟩):=Ab Y d;have s:Below w0.heap.size w0 w3:=N.trans (d.mono Z);have r:=s.size;clear F4 A3 Y d;go_wp2_with (at_builtin;first|refine wpList_append_own_none (by rfl) _ _ 124 (by rfl) w3.heap.size 173 i0 2 underlying124 HI.out _ 0 [] (by rfl) (World.ownsRow_nil _ _ _ 2) (by rfl) ?_|refine Jm 173 124 underlying124 HI.out H J L (by rfl) (by rfl) _ _ (by rfl) w3.heap.size _ [] (by rfl) (Bg.empty _ _ _) w3.heap.size (by rfl) (t,v) ?e1 ?e2 ?e3 ?e4 ?_)
     case e1=>simp[go_sem,Ac]
     case e2=>simp[go_sem,Ac]
     case e3=>simp
     case e4=>simp
     intro v' w4 f y;go_wp2_with (at_builtin;refine wpList_append_own_none (by rfl) _ _ 124 (by rfl) w3.heap.size 173 i0 2 underlying124 HI.out _ 1 _ (by rfl) f (by rfl) ?_)
     go_wp2_with fail;go_roundw
     case rel=>exact W.out w3.heap.size _ _ _ (by rw[G4.out];exact f) r (by go_num) ((s.alloc r _).trans (y.mono r))
     case measure=>simp[intOf];omega
    ·have F9:g2<w2.heap.size:=(ah.1 E9).1;have O:∀j u,(CO os)[j]?=some u->w2.cell? ⟨g2,j,none⟩=some u:=λj u S=>by
      have:=World.ownsRow.cells E (g:=g2) rfl j u S;have E5:(⟨g2,0,none⟩:Addr).add j=⟨g2,j,none⟩:=by unfold Addr.add;split<;>simp_all
      rwa [E5] at this
     have HC:=hZ9 O;rw[hlen] at E0;clear K E E9 O;simp only[hlen]
     go_loopg [9] k (λg1 vn G7=>∃(j q:Nat),vn=.int .i64 j/\j<=k/\k-j<=g1/\Hid (∀i (h:i<os.length),i<j->Op.bytesLess os[i].1 t=true)/\G7=w2.drewN q)
     case atStart=>exact⟨0,0,rfl,aR _,by omega,hZ9 (λi h P=>by omega),rfl⟩
     case round=>
      obtain⟨j,q,rfl,H0,I5,HL,rfl⟩:=hrel;have E6:Below w2.heap.size w2 (w2.drewN q):=below_drewN w2 q;have I4:Hid (∀j u,(CO os)[j]?=some u->(w2.drewN q).cell? ⟨g2,j,none⟩=some u):=hZ9 (λj u S=>HC.out j u S);have E2:(w2.drewN q).cell? ⟨w1.heap.size,0,none⟩=some (.string ⟨t.toArray⟩):=A3;have D9:(w2.drewN q).cell? ⟨w1.heap.size,1,none⟩=some (.string ⟨v.toArray⟩):=Y;have X:Hid ((∀h:j<os.length,Op.bytesLess os[j].1 t=false)->RdS.Fa (t,v) os=os.take j++[(t,v)]++os.drop j):=hZ9 (λh=>A7.out j (by rw[hlen];exact H0) HL.out h);by_cases D7:j<k
      ·have G3:j<os.length:=by rw[hlen];exact D7
       have C9:=HC.out (j*2) (Ac os[j].1) (Ji os j os[j] (aK G3)).1;have H3:(j:Int)<(k:Int):=by omega
       unfold Ac at C9;cases B1:Op.bytesLess os[j].1 t with
       |true=>
        have D8:=hZ9 B1;generalize F6:os[j].1=pj at*;have H2:=hZ9 F6;clear F6;go_wp2_with fail
        go_quiet (fail)
        go_wp2_with fail
        go_roundg (k-(j+1))
        case measure=>omega
        case rel=>exact⟨j+1,q+nq,by go_num,by omega,aA _,hZ9 (λi h P=>by
         rcases eI i j with h1|h1
         ·exact HL.out i h h1
         ·have:i=j:=by omega
          subst this;rw[H2.out];exact D8.out),rfl⟩
       |false=>
        have C8:Hid (∀h:j<os.length,Op.bytesLess os[j].1 t=false):=hZ9 (λ_=>B1);generalize os[j].1=pj at*;go_wp2_with fail
        go_quiet (fail)
        have d:Below w2.heap.size w2 ((w2.drewN q).drewN nq):=Aa E6 (below_drewN _ nq);have A2:Hid (∀j u,(CO os)[j]?=some u->((w2.drewN q).drewN nq).cell? ⟨g2,j,none⟩=some u):=hZ9 (λj u S=>HC.out j u S);have D3:((w2.drewN q).drewN nq).cell? ⟨w1.heap.size,0,none⟩=some (.string ⟨t.toArray⟩):=A3;have hx1:((w2.drewN q).drewN nq).cell? ⟨w1.heap.size,1,none⟩=some (.string ⟨v.toArray⟩):=Y;generalize (w2.drewN q).drewN nq=w3 at*;have H5:w1.heap.size<w3.heap.size:=ae F2 d.size;have C7:g2<w3.heap.size:=ae F9 d.size;have s:Below w0.heap.size w0 w3:=N.trans (d.mono Z);have r:=s.size;have M:=hZ9 (X.out C8.out);go_wp2_with (at_builtin;refine Ix 173 124 underlying124 HI.out H J L (by rfl) (by rfl) _ _ (by rfl) w3.heap.size _ [] (by rfl) (Bg.empty _ _ _) ⟨g2,0,none⟩ j _ (by rfl) (os.take j) (by rw[ar];omega) (λi u P=>Qe A2.out P) (by simp;omega) (aA _) ?_)
        intro v4 w4 f y E3;obtain⟨a4,c4,rfl⟩:=f.form;have G8:w4.cell? ⟨w1.heap.size,0,none⟩=some (.string ⟨t.toArray⟩):=Ab D3 y;have G9:w4.cell? ⟨w1.heap.size,1,none⟩=some (.string ⟨v.toArray⟩):=Ab hx1 y;have A1:=y.size;go_wp2_with (at_builtin;refine Jm 173 124 underlying124 HI.out H J L (by rfl) (by rfl) _ _ (by rfl) w3.heap.size _ (os.take j) (by rfl) (f.alloc _) w4.heap.size (by rfl) (t,v) (by simp[go_sem,Ac]) (by simp[go_sem,Ac]) (by rw[ar];omega) (by simp;omega) ?_)
        intro v5 w5 z C5;obtain⟨a5,c5,rfl⟩:=z.form;have A:Below w3.heap.size w3 w5:=(y.alloc A1 _).trans C5;have E1:=A.size;have C6:Hid (∀j u,(CO os)[j]?=some u->w5.cell? ⟨g2,j,none⟩=some u):=hZ9 (λj u S=>(A.cell (p:=⟨g2,j,none⟩) C7).trans (A2.out j u S));have U:j<=os.length:=by omega
        have B4:(os.take j).length+1<=1000:=by rw[ar];omega
        go_wp2_with (at_builtin;refine Ix 173 124 underlying124 HI.out H J L (by rfl) (by rfl) _ _ (by rfl) w3.heap.size _ (os.take j++[(t,v)]) (by rfl) z _ _ _ (by rfl) (os.drop j) (Va hlen) (λi u P=>Qf U C6.out (λh=>drop_at (hlen▸h)) P) ?d3 ?d4 ?_)
        case d3=>rw[aT,bE];omega
        case d4=>omega
        intro v6 w6 I D0 E4;go_wp2_with fail;go_roundw
        case rel=>exact W.out w3.heap.size _ _ _ (by rw[M.out,bL];exact I) r (by go_num) (s.trans ((A.trans D0).mono r))
        case measure=>simp[intOf];omega
      ·have H3:¬(j:Int)<(k:Int):=by omega
       have C8:Hid (∀h:j<os.length,Op.bytesLess os[j].1 t=false):=hZ9 (λh=>by rw[hlen] at h;omega);rcases eI j cap with C9|C9
       all_goals
        go_wp2_with fail
        go_quiet (fail)
        have d:Below w2.heap.size w2 ((w2.drewN q).drewN nq):=Aa E6 (below_drewN _ nq);have A2:Hid (∀j u,(CO os)[j]?=some u->((w2.drewN q).drewN nq).cell? ⟨g2,j,none⟩=some u):=hZ9 (λj u S=>HC.out j u S);have D3:((w2.drewN q).drewN nq).cell? ⟨w1.heap.size,0,none⟩=some (.string ⟨t.toArray⟩):=A3;have hx1:((w2.drewN q).drewN nq).cell? ⟨w1.heap.size,1,none⟩=some (.string ⟨v.toArray⟩):=Y;generalize (w2.drewN q).drewN nq=w3 at*;have H5:w1.heap.size<w3.heap.size:=ae F2 d.size;have C7:g2<w3.heap.size:=ae F9 d.size;have s:Below w0.heap.size w0 w3:=N.trans (d.mono Z);have r:=s.size;have M:=hZ9 (X.out C8.out);go_wp2_with (at_builtin;refine Ix 173 124 underlying124 HI.out H J L (by rfl) (by rfl) _ _ (by rfl) w3.heap.size _ [] (by rfl) (Bg.empty _ _ _) ⟨g2,0,none⟩ j _ (by rfl) (os.take j) (by rw[ar];omega) (λi u P=>Qe A2.out P) (by simp;omega) (aA _) ?_)
        intro v4 w4 f y E3;obtain⟨a4,c4,rfl⟩:=f.form;have G8:w4.cell? ⟨w1.heap.size,0,none⟩=some (.string ⟨t.toArray⟩):=Ab D3 y;have G9:w4.cell? ⟨w1.heap.size,1,none⟩=some (.string ⟨v.toArray⟩):=Ab hx1 y;have A1:=y.size;go_wp2_with (at_builtin;refine Jm 173 124 underlying124 HI.out H J L (by rfl) (by rfl) _ _ (by rfl) w3.heap.size _ (os.take j) (by rfl) (f.alloc _) w4.heap.size (by rfl) (t,v) (by simp[go_sem,Ac]) (by simp[go_sem,Ac]) (by rw[ar];omega) (by simp;omega) ?_)
        intro v5 w5 z C5;obtain⟨a5,c5,rfl⟩:=z.form;have A:Below w3.heap.size w3 w5:=(y.alloc A1 _).trans C5;have E1:=A.size;have C6:Hid (∀j u,(CO os)[j]?=some u->w5.cell? ⟨g2,j,none⟩=some u):=hZ9 (λj u S=>(A.cell (p:=⟨g2,j,none⟩) C7).trans (A2.out j u S));have U:j<=os.length:=by omega
        have D6:¬j<os.length:=by omega
        have B4:(os.take j).length+1<=1000:=by rw[ar];omega
        go_wp2_with (at_builtin;refine Ix 173 124 underlying124 HI.out H J L (by rfl) (by rfl) _ _ (by rfl) w3.heap.size _ (os.take j++[(t,v)]) (by rfl) z _ _ _ (by rfl) (os.drop j) (Va hlen) (λi u P=>Qf U C6.out (λh=>absurd h D6) P) ?d3 ?d4 ?_)
        case d3=>rw[aT,bE];omega
        case d4=>omega
        intro v6 w6 I D0 E4;go_wp2_with fail;go_roundw
        case rel=>exact W.out w3.heap.size _ _ _ (by rw[M.out,bL];exact I) r (by go_num) (s.trans ((A.trans D0).mono r))
        case measure=>simp[intOf];omega
  ·have G0:k=n:=by omega
   subst G0;have B2:ps.take k=ps:=af (by rw[HN.out];omega);rw[B2] at G;have F3:Hid (RdS.Bh l=if RdS.formedS (RdS.CH Q) then(RdS.CH Q,0) else([],2)):=hZ9 (by unfold RdS.Bh;rw[B9.out,G]);have D5:=C.avas;have A8:Fb (RdS.CH Q):=λq G=>by have:=B7 q ((RdS.LJ Q).mem_iff.1 G);omega
   have V:=IQ _ _ wr D5 A8 (hE.below x);unfold JX at V;obtain⟨a,cp,rfl⟩:=C.form;have G1:=hZ9 (λm=>Tag.own C m);have H7:=hZ9 D5;clear B2 G C B7 A8 D5;cases R:RdS.formedS (RdS.CH Q) with
   |true=>
    have D2:=hZ9 R;rw[R] at V;clear R;go_wp2_with fail;refine V.mono ?_;rintro e w2 ⟨rfl,d⟩;go_wp2_with fail;go_ret2;have e1:RdS.Bh l=(RdS.CH Q,0):=by rw[F3.out,aJ D2.out]
    exact⟨_,by rw[e1];rfl,by rw[e1];exact H7.out.call d (aA _),x.trans (d.mono x.size),(G1.out _).call d⟩
   |false=>have D2:=hZ9 R;rw[R] at V;clear R;go_wp2_with fail;refine V.mono ?_;rintro e w2 ⟨rfl,d⟩;go_wp2_with fail;go_ret2;exact CQ.none (by rw[F3.out,aG (by rw[D2.out];decide)]) (x.trans (d.mono x.size))
end
section
open Go.RowKit
def Fg(w:World)(v:Value)(ls:List (List RdS.Pr)):Prop:=
 ∃(a:Option Addr) (c:Nat) (b:List Value),v=.slice a ls.length c/\ls.length<=c/\b.length=ls.length/\(∀(i:Nat) (u:Value) (l:List RdS.Pr),b[i]?=some u->ls[i]?=some l->AY w u l)/\
  (ls=[]\/∃g o,a=some ⟨g,o,none⟩/\g<w.heap.size/\∀(i:Nat) (u:Value),b[i]?=some u->w.cell? ⟨g,o+i,none⟩=some u)
theorem Fg.call{ls:List (List RdS.Pr)}(h:Fg w v ls)(hb:Below B w w')(hB:w.heap.size<=B):Fg w' v ls:=by
 obtain⟨a,c,f,rfl,hc,hu,b,h⟩:=h;refine⟨a,c,f,rfl,hc,hu,λi u l h1 h2=>(b i u l h1 h2).call hb hB,?_⟩;rcases h with h|⟨g,o,rfl,d,h⟩
 ·exact .inl h
 ·exact .inr ⟨g,o,rfl,ae d hb.size,λi u e=>(hb.cell (p:=⟨g,o+i,none⟩) (ae d hB)).trans (h i u e)⟩
theorem Fg.empty(w:World):Fg w (.slice none 0 0) []:=⟨none,0,[],rfl,aA _,rfl,λi u l h=>(by simp at h),.inl rfl⟩
theorem Fg.at{ls:List (List RdS.Pr)}(h:Fg w v ls):∃a c,v=.slice a ls.length c/\ls.length<=c/\(ls=[]\/∃g o,a=some ⟨g,o,none⟩/\g<w.heap.size/\∀(i:Nat) (l:List RdS.Pr),ls[i]?=some l->∃u,w.cell? ⟨g,o+i,none⟩=some u/\AY w u l):=by
 obtain⟨a,c,e,rfl,hc,hu,d,h⟩:=h;refine⟨a,c,rfl,hc,?_⟩;rcases h with h|⟨g,o,rfl,m,h⟩
 ·exact .inl h
 ·refine .inr ⟨g,o,rfl,m,λi l f=>?_⟩;have b:i<e.length:=by rw[hu];exact(ak.1 f).1
  exact⟨e[i],h i _ (aK b),d i _ l (aK b) f⟩
def Ej(T T2:TypeId)(w:World)(B:Nat)(v:Value)(ls:List (List RdS.Pr)):Prop:=
 ∃a:List Value,w.ownsRow B T 1 v ls.length a/\a.length=ls.length/\∀(i:Nat) (u:Value) (l:List RdS.Pr),a[i]?=some u->ls[i]?=some l->AY w u l/\Tag T2 w u
theorem Ej.empty(T T2:TypeId)(w:World)(B:Nat):Ej T T2 w B (.slice none 0 0) []:=⟨[],World.ownsRow_nil w B _ 1,rfl,λi u l h=>(by simp at h)⟩
theorem Ej.form{ls:List (List RdS.Pr)}(h:Ej T T2 w B v ls):∃a c,v=.slice a ls.length c:=by
 obtain⟨d,h,_⟩:=h;rcases h.2 with⟨rfl,b⟩|⟨g,cap,cur,rfl,_⟩
 ·exact⟨_,_,by rw[b]⟩
 ·exact⟨_,_,rfl⟩
theorem Ej.call{ls:List (List RdS.Pr)}(h:Ej T T2 w B v ls)(hb:Below w.heap.size w w'):Ej T T2 w' B v ls:=by obtain⟨c,h1,h2,h3⟩:=h;exact⟨c,World.ownsRow.kept h1 (Bc hb) (by cases v.ownBlock<;>simp),h2,λi u l a b=>⟨(h3 i u l a b).1.call hb (aA _),(h3 i u l a b).2.call hb⟩⟩
theorem Ej.avss{ls:List (List RdS.Pr)}(h:Ej T T2 w B v ls):Fg w v ls:=by
 obtain⟨e,h1,h2,h3⟩:=h;rcases h1.2 with⟨rfl,d⟩|⟨g,cap,cur,rfl,o,f,d,p,hsz,n⟩
 ·refine⟨none,0,e,by rw[d],by omega,h2,λi u l a b=>(h3 i u l a b).1,.inl (aY d)⟩
 ·refine⟨some ⟨g,0,none⟩,cap,e,rfl,d,h2,λi u l a b=>(h3 i u l a b).1,.inr ⟨g,0,rfl,(ah.1 f).1,λi u m=>?_⟩⟩;have:=World.ownsRow.cells h1 (g:=g) rfl i u m;have c:(⟨g,0,none⟩:Addr).add i=⟨g,0+i,none⟩:=by unfold Addr.add;split<;>simp_all
  rwa [c] at this
theorem AY.setHdr{xs:List RdS.Pr}(h:AY w v xs){b:Nat}{a0:Option Addr}{n0 c0:Nat}(i:Whole w b T #[.slice a0 n0 c0])(u:Value):AY (w.setCell ⟨b,0,none⟩ u) v xs:=by
 obtain⟨a,c,rfl,hc,h⟩:=h;refine⟨a,c,rfl,hc,?_⟩;rcases h with h|⟨g,o,rfl,l,h⟩
 ·exact .inl h
 ·cases xs with
  |nil=>exact .inl rfl
  |cons p xs=>
   have d:g≠b:=by
    intro e;subst e;have h1:=(h 0 p rfl).1;rw[i.cell] at h1;cases o with
    |zero=>simp[Ac] at h1
    |succ o=>simp at h1
   refine .inr ⟨g,o,rfl,by simpa[World.setCell] using l,λj q f=>?_⟩;have hblk:=Below.heap_setCell w ⟨b,0,none⟩ u g d;exact⟨(World.cell?_of_block (a:=⟨g,o+j*2,none⟩) hblk).trans (h j q f).1,(World.cell?_of_block (a:=⟨g,o+j*2+1,none⟩) hblk).trans (h j q f).2⟩
theorem Tag.setCell(h:Tag T w v)(a:Addr)(u:Value):Tag T (w.setCell a u) v:=λg b=>by
 obtain⟨cs,fz,e⟩:=h g b;by_cases hb:g=a.block
 ·subst hb;show ∃cs fz,(w.heap.modify a.block _)[a.block]?=_
  rw[dK,aJ rfl,e];exact⟨_,_,rfl⟩
 ·exact⟨cs,fz,(Below.heap_setCell w a u g hb).trans e⟩
theorem Ej.setHdr{Ts:TypeId}{ls:List (List RdS.Pr)}(h:Ej Ts T2 w B v ls){b:Nat}{a0:Option Addr}{n0 c0:Nat}(d:Whole w b T #[.slice a0 n0 c0])(hb:b<B)(u:Value):Ej Ts T2 (w.setCell ⟨b,0,none⟩ u) B v ls:=by obtain⟨e,h1,h2,h3⟩:=h;exact⟨e,ownsRow_setCell_below h1 (a:=⟨b,0,none⟩) hb u,h2,λi x l a c=>⟨(h3 i x l a c).1.setHdr d u,(h3 i x l a c).2.setCell _ u⟩⟩
theorem AY.grownTag{l:List RdS.Pr}(h:AY w u l)(m:Tag T2 w u){row:Option Nat}(n:w.grownBy w' row)(p:∀k,row=some k->∃cs fz,w.heap[k]?=some (.cells cs T fz))(d:T≠T2):AY w' u l/\Tag T2 w' u:=by
 have hblk:∀g,u.ownBlock=some g->w'.heap[g]?=w.heap[g]?:=λg hu=>by obtain⟨cs,fz,e⟩:=m g hu;refine n.block g (ah.1 e).1 (λhc=>?_);obtain⟨s,r,f⟩:=p g hc.symm;rw[e] at f;cases f;exact d rfl
 refine⟨?_,λg hu=>by
  obtain⟨cs,fz,e⟩:=m g hu;exact⟨cs,fz,(hblk g hu).trans e⟩⟩
 obtain⟨a,c,rfl,hc,h⟩:=h;refine⟨a,c,rfl,hc,?_⟩;rcases h with h|⟨g,o,rfl,b,h⟩
 ·exact .inl h
 ·have e:=hblk g rfl;exact .inr ⟨g,o,rfl,ae b n.size,λj q i=>⟨(World.cell?_of_block (a:=⟨g,o+j*2,none⟩) e).trans (h j q i).1,(World.cell?_of_block (a:=⟨g,o+j*2+1,none⟩) e).trans (h j q i).2⟩⟩
theorem Vd{ops:Array Oper}{rest:List Oper}{o:Oper}{a:Act}{Q:Exit->Act->World->Prop}(T T2 K:TypeId)(q:T≠T2)(M:prog.underlying K=some (.slice T)){i0:TypeInfo}
  (S:prog.info? T=some i0)(N:i0.zero=some (.slice none 0 0))(p:i0.size=1)(G:i0.bytes=24)(F:o.guard=none)(s x:Operand)
  (P:o.op=.call { callee:=.builtin .append,args:=#[s,x],argTypes:=#[K,K] })
  (B:Nat)(v:Value)(ls:List (List RdS.Pr))(R:a.eval s=v)(b:Ej T T2 w B v ls)(g:Nat)(hx:a.eval x=.slice (some ⟨g,0,none⟩) 1 1)
  (u0:Value)(E:u0.oneCell'=true)(l:List RdS.Pr)(J:w.cell? ⟨g,0,none⟩=some u0)(H:AY w u0 l)(L:Tag T2 w u0)(V:ls.length<=1000000000)(hB:B<=w.heap.size)
  (h:∀t w',Ej T T2 w' B t (ls++[l])->Below B w w'->w.grownBy w' v.ownBlock->wpList prog ops Q rest (a.put o.dst t) w'):wpList prog ops Q (o :: rest) a w:=by
 obtain⟨y,b,m,r⟩:=b;have f:∀k,v.ownBlock=some k->∃cs fz,w.heap[k]?=some (.cells cs T fz):=λk hk=>by
  rcases b.2 with⟨e,_⟩|⟨U,cap,cur,e,_,O,_⟩
  ·rw[e] at hk;cases hk
  ·rw[e] at hk;cases hk;exact⟨_,_,O⟩
 refine wpList_append_own w F s x _ P B T i0 (.slice none 0 0) 1 24 M S N p G rfl (by decide) v ls.length y R b ⟨g,0,none⟩ 1 1 [u0] hx rfl
  (λj u z=>?_) (λu hu=>?_) (by unfold maxLen;omega) (by omega) hB (λt w' h1 h2 _=>h t w' ?_ ?_ h2)
 ·have I:j=0:=by
   rcases bU j with h|h
   ·exact h
   ·rw[dE (by simp;omega)] at z;cases z
  subst I;have n:(⟨g,0,none⟩:Addr).add 0=⟨g,0,none⟩:=by unfold Addr.add;split<;>simp_all
  rw[n,J]
  simpa using z
 ·rw[aj] at hu;subst hu;exact E
 ·refine⟨y++[u0],by rw[aT];exact h1,by simp[m],λi u l2 c d=>?_⟩;by_cases C:i<y.length
  ·rw[bN C] at c;rw[bN (by omega)] at d;exact(r i u l2 c d).1.grownTag (r i u l2 c d).2 h2 f q
  ·have A:i=y.length:=by
    have:=(ak.1 c).1;simp at this;omega
   subst A;rw[bH (aA _)] at c;rw[m,bH (aA _)] at d;simp at c d;subst c;subst d;exact H.grownTag L h2 f q
 ·exact(Below.refl B w).grown h2 hB (λk hk=>(World.ownsRow.lt b k hk).1)
end
section
open Go.RowKit
namespace DnS
open RdS
theorem Ov:∀(ps:List iK) (p:iK),partsS (ps++[p])=(partsS ps).bind λl=>if(Bh p).2=0 then some (l++[(Bh p).1]) else none
 |[],p=>by
  show partsS [p]=_
  unfold partsS;split<;>simp[partsS, *]
 |q :: ps,p=>by
  rw[List.cons_append];unfold partsS;rw[Ov ps p];by_cases a:(Bh q).2=0
  ·rw[aJ a,aJ a];cases partsS ps with
   |none=>rfl
   |some l=>by_cases hp:(Bh p).2=0<;>simp[hp]
  ·rw[aG a,aG a];rfl
theorem MO:∀{ps:List iK} {p:iK},p∈ps->(Bh p).2≠0->partsS ps=none
 |q :: ps,p,h,hp=>by
  unfold partsS;rcases ay.1 h with rfl|h
  ·rw[aG hp]
  ·split
   ·rw[MO h hp];rfl
   ·rfl
theorem partsS_step(h:k<ps.length){ls:List (List Pr)}(a:partsS (ps.take k)=some ls)(h0:(Bh ps[k]).2=0):partsS (ps.take (k+1))=some (ls++[(Bh ps[k]).1]):=by rw[aW h,Ov,a];simp[h0]
end DnS
def GV(l:iK)(w:World)(e:Ending)(w':World):Prop:=∃v,e=.returned (.tuple #[v,.int .i64 (DnS.Bv l).2])/\Fg w' v (DnS.Bv l).1/\Below w.heap.size w w'
theorem GV.none{l:iK}{w w':World}{e:Int}(h:DnS.Bv l=([],e))(hb:Below w.heap.size w w'):GV l w (.returned (.tuple #[.slice none 0 0,e])) w':=by
 refine⟨.slice Option.none 0 0,?_,?_,hb⟩
 ·rw[h]
 ·rw[h];exact Fg.empty w'
def Abc(ps:List iK)(w0:World)(out i:Value)(wr:World):Prop:=
 ∃(k:Nat) (ls:List (List RdS.Pr)),k<=ps.length/\i=.int .i64 k/\Ej 124 173 wr w0.heap.size out ls/\ls.length=k/\DnS.partsS (ps.take k)=some ls/\Below w0.heap.size w0 wr
theorem Abd:(prog.info? 124).map (λi=>(i.zero,i.size,i.bytes))=some (some (.slice none 0 0),1,24):=by kernel_rfl
theorem Sj(h1:¬1000<l.length)(h0:l≠[])(a:RdS.Ap 44 l=ps)(b:12<ps.length):DnS.Bv l=([],4):=by unfold DnS.Bv;rw[aG h1,aG h0,a,aJ b]
theorem Yy(h1:¬1000<l.length)(h0:l≠[])(a:RdS.Ap 44 l=ps)(b:¬12<ps.length)(h:DnS.partsS ps=none):DnS.Bv l=([],2):=by unfold DnS.Bv;rw[aG h1,aG h0,a,aG b,h]
theorem Ve(h1:¬1000<l.length)(h0:l≠[])(a:RdS.Ap 44 l=ps)(b:¬12<ps.length){ls:List (List RdS.Pr)}(h:DnS.partsS ps=some ls):DnS.Bv l=(ls,0):=by unfold DnS.Bv;rw[aG h1,aG h0,a,aG b,h]
theorem Abe(l:iK)(hl:l.length<=1000000)(w:World)(hE:Env w):Calls prog 76 #[l] w (GV l w):=by
 by_cases h1:1000<l.length
 ·have hz:(1000:Int)<(l.length:Int):=by omega
  have I:Hid (DnS.Bv l=([],4)):=hZ9 (by unfold DnS.Bv;rw[aJ h1]);clear h1;go_enter func76,ntmps76;go_wp2_with fail;go_ret2;exact GV.none I.out (Below.refl _ _)
 have hz:decide ((1000:Int)<(l.length:Int))=false:=aB (by omega);by_cases h0:l=[]
 ·subst h0;have I:Hid (DnS.Bv []=([],0)):=hZ9 rfl;go_enter func76,ntmps76;go_wp2_with fail;go_ret2;exact GV.none I.out (Below.refl _ _)
 have B8:l.isEmpty=false:=by simpa using h0
 have G:=PY l 44 (by omega) (by decide) w;unfold Hv at G;have N:=RdS.EO (sep:=44) l;obtain⟨ps,x⟩:∃ps,RdS.Ap 44 l=ps:=⟨_,rfl⟩
 rw[x] at G N;have B2:l.length<=1000:=by omega
 have d:=hZ9 (Sj h1 h0 x);have f:=hZ9 (Yy h1 h0 x);have m:=hZ9 (λU ls h=>Ve h1 h0 x U (ls:=ls) h);have B0:=hZ9 N;have A0:Hid (ps≠[]):=hZ9 (by
  obtain⟨p0,B7,A8⟩:=RdS.CS 44 l;rw[<-x,A8];simp)
 clear x N h0 h1;go_enter func76,ntmps76;go_wp2_with fail;refine G.mono ?_;rintro e w0 ⟨v,rfl,hv,hb0⟩;obtain⟨a,c,rfl,hc,Q⟩:=hv;generalize U:ps.length=n at*;have I:=hZ9 U;have B6:=hE.below hb0;by_cases A:12<n
 ·have h3:(12:Int)<(n:Int):=by omega
  have y:=hZ9 (d.out A);clear U d f m;go_wp2_with fail;go_ret2;exact GV.none y.out hb0
 have h3:decide ((12:Int)<(n:Int))=false:=aB (by omega);have F:=hZ9 (f.out A);have C:=hZ9 (m.out A);rcases Q with rfl|⟨g,o,rfl,hg,hcell⟩
 ·exact absurd rfl A0.out
 have K:=hZ9 hcell;clear U hcell G d f m;go_wp2_with fail;go_loopw [5,21] (λout i wr=>Abc ps w0 out i wr) (λ_ i _=>n-(intOf i).toNat)
 case atStart=>exact⟨0,[],aR _,rfl,Ej.empty _ _ _ _,rfl,rfl,Below.refl _ _⟩
 case round=>
  obtain⟨k,ls,hk,rfl,q,A5,S,hb⟩:=hrel;rw[I.out] at hk;have hsz:=hb.size;have r:Below w.heap.size w wr:=hb0.trans (hb.mono hb0.size);have B1:=hE.below r;by_cases Z:k<n
  ·have b:k<ps.length:=by rw[I.out];exact Z
   have A2:wr.cell? ⟨g,o+k,none⟩=some (Ac ps[k]):=(hb.cell (p:=⟨g,o+k,none⟩) hg).trans (K.out k _ (aK b));have B5:=B0.out ps[k] (aZ b);have y:=hZ9 (λh=>F.out (DnS.MO (aZ b) h));have t:=hZ9 (DnS.partsS_step b S);generalize ps[k]=p at*;unfold Ac at A2;clear S b;have E:=Abb p (by omega) wr B1;unfold CQ at E;have H:=RdS.Tc (s:=p);generalize RdS.Bh p=P at*;obtain⟨xs,e0⟩:=P;simp only at E H y t;have R:=hZ9 q;clear q;by_cases W:e0=0
   ·subst W;have A4:=hZ9 (t.out rfl);clear t y H;obtain⟨i0,hi,Y,A1,A3⟩:=info_parts Abd;have HI:=hZ9 hi;clear hi;go_wp2_with fail;refine E.mono ?_;rintro e w1 ⟨v,rfl,M,z,V⟩;obtain⟨a1,c1,rfl,B4⟩:∃a1 c1,v=.slice a1 xs.length c1/\True:=by
     obtain⟨a1,c1,e,_⟩:=M;exact⟨a1,c1,e,trivial⟩
    have O:=R.out.call z;have B3:=z.size;go_wp2_with (at_builtin;refine Vd 124 173 121 (by decide) underlying121 HI.out Y A1 A3 (by rfl) _ _ (by rfl) w0.heap.size _ ls (by rfl) (O.call (Af w1 _)) w1.heap.size (by rfl) (.slice a1 xs.length c1) (by rfl) xs ?e1 (M.call (Af w1 _) (aA _)) (V.call (Af w1 _)) ?e3 ?e4 ?_)
    case e1=>simp[go_sem]
    case e3=>omega
    case e4=>simp;omega
    intro v' w4 L X _;go_wp2_with fail;go_roundw
    case rel=>exact⟨k+1,ls++[xs],by rw[I.out];omega,by go_num,L,by simp[A5],A4.out,((hb.trans (z.mono hsz)).alloc (by omega) _).trans X⟩
    case measure=>simp[intOf];omega
   ·have h2:=H W;rw[bT] at h2;obtain⟨rfl,rfl⟩:=h2;have A9:=hZ9 (y.out W);clear t y H W;go_wp2_with fail;refine E.mono ?_;rintro e w1 ⟨v,rfl,M,z,V⟩;go_wp2_with fail;go_ret2;exact GV.none A9.out (r.trans (z.mono r.size))
  ·have A6:k=n:=by omega
   subst A6;have J:ps.take k=ps:=af (by rw[I.out];omega);rw[J] at S;have HS:=hZ9 (C.out ls S);have A7:=hZ9 q.avss;clear J S q;go_wp2_with fail;go_ret2;exact⟨_,by rw[HS.out];rfl,by rw[HS.out];exact A7.out,r⟩
end
section
open Go.RowKit
def FK(l:iK)(w:World)(e:Ending)(w':World):Prop:=∃v,e=.returned (.tuple #[.agg #[v],.int .i64 (DnS.Bv l).2])/\Fg w' v (DnS.Bv l).1/\Below w.heap.size w w'
theorem FK.none{l:iK}{w w':World}{e:Int}(h:DnS.Bv l=([],e))(hb:Below w.heap.size w w'):FK l w (.returned (.tuple #[.agg #[.slice none 0 0],e])) w':=by
 refine⟨.slice Option.none 0 0,?_,?_,hb⟩
 ·rw[h]
 ·rw[h];exact Fg.empty w'
def Abf(ps:List iK)(w w0:World)(b:Nat)(i:Value)(wr:World):Prop:=
 ∃(k:Nat) (ls:List (List RdS.Pr)) (a:Option Addr) (c:Nat),k<=ps.length/\i=.int .i64 k/\Ej 151 190 wr (b+1) (.slice a k c) ls/\ls.length=k/\DnS.partsS (ps.take k)=some ls/\
  Whole wr b 148 #[.slice a k c]/\Whole wr w.heap.size 148 #[.slice none 0 0]/\Below w.heap.size w wr/\Below w0.heap.size w0 wr
theorem Abg:(prog.info? 151).map (λi=>(i.zero,i.size,i.bytes))=some (some (.slice none 0 0),1,24):=by kernel_rfl
theorem Abh(l:iK)(hl:l.length<=1000000)(w:World)(hE:Env w):Calls prog 106 #[l] w (FK l w):=by
 have C8:=Whole.made w 148 #[.slice none 0 0];have M:Below w.heap.size w (w.alloc (.cells #[.slice none 0 0] 148)):=Af w _;by_cases h1:1000<l.length
 ·have hz:(1000:Int)<(l.length:Int):=by omega
  have U:Hid (DnS.Bv l=([],4)):=hZ9 (by unfold DnS.Bv;rw[aJ h1]);clear h1;go_enter func106,ntmps106;go_wp2_with fail
  (try simp only[Exit.inBlock,Exit.then])
  refine bodyPost_ret (v:=.tuple #[.agg #[.slice none 0 0],.int .i64 4]) ?_ rfl (FK.none U.out M);rw[results_cell_tmp rfl];go_simp
 have hz:decide ((1000:Int)<(l.length:Int))=false:=aB (by omega);by_cases h0:l=[]
 ·subst h0;have U:Hid (DnS.Bv []=([],0)):=hZ9 rfl;go_enter func106,ntmps106;go_wp2_with fail
  (try simp only[Exit.inBlock,Exit.then])
  refine bodyPost_ret (v:=.tuple #[.agg #[.slice none 0 0],.int .i64 0]) ?_ rfl (FK.none U.out M);rw[results_cell_tmp rfl];go_simp
 have E4:l.isEmpty=false:=by simpa using h0
 have R:=λw=>RY l 44 (by omega) (by decide) w;unfold Hv at R;have Z:=RdS.EO (sep:=44) l;obtain⟨ps,C⟩:∃ps,RdS.Ap 44 l=ps:=⟨_,rfl⟩
 rw[C] at R Z;have D9:l.length<=1000:=by omega
 have y:=hZ9 (Sj h1 h0 C);have x:=hZ9 (Yy h1 h0 C);have t:=hZ9 (λhn ls h=>Ve h1 h0 C hn (ls:=ls) h);have C0:=hZ9 Z;have B8:Hid (ps≠[]):=hZ9 (by
  obtain⟨p0,E3,D4⟩:=RdS.CS 44 l;rw[<-C,D4];simp)
 clear C Z h0 h1;generalize B0:w.alloc (.cells #[.slice none 0 0] 148)=ws at*;go_enter func106,ntmps106;go_wp2_with fail
 (try simp only[B0])
 refine(R ws).mono ?_;rintro e w0 ⟨v,rfl,hv,hb0⟩;clear B0;have J:Below w.heap.size w w0:=M.trans (hb0.mono M.size);have r:=C8.call hb0;obtain⟨a,c,rfl,hc,A2⟩:=hv;generalize hn:ps.length=n at*;have U:=hZ9 hn;have B5:w0.cell? ⟨w.heap.size,0,none⟩=some (.slice none 0 0):=r.cell 0;have C7:w0.frozen? ⟨w.heap.size,0,none⟩=false:=r.thaw 0;by_cases I:12<n
 ·have h3:(12:Int)<(n:Int):=by omega
  have F:=hZ9 (y.out I);clear hn y x t;go_wp2_with fail
  (try simp only[Exit.inBlock,Exit.then])
  refine bodyPost_ret (v:=.tuple #[.agg #[.slice none 0 0],.int .i64 4]) ?_ rfl (FK.none F.out (J.setCell (aA _) _));rw[results_cell_tmp rfl];have A3:(w0.setCell ⟨w.heap.size,0,none⟩ (.slice none 0 0)).cell? ⟨w.heap.size,0,none⟩=some (.slice none 0 0):=(r.put 0 _).cell 0;go_simp
 have h3:decide ((12:Int)<(n:Int))=false:=aB (by omega);have Q:=hZ9 (x.out I);have O:=hZ9 (t.out I);rcases A2 with rfl|⟨g,o,rfl,hg,hcell⟩
 ·exact absurd rfl B8.out
 have Y:=hZ9 hcell;have A7:=Whole.made w0 148 #[.slice none 0 0];have B2:Below w0.heap.size w0 (w0.alloc (.cells #[.slice none 0 0] 148)):=Af w0 _;have A9:=r.alloc (.cells #[.slice none 0 0] 148);have L:=r.lt;clear hn hcell R y x t B5 C7;go_wp2_with fail;go_loopw [25] (λi wr=>Abf ps w w0 w0.heap.size i wr) (λi _=>n-(intOf i).toNat)
 case atStart=>exact⟨0,[],none,0,aR _,rfl,Ej.empty _ _ _ _,rfl,rfl,A7,A9,J.trans (B2.mono J.size),B2⟩
 case round=>
  obtain⟨k,ls,a2,c2,hk,rfl,S,C4,hq,A5,E,m,hb⟩:=hrel;rw[U.out] at hk;have C6:=hE.below m;have hsz:=m.size;have B6:=A5.lt;have V:=hZ9 S;have E2:wr.cell? ⟨w0.heap.size,0,none⟩=some (.slice a2 k c2):=A5.cell 0;have C1:wr.cell? ⟨w.heap.size,0,none⟩=some (.slice none 0 0):=E.cell 0;have C3:wr.frozen? ⟨w.heap.size,0,none⟩=false:=E.thaw 0;clear S;by_cases B7:k<n
  ·have q:k<ps.length:=by rw[U.out];exact B7
   have C9:wr.cell? ⟨g,o+k,none⟩=some (Ac ps[k]):=(hb.cell (p:=⟨g,o+k,none⟩) hg).trans (Y.out k _ (aK q));have E1:=C0.out ps[k] (aZ q);have F:=hZ9 (λh=>Q.out (DnS.MO (aZ q) h));have z:=hZ9 (DnS.partsS_step q hq);generalize ps[k]=p at*;unfold Ac at C9;clear hq q;have K:=Acw p (by omega) wr C6;unfold CQ at K;have N:=RdS.Tc (s:=p);generalize RdS.Bh p=P at*;obtain⟨xs,e0⟩:=P;simp only at K N F z;by_cases he:e0=0
   ·subst he;have D1:=hZ9 (z.out rfl);clear z F N C1 C3;obtain⟨i0,hi,B3,C2,D0⟩:=info_parts Abg;have HI:=hZ9 hi;clear hi;go_wp2_with fail;refine K.mono ?_;rintro e w1 ⟨v,rfl,A4,f,B1⟩;obtain⟨a1,c1,rfl,A3⟩:∃a1 c1,v=.slice a1 xs.length c1/\True:=by
     obtain⟨a1,c1,e,_⟩:=A4;exact⟨a1,c1,e,trivial⟩
    have A0:=V.out.call f;have D6:=f.size;have H:=A5.call f;have b:=E.call f;have A8:w1.cell? ⟨w0.heap.size,0,none⟩=some (.slice a2 k c2):=H.cell 0;go_wp2_with (at_builtin;refine Vd 151 190 146 (by decide) underlying146 HI.out B3 C2 D0 (by rfl) _ _ (by rfl) (w0.heap.size+1) _ ls (by rfl) (A0.call (Af w1 _)) w1.heap.size (by rfl) (.slice a1 xs.length c1) (by rfl) xs ?e1 (A4.call (Af w1 _) (aA _)) (B1.call (Af w1 _)) ?e3 ?e4 ?_)
    case e1=>simp[go_sem]
    case e3=>omega
    case e4=>simp;omega
    intro v' w4 d G _;obtain⟨a3,c3,rfl⟩:=d.form;have X:(ls++[xs]).length=k+1:=by simp[C4]
    rw[X] at d;simp only[X];have A:=(H.alloc (.cells #[.slice a1 xs.length c1] 151)).below G (fc _);have A6:=(b.alloc (.cells #[.slice a1 xs.length c1] 151)).below G (gz L);have D7:w4.cell? ⟨w0.heap.size,0,none⟩=some (.slice a2 k c2):=A.cell 0;have D5:w4.frozen? ⟨w0.heap.size,0,none⟩=false:=A.thaw 0;have C5:Hid (Below w0.heap.size w0 w4):=hZ9 (((hb.trans (f.mono (dF B6))).alloc (by omega) _).trans (G.mono (iE _)));have D3:Hid (Below w.heap.size w w4):=hZ9 (((m.trans (f.mono hsz)).alloc (by omega) _).trans (G.mono (by omega)));have A1:=hZ9 d;clear d G H b A8;go_wp2_with fail;go_roundw
    case rel=>exact⟨k+1,ls++[xs],a3,c3,by rw[U.out];omega,by go_num,A1.out.setHdr A (fc _) _,X,D1.out,A.put 0 _,A6.other (Nat.ne_of_lt L) _,D3.out.setCell (dF L) _,C5.out.setCell (aA _) _⟩
    case measure=>simp[intOf];omega
   ·have h2:=N he;rw[bT] at h2;obtain⟨rfl,rfl⟩:=h2;have B9:=hZ9 (F.out he);clear z F N he;go_wp2_with fail;refine K.mono ?_;rintro e w1 ⟨v,rfl,A4,f,B1⟩;have b:=E.call f;have E0:w1.cell? ⟨w.heap.size,0,none⟩=some (.slice none 0 0):=b.cell 0;have D8:w1.frozen? ⟨w.heap.size,0,none⟩=false:=b.thaw 0;go_wp2_with fail
    (try simp only[Exit.inBlock,Exit.then])
    refine bodyPost_ret (v:=.tuple #[.agg #[.slice none 0 0],.int .i64 2]) ?_ rfl (FK.none B9.out ((m.trans (f.mono hsz)).setCell (aA _) _));rw[results_cell_tmp rfl];have A3:(w1.setCell ⟨w.heap.size,0,none⟩ (.slice none 0 0)).cell? ⟨w.heap.size,0,none⟩=some (.slice none 0 0):=(b.put 0 _).cell 0;go_simp
  ·have B4:k=n:=by omega
   subst B4;have W:ps.take k=ps:=af (by rw[U.out];omega);rw[W] at hq;have HS:=hZ9 (O.out ls hq);have D2:=hZ9 (V.out.setHdr E (gz L) (.slice a2 k c2)).avss;clear W hq;go_wp2_with fail
   (try simp only[Exit.inBlock,Exit.then])
   refine bodyPost_ret (v:=.tuple #[.agg #[.slice a2 k c2],.int .i64 0]) ?_ rfl ⟨_,by rw[HS.out],by rw[HS.out];exact D2.out,m.setCell (aA _) _⟩;rw[results_cell_tmp rfl];have A3:(wr.setCell ⟨w.heap.size,0,none⟩ (.slice a2 k c2)).cell? ⟨w.heap.size,0,none⟩=some (.slice a2 k c2):=(E.put 0 _).cell 0;go_simp
end
