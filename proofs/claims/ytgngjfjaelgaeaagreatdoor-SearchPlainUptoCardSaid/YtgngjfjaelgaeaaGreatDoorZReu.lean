/- The walks of a step of following aliases, the program's and the document's. Conditions: as stated. -/
import Derived.Test.YtgngjfjaelgaeaaGreatDoorZCqa
set_option maxRecDepth 100000
set_option maxHeartbeats 8000000
namespace Go.Proofs.YtgngjfjaelgaeaaGreatDoor
open Go.Proofs.Tryz
variable {e:Int} {n s tn:iK} {B b k:Nat} {w:World}
section
open Go.RowKit
namespace EnS
def Wl(o:Option (iK×iK)):Int:=match o with|none=>-1|some p=>((DnS.Ae p.1).1.length:Int)
def frO(o:Option (iK×iK)):iK:=match o with|none=>[]|some p=>p.1
def toO(o:Option (iK×iK)):iK:=match o with|none=>[]|some p=>p.2
theorem Ac1{acc:Option (iK×iK)}{e:En}(h:(Ds e).2=false):FC n acc e=acc:=by unfold FC Ld;rw[h];rfl
theorem Wm{acc:Option (iK×iK)}{e:En}(h:DnS.Fh n e.name=false):FC n acc e=acc:=by unfold FC Ld;rw[h,bY];rfl
theorem Wn{e:En}(h:(Ds e).2=true)(h2:DnS.Fh n e.name=true):FC n none e=some (e.name,(Ds e).1):=by unfold FC Ld;rw[h,h2];rfl
theorem XW{q:iK×iK}{e:En}(h:(Ds e).2=true)(h2:DnS.Fh n e.name=true)(h3:(DnS.Ae e.name).1.length<(DnS.Ae q.1).1.length):FC n (some q) e=some (e.name,(Ds e).1):=by
 have hb:Ld n (some q) e=true:=by
  show ((Ds e).2&&DnS.Fh n e.name&&decide ((DnS.Ae e.name).1.length<(DnS.Ae q.1).1.length))=true
  rw[h,h2,aI h3];rfl
 unfold FC;rw[aJ hb]
theorem XX{q:iK×iK}{e:En}(h3:¬(DnS.Ae e.name).1.length<(DnS.Ae q.1).1.length):FC n (some q) e=some q:=by
 have hb:¬Ld n (some q) e=true:=by
  show ¬((Ds e).2&&DnS.Fh n e.name&&decide ((DnS.Ae e.name).1.length<(DnS.Ae q.1).1.length))=true
  rw[aB h3,bY];simp
 unfold FC;rw[aG hb]
theorem Wp{n:iK}:∀{l:List En} {acc:Option (iK×iK)} {q:iK×iK},l.foldl (FC n) acc=some q->acc=some q\/∃e∈l,q=(e.name,(Ds e).1)
 |[],_,_,h=>.inl h
 |e :: l,acc,q,h=>by
  rw[List.foldl_cons] at h;rcases Wp h with h|⟨x,hx,h⟩
  ·unfold FC at h;split at h
   ·exact .inr ⟨e,ai ..,(aU h).symm⟩
   ·exact .inl h
  ·exact .inr ⟨x,au _ hx,h⟩
theorem Aal(v:iK):(DnS.AC DL v).1.length<=1000:=by
 have h5:(RuS.typeOf DL).2=5:=by decide+kernel
 unfold DnS.AC;rw[aJ h5];split
 ·simp
 ·split
  ·exact DnS.Ic v
  ·simp
theorem Ac2(e:En):(Ds e).1.length<=1000:=by
 unfold Ds WQ;split
 ·simp
 ·split
  ·exact Aal _
  ·simp
theorem Wq{l:List En}{q:iK×iK}(h:Gn n l=some q)(a:∀e∈l,e.name.length<=1000000):q.1.length<=1000000/\q.2.length<=1000000:=by
 rcases Wp h with h|⟨e,c,rfl⟩
 ·cases h
 ·exact⟨a e c,aX (Ac2 e) (by decide)⟩
end EnS
def Eo(xs:List EnS.En):Prop:=xs.length<=1048576/\∀x∈xs,x.name.length<=1000000/\GZ x.attrs
def BR(r:iK×Bool×Int)(w:World)(e:Ending)(w':World):Prop:=e=.returned (.tuple #[r.1,r.2.1,r.2.2])/\Below w.heap.size w w'
theorem BR.mk'{r q:iK×Bool×Int}{w':World}(h:r=q)(hb:Below w.heap.size w w'):BR r w (.returned (.tuple #[q.1,q.2.1,q.2.2])) w':=by subst h;exact⟨rfl,hb⟩
theorem Ac3{l:List EnS.En}(h:DnS.Ax s=(n,e))(a:e≠0):EnS.stepS l s=([],false,34):=by unfold EnS.stepS;rw[h,aG a]
theorem Aam{l:List EnS.En}(h:DnS.Ax s=(n,0)):EnS.stepS l s=EnS.Og n (EnS.Gn n l):=by unfold EnS.stepS;rw[h];exact aJ rfl
theorem Aan{q:iK×iK}{x:iK}(h:DnS.Dj n q.1 q.2=(x,0)):EnS.Og n (some q)=(x,true,0):=by
 show (if(DnS.Dj n q.1 q.2).2=0 then((DnS.Dj n q.1 q.2).1,true,0) else([],false,33))=_
 rw[h];exact aJ rfl
theorem Ac4{q:iK×iK}{x:iK}(h:DnS.Dj n q.1 q.2=(x,e))(a:e≠0):EnS.Og n (some q)=([],false,33):=by
 show (if(DnS.Dj n q.1 q.2).2=0 then((DnS.Dj n q.1 q.2).1,true,0) else([],false,33))=_
 rw[h];exact aG a
theorem Ag8(v:Value)(xs:List EnS.En)(s:iK)(w:World)(hE:Env w)(h:Ci w v xs)(hf:Eo xs)(hs:s.length<=1000000):
  Calls prog 39 #[v,s] w (BR (EnS.stepS xs s) w):=by
 have h1:=IX s hs w hE;unfold Bo at h1;have B2:=DnS.Ic s;have HB:=hZ9 (λn e=>Ac3 (l:=xs) (s:=s) (n:=n) (e:=e));have HG:=hZ9 (λn=>Aam (l:=xs) (s:=s) (n:=n));generalize EnS.stepS xs s=R at*;obtain⟨n,e0⟩:∃n e,DnS.Ax s=(n,e):=⟨_,_,rfl⟩
 obtain⟨e0,V⟩:=e0;rw[V] at h1 B2;simp only at h1 B2;obtain⟨hl,W⟩:=hf;obtain⟨a,c,rfl,hc,B6⟩:=Ad.at h;have B4:=hZ9 B6;have B1:=hZ9 (λk (h:k<xs.length)=>W xs[k] (aZ h));have X:=hZ9 (λk (h:k<xs.length)=>EnS.AcZ (n:=n) h);have Y:=hZ9 (λq (h:EnS.Gn n xs=some q)=>EnS.Wq h (λe he=>(W e he).1));have A2:=hZ9 (λk q (h:EnS.Gn n (xs.take k)=some q)=>EnS.Wq h (λe he=>(W e (dO he)).1));clear B6 h W;by_cases he:e0=0
 case neg=>
  have HR:=hZ9 (HB.out n e0 V he);have C5:(e0 !=0)=true:=by simpa using he
  clear HB HG V B4 B1 X Y A2;generalize xs.length=m at*;go_enter func39,ntmps39;go_wp2_with fail;refine h1.mono ?_;rintro e w1 ⟨rfl,A5⟩;go_wp2_with fail
  go_ret3
  exact BR.mk' HR.out A5
 subst he;have HR:=hZ9 (HG.out n V);clear HB HG V;generalize B8:xs.length=m at hc hl⊢;have HN:=hZ9 B8;clear B8;go_enter func39,ntmps39;go_wp2_with fail;refine h1.mono ?_;rintro e w1 ⟨rfl,A5⟩;go_wp2_with fail;go_loopw [9,10,11,26] (λl f t i wr=>∃k:Nat,k<=m/\i=.int .i64 k/\l=.int .i64 (EnS.Wl (EnS.Gn n (xs.take k)))/\f=.string ⟨(EnS.frO (EnS.Gn n (xs.take k))).toArray⟩/\t=.string ⟨(EnS.toO (EnS.Gn n (xs.take k))).toArray⟩/\Below w.heap.size w wr) (λ_ _ _ i _=>m-(intOf i).toNat)
 case atStart=>exact⟨0,aR _,rfl,rfl,rfl,rfl,A5⟩
 case round=>
  obtain⟨k,hk,rfl,rfl,rfl,rfl,hb⟩:=hrel;by_cases C3:k<m
  ·have L:k<xs.length:=by rw[HN.out];exact C3
   obtain⟨g,o,rfl,hg,_,hra⟩:=B4.out k L;have B0:=Dk.call hra hg trivial hb;obtain⟨c0,a1,p1,c1,C7,G⟩:=Dk.parts B0;have C2:=B1.out k L;have d:=hZ9 (X.out k L);have C8:=hZ9 (A2.out k);clear hra B0 X A2;generalize xs[k]=x at*;clear L;obtain⟨name,attrs⟩:=x;obtain⟨A8,A4⟩:=C2;simp only at c0 c1 C7 G A8 A4;generalize EnS.Gn n (xs.take k)=A at*;have A7:=Af wr (.cells #[name,.slice a1 attrs.length p1] 52);have E:=Whole.made wr 52 #[name,.slice a1 attrs.length p1];have U:=(hE.below hb).below A7;have A0:=G.call A7;have u:=hb.trans (A7.mono hb.size);have K:=Yv name attrs _ _ U A0 A4;have Q:=λw hE=>Abl name A8 w hE;have T:=λw hE=>Sr n name (by omega) A8 w hE;have P:=hZ9 (EnS.Ac1 (n:=n) (acc:=A) (e:=⟨name,attrs⟩));have S:=hZ9 (EnS.Wm (n:=n) (acc:=A) (e:=⟨name,attrs⟩));have J:=hZ9 (EnS.Wn (n:=n) (e:=⟨name,attrs⟩));have C:=hZ9 (λq=>EnS.XW (n:=n) (q:=q) (e:=⟨name,attrs⟩));have F:=hZ9 (λq=>EnS.XX (n:=n) (q:=q) (e:=⟨name,attrs⟩));unfold Qj at K;unfold UE at Q;unfold Ew at T;simp only at S J C F;generalize EnS.Ds ⟨name,attrs⟩=AL at*;obtain⟨tg,al⟩:=AL;generalize DnS.Fh n name=un at*;simp only at K P J C;generalize B3:(DnS.Ae name).1.length=dl at*;have B7:=hZ9 B3;clear B3;generalize A9:attrs.length=n1 at*;clear G A9 A0 A4;cases al with
   |false=>
    have d:=hZ9 (d.out.trans (P.out rfl));clear P S J C F T;go_wp2_with fail;refine K.mono ?_;rintro e wa ⟨rfl,hx1⟩;have p:=u.trans (hx1.mono u.size);have r:=U.below hx1;have M:=(E.call hx1).cell 0;have N:=(E.call hx1).cell 1;simp only[aO,aH,aP] at M N;go_wp2_with fail;refine(Q _ r).mono ?_;rintro e wb ⟨rfl,j⟩;have y:=p.trans (j.mono p.size);have I:=r.below j;have q2:=Ab M j;have q3:=Ab N j;go_wp2_with fail;go_roundw
    case rel=>exact⟨k+1,by omega,by go_num,by rw[d.out],by rw[d.out],by rw[d.out],y⟩
    case measure=>simp[intOf];omega
   |true=>
    cases un with
    |false=>
     have d:=hZ9 (d.out.trans (S.out rfl));clear P S J C F;go_wp2_with fail;refine K.mono ?_;rintro e wa ⟨rfl,hx1⟩;have p:=u.trans (hx1.mono u.size);have r:=U.below hx1;have M:=(E.call hx1).cell 0;have N:=(E.call hx1).cell 1;simp only[aO,aH,aP] at M N;go_wp2_with fail;refine(Q _ r).mono ?_;rintro e wb ⟨rfl,j⟩;have y:=p.trans (j.mono p.size);have I:=r.below j;have q2:=Ab M j;have q3:=Ab N j;go_wp2_with fail;refine(T _ I).mono ?_;rintro e wc ⟨rfl,z⟩;have H:=y.trans (z.mono y.size);have q4:=Ab q2 z;go_wp2_with fail;go_roundw
     case rel=>exact⟨k+1,by omega,by go_num,by rw[d.out],by rw[d.out],by rw[d.out],H⟩
     case measure=>simp[intOf];omega
    |true=>
     cases A with
     |none=>
      have d:=hZ9 (d.out.trans (J.out rfl rfl));clear P S J C F;simp only[EnS.Wl,EnS.frO,EnS.toO];go_wp2_with fail;refine K.mono ?_;rintro e wa ⟨rfl,hx1⟩;have p:=u.trans (hx1.mono u.size);have r:=U.below hx1;have M:=(E.call hx1).cell 0;have N:=(E.call hx1).cell 1;simp only[aO,aH,aP] at M N;go_wp2_with fail;refine(Q _ r).mono ?_;rintro e wb ⟨rfl,j⟩;have y:=p.trans (j.mono p.size);have I:=r.below j;have q2:=Ab M j;have q3:=Ab N j;go_wp2_with fail;refine(T _ I).mono ?_;rintro e wc ⟨rfl,z⟩;have H:=y.trans (z.mono y.size);have q4:=Ab q2 z;go_wp2_with fail
      go_quiet (fail)
      go_wp2_with fail;go_roundw
      case rel=>exact⟨k+1,by omega,by go_num,by rw[d.out];show _=Value.int .i64 ((DnS.Ae name).1.length:Int);rw[B7.out],by rw[d.out],by rw[d.out],(H.trans ((below_drewN wc nq).mono H.size))⟩
      case measure=>simp[intOf];omega
     |some q=>
      have C:=hZ9 (C.out q rfl rfl);have F:=hZ9 (F.out q);clear P S J;simp only[EnS.Wl,EnS.frO,EnS.toO];obtain⟨qa,qb⟩:=q;simp only at C F⊢;generalize B5:(DnS.Ae qa).1.length=ql at*;have C6:=hZ9 B5;clear B5;have C0:decide ((ql:Int)<0)=false:=aB (by omega);by_cases hd:dl<ql
      ·have d:=hZ9 (d.out.trans (C.out hd));have C1:decide ((dl:Int)<(ql:Int))=true:=aI (by omega);clear C F;go_wp2_with fail;refine K.mono ?_;rintro e wa ⟨rfl,hx1⟩;have p:=u.trans (hx1.mono u.size);have r:=U.below hx1;have M:=(E.call hx1).cell 0;have N:=(E.call hx1).cell 1;simp only[aO,aH,aP] at M N;go_wp2_with fail;refine(Q _ r).mono ?_;rintro e wb ⟨rfl,j⟩;have y:=p.trans (j.mono p.size);have I:=r.below j;have q2:=Ab M j;have q3:=Ab N j;go_wp2_with fail;refine(T _ I).mono ?_;rintro e wc ⟨rfl,z⟩;have H:=y.trans (z.mono y.size);have q4:=Ab q2 z;go_wp2_with fail
       go_quiet (fail)
       go_wp2_with fail;go_roundw
       case rel=>exact⟨k+1,by omega,by go_num,by rw[d.out];show _=Value.int .i64 ((DnS.Ae name).1.length:Int);rw[B7.out],by rw[d.out],by rw[d.out],(H.trans ((below_drewN wc nq).mono H.size))⟩
       case measure=>simp[intOf];omega
      ·have d:=hZ9 (d.out.trans (F.out hd));have C1:decide ((dl:Int)<(ql:Int))=false:=aB (by omega);clear C F;go_wp2_with fail;refine K.mono ?_;rintro e wa ⟨rfl,hx1⟩;have p:=u.trans (hx1.mono u.size);have r:=U.below hx1;have M:=(E.call hx1).cell 0;have N:=(E.call hx1).cell 1;simp only[aO,aH,aP] at M N;go_wp2_with fail;refine(Q _ r).mono ?_;rintro e wb ⟨rfl,j⟩;have y:=p.trans (j.mono p.size);have I:=r.below j;have q2:=Ab M j;have q3:=Ab N j;go_wp2_with fail;refine(T _ I).mono ?_;rintro e wc ⟨rfl,z⟩;have H:=y.trans (z.mono y.size);have q4:=Ab q2 z;go_wp2_with fail;go_roundw
       case rel=>exact⟨k+1,by omega,by go_num,by rw[d.out];show _=Value.int .i64 ((DnS.Ae qa).1.length:Int);rw[C6.out],by rw[d.out],by rw[d.out],H⟩
       case measure=>simp[intOf];omega
  ·have A1:xs.take k=xs:=af (by rw[HN.out];omega);rw[A1];clear X A2 A1;obtain⟨A,hA⟩:∃A,EnS.Gn n xs=A:=⟨_,rfl⟩
   rw[hA] at HR⊢;cases A with
   |none=>
    have HZ:Hid (R=(n,false,0)):=hZ9 HR.out;clear hA Y;simp only[EnS.Wl,EnS.frO,EnS.toO];go_wp2_with fail
    go_ret3
    exact BR.mk' HZ.out hb
   |some q=>
    obtain⟨B9,C4⟩:=Y.out q hA;have O:=Ad6 n q.1 q.2 (by omega) B9 C4 wr (hE.below hb);have A3:=hZ9 (λx=>Aan (n:=n) (q:=q) (x:=x));have Z:=hZ9 (λx e=>Ac4 (n:=n) (q:=q) (x:=x) (e:=e));unfold Bo at O;clear hA Y;generalize EnS.Og n (some q)=TR at*;simp only[EnS.Wl,EnS.frO,EnS.toO];obtain⟨qa,qb⟩:=q;simp only at O A3 Z⊢;obtain⟨x,e1,hM⟩:∃x e,DnS.Dj n qa qb=(x,e):=⟨_,_,rfl⟩
    rw[hM] at O;simp only at O;generalize (DnS.Ae qa).1.length=ql at*;have C0:decide ((ql:Int)<0)=false:=aB (by omega);by_cases A6:e1=0
    ·subst A6;have HZ:=hZ9 (HR.out.trans (A3.out x hM));clear A3 Z HR hM;go_wp2_with fail;refine O.mono ?_;rintro e w2 ⟨rfl,u⟩;go_wp2_with fail
     go_ret3
     exact BR.mk' HZ.out (hb.trans (u.mono hb.size))
    ·have C5:(e1 !=0)=true:=by simpa using A6
     have HZ:=hZ9 (HR.out.trans (Z.out x e1 hM A6));clear A3 Z HR hM;go_wp2_with fail;refine O.mono ?_;rintro e w2 ⟨rfl,u⟩;go_wp2_with fail
     go_ret3
     exact BR.mk' HZ.out (hb.trans (u.mono hb.size))
end
section
open Go.RowKit
theorem Ac5{a b:iK}(h:(⟨a.toArray⟩:ByteArray)=⟨b.toArray⟩):a=b:=by
 have:=congrArg (λx:ByteArray=>x.data.toList) h
 simpa using this
theorem Ws(xs:List iK)(l:iK):Lib.containsS (xs.map λl=>(⟨l.toArray⟩:ByteArray)) ⟨l.toArray⟩=xs.contains l:=by
 rw[bR,Lib.containsS_iff,cg,bG];constructor
 ·rintro⟨x,hx,a⟩;rw[<-Ac5 a];exact hx
 ·intro h;exact⟨l,h,rfl⟩
theorem contains_c(v:Value)(xs:List iK)(l:iK)(w:World)(h:Ah w v xs)(p:xs.length<=1048576):Calls prog 50 #[v,.string ⟨l.toArray⟩] w λe w'=>e=.returned (.bool (xs.contains l))/\w'=w:=by
 obtain⟨a,c,rfl,hc,d⟩:=h;rcases d with rfl|⟨g,o,rfl,m,hcell⟩
 ·exact slices_Contains_string_empty a c ⟨l.toArray⟩ w
 ·refine(slices_Contains_string g o xs.length c (xs.map λl=>⟨l.toArray⟩) ⟨l.toArray⟩ w (by simp) (by omega) (λj i=>?_)).mono ?_
  ·have f:j<xs.length:=by simpa using i
   rw[hcell j _ (aK f)];unfold Ac;simp[List.getD,f]
  ·rintro e w' ⟨rfl,rfl⟩;rw[af (by simp),Ws];exact⟨rfl,rfl⟩
theorem Aao{ops:Array Oper}{rest:List Oper}{o:Oper}{a:Act}{Q:Exit->Act->World->Prop}(p:o.guard=none)(s x:Operand)
  (z:o.op=.call { callee:=.builtin .append,args:=#[s,x],argTypes:=#[23,23] })
  (B:Nat)(v:Value)(xs:List iK)(t:a.eval s=v)(c:Own w B v xs)(g:Nat)(hx:a.eval x=.slice (some ⟨g,0,Option.none⟩) 1 1)
  (y:iK)(hc:w.cell? ⟨g,0,Option.none⟩=some (Ac y))(C:xs.length<=1000000000)(hB:B<=w.heap.size)
  (h:∀f w',Own w' B f (xs++[y])->Below B w w'->w.grownBy w' v.ownBlock->wpList prog ops Q rest (a.put o.dst f) w'):wpList prog ops Q (o :: rest) a w:=by
 obtain⟨i0,A,m,i,q⟩:=info_parts Hy;refine wpList_append_own w p s x _ z B 9 i0 (.string ⟨#[]⟩) 1 16 underlying23 A m i q rfl (by decide) v xs.length (xs.map Ac) t c ⟨g,0,Option.none⟩ 1 1 [Ac y] hx rfl
  (λj u l=>?_) (λu hu=>?_) (by unfold maxLen;omega) (by omega) hB (λf w' h1 h2 _=>h f w' ?_ ?_ h2)
 ·have r:j=0:=by
   rcases bU j with h|h
   ·exact h
   ·rw[dE (by simp;omega)] at l;cases l
  subst r;have d:(⟨g,0,Option.none⟩:Addr).add 0=⟨g,0,Option.none⟩:=by unfold Addr.add;split<;>simp_all
  rw[d,hc]
  simpa using l
 ·rw[aj] at hu;subst hu;rfl
 ·unfold Own;rw[bQ,aT];exact h1
 ·exact(Below.refl B w).grown h2 hB (λk hk=>(World.ownsRow.lt c k hk).1)
def EQ(w:World)(B b:Nat)(seen:List iK):Prop:=∃v,Whole w b 116 #[v]/\Own w B v seen/\B<=b
theorem Own.apart{v:Value}{xs:List iK}(h:Own w B v xs){T:TypeId}{cs:Array Value}(hb:Whole w b T cs)(c:T≠9):v.ownBlock≠some b:=λe=>by
 rcases h.2 with⟨rfl,_⟩|⟨g,cap,cur,rfl,_,a,_⟩
 ·cases e
 ·have:g=b:=by simpa[Value.ownBlock] using e
  subst this;unfold Whole at hb;rw[a] at hb;simp only[bq,Obj.cells.injEq] at hb;exact c hb.2.1.symm
theorem EQ.call{w':World}{seen:List iK}(h:EQ w B b seen)(hb:Below w.heap.size w w'):EQ w' B b seen:=by obtain⟨v,h1,h2,h3⟩:=h;exact⟨v,h1.call hb,h2.call hb,h3⟩
def Aeo(l:iK)(w:World)(e:Ending)(w':World):Prop:=∃b,e=.returned (.pointer (some ⟨b,0,none⟩))/\EQ w' w.heap.size b [l]/\Below w.heap.size w w'
theorem YY(l:iK)(w:World):Calls prog 38 #[l] w (Aeo l w):=by
 have d:=Af w (.cells #[l] 9);have a:=Af (w.alloc (.cells #[l] 9)) (.cells #[.slice (some ⟨w.heap.size,0,none⟩) 1 1] 116);have c:=Whole.made (w.alloc (.cells #[l] 9)) 116 #[.slice (some ⟨w.heap.size,0,none⟩) 1 1];have f:Own (w.alloc (.cells #[l] 9)) w.heap.size (.slice (some ⟨w.heap.size,0,none⟩) 1 1) [l]:=by refine⟨rfl,.inr ⟨w.heap.size,1,#[l],rfl,aA _,heap_alloc_new w _,aA _,by unfold maxLen;omega,rfl,rfl⟩⟩
 have hsz:(w.alloc (.cells #[l] 9)).heap.size=w.heap.size+1:=by show (w.heap.push _).size=_;simp
 rw[hsz] at c;go_enter func38,ntmps38;go_wp2_with fail;go_ret;exact⟨_,rfl,⟨_,c,f.call a,iE _⟩,Aa d a⟩
def PH(seen:List iK)(w:World)(e:Ending)(w':World):Prop:=e=.returned (.bool (decide (1<seen.length)))/\w=w'
theorem KY(b B:Nat)(seen:List iK)(w:World)(h:EQ w B b seen):Calls prog 43 #[.pointer (some ⟨b,0,none⟩)] w (PH seen w):=by
 obtain⟨v,h1,h2,h3⟩:=h;obtain⟨a,c,rfl⟩:=h2.form;have f:=h1.cell 0;simp only[aO,aH] at f;have hd:decide ((1:Int)<(seen.length:Int))=decide (1<seen.length):=by
  by_cases h:1<seen.length
  ·rw[aI h,aI (by omega)]
  ·rw[aB h,aB (by omega)]
 have d:=hZ9 hd;clear h1 h2 hd;unfold PH;generalize seen.length=n at*;go_enter func43,ntmps43;go_wp2_with fail;go_ret;exact⟨by rw[<-d.out];rfl,rfl⟩
def Oa(seen:List iK):Int:=if 1<seen.length then 33 else 32
theorem Aep{seen:List iK}(h:1<seen.length):Oa seen=33:=aJ h
theorem AfE{seen:List iK}(h:¬1<seen.length):Oa seen=32:=aG h
def AfF(seen:List iK)(w:World)(e:Ending)(w':World):Prop:=e=.returned (.int .i64 (Oa seen))/\w=w'
theorem Ac6(b B:Nat)(seen:List iK)(w:World)(h:EQ w B b seen):Calls prog 42 #[.pointer (some ⟨b,0,none⟩)] w (AfF seen w):=by
 have a:=KY b B seen w h;unfold PH at a;by_cases c:1<seen.length
 ·rw[aI c] at a;have HR:Hid (Oa seen=33):=hZ9 (Aep c);go_enter func42,ntmps42;go_wp2_with fail;refine a.mono ?_;rintro e w1 ⟨rfl,rfl⟩;go_wp2_with fail;go_ret;exact⟨by rw[HR.out];rfl,rfl⟩
 ·rw[aB c] at a;have HR:Hid (Oa seen=32):=hZ9 (AfE c);go_enter func42,ntmps42;go_wp2_with fail;refine a.mono ?_;rintro e w1 ⟨rfl,rfl⟩;go_wp2_with fail;go_ret;exact⟨by rw[HR.out];rfl,rfl⟩
def Afe(b B:Nat)(seen:List iK)(l:iK)(w:World)(e:Ending)(w':World):Prop:=
 (seen.contains l=true\/16<seen.length)/\e=.returned false/\w=w'\/
 (¬(seen.contains l=true\/16<seen.length))/\e=.returned true/\EQ w' B b (seen++[l])/\Below B w w'
theorem Ac7(b B:Nat)(seen:List iK)(l:iK)(w:World)(h:EQ w B b seen)(T:seen.length<=1000):Calls prog 40 #[.pointer (some ⟨b,0,none⟩),l] w (Afe b B seen l w):=by
 obtain⟨v,h1,h2,h3⟩:=h;have f:=contains_c v seen l w h2.strs (by omega);have j:=h2.apart h1 (by decide);have r:=h2.form;obtain⟨a,c,H⟩:=r;unfold Afe;have P:=h1.cell 0;have S:=h1.thaw 0;simp only[aO,aH] at P;subst H;cases g:seen.contains l with
 |true=>rw[g] at f;clear g h1 h2 j;generalize seen.length=n at*;go_enter func40,ntmps40;go_wp2_with fail;refine f.mono ?_;rintro e w1 ⟨rfl,rfl⟩;go_wp2_with fail;go_ret;exact .inl ⟨.inl (by trivial),rfl,rfl⟩
 |false=>
  rw[g] at f;by_cases h16:16<seen.length
  ·have HR:Hid (16<seen.length):=hZ9 h16;have M:(16:Int)<(seen.length:Int):=by omega
   clear g h1 h2 j;generalize seen.length=n at*;go_enter func40,ntmps40;go_wp2_with fail;refine f.mono ?_;rintro e w1 ⟨rfl,rfl⟩;go_wp2_with fail;go_ret;exact .inl ⟨.inr HR.out,rfl,rfl⟩
  ·have HR:Hid (¬16<seen.length):=hZ9 h16;have M:decide ((16:Int)<(seen.length:Int))=false:=aB (by omega);have m:=h1.lt;have t:B<=w.heap.size:=aX h3 (dF m);have o:=Af w (.cells #[l] 9);have K:=hZ9 (h1.call o);have J:=hZ9 (h2.call o);have L:=hZ9 j;have O:=hZ9 m;have u:=hZ9 ((Below.refl B w).alloc t (.cells #[l] 9));clear g h1 h2 j o;generalize I:seen.length=n at*;go_enter func40,ntmps40;go_wp2_with fail;refine f.mono ?_;rintro e w1 ⟨rfl,rfl⟩;go_wp2_with (at_builtin;refine Aao (by rfl) _ _ (by rfl) B _ seen (by rfl) J.out w1.heap.size (by rfl) l ?e1 ?e2 ?e3 ?_)
   case e1=>simp[go_sem,Ac]
   case e2=>omega
   case e3=>exact aX t (u.out.size)
   intro Q w2 d E F;obtain⟨C,A,z⟩:=d.form;rw[aT,bE,I] at z;subst z;have i:Whole w2 b 116 #[.slice a n c]:=(F.block b (ae O.out (Af w1 _).size) (λe=>L.out e.symm)).trans K.out;have N:=i.cell 0;have R:=i.thaw 0;simp only[aO,aH] at N;have x:=d.apart i (by decide);have y:=i.put 0 (.slice C (n+1) A);have q:=ownsRow_setCell_other d (a:=⟨b,0,none⟩) x (.slice C (n+1) A);have G:=(u.out.trans E).setCell (p:=⟨b,0,none⟩) h3 (.slice C (n+1) A);clear f J K;go_wp2_with fail;go_ret;exact .inr ⟨λh=>h.elim (λh=>by cases h) HR.out,rfl,⟨_,y,q,h3⟩,G⟩
theorem AfG(name n:iK)(u:Value)(c:Nat)(w:World)(h1:w.cell? ⟨c,0,none⟩=some (.string ⟨n.toArray⟩)):
  Calls prog 75 #[.agg #[name,u],.pointer (some ⟨c,0,none⟩)] w (Ew (name==n) w):=by
 have a:=Af w (.cells #[name,u] 52);have h2:=Ab h1 a;go_enter func75,ntmps75;go_wp2_with fail;go_ret;exact⟨rfl,a⟩
def FY(n:iK)(e:EnS.En):Bool:=e.name==n
theorem AfH(n:iK)(v:Value)(xs:List EnS.En)(I:Nat)(w:World)(h1:w.cell? ⟨I,0,none⟩=some (.string ⟨n.toArray⟩))(h:Ci w v xs)(N:xs.length<=1048576):
  Calls prog 114 #[v,.func (.func 75) #[] #[.pointer (some ⟨I,0,none⟩)]] w (GU (xs.findIdx? (FY n)) w):=by
 obtain⟨a,c,rfl,hc,y⟩:=Ad.at h;have H:=hZ9 y;have l:=hZ9 (λk (hk:k<xs.length)=>JH (p:=FY n) hk);have q:=hZ9 (Ph (p:=FY n) (xs:=xs));have z:=hZ9 (λk (hk:k<xs.length)=>take_miss (p:=FY n) hk);have HP:Hid (∀e:EnS.En,FY n e=(e.name==n)):=hZ9 (λ_=>rfl);generalize xs.findIdx? (FY n)=R at*;generalize FY n=p at*;clear y h;generalize C:xs.length=m at hc N⊢;have K:=hZ9 C;clear C;go_enter func114,ntmps114;go_wp2_with fail;go_loopw [8] (λi wr=>∃k:Nat,k<=m/\i=.int .i64 k/\Hid (∀x∈xs.take k,p x=false)/\Below w.heap.size w wr) (λi _=>m-(intOf i).toNat)
 case atStart=>exact⟨0,aR _,rfl,hZ9 (λx hx=>by cases hx),Below.refl _ _⟩
 case round=>
  obtain⟨k,hk,rfl,E,hb⟩:=hrel;by_cases F:k<m
  ·have d:k<xs.length:=by rw[K.out];exact F
   obtain⟨g,o,rfl,L,_,hra⟩:=H.out k d;obtain⟨c0,a1,p1,c1,M,j⟩:=Dk.parts (Dk.call hra L trivial hb);have k1:=Ab h1 hb;have G:=hZ9 (l.out k d E.out);have J:=hZ9 (z.out k d E.out);have r:=hZ9 (HP.out xs[k]);generalize xs[k]=x at*;obtain⟨name,attrs⟩:=x;simp only at c0 c1 r;have f:=AfG name n (.slice a1 attrs.length p1) I wr k1;unfold Ew at f;clear hra d l q z j HP;generalize attrs.length=n1 at*;cases u:(name==n) with
   |true=>have HR:=hZ9 (G.out (r.out.trans u));rw[u] at f;clear u G J;go_wp2_with fail;refine f.mono ?_;rintro e w1 ⟨rfl,t⟩;go_wp2_with fail;go_ret;exact⟨by rw[HR.out];rfl,hb.trans (t.mono hb.size)⟩
   |false=>
    have HR:=hZ9 (J.out (r.out.trans u));rw[u] at f;clear u G J;go_wp2_with fail;refine f.mono ?_;rintro e w1 ⟨rfl,t⟩;go_wp2_with fail;go_roundw
    case rel=>exact⟨k+1,by omega,by go_num,HR,hb.trans (t.mono hb.size)⟩
    case measure=>simp[intOf];omega
  ·have A:Hid (R=none):=hZ9 (q.out (by have:=E.out;rwa [af (by rw[K.out];omega)] at this));go_wp2_with fail;go_ret;exact⟨by rw[A.out];rfl,hb⟩
theorem AfI(n:iK)(v:Value)(xs:List EnS.En)(d:Nat)(w:World)(h1:w.cell? ⟨d,0,none⟩=some (.string ⟨n.toArray⟩))(h:Ci w v xs)(j:xs.length<=1048576):
  Calls prog 74 #[v,.func (.func 75) #[] #[.pointer (some ⟨d,0,none⟩)]] w (Ew (EnS.inS xs n) w):=by
 have g:=AfH n v xs d w h1 h j;have HR:Hid (EnS.inS xs n=(xs.findIdx? (FY n)).isSome):=hZ9 (by rw[ei];rfl);unfold GU at g;generalize EnS.inS xs n=R at*;generalize xs.findIdx? (FY n)=I at*;have i:=hZ9 (Yu I);generalize Lh I=z at*;obtain⟨a,c,rfl,_⟩:=Ad.form h;generalize xs.length=m at*;go_enter func74,ntmps74;go_wp2_with fail;refine g.mono ?_;rintro e w1 ⟨rfl,f⟩;go_wp2_with fail;go_ret;exact⟨by rw[HR.out,<-i.out];rfl,f⟩
theorem Ahd(n:iK)(v:Value)(xs:List EnS.En)(w:World)(h:Ci w v xs)(i:xs.length<=1048576):
  Calls prog 41 #[v,n] w (Ew (EnS.inS xs n) w):=by
 have g:∀(fn:Fn) (first cap:Array Value) (w:World),(Instr.makeFunc fn first cap).run prog w=.ok (.func fn first cap) w:=λ_ _ _ _=>rfl;have hb0:=Af w (.cells #[n] 9);have f:=Whole.made w 9 #[n];have hc:=AfI n v xs w.heap.size _ (f.cell 0) (h.call hb0) i;unfold Ew at hc;obtain⟨a,c,rfl,_⟩:=Ad.form h;generalize xs.length=m at*;go_enter func41,ntmps41;go_wp2_with fail;refine hc.mono ?_;rintro e w1 ⟨rfl,d⟩;go_wp2_with fail;go_ret;exact⟨rfl,Aa hb0 d⟩
end
section
open Go.RowKit
namespace EnS
theorem Aap{l:List En}{seen:List iK}{more:Bool}{code:Int}(h:stepS l n=(tn,more,code))(hc:code≠0):Eh l (k+1) seen n=([],[],code):=by unfold Eh;rw[h];exact aG hc
theorem Aaq{l:List En}{seen:List iK}(h:stepS l n=(tn,false,0)):Eh l (k+1) seen n=(seen,n,0):=by unfold Eh;rw[h,aJ rfl];exact aG (by simp)
theorem Aeq{l:List En}{seen:List iK}(h:stepS l n=(tn,true,0))(hx:seen.contains tn=true\/16<seen.length):Eh l (k+1) seen n=([],[],36):=by unfold Eh;rw[h,aJ rfl,aJ rfl];exact aJ hx
theorem Aer{l:List En}{seen:List iK}(h:stepS l n=(tn,true,0))(hx:¬(seen.contains tn=true\/16<seen.length)):Eh l (k+1) seen n=Eh l k (seen++[tn]) tn:=by
 conv=>lhs;unfold Eh
 rw[h,aJ rfl,aJ rfl];exact aG hx
theorem Wu(l:List En){code:Int}(hc:code≠0):Iu l ([],[],code)=([],false,code):=by unfold Iu;exact aG hc
theorem Ac8(l:List En)(seen:List iK)(n:iK):Iu l (seen,n,0)=GK l seen n:=by unfold Iu;exact aJ rfl
theorem Tm{l:List En}{seen:List iK}(h:n=[]):GK l seen n=(n,decide (1<seen.length),0):=by unfold GK;exact aG (λk=>k.1 h)
theorem Ac9{l:List En}{seen:List iK}(h:inS l n=true):GK l seen n=(n,decide (1<seen.length),0):=by unfold GK;exact aG (λk=>by rw[h] at k;cases k.2)
theorem YZ{l:List En}{seen:List iK}(h0:n≠[])(h:inS l n=false):GK l seen n=([],false,Oa seen):=by unfold GK;exact aJ ⟨h0,h⟩
theorem Aar{l:List En}{more:Bool}(h:stepS l s=(tn,more,0)):tn.length<=1000/\DnS.Ax tn=(tn,0):=by have:=Yf h;have h2:=DnS.Ic tn;rw[this] at h2;exact⟨h2,this⟩
theorem Aes{l:List En}{f:Bool}(h:DnS.Ax s=(n,e))(a:e≠0):AQ l s f=([],false,34):=by unfold AQ;rw[h];exact aG a
theorem Aet{l:List En}(h:DnS.Ax s=(n,0)):AQ l s false=GK l [n] n:=by unfold AQ;rw[h,aJ rfl];exact aG (by simp)
theorem AfJ{l:List En}(h:DnS.Ax s=(n,0)):AQ l s true=Iu l (Eh l 17 [n] n):=by unfold AQ;rw[h,aJ rfl];exact aJ rfl
end EnS
def Aas(w:World)(b:Nat):Nat:=match w.cell? ⟨b,0,none⟩ with|some (.slice _ n _)=>n|_=>0
def Ag9(v:Value):Nat:=match v with| .slice _ n _=>n|_=>0
theorem Own.lenOf{v:Value}{xs:List iK}(h:Own w B v xs):Ag9 v=xs.length:=by obtain⟨a,c,rfl⟩:=h.form;rfl
theorem EQ.len{seen:List iK}(h:EQ w B b seen):Aas w b=seen.length:=by obtain⟨v,h1,h2,_⟩:=h;have q:=h1.cell 0;simp only[aO,aH] at q;unfold Aas;rw[q];obtain⟨a,c,rfl⟩:=h2.form;rfl
theorem Own.one(w:World)(l:iK):Own (w.alloc (.cells #[l] 9)) w.heap.size (.slice (some ⟨w.heap.size,0,none⟩) 1 1) [l]:=
 ⟨rfl,.inr ⟨w.heap.size,1,#[l],rfl,aA _,heap_alloc_new w _,aA _,by unfold maxLen;omega,rfl,rfl⟩⟩
def atI(xs:List EnS.En)(s:iK):Option Nat:=if(DnS.Ax s).2=0 then xs.findIdx? (FY (DnS.Ax s).1) else none
theorem Ahe(v:Value)(xs:List EnS.En)(s:iK)(w:World)(hE:Env w)(h:Ci w v xs)(W:xs.length<=1048576)(T:s.length<=1000000):
  Calls prog 55 #[v,s] w (GU (atI xs s) w):=by
 have h1:=Lm s T w hE;unfold Bo at h1;have f:Hid (atI xs s=if(DnS.Ax s).2=0 then xs.findIdx? (FY (DnS.Ax s).1) else none):=hZ9 rfl;generalize atI xs s=R at*;generalize DnS.Ax s=N at*;obtain⟨n,O⟩:=N;simp only at h1 f;obtain⟨a,c,rfl,hc,z⟩:=Ad.at h;have K:=hZ9 z;have r:=hZ9 (λk (hk:k<xs.length)=>JH (p:=FY n) hk);have t:=hZ9 (Ph (p:=FY n) (xs:=xs));have A:=hZ9 (λk (hk:k<xs.length)=>take_miss (p:=FY n) hk);have HP:Hid (∀e:EnS.En,FY n e=(e.name==n)):=hZ9 (λ_=>rfl);generalize xs.findIdx? (FY n)=I at*;generalize FY n=q at*;clear z h;generalize E:xs.length=m at hc W⊢;have M:=hZ9 E;clear E;by_cases F:O=0
 ·subst F;have HR:Hid (R=I):=hZ9 (f.out.trans (aJ rfl));clear f;go_enter func55,ntmps55;go_wp2_with fail;refine h1.mono ?_;rintro e w1 ⟨rfl,j⟩;go_wp2_with fail;go_loop [15] (λi=>∃k:Nat,k<=m/\i=.int .i64 k/\Hid (∀x∈xs.take k,q x=false)) (λi=>m-(intOf i).toNat)
  case atStart=>exact⟨0,aR _,rfl,hZ9 (λx hx=>by cases hx)⟩
  case round=>
   obtain⟨k,hk,rfl,G⟩:=hrel;by_cases y:k<m
   ·have d:k<xs.length:=by rw[M.out];exact y
    obtain⟨g,o,rfl,P,_,hra⟩:=K.out k d;obtain⟨c0,a1,p1,c1,U,l⟩:=Dk.parts (Dk.call hra P trivial j);have S:=hZ9 (r.out k d G.out);have V:=hZ9 (A.out k d G.out);have u:=hZ9 (HP.out xs[k]);generalize xs[k]=x at*;obtain⟨name,attrs⟩:=x;simp only at c0 c1 u;clear hra d r t A l HP;cases L:(name==n) with
    |true=>have H:=hZ9 (S.out (u.out.trans L));go_wp2_with fail;go_ret;exact⟨by rw[HR.out,H.out];rfl,j⟩
    |false=>
     have H:=hZ9 (V.out (u.out.trans L));go_wp2_with fail;go_round
     case rel=>exact⟨k+1,by omega,by go_num,H⟩
     case measure=>simp[intOf];omega
   ·have C:Hid (I=none):=hZ9 (t.out (by have:=G.out;rwa [af (by rw[M.out];omega)] at this));go_wp2_with fail;go_ret;exact⟨by rw[HR.out,C.out];rfl,j⟩
 ·have Q:(O==0)=false:=by simpa using F
  have HR:Hid (R=none):=hZ9 (f.out.trans (aG F));clear f;go_enter func55,ntmps55;go_wp2_with fail;refine h1.mono ?_;rintro e w1 ⟨rfl,j⟩;go_wp2_with fail;go_loop [15] (λi=>∃k:Nat,k<=m/\i=.int .i64 k) (λi=>m-(intOf i).toNat)
  case atStart=>exact⟨0,aR _,rfl⟩
  case round=>
   obtain⟨k,hk,rfl⟩:=hrel;by_cases y:k<m
   ·go_wp2_with fail;go_round
    case rel=>exact⟨k+1,by omega,by go_num⟩
    case measure=>simp[intOf];omega
   ·have J:k=m:=by omega
    subst J;go_wp2_with fail;go_ret;exact⟨by rw[HR.out];rfl,j⟩
theorem PI(v:Value)(xs:List EnS.En)(s:iK)(follow:Bool)(w:World)(hE:Env w)(h:Ci w v xs)(W:Eo xs)(hs:s.length<=1000000):
  Calls prog 14 #[v,s,follow] w (BR (EnS.AQ xs s follow) w):=by
 have h1:=IX s hs w hE;unfold Bo at h1;have T:=DnS.Ic s;have HB:=hZ9 (λn e=>EnS.Aes (l:=xs) (s:=s) (n:=n) (e:=e) (f:=follow));have F:=hZ9 (λn=>EnS.Aet (l:=xs) (s:=s) (n:=n));have z:=hZ9 (λn=>EnS.AfJ (l:=xs) (s:=s) (n:=n));have H:=hZ9 (λh=>DnS.TE (s:=s) h);obtain⟨n,e0,C⟩:∃n e,DnS.Ax s=(n,e):=⟨_,_,rfl⟩
 rw[C] at h1 T H;simp only at h1 T H;obtain⟨a,c,A4,hc⟩:=Ad.form h;subst A4;by_cases X:e0=0
 case neg=>
  have HR:=hZ9 (HB.out n e0 C X);have A2:(e0 !=0)=true:=by simpa using X
  clear HB F z C H h W;generalize xs.length=m at*;go_enter func14,ntmps14;go_wp2_with fail;refine h1.mono ?_;rintro e w1 ⟨rfl,A⟩;go_wp2_with fail
  go_ret3
  exact BR.mk' HR.out A
 subst X;have A9:Hid (DnS.Ax n=(n,0)):=hZ9 (H.out rfl);have F:=hZ9 (F.out n C);have z:=hZ9 (z.out n C);have P:=λn w (hw:Ci w (.slice a xs.length c) xs)=>Ahd n _ xs w hw W.1;have E:=λn w hE (hw:Ci w (.slice a xs.length c) xs) hn=>Ag8 _ xs n w hE hw W hn;unfold Ew at P;unfold BR at E;have HI:=hZ9 h;clear HB C H h W hc;generalize A6:xs.length=m at*;clear A6;cases follow with
 |false=>
  have HX:=F;clear F z E;go_enter func14,ntmps14;go_wp2_with fail;refine h1.mono ?_;rintro e w1 ⟨rfl,A⟩;go_wp2_with fail;refine(YY n w1).mono ?_;rintro e w2 ⟨b,rfl,G,M⟩;have p:=Aa A M;go_wp2_with fail;refine wp_loop_rounds 1 ?_;rw[rounds_succ];have Q:Ci w2 (.slice a m c) xs:=HI.out.call p;by_cases d:n=[]
  ·have o:=hZ9 (HX.out.trans (EnS.Tm d));clear HX;subst d;go_wp2_with fail;refine(KY _ _ _ _ G).mono ?_;rintro e V ⟨rfl,rfl⟩;go_wp2_with fail
   go_ret3
   exact BR.mk' o.out p
  ·have Z:n.isEmpty=false:=by simpa using d
   have A1:(n==[])=false:=by simpa using d
   have A3:(n !=[])=true:=by simpa using d
   have r:=hZ9 (λh=>HX.out.trans (EnS.YZ d h));have u:=hZ9 (λh=>HX.out.trans (EnS.Ac9 h));clear d HX;have j:=P n w2 Q;cases y:EnS.inS xs n with
   |true=>
    rw[y] at j;have o:=hZ9 (u.out y);clear u r y;go_wp2_with fail;refine j.mono ?_;rintro e wy ⟨rfl,g⟩;have t:=G.call g;go_wp2_with fail;refine(KY _ _ [n] _ t).mono ?_;rintro e V ⟨rfl,rfl⟩;go_wp2_with fail
    go_ret3
    exact BR.mk' o.out (p.trans (g.mono p.size))
   |false=>
    rw[y] at j;have o:=hZ9 (r.out y);clear u r y;go_wp2_with fail;refine j.mono ?_;rintro e wy ⟨rfl,g⟩;have t:=G.call g;go_wp2_with fail;refine(Ac6 _ _ [n] _ t).mono ?_;rintro e V ⟨rfl,rfl⟩;go_wp2_with fail
    go_ret3
    exact BR.mk' o.out (p.trans (g.mono p.size))
 |true=>
  have HX:=z;clear F z;generalize EnS.AQ xs s true=R at*;go_enter func14,ntmps14;go_wp2_with fail;refine h1.mono ?_;rintro e w1 ⟨rfl,A⟩;go_wp2_with fail;refine(YY n w1).mono ?_;rintro e w2 ⟨b,rfl,G,M⟩;have p:=Aa A M;have Y:w.heap.size<=w1.heap.size:=A.size;go_wp2_with fail;go_loopw [9] (λnv wr=>∃(seen:List iK) (q:iK),nv=.string ⟨q.toArray⟩/\EQ wr w1.heap.size b seen/\1<=seen.length/\seen.length<=17/\Hid (R=EnS.Iu xs (EnS.Eh xs (18-seen.length) seen q))/\q.length<=1000000/\Below w.heap.size w wr) (λ_ wr=>18-Aas wr b)
  case atStart=>exact⟨[n],n,rfl,G,by simp,by simp,HX,by omega,p⟩
  case round=>
   obtain⟨seen,q,rfl,hT,B0,A7,K,A5,hb⟩:=hrel;clear HX;have hlen:=hT.len;obtain⟨k,hk⟩:∃k,18-seen.length=k+1:=⟨17-seen.length,by omega⟩
   rw[hk] at K;have J:=E q wr (hE.below hb) (HI.out.call hb) A5;obtain⟨tn,more,code,hS⟩:∃tn more code,EnS.stepS xs q=(tn,more,code):=⟨_,_,_,rfl⟩
   rw[hS] at J;simp only at J;by_cases L:code=0
   case neg=>
    have A2:(code !=0)=true:=by simpa using L
    have o:Hid (R=([],false,code)):=hZ9 (by rw[K.out,EnS.Aap hS L,EnS.Wu xs L]);clear hS K E hk;go_wp2_with fail;refine J.mono ?_;rintro e w3 ⟨rfl,x⟩;go_wp2_with fail
    go_ret3
    exact BR.mk' o.out (hb.trans (x.mono hb.size))
   subst L;cases more with
   |false=>
    have HX:Hid (R=EnS.GK xs seen q):=hZ9 (by rw[K.out,EnS.Aaq hS,EnS.Ac8]);clear hS K E hk;go_wp2_with fail;refine J.mono ?_;rintro e w3 ⟨rfl,x⟩;have I:=hT.call x;have i:=hb.trans (x.mono hb.size);have Q:Ci w3 (.slice a m c) xs:=HI.out.call i;by_cases d:q=[]
    ·have o:=hZ9 (HX.out.trans (EnS.Tm d));clear HX;subst d;go_wp2_with fail;refine(KY _ _ _ _ I).mono ?_;rintro e V ⟨rfl,rfl⟩;go_wp2_with fail
     go_ret3
     exact BR.mk' o.out i
    ·have Z:q.isEmpty=false:=by simpa using d
     have A1:(q==[])=false:=by simpa using d
     have A3:(q !=[])=true:=by simpa using d
     have r:=hZ9 (λh=>HX.out.trans (EnS.YZ d h));have u:=hZ9 (λh=>HX.out.trans (EnS.Ac9 h));clear d HX;have j:=P q w3 Q;cases y:EnS.inS xs q with
     |true=>
      rw[y] at j;have o:=hZ9 (u.out y);clear u r y;go_wp2_with fail;refine j.mono ?_;rintro e wy ⟨rfl,g⟩;have t:=I.call g;go_wp2_with fail;refine(KY _ _ seen _ t).mono ?_;rintro e V ⟨rfl,rfl⟩;go_wp2_with fail
      go_ret3
      exact BR.mk' o.out (i.trans (g.mono i.size))
     |false=>
      rw[y] at j;have o:=hZ9 (r.out y);clear u r y;go_wp2_with fail;refine j.mono ?_;rintro e wy ⟨rfl,g⟩;have t:=I.call g;go_wp2_with fail;refine(Ac6 _ _ seen _ t).mono ?_;rintro e V ⟨rfl,rfl⟩;go_wp2_with fail
      go_ret3
      exact BR.mk' o.out (i.trans (g.mono i.size))
   |true=>
    have B1:=EnS.Aar hS;have N:=hZ9 (λhx=>(EnS.Aeq (k:=k) (seen:=seen) hS hx));have S:=hZ9 (λhx=>(EnS.Aer (k:=k) (seen:=seen) hS hx));clear hS E;go_wp2_with fail;refine J.mono ?_;rintro e w3 ⟨rfl,x⟩;have I:=hT.call x;have i:=hb.trans (x.mono hb.size);go_wp2_with fail;refine(Ac7 b _ seen tn _ I (by omega)).mono ?_;rintro e w4 (⟨hx,rfl,rfl⟩|⟨hx,rfl,U,A0⟩)
    ·have o:Hid (R=([],false,36)):=hZ9 (by rw[K.out,N.out hx,EnS.Wu xs (by decide)]);clear hx N S K hk;go_wp2_with fail
     go_ret3
     exact BR.mk' o.out i
    ·have o:Hid (R=EnS.Iu xs (EnS.Eh xs (18-(seen++[tn]).length) (seen++[tn]) tn)):=hZ9 (by
      rw[K.out,S.out hx,show 18-(seen++[tn]).length=k by rw[aT,bE];omega])
     have A8:¬16<seen.length:=λh=>hx (.inr h);have O:=U.len;clear hx N S K;go_wp2_with fail;go_roundw
     case rel=>exact⟨seen++[tn],tn,rfl,U,by simp,by simp;omega,o,by omega,i.trans (A0.mono Y)⟩
     case measure=>rw[O,hlen,aT,bE];omega
end
