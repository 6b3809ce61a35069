/- Plain laws of the stable sort by insertion and symmetric merging: rows as functions of the index, exchanges, rotations, what is sorted. Conditions: as stated. -/
import Derived.Test.YtgngjfjaelgaeaaGreatDoorZDnj
set_option maxRecDepth 1000000
set_option maxHeartbeats 4000000
namespace Go.Proofs.YtgngjfjaelgaeaaGreatDoor
open Go.Proofs.Tryz
variable {a b g h i j m n sz:Nat} {w w0:World}
section
namespace SoS
variable {α:Type}
def Dv(f:Nat->α)(i j:Nat):Nat->α:=λk=>if k=i then f j else if k=j then f i else f k
inductive Sw (a b:Nat) (f:Nat->α):(Nat->α)->Prop
 |refl:Sw a b f f
 |swp {g:Nat->α} {i j:Nat}:Sw a b f g->a<=i->i<b->a<=j->j<b->Sw a b f (Dv g i j)
theorem Sw.trans{f g h:Nat->α}(x:Sw a b f g)(y:Sw a b g h):Sw a b f h:=by
 induction y with
 |refl=>exact x
 |swp _ h1 h2 h3 h4 ih=>exact .swp ih h1 h2 h3 h4
theorem Sw.mono{c d:Nat}{f g:Nat->α}(x:Sw a b f g)(e:c<=a)(hb:b<=d):Sw c d f g:=by
 induction x with
 |refl=>exact .refl
 |swp _ h1 h2 h3 h4 ih=>exact .swp ih (by omega) (by omega) (by omega) (by omega)
theorem Sw.out{f g:Nat->α}(x:Sw a b f g):∀k,k<a\/b<=k->g k=f k:=by
 induction x with
 |refl=>exact λ_ _=>rfl
 |swp _ h1 h2 h3 h4 ih=>intro k hk;unfold Dv;rw[aG (by omega),aG (by omega)];exact ih k hk
theorem Sw.into{f g:Nat->α}(x:Sw a b f g):∀k,a<=k->k<b->∃j,a<=j/\j<b/\g k=f j:=by
 induction x with
 |refl=>exact λk h1 h2=>⟨k,h1,h2,rfl⟩
 |swp _ h1 h2 h3 h4 ih=>
  intro k d c;unfold Dv;split
  ·exact ih _ h3 h4
  ·split
   ·exact ih _ h1 h2
   ·exact ih k d c
theorem Sw.all{f g:Nat->α}(x:Sw a b f g)(hb:b<=n){p:α->Prop}(h:∀k,k<n->p (f k)):∀k,k<n->p (g k):=λk hk=>by
 by_cases h1:a<=k/\k<b
 ·obtain⟨j,_,h2,e⟩:=x.into k h1.1 h1.2;rw[e];exact h j (by omega)
 ·rw[x.out k (by omega)];exact h k hk
theorem AeE(f:Nat->α)(i j:Nat):∀n,i<n->j<n->((List.range n).map (Dv f i j)).Perm ((List.range n).map f):=by
 intro n d c;have hp:((List.range n).map (λk=>if k=i then j else if k=j then i else k)).Perm (List.range n):=by
  refine(List.perm_ext_iff_of_nodup ?_ List.nodup_range).2 (λk=>?_)
  ·refine List.Pairwise.map _ (λa b (h:a≠b)=>?_) List.nodup_range;show (if a=i then j else if a=j then i else a)≠(if b=i then j else if b=j then i else b)
   repeat' split
   all_goals omega
  ·rw[bG,dU];constructor
   ·rintro⟨x,hx,rfl⟩;rw[dU] at hx
    repeat' split
    all_goals omega
   ·intro hk;refine⟨if k=i then j else if k=j then i else k,?_,?_⟩
    ·rw[dU]
     repeat' split
     all_goals omega
    ·repeat' split
     all_goals omega
 have e:(List.range n).map (Dv f i j)=((List.range n).map (λk=>if k=i then j else if k=j then i else k)).map f:=by
  rw[ck];refine cX (λk _=>?_);show Dv f i j k=f (if k=i then j else if k=j then i else k)
  unfold Dv
  repeat' split
  all_goals first|rfl|omega
 rw[e];exact hp.map f
theorem Sw.perm{f g:Nat->α}(x:Sw a b f g)(hb:b<=n):((List.range n).map g).Perm ((List.range n).map f):=by
 induction x with
 |refl=>exact dw _
 |swp _ h1 h2 h3 h4 ih=>exact(AeE _ _ _ n (by omega) (by omega)).trans ih
def GQ(f:Nat->α)(a b n:Nat):Nat->α:=λk=>if a<=k/\k<a+n then f (k-a+b) else if b<=k/\k<b+n then f (k-b+a) else f k
theorem Xh(f:Nat->α)(a b:Nat):GQ f a b 0=f:=by funext k;unfold GQ;rw[aG (by omega),aG (by omega)]
theorem Xi(f:Nat->α)(h:a+n<b):Dv (GQ f a b n) (a+n) (b+n)=GQ f a b (n+1):=by
 funext k;unfold Dv GQ
 repeat' split
 all_goals first|rfl|omega|(congr 1;omega)
def Ba(f:Nat->α)(a m b:Nat):Nat->α:=λk=>if a<=k/\k<b then(if k<a+(b-m) then f (k+(m-a)) else f (k-(b-m))) else f k
theorem AeF(f:Nat->α)(d:i<=m)(c:j<i):Ba (GQ f (m-i) m j) (m-(i-j)) m (m+j)=Ba f (m-i) m (m+j):=by
 funext k;unfold Ba GQ
 repeat' split
 all_goals first|rfl|omega|(congr 1;omega)
theorem AeG(f:Nat->α)(d:i<=m)(c:i<j):Ba (GQ f (m-i) (m+j-i) i) (m-i) m (m+(j-i))=Ba f (m-i) m (m+j):=by
 funext k;unfold Ba GQ
 repeat' split
 all_goals first|rfl|omega|(congr 1;omega)
theorem AeH(f:Nat->α)(c:i<=m):GQ f (m-i) m i=Ba f (m-i) m (m+i):=by
 funext k;unfold Ba GQ
 repeat' split
 all_goals first|rfl|omega|(congr 1;omega)
theorem LX(f:Nat->α){s e:Nat}(h:s=m\/e=m):Ba f s m e=f:=by
 funext k;unfold Ba
 repeat' split
 all_goals first|rfl|omega|(congr 1;omega)
theorem TQ(f:Nat->α)(a:Nat):Ba f a (a+1) (a+1)=f:=by
 funext k;unfold Ba
 repeat' split
 all_goals first|rfl|omega|(congr 1;omega)
theorem Xj(f:Nat->α){k:Nat}(h:a<=k):Dv (Ba f a (a+1) (k+1)) k (k+1)=Ba f a (a+1) (k+2):=by
 funext x;unfold Dv Ba
 repeat' split
 all_goals first|rfl|omega|(congr 1;omega)
theorem Rh(f:Nat->α)(m:Nat):Ba f m m (m+1)=f:=by
 funext k;unfold Ba
 repeat' split
 all_goals first|rfl|omega|(congr 1;omega)
theorem Adm(f:Nat->α){k:Nat}(h:k+1<=m):Dv (Ba f (k+1) m (m+1)) (k+1) k=Ba f k m (m+1):=by
 funext x;unfold Dv Ba
 repeat' split
 all_goals first|rfl|omega|(congr 1;omega)
structure Ord (lt:α->α->Bool) (Ok:α->Prop):Prop where
 asym:∀x y,lt x y=true->lt y x=false
 trans:∀x y z,Ok x->Ok y->Ok z->lt y x=false->lt z y=false->lt z x=false
def Srt(lt:α->α->Bool)(f:Nat->α)(a b:Nat):Prop:=∀i j,a<=i->i<j->j<b->lt (f j) (f i)=false
theorem Agc(lt:α->α->Bool)(f:Nat->α)(h:b<=a+1):Srt lt f a b:=λi j _ _ _=>by omega
theorem Srt.sub{lt:α->α->Bool}{f:Nat->α}{c d:Nat}(h:Srt lt f a b)(e:a<=c)(hb:d<=b):Srt lt f c d:=λi j h1 h2 h3=>h i j (by omega) h2 (by omega)
theorem Srt.congr{lt:α->α->Bool}{f g:Nat->α}(h:Srt lt f a b)(e:∀k,a<=k->k<b->g k=f k):Srt lt g a b:=λi j h1 h2 h3=>by rw[e i h1 (by omega),e j (by omega) h3];exact h i j h1 h2 h3
def LZ(lt:α->α->Bool)(f:Nat->α)(a i j:Nat):Prop:=∀p q,a<=p->p<q->q<=i->q≠j->lt (f q) (f p)=false
theorem Srt.hole{lt:α->α->Bool}{f:Nat->α}(h:Srt lt f a i):LZ lt f a i i:=λp q h1 h2 h3 h4=>h p q h1 h2 (by omega)
theorem LZ.step{lt:α->α->Bool}{Ok:α->Prop}(O:Ord lt Ok){f:Nat->α}(h:LZ lt f a i (j+1))(l:a<=j)(k:lt (f (j+1)) (f j)=true):LZ lt (Dv f (j+1) j) a i j:=by
 intro p q h1 h2 h3 h4;unfold Dv;by_cases c:q=j+1
 ·subst c;rw[aJ rfl];by_cases d:p=j
  ·subst d;rw[aG (by omega),aJ rfl];exact O.asym _ _ k
  ·rw[aG (by omega),aG d];exact h p j h1 (by omega) (by omega) (by omega)
 ·rw[aG c,aG h4];by_cases d:p=j+1
  ·subst d;rw[aJ rfl];exact h j q l (by omega) h3 c
  ·rw[aG d];by_cases e:p=j
   ·subst e;rw[aJ rfl];exact h (p+1) q (by omega) (by omega) h3 c
   ·rw[aG e];exact h p q h1 h2 h3 c
theorem LZ.done{lt:α->α->Bool}{Ok:α->Prop}(O:Ord lt Ok){f:Nat->α}(h:LZ lt f a i j)(o:j<=i)(c:∀k,k<=i->Ok (f k))(d:j=a\/∃p,j=p+1/\lt (f j) (f p)=false):Srt lt f a (i+1):=by
 intro p q h1 h2 h3;by_cases e:q=j
 ·subst e;rcases d with e|⟨r,e,d⟩
  ·omega
  ·by_cases l:p=r
   ·subst l;exact d
   ·exact O.trans (f p) (f r) (f q) (c p (by omega)) (c r (by omega)) (c q (by omega)) (h p r h1 (by omega) (by omega) (by omega)) d
 ·exact h p q h1 h2 (by omega) e
theorem AeI{lt:α->α->Bool}{Ok:α->Prop}(O:Ord lt Ok){f:Nat->α}{x:α}(p:Srt lt f a b)(c:∀k,k<b->Ok (f k))(hx:Ok x)(h1:a<=h)(h2:h<b)(o:lt (f h) x=true):∀k,a<=k->k<=h->lt (f k) x=true:=λk d q=>by
 cases hc:lt (f k) x with
 |true=>rfl
 |false=>
  have h3:lt (f h) (f k)=false:=by
   by_cases e:k=h
   ·subst e;cases l:lt (f k) (f k) with
    |false=>rfl
    |true=>have:=O.asym _ _ l;rw[l] at this;exact this
   ·exact p k h d (by omega) h2
  have:=O.trans x (f k) (f h) hx (c k (by omega)) (c h h2) hc h3;rw[this] at o;cases o
theorem Agd{lt:α->α->Bool}{Ok:α->Prop}(O:Ord lt Ok){f:Nat->α}{x:α}(o:Srt lt f a b)(d:∀k,k<b->Ok (f k))(hx:Ok x)(h1:a<=h)(h2:h<b)(l:lt (f h) x=false):∀k,h<=k->k<b->lt (f k) x=false:=λk p c=>by
 by_cases e:k=h
 ·subst e;exact l
 ·exact O.trans x (f h) (f k) hx (d h h2) (d k c) l (o h k h1 (by omega) c)
theorem AeJ{lt:α->α->Bool}{Ok:α->Prop}(O:Ord lt Ok){f:Nat->α}{x:α}(o:Srt lt f a b)(c:∀k,k<b->Ok (f k))(hx:Ok x)(h1:a<=h)(h2:h<b)(l:lt x (f h)=false):∀k,a<=k->k<=h->lt x (f k)=false:=λk d p=>by
 by_cases e:k=h
 ·subst e;exact l
 ·exact O.trans (f k) (f h) x (c k (by omega)) (c h h2) hx (o k h d (by omega) h2) l
theorem Adn{lt:α->α->Bool}{Ok:α->Prop}(O:Ord lt Ok){f:Nat->α}{x:α}(o:Srt lt f a b)(d:∀k,k<b->Ok (f k))(hx:Ok x)(h1:a<=h)(h2:h<b)(l:lt x (f h)=true):∀k,h<=k->k<b->lt x (f k)=true:=λk p c=>by
 cases hc:lt x (f k) with
 |true=>rfl
 |false=>
  by_cases e:k=h
  ·subst e;rw[l] at hc;cases hc
  ·have:=O.trans (f h) (f k) x (d h h2) (d k c) hx (o h k h1 (by omega) c) hc;rw[this] at l;cases l
theorem Yi{lt:α->α->Bool}{Ok:α->Prop}(O:Ord lt Ok){f:Nat->α}(c:Srt lt f (a+1) b)(o:a+1<=i)(d:i<=b)(h1:∀k,a+1<=k->k<i->lt (f k) (f a)=true)(h2:∀k,i<=k->k<b->lt (f k) (f a)=false):Srt lt (Ba f a (a+1) i) a b:=by
 intro p q hp l r;unfold Ba;by_cases c1:q<i
 ·rw[aJ (show a<=q/\q<i by omega),aJ (show a<=p/\p<i by omega)];rw[aJ (show p<a+(i-(a+1)) by omega)];split
  ·exact c _ _ (by omega) (by omega) (by omega)
  ·have e:q-(i-(a+1))=a:=by omega
   rw[e];exact O.asym _ _ (h1 _ (by omega) (by omega))
 ·rw[aG (show ¬(a<=q/\q<i) by omega)];split
  ·split
   ·exact c _ _ (by omega) (by omega) (by omega)
   ·have e:p-(i-(a+1))=a:=by omega
    rw[e];exact h2 _ (by omega) (by omega)
  ·exact c _ _ (by omega) (by omega) (by omega)
theorem AaN{lt:α->α->Bool}{Ok:α->Prop}(O:Ord lt Ok){f:Nat->α}(c:Srt lt f a m)(o:a<=i)(d:i<=m)(h1:∀k,a<=k->k<i->lt (f m) (f k)=false)(h2:∀k,i<=k->k<m->lt (f m) (f k)=true):Srt lt (Ba f i m (m+1)) a (m+1):=by
 intro p q hp l r;unfold Ba;by_cases c1:p<i
 ·rw[aG (show ¬(i<=p/\p<m+1) by omega)];split
  ·split
   ·have e:q+(m-i)=m:=by omega
    rw[e];exact h1 _ (by omega) (by omega)
   ·exact c _ _ (by omega) (by omega) (by omega)
  ·exact c _ _ (by omega) (by omega) (by omega)
 ·rw[aJ (show i<=p/\p<m+1 by omega),aJ (show i<=q/\q<m+1 by omega)];rw[aG (show ¬q<i+(m+1-m) by omega)];split
  ·have e:p+(m-i)=m:=by omega
   rw[e];exact O.asym _ _ (h2 _ (by omega) (by omega))
  ·exact c _ _ (by omega) (by omega) (by omega)
def Apart(lt:α->α->Bool)(f:Nat->α)(a m b:Nat):Prop:=∀p q,a<=p->p<m->m<=q->q<b->lt (f q) (f p)=false
theorem Pg{lt:α->α->Bool}{Ok:α->Prop}(O:Ord lt Ok){f:Nat->α}{s e mid:Nat}(hA:Srt lt f a m)(hB:Srt lt f m b)(d:∀k,k<b->Ok (f k))(h1:a<=s)(h2:s<=m)(h3:m<=e)(h4:e<=b)(z:mid+m=s+e)
  (y:s=a\/e=b\/lt (f e) (f (s-1))=false)(hR:e=m\/s=m\/lt (f s) (f (e-1))=false):
  Srt lt (Ba f s m e) a s/\Srt lt (Ba f s m e) s mid/\Srt lt (Ba f s m e) mid e/\Srt lt (Ba f s m e) e b/\Apart lt (Ba f s m e) a mid b:=by
 have v:∀k,k<s->Ba f s m e k=f k:=λk hk=>by unfold Ba;rw[aG (by omega)]
 have v2:∀k,s<=k->k<mid->Ba f s m e k=f (k+(m-s)):=λk u x=>by unfold Ba;rw[aJ (by omega),aJ (by omega)]
 have v3:∀k,mid<=k->k<e->Ba f s m e k=f (k-(e-m)):=λk u x=>by unfold Ba;rw[aJ (by omega),aG (by omega)]
 have v4:∀k,e<=k->Ba f s m e k=f k:=λk hk=>by unfold Ba;rw[aG (by omega)]
 have cL:∀p q,a<=p->p<s->e<=q->q<b->lt (f q) (f p)=false:=λp q p1 p2 t o=>by
  rcases y with h|h|h
  ·omega
  ·omega
  ·have r:lt (f e) (f p)=false:=by
    by_cases c:p=s-1
    ·subst c;exact h
    ·exact O.trans (f p) (f (s-1)) (f e) (d _ (by omega)) (d _ (by omega)) (d _ (by omega)) (hA p (s-1) p1 (by omega) (by omega)) h
   by_cases c:q=e
   ·subst c;exact r
   ·exact O.trans (f p) (f e) (f q) (d _ (by omega)) (d _ (by omega)) (d _ (by omega)) r (hB e q h3 (by omega) o)
 have cR:∀p q,m<=p->p<e->s<=q->q<m->lt (f q) (f p)=false:=λp q p1 p2 t o=>by
  rcases hR with h|h|h
  ·omega
  ·omega
  ·have r:lt (f s) (f p)=false:=by
    by_cases c:p=e-1
    ·subst c;exact h
    ·exact O.trans (f p) (f (e-1)) (f s) (d _ (by omega)) (d _ (by omega)) (d _ (by omega)) (hB p (e-1) p1 (by omega) (by omega)) h
   by_cases c:q=s
   ·subst c;exact r
   ·exact O.trans (f p) (f s) (f q) (d _ (by omega)) (d _ (by omega)) (d _ (by omega)) r (hA s q h1 (by omega) o)
 refine⟨λi j l i2 i3=>?_,λi j l i2 i3=>?_,λi j l i2 i3=>?_,λi j l i2 i3=>?_,λp q p1 p2 t o=>?_⟩
 ·rw[v i (by omega),v j i3];exact hA i j l i2 (by omega)
 ·rw[v2 i l (by omega),v2 j (by omega) i3];exact hB _ _ (by omega) (by omega) (by omega)
 ·rw[v3 i l (by omega),v3 j (by omega) i3];exact hA _ _ (by omega) (by omega) (by omega)
 ·rw[v4 i l,v4 j (by omega)];exact hB i j (by omega) i2 i3
 ·by_cases c1:p<s
  ·rw[v p c1];by_cases c2:q<e
   ·rw[v3 q t c2];exact hA _ _ p1 (by omega) (by omega)
   ·rw[v4 q (by omega)];exact cL p q p1 c1 (by omega) o
  ·rw[v2 p (by omega) p2];by_cases c2:q<e
   ·rw[v3 q t c2];exact cR _ _ (by omega) (by omega) (by omega) (by omega)
   ·rw[v4 q (by omega)];exact hB _ _ (by omega) (by omega) o
theorem Apart.sw{lt:α->α->Bool}{f g h:Nat->α}(x:Apart lt f a m b)(y:Sw a m f g)(z:Sw m b g h):Apart lt h a m b:=λp q p1 p2 e r=>by rw[z.out p (by omega)];obtain⟨o,p3,p4,l⟩:=y.into p p1 p2;obtain⟨c,s,d,k⟩:=z.into q e r;rw[l,k,y.out c (by omega)];exact x o c p3 p4 s d
theorem Srt.join{lt:α->α->Bool}{f:Nat->α}(h1:Srt lt f a m)(h2:Srt lt f m b)(h3:Apart lt f a m b):Srt lt f a b:=λi j c i2 i3=>by
 by_cases c1:j<m
 ·exact h1 i j c i2 c1
 ·by_cases c2:i<m
  ·exact h3 i j c c2 (by omega) i3
  ·exact h2 i j (by omega) i2 i3
theorem TU{lt:α->α->Bool}{f1 f2 d:Nat->α}{mid:Nat}(hp:Apart lt f1 a mid b)(e:Sw a mid f1 f2)(c:Sw mid b f2 d)(h2:Srt lt f2 a mid)(h3:Srt lt d mid b):Srt lt d a b:=
 Srt.join (h2.congr (λk _ hk=>c.out k (.inl hk))) h3 (hp.sw e c)
end SoS
end
section
open Go.RowKit
abbrev Cel:=iK×Option Addr×Nat×Nat
def AaO(c:Cel):Value:=.slice c.2.1 c.2.2.1 c.2.2.2
def ltC(x y:Cel):Bool:=decide (DnS.Aq x.1 y.1<0)
def OkC(c:Cel):Prop:=SeS.GM c.1/\c.1.length<=1000000
theorem Ih:SoS.Ord ltC OkC where
 asym x y h:=by have:=DnS.Da x.1 y.1;simp only[ltC,az,bg] at*;omega
 trans x y z hx hy hz h k:=by simp only[ltC,bg] at*;have h1:=DnS.Da x.1 y.1;have h2:=DnS.Da y.1 z.1;have h3:=DnS.Da x.1 z.1;have:=DnS.Lc hx.1.txt hy.1.txt hz.1.txt (a:=x.1) (b:=y.1) (c:=z.1) (by omega) (by omega);omega
def Ce(w0:World)(g n sz:Nat)(f:Nat->Cel)(w:World):Prop:=
 ∃cur:Array Value,Whole w g 52 cur/\cur.size=sz/\(∀k,k<n->cur[k*2]?=some (.string ⟨(f k).1.toArray⟩)/\cur[k*2+1]?=some (AaO (f k)))/\w0.grownBy w (some g)
theorem Ado{w':World}{row:Option Nat}(h:w0.grownBy w row)(hb:Below w.heap.size w w'):w0.grownBy w' row:=
 ⟨hb.os.trans h.os,hb.tape.trans h.tape,hb.output.trans h.output,aX h.size hb.size,λk hk c=>(hb.block k (ae hk h.size)).trans (h.block k hk c)⟩
theorem Mc(h:w0.grownBy w (some g))(i:Nat)(v:Value):w0.grownBy (w.setCell ⟨g,i,none⟩ v) (some g):=
 ⟨h.os,h.tape,h.output,by rw[World.size_setCell];exact h.size,λk hk c=>(Below.heap_setCell w ⟨g,i,none⟩ v k (λe=>c (by rw[e]))).trans (h.block k hk c)⟩
theorem TV{row:Option Nat}(h:w0.grownBy w row):w0.grownBy w.drew row:=⟨h.os,h.tape,h.output,h.size,h.block⟩
theorem Ce.call{w':World}{f:Nat->Cel}(h:Ce w0 g n sz f w)(hb:Below w.heap.size w w'):Ce w0 g n sz f w':=by obtain⟨cur,h1,h2,h3,h4⟩:=h;exact⟨cur,h1.call hb,h2,h3,Ado h4 hb⟩
theorem Ce.drew{f:Nat->Cel}(h:Ce w0 g n sz f w):Ce w0 g n sz f w.drew:=by obtain⟨cur,h1,h2,h3,h4⟩:=h;exact⟨cur,h1.drew,h2,h3,TV h4⟩
theorem Ce.grown{f:Nat->Cel}(h:Ce w0 g n sz f w):w0.grownBy w (some g):=by obtain⟨cur,h1,h2,h3,h4⟩:=h;exact h4
theorem Ce.read{f:Nat->Cel}(h:Ce w0 g n sz f w)(k:Nat)(hk:k<n):
  ∃(A:Nat) (x:iK) (a:Option Addr) (m c:Nat),k*2=A/\f k=(x,a,m,c)/\w.cell? ⟨g,A,none⟩=some (.string ⟨x.toArray⟩)/\w.cell? ⟨g,A+1,none⟩=some (.slice a m c):=by
 obtain⟨cur,h1,h2,h3,h4⟩:=h;obtain⟨c0,c1⟩:=h3 k hk;exact⟨_,(f k).1,(f k).2.1,(f k).2.2.1,(f k).2.2.2,rfl,rfl,(h1.cell _).trans c0,(h1.cell _).trans c1⟩
theorem Ce.exch{f:Nat->Cel}(h:Ce w0 g n sz f w)(i j:Nat)(C:i<n)(y:j<n)(z:i≠j):
  ∃(A B:Nat) (t:iK) (l:Option Addr) (p r:Nat) (q:iK) (u:Option Addr) (v s:Nat),(i*2=A/\j*2=B)/\(¬A=B/\¬B=A/\¬A+1=B/\¬A=B+1/\¬B=A+1/\¬B+1=A)/\
   (w.cell? ⟨g,A,none⟩=some (.string ⟨t.toArray⟩)/\w.cell? ⟨g,A+1,none⟩=some (.slice l p r)/\w.cell? ⟨g,B,none⟩=some (.string ⟨q.toArray⟩)/\w.cell? ⟨g,B+1,none⟩=some (.slice u v s))/\
   (w.frozen? ⟨g,A,none⟩=false/\w.frozen? ⟨g,A+1,none⟩=false/\w.frozen? ⟨g,B,none⟩=false/\w.frozen? ⟨g,B+1,none⟩=false)/\
   Ce w0 g n sz (SoS.Dv f i j) ((((w.drew.setCell ⟨g,A,none⟩ (.string ⟨q.toArray⟩)).setCell ⟨g,A+1,none⟩ (.slice u v s)).setCell ⟨g,B,none⟩ (.string ⟨t.toArray⟩)).setCell ⟨g,B+1,none⟩ (.slice l p r)):=by
 obtain⟨cur,h1,h2,h3,h4⟩:=h;obtain⟨a0,a1⟩:=h3 i C;obtain⟨x,o⟩:=h3 j y;have F:i*2+1<cur.size:=(ah.1 a1).1;have E:j*2+1<cur.size:=(ah.1 o).1;refine⟨_,_,(f i).1,(f i).2.1,(f i).2.2.1,(f i).2.2.2,(f j).1,(f j).2.1,(f j).2.2.1,(f j).2.2.2,⟨rfl,rfl⟩,by omega,⟨(h1.cell _).trans a0,(h1.cell _).trans a1,(h1.cell _).trans x,(h1.cell _).trans o⟩,⟨h1.thaw _,h1.thaw _,h1.thaw _,h1.thaw _⟩,?_⟩;refine⟨_,(((h1.drew.put _ _).put _ _).put _ _).put _ _,by simp only[gB];exact h2,λk hk=>?_,Mc (Mc (Mc (Mc (TV h4) _ _) _ _) _ _) _ _⟩;obtain⟨c0,c1⟩:=h3 k hk;simp only[fD,gB];by_cases d:k=i
 ·have c:SoS.Dv f i j k=f j:=by unfold SoS.Dv;exact aJ d
  rw[c];subst d;constructor
  ·rw[aG (by omega),aG (by omega),aG (by omega),aJ rfl,aJ (by omega)]
  ·rw[aG (by omega),aG (by omega),aJ rfl,aJ (by omega)];rfl
 ·by_cases e:k=j
  ·have c:SoS.Dv f i j k=f i:=by unfold SoS.Dv;rw[aG d];exact aJ e
   rw[c];subst e;constructor
   ·rw[aG (by omega),aJ rfl,aJ (by omega)]
   ·rw[aJ rfl,aJ (by omega)];rfl
  ·have c:SoS.Dv f i j k=f k:=by unfold SoS.Dv;rw[aG d];exact aG e
   rw[c];constructor
   ·rw[aG (by omega),aG (by omega),aG (by omega),aG (by omega)];exact c0
   ·rw[aG (by omega),aG (by omega),aG (by omega),aG (by omega)];exact c1
end
section
open Go.RowKit
theorem Zn(x:iK)(w:World):Calls prog 192 #[x] w λe w'=>e=.returned false/\w=w':=by go_enter func192,ntmps192;go_wp2_with fail;go_ret;exact⟨rfl,rfl⟩
theorem AeK(x y:iK)(w:World):Calls prog 163 #[x,y] w λe w'=>e=.returned (.int .i64 (Lib.compareBytes x y))/\w=w':=by
 have f:=λw=>Zn x w;have c:=λw=>Zn y w;cases h1:Op.bytesLess x y with
 |true=>have HR:=hZ9 (cmp_lt h1);go_enter func163,ntmps163;go_wp2_with fail;refine(f _).mono ?_;rintro e w1 ⟨rfl,rfl⟩;go_wp2_with fail;refine(c _).mono ?_;rintro e w2 ⟨rfl,rfl⟩;go_wp2_with fail;go_ret;exact⟨by rw[HR.out];rfl,rfl⟩
 |false=>
  cases h2:Op.bytesLess y x with
  |true=>
   have HR:=hZ9 (cmp_gt h2);have d:(x==y)=false:=by rw[RuS.eq_iff,HR.out];rfl
   go_enter func163,ntmps163;go_wp2_with fail;refine(f _).mono ?_;rintro e w1 ⟨rfl,rfl⟩;go_wp2_with fail;refine(c _).mono ?_;rintro e w2 ⟨rfl,rfl⟩;go_wp2_with fail;go_ret;exact⟨by rw[HR.out];rfl,rfl⟩
  |false=>
   have HR:=hZ9 (cmp_eq h1 h2);have d:(x==y)=true:=by rw[RuS.eq_iff,HR.out];rfl
   go_enter func163,ntmps163;go_wp2_with fail;refine(f _).mono ?_;rintro e w1 ⟨rfl,rfl⟩;go_wp2_with fail;refine(c _).mono ?_;rintro e w2 ⟨rfl,rfl⟩;go_wp2_with fail;go_ret;exact⟨by rw[HR.out];rfl,rfl⟩
theorem AaP(C v2:Value)(xs ys:List iK)(w:World)(h1:Ah w C xs)(h2:Ah w v2 ys)(S:xs.length<=1000)(K:ys.length<=1000):Calls prog 131 #[C,v2] w (AfA (DnS.cmpL xs ys) w):=by
 obtain⟨a1,c1,rfl⟩:=h1.form;obtain⟨a2,c2,rfl⟩:=h2.form;obtain⟨-,P,C1⟩:=h1.cells;obtain⟨-,O,G⟩:=h2.cells;have t:=hZ9 C1;have z:=hZ9 G;clear h1 h2 C1 G;generalize I:xs.length=n at*;generalize F:ys.length=m at*;have A:=hZ9 I;have s:=hZ9 F;clear I F;go_enter func131,ntmps131;go_wp2_with fail;go_loop [11] (λi=>∃k:Nat,k<=n/\k<=m/\i=.int .i64 k/\Hid (DnS.cmpL xs ys=DnS.cmpL (xs.drop k) (ys.drop k))) (λi=>n-(intOf i).toNat)
 case atStart=>exact⟨0,aR _,aR _,rfl,hZ9 rfl⟩
 case round=>
  obtain⟨k,hk,Q,rfl,o⟩:=hrel;by_cases v:k<n
  ·have f:k<xs.length:=by rw[A.out];exact v
   obtain⟨g1,R,rfl,N,d1⟩:=t.out k _ (aK f);by_cases d:k<m
   ·have l:k<ys.length:=by rw[s.out];exact d
    obtain⟨g2,o2,rfl,J,d2⟩:=z.out k _ (aK l);have E:=hZ9 (DnS.Tf k xs ys xs[k] ys[k] (aK f) (aK l));generalize xs[k]=x at*;generalize ys[k]=y at*;unfold Ac at d1 d2;have p:=λw=>AeK x y w;generalize Lib.compareBytes x y=q at*;have L:decide ((m:Int)<=(k:Int))=false:=aB (by omega);have H:decide (m<=k)=false:=aB (by omega);clear f l;by_cases u:q=0
    ·subst u;have c:Hid (DnS.cmpL xs ys=DnS.cmpL (xs.drop (k+1)) (ys.drop (k+1))):=hZ9 (by rw[o.out,E.out,aJ rfl]);go_wp2_with fail;refine(p _).mono ?_;rintro e w1 ⟨rfl,rfl⟩;go_wp2_with fail;go_round
     case rel=>exact⟨k+1,by omega,by omega,by go_num,c⟩
     case measure=>simp[intOf];omega
    ·have c:Hid (DnS.cmpL xs ys=q):=hZ9 (by rw[o.out,E.out,aG u]);have M:(q !=0)=true:=by simpa using u
     go_wp2_with fail;refine(p _).mono ?_;rintro e w1 ⟨rfl,rfl⟩;go_wp2_with fail;go_ret;exact⟨by rw[c.out];rfl,rfl⟩
   ·have r:k=m:=by omega
    subst r;have c:Hid (DnS.cmpL xs ys=1):=hZ9 (by rw[o.out,DnS.Ti f (by rw[s.out];exact aA _)]);generalize xs[k]=x at*;unfold Ac at d1;clear f;go_wp2_with fail;go_ret;exact⟨by rw[c.out];rfl,rfl⟩
  ·have B:k=n:=by omega
   subst B;by_cases d:k<m
   ·have c:Hid (DnS.cmpL xs ys=-1):=hZ9 (by rw[o.out,DnS.Tj (by rw[A.out];exact aA _) (by rw[s.out];exact d)]);go_wp2_with fail;go_ret;exact⟨by rw[c.out];rfl,rfl⟩
   ·have c:Hid (DnS.cmpL xs ys=0):=hZ9 (by rw[o.out,DnS.Wi (by rw[A.out];exact aA _) (by rw[s.out];omega)]);go_wp2_with fail;go_ret;exact⟨by rw[c.out];rfl,rfl⟩
def AgH(B:Nat)(v:Value)(xs:List iK)(w:World)(e:Ending)(w':World):Prop:=e=.returned (.tuple #[])/\Ah w' v xs.reverse/\Below B w w'/\∀k,k<w.heap.size->v.ownBlock≠some k->w'.heap[k]?=w.heap[k]?
theorem TW(v:Value)(xs:List iK)(w:World)(B:Nat)(h:Own w B v xs)(I:xs.length<=1000):Calls prog 130 #[v] w (AgH B v xs w):=by
 have z:=h.strs;rcases h.2 with⟨rfl,o⟩|⟨g,cap,cur,rfl,A,x,o,H,hsz,E⟩
 ·have hx:xs=[]:=aY o;subst hx;refine(slices_Reverse_string_empty none 0 w).mono ?_;rintro e w' ⟨rfl,rfl⟩;exact⟨rfl,Ah.empty _,Below.refl _ _,λ_ _ _=>rfl⟩
 ·have t:g<w.heap.size:=(ah.1 x).1;have hc:∀j,j<xs.length->w.cell? ⟨g,0+j,none⟩=some (.string (⟨(xs.getD j []).toArray⟩:ByteArray)):=λj d=>by
   obtain⟨-,-,C⟩:=z.cells;obtain⟨F,G,e,_,p⟩:=C j _ (aK d);cases e;rw[p,dC,aK d];rfl
  have u:∀j,j<xs.length->w.frozen? ⟨g,0+j,none⟩=false:=λj d=>by simp[World.frozen?,x]
  refine(slices_Reverse_string_cells g 0 xs.length cap (λj=>⟨(xs.getD j []).toArray⟩) w (by omega) hc u).mono ?_;rintro e w' ⟨rfl,q,rfl⟩;have r:Lib.strsOf (λj=>(⟨(xs.getD j []).toArray⟩:ByteArray)) xs.length=xs:=by
   unfold Lib.strsOf;apply fq
   ·simp
   ·intro i h1 h2;simp[List.getD_eq_getElem?_getD,List.getElem?_eq_getElem h2]
  rw[r];have l:xs.reverse.map encStr=xs.reverse.map Ac:=rfl;rw[l];have c:(w.drewN q).there g 0 (xs.reverse.map Ac).length:=by
   intro j d;have f:j<xs.length:=by simpa using d
   refine⟨?_,u j f⟩;show (w.cell? ⟨g,0+j,none⟩).isSome=true
   rw[hc j f];rfl
  have hb:Below B w ((w.drewN q).setCells g 0 (xs.reverse.map Ac)):=OS A _ _ _ ((below_drewN w q).mono (by omega));refine⟨rfl,⟨some ⟨g,0,none⟩,cap,by rw[bn],by rw[bn];exact o,.inr ⟨g,0,rfl,ae t hb.size,?_⟩⟩,hb,?_⟩
  ·intro j y d;exact World.rangeAt_setCells_same (w.drewN q) g 0 (xs.reverse.map Ac) c j (Ac y) (by rw[ba,d];rfl)
  ·intro k hk s;exact World.heap_setCells_other (w.drewN q) g 0 _ hk (λe=>s (by rw[e];rfl))
theorem UC{a b:iK}(h:¬((DnS.Ae a).2=0/\(DnS.Ae b).2=0)):DnS.Aq a b=0:=by unfold DnS.Aq;rw[aG h]
theorem UD{a b:iK}{tx ty:List iK}(h:DnS.Ae a=(tx,0))(k:DnS.Ae b=(ty,0)):DnS.Aq a b=DnS.ER tx ty:=by unfold DnS.Aq;rw[h,k,aJ ⟨rfl,rfl⟩]
theorem Yj(a b:iK)(S:a.length<=1000000)(hb0:b.length<=1000000)(w:World)(hE:Env w):Calls prog 96 #[a,b] w (UE (DnS.Aq a b) w):=by
 have hp:=DY a S w hE;have s:=λw hE=>DY b hb0 w hE;unfold CP at hp s;have z:=(DnS.Dh a).1;have A:=(DnS.Dh b).1;have d:=hZ9 (UC (a:=a) (b:=b));obtain⟨X,C⟩:∃X,DnS.Ae a=X:=⟨_,rfl⟩
 obtain⟨Y,E⟩:∃Y,DnS.Ae b=Y:=⟨_,rfl⟩
 rw[C] at hp z;rw[E] at s A;rw[C,E] at d;obtain⟨tx,ex⟩:=X;obtain⟨ty,O⟩:=Y;simp only at hp s z A d;have HX:=hZ9 C;have U:=hZ9 E;clear C E;by_cases hx:ex=0
 ·subst hx;by_cases I:O=0
  ·subst I;have HR:=hZ9 (UD HX.out U.out);clear d;go_enter func96,ntmps96;go_wp2_with fail;refine hp.mono ?_;rintro e w1 ⟨t,rfl,p,c⟩;go_wp2_with fail;refine(s _ (hE.below c)).mono ?_;rintro e w2 ⟨v2,rfl,l,f⟩;have v:=p.call f;go_wp2_with fail;refine(TW t tx _ w.heap.size v (by omega)).mono ?_;rintro e w3 ⟨rfl,F,B,J⟩;have q:∀k,t.ownBlock=some k->v2.ownBlock≠some k:=λk h1 h2=>by
    have Z:=Dz p h1;have W:=Dz l h2;omega
   have x:Own w3 w1.heap.size v2 ty:=l.kept (λk hk=>J k (Dz l hk).2 (λh=>q k h hk));have V:w2.heap.size<=w3.heap.size:=B.size;go_wp2_with fail;refine(TW v2 ty _ w1.heap.size x (by omega)).mono ?_;rintro e w4 ⟨rfl,N,u,L⟩;have M:w3.heap.size<=w4.heap.size:=u.size;have K:Ah w4 t tx.reverse:=by
    obtain⟨a1,c1,rfl,H,r⟩:=F;refine⟨a1,c1,rfl,H,?_⟩;rcases r with h|⟨g,o,rfl,P,hcell⟩
    ·exact .inl h
    ·have G:w4.heap[g]?=w3.heap[g]?:=L g P (λh=>q g rfl h);exact .inr ⟨g,o,rfl,ae P M,λj y R=>(World.cell?_of_block (a:=⟨g,o+j,none⟩) G).trans (hcell j y R)⟩
   have T:Hid (Below w.heap.size w w4):=hZ9 ((c.trans (f.mono c.size)).trans ((B.trans (u.mono c.size))));go_wp2_with fail;refine(AaP t v2 tx.reverse ty.reverse _ K N (by rw[bn];omega) (by rw[bn];omega)).mono ?_;rintro e w5 ⟨rfl,rfl⟩;go_wp2_with fail;go_ret;exact⟨by rw[HR.out];rfl,T.out⟩
  ·have HR:=hZ9 (d.out (λh=>I h.2));have Q:(O !=0)=true:=by simpa using I
   go_enter func96,ntmps96;go_wp2_with fail;refine hp.mono ?_;rintro e w1 ⟨t,rfl,p,c⟩;go_wp2_with fail;refine(s _ (hE.below c)).mono ?_;rintro e w2 ⟨v2,rfl,l,f⟩;go_wp2_with fail;go_ret;exact⟨by rw[HR.out];rfl,Aa c f⟩
 ·have HR:=hZ9 (d.out (λh=>hx h.1));have hex:(ex !=0)=true:=by simpa using hx
  go_enter func96,ntmps96;go_wp2_with fail;refine hp.mono ?_;rintro e w1 ⟨t,rfl,p,c⟩;go_wp2_with fail;refine(s _ (hE.below c)).mono ?_;rintro e w2 ⟨v2,rfl,l,f⟩;go_wp2_with fail;go_ret;exact⟨by rw[HR.out];rfl,Aa c f⟩
end
section
open Go.RowKit
attribute [local go_sem ↓] Go.wp_at_zero Go.wp_at_succ
def Ff:Value:=.func (.func 95) #[] #[]
theorem NR(x y:iK)(f:Option Addr)(l o:Nat)(t:Option Addr)(r s:Nat)(W:World)(hE:Env W)(hx:x.length<=1000000)(u:y.length<=1000000):
  Calls prog 95 #[.agg #[x,.slice f l o],.agg #[y,.slice t r s]] W λe w'=>e=.returned (.int .i64 (DnS.Aq x y))/\Below W.heap.size W w':=by
 have d:=Af W (.cells #[x,.slice f l o] 52);have c:=Af (W.alloc (.cells #[x,.slice f l o] 52)) (.cells #[y,.slice t r s] 52);have q:=Aa d c;have hc:=Yj x y hx u _ (hE.below q);unfold UE at hc;clear d c;go_enter func95,ntmps95;go_wp2_with fail;refine hc.mono ?_;rintro e w1 ⟨rfl,p⟩;have k:=Aa q p;go_wp2_with fail;go_ret;exact⟨rfl,k⟩
def FH(w0:World)(g n sz:Nat)(P:(Nat->Cel)->Prop)(e:Ending)(w:World):Prop:=e=.returned (.tuple #[])/\∃f,P f/\Ce w0 g n sz f w
theorem Adp(w0:World)(g n sz cap:Nat)(hsz:n<1000000000)(HE:∀w,w0.grownBy w (some g)->Env w)(a b:Nat)(B1:a<=b)(hb:b<=n)(f:Nat->Cel)(V:∀k,k<n->OkC (f k))(w:World)(hw:Ce w0 g n sz f w):
  Calls prog 161 #[.slice (some ⟨g,0,none⟩) n cap,a,b,Ff] w (FH w0 g n sz (λE=>SoS.Sw a b f E/\SoS.Srt ltC E a b)):=by
 unfold Ff FH;have G:=hZ9 V;have HW:=hZ9 hw;have Y:=hZ9 HE;clear V hw HE;obtain⟨a1,A8⟩:∃a1:Nat,(a:Int)+1=(a1:Int):=⟨a+1,by omega⟩
 have C5:IntKind.i64.wrap (a1:Int)=(a1:Int):=by rw[IntKind.wrap_i64];omega
 go_enter func161,ntmps161
 go_wp2
 go_loopg [8] n (λg1 vi wr=>∃(i:Nat) (E:Nat->Cel),vi=.int .i64 i/\a+1<=i/\i<=b+1/\n+1-i<=g1/\Hid (SoS.Sw a b f E)/\Hid (SoS.Srt ltC E a i)/\Hid (Ce w0 g n sz E wr))
 case atStart=>exact⟨a1,f,rfl,by omega,by omega,by omega,hZ9 .refl,hZ9 (SoS.Agc _ _ (by omega)),HW⟩
 case round=>
  obtain⟨i,E,rfl,C2,C1,C0,L,J,HR⟩:=hrel;by_cases B9:i<b
  ·have hz:(i:Int)<(b:Int):=by omega
   obtain⟨i2,B6⟩:∃i2:Nat,(i:Int)+1=(i2:Int):=⟨i+1,by omega⟩
   have B8:IntKind.i64.wrap (i2:Int)=(i2:Int):=by rw[IntKind.wrap_i64];omega
   go_wp2
   go_loopg [9] i (λg2 vj wr=>∃(j:Nat) (h:Nat->Cel),vj=.int .i64 j/\a<=j/\j<=i/\j<=g2/\Hid (SoS.Sw a b f h)/\Hid (SoS.LZ ltC h a i j)/\Hid (Ce w0 g n sz h wr))
   case atStart=>exact⟨i,E,rfl,by omega,aA _,aA _,L,hZ9 J.out.hole,HR⟩
   case round=>
    obtain⟨j,h,rfl,A9,Q,A3,l,C,p⟩:=hrel;clear L J HR;by_cases B0:a<j
    ·have A1:(a:Int)<(j:Int):=by omega
     obtain⟨o,C3⟩:∃o:Nat,(j:Int)-1=(o:Int):=⟨j-1,by omega⟩
     have B4:IntKind.i64.wrap (o:Int)=(o:Int):=by rw[IntKind.wrap_i64];omega
     have P:j=o+1:=by omega
     have H:=hZ9 P;clear P;obtain⟨A,x,xa,xm,X,hA,K,cA,r⟩:=p.out.drew.read j (by omega);obtain⟨B,y,ya,ym,Z,hB,M,O,u⟩:=p.out.drew.read o (by omega);have v:=(l.out.all hb G.out j (by omega)).2;have z:=(l.out.all hb G.out o (by omega)).2;rw[K] at v;rw[M] at z;have s:Hid (ltC (h (o+1)) (h o)=decide (DnS.Aq x y<0)):=hZ9 (by rw[<-H.out,K,M];rfl);have q:=NR x y xa xm X ya ym Z wr.drew (Y.out _ p.out.drew.grown) v z;have jj:(j:Int)<(n:Int):=by omega
     have C4:(o:Int)<(n:Int):=by omega
     clear K M v z;obtain⟨CB,S⟩:∃c,DnS.Aq x y=c:=⟨_,rfl⟩
     rw[S] at s q;clear S;cases F:decide (CB<0) with
     |true=>
      have A0:CB<0:=b7 F;rw[F] at s;go_wp2_with fail
      go_region_held3 (λW=>W.cell? ⟨g,A,none⟩=some (.string ⟨x.toArray⟩)/\W.cell? ⟨g,A+1,none⟩=some (.slice xa xm X)/\W.cell? ⟨g,B,none⟩=some (.string ⟨y.toArray⟩)/\W.cell? ⟨g,B+1,none⟩=some (.slice ya ym Z)) (first|exact⟨cA,r,O,u⟩|exact⟨Ab cA d,Ab r d,Ab O d,Ab u d⟩)
       (first|(go_at_call 95;(with_reducible refine q.mono ?_);rintro e w5 ⟨rfl,d⟩))
      all_goals(
       have t:=hZ9 (p.out.drew.call d);clear cA r O u q d hA hB p)
      obtain⟨A2,B2,x1,A7,A4,A5,y1,B5,B3,A6,⟨hA2,B7⟩,⟨n1,n2,n3,n4,n5,n6⟩,⟨c1,c2,c3,c4⟩,⟨f1,f2,f3,f4⟩,I⟩:=t.out.exch j o (by omega) (by omega) (by omega);have U:=hZ9 I;have T:Hid (SoS.Sw a b f (SoS.Dv h j o)):=hZ9 (.swp l.out (by omega) (by omega) (by omega) (by omega));have R:Hid (SoS.LZ ltC (SoS.Dv h j o) a i o):=hZ9 (by
       have e:=H.out;have ho:=C.out;rw[e] at ho⊢;exact SoS.LZ.step Ih ho (by omega) s.out)
      clear I l C s t;generalize SoS.Dv h j o=h6 at*
      go_wp2
      go_region
      all_goals go_wp2
      go_roundg o
      case measure=>omega
      case rel=>exact⟨o,h6,by go_num,by omega,by omega,aA _,T,R,U⟩
     |false=>
      have A0:¬CB<0:=bf F;rw[F] at s;have N:Hid (SoS.Srt ltC h a (i+1)):=hZ9 (C.out.done Ih Q (λk hk=>l.out.all hb G.out k (by omega)) (.inr ⟨o,H.out,by rw[H.out];exact s.out⟩));go_wp2_with fail
      go_region_held3 (λW=>W.cell? ⟨g,A,none⟩=some (.string ⟨x.toArray⟩)/\W.cell? ⟨g,A+1,none⟩=some (.slice xa xm X)/\W.cell? ⟨g,B,none⟩=some (.string ⟨y.toArray⟩)/\W.cell? ⟨g,B+1,none⟩=some (.slice ya ym Z)) (first|exact⟨cA,r,O,u⟩|exact⟨Ab cA d,Ab r d,Ab O d,Ab u d⟩)
       (first|(go_at_call 95;(with_reducible refine q.mono ?_);rintro e w5 ⟨rfl,d⟩))
      all_goals(
       have t:=hZ9 (p.out.drew.call d);clear cA r O u q d hA hB p)
      go_wp2
      go_roundg (n+1-i2)
      case measure=>omega
      case rel=>exact⟨i2,h,by go_num,by omega,by omega,aA _,l,by(have e:i2=i+1:=by omega);rw[e];exact N,t⟩
    ·have A1:¬(a:Int)<(j:Int):=by omega
     have N:Hid (SoS.Srt ltC h a (i+1)):=hZ9 (C.out.done Ih Q (λk hk=>l.out.all hb G.out k (by omega)) (.inl (by omega)));go_wp2_with fail
     go_quiet (fail)
     have t:=hZ9 (p.out.call (below_drewN wr nq))
     go_wp2
     go_roundg (n+1-i2)
     case measure=>omega
     case rel=>exact⟨i2,h,by go_num,by omega,by omega,aA _,l,by(have e:i2=i+1:=by omega);rw[e];exact N,t⟩
  ·have hz:¬(i:Int)<(b:Int):=by omega
   go_wp2
   go_end0
   exact⟨rfl,E,⟨L.out,J.out.sub (aA _) (by omega)⟩,HR.out⟩
theorem Yk(w0:World)(g n sz cap:Nat)(hsz:n<1000000000)(a b m:Nat)(E:a+m<=b)(hb:b+m<=n)(f:Nat->Cel)(w:World)(o:Ce w0 g n sz f w):
  Calls prog 216 #[.slice (some ⟨g,0,none⟩) n cap,a,b,m,Ff] w (FH w0 g n sz (λp=>p=SoS.GQ f a b m)):=by
 unfold FH;have t:Hid (Ce w0 g n sz (SoS.GQ f a b 0) w):=hZ9 (by rw[SoS.Xh];exact o);clear o;go_enter func216,ntmps216
 go_wp2
 go_loopg [10] m (λg1 v wr=>∃(i:Nat),v=.int .i64 i/\i<=m/\m-i<=g1/\Hid (Ce w0 g n sz (SoS.GQ f a b i) wr))
 case atStart=>exact⟨0,rfl,aR _,by omega,t⟩
 case round=>
  obtain⟨i,rfl,r,q,HR⟩:=hrel;by_cases k:i<m
  ·have d:(i:Int)<(m:Int):=by omega
   obtain⟨A,B,L,C,N,y,K,G,R,z,⟨hA,hB⟩,⟨I,M,n3,n4,n5,n6⟩,⟨c1,c2,c3,c4⟩,⟨f1,f2,F,f4⟩,c⟩:=HR.out.exch (a+i) (b+i) (by omega) (by omega) (by omega);have x:IntKind.i64.wrap ((a:Int)+(i:Int))=(a:Int)+(i:Int):=by rw[IntKind.wrap_i64];omega
   have Q:IntKind.i64.wrap ((b:Int)+(i:Int))=(b:Int)+(i:Int):=by rw[IntKind.wrap_i64];omega
   have J:((a:Int)+(i:Int)).toNat=a+i:=by omega
   have H:((b:Int)+(i:Int)).toNat=b+i:=by omega
   have O:(a:Int)+(i:Int)<(n:Int):=by omega
   have P:(b:Int)+(i:Int)<(n:Int):=by omega
   have s:(0:Int)<=(a:Int)+(i:Int):=by omega
   have u:(0:Int)<=(b:Int)+(i:Int):=by omega
   rw[SoS.Xi f (by omega)] at c;have e:=hZ9 c;clear c HR
   go_wp2
   go_region
   all_goals go_wp2
   go_roundg (m-(i+1))
   case measure=>omega
   case rel=>exact⟨i+1,by go_num,k,aA _,e⟩
  ·have d:¬(i:Int)<(m:Int):=by omega
   have l:i=m:=by omega
   subst l
   go_wp2
   go_end0
   first|exact⟨rfl,HR.out⟩|exact⟨rfl,_,rfl,HR.out⟩
theorem Ri(f:Nat->Cel){a b m lo c:Nat}(e:a+m<=b)(k:lo<=a)(d:b+m<=c):∀i,i<=m->SoS.Sw lo c f (SoS.GQ f a b i)
 |0,_=>by rw[SoS.Xh];exact .refl
 |i+1,h=>by rw[<-SoS.Xi f (by omega)];exact .swp (Ri f e k d i (by omega)) (by omega) (by omega) (by omega) (by omega)
theorem AeL(w0:World)(g n sz cap:Nat)(hsz:n<1000000000)(a m b:Nat)(K:a<m)(R:m<b)(hb:b<=n)(f:Nat->Cel)(w:World)(v:Ce w0 g n sz f w):
  Calls prog 191 #[.slice (some ⟨g,0,none⟩) n cap,.int .i64 a,.int .i64 m,.int .i64 b,Ff] w (FH w0 g n sz (λc=>c=SoS.Ba f a m b/\SoS.Sw a b f c)):=by
 have u:=λa b m h1 h2 f w v=>Yk w0 g n sz cap hsz a b m h1 h2 f w v;unfold FH Ff at*;have t:=hZ9 u;have H:=hZ9 v;clear u v;obtain⟨i0,J⟩:∃i0:Nat,(m:Int)-(a:Int)=(i0:Int):=⟨m-a,by omega⟩
 obtain⟨o,Q⟩:∃o:Nat,(b:Int)-(m:Int)=(o:Int):=⟨b-m,by omega⟩
 have P:IntKind.i64.wrap (i0:Int)=(i0:Int):=by rw[IntKind.wrap_i64];omega
 have L:IntKind.i64.wrap (o:Int)=(o:Int):=by rw[IntKind.wrap_i64];omega
 go_enter func191,ntmps191
 go_wp2
 go_loopg [10,11] (i0+o) (λg1 S O wr=>∃(i j:Nat) (c:Nat->Cel),S=.int .i64 i/\O=.int .i64 j/\1<=i/\1<=j/\i+a<=m/\m+j<=b/\i+j<=g1/\Hid (SoS.Ba c (m-i) m (m+j)=SoS.Ba f a m b)/\Hid (SoS.Sw a b f c)/\Hid (Ce w0 g n sz c wr))
 case atStart=>exact⟨i0,o,f,rfl,rfl,by omega,by omega,by omega,by omega,aA _,hZ9 (by(have e1:m-i0=a:=by omega);(have e2:m+o=b:=by omega);rw[e1,e2]),hZ9 .refl,H⟩
 case round=>
  obtain⟨i,j,c,rfl,rfl,B,C,G,A,N,k,d,x⟩:=hrel;clear H;obtain⟨p,hp⟩:∃p:Nat,(m:Int)-(i:Int)=(p:Int):=⟨m-i,by omega⟩
  have wp:IntKind.i64.wrap (p:Int)=(p:Int):=by rw[IntKind.wrap_i64];omega
  have HP:Hid (m-i=p):=hZ9 (by omega);by_cases y:i=j
  ·subst y;have F:((i:Int) !=(i:Int))=false:=by simp
   go_wp2_with (go_at_call 216;refine(t.out p m i (by omega) (by omega) c _ x.out).mono ?_;rintro e w1 ⟨rfl,f2,rfl,l⟩)
   go_end0
   exact⟨rfl,_,⟨by rw[<-k.out,<-HP.out];exact SoS.AeH c (by omega),d.out.trans (Ri c (by omega) (by omega) (by omega) i (aA _))⟩,l⟩
  ·have F:((i:Int) !=(j:Int))=true:=by simp;omega
   by_cases z:j<i
   ·have M:(j:Int)<(i:Int):=by omega
    obtain⟨q,I⟩:∃q:Nat,(i:Int)-(j:Int)=(q:Int):=⟨i-j,by omega⟩
    have T:IntKind.i64.wrap (q:Int)=(q:Int):=by rw[IntKind.wrap_i64];omega
    go_wp2_with (go_at_call 216;refine(t.out p m j (by omega) (by omega) c _ x.out).mono ?_;rintro e w1 ⟨rfl,f2,rfl,l⟩)
    go_roundg (q+j)
    case measure=>omega
    case rel=>exact⟨q,j,_,rfl,rfl,by omega,C,by omega,A,aA _,hZ9 (by(have e1:m-q=m-(i-j):=by omega);rw[e1,<-HP.out,SoS.AeF c (by omega) z];exact k.out),hZ9 (d.out.trans (Ri c (by omega) (by omega) (by omega) j (aA _))),hZ9 l⟩
   ·have M:¬(j:Int)<(i:Int):=by omega
    obtain⟨q,I⟩:∃q:Nat,(j:Int)-(i:Int)=(q:Int):=⟨j-i,by omega⟩
    have T:IntKind.i64.wrap (q:Int)=(q:Int):=by rw[IntKind.wrap_i64];omega
    obtain⟨s,V⟩:∃s:Nat,(m:Int)+(j:Int)=(s:Int):=⟨m+j,by omega⟩
    have ws:IntKind.i64.wrap (s:Int)=(s:Int):=by rw[IntKind.wrap_i64];omega
    obtain⟨r,U⟩:∃r:Nat,(s:Int)-(i:Int)=(r:Int):=⟨s-i,by omega⟩
    have wr:IntKind.i64.wrap (r:Int)=(r:Int):=by rw[IntKind.wrap_i64];omega
    have E:Hid (m+j-i=r):=hZ9 (by omega);go_wp2_with (go_at_call 216;refine(t.out p r i (by omega) (by omega) c _ x.out).mono ?_;rintro e w1 ⟨rfl,f2,rfl,l⟩)
    go_roundg (i+q)
    case measure=>omega
    case rel=>exact⟨i,q,_,rfl,rfl,B,by omega,G,by omega,aA _,hZ9 (by(have e1:m+q=m+(j-i):=by omega);rw[e1,<-HP.out,<-E.out,SoS.AeG c (by omega) (by omega)];exact k.out),hZ9 (d.out.trans (Ri c (by omega) (by omega) (by omega) i (aA _))),hZ9 l⟩
end
