/- Plain laws of the stable sort by insertion and symmetric merging: rows as functions of the index, exchanges, rotations, what is sorted. Conditions: as stated. -/
import Derived.Test.YtgngjfjaelgaeaaGreatDoorJDnv
set_option maxRecDepth 1000000
set_option maxHeartbeats 4000000
namespace Go.Proofs.YtgngjfjaelgaeaaGreatDoor
open Go.Proofs.Tryz
section
namespace SoS
variable {α:Type}
def Dq (f:Nat->α) (i j:Nat):Nat->α:=fun k=>if k=i then f j else if k=j then f i else f k
inductive Sw (a b:Nat) (f:Nat->α):(Nat->α)->Prop
 | refl:Sw a b f f
 | swp {g:Nat->α} {i j:Nat}:Sw a b f g->a<=i->i<b->a<=j->j<b->Sw a b f (Dq g i j)
theorem Sw.trans {a b:Nat} {f g h:Nat->α} (x:Sw a b f g) (y:Sw a b g h):Sw a b f h:=by
 induction y with
 | refl=>exact x
 | swp _ h1 h2 h3 h4 ih=>exact .swp ih h1 h2 h3 h4
theorem Sw.mono {a b c d:Nat} {f g:Nat->α} (x:Sw a b f g) (e:c<=a) (hb:b<=d):Sw c d f g:=by
 induction x with
 | refl=>exact .refl
 | swp _ h1 h2 h3 h4 ih=>exact .swp ih (by omega) (by omega) (by omega) (by omega)
theorem Sw.out {a b:Nat} {f g:Nat->α} (x:Sw a b f g):∀k,k<a\/b<=k->g k=f k:=by
 induction x with
 | refl=>exact fun _ _=>rfl
 | swp _ h1 h2 h3 h4 ih=>intro k hk;unfold Dq;rw [aG (by omega),aG (by omega)];exact ih k hk
theorem Sw.into {a b:Nat} {f g:Nat->α} (x:Sw a b f g):∀k,a<=k->k<b->∃j,a<=j/\j<b/\g k=f j:=by
 induction x with
 | refl=>exact fun k h1 h2=>⟨k,h1,h2,rfl⟩
 | swp _ h1 h2 h3 h4 ih=>
  intro k c d;unfold Dq;split
  · exact ih _ h3 h4
  · split
    · exact ih _ h1 h2
    · exact ih k c d
theorem Sw.all {a b n:Nat} {f g:Nat->α} (x:Sw a b f g) (hb:b<=n) {p:α->Prop} (h:∀k,k<n->p (f k)):∀k,k<n->p (g k):=fun k hk=>by
 by_cases h1:a<=k/\k<b
 · obtain ⟨j,_,h2,e⟩:=x.into k h1.1 h1.2;rw [e];exact h j (by omega)
 · rw [x.out k (by omega)];exact h k hk
theorem AdX (f:Nat->α) (i j:Nat):∀n,i<n->j<n->((List.range n).map (Dq f i j)).Perm ((List.range n).map f):=by
 intro n d c;have hp:((List.range n).map (fun k=>if k=i then j else if k=j then i else k)).Perm (List.range n):=by
  refine (fF ?_ List.nodup_range).2 (fun k=>?_)
  · refine List.Pairwise.map _ (fun a b (h:a≠b)=>?_) List.nodup_range;show (if a=i then j else if a=j then i else a)≠(if b=i then j else if b=j then i else b)
    repeat' split
    all_goals omega
  · rw [bD,dQ];constructor
    · rintro ⟨x,hx,rfl⟩;rw [dQ] at hx
      repeat' split
      all_goals omega
    · intro hk;refine ⟨if k=i then j else if k=j then i else k,?_,?_⟩
      · rw [dQ]
        repeat' split
        all_goals omega
      · repeat' split
        all_goals omega
 have e:(List.range n).map (Dq f i j)=((List.range n).map (fun k=>if k=i then j else if k=j then i else k)).map f:=by
  rw [cd];refine cQ (fun k _=>?_);show Dq f i j k=f (if k=i then j else if k=j then i else k)
  unfold Dq
  repeat' split
  all_goals first | rfl | omega
 rw [e];exact hp.map f
theorem Sw.perm {a b n:Nat} {f g:Nat->α} (x:Sw a b f g) (hb:b<=n):((List.range n).map g).Perm ((List.range n).map f):=by
 induction x with
 | refl=>exact dZ _
 | swp _ h1 h2 h3 h4 ih=>exact (AdX _ _ _ n (by omega) (by omega)).trans ih
def GH (f:Nat->α) (a b n:Nat):Nat->α:=fun k=>if a<=k/\k<a+n then f (k - a+b) else if b<=k/\k<b+n then f (k - b+a) else f k
theorem Ww (f:Nat->α) (a b:Nat):GH f a b 0=f:=by funext k;unfold GH;rw [aG (by omega),aG (by omega)]
theorem Wx (f:Nat->α) {a b n:Nat} (h:a+n<b):Dq (GH f a b n) (a+n) (b+n)=GH f a b (n+1):=by
 funext k;unfold Dq GH
 repeat' split
 all_goals first | rfl | omega | (congr 1;omega)
def AZ (f:Nat->α) (a m b:Nat):Nat->α:=fun k=>if a<=k/\k<b then (if k<a+(b - m) then f (k+(m - a)) else f (k - (b - m))) else f k
theorem AdY (f:Nat->α) {i j m:Nat} (b:i<=m) (a:j<i):AZ (GH f (m - i) m j) (m - (i - j)) m (m+j)=AZ f (m - i) m (m+j):=by
 funext k;unfold AZ GH
 repeat' split
 all_goals first | rfl | omega | (congr 1;omega)
theorem AdZ (f:Nat->α) {i j m:Nat} (b:i<=m) (a:i<j):AZ (GH f (m - i) (m+j - i) i) (m - i) m (m+(j - i))=AZ f (m - i) m (m+j):=by
 funext k;unfold AZ GH
 repeat' split
 all_goals first | rfl | omega | (congr 1;omega)
theorem Aea (f:Nat->α) {i m:Nat} (a:i<=m):GH f (m - i) m i=AZ f (m - i) m (m+i):=by
 funext k;unfold AZ GH
 repeat' split
 all_goals first | rfl | omega | (congr 1;omega)
theorem Ls (f:Nat->α) {s m e:Nat} (h:s=m\/e=m):AZ f s m e=f:=by
 funext k;unfold AZ
 repeat' split
 all_goals first | rfl | omega | (congr 1;omega)
theorem SU (f:Nat->α) (a:Nat):AZ f a (a+1) (a+1)=f:=by
 funext k;unfold AZ
 repeat' split
 all_goals first | rfl | omega | (congr 1;omega)
theorem Wy (f:Nat->α) {a k:Nat} (h:a<=k):Dq (AZ f a (a+1) (k+1)) k (k+1)=AZ f a (a+1) (k+2):=by
 funext x;unfold Dq AZ
 repeat' split
 all_goals first | rfl | omega | (congr 1;omega)
theorem Qy (f:Nat->α) (m:Nat):AZ f m m (m+1)=f:=by
 funext k;unfold AZ
 repeat' split
 all_goals first | rfl | omega | (congr 1;omega)
theorem Ac5 (f:Nat->α) {k m:Nat} (h:k+1<=m):Dq (AZ f (k+1) m (m+1)) (k+1) k=AZ f k m (m+1):=by
 funext x;unfold Dq AZ
 repeat' split
 all_goals first | rfl | omega | (congr 1;omega)
structure Ord (lt:α->α->Bool) (Ok:α->Prop):Prop where
 asym:∀x y,lt x y=true->lt y x=false
 trans:∀x y z,Ok x->Ok y->Ok z->lt y x=false->lt z y=false->lt z x=false
def Srt (lt:α->α->Bool) (f:Nat->α) (a b:Nat):Prop:=∀i j,a<=i->i<j->j<b->lt (f j) (f i)=false
theorem Afv (lt:α->α->Bool) (f:Nat->α) {a b:Nat} (h:b<=a+1):Srt lt f a b:=fun i j _ _ _=>by omega
theorem Srt.sub {lt:α->α->Bool} {f:Nat->α} {a b c d:Nat} (h:Srt lt f a b) (e:a<=c) (hb:d<=b):Srt lt f c d:=fun i j h1 h2 h3=>h i j (by omega) h2 (by omega)
theorem Srt.congr {lt:α->α->Bool} {f g:Nat->α} {a b:Nat} (h:Srt lt f a b) (e:∀k,a<=k->k<b->g k=f k):Srt lt g a b:=fun i j h1 h2 h3=>by rw [e i h1 (by omega),e j (by omega) h3];exact h i j h1 h2 h3
def Lt (lt:α->α->Bool) (f:Nat->α) (a i j:Nat):Prop:=∀p q,a<=p->p<q->q<=i->q≠j->lt (f q) (f p)=false
theorem Srt.hole {lt:α->α->Bool} {f:Nat->α} {a i:Nat} (h:Srt lt f a i):Lt lt f a i i:=fun p q h1 h2 h3 h4=>h p q h1 h2 (by omega)
theorem Lt.step {lt:α->α->Bool} {Ok:α->Prop} (O:Ord lt Ok) {f:Nat->α} {a i j:Nat} (h:Lt lt f a i (j+1)) (e:a<=j) (g:lt (f (j+1)) (f j)=true):Lt lt (Dq f (j+1) j) a i j:=by
 intro p q h1 h2 h3 h4;unfold Dq;by_cases b:q=j+1
 · subst b;rw [aP rfl];by_cases c:p=j
   · subst c;rw [aG (by omega),aP rfl];exact O.asym _ _ g
   · rw [aG (by omega),aG c];exact h p j h1 (by omega) (by omega) (by omega)
 · rw [aG b,aG h4];by_cases c:p=j+1
   · subst c;rw [aP rfl];exact h j q e (by omega) h3 b
   · rw [aG c];by_cases d:p=j
     · subst d;rw [aP rfl];exact h (p+1) q (by omega) (by omega) h3 b
     · rw [aG d];exact h p q h1 h2 h3 b
theorem Lt.done {lt:α->α->Bool} {Ok:α->Prop} (O:Ord lt Ok) {f:Nat->α} {a i j:Nat} (h:Lt lt f a i j) (d:j<=i) (b:∀k,k<=i->Ok (f k)) (c:j=a\/∃p,j=p+1/\lt (f j) (f p)=false):Srt lt f a (i+1):=by
 intro p q h1 h2 h3;by_cases e:q=j
 · subst e;rcases c with e | ⟨r,e,c⟩
   · omega
   · by_cases g:p=r
     · subst g;exact c
     · exact O.trans (f p) (f r) (f q) (b p (by omega)) (b r (by omega)) (b q (by omega)) (h p r h1 (by omega) (by omega) (by omega)) c
 · exact h p q h1 h2 (by omega) e
theorem Aeb {lt:α->α->Bool} {Ok:α->Prop} (O:Ord lt Ok) {f:Nat->α} {a b h:Nat} {x:α} (j:Srt lt f a b) (c:∀k,k<b->Ok (f k)) (hx:Ok x) (h1:a<=h) (h2:h<b) (g:lt (f h) x=true):∀k,a<=k->k<=h->lt (f k) x=true:=fun k d l=>by
 cases hc:lt (f k) x with
 | true=>rfl
 | false=>
  have h3:lt (f h) (f k)=false:=by
   by_cases e:k=h
   · subst e;cases i:lt (f k) (f k) with
     | false=>rfl
     | true=>have:=O.asym _ _ i;rw [i] at this;exact this
   · exact j k h d (by omega) h2
  have:=O.trans x (f k) (f h) hx (c k (by omega)) (c h h2) hc h3;rw [this] at g;cases g
theorem Afw {lt:α->α->Bool} {Ok:α->Prop} (O:Ord lt Ok) {f:Nat->α} {a b h:Nat} {x:α} (j:Srt lt f a b) (c:∀k,k<b->Ok (f k)) (hx:Ok x) (h1:a<=h) (h2:h<b) (g:lt (f h) x=false):∀k,h<=k->k<b->lt (f k) x=false:=fun k i d=>by
 by_cases e:k=h
 · subst e;exact g
 · exact O.trans x (f h) (f k) hx (c h h2) (c k d) g (j h k h1 (by omega) d)
theorem Aec {lt:α->α->Bool} {Ok:α->Prop} (O:Ord lt Ok) {f:Nat->α} {a b h:Nat} {x:α} (i:Srt lt f a b) (c:∀k,k<b->Ok (f k)) (hx:Ok x) (h1:a<=h) (h2:h<b) (g:lt x (f h)=false):∀k,a<=k->k<=h->lt x (f k)=false:=fun k d j=>by
 by_cases e:k=h
 · subst e;exact g
 · exact O.trans (f k) (f h) x (c k (by omega)) (c h h2) hx (i k h d (by omega) h2) g
theorem Ac6 {lt:α->α->Bool} {Ok:α->Prop} (O:Ord lt Ok) {f:Nat->α} {a b h:Nat} {x:α} (j:Srt lt f a b) (c:∀k,k<b->Ok (f k)) (hx:Ok x) (h1:a<=h) (h2:h<b) (g:lt x (f h)=true):∀k,h<=k->k<b->lt x (f k)=true:=fun k i d=>by
 cases hc:lt x (f k) with
 | true=>rfl
 | false=>
  by_cases e:k=h
  · subst e;rw [g] at hc;cases hc
  · have:=O.trans (f h) (f k) x (c h h2) (c k d) hx (j h k h1 (by omega) d) hc;rw [this] at g;cases g
theorem Xy {lt:α->α->Bool} {Ok:α->Prop} (O:Ord lt Ok) {f:Nat->α} {a b i:Nat} (c:Srt lt f (a+1) b) (j:a+1<=i) (g:i<=b) (h1:∀k,a+1<=k->k<i->lt (f k) (f a)=true) (h2:∀k,i<=k->k<b->lt (f k) (f a)=false):Srt lt (AZ f a (a+1) i) a b:=by
 intro p q hp d h;unfold AZ;by_cases c1:q<i
 · rw [aP (show a<=q/\q<i by omega),aP (show a<=p/\p<i by omega)];rw [aP (show p<a+(i - (a+1)) by omega)];split
   · exact c _ _ (by omega) (by omega) (by omega)
   · have e:q - (i - (a+1))=a:=by omega
     rw [e];exact O.asym _ _ (h1 _ (by omega) (by omega))
 · rw [aG (show ¬(a<=q/\q<i) by omega)];split
   · split
     · exact c _ _ (by omega) (by omega) (by omega)
     · have e:p - (i - (a+1))=a:=by omega
       rw [e];exact h2 _ (by omega) (by omega)
   · exact c _ _ (by omega) (by omega) (by omega)
theorem Aai {lt:α->α->Bool} {Ok:α->Prop} (O:Ord lt Ok) {f:Nat->α} {a m i:Nat} (b:Srt lt f a m) (h:a<=i) (c:i<=m) (h1:∀k,a<=k->k<i->lt (f m) (f k)=false) (h2:∀k,i<=k->k<m->lt (f m) (f k)=true):Srt lt (AZ f i m (m+1)) a (m+1):=by
 intro p q hp d g;unfold AZ;by_cases c1:p<i
 · rw [aG (show ¬(i<=p/\p<m+1) by omega)];split
   · split
     · have e:q+(m - i)=m:=by omega
       rw [e];exact h1 _ (by omega) (by omega)
     · exact b _ _ (by omega) (by omega) (by omega)
   · exact b _ _ (by omega) (by omega) (by omega)
 · rw [aP (show i<=p/\p<m+1 by omega),aP (show i<=q/\q<m+1 by omega)];rw [aG (show ¬q<i+(m+1 - m) by omega)];split
   · have e:p+(m - i)=m:=by omega
     rw [e];exact O.asym _ _ (h2 _ (by omega) (by omega))
   · exact b _ _ (by omega) (by omega) (by omega)
def Apart (lt:α->α->Bool) (f:Nat->α) (a m b:Nat):Prop:=∀p q,a<=p->p<m->m<=q->q<b->lt (f q) (f p)=false
theorem Ov {lt:α->α->Bool} {Ok:α->Prop} (O:Ord lt Ok) {f:Nat->α} {a m b s e mid:Nat} (hA:Srt lt f a m) (hB:Srt lt f m b) (d:∀k,k<b->Ok (f k)) (h1:a<=s) (h2:s<=m) (h3:m<=e) (h4:e<=b) (w:mid+m=s+e)
  (v:s=a\/e=b\/lt (f e) (f (s - 1))=false) (hR:e=m\/s=m\/lt (f s) (f (e - 1))=false):
  Srt lt (AZ f s m e) a s/\Srt lt (AZ f s m e) s mid/\Srt lt (AZ f s m e) mid e/\Srt lt (AZ f s m e) e b/\Apart lt (AZ f s m e) a mid b:=by
 have t:∀k,k<s->AZ f s m e k=f k:=fun k hk=>by unfold AZ;rw [aG (by omega)]
 have v2:∀k,s<=k->k<mid->AZ f s m e k=f (k+(m - s)):=fun k r u=>by unfold AZ;rw [aP (by omega),aP (by omega)]
 have v3:∀k,mid<=k->k<e->AZ f s m e k=f (k - (e - m)):=fun k r u=>by unfold AZ;rw [aP (by omega),aG (by omega)]
 have v4:∀k,e<=k->AZ f s m e k=f k:=fun k hk=>by unfold AZ;rw [aG (by omega)]
 have cL:∀p q,a<=p->p<s->e<=q->q<b->lt (f q) (f p)=false:=fun p q p1 p2 o l=>by
  rcases v with h | h | h
  · omega
  · omega
  · have n:lt (f e) (f p)=false:=by
     by_cases c:p=s - 1
     · subst c;exact h
     · exact O.trans (f p) (f (s - 1)) (f e) (d _ (by omega)) (d _ (by omega)) (d _ (by omega)) (hA p (s - 1) p1 (by omega) (by omega)) h
    by_cases c:q=e
    · subst c;exact n
    · exact O.trans (f p) (f e) (f q) (d _ (by omega)) (d _ (by omega)) (d _ (by omega)) n (hB e q h3 (by omega) l)
 have cR:∀p q,m<=p->p<e->s<=q->q<m->lt (f q) (f p)=false:=fun p q p1 p2 o l=>by
  rcases hR with h | h | h
  · omega
  · omega
  · have n:lt (f s) (f p)=false:=by
     by_cases c:p=e - 1
     · subst c;exact h
     · exact O.trans (f p) (f (e - 1)) (f s) (d _ (by omega)) (d _ (by omega)) (d _ (by omega)) (hB p (e - 1) p1 (by omega) (by omega)) h
    by_cases c:q=s
    · subst c;exact n
    · exact O.trans (f p) (f s) (f q) (d _ (by omega)) (d _ (by omega)) (d _ (by omega)) n (hA s q h1 (by omega) l)
 refine ⟨fun i j g i2 i3=>?_,fun i j g i2 i3=>?_,fun i j g i2 i3=>?_,fun i j g i2 i3=>?_,fun p q p1 p2 o l=>?_⟩
 · rw [t i (by omega),t j i3];exact hA i j g i2 (by omega)
 · rw [v2 i g (by omega),v2 j (by omega) i3];exact hB _ _ (by omega) (by omega) (by omega)
 · rw [v3 i g (by omega),v3 j (by omega) i3];exact hA _ _ (by omega) (by omega) (by omega)
 · rw [v4 i g,v4 j (by omega)];exact hB i j (by omega) i2 i3
 · by_cases c1:p<s
   · rw [t p c1];by_cases c2:q<e
     · rw [v3 q o c2];exact hA _ _ p1 (by omega) (by omega)
     · rw [v4 q (by omega)];exact cL p q p1 c1 (by omega) l
   · rw [v2 p (by omega) p2];by_cases c2:q<e
     · rw [v3 q o c2];exact cR _ _ (by omega) (by omega) (by omega) (by omega)
     · rw [v4 q (by omega)];exact hB _ _ (by omega) (by omega) l
theorem Apart.sw {lt:α->α->Bool} {f g h:Nat->α} {a m b:Nat} (x:Apart lt f a m b) (y:Sw a m f g) (z:Sw m b g h):Apart lt h a m b:=fun p q p1 p2 n k=>by rw [z.out p (by omega)];obtain ⟨j,p3,p4,d⟩:=y.into p p1 p2;obtain ⟨c,e,i,l⟩:=z.into q n k;rw [d,l,y.out c (by omega)];exact x j c p3 p4 e i
theorem Srt.join {lt:α->α->Bool} {f:Nat->α} {a m b:Nat} (h1:Srt lt f a m) (h2:Srt lt f m b) (h3:Apart lt f a m b):Srt lt f a b:=fun i j c i2 i3=>by
 by_cases c1:j<m
 · exact h1 i j c i2 c1
 · by_cases c2:i<m
   · exact h3 i j c c2 (by omega) i3
   · exact h2 i j (by omega) i2 i3
theorem SX {lt:α->α->Bool} {f1 f2 e:Nat->α} {a b mid:Nat} (hp:Apart lt f1 a mid b) (d:Sw a mid f1 f2) (c:Sw mid b f2 e) (h2:Srt lt f2 a mid) (h3:Srt lt e mid b):Srt lt e a b:=
 Srt.join (h2.congr (fun k _ hk=>c.out k (.inl hk))) h3 (hp.sw d c)
end SoS
end
section
open Go.RowKit
abbrev Cel:=List UInt8 × Option Addr × Nat × Nat
def Aaj (c:Cel):Value:=.slice c.2.1 c.2.2.1 c.2.2.2
def ltC (x y:Cel):Bool:=decide (DnS.Am x.1 y.1<0)
def OkC (c:Cel):Prop:=SeS.Gz c.1/\c.1.length<=1000000
theorem Ia:SoS.Ord ltC OkC where
 asym x y h:=by have:=DnS.CW x.1 y.1;simp only [ltC,az,bc] at*;omega
 trans x y z hx hy hz h k:=by simp only [ltC,bc] at*;have h1:=DnS.CW x.1 y.1;have h2:=DnS.CW y.1 z.1;have h3:=DnS.CW x.1 z.1;have:=DnS.KA hx.1.txt hy.1.txt hz.1.txt (a:=x.1) (b:=y.1) (c:=z.1) (by omega) (by omega);omega
def BW (w0:World) (g n sz:Nat) (f:Nat->Cel) (w:World):Prop:=
 ∃cur:Array Value,Whole w g 52 cur/\cur.size=sz/\(∀k,k<n->cur[k*2]?=some (.string ⟨(f k).1.toArray⟩)/\cur[k*2+1]?=some (Aaj (f k)))/\w0.grownBy w (some g)
theorem Ac7 {w0 w w':World} {row:Option Nat} (h:w0.grownBy w row) (hb:Below w.heap.size w w'):w0.grownBy w' row:=
 ⟨hb.os.trans h.os,hb.tape.trans h.tape,hb.output.trans h.output,aY h.size hb.size,fun k hk a=>(hb.block k (ae hk h.size)).trans (h.block k hk a)⟩
theorem Lu {w0 w:World} {g:Nat} (h:w0.grownBy w (some g)) (i:Nat) (v:Value):w0.grownBy (w.setCell ⟨g,i,none⟩ v) (some g):=
 ⟨h.os,h.tape,h.output,by rw [World.size_setCell];exact h.size,fun k hk a=>(Below.heap_setCell w ⟨g,i,none⟩ v k (fun e=>a (by rw [e]))).trans (h.block k hk a)⟩
theorem SY {w0 w:World} {row:Option Nat} (h:w0.grownBy w row):w0.grownBy w.drew row:=⟨h.os,h.tape,h.output,h.size,h.block⟩
theorem BW.call {w0 w w':World} {g n sz:Nat} {f:Nat->Cel} (h:BW w0 g n sz f w) (hb:Below w.heap.size w w'):BW w0 g n sz f w':=by obtain ⟨cur,h1,h2,h3,h4⟩:=h;exact ⟨cur,h1.call hb,h2,h3,Ac7 h4 hb⟩
theorem BW.drew {w0 w:World} {g n sz:Nat} {f:Nat->Cel} (h:BW w0 g n sz f w):BW w0 g n sz f w.drew:=by obtain ⟨cur,h1,h2,h3,h4⟩:=h;exact ⟨cur,h1.drew,h2,h3,SY h4⟩
theorem BW.grown {w0 w:World} {g n sz:Nat} {f:Nat->Cel} (h:BW w0 g n sz f w):w0.grownBy w (some g):=by obtain ⟨cur,h1,h2,h3,h4⟩:=h;exact h4
theorem BW.read {w0 w:World} {g n sz:Nat} {f:Nat->Cel} (h:BW w0 g n sz f w) (k:Nat) (hk:k<n):
  ∃(A:Nat) (x:List UInt8) (a:Option Addr) (m c:Nat),k*2=A/\f k=(x,a,m,c)/\w.cell? ⟨g,A,none⟩=some (.string ⟨x.toArray⟩)/\w.cell? ⟨g,A+1,none⟩=some (.slice a m c):=by
 obtain ⟨cur,h1,h2,h3,h4⟩:=h;obtain ⟨c0,c1⟩:=h3 k hk;exact ⟨_,(f k).1,(f k).2.1,(f k).2.2.1,(f k).2.2.2,rfl,rfl,(h1.cell _).trans c0,(h1.cell _).trans c1⟩
theorem BW.exch {w0 w:World} {g n sz:Nat} {f:Nat->Cel} (h:BW w0 g n sz f w) (i j:Nat) (s:i<n) (t:j<n) (u:i≠j):
  ∃(A B:Nat) (o:List UInt8) (l:Option Addr) (p q:Nat) (y1:List UInt8) (r:Option Addr) (m e:Nat),(i*2=A/\j*2=B)/\(¬A=B/\¬B=A/\¬A+1=B/\¬A=B+1/\¬B=A+1/\¬B+1=A)/\
   (w.cell? ⟨g,A,none⟩=some (.string ⟨o.toArray⟩)/\w.cell? ⟨g,A+1,none⟩=some (.slice l p q)/\w.cell? ⟨g,B,none⟩=some (.string ⟨y1.toArray⟩)/\w.cell? ⟨g,B+1,none⟩=some (.slice r m e))/\
   (w.frozen? ⟨g,A,none⟩=false/\w.frozen? ⟨g,A+1,none⟩=false/\w.frozen? ⟨g,B,none⟩=false/\w.frozen? ⟨g,B+1,none⟩=false)/\
   BW w0 g n sz (SoS.Dq f i j) ((((w.drew.setCell ⟨g,A,none⟩ (.string ⟨y1.toArray⟩)).setCell ⟨g,A+1,none⟩ (.slice r m e)).setCell ⟨g,B,none⟩ (.string ⟨o.toArray⟩)).setCell ⟨g,B+1,none⟩ (.slice l p q)):=by
 obtain ⟨cur,h1,h2,h3,h4⟩:=h;obtain ⟨a0,a1⟩:=h3 i s;obtain ⟨v,d⟩:=h3 j t;have y:i*2+1<cur.size:=(ah.1 a1).1;have x:j*2+1<cur.size:=(ah.1 d).1;refine ⟨_,_,(f i).1,(f i).2.1,(f i).2.2.1,(f i).2.2.2,(f j).1,(f j).2.1,(f j).2.2.1,(f j).2.2.2,⟨rfl,rfl⟩,by omega,⟨(h1.cell _).trans a0,(h1.cell _).trans a1,(h1.cell _).trans v,(h1.cell _).trans d⟩,⟨h1.thaw _,h1.thaw _,h1.thaw _,h1.thaw _⟩,?_⟩;refine ⟨_,(((h1.drew.put _ _).put _ _).put _ _).put _ _,by simp only [fp];exact h2,fun k hk=>?_,Lu (Lu (Lu (Lu (SY h4) _ _) _ _) _ _) _ _⟩;obtain ⟨c0,c1⟩:=h3 k hk;simp only [ei,fp];by_cases b:k=i
 · have a:SoS.Dq f i j k=f j:=by unfold SoS.Dq;exact aP b
   rw [a];subst b;constructor
   · rw [aG (by omega),aG (by omega),aG (by omega),aP rfl,aP (by omega)]
   · rw [aG (by omega),aG (by omega),aP rfl,aP (by omega)];rfl
 · by_cases c:k=j
   · have a:SoS.Dq f i j k=f i:=by unfold SoS.Dq;rw [aG b];exact aP c
     rw [a];subst c;constructor
     · rw [aG (by omega),aP rfl,aP (by omega)]
     · rw [aP rfl,aP (by omega)];rfl
   · have a:SoS.Dq f i j k=f k:=by unfold SoS.Dq;rw [aG b];exact aG c
     rw [a];constructor
     · rw [aG (by omega),aG (by omega),aG (by omega),aG (by omega)];exact c0
     · rw [aG (by omega),aG (by omega),aG (by omega),aG (by omega)];exact c1
end
section
open Go.RowKit
theorem Yw (x:List UInt8) (w:World):Calls prog 192 #[.string ⟨x.toArray⟩] w fun e w'=>e=.returned (.bool false)/\w=w':=by go_enter func192,ntmps192;go_wp2_with fail;go_ret;exact ⟨rfl,rfl⟩
theorem Aed (x y:List UInt8) (w:World):Calls prog 163 #[.string ⟨x.toArray⟩,.string ⟨y.toArray⟩] w fun e w'=>e=.returned (.int .i64 (Lib.compareBytes x y))/\w=w':=by
 have c:=fun w=>Yw x w;have a:=fun w=>Yw y w;cases h1:Op.bytesLess x y with
 | true=>have HR:=hZ9 (cmp_lt h1);go_enter func163,ntmps163;go_wp2_with fail;refine (c _).mono ?_;rintro e w1 ⟨rfl,rfl⟩;go_wp2_with fail;refine (a _).mono ?_;rintro e w2 ⟨rfl,rfl⟩;go_wp2_with fail;go_ret;exact ⟨by rw [HR.out];rfl,rfl⟩
 | false=>
  cases h2:Op.bytesLess y x with
  | true=>
   have HR:=hZ9 (cmp_gt h2);have b:(x==y)=false:=by rw [RuS.eq_iff,HR.out];rfl
   go_enter func163,ntmps163;go_wp2_with fail;refine (c _).mono ?_;rintro e w1 ⟨rfl,rfl⟩;go_wp2_with fail;refine (a _).mono ?_;rintro e w2 ⟨rfl,rfl⟩;go_wp2_with fail;go_ret;exact ⟨by rw [HR.out];rfl,rfl⟩
  | false=>
   have HR:=hZ9 (cmp_eq h1 h2);have b:(x==y)=true:=by rw [RuS.eq_iff,HR.out];rfl
   go_enter func163,ntmps163;go_wp2_with fail;refine (c _).mono ?_;rintro e w1 ⟨rfl,rfl⟩;go_wp2_with fail;refine (a _).mono ?_;rintro e w2 ⟨rfl,rfl⟩;go_wp2_with fail;go_ret;exact ⟨by rw [HR.out];rfl,rfl⟩
theorem Aak (A v2:Value) (xs ys:List (List UInt8)) (w:World) (h1:Ah w A xs) (h2:Ah w v2 ys) (M:xs.length<=1000) (L:ys.length<=1000):Calls prog 131 #[A,v2] w (AeR (DnS.cmpL xs ys) w):=by
 obtain ⟨a1,c1,rfl⟩:=h1.form;obtain ⟨a2,c2,rfl⟩:=h2.form;obtain ⟨-,K,C1⟩:=h1.cells;obtain ⟨-,F,v⟩:=h2.cells;have l:=hZ9 C1;have p:=hZ9 v;clear h1 h2 C1 v;generalize z:xs.length=n at*;generalize B:ys.length=m at*;have s:=hZ9 z;have j:=hZ9 B;clear z B;go_enter func131,ntmps131;go_wp2_with fail;go_loop [11] (fun i=>∃k:Nat,k<=n/\k<=m/\i=.int .i64 k/\Hid (DnS.cmpL xs ys=DnS.cmpL (xs.drop k) (ys.drop k))) (fun i=>n - (intOf i).toNat)
 case atStart=>exact ⟨0,aR _,aR _,rfl,hZ9 rfl⟩
 case round=>
  obtain ⟨k,hk,E,rfl,h⟩:=hrel;by_cases t:k<n
  · have c:k<xs.length:=by rw [s.out];exact t
    obtain ⟨g1,N,rfl,G,d1⟩:=l.out k _ (aJ c);by_cases b:k<m
    · have d:k<ys.length:=by rw [j.out];exact b
      obtain ⟨g2,o2,rfl,I,d2⟩:=p.out k _ (aJ d);have C:=hZ9 (DnS.Si k xs ys xs[k] ys[k] (aJ c) (aJ d));generalize xs[k]=x at*;generalize ys[k]=y at*;unfold Ac at d1 d2;have f:=fun w=>Aed x y w;generalize Lib.compareBytes x y=q at*;have H:decide ((m:Int)<=(k:Int))=false:=aC (by omega);have u:decide (m<=k)=false:=aC (by omega);clear c d;by_cases o:q=0
      · subst o;have a:Hid (DnS.cmpL xs ys=DnS.cmpL (xs.drop (k+1)) (ys.drop (k+1))):=hZ9 (by rw [h.out,C.out,aP rfl]);go_wp2_with fail;refine (f _).mono ?_;rintro e w1 ⟨rfl,rfl⟩;go_wp2_with fail;go_round
        case rel=>exact ⟨k+1,by omega,by omega,by go_num,a⟩
        case measure=>simp [intOf];omega
      · have a:Hid (DnS.cmpL xs ys=q):=hZ9 (by rw [h.out,C.out,aG o]);have J:(q !=0)=true:=by simpa using o
        go_wp2_with fail;refine (f _).mono ?_;rintro e w1 ⟨rfl,rfl⟩;go_wp2_with fail;go_ret;exact ⟨by rw [a.out];rfl,rfl⟩
    · have g:k=m:=by omega
      subst g;have a:Hid (DnS.cmpL xs ys=1):=hZ9 (by rw [h.out,DnS.Sj c (by rw [j.out];exact aA _)]);generalize xs[k]=x at*;unfold Ac at d1;clear c;go_wp2_with fail;go_ret;exact ⟨by rw [a.out];rfl,rfl⟩
  · have r:k=n:=by omega
    subst r;by_cases b:k<m
    · have a:Hid (DnS.cmpL xs ys=-1):=hZ9 (by rw [h.out,DnS.Sl (by rw [s.out];exact aA _) (by rw [j.out];exact b)]);go_wp2_with fail;go_ret;exact ⟨by rw [a.out];rfl,rfl⟩
    · have a:Hid (DnS.cmpL xs ys=0):=hZ9 (by rw [h.out,DnS.VC (by rw [s.out];exact aA _) (by rw [j.out];omega)]);go_wp2_with fail;go_ret;exact ⟨by rw [a.out];rfl,rfl⟩
def Agc (B:Nat) (v:Value) (xs:List (List UInt8)) (w:World) (e:Ending) (w':World):Prop:=e=.returned (.tuple #[])/\Ah w' v xs.reverse/\Below B w w'/\∀k,k<w.heap.size->v.ownBlock≠some k->w'.heap[k]?=w.heap[k]?
theorem SZ (v:Value) (xs:List (List UInt8)) (w:World) (B:Nat) (h:Own w B v xs) (x:xs.length<=1000):Calls prog 130 #[v] w (Agc B v xs w):=by
 have t:=h.strs;rcases h.2 with ⟨rfl,n⟩ | ⟨g,cap,cur,rfl,u,p,n,z,hsz,s⟩
 · have hx:xs=[]:=aW n;subst hx;refine (slices_Reverse_string_empty none 0 w).mono ?_;rintro e w' ⟨rfl,rfl⟩;exact ⟨rfl,Ah.empty _,Below.refl _ _,fun _ _ _=>rfl⟩
 · have o:g<w.heap.size:=(ah.1 p).1;have hc:∀j,j<xs.length->w.cell? ⟨g,0+j,none⟩=some (.string (⟨(xs.getD j []).toArray⟩:ByteArray)):=fun j b=>by
    obtain ⟨-,-,C⟩:=t.cells;obtain ⟨E,A,e,_,m⟩:=C j _ (aJ b);cases e;rw [m,cy,aJ b];rfl
   have r:∀j,j<xs.length->w.frozen? ⟨g,0+j,none⟩=false:=fun j b=>by simp [World.frozen?,p]
   refine (slices_Reverse_string_cells g 0 xs.length cap (fun j=>⟨(xs.getD j []).toArray⟩) w (by omega) hc r).mono ?_;rintro e w' ⟨rfl,q,rfl⟩;have l:Lib.strsOf (fun j=>(⟨(xs.getD j []).toArray⟩:ByteArray)) xs.length=xs:=by
    unfold Lib.strsOf;apply fZ
    · simp
    · intro i h1 h2;simp [List.getD_eq_getElem?_getD,List.getElem?_eq_getElem h2]
   rw [l];have c:xs.reverse.map encStr=xs.reverse.map Ac:=rfl;rw [c];have a:(w.drewN q).there g 0 (xs.reverse.map Ac).length:=by
    intro j b;have d:j<xs.length:=by simpa using b
    refine ⟨?_,r j d⟩;show (w.cell? ⟨g,0+j,none⟩).isSome=true
    rw [hc j d];rfl
   have hb:Below B w ((w.drewN q).setCells g 0 (xs.reverse.map Ac)):=Og u _ _ _ ((below_drewN w q).mono (by omega));refine ⟨rfl,⟨some ⟨g,0,none⟩,cap,by rw [bj],by rw [bj];exact n,.inr ⟨g,0,rfl,ae o hb.size,?_⟩⟩,hb,?_⟩
   · intro j y b;exact World.rangeAt_setCells_same (w.drewN q) g 0 (xs.reverse.map Ac) a j (Ac y) (by rw [bZ,b];rfl)
   · intro k hk f;exact World.heap_setCells_other (w.drewN q) g 0 _ hk (fun e=>f (by rw [e];rfl))
theorem TQ {a b:List UInt8} (h:¬((DnS.Ae a).2=0/\(DnS.Ae b).2=0)):DnS.Am a b=0:=by unfold DnS.Am;rw [aG h]
theorem TU {a b:List UInt8} {tx ty:List (List UInt8)} (h:DnS.Ae a=(tx,0)) (k:DnS.Ae b=(ty,0)):DnS.Am a b=DnS.EI tx ty:=by unfold DnS.Am;rw [h,k,aP ⟨rfl,rfl⟩]
theorem Xz (a b:List UInt8) (P:a.length<=1000000) (hb0:b.length<=1000000) (w:World) (hE:Env w):Calls prog 96 #[.string ⟨a.toArray⟩,.string ⟨b.toArray⟩] w (TW (DnS.Am a b) w):=by
 have hp:=DK a P w hE;have p:=fun w hE=>DK b hb0 w hE;unfold CN at hp p;have u:=(DnS.Da a).1;have x:=(DnS.Da b).1;have d:=hZ9 (TQ (a:=a) (b:=b));obtain ⟨X,z⟩:∃X,DnS.Ae a=X:=⟨_,rfl⟩
 obtain ⟨Y,A⟩:∃Y,DnS.Ae b=Y:=⟨_,rfl⟩
 rw [z] at hp u;rw [A] at p x;rw [z,A] at d;obtain ⟨tx,ex⟩:=X;obtain ⟨ty,M⟩:=Y;simp only at hp p u x d;have HX:=hZ9 z;have O:=hZ9 A;clear z A;by_cases hx:ex=0
 · subst hx;by_cases C:M=0
   · subst C;have HR:=hZ9 (TU HX.out O.out);clear d;go_enter func96,ntmps96;go_wp2_with fail;refine hp.mono ?_;rintro e w1 ⟨q,rfl,l,c⟩;go_wp2_with fail;refine (p _ (hE.below c)).mono ?_;rintro e w2 ⟨v2,rfl,i,f⟩;have t:=l.call f;go_wp2_with fail;refine (SZ q tx _ w.heap.size t (by omega)).mono ?_;rintro e w3 ⟨rfl,I,s,J⟩;have m:∀k,q.ownBlock=some k->v2.ownBlock≠some k:=fun k h1 h2=>by
      have U:=Du l h1;have T:=Du i h2;omega
     have v:Own w3 w1.heap.size v2 ty:=i.kept (fun k hk=>J k (Du i hk).2 (fun h=>m k h hk));have N:w2.heap.size<=w3.heap.size:=s.size;go_wp2_with fail;refine (SZ v2 ty _ w1.heap.size v (by omega)).mono ?_;rintro e w4 ⟨rfl,B,r,K⟩;have F:w3.heap.size<=w4.heap.size:=r.size;have H:Ah w4 q tx.reverse:=by
      obtain ⟨a1,c1,rfl,E,n⟩:=I;refine ⟨a1,c1,rfl,E,?_⟩;rcases n with h | ⟨g,o,rfl,L,hcell⟩
      · exact .inl h
      · have G:w4.heap[g]?=w3.heap[g]?:=K g L (fun h=>m g rfl h);exact .inr ⟨g,o,rfl,ae L F,fun j y Q=>(World.cell?_of_block (a:=⟨g,o+j,none⟩) G).trans (hcell j y Q)⟩
     have S:Hid (Below w.heap.size w w4):=hZ9 ((c.trans (f.mono c.size)).trans ((s.trans (r.mono c.size))));go_wp2_with fail;refine (Aak q v2 tx.reverse ty.reverse _ H B (by rw [bj];omega) (by rw [bj];omega)).mono ?_;rintro e w5 ⟨rfl,rfl⟩;go_wp2_with fail;go_ret;exact ⟨by rw [HR.out];rfl,S.out⟩
   · have HR:=hZ9 (d.out (fun h=>C h.2));have R:(M !=0)=true:=by simpa using C
     go_enter func96,ntmps96;go_wp2_with fail;refine hp.mono ?_;rintro e w1 ⟨q,rfl,l,c⟩;go_wp2_with fail;refine (p _ (hE.below c)).mono ?_;rintro e w2 ⟨v2,rfl,i,f⟩;go_wp2_with fail;go_ret;exact ⟨by rw [HR.out];rfl,Aa c f⟩
 · have HR:=hZ9 (d.out (fun h=>hx h.1));have hex:(ex !=0)=true:=by simpa using hx
   go_enter func96,ntmps96;go_wp2_with fail;refine hp.mono ?_;rintro e w1 ⟨q,rfl,l,c⟩;go_wp2_with fail;refine (p _ (hE.below c)).mono ?_;rintro e w2 ⟨v2,rfl,i,f⟩;go_wp2_with fail;go_ret;exact ⟨by rw [HR.out];rfl,Aa c f⟩
end
section
open Go.RowKit
attribute [local go_sem ↓] Go.wp_at_zero Go.wp_at_succ
def ET:Value:=.func (.func 95) #[] #[]
theorem Np (x y:List UInt8) (c:Option Addr) (d g:Nat) (j:Option Addr) (l k:Nat) (W:World) (hE:Env W) (hx:x.length<=1000000) (m:y.length<=1000000):
  Calls prog 95 #[.agg #[.string ⟨x.toArray⟩,.slice c d g],.agg #[.string ⟨y.toArray⟩,.slice j l k]] W fun e w'=>e=.returned (.int .i64 (DnS.Am x y))/\Below W.heap.size W w':=by
 have a:=Af W (.cells #[.string ⟨x.toArray⟩,.slice c d g] 52);have b:=Af (W.alloc (.cells #[.string ⟨x.toArray⟩,.slice c d g] 52)) (.cells #[.string ⟨y.toArray⟩,.slice j l k] 52);have i:=Aa a b;have hc:=Xz x y hx m _ (hE.below i);unfold TW at hc;clear a b;go_enter func95,ntmps95;go_wp2_with fail;refine hc.mono ?_;rintro e w1 ⟨rfl,f⟩;have h:=Aa i f;go_wp2_with fail;go_ret;exact ⟨rfl,h⟩
def Fb (w0:World) (g n sz:Nat) (P:(Nat->Cel)->Prop) (e:Ending) (w:World):Prop:=e=.returned (.tuple #[])/\∃f,P f/\BW w0 g n sz f w
theorem Ac8 (w0:World) (g n sz cap:Nat) (hsz:n<1000000000) (HE:∀w,w0.grownBy w (some g)->Env w) (a b:Nat) (B8:a<=b) (hb:b<=n) (f:Nat->Cel) (Q:∀k,k<n->OkC (f k)) (w:World) (hw:BW w0 g n sz f w):
  Calls prog 161 #[.slice (some ⟨g,0,none⟩) n cap,.int .i64 a,.int .i64 b,ET] w (Fb w0 g n sz (fun F=>SoS.Sw a b f F/\SoS.Srt ltC F a b)):=by
 unfold ET Fb;have C:=hZ9 Q;have HW:=hZ9 hw;have V:=hZ9 HE;clear Q hw HE;obtain ⟨a1,B5⟩:∃a1:Nat,(a:Int)+1=(a1:Int):=⟨a+1,by omega⟩
 have C3:IntKind.i64.wrap (a1:Int)=(a1:Int):=by rw [IntKind.wrap_i64];omega
 go_enter func161,ntmps161
 go_wp2
 go_loopg [8] n (fun g1 vi wr=>∃(i:Nat) (F:Nat->Cel),vi=.int .i64 i/\a+1<=i/\i<=b+1/\n+1 - i<=g1/\Hid (SoS.Sw a b f F)/\Hid (SoS.Srt ltC F a i)/\Hid (BW w0 g n sz F wr))
 case atStart=>exact ⟨a1,f,rfl,by omega,by omega,by omega,hZ9 .refl,hZ9 (SoS.Afv _ _ (by omega)),HW⟩
 case round=>
  obtain ⟨i,F,rfl,A6,B3,A5,I,M,HR⟩:=hrel;by_cases B1:i<b
  · have hz:(i:Int)<(b:Int):=by omega
    obtain ⟨i2,B0⟩:∃i2:Nat,(i:Int)+1=(i2:Int):=⟨i+1,by omega⟩
    have B7:IntKind.i64.wrap (i2:Int)=(i2:Int):=by rw [IntKind.wrap_i64];omega
    go_wp2
    go_loopg [9] i (fun g2 vj wr=>∃(j:Nat) (h:Nat->Cel),vj=.int .i64 j/\a<=j/\j<=i/\j<=g2/\Hid (SoS.Sw a b f h)/\Hid (SoS.Lt ltC h a i j)/\Hid (BW w0 g n sz h wr))
    case atStart=>exact ⟨i,F,rfl,by omega,aA _,aA _,I,hZ9 M.out.hole,HR⟩
    case round=>
     obtain ⟨j,h,rfl,B9,R,C0,l,G,o⟩:=hrel;clear I M HR;by_cases A3:a<j
     · have Y:(a:Int)<(j:Int):=by omega
       obtain ⟨m,B4⟩:∃m:Nat,(j:Int) - 1=(m:Int):=⟨j - 1,by omega⟩
       have A7:IntKind.i64.wrap (m:Int)=(m:Int):=by rw [IntKind.wrap_i64];omega
       have U:j=m+1:=by omega
       have z:=hZ9 U;clear U;obtain ⟨A,x,Z,xm,xc,hA,J,cA,t⟩:=o.out.drew.read j (by omega);obtain ⟨B,y,ya,ym,yc,hB,L,N,s⟩:=o.out.drew.read m (by omega);have v:=(l.out.all hb C.out j (by omega)).2;have u:=(l.out.all hb C.out m (by omega)).2;rw [J] at v;rw [L] at u;have r:Hid (ltC (h (m+1)) (h m)=decide (DnS.Am x y<0)):=hZ9 (by rw [<-z.out,J,L];rfl);have p:=Np x y Z xm xc ya ym yc wr.drew (V.out _ o.out.drew.grown) v u;have jj:(j:Int)<(n:Int):=by omega
       have A9:(m:Int)<(n:Int):=by omega
       clear J L v u;obtain ⟨X,T⟩:∃c,DnS.Am x y=c:=⟨_,rfl⟩
       rw [T] at r p;clear T;cases E:decide (X<0) with
       | true=>
        have A0:X<0:=bB E;rw [E] at r;go_wp2_with fail
        go_region_held3 (fun W=>W.cell? ⟨g,A,none⟩=some (.string ⟨x.toArray⟩)/\W.cell? ⟨g,A+1,none⟩=some (.slice Z xm xc)/\W.cell? ⟨g,B,none⟩=some (.string ⟨y.toArray⟩)/\W.cell? ⟨g,B+1,none⟩=some (.slice ya ym yc)) (first | exact ⟨cA,t,N,s⟩ | exact ⟨Ab cA d,Ab t d,Ab N d,Ab s d⟩)
         (first | (go_at_call 95;(with_reducible refine p.mono ?_);rintro e w5 ⟨rfl,d⟩))
        all_goals (
         have q:=hZ9 (o.out.drew.call d);clear cA t N s p d hA hB o)
        obtain ⟨A2,B2,x1,C1,C4,A4,y1,A1,C2,A8,⟨hA2,B6⟩,⟨n1,n2,n3,n4,n5,n6⟩,⟨c1,c2,c3,c4⟩,⟨f1,f2,f3,f4⟩,H⟩:=q.out.exch j m (by omega) (by omega) (by omega);have O:=hZ9 H;have P:Hid (SoS.Sw a b f (SoS.Dq h j m)):=hZ9 (.swp l.out (by omega) (by omega) (by omega) (by omega));have S:Hid (SoS.Lt ltC (SoS.Dq h j m) a i m):=hZ9 (by
         have e:=z.out;have ho:=G.out;rw [e] at ho⊢;exact SoS.Lt.step Ia ho (by omega) r.out)
        clear H l G r q;generalize SoS.Dq h j m=h6 at*
        go_wp2
        go_region
        all_goals go_wp2
        go_roundg m
        case measure=>omega
        case rel=>exact ⟨m,h6,by go_num,by omega,by omega,aA _,P,S,O⟩
       | false=>
        have A0:¬X<0:=ba E;rw [E] at r;have K:Hid (SoS.Srt ltC h a (i+1)):=hZ9 (G.out.done Ia R (fun k hk=>l.out.all hb C.out k (by omega)) (.inr ⟨m,z.out,by rw [z.out];exact r.out⟩));go_wp2_with fail
        go_region_held3 (fun W=>W.cell? ⟨g,A,none⟩=some (.string ⟨x.toArray⟩)/\W.cell? ⟨g,A+1,none⟩=some (.slice Z xm xc)/\W.cell? ⟨g,B,none⟩=some (.string ⟨y.toArray⟩)/\W.cell? ⟨g,B+1,none⟩=some (.slice ya ym yc)) (first | exact ⟨cA,t,N,s⟩ | exact ⟨Ab cA d,Ab t d,Ab N d,Ab s d⟩)
         (first | (go_at_call 95;(with_reducible refine p.mono ?_);rintro e w5 ⟨rfl,d⟩))
        all_goals (
         have q:=hZ9 (o.out.drew.call d);clear cA t N s p d hA hB o)
        go_wp2
        go_roundg (n+1 - i2)
        case measure=>omega
        case rel=>exact ⟨i2,h,by go_num,by omega,by omega,aA _,l,by (have e:i2=i+1:=by omega);rw [e];exact K,q⟩
     · have Y:¬(a:Int)<(j:Int):=by omega
       have K:Hid (SoS.Srt ltC h a (i+1)):=hZ9 (G.out.done Ia R (fun k hk=>l.out.all hb C.out k (by omega)) (.inl (by omega)));go_wp2_with fail
       go_quiet (fail)
       have q:=hZ9 (o.out.call (below_drewN wr nq))
       go_wp2
       go_roundg (n+1 - i2)
       case measure=>omega
       case rel=>exact ⟨i2,h,by go_num,by omega,by omega,aA _,l,by (have e:i2=i+1:=by omega);rw [e];exact K,q⟩
  · have hz:¬(i:Int)<(b:Int):=by omega
    go_wp2
    go_end0
    exact ⟨rfl,F,⟨I.out,M.out.sub (aA _) (by omega)⟩,HR.out⟩
theorem XA (w0:World) (g n sz cap:Nat) (hsz:n<1000000000) (a b m:Nat) (x:a+m<=b) (hb:b+m<=n) (f:Nat->Cel) (w:World) (k:BW w0 g n sz f w):
  Calls prog 216 #[.slice (some ⟨g,0,none⟩) n cap,.int .i64 a,.int .i64 b,.int .i64 m,ET] w (Fb w0 g n sz (fun q=>q=SoS.GH f a b m)):=by
 unfold Fb;have r:Hid (BW w0 g n sz (SoS.GH f a b 0) w):=hZ9 (by rw [SoS.Ww];exact k);clear k;go_enter func216,ntmps216
 go_wp2
 go_loopg [10] m (fun g1 p wr=>∃(i:Nat),p=.int .i64 i/\i<=m/\m - i<=g1/\Hid (BW w0 g n sz (SoS.GH f a b i) wr))
 case atStart=>exact ⟨0,rfl,aR _,by omega,r⟩
 case round=>
  obtain ⟨i,rfl,o,l,HR⟩:=hrel;by_cases h:i<m
  · have e:(i:Int)<(m:Int):=by omega
    obtain ⟨A,B,N,z,F,G,y1,O,J,I,⟨hA,hB⟩,⟨H,C,n3,n4,n5,n6⟩,⟨c1,c2,c3,c4⟩,⟨f1,f2,E,f4⟩,c⟩:=HR.out.exch (a+i) (b+i) (by omega) (by omega) (by omega);have u:IntKind.i64.wrap ((a:Int)+(i:Int))=(a:Int)+(i:Int):=by rw [IntKind.wrap_i64];omega
    have y:IntKind.i64.wrap ((b:Int)+(i:Int))=(b:Int)+(i:Int):=by rw [IntKind.wrap_i64];omega
    have v:((a:Int)+(i:Int)).toNat=a+i:=by omega
    have L:((b:Int)+(i:Int)).toNat=b+i:=by omega
    have M:(a:Int)+(i:Int)<(n:Int):=by omega
    have K:(b:Int)+(i:Int)<(n:Int):=by omega
    have s:(0:Int)<=(a:Int)+(i:Int):=by omega
    have t:(0:Int)<=(b:Int)+(i:Int):=by omega
    rw [SoS.Wx f (by omega)] at c;have d:=hZ9 c;clear c HR
    go_wp2
    go_region
    all_goals go_wp2
    go_roundg (m - (i+1))
    case measure=>omega
    case rel=>exact ⟨i+1,by go_num,h,aA _,d⟩
  · have e:¬(i:Int)<(m:Int):=by omega
    have j:i=m:=by omega
    subst j
    go_wp2
    go_end0
    first | exact ⟨rfl,HR.out⟩ | exact ⟨rfl,_,rfl,HR.out⟩
theorem Qz (f:Nat->Cel) {a b m lo c:Nat} (e:a+m<=b) (d:lo<=a) (g:b+m<=c):∀i,i<=m->SoS.Sw lo c f (SoS.GH f a b i)
 | 0,_=>by rw [SoS.Ww];exact .refl
 | i+1,h=>by rw [<-SoS.Wx f (by omega)];exact .swp (Qz f e d g i (by omega)) (by omega) (by omega) (by omega) (by omega)
theorem Aee (w0:World) (g n sz cap:Nat) (hsz:n<1000000000) (a m b:Nat) (P:a<m) (Q:m<b) (hb:b<=n) (f:Nat->Cel) (w:World) (u:BW w0 g n sz f w):
  Calls prog 191 #[.slice (some ⟨g,0,none⟩) n cap,.int .i64 a,.int .i64 m,.int .i64 b,ET] w (Fb w0 g n sz (fun c=>c=SoS.AZ f a m b/\SoS.Sw a b f c)):=by
 have t:=fun a b m h1 h2 f w u=>XA w0 g n sz cap hsz a b m h1 h2 f w u;unfold Fb ET at*;have l:=hZ9 t;have G:=hZ9 u;clear t u;obtain ⟨i0,J⟩:∃i0:Nat,(m:Int) - (a:Int)=(i0:Int):=⟨m - a,by omega⟩
 obtain ⟨o,N⟩:∃o:Nat,(b:Int) - (m:Int)=(o:Int):=⟨b - m,by omega⟩
 have O:IntKind.i64.wrap (i0:Int)=(i0:Int):=by rw [IntKind.wrap_i64];omega
 have M:IntKind.i64.wrap (o:Int)=(o:Int):=by rw [IntKind.wrap_i64];omega
 go_enter func191,ntmps191
 go_wp2
 go_loopg [10,11] (i0+o) (fun g1 L R wr=>∃(i j:Nat) (c:Nat->Cel),L=.int .i64 i/\R=.int .i64 j/\1<=i/\1<=j/\i+a<=m/\m+j<=b/\i+j<=g1/\Hid (SoS.AZ c (m - i) m (m+j)=SoS.AZ f a m b)/\Hid (SoS.Sw a b f c)/\Hid (BW w0 g n sz c wr))
 case atStart=>exact ⟨i0,o,f,rfl,rfl,by omega,by omega,by omega,by omega,aA _,hZ9 (by (have e1:m - i0=a:=by omega);(have e2:m+o=b:=by omega);rw [e1,e2]),hZ9 .refl,G⟩
 case round=>
  obtain ⟨i,j,c,rfl,rfl,z,y,B,C,K,h,d,E⟩:=hrel;clear G;obtain ⟨p,hp⟩:∃p:Nat,(m:Int) - (i:Int)=(p:Int):=⟨m - i,by omega⟩
  have wp:IntKind.i64.wrap (p:Int)=(p:Int):=by rw [IntKind.wrap_i64];omega
  have HP:Hid (m - i=p):=hZ9 (by omega);by_cases x:i=j
  · subst x;have v:((i:Int) !=(i:Int))=false:=by simp
    go_wp2_with (go_at_call 216;refine (l.out p m i (by omega) (by omega) c _ E.out).mono ?_;rintro e w1 ⟨rfl,f2,rfl,k⟩)
    go_end0
    exact ⟨rfl,_,⟨by rw [<-h.out,<-HP.out];exact SoS.Aea c (by omega),d.out.trans (Qz c (by omega) (by omega) (by omega) i (aA _))⟩,k⟩
  · have v:((i:Int) !=(j:Int))=true:=by simp;omega
    by_cases A:j<i
    · have H:(j:Int)<(i:Int):=by omega
      obtain ⟨q,I⟩:∃q:Nat,(i:Int) - (j:Int)=(q:Int):=⟨i - j,by omega⟩
      have S:IntKind.i64.wrap (q:Int)=(q:Int):=by rw [IntKind.wrap_i64];omega
      go_wp2_with (go_at_call 216;refine (l.out p m j (by omega) (by omega) c _ E.out).mono ?_;rintro e w1 ⟨rfl,f2,rfl,k⟩)
      go_roundg (q+j)
      case measure=>omega
      case rel=>exact ⟨q,j,_,rfl,rfl,by omega,y,by omega,C,aA _,hZ9 (by (have e1:m - q=m - (i - j):=by omega);rw [e1,<-HP.out,SoS.AdY c (by omega) A];exact h.out),hZ9 (d.out.trans (Qz c (by omega) (by omega) (by omega) j (aA _))),hZ9 k⟩
    · have H:¬(j:Int)<(i:Int):=by omega
      obtain ⟨q,I⟩:∃q:Nat,(j:Int) - (i:Int)=(q:Int):=⟨j - i,by omega⟩
      have S:IntKind.i64.wrap (q:Int)=(q:Int):=by rw [IntKind.wrap_i64];omega
      obtain ⟨s,T⟩:∃s:Nat,(m:Int)+(j:Int)=(s:Int):=⟨m+j,by omega⟩
      have ws:IntKind.i64.wrap (s:Int)=(s:Int):=by rw [IntKind.wrap_i64];omega
      obtain ⟨r,U⟩:∃r:Nat,(s:Int) - (i:Int)=(r:Int):=⟨s - i,by omega⟩
      have wr:IntKind.i64.wrap (r:Int)=(r:Int):=by rw [IntKind.wrap_i64];omega
      have F:Hid (m+j - i=r):=hZ9 (by omega);go_wp2_with (go_at_call 216;refine (l.out p r i (by omega) (by omega) c _ E.out).mono ?_;rintro e w1 ⟨rfl,f2,rfl,k⟩)
      go_roundg (i+q)
      case measure=>omega
      case rel=>exact ⟨i,q,_,rfl,rfl,z,by omega,B,by omega,aA _,hZ9 (by (have e1:m+q=m+(j - i):=by omega);rw [e1,<-HP.out,<-F.out,SoS.AdZ c (by omega) (by omega)];exact h.out),hZ9 (d.out.trans (Qz c (by omega) (by omega) (by omega) i (aA _))),hZ9 k⟩
end
end Go.Proofs.YtgngjfjaelgaeaaGreatDoor
