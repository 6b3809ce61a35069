/- Plain laws of the stable sort by insertion and symmetric merging: rows as functions of the index, exchanges, rotations, what is sorted. Conditions: as stated. -/
import Derived.Test.YtgngjfjaelgaeaaGreatDoorKDnv
set_option maxRecDepth 100000
namespace Go.Proofs.YtgngjfjaelgaeaaGreatDoor
section
namespace SoS
variable {α:Type}
def Dc (f:Nat->α) (i j:Nat):Nat->α:=fun k=>if k=i then f j else if k=j then f i else f k
inductive Sw (a b:Nat) (f:Nat->α):(Nat->α)->Prop
 | refl:Sw a b f f
 | swp {g:Nat->α} {i j:Nat}:Sw a b f g->a<=i->i<b->a<=j->j<b->Sw a b f (Dc g i j)
theorem Sw.trans {a b:Nat} {f g h:Nat->α} (x:Sw a b f g) (y:Sw a b g h):Sw a b f h:=by
 induction y with
 | refl=>exact x
 | swp _ h1 h2 h3 h4 ih=>exact .swp ih h1 h2 h3 h4
theorem Sw.mono {a b a' b':Nat} {f g:Nat->α} (x:Sw a b f g) (ha:a'<=a) (hb:b<=b'):Sw a' b' f g:=by
 induction x with
 | refl=>exact .refl
 | swp _ h1 h2 h3 h4 ih=>exact .swp ih (by omega) (by omega) (by omega) (by omega)
theorem Sw.out {a b:Nat} {f g:Nat->α} (x:Sw a b f g):∀k,k<a\/b<=k->g k=f k:=by
 induction x with
 | refl=>exact fun _ _=>rfl
 | swp _ h1 h2 h3 h4 ih=>
  intro k hk
  unfold Dc
  rw [if_neg (by omega),if_neg (by omega)]
  exact ih k hk
theorem Sw.into {a b:Nat} {f g:Nat->α} (x:Sw a b f g):∀k,a<=k->k<b->∃j,a<=j/\j<b/\g k=f j:=by
 induction x with
 | refl=>exact fun k h1 h2=>⟨k,h1,h2,rfl⟩
 | swp _ h1 h2 h3 h4 ih=>
  intro k A0 A1
  unfold Dc
  split
  · exact ih _ h3 h4
  · split
    · exact ih _ h1 h2
    · exact ih k A0 A1
theorem Sw.all {a b n:Nat} {f g:Nat->α} (x:Sw a b f g) (hb:b<=n) {p:α->Prop} (h:∀k,k<n->p (f k)):∀k,k<n->p (g k):=fun k hk=>by
 by_cases h1:a<=k/\k<b
 · obtain ⟨j,_,h2,e⟩:=x.into k h1.1 h1.2
   rw [e]
   exact h j (by omega)
 · rw [x.out k (by omega)]
   exact h k hk
theorem AbX (f:Nat->α) (i j:Nat):∀n,i<n->j<n->((List.range n).map (Dc f i j)).Perm ((List.range n).map f):=by
 intro n hi hj
 have hp:((List.range n).map (fun k=>if k=i then j else if k=j then i else k)).Perm (List.range n):=by
  refine (List.perm_ext_iff_of_nodup ?_ List.nodup_range).2 (fun k=>?_)
  · refine List.Pairwise.map _ (fun a b (h:a≠b)=>?_) List.nodup_range
    show (if a=i then j else if a=j then i else a)≠(if b=i then j else if b=j then i else b)
    repeat' split
    all_goals omega
  · rw [List.mem_map,List.mem_range]
    constructor
    · rintro ⟨x,hx,rfl⟩
      rw [List.mem_range] at hx
      repeat' split
      all_goals omega
    · intro hk
      refine ⟨if k=i then j else if k=j then i else k,?_,?_⟩
      · rw [List.mem_range]
        repeat' split
        all_goals omega
      · repeat' split
        all_goals omega
 have e:(List.range n).map (Dc f i j)=((List.range n).map (fun k=>if k=i then j else if k=j then i else k)).map f:=by
  rw [List.map_map]
  refine List.map_congr_left (fun k _=>?_)
  show Dc f i j k=f (if k=i then j else if k=j then i else k)
  unfold Dc
  repeat' split
  all_goals first | rfl | omega
 rw [e]
 exact hp.map f
theorem Sw.perm {a b n:Nat} {f g:Nat->α} (x:Sw a b f g) (hb:b<=n):((List.range n).map g).Perm ((List.range n).map f):=by
 induction x with
 | refl=>exact List.Perm.refl _
 | swp _ h1 h2 h3 h4 ih=>exact (AbX _ _ _ n (by omega) (by omega)).trans ih
def FZ (f:Nat->α) (a b n:Nat):Nat->α:=fun k=>if a<=k/\k<a+n then f (k - a+b) else if b<=k/\k<b+n then f (k - b+a) else f k
theorem Tz (f:Nat->α) (a b:Nat):FZ f a b 0=f:=by
 funext k
 unfold FZ
 rw [if_neg (by omega),if_neg (by omega)]
theorem TA (f:Nat->α) {a b n:Nat} (h:a+n<b):Dc (FZ f a b n) (a+n) (b+n)=FZ f a b (n+1):=by
 funext k
 unfold Dc FZ
 repeat' split
 all_goals first | rfl | omega | (congr 1;omega)
def AO (f:Nat->α) (a m b:Nat):Nat->α:=fun k=>if a<=k/\k<b then (if k<a+(b - m) then f (k+(m - a)) else f (k - (b - m))) else f k
theorem AbY (f:Nat->α) {i j m:Nat} (hi:i<=m) (A0:j<i):AO (FZ f (m - i) m j) (m - (i - j)) m (m+j)=AO f (m - i) m (m+j):=by
 funext k
 unfold AO FZ
 repeat' split
 all_goals first | rfl | omega | (congr 1;omega)
theorem AbZ (f:Nat->α) {i j m:Nat} (hi:i<=m) (A0:i<j):AO (FZ f (m - i) (m+j - i) i) (m - i) m (m+(j - i))=AO f (m - i) m (m+j):=by
 funext k
 unfold AO FZ
 repeat' split
 all_goals first | rfl | omega | (congr 1;omega)
theorem Aca (f:Nat->α) {i m:Nat} (hi:i<=m):FZ f (m - i) m i=AO f (m - i) m (m+i):=by
 funext k
 unfold AO FZ
 repeat' split
 all_goals first | rfl | omega | (congr 1;omega)
theorem Ko (f:Nat->α) {s m e:Nat} (h:s=m\/e=m):AO f s m e=f:=by
 funext k
 unfold AO
 repeat' split
 all_goals first | rfl | omega | (congr 1;omega)
theorem QF (f:Nat->α) (a:Nat):AO f a (a+1) (a+1)=f:=by
 funext k
 unfold AO
 repeat' split
 all_goals first | rfl | omega | (congr 1;omega)
theorem TB (f:Nat->α) {a k:Nat} (h:a<=k):Dc (AO f a (a+1) (k+1)) k (k+1)=AO f a (a+1) (k+2):=by
 funext x
 unfold Dc AO
 repeat' split
 all_goals first | rfl | omega | (congr 1;omega)
theorem OB (f:Nat->α) (m:Nat):AO f m m (m+1)=f:=by
 funext k
 unfold AO
 repeat' split
 all_goals first | rfl | omega | (congr 1;omega)
theorem ZF (f:Nat->α) {k m:Nat} (h:k+1<=m):Dc (AO f (k+1) m (m+1)) (k+1) k=AO f k m (m+1):=by
 funext x
 unfold Dc AO
 repeat' split
 all_goals first | rfl | omega | (congr 1;omega)
structure Ord (lt:α->α->Bool) (Ok:α->Prop):Prop where
 asym:∀x y,lt x y=true->lt y x=false
 trans:∀x y z,Ok x->Ok y->Ok z->lt y x=false->lt z y=false->lt z x=false
def Srt (lt:α->α->Bool) (f:Nat->α) (a b:Nat):Prop:=∀i j,a<=i->i<j->j<b->lt (f j) (f i)=false
theorem AdE (lt:α->α->Bool) (f:Nat->α) {a b:Nat} (h:b<=a+1):Srt lt f a b:=fun i j _ _ _=>by omega
theorem Srt.sub {lt:α->α->Bool} {f:Nat->α} {a b a' b':Nat} (h:Srt lt f a b) (ha:a<=a') (hb:b'<=b):Srt lt f a' b':=fun i j h1 h2 h3=>h i j (by omega) h2 (by omega)
theorem Srt.congr {lt:α->α->Bool} {f g:Nat->α} {a b:Nat} (h:Srt lt f a b) (e:∀k,a<=k->k<b->g k=f k):Srt lt g a b:=fun i j h1 h2 h3=>by
 rw [e i h1 (by omega),e j (by omega) h3]
 exact h i j h1 h2 h3
def Kp (lt:α->α->Bool) (f:Nat->α) (a i j:Nat):Prop:=∀p q,a<=p->p<q->q<=i->q≠j->lt (f q) (f p)=false
theorem Srt.hole {lt:α->α->Bool} {f:Nat->α} {a i:Nat} (h:Srt lt f a i):Kp lt f a i i:=fun p q h1 h2 h3 h4=>h p q h1 h2 (by omega)
theorem Kp.step {lt:α->α->Bool} {Ok:α->Prop} (O:Ord lt Ok) {f:Nat->α} {a i j:Nat} (h:Kp lt f a i (j+1)) (ha:a<=j) (hl:lt (f (j+1)) (f j)=true):Kp lt (Dc f (j+1) j) a i j:=by
 intro p q h1 h2 h3 h4
 unfold Dc
 by_cases e1:q=j+1
 · subst e1
   rw [if_pos rfl]
   by_cases e2:p=j
   · subst e2
     rw [if_neg (by omega),if_pos rfl]
     exact O.asym _ _ hl
   · rw [if_neg (by omega),if_neg e2]
     exact h p j h1 (by omega) (by omega) (by omega)
 · rw [if_neg e1,if_neg h4]
   by_cases e2:p=j+1
   · subst e2
     rw [if_pos rfl]
     exact h j q ha (by omega) h3 e1
   · rw [if_neg e2]
     by_cases e3:p=j
     · subst e3
       rw [if_pos rfl]
       exact h (p+1) q (by omega) (by omega) h3 e1
     · rw [if_neg e3]
       exact h p q h1 h2 h3 e1
theorem Kp.done {lt:α->α->Bool} {Ok:α->Prop} (O:Ord lt Ok) {f:Nat->α} {a i j:Nat} (h:Kp lt f a i j) (A1:j<=i) (A0:∀k,k<=i->Ok (f k)) (hl:j=a\/∃p,j=p+1/\lt (f j) (f p)=false):Srt lt f a (i+1):=by
 intro p q h1 h2 h3
 by_cases e:q=j
 · subst e
   rcases hl with e | ⟨r,e,hl⟩
   · omega
   · by_cases e2:p=r
     · subst e2;exact hl
     · exact O.trans (f p) (f r) (f q) (A0 p (by omega)) (A0 r (by omega)) (A0 q (by omega)) (h p r h1 (by omega) (by omega) (by omega)) hl
 · exact h p q h1 h2 (by omega) e
theorem Acb {lt:α->α->Bool} {Ok:α->Prop} (O:Ord lt Ok) {f:Nat->α} {a b h:Nat} {x:α} (hs:Srt lt f a b) (A0:∀k,k<b->Ok (f k)) (hx:Ok x) (h1:a<=h) (h2:h<b) (hl:lt (f h) x=true):∀k,a<=k->k<=h->lt (f k) x=true:=fun k A1 A2=>by
 cases hc:lt (f k) x with
 | true=>rfl
 | false=>
  have h3:lt (f h) (f k)=false:=by
   by_cases e:k=h
   · subst e
     cases hq:lt (f k) (f k) with
     | false=>rfl
     | true=>have:=O.asym _ _ hq;rw [hq] at this;exact this
   · exact hs k h A1 (by omega) h2
  have:=O.trans x (f k) (f h) hx (A0 k (by omega)) (A0 h h2) hc h3
  rw [this] at hl
  cases hl
theorem AdF {lt:α->α->Bool} {Ok:α->Prop} (O:Ord lt Ok) {f:Nat->α} {a b h:Nat} {x:α} (hs:Srt lt f a b) (A0:∀k,k<b->Ok (f k)) (hx:Ok x) (h1:a<=h) (h2:h<b) (hl:lt (f h) x=false):∀k,h<=k->k<b->lt (f k) x=false:=fun k A2 A1=>by
 by_cases e:k=h
 · subst e;exact hl
 · exact O.trans x (f h) (f k) hx (A0 h h2) (A0 k A1) hl (hs h k h1 (by omega) A1)
theorem Acd {lt:α->α->Bool} {Ok:α->Prop} (O:Ord lt Ok) {f:Nat->α} {a b h:Nat} {x:α} (hs:Srt lt f a b) (A0:∀k,k<b->Ok (f k)) (hx:Ok x) (h1:a<=h) (h2:h<b) (hl:lt x (f h)=false):∀k,a<=k->k<=h->lt x (f k)=false:=fun k A1 A2=>by
 by_cases e:k=h
 · subst e;exact hl
 · exact O.trans (f k) (f h) x (A0 k (by omega)) (A0 h h2) hx (hs k h A1 (by omega) h2) hl
theorem ZG {lt:α->α->Bool} {Ok:α->Prop} (O:Ord lt Ok) {f:Nat->α} {a b h:Nat} {x:α} (hs:Srt lt f a b) (A0:∀k,k<b->Ok (f k)) (hx:Ok x) (h1:a<=h) (h2:h<b) (hl:lt x (f h)=true):∀k,h<=k->k<b->lt x (f k)=true:=fun k A2 A1=>by
 cases hc:lt x (f k) with
 | true=>rfl
 | false=>
  by_cases e:k=h
  · subst e;rw [hl] at hc;cases hc
  · have:=O.trans (f h) (f k) x (A0 h h2) (A0 k A1) hx (hs h k h1 (by omega) A1) hc
    rw [this] at hl
    cases hl
theorem VF {lt:α->α->Bool} {Ok:α->Prop} (O:Ord lt Ok) {f:Nat->α} {a b i:Nat} (hs:Srt lt f (a+1) b) (hi:a+1<=i) (A0:i<=b) (h1:∀k,a+1<=k->k<i->lt (f k) (f a)=true) (h2:∀k,i<=k->k<b->lt (f k) (f a)=false):Srt lt (AO f a (a+1) i) a b:=by
 intro p q hp A1 hq
 unfold AO
 by_cases c1:q<i
 · rw [if_pos (show a<=q/\q<i by omega),if_pos (show a<=p/\p<i by omega)]
   rw [if_pos (show p<a+(i - (a+1)) by omega)]
   split
   · exact hs _ _ (by omega) (by omega) (by omega)
   · have e:q - (i - (a+1))=a:=by omega
     rw [e]
     exact O.asym _ _ (h1 _ (by omega) (by omega))
 · rw [if_neg (show ¬(a<=q/\q<i) by omega)]
   split
   · split
     · exact hs _ _ (by omega) (by omega) (by omega)
     · have e:p - (i - (a+1))=a:=by omega
       rw [e]
       exact h2 _ (by omega) (by omega)
   · exact hs _ _ (by omega) (by omega) (by omega)
theorem XJ {lt:α->α->Bool} {Ok:α->Prop} (O:Ord lt Ok) {f:Nat->α} {a m i:Nat} (hs:Srt lt f a m) (hi:a<=i) (A1:i<=m) (h1:∀k,a<=k->k<i->lt (f m) (f k)=false) (h2:∀k,i<=k->k<m->lt (f m) (f k)=true):Srt lt (AO f i m (m+1)) a (m+1):=by
 intro p q hp A0 hq
 unfold AO
 by_cases c1:p<i
 · rw [if_neg (show ¬(i<=p/\p<m+1) by omega)]
   split
   · split
     · have e:q+(m - i)=m:=by omega
       rw [e]
       exact h1 _ (by omega) (by omega)
     · exact hs _ _ (by omega) (by omega) (by omega)
   · exact hs _ _ (by omega) (by omega) (by omega)
 · rw [if_pos (show i<=p/\p<m+1 by omega),if_pos (show i<=q/\q<m+1 by omega)]
   rw [if_neg (show ¬q<i+(m+1 - m) by omega)]
   split
   · have e:p+(m - i)=m:=by omega
     rw [e]
     exact O.asym _ _ (h2 _ (by omega) (by omega))
   · exact hs _ _ (by omega) (by omega) (by omega)
def Apart (lt:α->α->Bool) (f:Nat->α) (a m b:Nat):Prop:=∀p q,a<=p->p<m->m<=q->q<b->lt (f q) (f p)=false
theorem Nj {lt:α->α->Bool} {Ok:α->Prop} (O:Ord lt Ok) {f:Nat->α} {a m b s e mid:Nat} (hA:Srt lt f a m) (hB:Srt lt f m b) (A0:∀k,k<b->Ok (f k)) (h1:a<=s) (h2:s<=m) (h3:m<=e) (h4:e<=b) (hm:mid+m=s+e)
  (hL:s=a\/e=b\/lt (f e) (f (s - 1))=false) (hR:e=m\/s=m\/lt (f s) (f (e - 1))=false):
  Srt lt (AO f s m e) a s/\Srt lt (AO f s m e) s mid/\Srt lt (AO f s m e) mid e/\Srt lt (AO f s m e) e b/\Apart lt (AO f s m e) a mid b:=by
 have v1:∀k,k<s->AO f s m e k=f k:=fun k hk=>by unfold AO;rw [if_neg (by omega)]
 have v2:∀k,s<=k->k<mid->AO f s m e k=f (k+(m - s)):=fun k A1 A2=>by unfold AO;rw [if_pos (by omega),if_pos (by omega)]
 have v3:∀k,mid<=k->k<e->AO f s m e k=f (k - (e - m)):=fun k A1 A2=>by unfold AO;rw [if_pos (by omega),if_neg (by omega)]
 have v4:∀k,e<=k->AO f s m e k=f k:=fun k hk=>by unfold AO;rw [if_neg (by omega)]
 have cL:∀p q,a<=p->p<s->e<=q->q<b->lt (f q) (f p)=false:=fun p q p1 p2 q1 q2=>by
  rcases hL with h | h | h
  · omega
  · omega
  · have t1:lt (f e) (f p)=false:=by
     by_cases c:p=s - 1
     · subst c;exact h
     · exact O.trans (f p) (f (s - 1)) (f e) (A0 _ (by omega)) (A0 _ (by omega)) (A0 _ (by omega)) (hA p (s - 1) p1 (by omega) (by omega)) h
    by_cases c:q=e
    · subst c;exact t1
    · exact O.trans (f p) (f e) (f q) (A0 _ (by omega)) (A0 _ (by omega)) (A0 _ (by omega)) t1 (hB e q h3 (by omega) q2)
 have cR:∀p q,m<=p->p<e->s<=q->q<m->lt (f q) (f p)=false:=fun p q p1 p2 q1 q2=>by
  rcases hR with h | h | h
  · omega
  · omega
  · have t1:lt (f s) (f p)=false:=by
     by_cases c:p=e - 1
     · subst c;exact h
     · exact O.trans (f p) (f (e - 1)) (f s) (A0 _ (by omega)) (A0 _ (by omega)) (A0 _ (by omega)) (hB p (e - 1) p1 (by omega) (by omega)) h
    by_cases c:q=s
    · subst c;exact t1
    · exact O.trans (f p) (f s) (f q) (A0 _ (by omega)) (A0 _ (by omega)) (A0 _ (by omega)) t1 (hA s q h1 (by omega) q2)
 refine ⟨fun i j i1 i2 i3=>?_,fun i j i1 i2 i3=>?_,fun i j i1 i2 i3=>?_,fun i j i1 i2 i3=>?_,fun p q p1 p2 q1 q2=>?_⟩
 · rw [v1 i (by omega),v1 j i3]
   exact hA i j i1 i2 (by omega)
 · rw [v2 i i1 (by omega),v2 j (by omega) i3]
   exact hB _ _ (by omega) (by omega) (by omega)
 · rw [v3 i i1 (by omega),v3 j (by omega) i3]
   exact hA _ _ (by omega) (by omega) (by omega)
 · rw [v4 i i1,v4 j (by omega)]
   exact hB i j (by omega) i2 i3
 · by_cases c1:p<s
   · rw [v1 p c1]
     by_cases c2:q<e
     · rw [v3 q q1 c2]
       exact hA _ _ p1 (by omega) (by omega)
     · rw [v4 q (by omega)]
       exact cL p q p1 c1 (by omega) q2
   · rw [v2 p (by omega) p2]
     by_cases c2:q<e
     · rw [v3 q q1 c2]
       exact cR _ _ (by omega) (by omega) (by omega) (by omega)
     · rw [v4 q (by omega)]
       exact hB _ _ (by omega) (by omega) q2
theorem Apart.sw {lt:α->α->Bool} {f g h:Nat->α} {a m b:Nat} (x:Apart lt f a m b) (y:Sw a m f g) (z:Sw m b g h):Apart lt h a m b:=fun p q p1 p2 q1 q2=>by
 rw [z.out p (by omega)]
 obtain ⟨p',p3,p4,e1⟩:=y.into p p1 p2
 obtain ⟨q',q3,q4,e2⟩:=z.into q q1 q2
 rw [e1,e2,y.out q' (by omega)]
 exact x p' q' p3 p4 q3 q4
theorem Srt.join {lt:α->α->Bool} {f:Nat->α} {a m b:Nat} (h1:Srt lt f a m) (h2:Srt lt f m b) (h3:Apart lt f a m b):Srt lt f a b:=fun i j i1 i2 i3=>by
 by_cases c1:j<m
 · exact h1 i j i1 i2 c1
 · by_cases c2:i<m
   · exact h3 i j i1 c2 (by omega) i3
   · exact h2 i j (by omega) i2 i3
theorem QG {lt:α->α->Bool} {f1 f2 f3:Nat->α} {a b mid:Nat} (hp:Apart lt f1 a mid b) (A1:Sw a mid f1 f2) (A0:Sw mid b f2 f3) (h2:Srt lt f2 a mid) (h3:Srt lt f3 mid b):Srt lt f3 a b:=
 Srt.join (h2.congr (fun k _ hk=>A0.out k (.inl hk))) h3 (hp.sw A1 A0)
end SoS
end
section
open Go.RowKit
abbrev Cel:=List UInt8 × Option Addr × Nat × Nat
def XK (c:Cel):Value:=.slice c.2.1 c.2.2.1 c.2.2.2
def ltC (x y:Cel):Bool:=decide (DnS.Aw x.1 y.1<0)
def OkC (c:Cel):Prop:=SeS.Gh c.1/\c.1.length<=1000000
theorem GM:SoS.Ord ltC OkC where
 asym x y h:=by
  have:=DnS.CJ x.1 y.1
  simp only [ltC,decide_eq_true_eq,decide_eq_false_iff_not] at*
  omega
 trans x y z hx hy hz h k:=by
  simp only [ltC,decide_eq_false_iff_not] at*
  have h1:=DnS.CJ x.1 y.1
  have h2:=DnS.CJ y.1 z.1
  have h3:=DnS.CJ x.1 z.1
  have:=DnS.JU hx.1.txt hy.1.txt hz.1.txt (a:=x.1) (b:=y.1) (c:=z.1) (by omega) (by omega)
  omega
def BI (w0:World) (g n sz:Nat) (f:Nat->Cel) (w:World):Prop:=
 ∃cur:Array Value,Whole w g 52 cur/\cur.size=sz/\(∀k,k<n->cur[k*2]?=some (.string ⟨(f k).1.toArray⟩)/\cur[k*2+1]?=some (XK (f k)))/\w0.grownBy w (some g)
theorem ZH {w0 w w':World} {row:Option Nat} (h:w0.grownBy w row) (hb:Below w.heap.size w w'):w0.grownBy w' row:=
 ⟨hb.os.trans h.os,hb.tape.trans h.tape,hb.output.trans h.output,Nat.le_trans h.size hb.size,fun k hk A0=>(hb.block k (Nat.lt_of_lt_of_le hk h.size)).trans (h.block k hk A0)⟩
theorem Kq {w0 w:World} {g:Nat} (h:w0.grownBy w (some g)) (i:Nat) (v:Value):w0.grownBy (w.setCell ⟨g,i,none⟩ v) (some g):=
 ⟨h.os,h.tape,h.output,by rw [World.size_setCell];exact h.size,fun k hk A0=>(Below.heap_setCell w ⟨g,i,none⟩ v k (fun e=>A0 (by rw [e]))).trans (h.block k hk A0)⟩
theorem QH {w0 w:World} {row:Option Nat} (h:w0.grownBy w row):w0.grownBy w.drew row:=⟨h.os,h.tape,h.output,h.size,h.block⟩
theorem BI.call {w0 w w':World} {g n sz:Nat} {f:Nat->Cel} (h:BI w0 g n sz f w) (hb:Below w.heap.size w w'):BI w0 g n sz f w':=by
 obtain ⟨cur,h1,h2,h3,h4⟩:=h
 exact ⟨cur,h1.call hb,h2,h3,ZH h4 hb⟩
theorem BI.drew {w0 w:World} {g n sz:Nat} {f:Nat->Cel} (h:BI w0 g n sz f w):BI w0 g n sz f w.drew:=by
 obtain ⟨cur,h1,h2,h3,h4⟩:=h
 exact ⟨cur,h1.drew,h2,h3,QH h4⟩
theorem BI.grown {w0 w:World} {g n sz:Nat} {f:Nat->Cel} (h:BI w0 g n sz f w):w0.grownBy w (some g):=by
 obtain ⟨cur,h1,h2,h3,h4⟩:=h
 exact h4
theorem BI.read {w0 w:World} {g n sz:Nat} {f:Nat->Cel} (h:BI w0 g n sz f w) (k:Nat) (hk:k<n):
  ∃(A:Nat) (x:List UInt8) (a:Option Addr) (m c:Nat),k*2=A/\f k=(x,a,m,c)/\w.cell? ⟨g,A,none⟩=some (.string ⟨x.toArray⟩)/\w.cell? ⟨g,A+1,none⟩=some (.slice a m c):=by
 obtain ⟨cur,h1,h2,h3,h4⟩:=h
 obtain ⟨c0,c1⟩:=h3 k hk
 exact ⟨_,(f k).1,(f k).2.1,(f k).2.2.1,(f k).2.2.2,rfl,rfl,(h1.cell _).trans c0,(h1.cell _).trans c1⟩
theorem BI.exch {w0 w:World} {g n sz:Nat} {f:Nat->Cel} (h:BI w0 g n sz f w) (i j:Nat) (hi:i<n) (hj:j<n) (A0:i≠j):
  ∃(A B:Nat) (x1:List UInt8) (xa:Option Addr) (xm xc:Nat) (y1:List UInt8) (ya:Option Addr) (ym yc:Nat),(i*2=A/\j*2=B)/\(¬A=B/\¬B=A/\¬A+1=B/\¬A=B+1/\¬B=A+1/\¬B+1=A)/\
   (w.cell? ⟨g,A,none⟩=some (.string ⟨x1.toArray⟩)/\w.cell? ⟨g,A+1,none⟩=some (.slice xa xm xc)/\w.cell? ⟨g,B,none⟩=some (.string ⟨y1.toArray⟩)/\w.cell? ⟨g,B+1,none⟩=some (.slice ya ym yc))/\
   (w.frozen? ⟨g,A,none⟩=false/\w.frozen? ⟨g,A+1,none⟩=false/\w.frozen? ⟨g,B,none⟩=false/\w.frozen? ⟨g,B+1,none⟩=false)/\
   BI w0 g n sz (SoS.Dc f i j) ((((w.drew.setCell ⟨g,A,none⟩ (.string ⟨y1.toArray⟩)).setCell ⟨g,A+1,none⟩ (.slice ya ym yc)).setCell ⟨g,B,none⟩ (.string ⟨x1.toArray⟩)).setCell ⟨g,B+1,none⟩ (.slice xa xm xc)):=by
 obtain ⟨cur,h1,h2,h3,h4⟩:=h
 obtain ⟨a0,a1⟩:=h3 i hi
 obtain ⟨b0,b1⟩:=h3 j hj
 have sa:i*2+1<cur.size:=(Array.getElem?_eq_some_iff.1 a1).1
 have sb:j*2+1<cur.size:=(Array.getElem?_eq_some_iff.1 b1).1
 refine ⟨_,_,(f i).1,(f i).2.1,(f i).2.2.1,(f i).2.2.2,(f j).1,(f j).2.1,(f j).2.2.1,(f j).2.2.2,⟨rfl,rfl⟩,by omega,⟨(h1.cell _).trans a0,(h1.cell _).trans a1,(h1.cell _).trans b0,(h1.cell _).trans b1⟩,⟨h1.thaw _,h1.thaw _,h1.thaw _,h1.thaw _⟩,?_⟩
 refine ⟨_,(((h1.drew.put _ _).put _ _).put _ _).put _ _,by simp only [Array.size_setIfInBounds];exact h2,fun k hk=>?_,Kq (Kq (Kq (Kq (QH h4) _ _) _ _) _ _) _ _⟩
 obtain ⟨c0,c1⟩:=h3 k hk
 simp only [Array.getElem?_setIfInBounds,Array.size_setIfInBounds]
 by_cases e1:k=i
 · have hv:SoS.Dc f i j k=f j:=by unfold SoS.Dc;exact if_pos e1
   rw [hv]
   subst e1
   constructor
   · rw [if_neg (by omega),if_neg (by omega),if_neg (by omega),if_pos rfl,if_pos (by omega)]
   · rw [if_neg (by omega),if_neg (by omega),if_pos rfl,if_pos (by omega)]
     rfl
 · by_cases e2:k=j
   · have hv:SoS.Dc f i j k=f i:=by unfold SoS.Dc;rw [if_neg e1];exact if_pos e2
     rw [hv]
     subst e2
     constructor
     · rw [if_neg (by omega),if_pos rfl,if_pos (by omega)]
     · rw [if_pos rfl,if_pos (by omega)]
       rfl
   · have hv:SoS.Dc f i j k=f k:=by unfold SoS.Dc;rw [if_neg e1];exact if_neg e2
     rw [hv]
     constructor
     · rw [if_neg (by omega),if_neg (by omega),if_neg (by omega),if_neg (by omega)]
       exact c0
     · rw [if_neg (by omega),if_neg (by omega),if_neg (by omega),if_neg (by omega)]
       exact c1
end
section
open Go.RowKit
theorem WQ (x:List UInt8) (w:World):Calls Tryz.prog 192 #[.string ⟨x.toArray⟩] w fun e w'=>e=.returned (.bool false)/\w=w':=by
 go_enter Tryz.func192,Tryz.ntmps192
 go_wp2_with fail
 go_ret
 exact ⟨rfl,rfl⟩
theorem Ace (x y:List UInt8) (w:World):Calls Tryz.prog 163 #[.string ⟨x.toArray⟩,.string ⟨y.toArray⟩] w fun e w'=>e=.returned (.int .i64 (Lib.compareBytes x y))/\w=w':=by
 have n1:=fun w=>WQ x w
 have n2:=fun w=>WQ y w
 cases h1:Op.bytesLess x y with
 | true=>
  have HR:=hZ9 (cmp_lt h1)
  go_enter Tryz.func163,Tryz.ntmps163
  go_wp2_with fail
  refine (n1 _).mono ?_;rintro e w1 ⟨rfl,rfl⟩
  go_wp2_with fail
  refine (n2 _).mono ?_;rintro e w2 ⟨rfl,rfl⟩
  go_wp2_with fail
  go_ret
  exact ⟨by rw [HR.out];rfl,rfl⟩
 | false=>
  cases h2:Op.bytesLess y x with
  | true=>
   have HR:=hZ9 (cmp_gt h2)
   have A0:(x==y)=false:=by rw [RuS.eq_iff,HR.out];rfl
   go_enter Tryz.func163,Tryz.ntmps163
   go_wp2_with fail
   refine (n1 _).mono ?_;rintro e w1 ⟨rfl,rfl⟩
   go_wp2_with fail
   refine (n2 _).mono ?_;rintro e w2 ⟨rfl,rfl⟩
   go_wp2_with fail
   go_ret
   exact ⟨by rw [HR.out];rfl,rfl⟩
  | false=>
   have HR:=hZ9 (cmp_eq h1 h2)
   have A0:(x==y)=true:=by rw [RuS.eq_iff,HR.out];rfl
   go_enter Tryz.func163,Tryz.ntmps163
   go_wp2_with fail
   refine (n1 _).mono ?_;rintro e w1 ⟨rfl,rfl⟩
   go_wp2_with fail
   refine (n2 _).mono ?_;rintro e w2 ⟨rfl,rfl⟩
   go_wp2_with fail
   go_ret
   exact ⟨by rw [HR.out];rfl,rfl⟩
theorem XM (v1 v2:Value) (xs ys:List (List UInt8)) (w:World) (h1:Ai w v1 xs) (h2:Ai w v2 ys) (hl:xs.length<=1000) (B1:ys.length<=1000):Calls Tryz.prog 131 #[v1,v2] w (AdD (DnS.cmpL xs ys) w):=by
 obtain ⟨a1,c1,rfl⟩:=h1.form
 obtain ⟨a2,c2,rfl⟩:=h2.form
 obtain ⟨-,B3,C1⟩:=h1.cells
 obtain ⟨-,B2,C2⟩:=h2.cells
 have A6:=hZ9 C1
 have B0:=hZ9 C2
 clear h1 h2 C1 C2
 generalize hn:xs.length=n at*
 generalize hm:ys.length=m at*
 have HN:=hZ9 hn
 have HM:=hZ9 hm
 clear hn hm
 go_enter Tryz.func131,Tryz.ntmps131
 go_wp2_with fail
 go_loop [11] (fun i=>∃k:Nat,k<=n/\k<=m/\i=.int .i64 k/\Hid (DnS.cmpL xs ys=DnS.cmpL (xs.drop k) (ys.drop k))) (fun i=>n - (intOf i).toNat)
 case atStart=>exact ⟨0,Nat.zero_le _,Nat.zero_le _,rfl,hZ9 rfl⟩
 case round=>
  obtain ⟨k,hk,B5,rfl,HD⟩:=hrel
  by_cases A7:k<n
  · have A2:k<xs.length:=by rw [HN.out];exact A7
    obtain ⟨g1,o1,rfl,B8,d1⟩:=A6.out k _ (List.getElem?_eq_getElem A2)
    by_cases A1:k<m
    · have A3:k<ys.length:=by rw [HM.out];exact A1
      obtain ⟨g2,o2,rfl,B4,d2⟩:=B0.out k _ (List.getElem?_eq_getElem A3)
      have HS:=hZ9 (DnS.ZB k xs ys xs[k] ys[k] (List.getElem?_eq_getElem A2) (List.getElem?_eq_getElem A3))
      generalize xs[k]=x at*
      generalize ys[k]=y at*
      unfold Ac at d1 d2
      have A5:=fun w=>Ace x y w
      generalize Lib.compareBytes x y=q at*
      have B6:decide ((m:Int)<=(k:Int))=false:=decide_eq_false (by omega)
      have A8:decide (m<=k)=false:=decide_eq_false (by omega)
      clear A2 A3
      by_cases hq:q=0
      · subst hq
        have A0:Hid (DnS.cmpL xs ys=DnS.cmpL (xs.drop (k+1)) (ys.drop (k+1))):=hZ9 (by rw [HD.out,HS.out,if_pos rfl])
        go_wp2_with fail
        refine (A5 _).mono ?_;rintro e w1 ⟨rfl,rfl⟩
        go_wp2_with fail
        go_round
        case rel=>exact ⟨k+1,by omega,by omega,by go_num,A0⟩
        case measure=>simp [intOf];omega
      · have A0:Hid (DnS.cmpL xs ys=q):=hZ9 (by rw [HD.out,HS.out,if_neg hq])
        have B7:(q !=0)=true:=by simpa using hq
        go_wp2_with fail
        refine (A5 _).mono ?_;rintro e w1 ⟨rfl,rfl⟩
        go_wp2_with fail
        go_ret
        exact ⟨by rw [A0.out];rfl,rfl⟩
    · have A4:k=m:=by omega
      subst A4
      have A0:Hid (DnS.cmpL xs ys=1):=hZ9 (by rw [HD.out,DnS.ZC A2 (by rw [HM.out];exact Nat.le_refl _)])
      generalize xs[k]=x at*
      unfold Ac at d1
      clear A2
      go_wp2_with fail
      go_ret
      exact ⟨by rw [A0.out];rfl,rfl⟩
  · have A9:k=n:=by omega
    subst A9
    by_cases A1:k<m
    · have A0:Hid (DnS.cmpL xs ys=-1):=hZ9 (by rw [HD.out,DnS.ZE (by rw [HN.out];exact Nat.le_refl _) (by rw [HM.out];exact A1)])
      go_wp2_with fail
      go_ret
      exact ⟨by rw [A0.out];rfl,rfl⟩
    · have A0:Hid (DnS.cmpL xs ys=0):=hZ9 (by rw [HD.out,DnS.AbW (by rw [HN.out];exact Nat.le_refl _) (by rw [HM.out];omega)])
      go_wp2_with fail
      go_ret
      exact ⟨by rw [A0.out];rfl,rfl⟩
def AeB (B:Nat) (v:Value) (xs:List (List UInt8)) (w:World) (e:Ending) (w':World):Prop:=e=.returned (.tuple #[])/\Ai w' v xs.reverse/\Below B w w'/\∀k,k<w.heap.size->v.ownBlock≠some k->w'.heap[k]?=w.heap[k]?
theorem QI (v:Value) (xs:List (List UInt8)) (w:World) (B:Nat) (h:Own w B v xs) (hl:xs.length<=1000):Calls Tryz.prog 130 #[v] w (AeB B v xs w):=by
 have hs:=h.strs
 rcases h.2 with ⟨rfl,hn⟩ | ⟨g,cap,cur,rfl,hg,hh,hn,hm,hsz,A7⟩
 · have hx:xs=[]:=List.eq_nil_of_length_eq_zero hn
   subst hx
   refine (Tryz.slices_Reverse_string_empty none 0 w).mono ?_
   rintro e w' ⟨rfl,rfl⟩
   exact ⟨rfl,Ai.empty _,Below.refl _ _,fun _ _ _=>rfl⟩
 · have A5:g<w.heap.size:=(Array.getElem?_eq_some_iff.1 hh).1
   have hc:∀j,j<xs.length->w.cell? ⟨g,0+j,none⟩=some (.string (⟨(xs.getD j []).toArray⟩:ByteArray)):=fun j hj=>by
    obtain ⟨-,-,C⟩:=hs.cells
    obtain ⟨g',o',e,_,A3⟩:=C j _ (List.getElem?_eq_getElem hj)
    cases e
    rw [A3,List.getD_eq_getElem?_getD,List.getElem?_eq_getElem hj]
    rfl
   have hf:∀j,j<xs.length->w.frozen? ⟨g,0+j,none⟩=false:=fun j hj=>by simp [World.frozen?,hh]
   refine (Tryz.slices_Reverse_string_cells g 0 xs.length cap (fun j=>⟨(xs.getD j []).toArray⟩) w (by omega) hc hf).mono ?_
   rintro e w' ⟨rfl,q,rfl⟩
   have A4:Lib.strsOf (fun j=>(⟨(xs.getD j []).toArray⟩:ByteArray)) xs.length=xs:=by
    unfold Lib.strsOf
    apply List.ext_getElem
    · simp
    · intro i h1 h2
      simp [List.getD_eq_getElem?_getD,List.getElem?_eq_getElem h2]
   rw [A4]
   have A1:xs.reverse.map encStr=xs.reverse.map Ac:=rfl
   rw [A1]
   have A0:(w.drewN q).there g 0 (xs.reverse.map Ac).length:=by
    intro j hj
    have A2:j<xs.length:=by simpa using hj
    refine ⟨?_,hf j A2⟩
    show (w.cell? ⟨g,0+j,none⟩).isSome=true
    rw [hc j A2];rfl
   have hb:Below B w ((w.drewN q).setCells g 0 (xs.reverse.map Ac)):=Ni hg _ _ _ ((below_drewN w q).mono (by omega))
   refine ⟨rfl,⟨some ⟨g,0,none⟩,cap,by rw [List.length_reverse],by rw [List.length_reverse];exact hn,.inr ⟨g,0,rfl,Nat.lt_of_lt_of_le A5 hb.size,?_⟩⟩,hb,?_⟩
   · intro j y hj
     exact World.rangeAt_setCells_same (w.drewN q) g 0 (xs.reverse.map Ac) A0 j (Ac y) (by rw [List.getElem?_map,hj];rfl)
   · intro k hk A6
     exact World.heap_setCells_other (w.drewN q) g 0 _ hk (fun e=>A6 (by rw [e];rfl))
theorem RU {a b:List UInt8} (h:¬((DnS.Ad a).2=0/\(DnS.Ad b).2=0)):DnS.Aw a b=0:=by unfold DnS.Aw;rw [if_neg h]
theorem RV {a b:List UInt8} {tx ty:List (List UInt8)} (h:DnS.Ad a=(tx,0)) (k:DnS.Ad b=(ty,0)):DnS.Aw a b=DnS.Vr tx ty:=by unfold DnS.Aw;rw [h,k,if_pos ⟨rfl,rfl⟩]
theorem VG (a b:List UInt8) (ha:a.length<=1000000) (hb0:b.length<=1000000) (w:World) (hE:Env w):Calls Tryz.prog 96 #[.string ⟨a.toArray⟩,.string ⟨b.toArray⟩] w (SJ (DnS.Aw a b) w):=by
 have hp:=Du a ha w hE
 have hq:=fun w hE=>Du b hb0 w hE
 unfold CL at hp hq
 have B2:=(DnS.Da a).1
 have B0:=(DnS.Da b).1
 have A0:=hZ9 (RU (a:=a) (b:=b))
 obtain ⟨X,hX⟩:∃X,DnS.Ad a=X:=⟨_,rfl⟩
 obtain ⟨Y,hY⟩:∃Y,DnS.Ad b=Y:=⟨_,rfl⟩
 rw [hX] at hp B2
 rw [hY] at hq B0
 rw [hX,hY] at A0
 obtain ⟨tx,ex⟩:=X
 obtain ⟨ty,ey⟩:=Y
 simp only at hp hq B2 B0 A0
 have HX:=hZ9 hX
 have HY:=hZ9 hY
 clear hX hY
 by_cases hx:ex=0
 · subst hx
   by_cases hy:ey=0
   · subst hy
     have HR:=hZ9 (RV HX.out HY.out)
     clear A0
     go_enter Tryz.func96,Tryz.ntmps96
     go_wp2_with fail
     refine hp.mono ?_;rintro e w1 ⟨v1,rfl,A6,A1⟩
     go_wp2_with fail
     refine (hq _ (hE.below A1)).mono ?_;rintro e w2 ⟨v2,rfl,A5,A2⟩
     have A8:=A6.call A2
     go_wp2_with fail
     refine (QI v1 tx _ w.heap.size A8 (by omega)).mono ?_;rintro e w3 ⟨rfl,B7,B1,B9⟩
     have A4:∀k,v1.ownBlock=some k->v2.ownBlock≠some k:=fun k h1 h2=>by
      have q1:=Dh A6 h1
      have q2:=Dh A5 h2
      omega
     have A7:Own w3 w1.heap.size v2 ty:=A5.kept (fun k hk=>B9 k (Dh A5 hk).2 (fun h=>A4 k h hk))
     have C2:w2.heap.size<=w3.heap.size:=B1.size
     go_wp2_with fail
     refine (QI v2 ty _ w1.heap.size A7 (by omega)).mono ?_;rintro e w4 ⟨rfl,B4,A9,B3⟩
     have B8:w3.heap.size<=w4.heap.size:=A9.size
     have B6:Ai w4 v1 tx.reverse:=by
      obtain ⟨a1,c1,rfl,B5,A3⟩:=B7
      refine ⟨a1,c1,rfl,B5,?_⟩
      rcases A3 with h | ⟨g,o,rfl,hg,hcell⟩
      · exact .inl h
      · have C0:w4.heap[g]?=w3.heap[g]?:=B3 g hg (fun h=>A4 g rfl h)
        exact .inr ⟨g,o,rfl,Nat.lt_of_lt_of_le hg B8,fun j y hj=>(World.cell?_of_block (a:=⟨g,o+j,none⟩) C0).trans (hcell j y hj)⟩
     have HB:Hid (Below w.heap.size w w4):=hZ9 ((A1.trans (A2.mono A1.size)).trans ((B1.trans (A9.mono A1.size))))
     go_wp2_with fail
     refine (XM v1 v2 tx.reverse ty.reverse _ B6 B4 (by rw [List.length_reverse];omega) (by rw [List.length_reverse];omega)).mono ?_;rintro e w5 ⟨rfl,rfl⟩
     go_wp2_with fail
     go_ret
     exact ⟨by rw [HR.out];rfl,HB.out⟩
   · have HR:=hZ9 (A0.out (fun h=>hy h.2))
     have C1:(ey !=0)=true:=by simpa using hy
     go_enter Tryz.func96,Tryz.ntmps96
     go_wp2_with fail
     refine hp.mono ?_;rintro e w1 ⟨v1,rfl,A6,A1⟩
     go_wp2_with fail
     refine (hq _ (hE.below A1)).mono ?_;rintro e w2 ⟨v2,rfl,A5,A2⟩
     go_wp2_with fail
     go_ret
     exact ⟨by rw [HR.out];rfl,Aa A1 A2⟩
 · have HR:=hZ9 (A0.out (fun h=>hx h.1))
   have hex:(ex !=0)=true:=by simpa using hx
   go_enter Tryz.func96,Tryz.ntmps96
   go_wp2_with fail
   refine hp.mono ?_;rintro e w1 ⟨v1,rfl,A6,A1⟩
   go_wp2_with fail
   refine (hq _ (hE.below A1)).mono ?_;rintro e w2 ⟨v2,rfl,A5,A2⟩
   go_wp2_with fail
   go_ret
   exact ⟨by rw [HR.out];rfl,Aa A1 A2⟩
end
end Go.Proofs.YtgngjfjaelgaeaaGreatDoor
