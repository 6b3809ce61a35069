/- The walks of the reader of filters: skip and read. Conditions: as stated. -/
import Derived.Test.YtgngjfjaelgaeaaGreatDoorZFik
namespace Go.Proofs.YtgngjfjaelgaeaaGreatDoor
open Go.Proofs.Tryz
variable {C b g n:Nat} {T:TypeId} {w w':World}
namespace FiS
theorem Vp:∀{s a b:iK},Aay s=some (a,b)->b.length<=s.length
 |[],a,b,h=>by cases h
 |c :: r,a,b,h=>by
  rw[Aay] at h;split at h
  ·simp only[bq,bT] at h;rw[<-h.2];simp
  ·rw[bF] at h;obtain⟨⟨x,y⟩,h1,h2⟩:=h;simp only[bT] at h2;have:=Vp h1;rw[<-h2.2,aN];omega
theorem Ab4{s:iK}{c:UInt8}{r:iK}(h:Aaz s=some (c,r)):s=40 :: c :: r:=by
 match s,h with
 |[],h=>cases h
 |[_],h=>cases h
 |b :: c' :: r',h=>
  have h:(if b=40 then some (c',r') else none)=some (c,r):=h;by_cases hb:b=40
  ·rw[aJ hb] at h;simp only[bq,bT] at h;rw[hb,h.1,h.2]
  ·rw[aG hb] at h;cases h
theorem Ab5:∀(F n d:Nat) (s:iK),(∀x r m,Gl F n d s=some (x,r,m)->r.length<=s.length)/\(∀x r m,Fe F n d s=some (x,r,m)->r.length<=s.length):=by
 intro F
 induction F with
 |zero=>intro n d s;exact⟨λx r m h=>by simp[Gl] at h,λx r m h=>by simp[Fe] at h⟩
 |succ F e=>
  intro n d s;refine⟨λx r m h=>?_,λx r m h=>?_⟩
  ·rw[Gl] at h;split at h
   ·cases h
   ·split at h
    ·cases h
    ·rename_i c t j;have f:=Ab4 j;split at h
     ·rw[bF] at h;obtain⟨⟨i,l,o⟩,a,h2⟩:=h;simp only[bT] at h2;have:=(e (n-1) d _).2 _ _ _ a;rw[f,<-h2.2.1,aN,aN];omega
     ·unfold Aa0 at h;split at h
      ·rename_i item rest hc;rw[bF] at h;obtain⟨q,a,h2⟩:=h;simp only[bT] at h2;have:=Vp hc;rw[f,<-h2.2.1,aN];omega
      ·cases h
  ·rw[Fe] at h;split at h
   ·simp only[bq,bT] at h;rw[<-h.2.1,bD];omega
   ·split at h
    ·rename_i p q k hp;rw[bF] at h;obtain⟨⟨i,l,o⟩,a,h2⟩:=h;simp only[bT] at h2;have h4:=(e n (d+1) s).1 _ _ _ hp;have h5:=(e k d q).2 _ _ _ a;rw[<-h2.2.1];omega
    ·cases h
theorem readS_len{d:Nat}{s:iK}{x:Fi}{r:iK}{m:Nat}(h:readS n d s=some (x,r,m)):r.length<=s.length:=(Ab5 _ n d s).1 _ _ _ h
end FiS
open Go.RowKit
open FiS (Fi)
attribute [local go_sem ↓] Go.wp_at_zero Go.wp_at_succ
theorem BH.far(h:BH C b w w')(c:C<=g)(hb:b<=g)(i:Nat)(u:Value):BH C b w (w'.setCell ⟨g,i,none⟩ u):=⟨h.1.setCell (p:=⟨g,i,none⟩) hb u,λk hk a=>by
 rw[Below.heap_setCell _ _ _ _ (by show k≠g;omega)];exact h.2 k hk a⟩
theorem BH.grow{u v:World}(h:BH C b u v)(h2:Below v.heap.size v w)(hb:b<=C)(hC:C<=v.heap.size):BH C b u w:=h.trans (BH.of_below (h2.mono hC) hb)
theorem BH.grown(h:BH C b w w')(hC:w.heap.size<=C):w.grownBy w' (some b):=⟨h.1.os,h.1.tape,h.1.output,h.1.size,λk hk a=>h.2 k (by omega) (λe=>a (by rw[e]))⟩
theorem BH.whole(h:BH C b w w'){t:TypeId}{cs:Array Value}(c:Whole w g t cs)(d:g<C)(a:g≠b):Whole w' g t cs:=(h.2 g d a).trans c
theorem CY.kept{α:Type}{L:RLay α}{j:Nat}{v:Value}{xs:List α}(h:CY L T (λg=>C<=g) w C v xs)(hk:BH j b w w')(hC:w.heap.size<=j)(hb:b<C):CY L T (λg=>C<=g) w' C v xs:=by
 have d:v.ownBlock≠some b:=λe=>by have:=(h.block e).1;omega
 obtain⟨k,h1,h2,h3⟩:=h;exact⟨k,World.ownsRow.kept h1 (hk.grown hC) (.inr d),h2,λi u l a c=>L.keep (h3 i u l a c) hk.1.size (λg m f=>hk.2 g (by omega) (by have:=f.1;omega)) (λg _ h=>h)⟩
def fiG(n:Nat):RLay Fi:=⟨7,by decide,λok w cs x=>∃d up,cs=[.int .i64 x.kind,Ac x.attr,Ac x.value,Ac x.first,Ac x.last,d,up]/\Am ok w d x.any/\Bl n ok w up x.parts,
 λh i hb hk=>by obtain⟨d,up,e,h1,h2⟩:=h;exact⟨d,up,e,Am.keep h1 i hb hk,h2.keep i hb hk⟩,
 λh=>by obtain⟨d,up,rfl,_⟩:=h;rfl,
 λh=>by
  obtain⟨d,up,rfl,h1,h2⟩:=h;obtain⟨a,c,rfl,_⟩:=Ad.form h1;obtain⟨j,k,rfl,_⟩:=Ad.form h2;intro z f;simp only[ay,dX,fZ] at f;rcases f with rfl|rfl|rfl|rfl|rfl|rfl|rfl<;>rfl⟩
theorem CY.fis{v:Value}{xs:List Fi}(h:CY (fiG n) T (λg=>C<=g) w C v xs):Bl (n+1) (λg=>C<=g) w v xs:=by have h:=h.read (λg=>C<=g) (λg c=>c);refine Ad.imp h (aA _) (λ_ _ h=>h) λg o x _ _ hx=>?_;obtain⟨cs,hc,a,up,rfl,h1,h2⟩:=hx;exact⟨a,up,⟨hc 0 _ rfl,hc 1 _ rfl,hc 2 _ rfl,hc 3 _ rfl,hc 4 _ rfl,hc 5 _ rfl,hc 6 _ rfl⟩,h1,h2⟩
theorem Lu.oneFi{rok ok:Nat->Prop}{x:Fi}{a up:Value}(h:Whole w g T #[x.kind,Ac x.attr,Ac x.value,Ac x.first,Ac x.last,a,up])(f:rok g)(h1:Am ok w a x.any)(h2:Bl n ok w up x.parts):Lu (fiG n) rok ok w (.slice (some ⟨g,0,none⟩) 1 1) [x]:=by
 refine⟨_,_,rfl,aA _,.inr ⟨g,0,rfl,h.lt,f,λj y c=>?_⟩⟩;have d:j=0:=by have:=(ak.1 c).1;simp at this;exact this
 subst d;simp only[aH,bq] at c;subst c;refine⟨_,λi u l=>?_,a,up,rfl,h1,h2⟩;have e:w.cell? ⟨g,0+0*(fiG n).k+i,none⟩=(#[Value.int .i64 x.kind,Ac x.attr,Ac x.value,Ac x.first,Ac x.last,a,up]:Array Value)[i]?:=by rw[cN,bv];exact h.cell i
 rw[e,aO];exact l
theorem Agw:((prog.info? 36).bind λi=>if i.size=7/\i.bytes=120 then i.zero.map (λz=>z.cells.size) else none)=some 7:=by kernel_rfl
theorem Vq:∃i0 z,prog.info? 36=some i0/\i0.zero=some z/\i0.size=7/\i0.bytes=120/\z.cells.size=7:=by
 have h:=Agw;rw[Option.bind_eq_some_iff] at h;obtain⟨i,h1,h2⟩:=h;split at h2
 ·rename_i a;rw[bF] at h2;obtain⟨z,h3,h4⟩:=h2;exact⟨i,z,h1,h3,a.1,a.2,h4⟩
 ·cases h2
