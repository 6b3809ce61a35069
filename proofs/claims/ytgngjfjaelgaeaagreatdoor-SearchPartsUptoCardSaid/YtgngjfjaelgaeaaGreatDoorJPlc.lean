/- The walks of slices.stableCmpFunc and SortStableFunc at entries, and of tree.Sort: the row is sorted by names. Conditions: as stated. -/
import Derived.Test.YtgngjfjaelgaeaaGreatDoorJSoc
import Derived.Test.YtgngjfjaelgaeaaGreatDoorJSel
import Derived.Test.YtgngjfjaelgaeaaGreatDoorJFiv
set_option maxRecDepth 1000000
set_option maxHeartbeats 8000000
namespace Go.Proofs.YtgngjfjaelgaeaaGreatDoor
open Go.Proofs.Tryz
section
open Go.RowKit
attribute [local go_sem ↓] Go.wp_at_zero Go.wp_at_succ
def Blk (f:Nat->Cel) (s n a:Nat):Prop:=∀q,a<=q*s->SoS.Srt ltC f (q*s) (min (q*s+s) n)
theorem Vm {h h2:Nat->Cel} {t n a q:Nat} (c:a=q*t) (hd:∀p,p<q->SoS.Srt ltC h (p*t) (p*t+t)) (d:∀k,k<a->h2 k=h k) (b:SoS.Srt ltC h2 a n) (f:n<=a+t):Blk h2 t n 0:=fun p _=>by
 rcases gz p q with h3 | h3 | h3
 · have h6:p*t+t<=q*t:=by
    have:=bp t (show p+1<=q by omega);rw [dI,eN] at this;exact this
   exact ((hd p h3).congr (g:=h2) (fun k _ hk=>d k (by omega))).sub (aA _) (Nat.min_le_left _ _)
 · subst h3;rw [<-c];exact b.sub (aA _) (Nat.min_le_right _ _)
 · refine fun i j e i2 i3=>?_;have h6:q*t+t<=p*t:=by
    have:=bp t (show q+1<=p by omega);rw [dI,eN] at this;exact this
   have:=Nat.min_le_right (p*t+t) n;omega
theorem Adv (w0:World) (g n sz cap:Nat) (hsz:n<1000000000) (W:∀w,w0.grownBy w (some g)->Env w) (f:Nat->Cel) (v:∀k,k<n->OkC (f k)) (w:World) (N:BW w0 g n sz f w):
  Calls prog 129 #[.slice (some ⟨g,0,none⟩) n cap,.int .i64 n,ET] w (Fb w0 g n sz (fun f'=>SoS.Sw 0 n f f'/\SoS.Srt ltC f' 0 n)):=by
 have J:=fun a b h1 h2 f v w N=>Ac8 w0 g n sz cap hsz W a b h1 h2 f v w N;have L:=fun a m b h1 h2 h3 f v A0 A5 w N=>Aal w0 g n sz cap hsz W (b - a) a m b (aA _) h1 h2 h3 f v A0 A5 w N;unfold Fb ET at*;have I:=hZ9 J;have H:=hZ9 L;have HW:=hZ9 N;have F:=hZ9 v;clear J L N v W;go_enter func129,ntmps129
 go_wp2
 go_loopg [7,8] n (fun g1 U V wr=>∃(q:Nat) (a b:Nat) (h:Nat->Cel),U=.int .i64 a/\V=.int .i64 b/\b=a+20/\a<=n/\n - a<=g1/\Hid (a=q*20)/\Hid (SoS.Sw 0 n f h)/\Hid (∀p,p<q->SoS.Srt ltC h (p*20) (p*20+20))/\Hid (BW w0 g n sz h wr))
 case atStart=>exact ⟨0,0,20,f,rfl,rfl,rfl,aR _,by omega,hZ9 (by omega),hZ9 .refl,hZ9 (fun p hp=>by omega),HW⟩
 case round=>
  obtain ⟨q,a,b,h,rfl,rfl,hb,A2,X,y,d,l,E⟩:=hrel;have B4:a<=b:=by omega
  have A9:b<=a+20:=by omega
  have B0:a<b:=by omega
  have R:Hid (b=a+20):=hZ9 hb;clear hb HW;by_cases Q:b<=n
  · have hz:(b:Int)<=(n:Int):=by omega
    obtain ⟨C,Z⟩:∃C:Nat,(b:Int)+20=(C:Int):=⟨b+20,by omega⟩
    have A4:IntKind.i64.wrap (C:Int)=(C:Int):=by rw [IntKind.wrap_i64];omega
    go_wp2_with fail;refine (I.out a b (by omega) (by omega) h (d.out.all (aA _) F.out) _ E.out).mono ?_;rintro e w1 ⟨rfl,h2,⟨c,i⟩,x⟩;have o:Hid (SoS.Sw 0 n f h2):=hZ9 (d.out.trans (c.mono (aR _) Q));have j:Hid (∀p,p<q+1->SoS.Srt ltC h2 (p*20) (p*20+20)):=hZ9 (fun p hp=>by
     rcases br (cF hp) with h3 | rfl
     · exact (l.out p h3).congr (fun k _ hk=>c.out k (.inl (by have:=y.out;omega)))
     · rw [<-y.out,<-R.out];exact i)
    have G:=hZ9 x;have z:Hid (b=(q+1)*20):=hZ9 (by rw [R.out,y.out];omega);clear c i x d l E
    go_wp2
    go_roundg (n - b)
    case measure=>omega
    case rel=>exact ⟨q+1,b,C,h2,rfl,rfl,by omega,Q,aA _,z,o,j,G⟩
  · have hz:¬(b:Int)<=(n:Int):=by omega
    go_wp2_with fail;refine (I.out a n (by omega) (by omega) h (d.out.all (aA _) F.out) _ E.out).mono ?_;rintro e w1 ⟨rfl,h2,⟨c,i⟩,x⟩;have o:Hid (SoS.Sw 0 n f h2):=hZ9 (d.out.trans (c.mono (aR _) (aA _)));have j:Hid (Blk h2 20 n 0):=hZ9 (Vm (h:=h) (a:=a) (q:=q) y.out (fun p hp=>l.out p hp) (fun k hk=>c.out k (.inl hk)) i (by omega));have G:=hZ9 x;clear c i x d l E y R
    go_wp2
    go_loopg [6,7,8,9] n (fun g1 vs U V vm wr=>∃(s:Nat) (h:Nat->Cel),vs=.int .i64 s/\1<=s/\s<=2000000000/\n - s<=g1/\Hid (SoS.Sw 0 n f h)/\Hid (Blk h s n 0)/\Hid (BW w0 g n sz h wr))
    case atStart=>exact ⟨20,h2,rfl,by omega,by omega,by omega,o,j,G⟩
    case round=>
     obtain ⟨s,h,rfl,x,B3,B5,d,l,T⟩:=hrel;clear o j G;by_cases A8:s<n
     · have A3:(s:Int)<(n:Int):=by omega
       obtain ⟨t,ht⟩:∃t:Nat,(2:Int)*(s:Int)=(t:Int):=⟨2*s,by omega⟩
       have B1:(s:Int)*2=(t:Int):=by omega
       have wt:IntKind.i64.wrap (t:Int)=(t:Int):=by rw [IntKind.wrap_i64];omega
       have HT:Hid (t=s+s):=hZ9 (by omega)
       go_wp2
       go_loopg [7,8] n (fun g1 U V wr=>∃(q a b:Nat) (h:Nat->Cel),U=.int .i64 a/\V=.int .i64 b/\b<=a+t/\a+t<=b/\a<=n/\n - a<=g1/\Hid (a=q*t)/\Hid (SoS.Sw 0 n f h)/\Hid (∀p,p<q->SoS.Srt ltC h (p*t) (p*t+t))/\Hid (Blk h s n a)/\Hid (BW w0 g n sz h wr))
       case atStart=>exact ⟨0,0,t,h,rfl,rfl,by omega,by omega,aR _,by omega,hZ9 (by omega),d,hZ9 (fun p hp=>by omega),l,T⟩
       case round=>
        obtain ⟨q,a,b,h,rfl,rfl,B6,B2,A2,X,y,d,r,l,E⟩:=hrel;obtain ⟨m,hm⟩:∃m:Nat,(a:Int)+(s:Int)=(m:Int):=⟨a+s,by omega⟩
        have wm:IntKind.i64.wrap (m:Int)=(m:Int):=by rw [IntKind.wrap_i64];omega
        have HM:Hid (m=a+s):=hZ9 (by omega);have R:Hid (b=m+s):=hZ9 (by have:=HT.out;omega);have z:Hid (a=(q+q)*s):=hZ9 (by rw [y.out,HT.out,Nat.mul_add,dI]);have S:Hid (m=(q+q+1)*s):=hZ9 (by rw [HM.out,z.out,dI (q+q) 1,eN]);have u:Hid (SoS.Srt ltC h a (min m n)):=hZ9 (by
         have h5:=l.out (q+q) (by rw [<-z.out];exact aA _);rw [<-z.out,<-HM.out] at h5;exact h5)
        have A:Hid (SoS.Srt ltC h m (min b n)):=hZ9 (by
         have h5:=l.out (q+q+1) (by rw [<-S.out];omega);rw [<-S.out,<-R.out] at h5;exact h5)
        by_cases K:b<=n
        · have Y:(b:Int)<=(n:Int):=by omega
          obtain ⟨C,Z⟩:∃C:Nat,(b:Int)+(t:Int)=(C:Int):=⟨b+t,by omega⟩
          have A4:IntKind.i64.wrap (C:Int)=(C:Int):=by rw [IntKind.wrap_i64];omega
          go_wp2_with fail;refine (H.out a m b (by omega) (by omega) (by omega) h (d.out.all (aA _) F.out) (u.out.sub (aA _) (eV.2 ⟨aA _,by omega⟩)) (A.out.sub (aA _) (eV.2 ⟨aA _,by omega⟩)) _ E.out).mono ?_;rintro e w1 ⟨rfl,h2,⟨c,i⟩,B⟩;have o:Hid (SoS.Sw 0 n f h2):=hZ9 (d.out.trans (c.mono (aR _) K));have P:Hid (∀p,p<q+1->SoS.Srt ltC h2 (p*t) (p*t+t)):=hZ9 (fun p hp=>by
           rcases br (cF hp) with h3 | rfl
           · refine (r.out p h3).congr (fun k _ hk=>c.out k (.inl ?_));have h6:p*t+t<=q*t:=by
              have:=bp t (show p+1<=q by omega);rw [dI,eN] at this;exact this
             have:=y.out;omega
           · rw [<-y.out];exact i.sub (aA _) (by omega))
          have j:Hid (Blk h2 s n b):=hZ9 (fun p hp=>(l.out p (by omega)).congr (fun k hk _=>c.out k (.inr (by omega))));have M:=hZ9 B;have A1:Hid (b=(q+1)*t):=hZ9 (by rw [dI,eN,<-y.out];omega);clear c i B u A l r d E
          go_wp2
          go_roundg (n - b)
          case measure=>omega
          case rel=>exact ⟨q+1,b,C,h2,rfl,rfl,by omega,by omega,K,aA _,A1,o,P,j,M⟩
        · have Y:¬(b:Int)<=(n:Int):=by omega
          by_cases A7:m<n
          · have A6:(m:Int)<(n:Int):=by omega
            go_wp2_with fail;refine (H.out a m n (by omega) (by omega) (by omega) h (d.out.all (aA _) F.out) (u.out.sub (aA _) (eV.2 ⟨aA _,by omega⟩)) (A.out.sub (aA _) (eV.2 ⟨by omega,aA _⟩)) _ E.out).mono ?_;rintro e w1 ⟨rfl,h2,⟨c,i⟩,B⟩;have o:Hid (SoS.Sw 0 n f h2):=hZ9 (d.out.trans (c.mono (aR _) (aA _)));have j:Hid (Blk h2 t n 0):=hZ9 (Vm (h:=h) (a:=a) (q:=q) y.out (fun p hp=>r.out p hp) (fun k hk=>c.out k (.inl hk)) i (by omega));have M:=hZ9 B;clear c i B u A l r d E
            go_wp2
            go_roundg (n - t)
            case measure=>omega
            case rel=>exact ⟨t,h2,by go_num,by omega,by omega,aA _,o,j,M⟩
          · have A6:¬(m:Int)<(n:Int):=by omega
            have j:Hid (Blk h t n 0):=hZ9 (Vm (h:=h) (a:=a) (q:=q) y.out (fun p hp=>r.out p hp) (fun k hk=>rfl) (u.out.sub (aA _) (eV.2 ⟨by omega,aA _⟩)) (by omega));clear u A l r
            go_wp2
            go_roundg (n - t)
            case measure=>omega
            case rel=>exact ⟨t,h,by go_num,by omega,by omega,aA _,d,j,E⟩
     · have A3:¬(s:Int)<(n:Int):=by omega
       have O:Hid (SoS.Srt ltC h 0 n):=hZ9 (by
        have h5:=l.out 0 (aR _);rw [cO,bi] at h5;exact h5.sub (aA _) (eV.2 ⟨by omega,aA _⟩))
       go_wp2
       go_end0
       exact ⟨rfl,h,⟨d.out,O.out⟩,T.out⟩
theorem Vn (w0:World) (g n sz cap:Nat) (hsz:n<1000000000) (c:∀w,w0.grownBy w (some g)->Env w) (f:Nat->Cel) (a:∀k,k<n->OkC (f k)) (w:World) (h:BW w0 g n sz f w):
  Calls prog 94 #[.slice (some ⟨g,0,none⟩) n cap,ET] w (Fb w0 g n sz (fun d=>SoS.Sw 0 n f d/\SoS.Srt ltC d 0 n)):=by
 have b:=Adv w0 g n sz cap hsz c f a w h;unfold Fb ET at*;clear h a c;go_enter func94,ntmps94;go_wp2_with fail;refine b.mono ?_;rintro e w1 ⟨rfl,i⟩
 go_wp2
 go_end0
 exact ⟨rfl,i⟩
theorem Zk (w0:World) (g n sz cap:Nat) (hsz:n<1000000000) (c:∀w,w0.grownBy w (some g)->Env w) (f:Nat->Cel) (a:∀k,k<n->OkC (f k)) (w:World) (h:BW w0 g n sz f w):
  Calls prog 60 #[.slice (some ⟨g,0,none⟩) n cap] w (Fb w0 g n sz (fun d=>SoS.Sw 0 n f d/\SoS.Srt ltC d 0 n)):=by
 have b:=Vn w0 g n sz cap hsz c f a w h;unfold Fb ET at*;clear h a c;go_enter func60,ntmps60;go_wp2_with fail;refine b.mono ?_;rintro e w1 ⟨rfl,i⟩
 go_wp2
 go_end0
 exact ⟨rfl,i⟩
end
section
open Go.RowKit
attribute [local go_sem ↓] Go.wp_at_zero Go.wp_at_succ
theorem AeI {α β:Type} {φ:β->α} {a b:Nat} {h:Nat->β} {d:Nat->α} (x:SoS.Sw a b (fun k=>φ (h k)) d):∃c,SoS.Sw a b h c/\d=fun k=>φ (c k):=by
 induction x with
 | refl=>exact ⟨h,.refl,rfl⟩
 | swp _ h1 h2 h3 h4 ih=>
  obtain ⟨c,e,rfl⟩:=ih;refine ⟨_,.swp e h1 h2 h3 h4,?_⟩;funext k;unfold SoS.Dq;split
  · rfl
  · split <;> rfl
def MI (x:EnS.En × Value):Cel:=match x.2 with
 | .slice a m c=>(x.1.name,a,m,c)
 | _=>(x.1.name,none,0,0)
theorem Iq (x:EnS.En × Value):(MI x).1=x.1.name:=by unfold MI;split <;> rfl
theorem Vo {x:EnS.En × Value} {a:Option Addr} {m c:Nat} (h:x.2=.slice a m c):Aaj (MI x)=x.2:=by unfold MI Aaj;rw [h]
theorem Abs {cur:Array Value} {ys:List EnS.En} {a:List Value} (hu:a.length=ys.length) (hc:∀k (hk:k<ys.length),cur[k*2]?=some (Ac (ys[k]'hk).name)/\cur[k*2+1]?=a[k]?):cur.toList.take (ys.length*2)=flatK enK ys a:=by
 refine List.ext_getElem? fun i=>?_;by_cases d:i<ys.length*2
 · rw [fe d,gA];have hk:i / 2<ys.length:=by omega
   have b:i / 2<a.length:=by omega
   obtain ⟨c,f1⟩:=Gx enK ys a (i / 2) _ _ (aJ hk) (aJ b);obtain ⟨c0,c1⟩:=hc (i / 2) hk;rcases df i with h | h
   · rw [show i=i / 2*2 by omega,c];exact c0
   · rw [show i=i / 2*2+1 by omega,f1,c1,aJ b]
 · rw [dC (by rw [au];omega),dC (by rw [GK enK ys a hu];omega)]
theorem Abt {α:Type} {xs:List α} {f:Nat->α} (h:∀k (hk:k<xs.length),f k=xs[k]'hk):(List.range xs.length).map f=xs:=by refine fZ (by simp) fun i h1 h2=>?_;rw [fg,eF];exact h i h2
def Yd (C B:Nat) (v:Value) (xs:List EnS.En) (w:World) (e:Ending) (w':World):Prop:=e=.returned (.tuple #[])/\∃ys,Ao enK 52 [9,56] C w' B v ys/\ys.Perm xs/\ys.Pairwise (fun a b=>¬DnS.Am b.name a.name<0)/\Below B w w'
theorem Zl {C B:Nat} {w w':World} {g cap:Nat} {cur:Array Value} {xs:List EnS.En} {O:List Value} (hC:C<=B) (S:B<=g) (t:xs.length<=cap) (H:cap<=maxLen) (N:w.heap[g]?=some (.cells cur 52 (0,0)))
  (A:∀(i:Nat) (u:Value) (x:EnS.En),O[i]?=some u->xs[i]?=some x->Ax (okT [9,56] C w) w u x.attrs) {h:Nat->EnS.En × Value} (hx:∀k (hk:k<xs.length),(h k).1=xs[k]'hk) (s:∀k,k<xs.length->O[k]?=some (h k).2)
  {K:Nat->Cel} (hp:SoS.Sw 0 xs.length (fun k=>MI (h k)) K/\SoS.Srt ltC K 0 xs.length) (E:BW w g xs.length (cap*2) K w'):
  ∃ys,Ao enK 52 [9,56] C w' B (.slice (some ⟨g,0,none⟩) xs.length cap) ys/\ys.Perm xs/\ys.Pairwise (fun a b=>¬DnS.Am b.name a.name<0)/\Below B w w':=by
 obtain ⟨M,L⟩:=hp;obtain ⟨G,n,rfl⟩:=AeI M;obtain ⟨y,c1,c2,c3,c4⟩:=E;have hlen:((List.range xs.length).map (fun k=>(G k).1)).length=xs.length:=by simp
 have l:((List.range xs.length).map (fun k=>(G k).1)).Perm xs:=by have h1:=(n.perm (aA _)).map Prod.fst;rw [cd,cd] at h1;have h2:(List.range xs.length).map (Prod.fst ∘ h)=xs:=Abt (fun k hk=>hx k hk);rw [h2] at h1;exact h1
 have J:∀k,k<xs.length->∃a m c,(h k).2=.slice a m c:=fun k hk=>by obtain ⟨a,c,e,_⟩:=Ad.form (A k _ _ (s k hk) (aJ hk));exact ⟨a,_,c,e⟩
 have q:=n.all (aA _) (p:=fun z=>∃a m c,z.2=.slice a m c) J;have U:g<w.heap.size:=(ah.1 N).1;have r:=n.all (aA _) (p:=fun z=>Ax (okT [9,56] C w) w z.2 z.1.attrs) (fun k hk=>A k _ _ (s k hk) (by rw [aJ hk,hx k hk]));have o:∀{u:Value} {v:List EnS.At},Ax (okT [9,56] C w) w u v->Ax (okT [9,56] C w') w' u v:=fun h=>by
  have hb:∀k,k<w.heap.size->okT [9,56] C w k->w'.heap[k]?=w.heap[k]?:=fun k hk d=>c4.block k hk (fun e=>by
   have e:=aU e;subst e;rcases d with d | ⟨cs,T,fz,hc,Q⟩
   · omega
   · rw [N] at hc;cases hc
     revert Q
     decide)
  exact h.keep c4.size hb (fun k hk d=>d.same (hb k hk d))
 refine ⟨(List.range xs.length).map (fun k=>(G k).1),⟨(List.range xs.length).map (fun k=>(G k).2),?_,by simp,fun i u x F hx=>?_⟩,l,?_,?_⟩
 · refine ⟨by rw [GK _ _ _ (by simp)],.inr ⟨g,cap,y,by rw [hlen],S,c1,by rw [hlen];exact t,H,c2,?_⟩⟩;refine Abs (by simp) (fun k hk=>?_);have f:k<xs.length:=by rw [hlen] at hk;exact hk
   obtain ⟨P,d1⟩:=c3 k f;obtain ⟨a,m,c,e⟩:=q k f;rw [Iq] at P;rw [Vo e] at d1;rw [fg,eF,bZ,List.getElem?_range f];exact ⟨P,d1⟩
 · rw [bZ] at F hx;cases E:(List.range xs.length)[i]? with
   | none=>rw [E] at F;cases F
   | some j=>
    rw [E] at F hx;cases F;cases hx;have R:j<xs.length:=by
     have:=List.mem_of_getElem? E
     simpa using this
    exact o (r j R)
 · rw [eH];have I:(List.range xs.length).Pairwise (· <·):=List.pairwise_lt_range;refine fh (fun {a b} ha hb hab=>?_) I;have h1:=L a b (aR _) hab (by simpa using hb);unfold ltC at h1;rw [Iq,Iq,bc] at h1;exact h1
 · exact ⟨c4.os,c4.tape,c4.output,c4.size,fun k hk=>c4.block k (by omega) (fun e=>by have e:=aU e;omega)⟩
theorem Abu (w:World):Calls prog 161 #[.slice none 0 0,.int .i64 0,.int .i64 0,ET] w fun e w'=>e=.returned (.tuple #[])/\w'=w:=by
 unfold ET;go_enter func161,ntmps161
 go_wp2
 refine wp_loop_rounds 1 ?_;rw [rounds_succ]
 go_wp2
 go_end0
 exact ⟨rfl,rfl⟩
theorem Adw (w:World):Calls prog 129 #[.slice none 0 0,.int .i64 0,ET] w fun e w'=>e=.returned (.tuple #[])/\w'=w:=by
 have a:=Abu w;unfold ET at*;go_enter func129,ntmps129
 go_wp2
 refine wp_loop_rounds 1 ?_;rw [rounds_succ];go_wp2_with fail;refine a.mono ?_;rintro e w1 ⟨rfl,rfl⟩
 go_wp2
 refine wp_loop_rounds 1 ?_;rw [rounds_succ]
 go_wp2
 go_end0
 exact ⟨rfl,rfl⟩
theorem Zm (w:World):Calls prog 60 #[.slice none 0 0] w fun e w'=>e=.returned (.tuple #[])/\w'=w:=by
 have a:=Adw w;have b:Calls prog 94 #[.slice none 0 0,ET] w fun e w'=>e=.returned (.tuple #[])/\w'=w:=by
  unfold ET at*;go_enter func94,ntmps94;go_wp2_with fail;refine a.mono ?_;rintro e w1 ⟨rfl,rfl⟩
  go_wp2
  go_end0
  exact ⟨rfl,rfl⟩
 clear a;unfold ET at b;go_enter func60,ntmps60;go_wp2_with fail;refine b.mono ?_;rintro e w1 ⟨rfl,rfl⟩
 go_wp2
 go_end0
 exact ⟨rfl,rfl⟩
theorem Adx {C B:Nat} {w:World} {v:Value} {xs:List EnS.En} (hC:C<=B) (hB:B<=w.heap.size) (h:Ao enK 52 [9,56] C w B v xs) (hE:∀W,Below B w W->Env W) (ok:∀e ∈ xs,SeS.Gz e.name/\e.name.length<=1000000) (s:xs.length<1000000000):
  Calls prog 60 #[v] w (Yd C B v xs w):=by
 obtain ⟨j,h1,h2,h3⟩:=h;obtain ⟨u,d⟩:=h1;rcases d with ⟨rfl,t⟩ | ⟨g,cap,cur,rfl,x,n,m,o,hsz,p⟩
 · have hx:=aW t;subst hx;refine (Zm w).mono ?_;rintro e w1 ⟨rfl,rfl⟩;exact ⟨rfl,[],Ao.empty _ _ _ _ _ _,dZ _,eI,Below.refl _ _⟩
 · have y:g<w.heap.size:=(ah.1 n).1
   let h:Nat->EnS.En × Value:=fun k=>if hk:k<xs.length then (xs[k]'hk,j[k]'(by omega)) else (⟨[],[]⟩,.slice none 0 0)
   have hx:∀k (hk:k<xs.length),(h k).1=xs[k]'hk:=fun k hk=>by show (if hk:k<xs.length then _ else _:EnS.En × Value).1=_;rw [gm hk]
   have l:∀k,k<xs.length->j[k]?=some (h k).2:=fun k hk=>by
    show _=some (if hk:k<xs.length then _ else _:EnS.En × Value).2
    rw [gm hk,aJ (by omega)]
   have i:∀k,k<xs.length->cur[k*2]?=some (.string ⟨(MI (h k)).1.toArray⟩)/\cur[k*2+1]?=some (Aaj (MI (h k))):=fun k hk=>by
    have b:k<j.length:=by omega
    obtain ⟨q,f1⟩:=Gx enK xs j k _ _ (aJ hk) (aJ b);rw [<-p,fe (by omega),gA] at q f1;obtain ⟨a,c,e,_⟩:=Ad.form (h3 k _ _ (aJ b) (aJ hk));have r:(h k).2=j[k]'b:=by have:=l k hk;rw [aJ b] at this;exact (aU this).symm
    rw [Iq,hx k hk,Vo (r.trans e),r];exact ⟨q,f1⟩
   have f:=Zk w g xs.length (cap*2) cap s (fun W hW=>hE W ⟨hW.os,hW.tape,hW.output,hW.size,fun k hk=>hW.block k (by omega) (fun e=>by have e:=aU e;omega)⟩) (fun k=>MI (h k)) (fun k hk=>by
    unfold OkC;rw [Iq,hx k hk];exact ok _ (aZ hk)) w ⟨cur,n,hsz,i,⟨rfl,rfl,rfl,aA _,fun _ _ _=>rfl⟩⟩
   refine f.mono ?_;rintro e w1 ⟨rfl,A,hp,z⟩;exact ⟨rfl,Zl hC x m o n h3 hx l hp z⟩
end
section
open Go.RowKit
attribute [local go_sem ↓] Go.wp_at_zero Go.wp_at_succ
theorem Whole.grownN {w w':World} {g:Nat} {T:TypeId} {cs:Array Value} (h:Whole w g T cs) {row:Option Nat} (b:w.grownBy w' row) (a:some g≠row):Whole w' g T cs:=(b.block g h.lt a).trans h
theorem Ao.grownN {α:Type} {L:KLay α} {T:TypeId} {Ts:List TypeId} {C:Nat} {w w':World} {B:Nat} {v:Value} {xs:List α} (h:Ao L T Ts C w B v xs) {r:Nat} (c:w.grownBy w' (some r)) (d:∀cs f fz,w.heap[r]?≠some (.cells cs f fz)) (hC:C<=r):Ao L T Ts C w' B v xs:=by
 obtain ⟨l,h1,h2,h3⟩:=h;have j:v.ownBlock=none\/v.ownBlock≠some r:=by
  rcases h1.2 with ⟨rfl,_⟩ | ⟨g,cap,cur,rfl,_,k,_⟩
  · exact .inl rfl
  · refine .inr (fun e=>?_);have e:=aU e;subst e;exact d _ _ _ k
 refine ⟨l,h1.kept c j,h2,fun i u x hu hx=>?_⟩;refine L.keep (h3 i u x hu hx) c.size (fun g b a=>c.block g b (fun e=>?_)) (fun g b a=>a.same (c.block g b (fun e=>?_)))
 all_goals
  have e:=aU e;subst e;rcases a with a | ⟨cs,f,fz,hc,_⟩
  · omega
  · exact d _ _ _ hc
theorem Vp {P:Program} {k:TypeId} {w:World} {b r n:Nat} {f:List UInt8->Option Value} {todo:List UInt8->Bool} {cnt:Nat} (h:DU P k w b r n f todo cnt):(∀cs T fz,w.heap[r]?≠some (.cells cs T fz))/\∀cs T fz,w.heap[b]?≠some (.cells cs T fz):=by obtain ⟨D,left,h1,_⟩:=h;obtain ⟨es,clock,since,seen,c0,c,_,_,_,a,_⟩:=h1;exact ⟨fun cs T fz hc=>(by rw [a] at hc;cases hc),fun cs T fz hc=>(by rw [c] at hc;cases hc)⟩
structure GoneS (C:Nat) (R:List EnS.En) (f:List UInt8->Option Value) (zs:List EnS.En) (todo:List UInt8->Bool):Prop where
 nodup:(zs.map EnS.En.name).Nodup
 sub:∀e ∈ zs,e ∈ R
 all:∀s,(f s).isSome=true->todo s=true\/∃e ∈ zs,e.name=s
 done:∀e ∈ zs,todo e.name=false
theorem GoneS.more {C:Nat} {R:List EnS.En} {f:List UInt8->Option Value} {zs:List EnS.En} {todo:List UInt8->Bool} (h:GoneS C R f zs todo) {x:EnS.En} (hx:x ∈ R) (k:todo x.name=true):GoneS C R f (zs++[x]) (fun s=>todo s&&decide (s≠x.name)) where
 nodup:=by rw [bP,fH];refine ⟨h.nodup,by simp,fun a j b hb e=>?_⟩;simp only [cz,fU,ak] at hb;subst hb;subst e;obtain ⟨y,l,g⟩:=bD.1 j;have:=h.done y l;rw [g,k] at this;cases this
 sub e c:=by
  rcases b9.1 c with c | c
  · exact h.sub e c
  · rw [ak] at c;subst c;exact hx
 all s hs:=by
  rcases h.all s hs with i | ⟨e,c,g⟩
  · by_cases d:s=x.name
    · exact .inr ⟨x,dM _ (ak.2 rfl),d.symm⟩
    · exact .inl (by simp [i,d])
  · exact .inr ⟨e,bq _ c,g⟩
 done e c:=by
  rcases b9.1 c with c | c
  · simp [h.done e c]
  · rw [ak] at c;subst c;simp
theorem GoneS.end_ {C:Nat} {R:List EnS.En} {f:List UInt8->Option Value} {zs:List EnS.En} {todo:List UInt8->Bool} (h:GoneS C R f zs todo) (g:∀s,todo s=false) (h1:SeS.BD R) (i:∀e ∈ R,(f e.name).isSome=true):∀e,e ∈ zs↔e ∈ R:=fun e=>by
 refine ⟨h.sub e,fun a=>?_⟩;rcases h.all e.name (i e a) with b | ⟨y,c,d⟩
 · rw [g] at b;cases b
 · rw [<-h1 y (h.sub y c) e a d];exact c
theorem GoneS.len {C:Nat} {R:List EnS.En} {f:List UInt8->Option Value} {zs:List EnS.En} {todo:List UInt8->Bool} (h:GoneS C R f zs todo):zs.length<=R.length:=by
 have h2:=SeS.NG (U:=R.map EnS.En.name) h.nodup (fun s c=>by
  obtain ⟨e,a,b⟩:=bD.1 c;exact bD.2 ⟨e,h.sub e a,b⟩)
 simpa using h2
theorem AeJ (C:Nat) (n:Nat) (q:SeS.Rq) (rv:Value) (fb b N:Nat) (R:List EnS.En) (w:World) (hC:C<=w.heap.size) (hW:Whole w fb 63 #[.map (some b)]) (hk:Bz C w (some b) N R) (hq:EC n w rv q) (D2:q.attrs.length<=1048576/\∀s ∈ q.attrs,s.length<=1048576) (hf:Eb R) (E3:∀e ∈ R,MB e.attrs) (ho:SeS.Bt R) (h1:SeS.BD R) (hE:Env w):
  Calls prog 29 #[.pointer (some ⟨fb,0,none⟩),rv] w (fun e w'=>∃v,e=.returned v/\Ao enK 52 [9,56] C w' w.heap.size v ((SeS.Bd R).map (SeS.DC q.attrs q.tonly))/\Below w.heap.size w w'):=by
 obtain ⟨f,hm,S,D5⟩:∃f,Dn prog 9 w b N f/\(∀s,(f s).isSome=true↔∃e ∈ R,e.name=s)/\∀e ∈ R,∃u,f e.name=some (.agg #[.string ⟨e.name.toArray⟩,u])/\AQ C (okA C w) w u e.attrs:=by
  rcases hk with ⟨e,_⟩ | ⟨b',f,e,_,h2,h3,h4⟩
  · cases e
  · cases e;exact ⟨f,h2,h3,h4⟩
 have G:Hid (∀s v,f s=some v->∃e ∈ R,e.name=s/\∃a c,v=.agg #[.string ⟨e.name.toArray⟩,.slice a e.attrs.length c]/\AQ C (okA C w) w (.slice a e.attrs.length c) e.attrs):=hZ9 (fun s v Y=>by
  obtain ⟨e,g,hn⟩:=(S s).1 (by rw [Y];rfl);obtain ⟨u,hu,ha⟩:=D5 e g;obtain ⟨a,c,rfl,_⟩:=Ad.form ha;rw [hn,Y] at hu;refine ⟨e,g,hn,a,c,?_,ha⟩;rw [hn];exact aU hu)
 have A5:Hid (∀e ∈ R,(f e.name).isSome=true):=hZ9 (fun e g=>(S _).2 ⟨e,g,rfl⟩);have l:=hZ9 (fun name xs u W hC h hf ht hq=>Aah n q rv C name xs u W hC h hf ht hq D2);have HQ:=hZ9 (fun W (hb:Below w.heap.size w W)=>hq.call hb);have D1:=hZ9 (fun W (hb:Below w.heap.size w W)=>hE.below hb);have HF:=hZ9 (fun e (g:e ∈ R)=>hf.2 e g);have B4:=hZ9 (fun e (g:e ∈ R)=>(E3 e g).2);have F9:Hid (R.length<=1048576):=hZ9 hf.1;have B:=hZ9 (fun zs ys (h:GoneS C R f zs (fun _=>false)) hp Y=>SeS.Acv (R:=R) (zs:=zs) (ys:=ys) (f:=SeS.DC q.attrs q.tonly) (SeS.AcQ _ _) ho h1 h.nodup (h.end_ (fun _=>rfl) h1 (fun e g=>(S _).2 ⟨e,g,rfl⟩)) hp Y);have A7:Hid (∀e ∈ R,SeS.Gz (SeS.DC q.attrs q.tonly e).name/\(SeS.DC q.attrs q.tonly e).name.length<=1000000):=hZ9 (fun e g=>⟨ho e g,(hf.2 e g).1⟩);clear S D5 hk hf E3 ho h1 D2 hE;have C4:Hid (∀e,(SeS.DC q.attrs q.tonly e).name=e.name):=hZ9 (fun _=>rfl);obtain ⟨a5,a6,aa,c5,c6,ca,rfl,_,_⟩:=hq;generalize SeS.DC q.attrs q.tonly=sel at*;obtain ⟨bs,sc,dr,x,at_,tn,sz⟩:=q;simp only at l HQ⊢;unfold JW at l;generalize at_.length=QL at*;generalize x.any.length=XL at*;generalize x.parts.length=PL at*;generalize x.kind=kd at*;generalize x.attr=at0 at*;generalize x.value=vl at*;generalize x.first=fs at*;generalize x.last=ls at*;have J:=Af w (.cells #[.string ⟨bs.toArray⟩,.int .i64 sc,.int .i64 dr,.int .i64 kd,.string ⟨at0.toArray⟩,.string ⟨vl.toArray⟩,.string ⟨fs.toArray⟩,.string ⟨ls.toArray⟩,.slice a5 XL c5,.slice a6 PL c6,.slice aa QL ca,.bool tn,.int .i64 sz] 38);have E0:=Whole.made w 38 #[.string ⟨bs.toArray⟩,.int .i64 sc,.int .i64 dr,.int .i64 kd,.string ⟨at0.toArray⟩,.string ⟨vl.toArray⟩,.string ⟨fs.toArray⟩,.string ⟨ls.toArray⟩,.slice a5 XL c5,.slice a6 PL c6,.slice aa QL ca,.bool tn,.int .i64 sz];have s1:(w.alloc (.cells #[.string ⟨bs.toArray⟩,.int .i64 sc,.int .i64 dr,.int .i64 kd,.string ⟨at0.toArray⟩,.string ⟨vl.toArray⟩,.string ⟨fs.toArray⟩,.string ⟨ls.toArray⟩,.slice a5 XL c5,.slice a6 PL c6,.slice aa QL ca,.bool tn,.int .i64 sz] 38)).heap.size=w.heap.size+1:=by show (w.heap.push _).size=_;exact bh _
 have D0:=hW.call J;have D3:=D0.cell 0;simp only [aI,aH] at D3;obtain ⟨W2,A3,⟨B5,Q⟩,B2,_⟩:=(hm.kept (Ba J) (by simp)).range (t:=61) underlying9 underlying61;have C1:=J.grown B2 J.size (fun k e=>by cases e);have D4:=E0.grownN B2 (by simp);rw [s1] at A3 Q;obtain ⟨i0,hi,E7,F0,E6⟩:=info_parts GU;have HI:=hZ9 hi;have Z:GoneS C R f [] (fun s=>(f s).isSome):=⟨by simp,fun e g=>(by cases g),fun s Y=>.inl Y,fun e g=>(by cases g)⟩
 clear hi hm hW J B2 E0 D0;go_enter func29,ntmps29;go_wp2_with fail;go_loopw [5] (fun out wr=>∃(zs:List EnS.En) (todo:List UInt8->Bool) (cnt:Nat),Ao enK 52 [9,56] C wr w.heap.size out (zs.map sel)/\DU prog 9 wr b (w.heap.size+1) N f todo cnt/\GoneS C R f zs todo/\Whole wr w.heap.size 38 #[.string ⟨bs.toArray⟩,.int .i64 sc,.int .i64 dr,.int .i64 kd,.string ⟨at0.toArray⟩,.string ⟨vl.toArray⟩,.string ⟨fs.toArray⟩,.string ⟨ls.toArray⟩,.slice a5 XL c5,.slice a6 PL c6,.slice aa QL ca,.bool tn,.int .i64 sz]/\Below w.heap.size w wr) (fun _ wr=>wr.rangeLeft b (w.heap.size+1))
 case atStart=>exact ⟨[],_,B5,Ao.empty _ _ _ _ _ _,Q,Z,D4,C1⟩
 case round=>
  obtain ⟨zs,todo,cnt,r,P,A,hr,hb⟩:=hrel;clear Q Z D4 C1 A3 D3;obtain ⟨oa,oc,rfl⟩:=r.form;have F8:=A.len;have G3:(zs.map sel).length<=1048576:=by rw [b7];exact aY F8 F9.out
  generalize D6:(zs.map sel).length=ZL at*;rcases P.next underlying9 0 with ⟨K,C9⟩ | ⟨s,v,w4,cnt4,G6,D7,C8,C9,O,F3,U,_,E5⟩
  · obtain rfl:todo=fun _=>false:=funext K;have E:=Adx hC hb.size r (fun W hW=>D1.out W (hb.trans hW)) (fun e g=>by
     obtain ⟨y,hy,rfl⟩:=bD.1 g;exact A7.out y (A.sub y hy)) (by rw [D6];omega)
    unfold Yd at E;have G1:=hZ9 (fun ys hp Y=>B.out zs ys A hp Y);clear G A5 l HQ D1 HF B4 B A7 C4 HI A P K;generalize (zs.map sel)=ZS at*;go_wp2_with fail;refine E.mono ?_;rintro e w5 ⟨rfl,ys,i,F1,E9,m⟩;have F2:=G1.out ys F1 E9;rw [F2] at i;go_wp2_with fail;go_ret;exact ⟨_,rfl,i,hb.trans m⟩
  · obtain ⟨e,g,hn,a,c,rfl,A9⟩:=G.out s v C8;have C3:=HF.out e g;have A1:=B4.out e g;have I:=A.more g (by rw [hn];exact D7);rw [hn] at I;have C0:=C4.out e;have o:=fun u W hC h hf ht hq=>l.out e.name e.attrs u W hC h hf ht hq;have C6:=Vp P;have H:=r.grownN U C6.1 (by omega);have D9:=hr.grownN U (fun e=>by have e:=aU e;omega);have A8:=hb.grown U hb.size (fun k e=>by have e:=aU e;omega);subst hn;have F6:Hid ((zs++[e]).map sel=zs.map sel++[sel e]):=hZ9 (by rw [bP];rfl);have G4:=hZ9 (show ∀w7 G2,wr.rangeLeft b (w.heap.size+1)=cnt->cnt4<cnt->w7=cnt4->w7<cnt from fun _ _ _ h1 h2=>by omega);have F7:=P.left_eq;generalize G0:sel e=se at*;have F4:=hZ9 G0;obtain ⟨name,D8⟩:=e;simp only at C3 A1 C0 o A9 C9 E5 C8 D7 O I;generalize G5:D8.length=AL at*;have T:=Af w4 (.cells #[.string ⟨name.toArray⟩,.slice a AL c] 52);have m:=A8.trans (T.mono A8.size);have B3:=Whole.made w4 52 #[.string ⟨name.toArray⟩,.slice a AL c];have i:=H.call T;have d:=D9.call T;have X:=O.kept (Ba T) (by simp) (by simp);have x0:=B3.cell 0;have x1:=B3.cell 1;have r0:=d.cell 0;have r1:=d.cell 1;have r2:=d.cell 2;have r3:=d.cell 3;have r4:=d.cell 4;have r5:=d.cell 5;have r6:=d.cell 6;have r7:=d.cell 7;have r8:=d.cell 8;have r9:=d.cell 9;have B9:=d.cell 10;have B8:=d.cell 11;have E2:=d.cell 12;simp only [aI,aH,aK] at x0 x1 r0 r1 r2 r3 r4 r5 r6 r7 r8 r9 B9 B8 E2;have L:=o (.slice a AL c) _ (aY hC m.size) (AQ.e (AQ.callT A9 m)) C3.2 A1 (HQ.out _ m)
    (try rw [F4.out] at L)
    clear o l HQ G A5 HF B4 B A7 r P A hr hb H D9 A8 O B3 U A9 C6;go_wp2_with fail;refine L.mono ?_;rintro e w6 ⟨u6,rfl,p,M⟩;have V:=p.attrsB (Ts':=[9,56]) (by simp) (by simp);obtain ⟨ya,yc,rfl⟩:=p.form;generalize se.attrs.length=SL at*;have F:=i.call M;have A2:=X.kept (Ba M) (by simp) (by simp);have C7:=d.call M;have B0:=m.trans (M.mono m.size);have z:=Af w6 (.cells #[.string ⟨name.toArray⟩,.slice ya SL yc] 52);have B1:=Whole.made w6 52 #[.string ⟨name.toArray⟩,.slice ya SL yc];have j:=F.call z;have A4:=A2.kept (Ba z) (by simp) (by simp);have E8:=C7.call z;have E1:=B0.trans (z.mono B0.size);have B6:=Ax.callT V z;have b0:=B1.cell 0;have b1:=B1.cell 1;simp only [aI,aH,aK] at b0 b1;have b2:_=some (Ac (enK.key se)):=b0.trans (by show _=some (Ac se.name);rw [C0];rfl);have B7:=E1.size;clear i X d m F A2 C7 B0 V p L x0 x1 r0 r1 r2 r3 r4 r5 r6 r7 r8 r9 B9 B8 E2 M z B1;go_wp2_with (at_builtin;refine MS enK 52 22 [9,56] (by decide) underlying22 HI.out E7 F0 E6 (by rfl) (by rfl) _ _ (by rfl) w.heap.size hC _ (zs.map sel) (by rfl) j w6.heap.size (by rfl) se _ b2 b1 B6 (by rw [D6];omega) B7 ?_)
    intro v9 w9 A6 F5 C5;have C2:=Vp A4;have A0:=A4.kept C5 (fun e=>by obtain ⟨cur,hc⟩:=j.cells e;exact C2.2 _ _ _ hc) (fun e=>by obtain ⟨cur,hc⟩:=j.cells e;exact C2.1 _ _ _ hc);have E4:=E8.grown j (by decide) C5;go_wp2_with fail;go_roundw
    case rel=>exact ⟨zs++[⟨name,D8⟩],_,cnt4,by rw [F6.out];exact A6,A0,I,E4,E1.trans F5⟩
    case measure=>rw [A0.left_eq,F7];exact F3
end
section
open Go.RowKit
def Jv (w:World) (v:Value) (xs:List SeS.Pl):Prop:=
 ∃a c,v=.slice a xs.length c/\xs.length<=c/\(xs=[]\/∃g o,a=some ⟨g,o,none⟩/\g<w.heap.size/\
  ∀(j:Nat) (p:SeS.Pl),xs[j]?=some p->w.cell? ⟨g,o+j*2,none⟩=some (Ac p.1)/\w.cell? ⟨g,o+j*2+1,none⟩=some (.int .i64 p.2))
theorem Jv.call {w w':World} {v:Value} {xs:List SeS.Pl} (h:Jv w v xs) {B:Nat} (hb:Below B w w') (hB:w.heap.size<=B):Jv w' v xs:=by
 obtain ⟨a,c,rfl,hc,h⟩:=h;refine ⟨a,c,rfl,hc,?_⟩;rcases h with h | ⟨g,o,rfl,b,h⟩
 · exact .inl h
 · refine .inr ⟨g,o,rfl,ae b hb.size,fun j p d=>⟨?_,?_⟩⟩
   · exact (hb.cell (p:=⟨g,o+j*2,none⟩) (ae b hB)).trans (h j p d).1
   · exact (hb.cell (p:=⟨g,o+j*2+1,none⟩) (ae b hB)).trans (h j p d).2
theorem Jv.empty (w:World):Jv w (.slice none 0 0) []:=⟨Option.none,0,rfl,aA _,.inl rfl⟩
def plC (xs:List SeS.Pl):List Value:=xs.flatMap fun p=>[Ac p.1,.int .i64 p.2]
theorem Zn (xs ys:List SeS.Pl):plC (xs++ys)=plC xs++plC ys:=by unfold plC;rw [gU]
theorem Vq:∀(xs:List SeS.Pl) (j:Nat) (p:SeS.Pl),xs[j]?=some p->(plC xs)[j*2]?=some (Ac p.1)/\(plC xs)[j*2+1]?=some (.int .i64 p.2)
 | [],j,p,h=>by simp at h
 | q :: xs,0,p,h=>by have:=aU h;subst this;exact ⟨rfl,rfl⟩
 | q :: xs,j+1,p,h=>by have:=Vq xs j p (by simpa using h);have e:plC (q :: xs)=Ac q.1 :: .int .i64 q.2 :: plC xs:=rfl;rw [e,show (j+1)*2=j*2+1+1 from by omega];exact this
def BL (T:TypeId) (w:World) (B:Nat) (v:Value) (xs:List SeS.Pl):Prop:=w.ownsRow B T 2 v xs.length (plC xs)
theorem BL.empty (T:TypeId) (w:World) (B:Nat):BL T w B (.slice none 0 0) []:=World.ownsRow_nil w B _ 2
theorem BL.form {T:TypeId} {w:World} {B:Nat} {v:Value} {xs:List SeS.Pl} (h:BL T w B v xs):∃a c,v=.slice a xs.length c:=by
 rcases h.2 with ⟨rfl,b⟩ | ⟨g,cap,cur,rfl,_⟩
 · exact ⟨_,_,by rw [b]⟩
 · exact ⟨_,_,rfl⟩
theorem BL.call {T:TypeId} {w w':World} {B:Nat} {v:Value} {xs:List SeS.Pl} (h:BL T w B v xs) (hb:Below w.heap.size w w'):BL T w' B v xs:=
 World.ownsRow.kept h (Ba hb) (by cases v.ownBlock <;> simp)
theorem BL.alloc {T:TypeId} {w:World} {B:Nat} {v:Value} {xs:List SeS.Pl} (h:BL T w B v xs) (o:Obj):BL T (w.alloc o) B v xs:=World.ownsRow.alloc h o
theorem BL.pls {T:TypeId} {w:World} {B:Nat} {v:Value} {xs:List SeS.Pl} (h:BL T w B v xs):Jv w v xs:=by
 rcases h.2 with ⟨rfl,b⟩ | ⟨g,cap,cur,rfl,i,d,b,f,hsz,c⟩
 · exact ⟨Option.none,0,by rw [b],by omega,.inl (aW b)⟩
 · refine ⟨some ⟨g,0,Option.none⟩,cap,rfl,b,.inr ⟨g,0,rfl,(ah.1 d).1,fun j p e=>?_⟩⟩;have h2:=Vq xs j p e;have a:∀k,(⟨g,0,Option.none⟩:Addr).add k=⟨g,0+k,Option.none⟩:=fun k=>by unfold Addr.add;split <;> simp_all
   have c1:=World.ownsRow.cells h (g:=g) rfl _ _ h2.1;have c2:=World.ownsRow.cells h (g:=g) rfl _ _ h2.2;rw [a] at c1 c2;exact ⟨c1,by rw [cN];exact c2⟩
theorem Abv (g k:Nat):(⟨g,0,Option.none⟩:Addr).add k=⟨g,k,Option.none⟩:=by unfold Addr.add;split <;> simp_all
theorem BL.slice {T:TypeId} {w:World} {B:Nat} {v:Value} {xs:List SeS.Pl} (h:BL T w B v xs) (d:0<xs.length):∃g cap,v=.slice (some ⟨g,0,Option.none⟩) xs.length cap/\xs.length<=cap/\B<=g/\(∃cur,w.heap[g]?=some (.cells cur T (0,0)))/\∀(j:Nat) (p:SeS.Pl),xs[j]?=some p->w.cell? ⟨g,j*2,Option.none⟩=some (Ac p.1)/\w.cell? ⟨g,j*2+1,Option.none⟩=some (.int .i64 p.2):=by
 rcases h.2 with ⟨_,h0⟩ | ⟨g,cap,cur,rfl,c,b,hc,_⟩
 · omega
 · refine ⟨g,cap,rfl,hc,c,⟨cur,b⟩,fun j p a=>?_⟩;have h2:=Vq xs j p a;have c1:=World.ownsRow.cells h (g:=g) rfl _ _ h2.1;have c2:=World.ownsRow.cells h (g:=g) rfl _ _ h2.2;rw [Abv] at c1 c2;exact ⟨c1,c2⟩
theorem BL.made {T:TypeId} {B:Nat} {w:World} (hB:B<=w.heap.size) (n:List UInt8) (s:Int):BL T (w.alloc (.cells #[.string ⟨n.toArray⟩,.int .i64 s] T)) B (.slice (some ⟨w.heap.size,0,Option.none⟩) 1 1) [(n,s)]:=
 ⟨rfl,.inr ⟨w.heap.size,1,#[.string ⟨n.toArray⟩,.int .i64 s],rfl,hB,Whole.made w T _,aA _,by unfold maxLen;omega,rfl,rfl⟩⟩
theorem BL.lt {T:TypeId} {w:World} {B:Nat} {v:Value} {xs:List SeS.Pl} (h:BL T w B v xs) {k:Nat} (hk:v.ownBlock=some k):B<=k/\k<w.heap.size/\∃cur,w.heap[k]?=some (.cells cur T (0,0)):=by
 refine ⟨(World.ownsRow.lt h k hk).1,(World.ownsRow.lt h k hk).2,?_⟩;rcases h.2 with ⟨rfl,_⟩ | ⟨g,cap,cur,rfl,_,a,_⟩
 · cases hk
 · cases hk;exact ⟨cur,a⟩
theorem AeK {w:World} {ops:Array Oper} {rest:List Oper} {o:Oper} {a:Act} {Q:Exit->Act->World->Prop} (T i:TypeId) (r:prog.underlying i=some (.slice T)) {i0:TypeInfo} {z:Value}
  (C:prog.info? T=some i0) (y:i0.zero=some z) (e:i0.size=2) (q:i0.bytes=24) (m:z.cells.size=2) (n:o.guard=none) (s x:Operand)
  (A:o.op=.call { callee:=.builtin .append,args:=#[s,x],argTypes:=#[i,i] })
  (B:Nat) (v:Value) (xs:List SeS.Pl) (E:a.eval s=v) (b:BL T w B v xs) (g:Nat) (hx:a.eval x=.slice (some ⟨g,0,Option.none⟩) 1 1)
  (p:SeS.Pl) (t:w.cell? ⟨g,0,Option.none⟩=some (Ac p.1)) (l:w.cell? ⟨g,1,Option.none⟩=some (.int .i64 p.2)) (F:xs.length<=1000000000) (hB:B<=w.heap.size)
  (h:∀f w',BL T w' B f (xs++[p])->Below B w w'->w.grownBy w' v.ownBlock->wpList prog ops Q rest (a.put o.dst f) w'):wpList prog ops Q (o :: rest) a w:=by
 refine wpList_append_own w n s x _ A B T i0 z 2 24 r C y e q m (by decide) v xs.length (plC xs) E b ⟨g,0,Option.none⟩ 1 1 [Ac p.1,.int .i64 p.2] hx rfl
  (fun j u d=>?_) (fun u hu=>?_) (by unfold maxLen;omega) (by omega) hB (fun f w' h1 h2 _=>h f w' ?_ ?_ h2)
 · have c:∀k,(⟨g,0,Option.none⟩:Addr).add k=⟨g,k,Option.none⟩:=fun k=>by unfold Addr.add;split <;> simp_all
   rw [c]
   match j,d with
   | 0,d=>rw [t];simpa using d
   | 1,d=>rw [l];simpa using d
 · simp only [ay,dU,fQ] at hu;rcases hu with rfl | rfl <;> rfl
 · unfold BL;rw [Zn,aT];exact h1
 · exact (Below.refl B w).grown h2 hB (fun k hk=>(World.ownsRow.lt b k hk).1)
theorem Xc (T:TypeId) (a:(prog.fieldsOf T).toList.map (fun f=>(f.name== "_",f.type,f.offset))=[(false,9,0),(false,3,1)]) (k:prog.underlying T=some (.struct (prog.fieldsOf T))) (hp:prog.stoodInHeld T=false)
  (d t2:List UInt8) (u1 u2:Int) (w:World):(Op.equalIn 10000 T (.agg #[.string ⟨d.toArray⟩,.int .i64 u1]) (.agg #[.string ⟨t2.toArray⟩,.int .i64 u2])).run prog w=.ok (d==t2&&u1==u2) w:=by
 rw [run_equalIn_struct w 9999 T _ _ k hp];generalize (prog.fieldsOf T).toList=e at a;rcases e with _ | ⟨j,_ | ⟨f1,_ | ⟨f2,e⟩⟩⟩
 · simp at a
 · simp at a
 · simp only [cz,fU,bw,bR,dY] at a;obtain ⟨⟨n0,a0,h⟩,⟨i,a1,g⟩⟩:=a;have c:j.name≠ "_":=by simpa using n0
   have b:f1.name≠ "_":=by simpa using i
   cases h1:(d==t2) <;> cases h2:(u1==u2) <;> simp [Op.eqFields,c,b,a0,a1,h,g,go_sem,underlying9,underlying3,h1,h2,part]
 · simp at a
end
end Go.Proofs.YtgngjfjaelgaeaaGreatDoor
