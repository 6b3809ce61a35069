/- The walks of slices.stableCmpFunc and SortStableFunc at entries, and of tree.Sort: the row is sorted by names. Conditions: as stated. -/
import Derived.Test.YtgngjfjaelgaeaaGreatDoorKSoc
import Derived.Test.YtgngjfjaelgaeaaGreatDoorKFou
import Derived.Test.YtgngjfjaelgaeaaGreatDoorKFiv
set_option maxRecDepth 1000000
set_option maxHeartbeats 8000000
namespace Go.Proofs.YtgngjfjaelgaeaaGreatDoor
section
open Go.RowKit
attribute [local go_sem ↓] Go.wp_at_zero Go.wp_at_succ
def Blk (f:Nat->Cel) (s n a:Nat):Prop:=∀q,a<=q*s->SoS.Srt ltC f (q*s) (min (q*s+s) n)
theorem Vl {h h2:Nat->Cel} {t n a q:Nat} (hq:a=q*t) (hd:∀p,p<q->SoS.Srt ltC h (p*t) (p*t+t)) (he:∀k,k<a->h2 k=h k) (hl:SoS.Srt ltC h2 a n) (hn:n<=a+t):Blk h2 t n 0:=fun p _=>by
 rcases Nat.lt_trichotomy p q with h3 | h3 | h3
 · have h6:p*t+t<=q*t:=by
    have:=Nat.mul_le_mul_right t (show p+1<=q by omega)
    rw [Nat.add_mul,Nat.one_mul] at this
    exact this
   exact ((hd p h3).congr (g:=h2) (fun k _ hk=>he k (by omega))).sub (Nat.le_refl _) (Nat.min_le_left _ _)
 · subst h3
   rw [<-hq]
   exact hl.sub (Nat.le_refl _) (Nat.min_le_right _ _)
 · refine fun i j i1 i2 i3=>?_
   have h6:q*t+t<=p*t:=by
    have:=Nat.mul_le_mul_right t (show q+1<=p by omega)
    rw [Nat.add_mul,Nat.one_mul] at this
    exact this
   have:=Nat.min_le_right (p*t+t) n
   omega
theorem Adm (w0:World) (g n sz cap:Nat) (hsz:n<1000000000) (HE:∀w,w0.grownBy w (some g)->Env w) (f:Nat->Cel) (A7:∀k,k<n->OkC (f k)) (w:World) (hw:BI w0 g n sz f w):
  Calls Tryz.prog 129 #[.slice (some ⟨g,0,none⟩) n cap,.int .i64 n,EA] w (EJ w0 g n sz (fun f'=>SoS.Sw 0 n f f'/\SoS.Srt ltC f' 0 n)):=by
 have B7:=fun a b h1 h2 f A7 w hw=>AbO w0 g n sz cap hsz HE a b h1 h2 f A7 w hw
 have B2:=fun a m b h1 h2 h3 f A7 C6 D1 w hw=>Zu w0 g n sz cap hsz HE (b - a) a m b (Nat.le_refl _) h1 h2 h3 f A7 C6 D1 w hw
 unfold EJ EA at*
 have B5:=hZ9 B7
 have B4:=hZ9 B2
 have HW:=hZ9 hw
 have B8:=hZ9 A7
 clear B7 B2 hw A7 HE
 go_enter Tryz.func129,Tryz.ntmps129
 go_wp2
 go_loopg [7,8] n (fun g1 va vb wr=>∃(q:Nat) (a b:Nat) (h:Nat->Cel),va=.int .i64 a/\vb=.int .i64 b/\b=a+20/\a<=n/\n - a<=g1/\Hid (a=q*20)/\Hid (SoS.Sw 0 n f h)/\Hid (∀p,p<q->SoS.Srt ltC h (p*20) (p*20+20))/\Hid (BI w0 g n sz h wr))
 case atStart=>exact ⟨0,0,20,f,rfl,rfl,rfl,Nat.zero_le _,by omega,hZ9 (by omega),hZ9 .refl,hZ9 (fun p hp=>by omega),HW⟩
 case round=>
  obtain ⟨q,a,b,h,rfl,rfl,hb,D4,D6,HQ,A4,A5,HS⟩:=hrel
  have E2:a<=b:=by omega
  have D9:b<=a+20:=by omega
  have E3:a<b:=by omega
  have HB:Hid (b=a+20):=hZ9 hb
  clear hb HW
  by_cases C3:b<=n
  · have hz:(b:Int)<=(n:Int):=by omega
    obtain ⟨b2,C7⟩:∃b2:Nat,(b:Int)+20=(b2:Int):=⟨b+20,by omega⟩
    have C8:IntKind.i64.wrap (b2:Int)=(b2:Int):=by rw [IntKind.wrap_i64];omega
    go_wp2_with fail
    refine (B5.out a b (by omega) (by omega) h (A4.out.all (Nat.le_refl _) B8.out) _ HS.out).mono ?_;rintro e w1 ⟨rfl,h2,⟨A0,A1⟩,A8⟩
    have A3:Hid (SoS.Sw 0 n f h2):=hZ9 (A4.out.trans (A0.mono (Nat.zero_le _) C3))
    have A2:Hid (∀p,p<q+1->SoS.Srt ltC h2 (p*20) (p*20+20)):=hZ9 (fun p hp=>by
     rcases Nat.lt_or_eq_of_le (Nat.le_of_lt_succ hp) with h3 | rfl
     · exact (A5.out p h3).congr (fun k _ hk=>A0.out k (.inl (by have:=HQ.out;omega)))
     · rw [<-HQ.out,<-HB.out];exact A1)
    have B9:=hZ9 A8
    have B0:Hid (b=(q+1)*20):=hZ9 (by rw [HB.out,HQ.out];omega)
    clear A0 A1 A8 A4 A5 HS
    go_wp2
    go_roundg (n - b)
    case measure=>omega
    case rel=>exact ⟨q+1,b,b2,h2,rfl,rfl,by omega,C3,Nat.le_refl _,B0,A3,A2,B9⟩
  · have hz:¬(b:Int)<=(n:Int):=by omega
    go_wp2_with fail
    refine (B5.out a n (by omega) (by omega) h (A4.out.all (Nat.le_refl _) B8.out) _ HS.out).mono ?_;rintro e w1 ⟨rfl,h2,⟨A0,A1⟩,A8⟩
    have A3:Hid (SoS.Sw 0 n f h2):=hZ9 (A4.out.trans (A0.mono (Nat.zero_le _) (Nat.le_refl _)))
    have A2:Hid (Blk h2 20 n 0):=hZ9 (Vl (h:=h) (a:=a) (q:=q) HQ.out (fun p hp=>A5.out p hp) (fun k hk=>A0.out k (.inl hk)) A1 (by omega))
    have B9:=hZ9 A8
    clear A0 A1 A8 A4 A5 HS HQ HB
    go_wp2
    go_loopg [6,7,8,9] n (fun g1 vs va vb vm wr=>∃(s:Nat) (h:Nat->Cel),vs=.int .i64 s/\1<=s/\s<=2000000000/\n - s<=g1/\Hid (SoS.Sw 0 n f h)/\Hid (Blk h s n 0)/\Hid (BI w0 g n sz h wr))
    case atStart=>exact ⟨20,h2,rfl,by omega,by omega,by omega,A3,A2,B9⟩
    case round=>
     obtain ⟨s,h,rfl,A8,D8,E1,A4,A5,C4⟩:=hrel
     clear A3 A2 B9
     by_cases D2:s<n
     · have D5:(s:Int)<(n:Int):=by omega
       obtain ⟨t,ht⟩:∃t:Nat,(2:Int)*(s:Int)=(t:Int):=⟨2*s,by omega⟩
       have E5:(s:Int)*2=(t:Int):=by omega
       have wt:IntKind.i64.wrap (t:Int)=(t:Int):=by rw [IntKind.wrap_i64];omega
       have HT:Hid (t=s+s):=hZ9 (by omega)
       go_wp2
       go_loopg [7,8] n (fun g1 va vb wr=>∃(q a b:Nat) (h:Nat->Cel),va=.int .i64 a/\vb=.int .i64 b/\b<=a+t/\a+t<=b/\a<=n/\n - a<=g1/\Hid (a=q*t)/\Hid (SoS.Sw 0 n f h)/\Hid (∀p,p<q->SoS.Srt ltC h (p*t) (p*t+t))/\Hid (Blk h s n a)/\Hid (BI w0 g n sz h wr))
       case atStart=>exact ⟨0,0,t,h,rfl,rfl,by omega,by omega,Nat.zero_le _,by omega,hZ9 (by omega),A4,hZ9 (fun p hp=>by omega),A5,C4⟩
       case round=>
        obtain ⟨q,a,b,h,rfl,rfl,E0,E4,D4,D6,HQ,A4,A6,A5,HS⟩:=hrel
        obtain ⟨m,hm⟩:∃m:Nat,(a:Int)+(s:Int)=(m:Int):=⟨a+s,by omega⟩
        have wm:IntKind.i64.wrap (m:Int)=(m:Int):=by rw [IntKind.wrap_i64];omega
        have HM:Hid (m=a+s):=hZ9 (by omega)
        have HB:Hid (b=m+s):=hZ9 (by have:=HT.out;omega)
        have B0:Hid (a=(q+q)*s):=hZ9 (by rw [HQ.out,HT.out,Nat.mul_add,Nat.add_mul])
        have C5:Hid (m=(q+q+1)*s):=hZ9 (by rw [HM.out,B0.out,Nat.add_mul (q+q) 1,Nat.one_mul])
        have A9:Hid (SoS.Srt ltC h a (min m n)):=hZ9 (by
         have h5:=A5.out (q+q) (by rw [<-B0.out];exact Nat.le_refl _)
         rw [<-B0.out,<-HM.out] at h5
         exact h5)
        have B6:Hid (SoS.Srt ltC h m (min b n)):=hZ9 (by
         have h5:=A5.out (q+q+1) (by rw [<-C5.out];omega)
         rw [<-C5.out,<-HB.out] at h5
         exact h5)
        by_cases B1:b<=n
        · have D0:(b:Int)<=(n:Int):=by omega
          obtain ⟨b2,C7⟩:∃b2:Nat,(b:Int)+(t:Int)=(b2:Int):=⟨b+t,by omega⟩
          have C8:IntKind.i64.wrap (b2:Int)=(b2:Int):=by rw [IntKind.wrap_i64];omega
          go_wp2_with fail
          refine (B4.out a m b (by omega) (by omega) (by omega) h (A4.out.all (Nat.le_refl _) B8.out) (A9.out.sub (Nat.le_refl _) (Nat.le_min.2 ⟨Nat.le_refl _,by omega⟩)) (B6.out.sub (Nat.le_refl _) (Nat.le_min.2 ⟨Nat.le_refl _,by omega⟩)) _ HS.out).mono ?_;rintro e w1 ⟨rfl,h2,⟨A0,A1⟩,B3⟩
          have A3:Hid (SoS.Sw 0 n f h2):=hZ9 (A4.out.trans (A0.mono (Nat.zero_le _) B1))
          have C2:Hid (∀p,p<q+1->SoS.Srt ltC h2 (p*t) (p*t+t)):=hZ9 (fun p hp=>by
           rcases Nat.lt_or_eq_of_le (Nat.le_of_lt_succ hp) with h3 | rfl
           · refine (A6.out p h3).congr (fun k _ hk=>A0.out k (.inl ?_))
             have h6:p*t+t<=q*t:=by
              have:=Nat.mul_le_mul_right t (show p+1<=q by omega)
              rw [Nat.add_mul,Nat.one_mul] at this
              exact this
             have:=HQ.out
             omega
           · rw [<-HQ.out];exact A1.sub (Nat.le_refl _) (by omega))
          have A2:Hid (Blk h2 s n b):=hZ9 (fun p hp=>(A5.out p (by omega)).congr (fun k hk _=>A0.out k (.inr (by omega))))
          have C0:=hZ9 B3
          have D3:Hid (b=(q+1)*t):=hZ9 (by rw [Nat.add_mul,Nat.one_mul,<-HQ.out];omega)
          clear A0 A1 B3 A9 B6 A5 A6 A4 HS
          go_wp2
          go_roundg (n - b)
          case measure=>omega
          case rel=>exact ⟨q+1,b,b2,h2,rfl,rfl,by omega,by omega,B1,Nat.le_refl _,D3,A3,C2,A2,C0⟩
        · have D0:¬(b:Int)<=(n:Int):=by omega
          by_cases C9:m<n
          · have D7:(m:Int)<(n:Int):=by omega
            go_wp2_with fail
            refine (B4.out a m n (by omega) (by omega) (by omega) h (A4.out.all (Nat.le_refl _) B8.out) (A9.out.sub (Nat.le_refl _) (Nat.le_min.2 ⟨Nat.le_refl _,by omega⟩)) (B6.out.sub (Nat.le_refl _) (Nat.le_min.2 ⟨by omega,Nat.le_refl _⟩)) _ HS.out).mono ?_;rintro e w1 ⟨rfl,h2,⟨A0,A1⟩,B3⟩
            have A3:Hid (SoS.Sw 0 n f h2):=hZ9 (A4.out.trans (A0.mono (Nat.zero_le _) (Nat.le_refl _)))
            have A2:Hid (Blk h2 t n 0):=hZ9 (Vl (h:=h) (a:=a) (q:=q) HQ.out (fun p hp=>A6.out p hp) (fun k hk=>A0.out k (.inl hk)) A1 (by omega))
            have C0:=hZ9 B3
            clear A0 A1 B3 A9 B6 A5 A6 A4 HS
            go_wp2
            go_roundg (n - t)
            case measure=>omega
            case rel=>exact ⟨t,h2,by go_num,by omega,by omega,Nat.le_refl _,A3,A2,C0⟩
          · have D7:¬(m:Int)<(n:Int):=by omega
            have A2:Hid (Blk h t n 0):=hZ9 (Vl (h:=h) (a:=a) (q:=q) HQ.out (fun p hp=>A6.out p hp) (fun k hk=>rfl) (A9.out.sub (Nat.le_refl _) (Nat.le_min.2 ⟨by omega,Nat.le_refl _⟩)) (by omega))
            clear A9 B6 A5 A6
            go_wp2
            go_roundg (n - t)
            case measure=>omega
            case rel=>exact ⟨t,h,by go_num,by omega,by omega,Nat.le_refl _,A4,A2,HS⟩
     · have D5:¬(s:Int)<(n:Int):=by omega
       have C1:Hid (SoS.Srt ltC h 0 n):=hZ9 (by
        have h5:=A5.out 0 (Nat.zero_le _)
        rw [Nat.zero_mul,Nat.zero_add] at h5
        exact h5.sub (Nat.le_refl _) (Nat.le_min.2 ⟨by omega,Nat.le_refl _⟩))
       go_wp2
       go_end0
       exact ⟨rfl,h,⟨A4.out,C1.out⟩,C4.out⟩
theorem Vm (w0:World) (g n sz cap:Nat) (hsz:n<1000000000) (HE:∀w,w0.grownBy w (some g)->Env w) (f:Nat->Cel) (A0:∀k,k<n->OkC (f k)) (w:World) (hw:BI w0 g n sz f w):
  Calls Tryz.prog 94 #[.slice (some ⟨g,0,none⟩) n cap,EA] w (EJ w0 g n sz (fun f'=>SoS.Sw 0 n f f'/\SoS.Srt ltC f' 0 n)):=by
 have A1:=Adm w0 g n sz cap hsz HE f A0 w hw
 unfold EJ EA at*
 clear hw A0 HE
 go_enter Tryz.func94,Tryz.ntmps94
 go_wp2_with fail
 refine A1.mono ?_;rintro e w1 ⟨rfl,hs⟩
 go_wp2
 go_end0
 exact ⟨rfl,hs⟩
theorem Zj (w0:World) (g n sz cap:Nat) (hsz:n<1000000000) (HE:∀w,w0.grownBy w (some g)->Env w) (f:Nat->Cel) (A0:∀k,k<n->OkC (f k)) (w:World) (hw:BI w0 g n sz f w):
  Calls Tryz.prog 60 #[.slice (some ⟨g,0,none⟩) n cap] w (EJ w0 g n sz (fun f'=>SoS.Sw 0 n f f'/\SoS.Srt ltC f' 0 n)):=by
 have A1:=Vm w0 g n sz cap hsz HE f A0 w hw
 unfold EJ EA at*
 clear hw A0 HE
 go_enter Tryz.func60,Tryz.ntmps60
 go_wp2_with fail
 refine A1.mono ?_;rintro e w1 ⟨rfl,hs⟩
 go_wp2
 go_end0
 exact ⟨rfl,hs⟩
end
section
open Go.RowKit
attribute [local go_sem ↓] Go.wp_at_zero Go.wp_at_succ
theorem Aex {α β:Type} {φ:β->α} {a b:Nat} {h:Nat->β} {f':Nat->α} (x:SoS.Sw a b (fun k=>φ (h k)) f'):∃h',SoS.Sw a b h h'/\f'=fun k=>φ (h' k):=by
 induction x with
 | refl=>exact ⟨h,.refl,rfl⟩
 | swp _ h1 h2 h3 h4 ih=>
  obtain ⟨h',i1,rfl⟩:=ih
  refine ⟨_,.swp i1 h1 h2 h3 h4,?_⟩
  funext k
  unfold SoS.Dc
  split
  · rfl
  · split <;> rfl
def MF (x:EnS.En × Value):Cel:=match x.2 with
 | .slice a m c=>(x.1.name,a,m,c)
 | _=>(x.1.name,none,0,0)
theorem Hv (x:EnS.En × Value):(MF x).1=x.1.name:=by
 unfold MF
 split <;> rfl
theorem Vn {x:EnS.En × Value} {a:Option Addr} {m c:Nat} (h:x.2=.slice a m c):XK (MF x)=x.2:=by
 unfold MF XK
 rw [h]
theorem Ab9 {cur:Array Value} {ys:List EnS.En} {us:List Value} (hu:us.length=ys.length) (hc:∀k (hk:k<ys.length),cur[k*2]?=some (Ac (ys[k]'hk).name)/\cur[k*2+1]?=us[k]?):cur.toList.take (ys.length*2)=flatK enK ys us:=by
 refine List.ext_getElem? fun i=>?_
 by_cases hi:i<ys.length*2
 · rw [List.getElem?_take_of_lt hi,Array.getElem?_toList]
   have hk:i / 2<ys.length:=by omega
   have A0:i / 2<us.length:=by omega
   obtain ⟨f0,f1⟩:=GK enK ys us (i / 2) _ _ (List.getElem?_eq_getElem hk) (List.getElem?_eq_getElem A0)
   obtain ⟨c0,c1⟩:=hc (i / 2) hk
   rcases Nat.mod_two_eq_zero_or_one i with h | h
   · rw [show i=i / 2*2 by omega,f0]
     exact c0
   · rw [show i=i / 2*2+1 by omega,f1,c1,List.getElem?_eq_getElem A0]
 · rw [List.getElem?_eq_none (by rw [List.length_take];omega),List.getElem?_eq_none (by rw [IR enK ys us hu];omega)]
theorem AbA {α:Type} {xs:List α} {f:Nat->α} (h:∀k (hk:k<xs.length),f k=xs[k]'hk):(List.range xs.length).map f=xs:=by
 refine List.ext_getElem (by simp) fun i h1 h2=>?_
 rw [List.getElem_map,List.getElem_range]
 exact h i h2
def Xw (C B:Nat) (v:Value) (xs:List EnS.En) (w:World) (e:Ending) (w':World):Prop:=e=.returned (.tuple #[])/\∃ys,Av enK 52 [9,56] C w' B v ys/\ys.Perm xs/\ys.Pairwise (fun a b=>¬DnS.Aw b.name a.name<0)/\Below B w w'
theorem Zk {C B:Nat} {w w':World} {g cap:Nat} {cur:Array Value} {xs:List EnS.En} {us:List Value} (hC:C<=B) (hg:B<=g) (A6:xs.length<=cap) (B6:cap<=maxLen) (hh:w.heap[g]?=some (.cells cur 52 (0,0)))
  (B0:∀(i:Nat) (u:Value) (x:EnS.En),us[i]?=some u->xs[i]?=some x->Ao (okT [9,56] C w) w u x.attrs) {h:Nat->EnS.En × Value} (hx:∀k (hk:k<xs.length),(h k).1=xs[k]'hk) (B1:∀k,k<xs.length->us[k]?=some (h k).2)
  {f':Nat->Cel} (hp:SoS.Sw 0 xs.length (fun k=>MF (h k)) f'/\SoS.Srt ltC f' 0 xs.length) (hr:BI w g xs.length (cap*2) f' w'):
  ∃ys,Av enK 52 [9,56] C w' B (.slice (some ⟨g,0,none⟩) xs.length cap) ys/\ys.Perm xs/\ys.Pairwise (fun a b=>¬DnS.Aw b.name a.name<0)/\Below B w w':=by
 obtain ⟨B4,B3⟩:=hp
 obtain ⟨h',A3,rfl⟩:=Aex B4
 obtain ⟨A7,c1,c2,c3,c4⟩:=hr
 have hlen:((List.range xs.length).map (fun k=>(h' k).1)).length=xs.length:=by simp
 have A2:((List.range xs.length).map (fun k=>(h' k).1)).Perm xs:=by
  have h1:=(A3.perm (Nat.le_refl _)).map Prod.fst
  rw [List.map_map,List.map_map] at h1
  have h2:(List.range xs.length).map (Prod.fst ∘ h)=xs:=AbA (fun k hk=>hx k hk)
  rw [h2] at h1
  exact h1
 have B5:∀k,k<xs.length->∃a m c,(h k).2=.slice a m c:=fun k hk=>by
  obtain ⟨a,c,e,_⟩:=Ae.form (B0 k _ _ (B1 k hk) (List.getElem?_eq_getElem hk))
  exact ⟨a,_,c,e⟩
 have A5:=A3.all (Nat.le_refl _) (p:=fun z=>∃a m c,z.2=.slice a m c) B5
 have B7:g<w.heap.size:=(Array.getElem?_eq_some_iff.1 hh).1
 have A4:=A3.all (Nat.le_refl _) (p:=fun z=>Ao (okT [9,56] C w) w z.2 z.1.attrs) (fun k hk=>B0 k _ _ (B1 k hk) (by rw [List.getElem?_eq_getElem hk,hx k hk]))
 have A1:∀{u:Value} {A9:List EnS.At},Ao (okT [9,56] C w) w u A9->Ao (okT [9,56] C w') w' u A9:=fun h=>by
  have hb:∀k,k<w.heap.size->okT [9,56] C w k->w'.heap[k]?=w.heap[k]?:=fun k hk A0=>c4.block k hk (fun e=>by
   have e:=Option.some.inj e
   subst e
   rcases A0 with A0 | ⟨cs,T,fz,hc,hT⟩
   · omega
   · rw [hh] at hc
     cases hc
     revert hT
     decide)
  exact h.keep c4.size hb (fun k hk A0=>A0.same (hb k hk A0))
 refine ⟨(List.range xs.length).map (fun k=>(h' k).1),⟨(List.range xs.length).map (fun k=>(h' k).2),?_,by simp,fun i u x hi hx=>?_⟩,A2,?_,?_⟩
 · refine ⟨by rw [IR _ _ _ (by simp)],.inr ⟨g,cap,A7,by rw [hlen],hg,c1,by rw [hlen];exact A6,B6,c2,?_⟩⟩
   refine Ab9 (by simp) (fun k hk=>?_)
   have A8:k<xs.length:=by rw [hlen] at hk;exact hk
   obtain ⟨d0,d1⟩:=c3 k A8
   obtain ⟨a,m,c,e⟩:=A5 k A8
   rw [Hv] at d0
   rw [Vn e] at d1
   rw [List.getElem_map,List.getElem_range,List.getElem?_map,List.getElem?_range A8]
   exact ⟨d0,d1⟩
 · rw [List.getElem?_map] at hi hx
   cases hr:(List.range xs.length)[i]? with
   | none=>rw [hr] at hi;cases hi
   | some j=>
    rw [hr] at hi hx
    cases hi
    cases hx
    have hj:j<xs.length:=by
     have:=List.mem_of_getElem? hr
     simpa using this
    exact A1 (A4 j hj)
 · rw [List.pairwise_map]
   have B2:(List.range xs.length).Pairwise (· <·):=List.pairwise_lt_range
   refine List.Pairwise.imp_of_mem (fun {a b} ha hb hab=>?_) B2
   have h1:=B3 a b (Nat.zero_le _) hab (by simpa using hb)
   unfold ltC at h1
   rw [Hv,Hv,decide_eq_false_iff_not] at h1
   exact h1
 · exact ⟨c4.os,c4.tape,c4.output,c4.size,fun k hk=>c4.block k (by omega) (fun e=>by have e:=Option.some.inj e;omega)⟩
theorem AbB (w:World):Calls Tryz.prog 161 #[.slice none 0 0,.int .i64 0,.int .i64 0,EA] w fun e w'=>e=.returned (.tuple #[])/\w'=w:=by
 unfold EA
 go_enter Tryz.func161,Tryz.ntmps161
 go_wp2
 refine wp_loop_rounds 1 ?_
 rw [rounds_succ]
 go_wp2
 go_end0
 exact ⟨rfl,rfl⟩
theorem Adn (w:World):Calls Tryz.prog 129 #[.slice none 0 0,.int .i64 0,EA] w fun e w'=>e=.returned (.tuple #[])/\w'=w:=by
 have hi:=AbB w
 unfold EA at*
 go_enter Tryz.func129,Tryz.ntmps129
 go_wp2
 refine wp_loop_rounds 1 ?_
 rw [rounds_succ]
 go_wp2_with fail
 refine hi.mono ?_;rintro e w1 ⟨rfl,rfl⟩
 go_wp2
 refine wp_loop_rounds 1 ?_
 rw [rounds_succ]
 go_wp2
 go_end0
 exact ⟨rfl,rfl⟩
theorem Zl (w:World):Calls Tryz.prog 60 #[.slice none 0 0] w fun e w'=>e=.returned (.tuple #[])/\w'=w:=by
 have hi:=Adn w
 have hs:Calls Tryz.prog 94 #[.slice none 0 0,EA] w fun e w'=>e=.returned (.tuple #[])/\w'=w:=by
  unfold EA at*
  go_enter Tryz.func94,Tryz.ntmps94
  go_wp2_with fail
  refine hi.mono ?_;rintro e w1 ⟨rfl,rfl⟩
  go_wp2
  go_end0
  exact ⟨rfl,rfl⟩
 clear hi
 unfold EA at hs
 go_enter Tryz.func60,Tryz.ntmps60
 go_wp2_with fail
 refine hs.mono ?_;rintro e w1 ⟨rfl,rfl⟩
 go_wp2
 go_end0
 exact ⟨rfl,rfl⟩
theorem Ado {C B:Nat} {w:World} {v:Value} {xs:List EnS.En} (hC:C<=B) (hB:B<=w.heap.size) (h:Av enK 52 [9,56] C w B v xs) (hE:∀W,Below B w W->Env W) (ok:∀e ∈ xs,SeS.Gh e.name/\e.name.length<=1000000) (hl:xs.length<1000000000):
  Calls Tryz.prog 60 #[v] w (Xw C B v xs w):=by
 obtain ⟨us,h1,h2,h3⟩:=h
 obtain ⟨A9,A1⟩:=h1
 rcases A1 with ⟨rfl,hn⟩ | ⟨g,cap,cur,rfl,hg,hh,A3,A7,hsz,A6⟩
 · have hx:=List.eq_nil_of_length_eq_zero hn
   subst hx
   refine (Zl w).mono ?_
   rintro e w1 ⟨rfl,rfl⟩
   exact ⟨rfl,[],Av.empty _ _ _ _ _ _,List.Perm.refl _,List.Pairwise.nil,Below.refl _ _⟩
 · have A8:g<w.heap.size:=(Array.getElem?_eq_some_iff.1 hh).1
   let h:Nat->EnS.En × Value:=fun k=>if hk:k<xs.length then (xs[k]'hk,us[k]'(by omega)) else (⟨[],[]⟩,.slice none 0 0)
   have hx:∀k (hk:k<xs.length),(h k).1=xs[k]'hk:=fun k hk=>by show (if hk:k<xs.length then _ else _:EnS.En × Value).1=_;rw [dif_pos hk]
   have A5:∀k,k<xs.length->us[k]?=some (h k).2:=fun k hk=>by
    show _=some (if hk:k<xs.length then _ else _:EnS.En × Value).2
    rw [dif_pos hk,List.getElem?_eq_getElem (by omega)]
   have A4:∀k,k<xs.length->cur[k*2]?=some (.string ⟨(MF (h k)).1.toArray⟩)/\cur[k*2+1]?=some (XK (MF (h k))):=fun k hk=>by
    have A2:k<us.length:=by omega
    obtain ⟨f0,f1⟩:=GK enK xs us k _ _ (List.getElem?_eq_getElem hk) (List.getElem?_eq_getElem A2)
    rw [<-A6,List.getElem?_take_of_lt (by omega),Array.getElem?_toList] at f0 f1
    obtain ⟨a,c,e,_⟩:=Ae.form (h3 k _ _ (List.getElem?_eq_getElem A2) (List.getElem?_eq_getElem hk))
    have e2:(h k).2=us[k]'A2:=by
     have:=A5 k hk
     rw [List.getElem?_eq_getElem A2] at this
     exact (Option.some.inj this).symm
    rw [Hv,hx k hk,Vn (e2.trans e),e2]
    exact ⟨f0,f1⟩
   have A0:=Zj w g xs.length (cap*2) cap hl (fun W hW=>hE W ⟨hW.os,hW.tape,hW.output,hW.size,fun k hk=>hW.block k (by omega) (fun e=>by have e:=Option.some.inj e;omega)⟩) (fun k=>MF (h k)) (fun k hk=>by
    unfold OkC
    rw [Hv,hx k hk]
    exact ok _ (List.getElem_mem hk)) w ⟨cur,hh,hsz,A4,⟨rfl,rfl,rfl,Nat.le_refl _,fun _ _ _=>rfl⟩⟩
   refine A0.mono ?_
   rintro e w1 ⟨rfl,f',hp,hr⟩
   exact ⟨rfl,Zk hC hg A3 A7 hh h3 hx A5 hp hr⟩
end
section
open Go.RowKit
attribute [local go_sem ↓] Go.wp_at_zero Go.wp_at_succ
theorem Whole.grownN {w w':World} {g:Nat} {T:TypeId} {cs:Array Value} (h:Whole w g T cs) {row:Option Nat} (hg:w.grownBy w' row) (A0:some g≠row):Whole w' g T cs:=(hg.block g h.lt A0).trans h
theorem Av.grownN {α:Type} {L:KLay α} {T:TypeId} {Ts:List TypeId} {C:Nat} {w w':World} {B:Nat} {v:Value} {xs:List α} (h:Av L T Ts C w B v xs) {r:Nat} (hg:w.grownBy w' (some r)) (hr:∀cs T' fz,w.heap[r]?≠some (.cells cs T' fz)) (hC:C<=r):Av L T Ts C w' B v xs:=by
 obtain ⟨us,h1,h2,h3⟩:=h
 have hv:v.ownBlock=none\/v.ownBlock≠some r:=by
  rcases h1.2 with ⟨rfl,_⟩ | ⟨g,cap,cur,rfl,_,hh,_⟩
  · exact .inl rfl
  · refine .inr (fun e=>?_)
    have e:=Option.some.inj e
    subst e
    exact hr _ _ _ hh
 refine ⟨us,h1.kept hg hv,h2,fun i u x hu hx=>?_⟩
 refine L.keep (h3 i u x hu hx) hg.size (fun g A1 A0=>hg.block g A1 (fun e=>?_)) (fun g A1 A0=>A0.same (hg.block g A1 (fun e=>?_)))
 all_goals
  have e:=Option.some.inj e
  subst e
  rcases A0 with A0 | ⟨cs,T',fz,hc,_⟩
  · omega
  · exact hr _ _ _ hc
theorem Vo {P:Program} {k:TypeId} {w:World} {b r n:Nat} {f:List UInt8->Option Value} {todo:List UInt8->Bool} {cnt:Nat} (h:Dx P k w b r n f todo cnt):(∀cs T fz,w.heap[r]?≠some (.cells cs T fz))/\∀cs T fz,w.heap[b]?≠some (.cells cs T fz):=by
 obtain ⟨D,left,h1,_⟩:=h
 obtain ⟨es,clock,since,seen,c0,hm,_,_,_,hr,_⟩:=h1
 exact ⟨fun cs T fz hc=>(by rw [hr] at hc;cases hc),fun cs T fz hc=>(by rw [hm] at hc;cases hc)⟩
structure GoneS (C:Nat) (R:List EnS.En) (f:List UInt8->Option Value) (zs:List EnS.En) (todo:List UInt8->Bool):Prop where
 nodup:(zs.map EnS.En.name).Nodup
 sub:∀e ∈ zs,e ∈ R
 all:∀s,(f s).isSome=true->todo s=true\/∃e ∈ zs,e.name=s
 done:∀e ∈ zs,todo e.name=false
theorem GoneS.more {C:Nat} {R:List EnS.En} {f:List UInt8->Option Value} {zs:List EnS.En} {todo:List UInt8->Bool} (h:GoneS C R f zs todo) {x:EnS.En} (hx:x ∈ R) (ht:todo x.name=true):GoneS C R f (zs++[x]) (fun s=>todo s&&decide (s≠x.name)) where
 nodup:=by
  rw [List.map_append,List.nodup_append]
  refine ⟨h.nodup,by simp,fun a ha b hb e=>?_⟩
  simp only [List.map_cons,List.map_nil,List.mem_singleton] at hb
  subst hb
  subst e
  obtain ⟨y,hy,hn⟩:=List.mem_map.1 ha
  have:=h.done y hy
  rw [hn,ht] at this
  cases this
 sub e he:=by
  rcases List.mem_append.1 he with he | he
  · exact h.sub e he
  · rw [List.mem_singleton] at he;subst he;exact hx
 all s hs:=by
  rcases h.all s hs with A1 | ⟨e,he,hn⟩
  · by_cases A0:s=x.name
    · exact .inr ⟨x,List.mem_append_right _ (List.mem_singleton.2 rfl),A0.symm⟩
    · exact .inl (by simp [A1,A0])
  · exact .inr ⟨e,List.mem_append_left _ he,hn⟩
 done e he:=by
  rcases List.mem_append.1 he with he | he
  · simp [h.done e he]
  · rw [List.mem_singleton] at he;subst he;simp
theorem GoneS.end_ {C:Nat} {R:List EnS.En} {f:List UInt8->Option Value} {zs:List EnS.En} {todo:List UInt8->Bool} (h:GoneS C R f zs todo) (ht:∀s,todo s=false) (h1:SeS.BW R) (hf:∀e ∈ R,(f e.name).isSome=true):∀e,e ∈ zs↔e ∈ R:=fun e=>by
 refine ⟨h.sub e,fun he=>?_⟩
 rcases h.all e.name (hf e he) with hh | ⟨y,hy,hn⟩
 · rw [ht] at hh;cases hh
 · rw [<-h1 y (h.sub y hy) e he hn]
   exact hy
theorem GoneS.len {C:Nat} {R:List EnS.En} {f:List UInt8->Option Value} {zs:List EnS.En} {todo:List UInt8->Bool} (h:GoneS C R f zs todo):zs.length<=R.length:=by
 have h2:=SeS.Na (U:=R.map EnS.En.name) h.nodup (fun s hs=>by
  obtain ⟨e,he,hn⟩:=List.mem_map.1 hs
  exact List.mem_map.2 ⟨e,h.sub e he,hn⟩)
 simpa using h2
theorem Aey (C:Nat) (n:Nat) (q:SeS.Rq) (rv:Value) (fb b N:Nat) (R:List EnS.En) (w:World) (hW:Whole w fb 63 #[.map (some b)]) (hk:Be C w (some b) N R) (hq:Fb n w rv q) (F5:q.attrs.length<=1048576/\∀s ∈ q.attrs,s.length<=1048576) (hf:FH R) (F1:∀e ∈ R,LJ e.attrs) (ho:SeS.BD R) (h1:SeS.BW R) (hE:Env w):
  Calls Tryz.prog 29 #[.pointer (some ⟨fb,0,none⟩),rv] w (fun e w'=>∃v,e=.returned v/\Av enK 52 [9,56] w.heap.size w' w.heap.size v ((SeS.EI R).map (SeS.DZ q.attrs q.tonly))/\Below w.heap.size w w'):=by
 obtain ⟨f,hm,D4,G8⟩:∃f,CW Tryz.prog 9 w b N f/\(∀s,(f s).isSome=true↔∃e ∈ R,e.name=s)/\∀e ∈ R,∃u,f e.name=some (.agg #[.string ⟨e.name.toArray⟩,u])/\Ao (okA C w) w u e.attrs:=by
  rcases hk with ⟨e,_⟩ | ⟨b',f,e,_,h2,h3,h4⟩
  · cases e
  · cases e
    exact ⟨f,h2,h3,h4⟩
 have B3:Hid (∀s v,f s=some v->∃e ∈ R,e.name=s/\∃a c,v=.agg #[.string ⟨e.name.toArray⟩,.slice a e.attrs.length c]/\BK w (.slice a e.attrs.length c) e.attrs):=hZ9 (fun s v hs=>by
  obtain ⟨e,he,hn⟩:=(D4 s).1 (by rw [hs];rfl)
  obtain ⟨u,hu,ha⟩:=G8 e he
  obtain ⟨a,c,rfl,_⟩:=Ae.form ha
  rw [hn,hs] at hu
  refine ⟨e,he,hn,a,c,?_,ha.any⟩
  rw [hn]
  exact Option.some.inj hu)
 have C4:Hid (∀e ∈ R,(f e.name).isSome=true):=hZ9 (fun e he=>(D4 _).2 ⟨e,he,rfl⟩)
 have A5:=hZ9 (fun name xs u W hC h hf ht hq=>XW n q rv w.heap.size name xs u W hC h hf ht hq F5)
 have HQ:=hZ9 (fun W (hb:Below w.heap.size w W)=>hq.call hb)
 have E7:=hZ9 (fun W (hb:Below w.heap.size w W)=>hE.below hb)
 have HF:=hZ9 (fun e (he:e ∈ R)=>hf.2 e he)
 have D7:=hZ9 (fun e (he:e ∈ R)=>(F1 e he).2)
 have I2:Hid (R.length<=1048576):=hZ9 hf.1
 have B7:=hZ9 (fun zs ys (h:GoneS C R f zs (fun _=>false)) hp hs=>SeS.AbF (R:=R) (zs:=zs) (ys:=ys) (f:=SeS.DZ q.attrs q.tonly) (SeS.Ack _ _) ho h1 h.nodup (h.end_ (fun _=>rfl) h1 (fun e he=>(D4 _).2 ⟨e,he,rfl⟩)) hp hs)
 have E2:Hid (∀e ∈ R,SeS.Gh (SeS.DZ q.attrs q.tonly e).name/\(SeS.DZ q.attrs q.tonly e).name.length<=1000000):=hZ9 (fun e he=>⟨ho e he,(hf.2 e he).1⟩)
 clear D4 G8 hk hf F1 ho h1 F5 hE
 have G2:Hid (∀e,(SeS.DZ q.attrs q.tonly e).name=e.name):=hZ9 (fun _=>rfl)
 obtain ⟨a5,a6,aa,c5,c6,ca,rfl,_,_⟩:=hq
 generalize SeS.DZ q.attrs q.tonly=sel at*
 obtain ⟨bs,sc,dr,x,at_,tn,sz⟩:=q
 simp only at A5 HQ⊢
 unfold JD at A5
 generalize at_.length=QL at*
 generalize x.any.length=XL at*
 generalize x.parts.length=PL at*
 generalize x.kind=kd at*
 generalize x.attr=at0 at*
 generalize x.value=vl at*
 generalize x.first=fs at*
 generalize x.last=ls at*
 have D2:=Af w (.cells #[.string ⟨bs.toArray⟩,.int .i64 sc,.int .i64 dr,.int .i64 kd,.string ⟨at0.toArray⟩,.string ⟨vl.toArray⟩,.string ⟨fs.toArray⟩,.string ⟨ls.toArray⟩,.slice a5 XL c5,.slice a6 PL c6,.slice aa QL ca,.bool tn,.int .i64 sz] 38)
 have F2:=Whole.made w 38 #[.string ⟨bs.toArray⟩,.int .i64 sc,.int .i64 dr,.int .i64 kd,.string ⟨at0.toArray⟩,.string ⟨vl.toArray⟩,.string ⟨fs.toArray⟩,.string ⟨ls.toArray⟩,.slice a5 XL c5,.slice a6 PL c6,.slice aa QL ca,.bool tn,.int .i64 sz]
 have s1:(w.alloc (.cells #[.string ⟨bs.toArray⟩,.int .i64 sc,.int .i64 dr,.int .i64 kd,.string ⟨at0.toArray⟩,.string ⟨vl.toArray⟩,.string ⟨fs.toArray⟩,.string ⟨ls.toArray⟩,.slice a5 XL c5,.slice a6 PL c6,.slice aa QL ca,.bool tn,.int .i64 sz] 38)).heap.size=w.heap.size+1:=by show (w.heap.push _).size=_;exact Array.size_push _
 have F6:=hW.call D2
 have H2:=F6.cell 0
 simp only [List.getElem?_toArray,List.getElem?_cons_zero] at H2
 obtain ⟨W2,C6,⟨E1,B4⟩,E4,_⟩:=(hm.kept (AX D2) (by simp)).range (t:=61) Tryz.underlying9 Tryz.underlying61
 have G6:=D2.grown E4 D2.size (fun k e=>by cases e)
 have G3:=F2.grownN E4 (by simp)
 rw [s1] at C6 B4
 obtain ⟨i0,hi,I6,H7,I1⟩:=info_parts LM
 have HI:=hZ9 hi
 have C9:GoneS C R f [] (fun s=>(f s).isSome):=⟨by simp,fun e he=>(by cases he),fun s hs=>.inl hs,fun e he=>(by cases he)⟩
 clear hi hm hW D2 E4 F2 F6
 go_enter Tryz.func29,Tryz.ntmps29
 go_wp2_with fail
 go_loopw [5] (fun out wr=>∃(zs:List EnS.En) (todo:List UInt8->Bool) (cnt:Nat),Av enK 52 [9,56] w.heap.size wr w.heap.size out (zs.map sel)/\Dx Tryz.prog 9 wr b (w.heap.size+1) N f todo cnt/\GoneS C R f zs todo/\Whole wr w.heap.size 38 #[.string ⟨bs.toArray⟩,.int .i64 sc,.int .i64 dr,.int .i64 kd,.string ⟨at0.toArray⟩,.string ⟨vl.toArray⟩,.string ⟨fs.toArray⟩,.string ⟨ls.toArray⟩,.slice a5 XL c5,.slice a6 PL c6,.slice aa QL ca,.bool tn,.int .i64 sz]/\Below w.heap.size w wr) (fun _ wr=>wr.rangeLeft b (w.heap.size+1))
 case atStart=>exact ⟨[],_,E1,Av.empty _ _ _ _ _ _,B4,C9,G3,G6⟩
 case round=>
  obtain ⟨zs,todo,cnt,A6,D1,B8,hr,hb⟩:=hrel
  clear B4 C9 G3 G6 C6 H2
  obtain ⟨oa,oc,rfl⟩:=A6.form
  have I4:=B8.len
  have H9:(zs.map sel).length<=1048576:=by rw [List.length_map];exact Nat.le_trans I4 I2.out
  generalize H1:(zs.map sel).length=ZL at*
  rcases D1.next Tryz.underlying9 0 with ⟨A8,F8⟩ | ⟨s,v,w4,cnt4,J3,E9,F3,F8,B5,H4,D3,_,I9⟩
  · obtain rfl:todo=fun _=>false:=funext A8
    have B1:=Ado (Nat.le_refl _) hb.size A6 (fun W hW=>E7.out W (hb.trans hW)) (fun e he=>by
     obtain ⟨y,hy,rfl⟩:=List.mem_map.1 he
     exact E2.out y (B8.sub y hy)) (by rw [H1];omega)
    unfold Xw at B1
    have I5:=hZ9 (fun ys hp hs=>B7.out zs ys B8 hp hs)
    clear B3 C4 A5 HQ E7 HF D7 B7 E2 G2 HI B8 D1 A8
    generalize (zs.map sel)=ZS at*
    go_wp2_with fail
    refine B1.mono ?_
    rintro e w5 ⟨rfl,ys,A0,I0,J0,A7⟩
    have H8:=I5.out ys I0 J0
    rw [H8] at A0
    go_wp2_with fail
    go_ret
    exact ⟨_,rfl,A0,hb.trans A7⟩
  · obtain ⟨e,he,hn,a,c,rfl,E5⟩:=B3.out s v F3
    have G4:=HF.out e he
    have D0:=D7.out e he
    have B2:=B8.more he (by rw [hn];exact E9)
    rw [hn] at B2
    have F0:=G2.out e
    have A4:=fun u W hC h hf ht hq=>A5.out e.name e.attrs u W hC h hf ht hq
    have F9:=Vo D1
    have A9:=A6.grownN D3 F9.1 (by omega)
    have G0:=hr.grownN D3 (fun e=>by have e:=Option.some.inj e;omega)
    have D6:=hb.grown D3 hb.size (fun k e=>by have e:=Option.some.inj e;omega)
    subst hn
    have H6:Hid ((zs++[e]).map sel=zs.map sel++[sel e]):=hZ9 (by rw [List.map_append];rfl)
    have J4:=hZ9 (show ∀w7 I7,wr.rangeLeft b (w.heap.size+1)=cnt->cnt4<cnt->w7=cnt4->w7<cnt from fun _ _ _ h1 h2=>by omega)
    have J2:=D1.left_eq
    generalize I3:sel e=se at*
    have H5:=hZ9 I3
    obtain ⟨name,F7⟩:=e
    simp only at G4 D0 F0 A4 E5 F8 I9 F3 E9 B5 B2
    generalize J5:F7.length=AL at*
    have D5:=Af w4 (.cells #[.string ⟨name.toArray⟩,.slice a AL c] 52)
    have A7:=D6.trans (D5.mono D6.size)
    have E0:=Whole.made w4 52 #[.string ⟨name.toArray⟩,.slice a AL c]
    have A0:=A9.call D5
    have A1:=G0.call D5
    have C7:=B5.kept (AX D5) (by simp) (by simp)
    have x0:=E0.cell 0
    have x1:=E0.cell 1
    have r0:=A1.cell 0
    have r1:=A1.cell 1
    have r2:=A1.cell 2
    have r3:=A1.cell 3
    have r4:=A1.cell 4
    have r5:=A1.cell 5
    have r6:=A1.cell 6
    have r7:=A1.cell 7
    have r8:=A1.cell 8
    have r9:=A1.cell 9
    have E8:=A1.cell 10
    have H0:=A1.cell 11
    have F4:=A1.cell 12
    simp only [List.getElem?_toArray,List.getElem?_cons_zero,List.getElem?_cons_succ] at x0 x1 r0 r1 r2 r3 r4 r5 r6 r7 r8 r9 E8 H0 F4
    have B6:=A4 (.slice a AL c) _ A7.size (Ao.exp (Ao.callT (E5.base [9]) A7)) G4.2 D0 (HQ.out _ A7)
    (try rw [H5.out] at B6)
    clear A4 A5 HQ B3 C4 HF D7 B7 E2 A6 D1 B8 hr hb A9 G0 D6 B5 E0 D3 E5 F9
    go_wp2_with fail
    refine B6.mono ?_
    rintro e w6 ⟨u6,rfl,A3,C5⟩
    have C8:=A3.attrsB (Ts':=[9,56]) (by simp) (by simp)
    obtain ⟨ya,yc,rfl⟩:=A3.form
    generalize se.attrs.length=SL at*
    have B0:=A0.call C5
    have C1:=C7.kept (AX C5) (by simp) (by simp)
    have G7:=A1.call C5
    have D9:=A7.trans (C5.mono A7.size)
    have B9:=Af w6 (.cells #[.string ⟨name.toArray⟩,.slice ya SL yc] 52)
    have E6:=Whole.made w6 52 #[.string ⟨name.toArray⟩,.slice ya SL yc]
    have A2:=B0.call B9
    have C3:=C1.kept (AX B9) (by simp) (by simp)
    have I8:=G7.call B9
    have G1:=D9.trans (B9.mono D9.size)
    have E3:=Ao.callT C8 B9
    have b0:=E6.cell 0
    have b1:=E6.cell 1
    simp only [List.getElem?_toArray,List.getElem?_cons_zero,List.getElem?_cons_succ] at b0 b1
    have b2:_=some (Ac (enK.key se)):=b0.trans (by show _=some (Ac se.name);rw [F0];rfl)
    have D8:=G1.size
    clear A0 C7 A1 A7 B0 C1 G7 D9 C8 A3 B6 x0 x1 r0 r1 r2 r3 r4 r5 r6 r7 r8 r9 E8 H0 F4 C5 B9 E6
    go_wp2_with (at_builtin;refine OA enK 52 22 [9,56] (by decide) Tryz.underlying22 HI.out I6 H7 I1 (by rfl) (by rfl) _ _ (by rfl) w.heap.size (Nat.le_refl _) _ (zs.map sel) (by rfl) A2 w6.heap.size (by rfl) se _ b2 b1 E3 (by rw [H1];omega) D8 ?_)
    intro v9 w9 C2 J1 G5
    have G9:=Vo C3
    have C0:=C3.kept G5 (fun e=>by obtain ⟨cur,hc⟩:=A2.cells e;exact G9.2 _ _ _ hc) (fun e=>by obtain ⟨cur,hc⟩:=A2.cells e;exact G9.1 _ _ _ hc)
    have H3:=I8.grown A2 (by decide) G5
    go_wp2_with fail
    go_roundw
    case rel=>exact ⟨zs++[⟨name,F7⟩],_,cnt4,by rw [H6.out];exact C2,C0,B2,H3,G1.trans J1⟩
    case measure=>rw [C0.left_eq,J2];exact H4
end
end Go.Proofs.YtgngjfjaelgaeaaGreatDoor
