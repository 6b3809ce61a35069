/- The walks of 'Near', the program's and the document's, and of the law of near values. Conditions: as stated. -/
import Derived.Test.YtgngjfjaelgaeaaGreatDoorKPhs
import Derived.Test.YtgngjfjaelgaeaaGreatDoorKSeS
set_option maxRecDepth 100000
set_option maxHeartbeats 1000000
namespace Go.Proofs.YtgngjfjaelgaeaaGreatDoor
section
open Go.RowKit
attribute [local go_sem ↓] Go.wp_at_zero Go.wp_at_succ
theorem Gq {nm a x:List UInt8} (h:RuS.normal nm a=(x,0)) (h4:(RuS.typeOf nm).2=4):∃p q,PhS.parseP x=some (p,q):=by
 obtain ⟨_,_,_,hv⟩:=RuS.normal_ok h
 rw [h4] at hv
 have e:=RuS.normV_same (by decide) hv
 subst e
 have hv:(if (PhS.parseP x).isSome then some x else none)=some x:=hv
 cases hp:PhS.parseP x with
 | none=>rw [hp] at hv;cases hv
 | some p=>exact ⟨p.1,p.2,rfl⟩
theorem OJ {nm a x:List UInt8} (h:RuS.normal nm a=(x,0)) (h3:(RuS.typeOf nm).2=3):∃n,RuS.intS x=some n:=by
 obtain ⟨_,_,_,hv⟩:=RuS.normal_ok h
 rw [h3] at hv
 have e:=RuS.normV_same (by decide) hv
 subst e
 have hv:(if (RuS.intS x).isSome then some x else none)=some x:=hv
 cases hp:RuS.intS x with
 | none=>rw [hp] at hv;cases hv
 | some p=>exact ⟨p,rfl⟩
def normP (l:List UInt8):Int:=match PhS.parseP l with
 | some (a,b)=>a*a+b*b
 | none=>-1
def MN (sy:Int) (x y:List UInt8):Bool:=if sy=1 then RuS.bareL x==RuS.bareL y else if sy=4 then decide (normP x=normP y) else x==y
def Kt (nm a b:List UInt8):Bool:=decide (Dp nm a b=0)&&MN (RuS.typeOf nm).2 (RuS.normal nm a).1 (RuS.normal nm b).1
def Eh (nm a b:List UInt8) (w:World) (e:Ending) (w':World):Prop:=e=.returned (.tuple #[.bool (Kt nm a b),.int .i64 (Dp nm a b)])/\Below w.heap.size w w'
theorem Eh.mk' {nm a b:List UInt8} {w w':World} {q:Bool} {n:Int} (h:Dp nm a b=n) (hq:Kt nm a b=q) (hb:Below w.heap.size w w'):Eh nm a b w (.returned (.tuple #[.bool q,.int .i64 n])) w':=by
 unfold Eh;rw [h,hq];exact ⟨rfl,hb⟩
theorem Lx (x:List UInt8) (hx:x.length<=1000000) (w:World) (hE:Env w):
  Calls Tryz.prog 212 #[.string ⟨x.toArray⟩,.string ⟨#[32]⟩,.string ⟨#[]⟩] w fun e w'=>e=.returned (.string ⟨(RuS.bareL x).toArray⟩)/\Below w.heap.size w w':=by
 obtain ⟨m,hm⟩:=hE.maxLen
 have hs:(⟨x.toArray⟩:ByteArray).size=x.length:=rfl
 refine (Tryz.strings_ReplaceAll ⟨x.toArray⟩ ⟨#[32]⟩ ⟨#[]⟩ m w (by rw [hs];omega) hm (Nat.le_refl 1) (by rw [hs];show x.length+_*0<=_;omega)).mono ?_
 rintro e w' ⟨rfl,hb⟩
 refine ⟨?_,hb⟩
 show Ending.returned (.string ⟨(Lib.replaceAll x [32] []).toArray⟩)=_
 rw [RuS.replaceAll_bare]
theorem OL {nm a b x y:List UInt8} (h:Dp nm a b=0) (hx:x=(RuS.normal nm a).1) (hy:y=(RuS.normal nm b).1):RuS.normal nm a=(x,0)/\RuS.normal nm b=(y,0):=by
 obtain ⟨h1,h2⟩:=(AaA nm a b).1 h
 subst hx hy
 exact ⟨by rw [<-h1],by rw [<-h2]⟩
theorem AeH (nm a b:ByteArray) (hn:nm.size<=9223372036854775807) (ha:a.size<=9223372036854775807) (hb:b.size<=9223372036854775807) (w:World) (hE:Env w):
  Calls Tryz.prog 189 #[.string nm,.string a,.string b] w (Eh nm.data.toList a.data.toList b.data.toList w):=by
 have h1:=Aa9 nm a b hn ha hb w hE
 have A3:=fun w=>FW nm hn w
 unfold Am at A3
 unfold GW at h1
 have HS:Hid (Kt nm.data.toList a.data.toList b.data.toList=(decide (Dp nm.data.toList a.data.toList b.data.toList=0)&&MN (RuS.typeOf nm.data.toList).2 (RuS.normal nm.data.toList a.data.toList).1 (RuS.normal nm.data.toList b.data.toList).1)):=hZ9 rfl
 generalize B0:Dp nm.data.toList a.data.toList b.data.toList=er at*
 have A4:=hZ9 B0
 clear B0
 by_cases z1:er=0
 · subst z1
   go_enter Tryz.func189,Tryz.ntmps189
   go_wp2_with fail
   refine h1.mono ?_;rintro e w1 ⟨x,y,rfl,A8,A1⟩
   obtain ⟨hx,hy⟩:=A8 (by trivial)
   clear A8
   obtain ⟨fx,fy⟩:=OL A4.out hx hy
   have B1:=(RuS.normal_ok fx).1
   have lx:x.length<=200:=by rw [hx];exact RuS.normal_len _ _
   have ly:y.length<=200:=by rw [hy];exact RuS.normal_len _ _
   have A2:=Gq fx
   have A5:=Gq fy
   rw [<-hx,<-hy] at HS
   clear hx hy fx fy
   generalize RuS.typeOf nm.data.toList=r at*
   obtain ⟨t,sy⟩:=r
   simp only at A3 B1 A2 A5 HS
   rcases B1 with rfl | rfl | rfl | rfl
   · clear A2 A5
     have A7:=hE.below A1
     have r1:=Lx x (by omega)
     have r2:=Lx y (by omega)
     have HF:Hid (MN 1 x y=(RuS.bareL x==RuS.bareL y)):=hZ9 rfl
     generalize RuS.bareL x=bx at*
     generalize RuS.bareL y=by_ at*
     go_wp2_with fail
     refine (A3 _).mono ?_;rintro e w2 ⟨rfl,A0⟩
     go_wp2_with fail
     refine (r1 _ (A7.below A0)).mono ?_;rintro e w3 ⟨rfl,A6⟩
     go_wp2_with fail
     refine (r2 _ ((A7.below A0).below A6)).mono ?_;rintro e w4 ⟨rfl,A9⟩
     go_wp2_with fail
     go_ret2
     exact Eh.mk' A4.out (by rw [HS.out,HF.out];simp) (Aa A1 (Aa A0 (Aa A6 A9)))
   · clear A2 A5
     have HF:Hid (MN 2 x y=(x==y)):=hZ9 rfl
     go_wp2_with fail
     refine (A3 _).mono ?_;rintro e w2 ⟨rfl,A0⟩
     go_wp2_with fail
     go_ret2
     exact Eh.mk' A4.out (by rw [HS.out,HF.out];simp) (Aa A1 A0)
   · clear A2 A5
     have HF:Hid (MN 3 x y=(x==y)):=hZ9 rfl
     go_wp2_with fail
     refine (A3 _).mono ?_;rintro e w2 ⟨rfl,A0⟩
     go_wp2_with fail
     go_ret2
     exact Eh.mk' A4.out (by rw [HS.out,HF.out];simp) (Aa A1 A0)
   · obtain ⟨pa,pb,px⟩:=A2 rfl
     obtain ⟨qa,qb,py⟩:=A5 rfl
     clear A2 A5
     have A7:=hE.below A1
     have p1:=fun w hE=>JO ⟨x.toArray⟩ (by show x.length+2<=_;omega) w hE
     have p2:=fun w hE=>JO ⟨y.toArray⟩ (by show y.length+2<=_;omega) w hE
     unfold Pe at p1 p2
     have dx:(⟨x.toArray⟩:ByteArray).data.toList=x:=rfl
     have dy:(⟨y.toArray⟩:ByteArray).data.toList=y:=rfl
     rw [dx,px] at p1
     rw [dy,py] at p2
     simp only at p1 p2
     have HF:Hid (MN 4 x y=decide (pa*pa+pb*pb=qa*qa+qb*qb)):=hZ9 (by
      show decide (normP x=normP y)=_
      unfold normP;rw [px,py])
     have n1:=Pg pa pb (PhS.parseP_some.1 px).1
     have n2:=Pg qa qb (PhS.parseP_some.1 py).1
     clear px py dx dy
     generalize pa*pa+pb*pb=m1 at*
     generalize qa*qa+qb*qb=m2 at*
     go_wp2_with fail
     refine (A3 _).mono ?_;rintro e w2 ⟨rfl,A0⟩
     go_wp2_with fail
     refine (p1 _ (A7.below A0)).mono ?_;rintro e w3 ⟨rfl,A6⟩
     go_wp2_with fail
     refine (p2 _ ((A7.below A0).below A6)).mono ?_;rintro e w4 ⟨rfl,A9⟩
     go_wp2_with fail
     refine (n1 _).mono ?_;rintro e w5 ⟨rfl,B2⟩
     go_wp2_with fail
     refine (n2 _).mono ?_;rintro e w6 ⟨rfl,B3⟩
     go_wp2_with fail
     go_ret2
     refine Eh.mk' A4.out ?_ (Aa A1 (Aa A0 (Aa A6 (Aa A9 (Aa B2 B3)))))
     rw [HS.out,HF.out]
     first | rfl | (simp;done) | (rw [Bool.eq_iff_iff];simp)
 · have hz:(er !=0)=true:=by simpa using z1
   have HZ:=hZ9 z1
   clear z1
   go_enter Tryz.func189,Tryz.ntmps189
   go_wp2_with fail
   refine h1.mono ?_;rintro e w1 ⟨x,y,rfl,A8,A1⟩
   clear A8
   go_wp2_with fail
   go_ret2
   exact Eh.mk' A4.out (by rw [HS.out,decide_eq_false HZ.out];rfl) A1
end
section
open Go.RowKit
def Qd (sy:Int) (x y:List UInt8):Int:=if sy=3 then EP ((RuS.intS x).getD 0) ((RuS.intS y).getD 0)
 else if sy=4 then (match PhS.parseP x,PhS.parseP y with
  | some (a,b),some (c,d)=>Qs a b c d
  | _,_=>0)
 else Lib.compareBytes x y
def Ju (nm a b:List UInt8):Int:=if Dp nm a b=0 then Qd (RuS.typeOf nm).2 (RuS.normal nm a).1 (RuS.normal nm b).1 else 0
def EL (nm a b:List UInt8) (w:World) (e:Ending) (w':World):Prop:=e=.returned (.tuple #[.int .i64 (Ju nm a b),.int .i64 (Dp nm a b)])/\Below w.heap.size w w'
theorem EL.mk' {nm a b:List UInt8} {w w':World} {q n:Int} (h:Dp nm a b=n) (hq:Ju nm a b=q) (hb:Below w.heap.size w w'):EL nm a b w (.returned (.tuple #[.int .i64 q,.int .i64 n])) w':=by
 unfold EL;rw [h,hq];exact ⟨rfl,hb⟩
theorem LA {x:List UInt8} {n:Int} (h:RuS.intS x=some n) (hx:x.length<=1000000) (w:World):
  Calls Tryz.prog 183 #[.string ⟨x.toArray⟩,.int .i64 10,.int .i64 64] w fun e w'=>e=.returned (.tuple #[.int .i64 n,.nilIface])/\Below w.heap.size w w':=by
 obtain ⟨h1,h2⟩:=RuS.intS_iff.1 h
 refine Lp ⟨x.toArray⟩ (by show x.length<=_;omega) n ?_ w
 show Lib.parseIntB 64 x=.ok n
 rw [<-h1]
 exact RuS.parse64_itoa n h2
theorem RY (nm a b:ByteArray) (hn:nm.size<=9223372036854775807) (ha:a.size<=9223372036854775807) (hb:b.size<=9223372036854775807) (w:World) (hE:Env w):
  Calls Tryz.prog 190 #[.string nm,.string a,.string b] w (EL nm.data.toList a.data.toList b.data.toList w):=by
 have h1:=Aa9 nm a b hn ha hb w hE
 have A4:=fun w=>FW nm hn w
 unfold Am at A4
 unfold GW at h1
 have HS:Hid (Ju nm.data.toList a.data.toList b.data.toList=if Dp nm.data.toList a.data.toList b.data.toList=0 then Qd (RuS.typeOf nm.data.toList).2 (RuS.normal nm.data.toList a.data.toList).1 (RuS.normal nm.data.toList b.data.toList).1 else 0):=hZ9 rfl
 generalize B2:Dp nm.data.toList a.data.toList b.data.toList=er at*
 have A5:=hZ9 B2
 clear B2
 by_cases z1:er=0
 · subst z1
   go_enter Tryz.func190,Tryz.ntmps190
   go_wp2_with fail
   refine h1.mono ?_;rintro e w1 ⟨x,y,rfl,A8,A1⟩
   obtain ⟨hx,hy⟩:=A8 (by trivial)
   clear A8
   obtain ⟨fx,fy⟩:=OL A5.out hx hy
   have B3:=(RuS.normal_ok fx).1
   have lx:x.length<=200:=by rw [hx];exact RuS.normal_len _ _
   have ly:y.length<=200:=by rw [hy];exact RuS.normal_len _ _
   have A3:=Gq fx
   have A6:=Gq fy
   have A2:=OJ fx
   have A7:=OJ fy
   rw [<-hx,<-hy] at HS
   clear hx hy fx fy
   generalize RuS.typeOf nm.data.toList=r at*
   obtain ⟨t,sy⟩:=r
   simp only at A4 B3 A3 A6 A2 A7 HS
   have B4:=hE.below A1
   rcases B3 with rfl | rfl | rfl | rfl
   · clear A3 A6 A2 A7
     have sc:=fun w=>Tryz.strings_Compare ⟨x.toArray⟩ ⟨y.toArray⟩ w
     have dx:(⟨x.toArray⟩:ByteArray).data.toList=x:=rfl
     have dy:(⟨y.toArray⟩:ByteArray).data.toList=y:=rfl
     rw [dx,dy] at sc
     clear dx dy
     have HF:Hid (Qd 1 x y=Lib.compareBytes x y):=hZ9 rfl
     generalize Lib.compareBytes x y=cb at*
     go_wp2_with fail
     refine (A4 _).mono ?_;rintro e w2 ⟨rfl,A0⟩
     go_wp2_with fail
     refine (sc _).mono ?_;rintro e w3 ⟨rfl,rfl⟩
     go_wp2_with fail
     go_ret2
     exact EL.mk' A5.out (by rw [HS.out,if_pos (by trivial),HF.out]) (Aa A1 A0)
   · clear A3 A6 A2 A7
     have sc:=fun w=>Tryz.strings_Compare ⟨x.toArray⟩ ⟨y.toArray⟩ w
     have dx:(⟨x.toArray⟩:ByteArray).data.toList=x:=rfl
     have dy:(⟨y.toArray⟩:ByteArray).data.toList=y:=rfl
     rw [dx,dy] at sc
     clear dx dy
     have HF:Hid (Qd 2 x y=Lib.compareBytes x y):=hZ9 rfl
     generalize Lib.compareBytes x y=cb at*
     go_wp2_with fail
     refine (A4 _).mono ?_;rintro e w2 ⟨rfl,A0⟩
     go_wp2_with fail
     refine (sc _).mono ?_;rintro e w3 ⟨rfl,rfl⟩
     go_wp2_with fail
     go_ret2
     exact EL.mk' A5.out (by rw [HS.out,if_pos (by trivial),HF.out]) (Aa A1 A0)
   · obtain ⟨m,hm⟩:=A2 rfl
     obtain ⟨n,B1⟩:=A7 rfl
     clear A3 A6 A2 A7
     have i1:=LA hm (by omega)
     have i2:=LA B1 (by omega)
     have k0:=Uu m n
     have HF:Hid (Qd 3 x y=EP m n):=hZ9 (by
      show EP ((RuS.intS x).getD 0) ((RuS.intS y).getD 0)=_
      rw [hm,B1];rfl)
     clear hm B1
     generalize EP m n=q at*
     go_wp2_with fail
     refine (A4 _).mono ?_;rintro e w2 ⟨rfl,A0⟩
     go_wp2_with fail
     refine (i1 _).mono ?_;rintro e w3 ⟨rfl,A9⟩
     go_wp2_with fail
     refine (i2 _).mono ?_;rintro e w4 ⟨rfl,B0⟩
     go_wp2_with fail
     refine (k0 _).mono ?_;rintro e w5 ⟨rfl,rfl⟩
     go_wp2_with fail
     go_ret2
     exact EL.mk' A5.out (by rw [HS.out,if_pos (by trivial),HF.out]) (Aa A1 (Aa A0 (Aa A9 B0)))
   · obtain ⟨pa,pb,px⟩:=A3 rfl
     obtain ⟨qa,qb,py⟩:=A6 rfl
     clear A3 A6 A2 A7
     have p1:=fun w hE=>JO ⟨x.toArray⟩ (by show x.length+2<=_;omega) w hE
     have p2:=fun w hE=>JO ⟨y.toArray⟩ (by show y.length+2<=_;omega) w hE
     unfold Pe at p1 p2
     have dx:(⟨x.toArray⟩:ByteArray).data.toList=x:=rfl
     have dy:(⟨y.toArray⟩:ByteArray).data.toList=y:=rfl
     rw [dx,px] at p1
     rw [dy,py] at p2
     simp only at p1 p2
     have HF:Hid (Qd 4 x y=Qs pa pb qa qb):=hZ9 (by
      show (match PhS.parseP x,PhS.parseP y with | some (a,b),some (c,d)=>Qs a b c d | _,_=>0)=_
      rw [px,py])
     have n1:=AaC pa pb qa qb (PhS.parseP_some.1 px).1 (PhS.parseP_some.1 py).1
     clear px py dx dy
     generalize Qs pa pb qa qb=q at*
     go_wp2_with fail
     refine (A4 _).mono ?_;rintro e w2 ⟨rfl,A0⟩
     go_wp2_with fail
     refine (p1 _ (B4.below A0)).mono ?_;rintro e w3 ⟨rfl,A9⟩
     go_wp2_with fail
     refine (p2 _ ((B4.below A0).below A9)).mono ?_;rintro e w4 ⟨rfl,B0⟩
     go_wp2_with fail
     refine (n1 _).mono ?_;rintro e w5 ⟨rfl,B5⟩
     go_wp2_with fail
     go_ret2
     exact EL.mk' A5.out (by rw [HS.out,if_pos (by trivial),HF.out]) (Aa A1 (Aa A0 (Aa A9 (Aa B0 B5))))
 · have hz:(er !=0)=true:=by simpa using z1
   have HZ:=hZ9 z1
   clear z1
   go_enter Tryz.func190,Tryz.ntmps190
   go_wp2_with fail
   refine h1.mono ?_;rintro e w1 ⟨x,y,rfl,A8,A1⟩
   clear A8
   go_wp2_with fail
   go_ret2
   exact EL.mk' A5.out (by rw [HS.out,if_neg HZ.out]) A1
end
section
namespace FiS
open Go.Lib
def Gs:List (List UInt8)->List UInt8->Bool
 | [],_=>true
 | p :: r,s=>if 0<=Lib.index s p then Gs r (s.drop ((Lib.index s p).toNat+p.length)) else false
def Ku (f l s:List UInt8):Option (List UInt8):=
 if Lib.hasPrefix s f=true then (if Lib.hasSuffix (s.drop f.length) l=true then some ((s.drop f.length).take ((s.drop f.length).length - l.length)) else none) else none
def CC (f l:List UInt8) (any:List (List UInt8)) (s:List UInt8):Bool:=match Ku f l s with
 | some m=>Gs any m
 | none=>false
def Aq (sy:Int) (p:List UInt8):List UInt8:=if sy=1 then RuS.lower p else p
def FK (k:Int) (a v f l:List UInt8) (s:List (List UInt8)) (x:List UInt8):Bool:=
 if (DnS.AB a x).2=0 then
  (if k=4 then CC (Aq (RuS.typeOf a).2 f) (Aq (RuS.typeOf a).2 l) (s.map (Aq (RuS.typeOf a).2)) (DnS.AB a x).1
  else if k=3\/(RuS.typeOf a).2=5 then (DnS.AB a x).1==(DnS.AB a v).1
  else if k=8 then Kt a x v
  else decide (k=5/\0<=Ju a x v\/k=6/\Ju a x v<=0))
 else false
def Gt (t:List UInt8):List EnS.At->List (List UInt8)
 | []=>[]
 | a :: r=>(if (RuS.typeOf a.typ).1=t then a.vals else [])++Gt t r
def OM (k:Int) (a v:List UInt8):Bool:=decide ((RuS.typeOf a).2=0)||(decide (k=4)&&decide (2<(RuS.typeOf a).2))||((decide (k=5)||decide (k=6))&&(decide ((RuS.typeOf a).2=2)||decide ((RuS.typeOf a).2=5)))||(decide (k≠4)&&decide (k≠7)&&decide ((DnS.AB a v).2≠0))
def Fe (A:List EnS.At) (k:Int) (a v f l:List UInt8) (s:List (List UInt8)):Int:=
 if OM k a v=true then -1
 else if (Gt (RuS.typeOf a).1 A).any (fun x=>decide (k=7)||FK k a v f l s x)=true then 1 else 0
def notE (x:Int):Int:=if x=-1 then -1 else if x=0 then 1 else 0
mutual
def AP (A:List EnS.At):Fi->Int
 | .mk k a v f l s ps=>if k=0\/k=1 then Ed A k (1 - k) ps else if k=2 then notE (Ad0 A ps) else Fe A k a v f l s
def Ed (A:List EnS.At) (k:Int) (acc:Int):List Fi->Int
 | []=>acc
 | p :: r=>if AP A p=k then k else Ed A k (if AP A p=-1 then -1 else acc) r
def Ad0 (A:List EnS.At):List Fi->Int
 | []=>0
 | p :: _=>AP A p
end
def MO (A:List EnS.At) (x:Fi):Int:=if formedS x=true then AP A x else -1
theorem VO (A:List EnS.At) (k:Int) (a v f l:List UInt8) (s:List (List UInt8)):Fe A k a v f l s=-1\/Fe A k a v f l s=0\/Fe A k a v f l s=1:=by
 unfold Fe
 split
 · exact .inl rfl
 · split
   · exact .inr (.inr rfl)
   · exact .inr (.inl rfl)
mutual
theorem Jv (A:List EnS.At):∀x:Fi,AP A x=-1\/AP A x=0\/AP A x=1
 | .mk k a v f l s ps=>by
  rw [AP]
  split
  · rename_i h
    have:=Nl A k (1 - k) (by omega) ps
    rcases this with h2 | h2 | h2
    · exact .inl h2
    · rw [h2];omega
    · rw [h2];omega
  · split
    · unfold notE
      split
      · exact .inl rfl
      · split
        · exact .inr (.inr rfl)
        · exact .inr (.inl rfl)
    · exact VO ..
theorem Nl (A:List EnS.At) (k acc:Int) (ha:acc=-1\/acc=1 - k):∀ps:List Fi,Ed A k acc ps=-1\/Ed A k acc ps=k\/Ed A k acc ps=1 - k
 | []=>by rw [Ed];omega
 | p :: r=>by
  rw [Ed]
  split
  · exact .inr (.inl rfl)
  · exact Nl A k _ (by split <;> omega) r
end
theorem OO (A:List EnS.At) (k:Int):∀(acc:Int) (ps:List Fi) (j:Nat) (hj:j<ps.length),AP A (ps[j]'hj)=k->Ed A k acc ps=k
 | acc,[],j,hj,_=>by simp at hj
 | acc,p :: r,0,_,h=>by rw [Ed,if_pos (show AP A p=k from h)]
 | acc,p :: r,j+1,hj,h=>by
  rw [Ed]
  split
  · rfl
  · exact OO A k _ r j (by simpa using hj) h
def FA (A:List EnS.At) (acc:Int):List Fi->Int
 | []=>acc
 | p :: r=>FA A (if AP A p=-1 then -1 else acc) r
theorem QO {A:List EnS.At}:∀{acc:Int} {ps:List Fi} {j:Nat} (hj:j<ps.length),FA A acc (ps.take (j+1))=if AP A (ps[j]'hj)=-1 then -1 else FA A acc (ps.take j)
 | acc,[],j,hj=>by simp at hj
 | acc,p :: r,0,_=>by
  show FA A (if AP A p=-1 then -1 else acc) (r.take 0)=if AP A p=-1 then -1 else FA A acc []
  simp [FA]
 | acc,p :: r,j+1,hj=>QO (acc:=if AP A p=-1 then -1 else acc) (ps:=r) (j:=j) (by simpa using hj)
theorem QP {A:List EnS.At} {k:Int}:∀{acc:Int} {ps:List Fi},(∀j (hj:j<ps.length),AP A (ps[j]'hj)≠k)->Ed A k acc ps=FA A acc ps
 | acc,[],_=>by rw [Ed];rfl
 | acc,p :: r,h=>by
  rw [Ed,if_neg (show ¬AP A p=k from h 0 (by simp)),FA]
  exact QP (fun j hj=>h (j+1) (by simpa using hj))
end FiS
end
section
namespace SeS
open Go.Lib DnS EnS
open FiS (Fi)
def Hg (at_:List (List UInt8)) (a:At):Bool:=at_.isEmpty||at_.any (fun x=>x==[42]||((RuS.typeOf x).1 !=[]&&(RuS.typeOf x).1==a.typ))
def DZ (at_:List (List UInt8)) (tn:Bool) (e:En):En:=⟨e.name,(e.attrs.filter (Hg at_)).map (fun a=>if tn=true then ⟨a.typ,[]⟩ else a)⟩
theorem Ack (at_:List (List UInt8)) (tn:Bool) (e:En):(DZ at_ tn e).name=e.name:=rfl
structure Rq where
 base:List UInt8
 scope:Int
 deref:Int
 filter:Fi
 attrs:List (List UInt8)
 tonly:Bool
 size:Int
def CM (q:Rq):Bool:=decide (0<=q.scope)&&decide (q.scope<=2)&&decide (0<=q.deref)&&decide (q.deref<=3)&&decide (0<=q.size)&&FiS.formedS q.filter
def dr1 (q:Rq):Bool:=decide (q.deref=1)||decide (q.deref=3)
def dr2 (q:Rq):Bool:=decide (q.deref=2)||decide (q.deref=3)
def FN (x:Fi) (e:En):Bool:=decide (FiS.MO e.attrs x=1)
def Gu (l:List En) (q:Rq) (n:List UInt8) (N:Nat):List En:=(EI ((stS l (dr1 q) [(n,q.scope)] N).2.filter (FN q.filter))).map (DZ q.attrs q.tonly)
def Gv (l:List En) (q:Rq) (c:Int) (ys:List En):Prop:=
 (CM q=false/\c=2/\ys=[])\/
 (CM q=true/\(AG l q.base (dr2 q)).2.2≠0/\c=(AG l q.base (dr2 q)).2.2/\ys=[])\/
 (CM q=true/\(AG l q.base (dr2 q)).2.2=0/\∃N,Om l (dr1 q) [((AG l q.base (dr2 q)).1,q.scope)] N/\(c,ys)=Gi q.size (Gu l q (AG l q.base (dr2 q)).1 N))
theorem Acl {l:List En} {q:Rq} {n:Nat} {c c':Int} {ys ys':List En} (h:Gv l { q with size:=0 } c ys) (k:Gv l { q with size:=n } c' ys'):
  if c≠0\/n=0\/ys.length<=n then c'=c/\ys'=ys else c'=4/\ys'=ys.take n:=by
 have hf:CM { q with size:=(n:Int) }=CM { q with size:=0 }:=by
  unfold CM
  simp
 rcases h with ⟨h1,rfl,rfl⟩ | ⟨h1,h2,rfl,rfl⟩ | ⟨h1,h2,N,h3,h4⟩
 · rw [if_pos (.inl (by decide))]
   rcases k with ⟨_,rfl,rfl⟩ | ⟨k1,_⟩ | ⟨k1,_⟩
   · exact ⟨rfl,rfl⟩
   · rw [hf,h1] at k1;cases k1
   · rw [hf,h1] at k1;cases k1
 · rw [if_pos (.inl h2)]
   rcases k with ⟨k1,_⟩ | ⟨_,_,rfl,rfl⟩ | ⟨_,k2,_⟩
   · rw [hf,h1] at k1;cases k1
   · exact ⟨rfl,rfl⟩
   · exact absurd k2 h2
 · rcases k with ⟨k1,_⟩ | ⟨_,k2,_⟩ | ⟨_,_,M,k3,k4⟩
   · rw [hf,h1] at k1;cases k1
   · exact absurd h2 k2
   · have e:=PW h3 k3
     subst e
     have h5:(c,ys)=(0,Gu l q (AG l q.base (dr2 q)).1 N):=h4.trans (Vw _)
     have k5:(c',ys')=Gi n (Gu l q (AG l q.base (dr2 q)).1 N):=k4
     rw [Prod.mk.injEq] at h5
     obtain ⟨rfl,rfl⟩:=h5
     by_cases hn:n=0\/(Gu l q (AG l q.base (dr2 q)).1 N).length<=n
     · rw [if_pos (.inr hn)]
       rw [AbH hn,Prod.mk.injEq] at k5
       exact k5
     · rw [if_neg (fun h=>h.elim (fun h=>h rfl) hn)]
       rw [XC (fun h=>hn (.inl h)) (by omega),Prod.mk.injEq] at k5
       exact k5
theorem ZP {l:List En} {q:Rq} {c:Int} {ys:List En} (ho:BD l) (h1:BW l) (hf:CM q=true) (hd:q.deref=0) (hz:q.size=0) (h:Gv l q c ys):
  if (AG l q.base false).2.2≠0 then c=(AG l q.base false).2.2/\ys=[] else c=0/\ys=((EI (AV l (AG l q.base false).1 q.scope)).filter (FN q.filter)).map (DZ q.attrs q.tonly):=by
 have e2:dr2 q=false:=by unfold dr2;rw [hd];rfl
 have e1:dr1 q=false:=by unfold dr1;rw [hd];rfl
 rcases h with ⟨k1,_⟩ | ⟨_,k2,rfl,rfl⟩ | ⟨_,k2,N,k3,k4⟩
 · rw [hf] at k1;cases k1
 · rw [e2] at k2⊢
   rw [if_pos k2]
   exact ⟨rfl,rfl⟩
 · rw [e2] at k2 k3 k4
   rw [if_neg (fun h=>h k2)]
   unfold Gu at k4
   rw [e1] at k3 k4
   have e:=PW k3 (Ae0 l _)
   subst e
   rw [RH,hz,Vw,Prod.mk.injEq] at k4
   obtain ⟨rfl,rfl⟩:=k4
   refine ⟨rfl,?_⟩
   have A0:∀e,e ∈ AV l (AG l q.base false).1 q.scope->e ∈ l:=fun e he=>by
    unfold AV at he
    split at he
    · exact Bc he
    · cases he
   rw [WJ (fun e he=>ho e (A0 e he)) (fun a ha b hb h=>h1 a (A0 a ha) b (A0 b hb) h)]
end SeS
end
section
open Go.RowKit
namespace EnS
def Ax {α:Type} (f:α->Nat):List α->Nat
 | []=>0
 | x :: r=>f x+Ax f r
theorem Iy {α:Type} (f:α->Nat):∀(l r:List α),Ax f (l++r)=Ax f l+Ax f r
 | [],r=>by show Ax f r=0+Ax f r;omega
 | x :: l,r=>by
  show f x+Ax f (l++r)=f x+Ax f l+Ax f r
  rw [Iy f l r];omega
theorem Kv {α:Type} {f:α->Nat} {l:List α} {k:Nat} (hk:k<l.length):Ax f (l.take (k+1))=Ax f (l.take k)+f l[k]:=by
 rw [List.take_succ_eq_append_getElem hk,Iy]
 rfl
theorem NT {α:Type} {f:α->Nat} (l:List α) (k:Nat):Ax f (l.take k)<=Ax f l:=by
 have h:=Iy f (l.take k) (l.drop k)
 rw [List.take_append_drop] at h
 omega
theorem IX {α:Type} {f:α->Nat} {x:α}:∀{l:List α},x ∈ l->f x<=Ax f l
 | [],h=>by cases h
 | y :: l,h=>by
  show f x<=f y+Ax f l
  rcases List.mem_cons.1 h with rfl | h
  · omega
  · have:=IX (f:=f) h;omega
theorem LD {α:Type} {f:α->Nat} (h:∀x,1<=f x):∀l:List α,l.length<=Ax f l
 | []=>Nat.le_refl _
 | x :: l=>by
  have:=LD h l
  have:=h x
  show l.length+1<=f x+Ax f l
  omega
theorem QQ {α:Type} (f:α->Nat):∀l:List α,Ax (fun x=>1+f x) l=l.length+Ax f l
 | []=>rfl
 | x :: l=>by
  show 1+f x+Ax (fun x=>1+f x) l=(l.length+1)+(f x+Ax f l)
  rw [QQ f l];omega
def cV (v:List UInt8):Nat:=v.length / 100
def cA (a:At):Nat:=1+a.vals.length+Ax cV a.vals
def cE (e:En):Nat:=1+e.name.length / 100+Ax cA e.attrs
end EnS
def Ae {α:Type} (k:Nat) (El:World->Nat->Nat->α->Prop) (ok:Nat->Prop) (w:World) (v:Value) (xs:List α):Prop:=
 ∃a c,v=.slice a xs.length c/\xs.length<=c/\(xs=[]\/∃g o,a=some ⟨g,o,none⟩/\g<w.heap.size/\ok g/\∀(j:Nat) (x:α),xs[j]?=some x->El w g (o+j*k) x)
theorem Ae.imp {α:Type} {k:Nat} {El A0:World->Nat->Nat->α->Prop} {ok ok':Nat->Prop} {w w':World} {v:Value} {xs:List α} (h:Ae k El ok w v xs) (hs:w.heap.size<=w'.heap.size)
  (hk:∀g,g<w.heap.size->ok g->ok' g) (hE:∀g o x,g<w.heap.size->ok g->El w g o x->A0 w' g o x):Ae k A0 ok' w' v xs:=by
 obtain ⟨a,c,e,hc,h⟩:=h
 refine ⟨a,c,e,hc,?_⟩
 rcases h with h | ⟨g,o,ha,hg,A1,h⟩
 · exact .inl h
 · exact .inr ⟨g,o,ha,Nat.lt_of_lt_of_le hg hs,hk g hg A1,fun j x hj=>hE g _ x hg A1 (h j x hj)⟩
theorem Ae.at {α:Type} {k:Nat} {El:World->Nat->Nat->α->Prop} {ok:Nat->Prop} {w:World} {v:Value} {xs:List α} (h:Ae k El ok w v xs):
  ∃a c,v=.slice a xs.length c/\xs.length<=c/\∀j (hj:j<xs.length),∃g o,a=some ⟨g,o,none⟩/\g<w.heap.size/\ok g/\El w g (o+j*k) xs[j]:=by
 obtain ⟨a,c,e,hc,h⟩:=h
 refine ⟨a,c,e,hc,fun j hj=>?_⟩
 rcases h with rfl | ⟨g,o,ha,hg,A0,h⟩
 · simp at hj
 · exact ⟨g,o,ha,hg,A0,h j _ (List.getElem?_eq_getElem hj)⟩
theorem Ae.form {α:Type} {k:Nat} {El:World->Nat->Nat->α->Prop} {ok:Nat->Prop} {w:World} {v:Value} {xs:List α} (h:Ae k El ok w v xs):∃a c,v=.slice a xs.length c/\xs.length<=c:=by
 obtain ⟨a,c,e,hc,_⟩:=h
 exact ⟨a,c,e,hc⟩
theorem Ae.nil {α:Type} {k:Nat} {El:World->Nat->Nat->α->Prop} {ok:Nat->Prop} {w:World} (a:Option Addr) (c:Nat):Ae (α:=α) k El ok w (.slice a 0 c) []:=⟨a,c,rfl,Nat.zero_le _,.inl rfl⟩
theorem Ae.take {α:Type} {k:Nat} {El:World->Nat->Nat->α->Prop} {ok:Nat->Prop} {w:World} {a:Option Addr} {n c:Nat} {xs:List α} (h:Ae k El ok w (.slice a n c) xs) {m:Nat} (hm:m<=n):Ae k El ok w (.slice a m c) (xs.take m):=by
 obtain ⟨a',c',e,hc,A0⟩:=h
 cases e
 have hl:(xs.take m).length=m:=by rw [List.length_take];omega
 refine ⟨a,c,by rw [hl],by rw [hl];omega,?_⟩
 rcases A0 with rfl | ⟨g,o,rfl,hg,A1,hcell⟩
 · exact .inl (by simp)
 · refine .inr ⟨g,o,rfl,hg,A1,fun j y hj=>?_⟩
   rw [List.getElem?_take] at hj
   split at hj
   · exact hcell j y hj
   · cases hj
def SK (w:World) (g o:Nat) (y:List UInt8):Prop:=w.cell? ⟨g,o,none⟩=some (Ac y)
def Ap (ok:Nat->Prop) (w:World) (v:Value) (xs:List (List UInt8)):Prop:=Ae 1 SK ok w v xs
theorem Ap.strs {ok:Nat->Prop} {w:World} {v:Value} {xs:List (List UInt8)} (h:Ap ok w v xs):Ai w v xs:=by
 obtain ⟨a,c,e,hc,h⟩:=h
 refine ⟨a,c,e,hc,?_⟩
 rcases h with h | ⟨g,o,ha,hg,A0,h⟩
 · exact .inl h
 · exact .inr ⟨g,o,ha,hg,fun j y hj=>by have:=h j y hj;rwa [Nat.mul_one] at this⟩
theorem Ai.strsP {w:World} {v:Value} {xs:List (List UInt8)} (h:Ai w v xs) (ok:Nat->Prop) (A0:∀g,v.ownBlock=some g->ok g):Ap ok w v xs:=by
 obtain ⟨a,c,rfl,hc,h⟩:=h
 refine ⟨a,c,rfl,hc,?_⟩
 rcases h with h | ⟨g,o,rfl,hg,h⟩
 · exact .inl h
 · exact .inr ⟨g,o,rfl,hg,A0 g rfl,fun j y hj=>by rw [Nat.mul_one];exact h j y hj⟩
theorem Ap.keep {ok ok':Nat->Prop} {w w':World} {v:Value} {xs:List (List UInt8)} (h:Ap ok w v xs) (hs:w.heap.size<=w'.heap.size)
  (hb:∀g,g<w.heap.size->ok g->w'.heap[g]?=w.heap[g]?) (hk:∀g,g<w.heap.size->ok g->ok' g):Ap ok' w' v xs:=
 h.imp hs hk fun g o _ hg A0 hx=>(World.cell?_of_block (a:=⟨g,o,none⟩) (hb g hg A0)).trans hx
def Bl (ok:Nat->Prop) (w:World) (g o:Nat) (x:EnS.At):Prop:=w.cell? ⟨g,o,none⟩=some (Ac x.typ)/\∃u,w.cell? ⟨g,o+1,none⟩=some u/\Ap ok w u x.vals
theorem Bl.keep {ok ok':Nat->Prop} {w w':World} {g o:Nat} {x:EnS.At} (h:Bl ok w g o x) (hg:g<w.heap.size) (A0:ok g) (hs:w.heap.size<=w'.heap.size)
  (hb:∀g,g<w.heap.size->ok g->w'.heap[g]?=w.heap[g]?) (hk:∀g,g<w.heap.size->ok g->ok' g):Bl ok' w' g o x:=by
 obtain ⟨h1,u,h2,h3⟩:=h
 exact ⟨(World.cell?_of_block (a:=⟨g,o,none⟩) (hb g hg A0)).trans h1,u,(World.cell?_of_block (a:=⟨g,o+1,none⟩) (hb g hg A0)).trans h2,h3.keep hs hb hk⟩
def Ao (ok:Nat->Prop) (w:World) (v:Value) (xs:List EnS.At):Prop:=Ae 2 (Bl ok) ok w v xs
theorem Ao.keep {ok ok':Nat->Prop} {w w':World} {v:Value} {xs:List EnS.At} (h:Ao ok w v xs) (hs:w.heap.size<=w'.heap.size)
  (hb:∀g,g<w.heap.size->ok g->w'.heap[g]?=w.heap[g]?) (hk:∀g,g<w.heap.size->ok g->ok' g):Ao ok' w' v xs:=
 Ae.imp h hs hk fun _ _ _ hg A0 hx=>hx.keep hg A0 hs hb hk
def Db (ok:Nat->Prop) (w:World) (g o:Nat) (x:EnS.En):Prop:=w.cell? ⟨g,o,none⟩=some (Ac x.name)/\∃u,w.cell? ⟨g,o+1,none⟩=some u/\Ao ok w u x.attrs
theorem Db.keep {ok ok':Nat->Prop} {w w':World} {g o:Nat} {x:EnS.En} (h:Db ok w g o x) (hg:g<w.heap.size) (A0:ok g) (hs:w.heap.size<=w'.heap.size)
  (hb:∀g,g<w.heap.size->ok g->w'.heap[g]?=w.heap[g]?) (hk:∀g,g<w.heap.size->ok g->ok' g):Db ok' w' g o x:=by
 obtain ⟨h1,u,h2,h3⟩:=h
 exact ⟨(World.cell?_of_block (a:=⟨g,o,none⟩) (hb g hg A0)).trans h1,u,(World.cell?_of_block (a:=⟨g,o+1,none⟩) (hb g hg A0)).trans h2,h3.keep hs hb hk⟩
def Ce (ok:Nat->Prop) (w:World) (v:Value) (xs:List EnS.En):Prop:=Ae 2 (Db ok) ok w v xs
theorem Ce.keep {ok ok':Nat->Prop} {w w':World} {v:Value} {xs:List EnS.En} (h:Ce ok w v xs) (hs:w.heap.size<=w'.heap.size)
  (hb:∀g,g<w.heap.size->ok g->w'.heap[g]?=w.heap[g]?) (hk:∀g,g<w.heap.size->ok g->ok' g):Ce ok' w' v xs:=
 Ae.imp h hs hk fun _ _ _ hg A0 hx=>hx.keep hg A0 hs hb hk
theorem Ap.call {ok:Nat->Prop} {w w':World} {v:Value} {xs:List (List UInt8)} (h:Ap ok w v xs) (hb:Below w.heap.size w w'):Ap ok w' v xs:=h.keep hb.size (fun g hg _=>hb.block g hg) (fun _ _ h=>h)
theorem Ao.call {ok:Nat->Prop} {w w':World} {v:Value} {xs:List EnS.At} (h:Ao ok w v xs) (hb:Below w.heap.size w w'):Ao ok w' v xs:=h.keep hb.size (fun g hg _=>hb.block g hg) (fun _ _ h=>h)
theorem Ce.call {ok:Nat->Prop} {w w':World} {v:Value} {xs:List EnS.En} (h:Ce ok w v xs) (hb:Below w.heap.size w w'):Ce ok w' v xs:=h.keep hb.size (fun g hg _=>hb.block g hg) (fun _ _ h=>h)
theorem Bl.call {ok:Nat->Prop} {w w':World} {g o:Nat} {x:EnS.At} (h:Bl ok w g o x) (hg:g<w.heap.size) (A0:ok g) (hb:Below w.heap.size w w'):Bl ok w' g o x:=h.keep hg A0 hb.size (fun g hg _=>hb.block g hg) (fun _ _ h=>h)
theorem Db.call {ok:Nat->Prop} {w w':World} {g o:Nat} {x:EnS.En} (h:Db ok w g o x) (hg:g<w.heap.size) (A0:ok g) (hb:Below w.heap.size w w'):Db ok w' g o x:=h.keep hg A0 hb.size (fun g hg _=>hb.block g hg) (fun _ _ h=>h)
theorem Ap.any {ok:Nat->Prop} {w:World} {v:Value} {xs:List (List UInt8)} (h:Ap ok w v xs):Ap (fun _=>True) w v xs:=h.keep (Nat.le_refl _) (fun _ _ _=>rfl) (fun _ _ _=>trivial)
theorem Ao.any {ok:Nat->Prop} {w:World} {v:Value} {xs:List EnS.At} (h:Ao ok w v xs):Ao (fun _=>True) w v xs:=h.keep (Nat.le_refl _) (fun _ _ _=>rfl) (fun _ _ _=>trivial)
theorem Ce.any {ok:Nat->Prop} {w:World} {v:Value} {xs:List EnS.En} (h:Ce ok w v xs):Ce (fun _=>True) w v xs:=h.keep (Nat.le_refl _) (fun _ _ _=>rfl) (fun _ _ _=>trivial)
abbrev BK:World->Value->List EnS.At->Prop:=Ao (fun _=>True)
abbrev Bq:World->Value->List EnS.En->Prop:=Ce (fun _=>True)
theorem Db.parts {w:World} {g o:Nat} {x:EnS.En} (h:Db (fun _=>True) w g o x):w.cell? ⟨g,o,none⟩=some (.string ⟨x.name.toArray⟩)/\∃a c,w.cell? ⟨g,o+1,none⟩=some (.slice a x.attrs.length c)/\x.attrs.length<=c/\BK w (.slice a x.attrs.length c) x.attrs:=by
 obtain ⟨h1,u,h2,h3⟩:=h
 obtain ⟨a,c,rfl,hc⟩:=Ae.form h3
 exact ⟨h1,a,c,h2,hc,h3⟩
theorem Bl.parts {w:World} {g o:Nat} {x:EnS.At} (h:Bl (fun _=>True) w g o x):w.cell? ⟨g,o,none⟩=some (.string ⟨x.typ.toArray⟩)/\∃a c,w.cell? ⟨g,o+1,none⟩=some (.slice a x.vals.length c)/\x.vals.length<=c/\Ap (fun _=>True) w (.slice a x.vals.length c) x.vals:=by
 obtain ⟨h1,u,h2,h3⟩:=h
 obtain ⟨a,c,rfl,hc⟩:=Ae.form h3
 exact ⟨h1,a,c,h2,hc,h3⟩
end
end Go.Proofs.YtgngjfjaelgaeaaGreatDoor
