/- The walks of 'Near', the program's and the document's, and of the law of near values. Conditions: as stated. -/
import Derived.Test.YtgngjfjaelgaeaaGreatDoorJPhs
import Derived.Test.YtgngjfjaelgaeaaGreatDoorJSeS
set_option maxRecDepth 100000
set_option maxHeartbeats 1000000
namespace Go.Proofs.YtgngjfjaelgaeaaGreatDoor
open Go.Proofs.Tryz
section
open Go.RowKit
attribute [local go_sem ↓] Go.wp_at_zero Go.wp_at_succ
theorem GX {nm a x:List UInt8} (h:RuS.normal nm a=(x,0)) (h4:(RuS.typeOf nm).2=4):∃p q,PhS.parseP x=some (p,q):=by
 obtain ⟨_,_,_,b⟩:=RuS.normal_ok h;rw [h4] at b;have e:=RuS.normV_same (by decide) b;subst e;have b:(if (PhS.parseP x).isSome then some x else none)=some x:=b;cases hp:PhS.parseP x with
 | none=>rw [hp] at b;cases b
 | some p=>exact ⟨p.1,p.2,rfl⟩
theorem PE {nm a x:List UInt8} (h:RuS.normal nm a=(x,0)) (h3:(RuS.typeOf nm).2=3):∃n,RuS.intS x=some n:=by
 obtain ⟨_,_,_,b⟩:=RuS.normal_ok h;rw [h3] at b;have e:=RuS.normV_same (by decide) b;subst e;have b:(if (RuS.intS x).isSome then some x else none)=some x:=b;cases hp:RuS.intS x with
 | none=>rw [hp] at b;cases b
 | some p=>exact ⟨p,rfl⟩
def normP (l:List UInt8):Int:=match PhS.parseP l with
 | some (a,b)=>a*a+b*b
 | none=>-1
def Nr (a:Int) (x y:List UInt8):Bool:=if a=1 then RuS.bareL x==RuS.bareL y else if a=4 then decide (normP x=normP y) else x==y
def KH (nm a b:List UInt8):Bool:=decide (DF nm a b=0)&&Nr (RuS.typeOf nm).2 (RuS.normal nm a).1 (RuS.normal nm b).1
def ED (nm a b:List UInt8) (w:World) (e:Ending) (w':World):Prop:=e=.returned (.tuple #[.bool (KH nm a b),.int .i64 (DF nm a b)])/\Below w.heap.size w w'
theorem ED.mk' {nm a b:List UInt8} {w w':World} {q:Bool} {n:Int} (h:DF nm a b=n) (c:KH nm a b=q) (hb:Below w.heap.size w w'):ED nm a b w (.returned (.tuple #[.bool q,.int .i64 n])) w':=by unfold ED;rw [h,c];exact ⟨rfl,hb⟩
theorem LU (x:List UInt8) (hx:x.length<=1000000) (w:World) (hE:Env w):
  Calls prog 212 #[.string ⟨x.toArray⟩,.string ⟨#[32]⟩,.string ⟨#[]⟩] w fun e w'=>e=.returned (.string ⟨(RuS.bareL x).toArray⟩)/\Below w.heap.size w w':=by
 obtain ⟨m,b⟩:=hE.maxLen;have a:(⟨x.toArray⟩:ByteArray).size=x.length:=rfl;refine (strings_ReplaceAll ⟨x.toArray⟩ ⟨#[32]⟩ ⟨#[]⟩ m w (by rw [a];omega) b (aA 1) (by rw [a];show x.length+_*0<=_;omega)).mono ?_;rintro e w' ⟨rfl,hb⟩;refine ⟨?_,hb⟩;show Ending.returned (.string ⟨(Lib.replaceAll x [32] []).toArray⟩)=_
 rw [RuS.replaceAll_bare]
theorem PG {nm a b x y:List UInt8} (h:DF nm a b=0) (hx:x=(RuS.normal nm a).1) (c:y=(RuS.normal nm b).1):RuS.normal nm a=(x,0)/\RuS.normal nm b=(y,0):=by obtain ⟨h1,h2⟩:=(Abp nm a b).1 h;subst hx c;exact ⟨by rw [<-h1],by rw [<-h2]⟩
theorem Af8 (nm a b:ByteArray) (G:nm.size<=9223372036854775807) (J:a.size<=9223372036854775807) (hb:b.size<=9223372036854775807) (w:World) (hE:Env w):
  Calls prog 189 #[.string nm,.string a,.string b] w (ED nm.data.toList a.data.toList b.data.toList w):=by
 have h1:=Abo nm a b G J hb w hE;have g:=fun w=>Gq nm G w;unfold Ar at g;unfold Hu at h1;have o:Hid (KH nm.data.toList a.data.toList b.data.toList=(decide (DF nm.data.toList a.data.toList b.data.toList=0)&&Nr (RuS.typeOf nm.data.toList).2 (RuS.normal nm.data.toList a.data.toList).1 (RuS.normal nm.data.toList b.data.toList).1)):=hZ9 rfl;generalize q:DF nm.data.toList a.data.toList b.data.toList=er at*;have h:=hZ9 q;clear q;by_cases z1:er=0
 · subst z1;go_enter func189,ntmps189;go_wp2_with fail;refine h1.mono ?_;rintro e w1 ⟨x,y,rfl,l,d⟩;obtain ⟨hx,z⟩:=l (by trivial);clear l;obtain ⟨B,H⟩:=PG h.out hx z;have p:=(RuS.normal_ok B).1;have R:x.length<=200:=by rw [hx];exact RuS.normal_len _ _
   have Q:y.length<=200:=by rw [z];exact RuS.normal_len _ _
   have i:=GX B;have f:=GX H;rw [<-hx,<-z] at o;clear hx z B H;generalize RuS.typeOf nm.data.toList=r at*;obtain ⟨t,P⟩:=r;simp only at g p i f o;rcases p with rfl | rfl | rfl | rfl
   · clear i f;have j:=hE.below d;have L:=LU x (by omega);have r2:=LU y (by omega);have n:Hid (Nr 1 x y=(RuS.bareL x==RuS.bareL y)):=hZ9 rfl;generalize RuS.bareL x=bx at*;generalize RuS.bareL y=by_ at*;go_wp2_with fail;refine (g _).mono ?_;rintro e w2 ⟨rfl,c⟩;go_wp2_with fail;refine (L _ (j.below c)).mono ?_;rintro e w3 ⟨rfl,k⟩;go_wp2_with fail;refine (r2 _ ((j.below c).below k)).mono ?_;rintro e w4 ⟨rfl,m⟩;go_wp2_with fail;go_ret2;exact ED.mk' h.out (by rw [o.out,n.out];simp) (Aa d (Aa c (Aa k m)))
   · clear i f;have n:Hid (Nr 2 x y=(x==y)):=hZ9 rfl;go_wp2_with fail;refine (g _).mono ?_;rintro e w2 ⟨rfl,c⟩;go_wp2_with fail;go_ret2;exact ED.mk' h.out (by rw [o.out,n.out];simp) (Aa d c)
   · clear i f;have n:Hid (Nr 3 x y=(x==y)):=hZ9 rfl;go_wp2_with fail;refine (g _).mono ?_;rintro e w2 ⟨rfl,c⟩;go_wp2_with fail;go_ret2;exact ED.mk' h.out (by rw [o.out,n.out];simp) (Aa d c)
   · obtain ⟨pa,pb,A⟩:=i rfl;obtain ⟨s,u,v⟩:=f rfl;clear i f;have j:=hE.below d;have p1:=fun w hE=>Kt ⟨x.toArray⟩ (by show x.length+2<=_;omega) w hE;have p2:=fun w hE=>Kt ⟨y.toArray⟩ (by show y.length+2<=_;omega) w hE;unfold Qa at p1 p2;have I:(⟨x.toArray⟩:ByteArray).data.toList=x:=rfl;have F:(⟨y.toArray⟩:ByteArray).data.toList=y:=rfl;rw [I,A] at p1;rw [F,v] at p2;simp only at p1 p2;have n:Hid (Nr 4 x y=decide (pa*pa+pb*pb=s*s+u*u)):=hZ9 (by
      show decide (normP x=normP y)=_
      unfold normP;rw [A,v])
     have M:=Qb pa pb (PhS.parseP_some.1 A).1;have K:=Qb s u (PhS.parseP_some.1 v).1;clear A v I F;generalize pa*pa+pb*pb=m1 at*;generalize s*s+u*u=m2 at*;go_wp2_with fail;refine (g _).mono ?_;rintro e w2 ⟨rfl,c⟩;go_wp2_with fail;refine (p1 _ (j.below c)).mono ?_;rintro e w3 ⟨rfl,k⟩;go_wp2_with fail;refine (p2 _ ((j.below c).below k)).mono ?_;rintro e w4 ⟨rfl,m⟩;go_wp2_with fail;refine (M _).mono ?_;rintro e w5 ⟨rfl,C⟩;go_wp2_with fail;refine (K _).mono ?_;rintro e w6 ⟨rfl,E⟩;go_wp2_with fail;go_ret2;refine ED.mk' h.out ?_ (Aa d (Aa c (Aa k (Aa m (Aa C E)))));rw [o.out,n.out]
     first | rfl | (simp;done) | (rw [bS];simp)
 · have O:(er !=0)=true:=by simpa using z1
   have N:=hZ9 z1;clear z1;go_enter func189,ntmps189;go_wp2_with fail;refine h1.mono ?_;rintro e w1 ⟨x,y,rfl,l,d⟩;clear l;go_wp2_with fail;go_ret2;exact ED.mk' h.out (by rw [o.out,aC N.out];rfl) d
end
section
open Go.RowKit
def QD (e:Int) (x y:List UInt8):Int:=if e=3 then Fj ((RuS.intS x).getD 0) ((RuS.intS y).getD 0)
 else if e=4 then (match PhS.parseP x,PhS.parseP y with
  | some (a,b),some (c,d)=>QU a b c d
  | _,_=>0)
 else Lib.compareBytes x y
def JQ (nm a b:List UInt8):Int:=if DF nm a b=0 then QD (RuS.typeOf nm).2 (RuS.normal nm a).1 (RuS.normal nm b).1 else 0
def Ff (nm a b:List UInt8) (w:World) (e:Ending) (w':World):Prop:=e=.returned (.tuple #[.int .i64 (JQ nm a b),.int .i64 (DF nm a b)])/\Below w.heap.size w w'
theorem Ff.mk' {nm a b:List UInt8} {w w':World} {q n:Int} (h:DF nm a b=n) (c:JQ nm a b=q) (hb:Below w.heap.size w w'):Ff nm a b w (.returned (.tuple #[.int .i64 q,.int .i64 n])) w':=by unfold Ff;rw [h,c];exact ⟨rfl,hb⟩
theorem LV {x:List UInt8} {n:Int} (h:RuS.intS x=some n) (hx:x.length<=1000000) (w:World):
  Calls prog 183 #[.string ⟨x.toArray⟩,.int .i64 10,.int .i64 64] w fun e w'=>e=.returned (.tuple #[.int .i64 n,.nilIface])/\Below w.heap.size w w':=by
 obtain ⟨h1,h2⟩:=RuS.intS_iff.1 h;refine LO ⟨x.toArray⟩ (by show x.length<=_;omega) n ?_ w;show Lib.parseIntB 64 x=.ok n
 rw [<-h1];exact RuS.parse64_itoa n h2
theorem Tj (nm a b:ByteArray) (Q:nm.size<=9223372036854775807) (R:a.size<=9223372036854775807) (hb:b.size<=9223372036854775807) (w:World) (hE:Env w):
  Calls prog 190 #[.string nm,.string a,.string b] w (Ff nm.data.toList a.data.toList b.data.toList w):=by
 have h1:=Abo nm a b Q R hb w hE;have i:=fun w=>Gq nm Q w;unfold Ar at i;unfold Hu at h1;have C:Hid (JQ nm.data.toList a.data.toList b.data.toList=if DF nm.data.toList a.data.toList b.data.toList=0 then QD (RuS.typeOf nm.data.toList).2 (RuS.normal nm.data.toList a.data.toList).1 (RuS.normal nm.data.toList b.data.toList).1 else 0):=hZ9 rfl;generalize F:DF nm.data.toList a.data.toList b.data.toList=er at*;have j:=hZ9 F;clear F;by_cases z1:er=0
 · subst z1;go_enter func190,ntmps190;go_wp2_with fail;refine h1.mono ?_;rintro e w1 ⟨x,y,rfl,s,g⟩;obtain ⟨hx,J⟩:=s (by trivial);clear s;obtain ⟨I,O⟩:=PG j.out hx J;have E:=(RuS.normal_ok I).1;have Z:x.length<=200:=by rw [hx];exact RuS.normal_len _ _
   have Y:y.length<=200:=by rw [J];exact RuS.normal_len _ _
   have l:=GX I;have h:=GX O;have k:=PE I;have o:=PE O;rw [<-hx,<-J] at C;clear hx J I O;generalize RuS.typeOf nm.data.toList=r at*;obtain ⟨t,X⟩:=r;simp only at i E l h k o C;have G:=hE.below g;rcases E with rfl | rfl | rfl | rfl
   · clear l h k o;have sc:=fun w=>strings_Compare ⟨x.toArray⟩ ⟨y.toArray⟩ w;have v:(⟨x.toArray⟩:ByteArray).data.toList=x:=rfl;have u:(⟨y.toArray⟩:ByteArray).data.toList=y:=rfl;rw [v,u] at sc;clear v u;have B:Hid (QD 1 x y=Lib.compareBytes x y):=hZ9 rfl;generalize Lib.compareBytes x y=cb at*;go_wp2_with fail;refine (i _).mono ?_;rintro e w2 ⟨rfl,f⟩;go_wp2_with fail;refine (sc _).mono ?_;rintro e w3 ⟨rfl,rfl⟩;go_wp2_with fail;go_ret2;exact Ff.mk' j.out (by rw [C.out,aP (by trivial),B.out]) (Aa g f)
   · clear l h k o;have sc:=fun w=>strings_Compare ⟨x.toArray⟩ ⟨y.toArray⟩ w;have v:(⟨x.toArray⟩:ByteArray).data.toList=x:=rfl;have u:(⟨y.toArray⟩:ByteArray).data.toList=y:=rfl;rw [v,u] at sc;clear v u;have B:Hid (QD 2 x y=Lib.compareBytes x y):=hZ9 rfl;generalize Lib.compareBytes x y=cb at*;go_wp2_with fail;refine (i _).mono ?_;rintro e w2 ⟨rfl,f⟩;go_wp2_with fail;refine (sc _).mono ?_;rintro e w3 ⟨rfl,rfl⟩;go_wp2_with fail;go_ret2;exact Ff.mk' j.out (by rw [C.out,aP (by trivial),B.out]) (Aa g f)
   · obtain ⟨m,P⟩:=k rfl;obtain ⟨n,A⟩:=o rfl;clear l h k o;have T:=LV P (by omega);have i2:=LV A (by omega);have V:=Vl m n;have B:Hid (QD 3 x y=Fj m n):=hZ9 (by
      show Fj ((RuS.intS x).getD 0) ((RuS.intS y).getD 0)=_
      rw [P,A];rfl)
     clear P A;generalize Fj m n=q at*;go_wp2_with fail;refine (i _).mono ?_;rintro e w2 ⟨rfl,f⟩;go_wp2_with fail;refine (T _).mono ?_;rintro e w3 ⟨rfl,p⟩;go_wp2_with fail;refine (i2 _).mono ?_;rintro e w4 ⟨rfl,z⟩;go_wp2_with fail;refine (V _).mono ?_;rintro e w5 ⟨rfl,rfl⟩;go_wp2_with fail;go_ret2;exact Ff.mk' j.out (by rw [C.out,aP (by trivial),B.out]) (Aa g (Aa f (Aa p z)))
   · obtain ⟨pa,pb,K⟩:=l rfl;obtain ⟨L,N,H⟩:=h rfl;clear l h k o;have p1:=fun w hE=>Kt ⟨x.toArray⟩ (by show x.length+2<=_;omega) w hE;have p2:=fun w hE=>Kt ⟨y.toArray⟩ (by show y.length+2<=_;omega) w hE;unfold Qa at p1 p2;have v:(⟨x.toArray⟩:ByteArray).data.toList=x:=rfl;have u:(⟨y.toArray⟩:ByteArray).data.toList=y:=rfl;rw [v,K] at p1;rw [u,H] at p2;simp only at p1 p2;have B:Hid (QD 4 x y=QU pa pb L N):=hZ9 (by
      show (match PhS.parseP x,PhS.parseP y with | some (a,b),some (c,d)=>QU a b c d | _,_=>0)=_
      rw [K,H])
     have S:=Abr pa pb L N (PhS.parseP_some.1 K).1 (PhS.parseP_some.1 H).1;clear K H v u;generalize QU pa pb L N=q at*;go_wp2_with fail;refine (i _).mono ?_;rintro e w2 ⟨rfl,f⟩;go_wp2_with fail;refine (p1 _ (G.below f)).mono ?_;rintro e w3 ⟨rfl,p⟩;go_wp2_with fail;refine (p2 _ ((G.below f).below p)).mono ?_;rintro e w4 ⟨rfl,z⟩;go_wp2_with fail;refine (S _).mono ?_;rintro e w5 ⟨rfl,M⟩;go_wp2_with fail;go_ret2;exact Ff.mk' j.out (by rw [C.out,aP (by trivial),B.out]) (Aa g (Aa f (Aa p (Aa z M))))
 · have W:(er !=0)=true:=by simpa using z1
   have U:=hZ9 z1;clear z1;go_enter func190,ntmps190;go_wp2_with fail;refine h1.mono ?_;rintro e w1 ⟨x,y,rfl,s,g⟩;clear s;go_wp2_with fail;go_ret2;exact Ff.mk' j.out (by rw [C.out,aG U.out]) g
end
section
namespace FiS
open Go.Lib
def GY:List (List UInt8)->List UInt8->Bool
 | [],_=>true
 | p :: r,s=>if 0<=Lib.index s p then GY r (s.drop ((Lib.index s p).toNat+p.length)) else false
def KI (f l s:List UInt8):Option (List UInt8):=
 if Lib.hasPrefix s f=true then (if Lib.hasSuffix (s.drop f.length) l=true then some ((s.drop f.length).take ((s.drop f.length).length - l.length)) else none) else none
def CS (f l:List UInt8) (any:List (List UInt8)) (s:List UInt8):Bool:=match KI f l s with
 | some m=>GY any m
 | none=>false
def Au (a:Int) (p:List UInt8):List UInt8:=if a=1 then RuS.lower p else p
def Gj (k:Int) (a v f l:List UInt8) (s:List (List UInt8)) (x:List UInt8):Bool:=
 if (DnS.AG a x).2=0 then
  (if k=4 then CS (Au (RuS.typeOf a).2 f) (Au (RuS.typeOf a).2 l) (s.map (Au (RuS.typeOf a).2)) (DnS.AG a x).1
  else if k=3\/(RuS.typeOf a).2=5 then (DnS.AG a x).1==(DnS.AG a v).1
  else if k=8 then KH a x v
  else decide (k=5/\0<=JQ a x v\/k=6/\JQ a x v<=0))
 else false
def GZ (t:List UInt8):List EnS.At->List (List UInt8)
 | []=>[]
 | a :: r=>(if (RuS.typeOf a.typ).1=t then a.vals else [])++GZ t r
def PH (k:Int) (a v:List UInt8):Bool:=decide ((RuS.typeOf a).2=0)||(decide (k=4)&&decide (2<(RuS.typeOf a).2))||((decide (k=5)||decide (k=6))&&(decide ((RuS.typeOf a).2=2)||decide ((RuS.typeOf a).2=5)))||(decide (k≠4)&&decide (k≠7)&&decide ((DnS.AG a v).2≠0))
def FP (A:List EnS.At) (k:Int) (a v f l:List UInt8) (s:List (List UInt8)):Int:=
 if PH k a v=true then -1
 else if (GZ (RuS.typeOf a).1 A).any (fun x=>decide (k=7)||Gj k a v f l s x)=true then 1 else 0
def notE (x:Int):Int:=if x=-1 then -1 else if x=0 then 1 else 0
mutual
def AE (A:List EnS.At):Fi->Int
 | .mk k a v f l s ps=>if k=0\/k=1 then DG A k (1 - k) ps else if k=2 then notE (TX A ps) else FP A k a v f l s
def DG (A:List EnS.At) (k:Int) (acc:Int):List Fi->Int
 | []=>acc
 | p :: r=>if AE A p=k then k else DG A k (if AE A p=-1 then -1 else acc) r
def TX (A:List EnS.At):List Fi->Int
 | []=>0
 | p :: _=>AE A p
end
def Jn (A:List EnS.At) (x:Fi):Int:=if formedS x=true then AE A x else -1
theorem WP (A:List EnS.At) (k:Int) (a v f l:List UInt8) (s:List (List UInt8)):FP A k a v f l s=-1\/FP A k a v f l s=0\/FP A k a v f l s=1:=by
 unfold FP;split
 · exact .inl rfl
 · split
   · exact .inr (.inr rfl)
   · exact .inr (.inl rfl)
mutual
theorem Gk (A:List EnS.At):∀x:Fi,AE A x=-1\/AE A x=0\/AE A x=1
 | .mk k a v f l s ps=>by
  rw [AE];split
  · rename_i h;have:=NP A k (1 - k) (by omega) ps;rcases this with h2 | h2 | h2
    · exact .inl h2
    · rw [h2];omega
    · rw [h2];omega
  · split
    · unfold notE;split
      · exact .inl rfl
      · split
        · exact .inr (.inr rfl)
        · exact .inr (.inl rfl)
    · exact WP ..
theorem NP (A:List EnS.At) (k acc:Int) (a:acc=-1\/acc=1 - k):∀ps:List Fi,DG A k acc ps=-1\/DG A k acc ps=k\/DG A k acc ps=1 - k
 | []=>by rw [DG];omega
 | p :: r=>by
  rw [DG];split
  · exact .inr (.inl rfl)
  · exact NP A k _ (by split <;> omega) r
end
theorem PI (A:List EnS.At) (k:Int):∀(acc:Int) (ps:List Fi) (j:Nat) (a:j<ps.length),AE A (ps[j]'a)=k->DG A k acc ps=k
 | acc,[],j,a,_=>by simp at a
 | acc,p :: r,0,_,h=>by rw [DG,aP (show AE A p=k from h)]
 | acc,p :: r,j+1,a,h=>by
  rw [DG];split
  · rfl
  · exact PI A k _ r j (by simpa using a) h
def Gg (A:List EnS.At) (acc:Int):List Fi->Int
 | []=>acc
 | p :: r=>Gg A (if AE A p=-1 then -1 else acc) r
theorem Ru {A:List EnS.At}:∀{acc:Int} {ps:List Fi} {j:Nat} (a:j<ps.length),Gg A acc (ps.take (j+1))=if AE A (ps[j]'a)=-1 then -1 else Gg A acc (ps.take j)
 | acc,[],j,a=>by simp at a
 | acc,p :: r,0,_=>by
  show Gg A (if AE A p=-1 then -1 else acc) (r.take 0)=if AE A p=-1 then -1 else Gg A acc []
  simp [Gg]
 | acc,p :: r,j+1,a=>Ru (acc:=if AE A p=-1 then -1 else acc) (ps:=r) (j:=j) (by simpa using a)
theorem Rw {A:List EnS.At} {k:Int}:∀{acc:Int} {ps:List Fi},(∀j (a:j<ps.length),AE A (ps[j]'a)≠k)->DG A k acc ps=Gg A acc ps
 | acc,[],_=>by rw [DG];rfl
 | acc,p :: r,h=>by rw [DG,aG (show ¬AE A p=k from h 0 (by simp)),Gg];exact Rw (fun j a=>h (j+1) (by simpa using a))
end FiS
end
section
namespace SeS
open Go.Lib DnS EnS
open FiS (Fi)
def Gs (at_:List (List UInt8)) (a:At):Bool:=at_.isEmpty||at_.any (fun x=>x==[42]||((RuS.typeOf x).1 !=[]&&(RuS.typeOf x).1==a.typ))
def DC (at_:List (List UInt8)) (b:Bool) (e:En):En:=⟨e.name,(e.attrs.filter (Gs at_)).map (fun a=>if b=true then ⟨a.typ,[]⟩ else a)⟩
theorem AcQ (at_:List (List UInt8)) (a:Bool) (e:En):(DC at_ a e).name=e.name:=rfl
theorem Ae4 (e:En):DC [] false e=e:=by
 unfold DC;have h:∀l:List At,(l.filter (Gs [])).map (fun a=>if false=true then ⟨a.typ,[]⟩ else a)=l:=fun l=>by rw [gV.2 (fun a _=>(rfl:Gs [] a=true))];simp
 rw [h]
structure Rq where
 base:List UInt8
 scope:Int
 deref:Int
 filter:Fi
 attrs:List (List UInt8)
 tonly:Bool
 size:Int
def AW (q:Rq):Bool:=decide (0<=q.scope)&&decide (q.scope<=2)&&decide (0<=q.deref)&&decide (q.deref<=3)&&decide (0<=q.size)&&FiS.formedS q.filter
def dr1 (q:Rq):Bool:=decide (q.deref=1)||decide (q.deref=3)
def dr2 (q:Rq):Bool:=decide (q.deref=2)||decide (q.deref=3)
def Cc (x:Fi) (e:En):Bool:=decide (FiS.Jn e.attrs x=1)
def Im (l:List En) (q:Rq) (n:List UInt8) (N:Nat):List En:=(Bd ((stS l (dr1 q) [(n,q.scope)] N).2.filter (Cc q.filter))).map (DC q.attrs q.tonly)
def Ew (l:List En) (q:Rq) (c:Int) (ys:List En):Prop:=
 (AW q=false/\c=2/\ys=[])\/
 (AW q=true/\(AK l q.base (dr2 q)).2.2≠0/\c=(AK l q.base (dr2 q)).2.2/\ys=[])\/
 (AW q=true/\(AK l q.base (dr2 q)).2.2=0/\∃N,OV l (dr1 q) [((AK l q.base (dr2 q)).1,q.scope)] N/\(c,ys)=GF q.size (Im l q (AK l q.base (dr2 q)).1 N))
theorem Aa2 {l:List En} {q:Rq} {c:Int} {ys:List En} (p:Bt l) (h1:BD l) (r:AW q=true) (hd:q.deref=0) (n:q.size=0) (h:Ew l q c ys):
  if (AK l q.base false).2.2≠0 then c=(AK l q.base false).2.2/\ys=[] else c=0/\ys=((Bd (Bf l (AK l q.base false).1 q.scope)).filter (Cc q.filter)).map (DC q.attrs q.tonly):=by
 have k:dr2 q=false:=by unfold dr2;rw [hd];rfl
 have m:dr1 q=false:=by unfold dr1;rw [hd];rfl
 rcases h with ⟨k1,_⟩ | ⟨_,g,rfl,rfl⟩ | ⟨_,g,N,j,i⟩
 · rw [r] at k1;cases k1
 · rw [k] at g⊢;rw [aP g];exact ⟨rfl,rfl⟩
 · rw [k] at g j i;rw [aG (fun h=>h g)];unfold Im at i;rw [m] at j i;have e:=Lp j (Afm l _);subst e;rw [SK,n,Wq,bR] at i;obtain ⟨rfl,rfl⟩:=i;refine ⟨rfl,?_⟩;have d:∀e,e ∈ Bf l (AK l q.base false).1 q.scope->e ∈ l:=fun e f=>by
    unfold Bf at f;split at f
    · exact AP f
    · cases f
   rw [Xx (fun e f=>p e (d e f)) (fun a o b hb h=>h1 a (d a o) b (d b hb) h)]
theorem run_parts {l:List En} {q:Rq} {f g o:Fi} {c1 c2 c3:Int} {y1 y2 y3:List En} (E:Bt l) (h1:BD l) (p:q.attrs=[]) (z:q.tonly=false) (v:q.size=0)
  (A:AW { q with filter:=f }=true) (s:AW { q with filter:=g }=true) (m:AW { q with filter:=o }=true)
  (C:∀e,Cc o e=(Cc f e||Cc g e)) (hx:∀e,(Cc f e&&Cc g e)=false)
  (k1:Ew l { q with filter:=f } c1 y1) (u:Ew l { q with filter:=g } c2 y2) (t:Ew l { q with filter:=o } c3 y3):
  c1=c2/\c2=c3/\y1.length+y2.length=y3.length/\Bd (y1++y2)=y3:=by
 rcases k1 with ⟨k,_⟩ | ⟨_,c,rfl,rfl⟩ | ⟨_,c,N,m1,y⟩
 · rw [A] at k;cases k
 · rcases u with ⟨k,_⟩ | ⟨_,n,rfl,rfl⟩ | ⟨_,n,_⟩
   · rw [s] at k;cases k
   · rcases t with ⟨k,_⟩ | ⟨_,b3,rfl,rfl⟩ | ⟨_,b3,_⟩
     · rw [m] at k;cases k
     · exact ⟨rfl,rfl,rfl,rfl⟩
     · exact absurd b3 c
   · exact absurd n c
 · rcases u with ⟨k,_⟩ | ⟨_,n,_⟩ | ⟨_,_,I,m2,F⟩
   · rw [s] at k;cases k
   · exact absurd c n
   · rcases t with ⟨k,_⟩ | ⟨_,b3,_⟩ | ⟨_,_,H,m3,n3⟩
     · rw [m] at k;cases k
     · exact absurd c b3
     · have G:=Lp m1 m2;have B:=Lp m1 m3;subst G;subst B;have w:∀x:Fi,GF q.size (Im l { q with filter:=x } (AK l q.base (dr2 q)).1 N)=(0,Bd ((stS l (dr1 q) [((AK l q.base (dr2 q)).1,q.scope)] N).2.filter (Cc x))):=fun x=>by
        rw [v,Wq];unfold Im;simp only [p,z];rw [show DC [] false=id from funext Ae4,eJ];rfl
       have d:=y.trans (w f);have j:=F.trans (w g);have i:=n3.trans (w o);rw [bR] at d j i;obtain ⟨rfl,rfl⟩:=d;obtain ⟨rfl,rfl⟩:=j;obtain ⟨rfl,rfl⟩:=i;have r:∀e ∈ (stS l (dr1 q) [((AK l q.base (dr2 q)).1,q.scope)] N).2,e ∈ l:=Nl N;obtain ⟨p1,p2⟩:=Acx (xs:=(stS l (dr1 q) [((AK l q.base (dr2 q)).1,q.scope)] N).2) (fun e he=>E e (r e he)) (fun a p b hb h=>h1 a (r a p) b (r b hb) h) C hx;exact ⟨rfl,rfl,p1,p2⟩
theorem Aa3 {x:Fi} {e:En} (a:FiS.formedS x=true) (b:FiS.formedS (.mk 2 [] [] [] [] [] [x])=true):(Cc x e&&Cc (.mk 2 [] [] [] [] [] [x]) e)=false:=by
 unfold Cc FiS.Jn;rw [aP a,aP b];have h2:FiS.AE e.attrs (.mk 2 [] [] [] [] [] [x])=FiS.notE (FiS.AE e.attrs x):=by rw [FiS.AE,aG (by decide),aP rfl,FiS.TX]
 rw [h2];rcases FiS.Gk e.attrs x with h | h | h <;> rw [h] <;> rfl
theorem or_holds {x:Fi} {e:En} (a:FiS.formedS x=true) (c:FiS.formedS (.mk 2 [] [] [] [] [] [x])=true) (b:FiS.formedS (.mk 1 [] [] [] [] [] [x,.mk 2 [] [] [] [] [] [x]])=true):
  Cc (.mk 1 [] [] [] [] [] [x,.mk 2 [] [] [] [] [] [x]]) e=(Cc x e||Cc (.mk 2 [] [] [] [] [] [x]) e):=by
 unfold Cc FiS.Jn;rw [aP a,aP c,aP b];have h2:FiS.AE e.attrs (.mk 2 [] [] [] [] [] [x])=FiS.notE (FiS.AE e.attrs x):=by rw [FiS.AE,aG (by decide),aP rfl,FiS.TX]
 have h3:FiS.AE e.attrs (.mk 1 [] [] [] [] [] [x,.mk 2 [] [] [] [] [] [x]])=if FiS.AE e.attrs x=1 then 1 else if FiS.notE (FiS.AE e.attrs x)=1 then 1 else if FiS.notE (FiS.AE e.attrs x)=-1 then -1 else if FiS.AE e.attrs x=-1 then -1 else 1 - 1:=by rw [FiS.AE,aP (.inr rfl),FiS.DG,FiS.DG,FiS.DG,h2]
 rw [h2,h3];rcases FiS.Gk e.attrs x with h | h | h <;> rw [h] <;> rfl
end SeS
end
section
open Go.RowKit
namespace EnS
def AC {α:Type} (f:α->Nat):List α->Nat
 | []=>0
 | x :: r=>f x+AC f r
theorem IX {α:Type} (f:α->Nat):∀(l r:List α),AC f (l++r)=AC f l+AC f r
 | [],r=>by show AC f r=0+AC f r;omega
 | x :: l,r=>by
  show f x+AC f (l++r)=f x+AC f l+AC f r
  rw [IX f l r];omega
theorem KJ {α:Type} {f:α->Nat} {l:List α} {k:Nat} (hk:k<l.length):AC f (l.take (k+1))=AC f (l.take k)+f l[k]:=by rw [aX hk,IX];rfl
theorem OA {α:Type} {f:α->Nat} (l:List α) (k:Nat):AC f (l.take k)<=AC f l:=by have h:=IX f (l.take k) (l.drop k);rw [dB] at h;omega
theorem Jo {α:Type} {f:α->Nat} {x:α}:∀{l:List α},x ∈ l->f x<=AC f l
 | [],h=>by cases h
 | y :: l,h=>by
  show f x<=f y+AC f l
  rcases ay.1 h with rfl | h
  · omega
  · have:=Jo (f:=f) h;omega
theorem LW {α:Type} {f:α->Nat} (h:∀x,1<=f x):∀l:List α,l.length<=AC f l
 | []=>aA _
 | x :: l=>by
  have:=LW h l;have:=h x;show l.length+1<=f x+AC f l
  omega
theorem Rx {α:Type} (f:α->Nat):∀l:List α,AC (fun x=>1+f x) l=l.length+AC f l
 | []=>rfl
 | x :: l=>by
  show 1+f x+AC (fun x=>1+f x) l=(l.length+1)+(f x+AC f l)
  rw [Rx f l];omega
def cV (v:List UInt8):Nat:=v.length / 100
def cA (a:At):Nat:=1+a.vals.length+AC cV a.vals
def cE (e:En):Nat:=1+e.name.length / 100+AC cA e.attrs
end EnS
def Ad {α:Type} (k:Nat) (El:World->Nat->Nat->α->Prop) (ok:Nat->Prop) (w:World) (v:Value) (xs:List α):Prop:=
 ∃a c,v=.slice a xs.length c/\xs.length<=c/\(xs=[]\/∃g o,a=some ⟨g,o,none⟩/\g<w.heap.size/\ok g/\∀(j:Nat) (x:α),xs[j]?=some x->El w g (o+j*k) x)
theorem Ad.imp {α:Type} {k:Nat} {El d:World->Nat->Nat->α->Prop} {ok ok':Nat->Prop} {w w':World} {v:Value} {xs:List α} (h:Ad k El ok w v xs) (m:w.heap.size<=w'.heap.size)
  (hk:∀g,g<w.heap.size->ok g->ok' g) (hE:∀g o x,g<w.heap.size->ok g->El w g o x->d w' g o x):Ad k d ok' w' v xs:=by
 obtain ⟨a,c,e,hc,h⟩:=h;refine ⟨a,c,e,hc,?_⟩;rcases h with h | ⟨g,o,i,f,b,h⟩
 · exact .inl h
 · exact .inr ⟨g,o,i,ae f m,hk g f b,fun j x l=>hE g _ x f b (h j x l)⟩
theorem Ad.at {α:Type} {k:Nat} {El:World->Nat->Nat->α->Prop} {ok:Nat->Prop} {w:World} {v:Value} {xs:List α} (h:Ad k El ok w v xs):
  ∃a c,v=.slice a xs.length c/\xs.length<=c/\∀j (b:j<xs.length),∃g o,a=some ⟨g,o,none⟩/\g<w.heap.size/\ok g/\El w g (o+j*k) xs[j]:=by
 obtain ⟨a,c,e,hc,h⟩:=h;refine ⟨a,c,e,hc,fun j b=>?_⟩;rcases h with rfl | ⟨g,o,f,i,d,h⟩
 · simp at b
 · exact ⟨g,o,f,i,d,h j _ (aJ b)⟩
theorem Ad.form {α:Type} {k:Nat} {El:World->Nat->Nat->α->Prop} {ok:Nat->Prop} {w:World} {v:Value} {xs:List α} (h:Ad k El ok w v xs):∃a c,v=.slice a xs.length c/\xs.length<=c:=by obtain ⟨a,c,e,hc,_⟩:=h;exact ⟨a,c,e,hc⟩
theorem Ad.nil {α:Type} {k:Nat} {El:World->Nat->Nat->α->Prop} {ok:Nat->Prop} {w:World} (a:Option Addr) (c:Nat):Ad (α:=α) k El ok w (.slice a 0 c) []:=⟨a,c,rfl,aR _,.inl rfl⟩
theorem Ad.take {α:Type} {k:Nat} {El:World->Nat->Nat->α->Prop} {ok:Nat->Prop} {w:World} {a:Option Addr} {n c:Nat} {xs:List α} (h:Ad k El ok w (.slice a n c) xs) {m:Nat} (p:m<=n):Ad k El ok w (.slice a m c) (xs.take m):=by
 obtain ⟨r,q,e,hc,b⟩:=h;cases e;have i:(xs.take m).length=m:=by rw [au];omega
 refine ⟨a,c,by rw [i],by rw [i];omega,?_⟩;rcases b with rfl | ⟨g,o,rfl,l,f,hcell⟩
 · exact .inl (by simp)
 · refine .inr ⟨g,o,rfl,l,f,fun j y d=>?_⟩;rw [gY] at d;split at d
   · exact hcell j y d
   · cases d
def TZ (w:World) (g o:Nat) (y:List UInt8):Prop:=w.cell? ⟨g,o,none⟩=some (Ac y)
def Aj (ok:Nat->Prop) (w:World) (v:Value) (xs:List (List UInt8)):Prop:=Ad 1 TZ ok w v xs
theorem Aj.strs {ok:Nat->Prop} {w:World} {v:Value} {xs:List (List UInt8)} (h:Aj ok w v xs):Ah w v xs:=by
 obtain ⟨a,c,e,hc,h⟩:=h;refine ⟨a,c,e,hc,?_⟩;rcases h with h | ⟨g,o,d,i,f,h⟩
 · exact .inl h
 · exact .inr ⟨g,o,d,i,fun j y b=>by have:=h j y b;rwa [cK] at this⟩
theorem Ah.strsP {w:World} {v:Value} {xs:List (List UInt8)} (h:Ah w v xs) (ok:Nat->Prop) (b:∀g,v.ownBlock=some g->ok g):Aj ok w v xs:=by
 obtain ⟨a,c,rfl,hc,h⟩:=h;refine ⟨a,c,rfl,hc,?_⟩;rcases h with h | ⟨g,o,rfl,e,h⟩
 · exact .inl h
 · exact .inr ⟨g,o,rfl,e,b g rfl,fun j y d=>by rw [cK];exact h j y d⟩
theorem Aj.keep {ok ok':Nat->Prop} {w w':World} {v:Value} {xs:List (List UInt8)} (h:Aj ok w v xs) (d:w.heap.size<=w'.heap.size)
  (hb:∀g,g<w.heap.size->ok g->w'.heap[g]?=w.heap[g]?) (hk:∀g,g<w.heap.size->ok g->ok' g):Aj ok' w' v xs:=
 h.imp d hk fun g o _ c b hx=>(World.cell?_of_block (a:=⟨g,o,none⟩) (hb g c b)).trans hx
def BH (ok:Nat->Prop) (w:World) (g o:Nat) (x:EnS.At):Prop:=w.cell? ⟨g,o,none⟩=some (Ac x.typ)/\∃u,w.cell? ⟨g,o+1,none⟩=some u/\Aj ok w u x.vals
theorem BH.keep {ok ok':Nat->Prop} {w w':World} {g o:Nat} {x:EnS.At} (h:BH ok w g o x) (c:g<w.heap.size) (b:ok g) (d:w.heap.size<=w'.heap.size)
  (hb:∀g,g<w.heap.size->ok g->w'.heap[g]?=w.heap[g]?) (hk:∀g,g<w.heap.size->ok g->ok' g):BH ok' w' g o x:=by
 obtain ⟨h1,u,h2,h3⟩:=h;exact ⟨(World.cell?_of_block (a:=⟨g,o,none⟩) (hb g c b)).trans h1,u,(World.cell?_of_block (a:=⟨g,o+1,none⟩) (hb g c b)).trans h2,h3.keep d hb hk⟩
def Ax (ok:Nat->Prop) (w:World) (v:Value) (xs:List EnS.At):Prop:=Ad 2 (BH ok) ok w v xs
theorem Ax.keep {ok ok':Nat->Prop} {w w':World} {v:Value} {xs:List EnS.At} (h:Ax ok w v xs) (b:w.heap.size<=w'.heap.size)
  (hb:∀g,g<w.heap.size->ok g->w'.heap[g]?=w.heap[g]?) (hk:∀g,g<w.heap.size->ok g->ok' g):Ax ok' w' v xs:=
 Ad.imp h b hk fun _ _ _ c a hx=>hx.keep c a b hb hk
def Df (ok:Nat->Prop) (w:World) (g o:Nat) (x:EnS.En):Prop:=w.cell? ⟨g,o,none⟩=some (Ac x.name)/\∃u,w.cell? ⟨g,o+1,none⟩=some u/\Ax ok w u x.attrs
theorem Df.keep {ok ok':Nat->Prop} {w w':World} {g o:Nat} {x:EnS.En} (h:Df ok w g o x) (c:g<w.heap.size) (b:ok g) (d:w.heap.size<=w'.heap.size)
  (hb:∀g,g<w.heap.size->ok g->w'.heap[g]?=w.heap[g]?) (hk:∀g,g<w.heap.size->ok g->ok' g):Df ok' w' g o x:=by
 obtain ⟨h1,u,h2,h3⟩:=h;exact ⟨(World.cell?_of_block (a:=⟨g,o,none⟩) (hb g c b)).trans h1,u,(World.cell?_of_block (a:=⟨g,o+1,none⟩) (hb g c b)).trans h2,h3.keep d hb hk⟩
def AV (ok:Nat->Prop) (w:World) (v:Value) (xs:List EnS.En):Prop:=Ad 2 (Df ok) ok w v xs
theorem AV.keep {ok ok':Nat->Prop} {w w':World} {v:Value} {xs:List EnS.En} (h:AV ok w v xs) (b:w.heap.size<=w'.heap.size)
  (hb:∀g,g<w.heap.size->ok g->w'.heap[g]?=w.heap[g]?) (hk:∀g,g<w.heap.size->ok g->ok' g):AV ok' w' v xs:=
 Ad.imp h b hk fun _ _ _ c a hx=>hx.keep c a b hb hk
theorem Aj.call {ok:Nat->Prop} {w w':World} {v:Value} {xs:List (List UInt8)} (h:Aj ok w v xs) (hb:Below w.heap.size w w'):Aj ok w' v xs:=h.keep hb.size (fun g a _=>hb.block g a) (fun _ _ h=>h)
theorem Ax.call {ok:Nat->Prop} {w w':World} {v:Value} {xs:List EnS.At} (h:Ax ok w v xs) (hb:Below w.heap.size w w'):Ax ok w' v xs:=h.keep hb.size (fun g a _=>hb.block g a) (fun _ _ h=>h)
theorem AV.call {ok:Nat->Prop} {w w':World} {v:Value} {xs:List EnS.En} (h:AV ok w v xs) (hb:Below w.heap.size w w'):AV ok w' v xs:=h.keep hb.size (fun g a _=>hb.block g a) (fun _ _ h=>h)
theorem BH.call {ok:Nat->Prop} {w w':World} {g o:Nat} {x:EnS.At} (h:BH ok w g o x) (b:g<w.heap.size) (a:ok g) (hb:Below w.heap.size w w'):BH ok w' g o x:=h.keep b a hb.size (fun g b _=>hb.block g b) (fun _ _ h=>h)
theorem Df.call {ok:Nat->Prop} {w w':World} {g o:Nat} {x:EnS.En} (h:Df ok w g o x) (b:g<w.heap.size) (a:ok g) (hb:Below w.heap.size w w'):Df ok w' g o x:=h.keep b a hb.size (fun g b _=>hb.block g b) (fun _ _ h=>h)
theorem Aj.any {ok:Nat->Prop} {w:World} {v:Value} {xs:List (List UInt8)} (h:Aj ok w v xs):Aj (fun _=>True) w v xs:=h.keep (aA _) (fun _ _ _=>rfl) (fun _ _ _=>trivial)
theorem Ax.any {ok:Nat->Prop} {w:World} {v:Value} {xs:List EnS.At} (h:Ax ok w v xs):Ax (fun _=>True) w v xs:=h.keep (aA _) (fun _ _ _=>rfl) (fun _ _ _=>trivial)
theorem AV.any {ok:Nat->Prop} {w:World} {v:Value} {xs:List EnS.En} (h:AV ok w v xs):AV (fun _=>True) w v xs:=h.keep (aA _) (fun _ _ _=>rfl) (fun _ _ _=>trivial)
abbrev Cj:World->Value->List EnS.At->Prop:=Ax (fun _=>True)
abbrev Cm:World->Value->List EnS.En->Prop:=AV (fun _=>True)
theorem Df.parts {w:World} {g o:Nat} {x:EnS.En} (h:Df (fun _=>True) w g o x):w.cell? ⟨g,o,none⟩=some (.string ⟨x.name.toArray⟩)/\∃a c,w.cell? ⟨g,o+1,none⟩=some (.slice a x.attrs.length c)/\x.attrs.length<=c/\Cj w (.slice a x.attrs.length c) x.attrs:=by obtain ⟨h1,u,h2,h3⟩:=h;obtain ⟨a,c,rfl,hc⟩:=Ad.form h3;exact ⟨h1,a,c,h2,hc,h3⟩
theorem BH.parts {w:World} {g o:Nat} {x:EnS.At} (h:BH (fun _=>True) w g o x):w.cell? ⟨g,o,none⟩=some (.string ⟨x.typ.toArray⟩)/\∃a c,w.cell? ⟨g,o+1,none⟩=some (.slice a x.vals.length c)/\x.vals.length<=c/\Aj (fun _=>True) w (.slice a x.vals.length c) x.vals:=by obtain ⟨h1,u,h2,h3⟩:=h;obtain ⟨a,c,rfl,hc⟩:=Ad.form h3;exact ⟨h1,a,c,h2,hc,h3⟩
end
end Go.Proofs.YtgngjfjaelgaeaaGreatDoor
