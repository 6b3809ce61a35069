/- The walks of 'Near', the program's and the document's, and of the law of near values. Conditions: as stated. -/
import Derived.Lib.OwnKind
import Derived.Deep.Onto
import Derived.Test.YtgngjfjaelgaeaaGreatDoorZPhs
import Derived.Test.YtgngjfjaelgaeaaGreatDoorZSeS
set_option maxRecDepth 100000
set_option maxHeartbeats 1000000
namespace Go.Proofs.YtgngjfjaelgaeaaGreatDoor
open Go.Proofs.Tryz
section
open Go.RowKit
attribute [local go_sem ↓] Go.wp_at_zero Go.wp_at_succ
theorem DD{nm a x:iK}(h:RuS.normal nm a=(x,0))(h4:(RuS.typeOf nm).2=4):∃p q,PhS.parseP x=some (p,q):=by
 obtain⟨_,_,_,b⟩:=RuS.normal_ok h;rw[h4] at b;have e:=RuS.normV_same (by decide) b;subst e;have b:(if(PhS.parseP x).isSome then some x else none)=some x:=b;cases hp:PhS.parseP x with
 |none=>rw[hp] at b;cases b
 |some p=>exact⟨p.1,p.2,rfl⟩
theorem IZ{nm a x:iK}(h:RuS.normal nm a=(x,0))(h3:(RuS.typeOf nm).2=3):∃n,RuS.intS x=some n:=by
 obtain⟨_,_,_,b⟩:=RuS.normal_ok h;rw[h3] at b;have e:=RuS.normV_same (by decide) b;subst e;have b:(if(RuS.intS x).isSome then some x else none)=some x:=b;cases hp:RuS.intS x with
 |none=>rw[hp] at b;cases b
 |some p=>exact⟨p,rfl⟩
def normP(l:iK):Int:=match PhS.parseP l with
 |some (a,b)=>a*a+b*b
 |none=>-1
def Hf(a:Int)(x y:iK):Bool:=if a=1 then RuS.bareL x==RuS.bareL y else if a=4 then decide (normP x=normP y) else x==y
def Im(nm a b:iK):Bool:=decide (Dl nm a b=0)&&Hf (RuS.typeOf nm).2 (RuS.normal nm a).1 (RuS.normal nm b).1
def CC(nm a b:iK)(w:World)(e:Ending)(w':World):Prop:=e=.returned (.tuple #[.bool (Im nm a b),.int .i64 (Dl nm a b)])/\Below w.heap.size w w'
theorem CC.mk'{nm a b:iK}{w w':World}{q:Bool}{n:Int}(h:Dl nm a b=n)(c:Im nm a b=q)(hb:Below w.heap.size w w'):CC nm a b w (.returned (.tuple #[q,n])) w':=by unfold CC;rw[h,c];exact⟨rfl,hb⟩
theorem Na(x:iK)(hx:x.length<=1000000)(w:World)(hE:Env w):
  Calls prog 212 #[x,.string ⟨#[32]⟩,.string ⟨#[]⟩] w λe w'=>e=.returned (.string ⟨(RuS.bareL x).toArray⟩)/\Below w.heap.size w w':=by
 obtain⟨m,b⟩:=hE.maxLen;have a:(⟨x.toArray⟩:ByteArray).size=x.length:=rfl;refine(strings_ReplaceAll ⟨x.toArray⟩ ⟨#[32]⟩ ⟨#[]⟩ m w (by rw[a];omega) b (aA 1) (by rw[a];show x.length+_*0<=_;omega)).mono ?_;rintro e w' ⟨rfl,hb⟩;refine⟨?_,hb⟩;show Ending.returned (.string ⟨(Lib.replaceAll x [32] []).toArray⟩)=_
 rw[RuS.replaceAll_bare]
theorem Ja{nm a b x y:iK}(h:Dl nm a b=0)(hx:x=(RuS.normal nm a).1)(c:y=(RuS.normal nm b).1):RuS.normal nm a=(x,0)/\RuS.normal nm b=(y,0):=by obtain⟨h1,h2⟩:=(Aci nm a b).1 h;subst hx c;exact⟨by rw[<-h1],by rw[<-h2]⟩
def AdO(l:iK)(w0:World)(out i:Value)(wr:World):Prop:=
 ∃k:Nat,k<=l.length/\i=.int .i64 k/\OwnB wr w0.heap.size out (RuS.bareL (l.take k))/\Below w0.heap.size w0 wr
theorem AdP(l:iK):(RuS.bareL l).length<=l.length:=bJ _ _
theorem AbI(l:iK)(k:Nat)(h:k<l.length)(hc:l[k]≠32):RuS.bareL (l.take (k+1))=RuS.bareL (l.take k)++[l[k]]:=by unfold RuS.bareL;rw[aW h,bi];simp[hc]
theorem AdQ(l:iK)(k:Nat)(h:k<l.length)(hc:l[k]=32):RuS.bareL (l.take (k+1))=RuS.bareL (l.take k):=by unfold RuS.bareL;rw[aW h,bi];simp[hc]
theorem SB(l:iK)(y:l.length<=1000000)(w:World):Calls prog 179 #[l] w λe w'=>e=.returned (.string ⟨(RuS.bareL l).toArray⟩)/\Below w.heap.size w w':=by
 go_enter func179,ntmps179;go_wp2_with fail;go_loopw [3,4] (λout i wr=>AdO l w out i wr) (λ_ i _=>l.length-(intOf i).toNat)
 case atStart=>exact⟨0,aR _,rfl,OwnB.empty _ _,Below.refl _ _⟩
 case round=>
  obtain⟨k,hk,rfl,a,hb⟩:=hrel;by_cases m:k<l.length
  ·have u:=hZ9 (AbI l k m);have p:=hZ9 (AdQ l k m);have o:=AdP (l.take k);have j:(l.take k).length<=l.length:=by simp;omega
   generalize g:l[k]=c at*;have x:∀h,(⟨l.toArray⟩:ByteArray)[k]'h=c:=λ_=>g;clear g;generalize RuS.bareL (l.take k)=acc at*;have t:acc.length<=1000000:=by omega
   clear o j;by_cases b:(c.toNat:Int)=32
   ·have s:Hid (c=32):=hZ9 (FA (n:=32) (by decide) b);go_wp2_with fail;go_roundw
    case rel=>exact⟨k+1,by omega,by go_num,by rw[p.out s.out];exact a,hb⟩
    case measure=>simp[intOf];omega
   ·have s:Hid (c≠32):=hZ9 (λe=>b (by rw[e];rfl));have v:((c.toNat:Int) !=32)=true:=by simpa using b
    clear b;go_wp2_with (at_builtin;refine DW (by rfl) _ _ (by rfl) w.heap.size _ acc (by rfl) (a.alloc _) wr.heap.size 1 1 (by rfl) [c] (by rfl) ?c1 ?c2 ?c3 ?_)
    case c1=>first|exact one_cell (by simp[go_sem,Aj])|exact EY _
    case c2=>omega
    case c3=>have:=hb.size;simp;omega
    intro z w2 f q;go_wp2_with fail;go_roundw
    case rel=>exact⟨k+1,by omega,by go_num,by rw[u.out s.out];exact f,(hb.alloc hb.size _).trans q⟩
    case measure=>simp[intOf];omega
  ·have d:l.take k=l:=af (by omega);rw[d] at a;clear d;have r:=a.back;go_wp2_with fail;go_ret;exact⟨rfl,hb⟩
theorem Agz(nm a b:ByteArray)(H:nm.size<=9223372036854775807)(K:a.size<=9223372036854775807)(hb:b.size<=9223372036854775807)(w:World)(hE:Env w):
  Calls prog 189 #[.string nm,.string a,.string b] w (CC nm.data.toList a.data.toList b.data.toList w):=by
 have h1:=Ach nm a b H K hb w hE;have h:=λw=>Gx nm H w;unfold Ak at h;unfold Ec at h1;have n:Hid (Im nm.data.toList a.data.toList b.data.toList=(decide (Dl nm.data.toList a.data.toList b.data.toList=0)&&Hf (RuS.typeOf nm.data.toList).2 (RuS.normal nm.data.toList a.data.toList).1 (RuS.normal nm.data.toList b.data.toList).1)):=hZ9 rfl;generalize p:Dl nm.data.toList a.data.toList b.data.toList=er at*;have g:=hZ9 p;clear p;by_cases z1:er=0
 ·subst z1;go_enter func189,ntmps189;go_wp2_with fail;refine h1.mono ?_;rintro e w1 ⟨x,y,rfl,l,d⟩;obtain⟨hx,A⟩:=l (by trivial);clear l;obtain⟨B,I⟩:=Ja g.out hx A;have s:=(RuS.normal_ok B).1;have Q:x.length<=200:=by rw[hx];exact RuS.normal_len _ _
  have P:y.length<=200:=by rw[A];exact RuS.normal_len _ _
  have i:=DD B;have f:=DD I;rw[<-hx,<-A] at n;clear hx A B I;generalize RuS.typeOf nm.data.toList=r at*;obtain⟨t,R⟩:=r;simp only at h s i f n;rcases s with rfl|rfl|rfl|rfl
  ·clear i f;have j:=hE.below d;have L:=Na x (by omega);have r2:=Na y (by omega);have o:Hid (Hf 1 x y=(RuS.bareL x==RuS.bareL y)):=hZ9 rfl;generalize RuS.bareL x=bx at*;generalize RuS.bareL y=by_ at*;go_wp2_with fail;refine(h _).mono ?_;rintro e w2 ⟨rfl,c⟩;go_wp2_with fail;refine(L _ (j.below c)).mono ?_;rintro e w3 ⟨rfl,k⟩;go_wp2_with fail;refine(r2 _ ((j.below c).below k)).mono ?_;rintro e w4 ⟨rfl,m⟩;go_wp2_with fail;go_ret2;exact CC.mk' g.out (by rw[n.out,o.out];simp) (Aa d (Aa c (Aa k m)))
  ·clear i f;have o:Hid (Hf 2 x y=(x==y)):=hZ9 rfl;go_wp2_with fail;refine(h _).mono ?_;rintro e w2 ⟨rfl,c⟩;go_wp2_with fail;go_ret2;exact CC.mk' g.out (by rw[n.out,o.out];simp) (Aa d c)
  ·clear i f;have o:Hid (Hf 3 x y=(x==y)):=hZ9 rfl;go_wp2_with fail;refine(h _).mono ?_;rintro e w2 ⟨rfl,c⟩;go_wp2_with fail;go_ret2;exact CC.mk' g.out (by rw[n.out,o.out];simp) (Aa d c)
  ·obtain⟨pa,pb,z⟩:=i rfl;obtain⟨u,q,v⟩:=f rfl;clear i f;have j:=hE.below d;have p1:=λw hE=>La ⟨x.toArray⟩ (by show x.length+2<=_;omega) w hE;have p2:=λw hE=>La ⟨y.toArray⟩ (by show y.length+2<=_;omega) w hE;unfold QX at p1 p2;have G:(⟨x.toArray⟩:ByteArray).data.toList=x:=rfl;have F:(⟨y.toArray⟩:ByteArray).data.toList=y:=rfl;rw[G,z] at p1;rw[F,v] at p2;simp only at p1 p2;have o:Hid (Hf 4 x y=decide (pa*pa+pb*pb=u*u+q*q)):=hZ9 (by
    show decide (normP x=normP y)=_
    unfold normP;rw[z,v])
   have M:=QB pa pb (PhS.parseP_some.1 z).1;have N:=QB u q (PhS.parseP_some.1 v).1;clear z v G F;generalize pa*pa+pb*pb=m1 at*;generalize u*u+q*q=m2 at*;go_wp2_with fail;refine(h _).mono ?_;rintro e w2 ⟨rfl,c⟩;go_wp2_with fail;refine(p1 _ (j.below c)).mono ?_;rintro e w3 ⟨rfl,k⟩;go_wp2_with fail;refine(p2 _ ((j.below c).below k)).mono ?_;rintro e w4 ⟨rfl,m⟩;go_wp2_with fail;refine(M _).mono ?_;rintro e w5 ⟨rfl,C⟩;go_wp2_with fail;refine(N _).mono ?_;rintro e w6 ⟨rfl,E⟩;go_wp2_with fail;go_ret2;refine CC.mk' g.out ?_ (Aa d (Aa c (Aa k (Aa m (Aa C E)))));rw[n.out,o.out]
   first|rfl|(simp;done)|(rw[bR];simp)
 ·have O:(er !=0)=true:=by simpa using z1
  have J:=hZ9 z1;clear z1;go_enter func189,ntmps189;go_wp2_with fail;refine h1.mono ?_;rintro e w1 ⟨x,y,rfl,l,d⟩;clear l;go_wp2_with fail;go_ret2;exact CC.mk' g.out (by rw[n.out,aB J.out];rfl) d
end
section
open Go.RowKit
def Js(e:Int)(x y:iK):Int:=if e=3 then DF ((RuS.intS x).getD 0) ((RuS.intS y).getD 0)
 else if e=4 then(match PhS.parseP x,PhS.parseP y with
  |some (a,b),some (c,d)=>JA a b c d
  |_,_=>0)
 else Lib.compareBytes x y
def Hg(nm a b:iK):Int:=if Dl nm a b=0 then Js (RuS.typeOf nm).2 (RuS.normal nm a).1 (RuS.normal nm b).1 else 0
def CW(nm a b:iK)(w:World)(e:Ending)(w':World):Prop:=e=.returned (.tuple #[.int .i64 (Hg nm a b),.int .i64 (Dl nm a b)])/\Below w.heap.size w w'
theorem CW.mk'{nm a b:iK}{w w':World}{q n:Int}(h:Dl nm a b=n)(c:Hg nm a b=q)(hb:Below w.heap.size w w'):CW nm a b w (.returned (.tuple #[q,n])) w':=by unfold CW;rw[h,c];exact⟨rfl,hb⟩
theorem Nb{x:iK}{n:Int}(h:RuS.intS x=some n)(hx:x.length<=1000000)(w:World):
  Calls prog 183 #[x,.int .i64 10,.int .i64 64] w λe w'=>e=.returned (.tuple #[n,.nilIface])/\Below w.heap.size w w':=by
 obtain⟨h1,h2⟩:=RuS.intS_iff.1 h;refine MJ ⟨x.toArray⟩ (by show x.length<=_;omega) n ?_ w;show Lib.parseIntB 64 x=.ok n
 rw[<-h1];exact RuS.parse64_itoa n h2
theorem Uk(nm a b:ByteArray)(Q:nm.size<=9223372036854775807)(U:a.size<=9223372036854775807)(hb:b.size<=9223372036854775807)(w:World)(hE:Env w):
  Calls prog 190 #[.string nm,.string a,.string b] w (CW nm.data.toList a.data.toList b.data.toList w):=by
 have h1:=Ach nm a b Q U hb w hE;have k:=λw=>Gx nm Q w;unfold Ak at k;unfold Ec at h1;have A:Hid (Hg nm.data.toList a.data.toList b.data.toList=if Dl nm.data.toList a.data.toList b.data.toList=0 then Js (RuS.typeOf nm.data.toList).2 (RuS.normal nm.data.toList a.data.toList).1 (RuS.normal nm.data.toList b.data.toList).1 else 0):=hZ9 rfl;generalize E:Dl nm.data.toList a.data.toList b.data.toList=er at*;have j:=hZ9 E;clear E;by_cases z1:er=0
 ·subst z1;go_enter func190,ntmps190;go_wp2_with fail;refine h1.mono ?_;rintro e w1 ⟨x,y,rfl,p,g⟩;obtain⟨hx,K⟩:=p (by trivial);clear p;obtain⟨H,O⟩:=Ja j.out hx K;have G:=(RuS.normal_ok H).1;have Y:x.length<=200:=by rw[hx];exact RuS.normal_len _ _
  have X:y.length<=200:=by rw[K];exact RuS.normal_len _ _
  have o:=DD H;have i:=DD O;have l:=IZ H;have h:=IZ O;rw[<-hx,<-K] at A;clear hx K H O;generalize RuS.typeOf nm.data.toList=r at*;obtain⟨t,Z⟩:=r;simp only at k G o i l h A;have F:=hE.below g;rcases G with rfl|rfl|rfl|rfl
  ·clear o i l h;have sc:=λw=>strings_Compare ⟨x.toArray⟩ ⟨y.toArray⟩ w;have v:(⟨x.toArray⟩:ByteArray).data.toList=x:=rfl;have u:(⟨y.toArray⟩:ByteArray).data.toList=y:=rfl;rw[v,u] at sc;clear v u;have C:Hid (Js 1 x y=Lib.compareBytes x y):=hZ9 rfl;generalize Lib.compareBytes x y=cb at*;go_wp2_with fail;refine(k _).mono ?_;rintro e w2 ⟨rfl,f⟩;go_wp2_with fail;refine(sc _).mono ?_;rintro e w3 ⟨rfl,rfl⟩;go_wp2_with fail;go_ret2;exact CW.mk' j.out (by rw[A.out,aJ (by trivial),C.out]) (Aa g f)
  ·clear o i l h;have sc:=λw=>strings_Compare ⟨x.toArray⟩ ⟨y.toArray⟩ w;have v:(⟨x.toArray⟩:ByteArray).data.toList=x:=rfl;have u:(⟨y.toArray⟩:ByteArray).data.toList=y:=rfl;rw[v,u] at sc;clear v u;have C:Hid (Js 2 x y=Lib.compareBytes x y):=hZ9 rfl;generalize Lib.compareBytes x y=cb at*;go_wp2_with fail;refine(k _).mono ?_;rintro e w2 ⟨rfl,f⟩;go_wp2_with fail;refine(sc _).mono ?_;rintro e w3 ⟨rfl,rfl⟩;go_wp2_with fail;go_ret2;exact CW.mk' j.out (by rw[A.out,aJ (by trivial),C.out]) (Aa g f)
  ·obtain⟨m,L⟩:=l rfl;obtain⟨n,B⟩:=h rfl;clear o i l h;have R:=Nb L (by omega);have i2:=Nb B (by omega);have S:=VT m n;have C:Hid (Js 3 x y=DF m n):=hZ9 (by
    show DF ((RuS.intS x).getD 0) ((RuS.intS y).getD 0)=_
    rw[L,B];rfl)
   clear L B;generalize DF m n=q at*;go_wp2_with fail;refine(k _).mono ?_;rintro e w2 ⟨rfl,f⟩;go_wp2_with fail;refine(R _).mono ?_;rintro e w3 ⟨rfl,s⟩;go_wp2_with fail;refine(i2 _).mono ?_;rintro e w4 ⟨rfl,z⟩;go_wp2_with fail;refine(S _).mono ?_;rintro e w5 ⟨rfl,rfl⟩;go_wp2_with fail;go_ret2;exact CW.mk' j.out (by rw[A.out,aJ (by trivial),C.out]) (Aa g (Aa f (Aa s z)))
  ·obtain⟨pa,pb,J⟩:=o rfl;obtain⟨P,N,I⟩:=i rfl;clear o i l h;have p1:=λw hE=>La ⟨x.toArray⟩ (by show x.length+2<=_;omega) w hE;have p2:=λw hE=>La ⟨y.toArray⟩ (by show y.length+2<=_;omega) w hE;unfold QX at p1 p2;have v:(⟨x.toArray⟩:ByteArray).data.toList=x:=rfl;have u:(⟨y.toArray⟩:ByteArray).data.toList=y:=rfl;rw[v,J] at p1;rw[u,I] at p2;simp only at p1 p2;have C:Hid (Js 4 x y=JA pa pb P N):=hZ9 (by
    show (match PhS.parseP x,PhS.parseP y with|some (a,b),some (c,d)=>JA a b c d|_,_=>0)=_
    rw[J,I])
   have V:=Acj pa pb P N (PhS.parseP_some.1 J).1 (PhS.parseP_some.1 I).1;clear J I v u;generalize JA pa pb P N=q at*;go_wp2_with fail;refine(k _).mono ?_;rintro e w2 ⟨rfl,f⟩;go_wp2_with fail;refine(p1 _ (F.below f)).mono ?_;rintro e w3 ⟨rfl,s⟩;go_wp2_with fail;refine(p2 _ ((F.below f).below s)).mono ?_;rintro e w4 ⟨rfl,z⟩;go_wp2_with fail;refine(V _).mono ?_;rintro e w5 ⟨rfl,M⟩;go_wp2_with fail;go_ret2;exact CW.mk' j.out (by rw[A.out,aJ (by trivial),C.out]) (Aa g (Aa f (Aa s (Aa z M))))
 ·have W:(er !=0)=true:=by simpa using z1
  have T:=hZ9 z1;clear z1;go_enter func190,ntmps190;go_wp2_with fail;refine h1.mono ?_;rintro e w1 ⟨x,y,rfl,p,g⟩;clear p;go_wp2_with fail;go_ret2;exact CW.mk' j.out (by rw[A.out,aG T.out]) g
end
section
namespace FiS
open Go.Lib
def DJ:List iK->iK->Bool
 |[],_=>true
 |p :: r,s=>if 0<=Lib.index s p then DJ r (s.drop ((Lib.index s p).toNat+p.length)) else false
def Hw(f l s:iK):Option iK:=
 if Lib.hasPrefix s f=true then(if Lib.hasSuffix (s.drop f.length) l=true then some ((s.drop f.length).take ((s.drop f.length).length-l.length)) else none) else none
def AH(f l:iK)(any:List iK)(s:iK):Bool:=match Hw f l s with
 |some m=>DJ any m
 |none=>false
theorem Io(f l s:iK):Hw f l s=if s.length<f.length+l.length\/¬s.take f.length=f\/¬s.drop (s.length-l.length)=l then none else some ((s.take (s.length-l.length)).drop f.length):=by
 unfold Hw Lib.hasPrefix Lib.hasSuffix;by_cases hp:f.isPrefixOf s=true
 ·rw[aJ hp];obtain⟨t,rfl⟩:=dN.1 hp;rw[dR];by_cases a:l.isSuffixOf t=true
  ·rw[aJ a];obtain⟨u,rfl⟩:=eD.1 a;rw[aG]
   ·congr 1;have e:(f++(u++l)).length-l.length=(f++u).length:=by simp only[aT];omega
    rw[e,<-bL,dS,dR,aT,dZ,dS]
   ·rintro (h|h|h)
    ·simp only[aT] at h;omega
    ·exact h (dS ..)
    ·apply h;have e:(f++(u++l)).length-l.length=(f++u).length:=by simp only[aT];omega
     rw[e,<-bL,dR]
  ·rw[aG a,aJ];by_cases b:(f++t).length<f.length+l.length
   ·exact .inl b
   ·refine .inr (.inr λh=>a ?_);rw[aT] at b h;have e:f.length+t.length-l.length=f.length+(t.length-l.length):=by omega
    rw[e,fY,dI (by omega),List.nil_append] at h;have c:f.length+(t.length-l.length)-f.length=t.length-l.length:=by omega
    rw[c] at h;refine eD.2 ⟨t.take (t.length-l.length),?_⟩
    conv=>lhs;rhs;rw[<-h]
    exact cK ..
 ·rw[aG hp,aJ];refine .inr (.inl λh=>hp ?_);refine dN.2 ⟨s.drop f.length,?_⟩
  conv=>lhs;lhs;rw[<-h]
  exact cK ..
def Ag(a:Int)(p:iK):iK:=if a=1 then RuS.lower p else p
def CX(k:Int)(a v f l:iK)(s:List iK)(x:iK):Bool:=
 if(DnS.AC a x).2=0 then
  (if k=4 then AH (Ag (RuS.typeOf a).2 f) (Ag (RuS.typeOf a).2 l) (s.map (Ag (RuS.typeOf a).2)) (DnS.AC a x).1
  else if k=3\/(RuS.typeOf a).2=5 then(DnS.AC a x).1==(DnS.AC a v).1
  else if k=8 then Im a x v
  else decide (k=5/\0<=Hg a x v\/k=6/\Hg a x v<=0))
 else false
def BC(t:iK):List EnS.At->List iK
 |[]=>[]
 |a :: r=>(if(RuS.typeOf a.typ).1=t then a.vals else [])++BC t r
def Jt(k:Int)(a v:iK):Bool:=decide ((RuS.typeOf a).2=0)||(decide (k=4)&&decide (2<(RuS.typeOf a).2))||((decide (k=5)||decide (k=6))&&(decide ((RuS.typeOf a).2=2)||decide ((RuS.typeOf a).2=5)))||(decide (k≠4)&&decide (k≠7)&&decide ((DnS.AC a v).2≠0))
def Dx(A:List EnS.At)(k:Int)(a v f l:iK)(s:List iK):Int:=
 if Jt k a v=true then -1
 else if(BC (RuS.typeOf a).1 A).any (λx=>decide (k=7)||CX k a v f l s x)=true then 1 else 0
def notE(x:Int):Int:=if x=-1 then -1 else if x=0 then 1 else 0
mutual
def Az(A:List EnS.At):Fi->Int
 | .mk k a v f l s ps=>if k=0\/k=1 then DT A k (1-k) ps else if k=2 then notE (ZQ A ps) else Dx A k a v f l s
def DT(A:List EnS.At)(k:Int)(acc:Int):List Fi->Int
 |[]=>acc
 |p :: r=>if Az A p=k then k else DT A k (if Az A p=-1 then -1 else acc) r
def ZQ(A:List EnS.At):List Fi->Int
 |[]=>0
 |p :: _=>Az A p
end
def Hh(A:List EnS.At)(x:Fi):Int:=if formedS x=true then Az A x else -1
theorem XD(A:List EnS.At)(k:Int)(a v f l:iK)(s:List iK):Dx A k a v f l s=-1\/Dx A k a v f l s=0\/Dx A k a v f l s=1:=by
 unfold Dx;split
 ·exact .inl rfl
 ·split
  ·exact .inr (.inr rfl)
  ·exact .inr (.inl rfl)
mutual
theorem Fj(A:List EnS.At):∀x:Fi,Az A x=-1\/Az A x=0\/Az A x=1
 | .mk k a v f l s ps=>by
  rw[Az];split
  ·rename_i h;have:=OA A k (1-k) (by omega) ps;rcases this with h2|h2|h2
   ·exact .inl h2
   ·rw[h2];omega
   ·rw[h2];omega
  ·split
   ·unfold notE;split
    ·exact .inl rfl
    ·split
     ·exact .inr (.inr rfl)
     ·exact .inr (.inl rfl)
   ·exact XD ..
theorem OA(A:List EnS.At)(k acc:Int)(a:acc=-1\/acc=1-k):∀ps:List Fi,DT A k acc ps=-1\/DT A k acc ps=k\/DT A k acc ps=1-k
 |[]=>by rw[DT];omega
 |p :: r=>by
  rw[DT];split
  ·exact .inr (.inl rfl)
  ·exact OA A k _ (by split<;>omega) r
end
theorem Lr(A:List EnS.At)(k:Int):∀(acc:Int) (ps:List Fi) (j:Nat) (a:j<ps.length),Az A (ps[j]'a)=k->DT A k acc ps=k
 |acc,[],j,a,_=>by simp at a
 |acc,p :: r,0,_,h=>by rw[DT,aJ (show Az A p=k from h)]
 |acc,p :: r,j+1,a,h=>by
  rw[DT];split
  ·rfl
  ·exact Lr A k _ r j (by simpa using a) h
def DU(A:List EnS.At)(acc:Int):List Fi->Int
 |[]=>acc
 |p :: r=>DU A (if Az A p=-1 then -1 else acc) r
theorem Nc{A:List EnS.At}:∀{acc:Int} {ps:List Fi} {j:Nat} (a:j<ps.length),DU A acc (ps.take (j+1))=if Az A (ps[j]'a)=-1 then -1 else DU A acc (ps.take j)
 |acc,[],j,a=>by simp at a
 |acc,p :: r,0,_=>by
  show DU A (if Az A p=-1 then -1 else acc) (r.take 0)=if Az A p=-1 then -1 else DU A acc []
  simp[DU]
 |acc,p :: r,j+1,a=>Nc (acc:=if Az A p=-1 then -1 else acc) (ps:=r) (j:=j) (by simpa using a)
theorem Nh{A:List EnS.At}{k:Int}:∀{acc:Int} {ps:List Fi},(∀j (a:j<ps.length),Az A (ps[j]'a)≠k)->DT A k acc ps=DU A acc ps
 |acc,[],_=>by rw[DT];rfl
 |acc,p :: r,h=>by rw[DT,aG (show ¬Az A p=k from h 0 (by simp)),DU];exact Nh (λj a=>h (j+1) (by simpa using a))
end FiS
end
section
namespace SeS
open Go.Lib DnS EnS
open FiS (Fi)
def Ip(at_:List iK)(a:At):Bool:=at_.isEmpty||at_.any (λx=>x==[42]||((RuS.typeOf x).1 !=[]&&(RuS.typeOf x).1==a.typ))
def DN(at_:List iK)(b:Bool)(e:En):En:=⟨e.name,(e.attrs.filter (Ip at_)).map (λa=>if b=true then ⟨a.typ,[]⟩ else a)⟩
theorem AdR(at_:List iK)(a:Bool)(e:En):(DN at_ a e).name=e.name:=rfl
structure Rq where
 base:iK
 scope:Int
 deref:Int
 filter:Fi
 attrs:List iK
 tonly:Bool
 size:Int
def CU(q:Rq):Bool:=decide (0<=q.scope)&&decide (q.scope<=2)&&decide (0<=q.deref)&&decide (q.deref<=3)&&decide (0<=q.size)&&FiS.formedS q.filter
def dr1(q:Rq):Bool:=decide (q.deref=1)||decide (q.deref=3)
def dr2(q:Rq):Bool:=decide (q.deref=2)||decide (q.deref=3)
def Ez(x:Fi)(e:En):Bool:=decide (FiS.Hh e.attrs x=1)
def KN(l:List En)(q:Rq)(n:iK)(N:Nat):List En:=(BM ((stS l (dr1 q) [(n,q.scope)] N).2.filter (Ez q.filter))).map (DN q.attrs q.tonly)
def Jb(l:List En)(q:Rq)(c:Int)(ys:List En):Prop:=
 (CU q=false/\c=2/\ys=[])\/
 (CU q=true/\(AQ l q.base (dr2 q)).2.2≠0/\c=(AQ l q.base (dr2 q)).2.2/\ys=[])\/
 (CU q=true/\(AQ l q.base (dr2 q)).2.2=0/\∃N,PS l (dr1 q) [((AQ l q.base (dr2 q)).1,q.scope)] N/\(c,ys)=Ht q.size (KN l q (AQ l q.base (dr2 q)).1 N))
theorem SD{l:List En}{q:Rq}{c:Int}{ys:List En}(n:BU l)(h1:CL l)(p:CU q=true)(hd:q.deref=0)(m:q.size=0)(h:Jb l q c ys):
  if(AQ l q.base false).2.2≠0 then c=(AQ l q.base false).2.2/\ys=[] else c=0/\ys=((BM (AO l (AQ l q.base false).1 q.scope)).filter (Ez q.filter)).map (DN q.attrs q.tonly):=by
 have k:dr2 q=false:=by unfold dr2;rw[hd];rfl
 have r:dr1 q=false:=by unfold dr1;rw[hd];rfl
 rcases h with⟨k1,_⟩|⟨_,g,rfl,rfl⟩|⟨_,g,N,j,i⟩
 ·rw[p] at k1;cases k1
 ·rw[k] at g⊢;rw[aJ g];exact⟨rfl,rfl⟩
 ·rw[k] at g j i;rw[aG (λh=>h g)];unfold KN at i;rw[r] at j i;have e:=AaH j (AfQ l _);subst e;rw[TI,m,Ae3,bT] at i;obtain⟨rfl,rfl⟩:=i;refine⟨rfl,?_⟩;have d:∀e,e∈AO l (AQ l q.base false).1 q.scope->e∈l:=λe f=>by
   unfold AO at f;split at f
   ·exact Be f
   ·cases f
  rw[Yg (λe f=>n e (d e f)) (λa o b hb h=>h1 a (d a o) b (d b hb) h)]
end SeS
end
section
open Go.RowKit
namespace EnS
def Av{α:Type}(f:α->Nat):List α->Nat
 |[]=>0
 |x :: r=>f x+Av f r
theorem Ju{α:Type}(f:α->Nat):∀(l r:List α),Av f (l++r)=Av f l+Av f r
 |[],r=>by show Av f r=0+Av f r;omega
 |x :: l,r=>by
  show f x+Av f (l++r)=f x+Av f l+Av f r
  rw[Ju f l r];omega
theorem Ls{α:Type}{f:α->Nat}{l:List α}{k:Nat}(hk:k<l.length):Av f (l.take (k+1))=Av f (l.take k)+f l[k]:=by rw[aW hk,Ju];rfl
theorem Lt{α:Type}{f:α->Nat}(l:List α)(k:Nat):Av f (l.take k)<=Av f l:=by have h:=Ju f (l.take k) (l.drop k);rw[cK] at h;omega
theorem JL{α:Type}{f:α->Nat}{x:α}:∀{l:List α},x∈l->f x<=Av f l
 |[],h=>by cases h
 |y :: l,h=>by
  show f x<=f y+Av f l
  rcases ay.1 h with rfl|h
  ·omega
  ·have:=JL (f:=f) h;omega
theorem Ni{α:Type}{f:α->Nat}(h:∀x,1<=f x):∀l:List α,l.length<=Av f l
 |[]=>aA _
 |x :: l=>by
  have:=Ni h l;have:=h x;show l.length+1<=f x+Av f l
  omega
theorem SE{α:Type}(f:α->Nat):∀l:List α,Av (λx=>1+f x) l=l.length+Av f l
 |[]=>rfl
 |x :: l=>by
  show 1+f x+Av (λx=>1+f x) l=(l.length+1)+(f x+Av f l)
  rw[SE f l];omega
def cV(v:iK):Nat:=v.length / 100
def cA(a:At):Nat:=1+a.vals.length+Av cV a.vals
def cE(e:En):Nat:=1+e.name.length / 100+Av cA e.attrs
end EnS
def Ad{α:Type}(k:Nat)(El:World->Nat->Nat->α->Prop)(ok:Nat->Prop)(w:World)(v:Value)(xs:List α):Prop:=
 ∃a c,v=.slice a xs.length c/\xs.length<=c/\(xs=[]\/∃g o,a=some ⟨g,o,none⟩/\g<w.heap.size/\ok g/\∀(j:Nat) (x:α),xs[j]?=some x->El w g (o+j*k) x)
theorem Ad.imp{α:Type}{k:Nat}{El b:World->Nat->Nat->α->Prop}{ok ok':Nat->Prop}{w w':World}{v:Value}{xs:List α}(h:Ad k El ok w v xs)(i:w.heap.size<=w'.heap.size)
  (hk:∀g,g<w.heap.size->ok g->ok' g)(hE:∀g o x,g<w.heap.size->ok g->El w g o x->b w' g o x):Ad k b ok' w' v xs:=by
 obtain⟨a,c,e,hc,h⟩:=h;refine⟨a,c,e,hc,?_⟩;rcases h with h|⟨g,o,m,f,d,h⟩
 ·exact .inl h
 ·exact .inr ⟨g,o,m,ae f i,hk g f d,λj x l=>hE g _ x f d (h j x l)⟩
theorem Ad.at{α:Type}{k:Nat}{El:World->Nat->Nat->α->Prop}{ok:Nat->Prop}{w:World}{v:Value}{xs:List α}(h:Ad k El ok w v xs):
  ∃a c,v=.slice a xs.length c/\xs.length<=c/\∀j (b:j<xs.length),∃g o,a=some ⟨g,o,none⟩/\g<w.heap.size/\ok g/\El w g (o+j*k) xs[j]:=by
 obtain⟨a,c,e,hc,h⟩:=h;refine⟨a,c,e,hc,λj b=>?_⟩;rcases h with rfl|⟨g,o,f,i,d,h⟩
 ·simp at b
 ·exact⟨g,o,f,i,d,h j _ (aK b)⟩
theorem Ad.form{α:Type}{k:Nat}{El:World->Nat->Nat->α->Prop}{ok:Nat->Prop}{w:World}{v:Value}{xs:List α}(h:Ad k El ok w v xs):∃a c,v=.slice a xs.length c/\xs.length<=c:=by obtain⟨a,c,e,hc,_⟩:=h;exact⟨a,c,e,hc⟩
theorem Ad.nil{α:Type}{k:Nat}{El:World->Nat->Nat->α->Prop}{ok:Nat->Prop}{w:World}(a:Option Addr)(c:Nat):Ad (α:=α) k El ok w (.slice a 0 c) []:=⟨a,c,rfl,aR _,.inl rfl⟩
theorem Ad.take{α:Type}{k:Nat}{El:World->Nat->Nat->α->Prop}{ok:Nat->Prop}{w:World}{a:Option Addr}{n c:Nat}{xs:List α}(h:Ad k El ok w (.slice a n c) xs){m:Nat}(r:m<=n):Ad k El ok w (.slice a m c) (xs.take m):=by
 obtain⟨p,q,e,hc,b⟩:=h;cases e;have i:(xs.take m).length=m:=by rw[ar];omega
 refine⟨a,c,by rw[i],by rw[i];omega,?_⟩;rcases b with rfl|⟨g,o,rfl,l,f,hcell⟩
 ·exact .inl (by simp)
 ·refine .inr ⟨g,o,rfl,l,f,λj y d=>?_⟩;rw[gh] at d;split at d
  ·exact hcell j y d
  ·cases d
def UI(w:World)(g o:Nat)(y:iK):Prop:=w.cell? ⟨g,o,none⟩=some (Ac y)
def Am(ok:Nat->Prop)(w:World)(v:Value)(xs:List iK):Prop:=Ad 1 UI ok w v xs
theorem Am.strs{ok:Nat->Prop}{w:World}{v:Value}{xs:List iK}(h:Am ok w v xs):Ah w v xs:=by
 obtain⟨a,c,e,hc,h⟩:=h;refine⟨a,c,e,hc,?_⟩;rcases h with h|⟨g,o,d,i,f,h⟩
 ·exact .inl h
 ·exact .inr ⟨g,o,d,i,λj y b=>by have:=h j y b;rwa [bp] at this⟩
theorem Ah.strsP{w:World}{v:Value}{xs:List iK}(h:Ah w v xs)(ok:Nat->Prop)(b:∀g,v.ownBlock=some g->ok g):Am ok w v xs:=by
 obtain⟨a,c,rfl,hc,h⟩:=h;refine⟨a,c,rfl,hc,?_⟩;rcases h with h|⟨g,o,rfl,e,h⟩
 ·exact .inl h
 ·exact .inr ⟨g,o,rfl,e,b g rfl,λj y d=>by rw[bp];exact h j y d⟩
theorem Am.keep{ok ok':Nat->Prop}{w w':World}{v:Value}{xs:List iK}(h:Am ok w v xs)(c:w.heap.size<=w'.heap.size)
  (hb:∀g,g<w.heap.size->ok g->w'.heap[g]?=w.heap[g]?)(hk:∀g,g<w.heap.size->ok g->ok' g):Am ok' w' v xs:=
 h.imp c hk λg o _ d b hx=>(World.cell?_of_block (a:=⟨g,o,none⟩) (hb g d b)).trans hx
def BG(ok:Nat->Prop)(w:World)(g o:Nat)(x:EnS.At):Prop:=w.cell? ⟨g,o,none⟩=some (Ac x.typ)/\∃u,w.cell? ⟨g,o+1,none⟩=some u/\Am ok w u x.vals
theorem BG.keep{ok ok':Nat->Prop}{w w':World}{g o:Nat}{x:EnS.At}(h:BG ok w g o x)(c:g<w.heap.size)(b:ok g)(d:w.heap.size<=w'.heap.size)
  (hb:∀g,g<w.heap.size->ok g->w'.heap[g]?=w.heap[g]?)(hk:∀g,g<w.heap.size->ok g->ok' g):BG ok' w' g o x:=by
 obtain⟨h1,u,h2,h3⟩:=h;exact⟨(World.cell?_of_block (a:=⟨g,o,none⟩) (hb g c b)).trans h1,u,(World.cell?_of_block (a:=⟨g,o+1,none⟩) (hb g c b)).trans h2,h3.keep d hb hk⟩
def Aw(ok:Nat->Prop)(w:World)(v:Value)(xs:List EnS.At):Prop:=Ad 2 (BG ok) ok w v xs
theorem Aw.keep{ok ok':Nat->Prop}{w w':World}{v:Value}{xs:List EnS.At}(h:Aw ok w v xs)(b:w.heap.size<=w'.heap.size)
  (hb:∀g,g<w.heap.size->ok g->w'.heap[g]?=w.heap[g]?)(hk:∀g,g<w.heap.size->ok g->ok' g):Aw ok' w' v xs:=
 Ad.imp h b hk λ_ _ _ c a hx=>hx.keep c a b hb hk
def Dk(ok:Nat->Prop)(w:World)(g o:Nat)(x:EnS.En):Prop:=w.cell? ⟨g,o,none⟩=some (Ac x.name)/\∃u,w.cell? ⟨g,o+1,none⟩=some u/\Aw ok w u x.attrs
theorem Dk.keep{ok ok':Nat->Prop}{w w':World}{g o:Nat}{x:EnS.En}(h:Dk ok w g o x)(c:g<w.heap.size)(b:ok g)(d:w.heap.size<=w'.heap.size)
  (hb:∀g,g<w.heap.size->ok g->w'.heap[g]?=w.heap[g]?)(hk:∀g,g<w.heap.size->ok g->ok' g):Dk ok' w' g o x:=by
 obtain⟨h1,u,h2,h3⟩:=h;exact⟨(World.cell?_of_block (a:=⟨g,o,none⟩) (hb g c b)).trans h1,u,(World.cell?_of_block (a:=⟨g,o+1,none⟩) (hb g c b)).trans h2,h3.keep d hb hk⟩
def CE(ok:Nat->Prop)(w:World)(v:Value)(xs:List EnS.En):Prop:=Ad 2 (Dk ok) ok w v xs
theorem CE.keep{ok ok':Nat->Prop}{w w':World}{v:Value}{xs:List EnS.En}(h:CE ok w v xs)(b:w.heap.size<=w'.heap.size)
  (hb:∀g,g<w.heap.size->ok g->w'.heap[g]?=w.heap[g]?)(hk:∀g,g<w.heap.size->ok g->ok' g):CE ok' w' v xs:=
 Ad.imp h b hk λ_ _ _ c a hx=>hx.keep c a b hb hk
theorem Am.call{ok:Nat->Prop}{w w':World}{v:Value}{xs:List iK}(h:Am ok w v xs)(hb:Below w.heap.size w w'):Am ok w' v xs:=h.keep hb.size (λg a _=>hb.block g a) (λ_ _ h=>h)
theorem Aw.call{ok:Nat->Prop}{w w':World}{v:Value}{xs:List EnS.At}(h:Aw ok w v xs)(hb:Below w.heap.size w w'):Aw ok w' v xs:=h.keep hb.size (λg a _=>hb.block g a) (λ_ _ h=>h)
theorem CE.call{ok:Nat->Prop}{w w':World}{v:Value}{xs:List EnS.En}(h:CE ok w v xs)(hb:Below w.heap.size w w'):CE ok w' v xs:=h.keep hb.size (λg a _=>hb.block g a) (λ_ _ h=>h)
theorem BG.call{ok:Nat->Prop}{w w':World}{g o:Nat}{x:EnS.At}(h:BG ok w g o x)(b:g<w.heap.size)(a:ok g)(hb:Below w.heap.size w w'):BG ok w' g o x:=h.keep b a hb.size (λg b _=>hb.block g b) (λ_ _ h=>h)
theorem Dk.call{ok:Nat->Prop}{w w':World}{g o:Nat}{x:EnS.En}(h:Dk ok w g o x)(b:g<w.heap.size)(a:ok g)(hb:Below w.heap.size w w'):Dk ok w' g o x:=h.keep b a hb.size (λg b _=>hb.block g b) (λ_ _ h=>h)
theorem Am.any{ok:Nat->Prop}{w:World}{v:Value}{xs:List iK}(h:Am ok w v xs):Am (λ_=>True) w v xs:=h.keep (aA _) (λ_ _ _=>rfl) (λ_ _ _=>trivial)
theorem Aw.any{ok:Nat->Prop}{w:World}{v:Value}{xs:List EnS.At}(h:Aw ok w v xs):Aw (λ_=>True) w v xs:=h.keep (aA _) (λ_ _ _=>rfl) (λ_ _ _=>trivial)
theorem CE.any{ok:Nat->Prop}{w:World}{v:Value}{xs:List EnS.En}(h:CE ok w v xs):CE (λ_=>True) w v xs:=h.keep (aA _) (λ_ _ _=>rfl) (λ_ _ _=>trivial)
abbrev BA:World->Value->List EnS.At->Prop:=Aw (λ_=>True)
abbrev Ci:World->Value->List EnS.En->Prop:=CE (λ_=>True)
theorem Dk.parts{w:World}{g o:Nat}{x:EnS.En}(h:Dk (λ_=>True) w g o x):w.cell? ⟨g,o,none⟩=some (.string ⟨x.name.toArray⟩)/\∃a c,w.cell? ⟨g,o+1,none⟩=some (.slice a x.attrs.length c)/\x.attrs.length<=c/\BA w (.slice a x.attrs.length c) x.attrs:=by obtain⟨h1,u,h2,h3⟩:=h;obtain⟨a,c,rfl,hc⟩:=Ad.form h3;exact⟨h1,a,c,h2,hc,h3⟩
theorem BG.parts{w:World}{g o:Nat}{x:EnS.At}(h:BG (λ_=>True) w g o x):w.cell? ⟨g,o,none⟩=some (.string ⟨x.typ.toArray⟩)/\∃a c,w.cell? ⟨g,o+1,none⟩=some (.slice a x.vals.length c)/\x.vals.length<=c/\Am (λ_=>True) w (.slice a x.vals.length c) x.vals:=by obtain⟨h1,u,h2,h3⟩:=h;obtain⟨a,c,rfl,hc⟩:=Ad.form h3;exact⟨h1,a,c,h2,hc,h3⟩
end
section
open Go.RowKit
structure RLay (α:Type) where
 k:Nat
 pos:0<k
 El:(Nat->Prop)->World->List Value->α->Prop
 keep:∀{ok ok':Nat->Prop} {w w':World} {cs:List Value} {x:α},El ok w cs x->w.heap.size<=w'.heap.size->(∀g,g<w.heap.size->ok g->w'.heap[g]?=w.heap[g]?)->(∀g,g<w.heap.size->ok g->ok' g)->El ok' w' cs x
 len:∀{ok:Nat->Prop} {w:World} {cs:List Value} {x:α},El ok w cs x->cs.length=k
 one:∀{ok:Nat->Prop} {w:World} {cs:List Value} {x:α},El ok w cs x->∀u∈cs,u.oneCell'=true
def AtG{α:Type}(L:RLay α)(ok:Nat->Prop)(w:World)(g o:Nat)(x:α):Prop:=∃cs,(∀(j:Nat) (u:Value),cs[j]?=some u->w.cell? ⟨g,o+j,none⟩=some u)/\L.El ok w cs x
theorem AtG.keep{α:Type}{L:RLay α}{ok ok':Nat->Prop}{w w':World}{g o:Nat}{x:α}(h:AtG L ok w g o x)(d:w'.heap[g]?=w.heap[g]?)(c:w.heap.size<=w'.heap.size)(hb:∀g,g<w.heap.size->ok g->w'.heap[g]?=w.heap[g]?)(hk:∀g,g<w.heap.size->ok g->ok' g):AtG L ok' w' g o x:=by obtain⟨cs,h1,h2⟩:=h;exact⟨cs,λj u b=>(World.cell?_of_block (a:=⟨g,o+j,none⟩) d).trans (h1 j u b),L.keep h2 c hb hk⟩
def Lu{α:Type}(L:RLay α)(rok ok:Nat->Prop)(w:World)(v:Value)(xs:List α):Prop:=Ad L.k (AtG L ok) rok w v xs
theorem Lu.keep{α:Type}{L:RLay α}{rok a ok ok':Nat->Prop}{w w':World}{v:Value}{xs:List α}(h:Lu L rok ok w v xs)(d:w.heap.size<=w'.heap.size)(e:∀g,g<w.heap.size->rok g->w'.heap[g]?=w.heap[g]?)(b:∀g,g<w.heap.size->rok g->a g)
  (hb:∀g,g<w.heap.size->ok g->w'.heap[g]?=w.heap[g]?)(hk:∀g,g<w.heap.size->ok g->ok' g):Lu L a ok' w' v xs:=
 Ad.imp h d b λg _ _ f c hx=>hx.keep (e g f c) d hb hk
theorem YH{k:Nat}:∀{a:List (List Value)},(∀cs∈a,cs.length=k)->∀(i j:Nat) (cs:List Value) (u:Value),a[i]?=some cs->cs[j]?=some u->a.flatten[i*k+j]?=some u
 |[],_,i,j,cs,u,h,_=>by simp at h
 |c :: a,hl,0,j,cs,u,h,hj=>by simp only[aH,bq] at h;subst h;have b:=(ak.1 hj).1;rw[List.flatten_cons,cN,bv,bN b];exact hj
 |c :: a,hl,i+1,j,cs,u,h,hj=>by
  have h1:=hl c (ai ..);have f:=YH (λd hd=>hl d (au _ hd)) i j cs u (by simpa using h) hj;have e:(i+1)*k+j=c.length+(i*k+j):=by rw[h1,fe];omega
  rw[List.flatten_cons,e,bH (by omega),dY];exact f
theorem Vv{k:Nat}:∀{a:List (List Value)},(∀cs∈a,cs.length=k)->a.flatten.length=a.length*k
 |[],_=>by simp
 |c :: a,hl=>by rw[List.flatten_cons,aT,hl c (ai ..),Vv (λd hd=>hl d (au _ hd)),aN,fe,eo]
def CY{α:Type}(L:RLay α)(T:TypeId)(P:Nat->Prop)(w:World)(B:Nat)(v:Value)(xs:List α):Prop:=
 ∃a:List (List Value),w.ownsRow B T L.k v xs.length a.flatten/\a.length=xs.length/\∀(i:Nat) (cs:List Value) (x:α),a[i]?=some cs->xs[i]?=some x->L.El (λg=>P g/\v.ownBlock≠some g) w cs x
theorem CY.empty{α:Type}(L:RLay α)(T:TypeId)(P:Nat->Prop)(w:World)(B:Nat):CY L T P w B (.slice none 0 0) []:=⟨[],World.ownsRow_nil w B _ _,rfl,λi cs x h=>by simp at h⟩
theorem CY.form{α:Type}{L:RLay α}{T:TypeId}{P:Nat->Prop}{w:World}{B:Nat}{v:Value}{xs:List α}(h:CY L T P w B v xs):∃a c,v=.slice a xs.length c:=by
 obtain⟨d,h,_⟩:=h;rcases h.2 with⟨rfl,b⟩|⟨g,cap,cur,rfl,_⟩
 ·exact⟨_,_,by rw[b]⟩
 ·exact⟨_,_,rfl⟩
theorem CY.call{α:Type}{L:RLay α}{T:TypeId}{P:Nat->Prop}{w w':World}{B:Nat}{v:Value}{xs:List α}(h:CY L T P w B v xs)(hb:Below w.heap.size w w'):CY L T P w' B v xs:=by obtain⟨c,h1,h2,h3⟩:=h;exact⟨c,World.ownsRow.kept h1 (Bc hb) (by cases v.ownBlock<;>simp),h2,λi u l a b=>L.keep (h3 i u l a b) hb.size (λg d _=>hb.block g d) (λg _ h=>h)⟩
theorem CY.mono{α:Type}{L:RLay α}{T:TypeId}{P:Nat->Prop}{w:World}{B a:Nat}{v:Value}{xs:List α}(h:CY L T P w B v xs)(hB:a<=B):CY L T P w a v xs:=by obtain⟨b,h1,h2,h3⟩:=h;exact⟨b,World.ownsRow.mono h1 hB,h2,h3⟩
theorem CY.lens{α:Type}{L:RLay α}{ok:Nat->Prop}{w:World}{a:List (List Value)}{xs:List α}(h2:a.length=xs.length)(h3:∀(i:Nat) (cs:List Value) (x:α),a[i]?=some cs->xs[i]?=some x->L.El ok w cs x):∀cs∈a,cs.length=L.k:=λcs b=>by obtain⟨i,c,rfl⟩:=bc.1 b;exact L.len (h3 i _ _ (aK c) (aK (show i<xs.length by omega)))
theorem CY.read{α:Type}{L:RLay α}{T:TypeId}{P:Nat->Prop}{w:World}{B:Nat}{v:Value}{xs:List α}(h:CY L T P w B v xs)(rok:Nat->Prop)(a:∀g,B<=g->rok g):Lu L rok P w v xs:=by
 obtain⟨b,h1,h2,h3⟩:=h;have p:=CY.lens h2 h3;rcases h1.2 with⟨rfl,d⟩|⟨g,cap,cur,rfl,l,m,d,q,hsz,o⟩
 ·exact⟨none,0,by rw[d],by omega,.inl (aY d)⟩
 ·refine⟨some ⟨g,0,none⟩,cap,rfl,d,.inr ⟨g,0,rfl,(ah.1 m).1,a g l,λj x f=>?_⟩⟩;have e:j<b.length:=by rw[h2];exact(ak.1 f).1
  have hu:=aK e;refine⟨b[j],λi u n=>?_,L.keep (h3 j _ x hu f) (aA _) (λ_ _ _=>rfl) (λg _ h=>h.1)⟩;have c0:=World.ownsRow.cells h1 (g:=g) rfl (j*L.k+i) u (YH p j i _ u hu n);have c:∀i,(⟨g,0,none⟩:Addr).add i=⟨g,0+i,none⟩:=λi=>by unfold Addr.add;split<;>simp_all
  rw[c] at c0;rw[cQ];exact c0
theorem CY.block{α:Type}{L:RLay α}{T:TypeId}{P:Nat->Prop}{w:World}{B:Nat}{v:Value}{xs:List α}(h:CY L T P w B v xs){g:Nat}(a:v.ownBlock=some g):B<=g/\g<w.heap.size:=by obtain⟨b,h1,_⟩:=h;exact World.ownsRow.lt h1 g a
theorem Afu{α:Type}{L:RLay α}{ok:Nat->Prop}{w:World}{xs:List α}{g o:Nat}(h:∀(j:Nat) (x:α),xs[j]?=some x->AtG L ok w g (o+j*L.k) x):
  ∃a:List (List Value),a.length=xs.length/\(∀(i:Nat) (cs:List Value) (x:α),a[i]?=some cs->xs[i]?=some x->L.El ok w cs x)/\(∀(j:Nat) (u:Value),a.flatten[j]?=some u->w.cell? ⟨g,o+j,none⟩=some u)/\∀u∈a.flatten,u.oneCell'=true:=by
 induction xs generalizing o with
 |nil=>exact⟨[],rfl,λi cs x h=>by simp at h,λj u h=>by simp at h,λu h=>by simp at h⟩
 |cons x xs p=>
  obtain⟨a,k1,l,m,n⟩:=p (o:=o+L.k) (λj y b=>by
   have:=h (j+1) y (by simpa using b);have e:o+(j+1)*L.k=o+L.k+j*L.k:=by rw[fe];omega
   rw[e] at this;exact this)
  obtain⟨cs,c1,c2⟩:=h 0 x rfl;have q:=L.len c2;refine⟨cs :: a,by simp[k1],λi ds y d c=>?_,λj u b=>?_,λu hu=>?_⟩
  ·cases i with
   |zero=>simp only[aH,bq] at d c;subst d;subst c;exact c2
   |succ i=>exact l i ds y (by simpa using d) (by simpa using c)
  ·rw[List.flatten_cons] at b;by_cases f:j<cs.length
   ·rw[bN f] at b;have:=c1 j u b;rw[cN,Nat.add_zero] at this;exact this
   ·rw[bH (by omega)] at b;have:=m _ u b;have e:o+L.k+(j-cs.length)=o+j:=by omega
    rw[e] at this;exact this
  ·rw[List.flatten_cons] at hu;rcases bB.1 hu with hu|hu
   ·exact L.one c2 u hu
   ·exact n u hu
theorem CY.grows{α:Type}{L:RLay α}{T:TypeId}{P:Nat->Prop}{w w':World}{B:Nat}{v j:Value}{xs ys:List α}{c dss:List (List Value)}(h2:c.length=xs.length)
  (h3:∀(i:Nat) (cs:List Value) (x:α),c[i]?=some cs->xs[i]?=some x->L.El (λg=>P g/\v.ownBlock≠some g) w cs x)(o:dss.length=ys.length)(p:∀(i:Nat) (cs:List Value) (x:α),dss[i]?=some cs->ys[i]?=some x->L.El (λg=>P g/\v.ownBlock≠some g) w cs x)
  (h4:w'.ownsRow B T L.k j (xs.length+ys.length) (c.flatten++dss.flatten))(n:w.grownBy w' v.ownBlock)(a:j.ownBlock=v.ownBlock\/j.ownBlock=some w.heap.size):CY L T P w' B j (xs++ys):=by
 have b:∀{cs:List Value} {x:α},L.El (λg=>P g/\v.ownBlock≠some g) w cs x->L.El (λg=>P g/\j.ownBlock≠some g) w' cs x:=λh=>L.keep h n.size (λg f d=>n.block g f (λe=>d.2 e.symm)) (λg f d=>⟨d.1,λe=>by
  rcases a with a|a
  ·exact d.2 (a▸e)
  ·rw[a] at e;cases e;omega⟩)
 refine⟨c++dss,by rw[List.flatten_append,aT];exact h4,by simp[h2,o],λi z y m l=>?_⟩;by_cases f:i<c.length
 ·rw[bN f] at m;rw[bN (by omega)] at l;exact b (h3 i z y m l)
 ·rw[bH (by omega)] at m;rw[bH (by omega),<-h2] at l;exact b (p _ z y m l)
theorem Vw{α:Type}(L:RLay α){w:World}(T p ty:TypeId)(f:prog.underlying p=some (.slice T)){i0:TypeInfo}{z:Value}
  (r:prog.info? T=some i0)(G:i0.zero=some z)(hsz:i0.size=L.k)(y:i0.bytes<=140)(l:z.cells.size=L.k)(P:Nat->Prop)(B:Nat)(v:Value)(xs:List α)(m:CY L T P w B v xs)(u:Value)(ys:List α)
  {rok:Nat->Prop}(C:Lu L rok (λg=>P g/\v.ownBlock≠some g) w u ys)(H:xs.length+ys.length<=1000000000)(hB:B<=w.heap.size):
  ∃b w',(Builtin.append_ #[p,p] ty #[v,u]).run prog w=.ok b w'/\CY L T P w' B b (xs++ys)/\Below B w w'/\w.grownBy w' v.ownBlock/\(b.ownBlock=v.ownBlock\/b.ownBlock=some w.heap.size):=by
 obtain⟨A,c,rfl,hc,a⟩:=C;obtain⟨F,h1,h2,h3⟩:=m;have hbm:(xs.length+ys.length)*i0.bytes<=140737488355328:=aX (gJ H y) (by decide);have hu:=run_underlying f;cases A with
 |none=>
  rcases a with rfl|⟨g,o,e,_⟩
  ·refine⟨v,w,?_,by rw[bK];exact⟨F,h1,h2,h3⟩,Below.refl B w,⟨rfl,rfl,rfl,aA _,λ_ _ _=>rfl⟩,.inl rfl⟩;rcases h1.2 with⟨rfl,J⟩|⟨g,cap,cur,rfl,_,_,E,_⟩
   ·simp[Builtin.append_,hu,sizeOf,typeInfo,r,Builtin.lenOf,Builtin.firstCells]
   ·simp[Builtin.append_,hu,sizeOf,typeInfo,r,Builtin.lenOf,Builtin.firstCells,E,storeCells]
  ·cases e
 |some I=>
  rcases a with rfl|⟨g,o2,e,K,_,hcell⟩
  ·obtain⟨b,w',t,k1,d,_,q⟩:=run_append_own_at (P:=prog) w B p ty T i0 z L.k i0.bytes f r G hsz rfl l L.pos v xs.length _ h1 I 0 c [] (by simp) (λj u s=>by simp at s) (λu hu=>by cases hu) (by simp at H;unfold maxLen;omega) (by simpa using hbm) hB;exact⟨b,w',t,CY.grows (ys:=[]) (dss:=[]) h2 h3 rfl (λi cs x h=>by simp at h) (by simpa using k1) d q,(Below.refl B w).grown d hB (λk hk=>(World.ownsRow.lt h1 k hk).1),d,q⟩
  ·cases e;obtain⟨dss,d1,d2,d3,d4⟩:=Afu hcell;obtain⟨b,w',t,k1,d,_,q⟩:=run_append_own_at (P:=prog) w B p ty T i0 z L.k i0.bytes f r G hsz rfl l L.pos v xs.length _ h1 ⟨g,o2,none⟩ ys.length c dss.flatten (by rw[Vv (CY.lens d1 d2),d1])
    (λj u s=>by
      have n:(⟨g,o2,none⟩:Addr).add j=⟨g,o2+j,none⟩:=by unfold Addr.add;split<;>simp_all
      rw[n];exact d3 j u s) d4 (by unfold maxLen;omega) hbm hB
   exact⟨b,w',t,CY.grows h2 h3 d1 d2 k1 d q,(Below.refl B w).grown d hB (λk hk=>(World.ownsRow.lt h1 k hk).1),d,q⟩
theorem Aha{α:Type}(L:RLay α){w:World}{o:Oper}{a:Act}{K:Act->World->Prop}{Q:Exit->Act->World->Prop}(T d:TypeId)(i:prog.underlying d=some (.slice T)){i0:TypeInfo}{z:Value}
  (r:prog.info? T=some i0)(l:i0.zero=some z)(hsz:i0.size=L.k)(j:i0.bytes<=140)(f:z.cells.size=L.k)(s x:Operand)
  (n:o.op=.call { callee:=.builtin .append,args:=#[s,x],argTypes:=#[d,d] })
  (P:Nat->Prop)(B:Nat)(v:Value)(xs:List α)(m:a.eval s=v)(c:CY L T P w B v xs)(u:Value)(ys:List α)(hx:a.eval x=u)
  {rok:Nat->Prop}(e:Lu L rok (λg=>P g/\v.ownBlock≠some g) w u ys)(p:xs.length+ys.length<=1000000000)(hB:B<=w.heap.size)
  (h:∀b w',CY L T P w' B b (xs++ys)->Below B w w'->w.grownBy w' v.ownBlock->(b.ownBlock=v.ownBlock\/b.ownBlock=some w.heap.size)->K (a.put o.dst b) w'):Oper.wp prog o a w K Q:=by
 obtain⟨b,w',q,h1,h2,h3,h4⟩:=Vw L T d o.type i r l hsz j f P B v xs c u ys e p hB;unfold Oper.wp execOp;simp only[n,resolve,invoke,builtin,Sem.run_bind,Sem.run_pure,Result.andThen_ok,List.map_toArray,cT,fh,m,hx,q];exact h b w' h1 h2 h3 h4
end
