/- The walks of the program's reader of a number's text. Conditions: as stated. -/
import Derived.Deep.DeepCutAuto
import Derived.Test.YtgngjfjaelgaeaaGreatDoorZPha
import Derived.Test.YtgngjfjaelgaeaaGreatDoorZRub
set_option maxRecDepth 100000
namespace Go.Proofs.YtgngjfjaelgaeaaGreatDoor
open Go.Proofs.Tryz
variable {A B:ByteArray} {l:iK}
section
open Go.RowKit
theorem PK(l:iK):(PhS.readS l).1.natAbs<=2147483648:=by
 unfold PhS.readS;split
 ·rename_i v a;have:=Lib.parseIntB_bounds a;simp only;have e:((2 ^ (32-1):Nat):Int)=2147483648:=by decide
  rw[e] at this;omega
 ·unfold Lib.intSat;simp only;split<;>decide
 ·decide
theorem Zc{n:Int}(h:n.natAbs<2 ^ 53)(h1:1000000<n.natAbs):okB (Fl.D n)=false:=by unfold okB Fl.numOf;rw[Fl.toInt_val (Fl.read_D n h).val];simp only;rw[aG (by omega)];rfl
def Zd(l:iK)(w:World)(e:Ending)(w':World):Prop:=e=.returned (.tuple #[.float .f64 (Fl.D (PhS.readS l).1),.bool (PhS.readS l).2])/\Below w.heap.size w w'
theorem AcS(s:ByteArray)(g:s.size<=281474976710656)(w:World)(hE:Env w):
  Calls prog 208 #[.string s] w (Zd s.data.toList w):=by
 have i:=PK s.data.toList;have h:floatOfInt .f64 (PhS.readS s.data.toList).1=Fl.D (PhS.readS s.data.toList).1:=Fl.D_eq _ (by omega);have f:=hZ9 h;clear h;cases b:(PhS.readS s.data.toList).2 with
 |true=>
  have a:=Ul s g b;have HR:=hZ9 b;clear b;generalize c:(PhS.readS s.data.toList).1=n at*;have d:=hZ9 c;clear c;go_enter func208,ntmps208;go_wp2_with fail;refine(a _).mono ?_;rintro e w1 ⟨rfl,hb⟩;go_wp2_with fail
  go_quiet (fail)
  go_wp2_with fail;go_ret2;exact⟨by rw[d.out,HR.out];first|rfl|(rw[<-f.out];rfl),Aa hb (below_drewN _ _)⟩
 |false=>
  have a:=Um s g b;have HR:=hZ9 b;clear b;generalize c:(PhS.readS s.data.toList).1=n at*;have d:=hZ9 c;clear c;go_enter func208,ntmps208;go_wp2_with fail;refine(a _ hE).mono ?_;rintro e w1 ⟨N,rfl,hb⟩;go_wp2_with fail
  go_quiet (fail)
  go_wp2_with fail;go_ret2;exact⟨by rw[d.out,HR.out];first|rfl|(rw[<-f.out];rfl),Aa hb (below_drewN _ _)⟩
theorem Oq(l:iK)(h:l.getLast?=some 105):Lib.hasSuffix l [105]=true/\Lib.trimSuffix l [105]=l.dropLast:=by
 obtain⟨r,rfl⟩:=eG.1 h;have h1:Lib.hasSuffix (r++[105]) [105]=true:=by unfold Lib.hasSuffix;simp
 refine⟨h1,?_⟩;unfold Lib.trimSuffix;rw[aJ h1];simp
theorem PM(l:iK)(h:l.getLast?≠some 105):Lib.hasSuffix l [105]=false/\Lib.trimSuffix l [105]=l:=by
 have h1:Lib.hasSuffix l [105]=false:=by
  cases a:Lib.hasSuffix l [105] with
  |false=>rfl
  |true=>exfalso;apply h;unfold Lib.hasSuffix at a;obtain⟨r,rfl⟩:=eD.1 a;simp
 refine⟨h1,?_⟩;unfold Lib.trimSuffix;rw[aG (by rw[h1];decide)]
theorem AcT(l:iK):(PhS.firstOf l).length<=l.length+1:=by
 unfold PhS.firstOf;split
 ·split
  ·simp
  ·simp;omega
 ·omega
theorem Aa9(l:iK):(PhS.secondOf l).length<=l.length+2:=by
 unfold PhS.secondOf PhS.bareSecond;split
 ·split
  ·simp;omega
  ·simp;omega
 ·simp
theorem WE(l:iK):(Lib.hasSuffix l [105]=true->l.getLast?=some 105/\Lib.trimSuffix l [105]=l.dropLast)/\(Lib.hasSuffix l [105]=false->l.getLast?≠some 105/\Lib.trimSuffix l [105]=l):=by
 by_cases h:l.getLast?=some 105
 ·obtain⟨g1,g2⟩:=Oq l h;exact⟨λ_=>⟨h,g2⟩,λa=>absurd (g1.symm.trans a) (by decide)⟩
 ·obtain⟨g1,g2⟩:=PM l h;exact⟨λa=>absurd (g1.symm.trans a) (by decide),λ_=>⟨h,g2⟩⟩
theorem Tv(B:ByteArray):B.toList.isEmpty=true\/(B.toList.isEmpty=false/\(B.toList==[43])=true)\/(B.toList.isEmpty=false/\(B.toList==[43])=false/\(B.toList==[45])=true)\/(B.toList.isEmpty=false/\(B.toList==[43])=false/\(B.toList==[45])=false):=by
 cases h0:B.toList.isEmpty with
 |true=>exact .inl rfl
 |false=>
  cases h1:(B.toList==[43]) with
  |true=>exact .inr (.inl ⟨rfl,rfl⟩)
  |false=>
   cases h2:(B.toList==[45]) with
   |true=>exact .inr (.inr (.inl ⟨rfl,rfl,rfl⟩))
   |false=>exact .inr (.inr (.inr ⟨rfl,rfl,rfl⟩))
theorem Jl(h:A=⟨l.toArray⟩):A.toList=l:=by rw[Lib.toList_data,h]
theorem AcU(h:A=⟨l.toArray⟩)(h0:A.toList.isEmpty=true):(if l=[] then [48] else l)=[48]:=by rw[Jl h] at h0;rw[aJ (dD.1 h0)]
theorem Aez(h:A=⟨l.toArray⟩)(h0:A.toList.isEmpty=false):(⟨(if l=[] then [48] else l).toArray⟩:ByteArray)=A:=by rw[Jl h] at h0;rw[aG (by intro a;subst a;cases h0),h]
theorem WG(h:B=⟨l.toArray⟩)(h0:B.toList.isEmpty=true):Value.string (B++⟨#[49]⟩)=Value.string ⟨(if l=[]\/l=[43]\/l=[45] then l++[49] else l).toArray⟩:=by rw[Jl h] at h0;rw[aJ (.inl (dD.1 h0)),h,<-BV]
theorem WH(h:B=⟨l.toArray⟩)(h0:(B.toList==[43])=true):Value.string (B++⟨#[49]⟩)=Value.string ⟨(if l=[]\/l=[43]\/l=[45] then l++[49] else l).toArray⟩:=by rw[Jl h] at h0;rw[aJ (.inr (.inl (ag.1 h0))),h,<-BV]
theorem WI(h:B=⟨l.toArray⟩)(h0:(B.toList==[45])=true):Value.string (B++⟨#[49]⟩)=Value.string ⟨(if l=[]\/l=[43]\/l=[45] then l++[49] else l).toArray⟩:=by rw[Jl h] at h0;rw[aJ (.inr (.inr (ag.1 h0))),h,<-BV]
theorem WJ(h:B=⟨l.toArray⟩)(h0:B.toList.isEmpty=false)(h1:(B.toList==[43])=false)(h2:(B.toList==[45])=false):Value.string B=Value.string ⟨(if l=[]\/l=[43]\/l=[45] then l++[49] else l).toArray⟩:=by
 rw[Jl h] at h0 h1 h2;rw[aG,h];rintro (a|a|a)
 ·subst a;cases h0
 ·exact aV.1 h1 a
 ·exact aV.1 h2 a
def Ae0(l:iK)(w:World)(a b:Value)(wc:World):Prop:=
 a=.string ⟨(PhS.firstOf l).toArray⟩/\b=.string ⟨(PhS.secondOf l).toArray⟩/\Below w.heap.size w wc
def QX(l:iK)(w:World)(e:Ending)(w':World):Prop:=
 e=.returned (match PhS.parseP l with
  |some (a,b)=>.tuple #[.complex .f64 (Fl.D a) (Fl.D b),.int .i64 0]
  |none=>.tuple #[.complex .f64 0 0,.int .i64 2])/\Below w.heap.size w w'
theorem La(s:ByteArray)(hs:s.size+2<=281474976710656)(w:World)(hE:Env w):
  Calls prog 186 #[.string s] w (QX s.data.toList w):=by
 have r:=λw=>strings_CutSuffix s ⟨#[105]⟩ w (by omega);go_enter func186,ntmps186;go_wp2_with fail;refine(r _).mono ?_;rintro e w1 ⟨rfl,R⟩;subst R;clear r;have k:=WE s.data.toList;have c:=hZ9 k;clear k;generalize Lib.trimSuffix s.data.toList (ByteArray.mk #[105]).data.toList=t at*;generalize Lib.hasSuffix s.data.toList (ByteArray.mk #[105]).data.toList=q at*
 go_upto_if 22 with fail
 go_cut [4,5] (λa b wc=>Ae0 s.data.toList w1 a b wc)
 case first=>
  cases q with
  |true=>
   have i:=hZ9 (c.out.1 rfl);clear c;have N:(⟨t.toArray⟩:ByteArray).size<=281474976710656:=by
    have h3:t.length=s.data.toList.length-1:=by rw[i.out.2,List.length_dropLast]
    have h4:=Lib.size_eq s;show t.length<=_
    omega
   have G:=λw hE=>VH ⟨t.toArray⟩ N w hE;have A3:=PhS.lastW_ge PhS.isSign t;have P:=PhS.lastW_lt PhS.isSign t;have hsz:(⟨t.toArray⟩:ByteArray).size=t.length:=rfl;rw[<-hsz] at P;have V:Hid (PhS.cutAt s.data.toList=(max (PhS.lastW PhS.isSign t) 0).toNat):=hZ9 (by unfold PhS.cutAt;rw[aJ i.out.1,<-i.out.2]);unfold Nn at G;obtain⟨m,T⟩:∃m:Nat,max (PhS.lastW PhS.isSign t) 0=(m:Int):=⟨(max (PhS.lastW PhS.isSign t) 0).toNat,by omega⟩
   generalize PhS.lastW PhS.isSign t=v at*;have A2:=hZ9 hsz;clear hsz;go_wp2_with fail;refine(G _ hE).mono ?_;rintro e w2 ⟨rfl,C⟩;go_wp2_with fail;have Z:m<=(⟨t.toArray⟩:ByteArray).size:=by omega
   go_quiet (fail)
   have y:t.length=(⟨t.toArray⟩:ByteArray).size:=rfl;have F:((⟨t.toArray⟩:ByteArray).extract 0 m)=⟨(t.take m).toArray⟩:=by apply eW;simp
   have E:((⟨t.toArray⟩:ByteArray).extract m t.length)=⟨(t.drop m).toArray⟩:=by apply eW;simp;exact af (by simp)
   have hF:PhS.firstOf s.data.toList=if t.take m=[] then [48] else t.take m:=by unfold PhS.firstOf;rw[V.out,<-i.out.2,aJ i.out.1,T];rfl
   have S:PhS.secondOf s.data.toList=if t.drop m=[]\/t.drop m=[43]\/t.drop m=[45] then t.drop m++[49] else t.drop m:=by unfold PhS.secondOf PhS.bareSecond;rw[V.out,<-i.out.2,aJ i.out.1,T];rfl
   have A0:((⟨t.toArray⟩:ByteArray).extract m t.length).size<=281474976710656:=by rw[df];omega
   have K:=hZ9 hF;have J:=hZ9 S;clear hF S;generalize (⟨t.toArray⟩:ByteArray).extract 0 m=A at*;generalize (⟨t.toArray⟩:ByteArray).extract m t.length=B at*;have U:=hZ9 F;have p:=hZ9 E;clear F E y;by_cases a0:A.toList.isEmpty=true
   ·have a1:=dD.1 a0;rcases Tv B with j|⟨j,o⟩|⟨j,o,u⟩|⟨j,o,u⟩
    all_goals
     go_wp2_with fail;go_meet;refine⟨by rw[K.out,AcU U.out a0],?_,Aa C (below_drewN _ _)⟩;rw[J.out]
     first
      |exact WG p.out j
      |exact WH p.out o
      |exact WI p.out u
      |exact WJ p.out j o u
   ·have a1:A.toList.isEmpty=false:=by simpa using a0
    rcases Tv B with j|⟨j,o⟩|⟨j,o,u⟩|⟨j,o,u⟩
    all_goals
     go_wp2_with fail;go_meet;refine⟨by rw[K.out,Aez U.out a1],?_,Aa C (below_drewN _ _)⟩;rw[J.out]
     first
      |exact WG p.out j
      |exact WH p.out o
      |exact WI p.out u
      |exact WJ p.out j o u
  |false=>have i:=hZ9 (c.out.2 rfl);clear c;have K:Hid (PhS.firstOf s.data.toList=s.data.toList):=hZ9 (by unfold PhS.firstOf;rw[aG i.out.1]);have J:Hid (PhS.secondOf s.data.toList=[48]):=hZ9 (by unfold PhS.secondOf;rw[aG i.out.1]);go_wp2_with fail;go_meet;exact⟨by rw[K.out],by rw[J.out],Below.refl _ _⟩
 case rest=>
  obtain⟨rfl,rfl,hb⟩:=hcut;have h1:=AcT s.data.toList;have h2:=Aa9 s.data.toList;clear c;have HP:Hid (PhS.parseP s.data.toList=if(PhS.readS (PhS.firstOf s.data.toList)).2/\(PhS.readS (PhS.secondOf s.data.toList)).2/\PhS.inR (PhS.readS (PhS.firstOf s.data.toList)).1 (PhS.readS (PhS.secondOf s.data.toList)).1=true/\PhS.text (PhS.readS (PhS.firstOf s.data.toList)).1 (PhS.readS (PhS.secondOf s.data.toList)).1=s.data.toList
    then some ((PhS.readS (PhS.firstOf s.data.toList)).1,(PhS.readS (PhS.secondOf s.data.toList)).1) else none):=hZ9 rfl
  have O:=Lib.size_eq s;by_cases X:s.data.toList.length+2<=281474976710656
  ·have z:=λw hE=>AcS ⟨(PhS.firstOf s.data.toList).toArray⟩ (aX h1 (by omega)) w hE;have r2:=λw hE=>AcS ⟨(PhS.secondOf s.data.toList).toArray⟩ (aX h2 (by omega)) w hE;unfold Zd at z r2;have g1:=PK (PhS.firstOf s.data.toList);have g2:=PK (PhS.secondOf s.data.toList);simp only at z r2;generalize PhS.readS (PhS.firstOf s.data.toList)=p1 at*;generalize PhS.readS (PhS.secondOf s.data.toList)=p2 at*;obtain⟨n,Y⟩:=p1;obtain⟨m,o2⟩:=p2;simp only at z r2 g1 g2 HP;clear O h1 h2;go_wp2_with fail;refine(z _ (hE.below hb)).mono ?_;rintro e w3 ⟨rfl,I⟩;go_wp2_with fail;refine(r2 _ ((hE.below hb).below I)).mono ?_;rintro e w4 ⟨rfl,M⟩;go_wp2_with fail;have d:=Aa hb (Aa I M);cases g:PhS.inR n m with
   |true=>
    have x:=hZ9 g;refine(AbY n m g _ (hE.below d)).mono ?_;rintro e w5 ⟨rfl,f⟩;clear g z r2;cases Y with
    |false=>go_wp2_with fail;go_ret2;exact⟨by rw[HP.out,aG (by simp)];rfl,Aa d f⟩
    |true=>
     cases o2 with
     |false=>go_wp2_with fail;go_ret2;exact⟨by rw[HP.out,aG (by simp)];rfl,Aa d f⟩
     |true=>
      by_cases L:(PhS.text n m==s.toList)=true
      ·have i:Hid (PhS.text n m=s.data.toList):=hZ9 (by rw[ag.1 L,Lib.toList_data]);go_wp2_with fail;go_ret2;exact⟨by rw[HP.out,aJ ⟨trivial,trivial,x.out,i.out⟩];rfl,Aa d f⟩
      ·have i:Hid (¬PhS.text n m=s.data.toList):=hZ9 (by rw[<-Lib.toList_data];intro hh;exact L (ag.2 hh));have A1:(PhS.text n m==s.toList)=false:=by simpa using L
       clear L;go_wp2_with fail;go_ret2;exact⟨by rw[HP.out,aG (λh=>i.out h.2.2.2)];rfl,Aa d f⟩
   |false=>
    have x:=hZ9 g;have H:(okB (Fl.D n)&&okB (Fl.D m))=false:=by
     unfold PhS.inR at g;have W:=bf g;by_cases h6:n.natAbs<=1000000
     ·rw[Zc (n:=m) (by omega) (by omega),bY]
     ·rw[Zc (n:=n) (by omega) (by omega),cM]
    have Q:Hid (PhS.parseP s.data.toList=none):=hZ9 (by rw[HP.out,aG (λh=>by have:=h.2.2.1;rw[x.out] at this;cases this)]);refine(Aed _ _ (DX (by omega)) (DX (by omega)) H _).mono ?_;rintro e w5 ⟨rfl,f⟩;clear g z r2 H;cases Y with
    |false=>go_wp2_with fail;go_ret2;exact⟨by rw[Q.out];rfl,Aa d f⟩
    |true=>
     cases o2 with
     |false=>go_wp2_with fail;go_ret2;exact⟨by rw[Q.out];rfl,Aa d f⟩
     |true=>go_wp2_with fail;go_ret2;exact⟨by rw[Q.out];rfl,Aa d f⟩
  ·exact absurd hs (by omega)
end
section
open Go.RowKit
theorem AfN(v:Value)(xs:List iK)(sep:ByteArray)(w:World)(h:Ah w v xs)(k:xs.length<=140737488355328)(hlen:(Lib.join xs sep.data.toList).length<=140737488355328):
  Calls prog 71 #[v,.string sep] w λe w'=>e=.returned (.string ⟨(Lib.join xs sep.data.toList).toArray⟩)/\Below w.heap.size w w':=by
 obtain⟨a,c,rfl,hc,h⟩:=h;rcases h with rfl|⟨g,o,rfl,m,h⟩
 ·refine(strings_Join_none a c sep w).mono ?_;rintro e w' ⟨rfl,rfl⟩;exact⟨rfl,Below.refl _ _⟩
 ·have i:(xs.map (λx=>(⟨x.toArray⟩:ByteArray))).map (·.data.toList)=xs:=by
   rw[ck];exact(cX (λx _=>rfl)).trans (fF xs)
  have d:(xs.map (λx=>(⟨x.toArray⟩:ByteArray))).length=xs.length:=b9 _;have f:=strings_Join g o c (xs.map (λx=>(⟨x.toArray⟩:ByteArray))) sep w (λj x hx=>by
   rw[ba] at hx;cases b:xs[j]? with
   |none=>rw[b] at hx;cases hx
   |some y=>
    rw[b] at hx;have hx:=aU hx;subst hx;exact h j y b) m (by rw[d];exact k) (by rw[d];exact hc) (by rw[i];exact hlen)
  rw[i,d] at f;exact f
theorem Yc{v:Int}(h:Lib.parseIntB 64 l=.ok v):-9223372036854775808<=v/\v<=9223372036854775807:=by
 unfold Lib.parseIntB at h;split at h
 ·cases h
 ·rename_i c r;simp only at h;split at h
  ·cases h
  ·cases h
  ·rename_i u hu;by_cases h1:¬c.toNat=45/\2 ^ (64-1)<=u
   ·rw[aJ h1] at h;cases h
   ·rw[aG h1] at h;by_cases h2:c.toNat=45/\2 ^ (64-1)<u
    ·rw[aJ h2] at h;cases h
    ·rw[aG h2] at h;injection h with h;have e:(2:Nat) ^ (64-1)=9223372036854775808:=by decide
     rw[e] at h1 h2;split at h<;>omega
theorem MJ(s:ByteArray)(c:s.size<=281474976710656)(v:Int)(h:Lib.parseIntB 64 s.data.toList=.ok v)(w:World):
  Calls prog 183 #[.string s,.int .i64 10,.int .i64 64] w λe w'=>e=.returned (.tuple #[v,.nilIface])/\Below w.heap.size w w':=by
 refine(strconv_ParseInt_10_at64_ok s (by omega) v h w).mono ?_;rintro e w' ⟨b,a⟩;refine⟨b,?_⟩;rcases a with rfl|⟨t,rfl⟩
 ·exact Below.refl _ _
 ·exact Lib.bytesWorld_below _ _ _
theorem UB(s:ByteArray)(g:s.size<=281474976710656)(h:∀v,Lib.parseIntB 64 s.data.toList≠.ok v)(w:World)(hE:Env w):
  Calls prog 183 #[.string s,.int .i64 10,.int .i64 64] w λe w'=>∃n N,e=.returned (.tuple #[.int .i64 n,.iface 255 (.pointer (some ⟨N,0,none⟩))])/\Below w.heap.size w w':=by
 obtain⟨i,p,a⟩:=hE.syn;obtain⟨f,j,b⟩:=hE.rng;cases d:Lib.parseIntB 64 s.data.toList with
 |ok v=>exact absurd d (h v)
 |range=>refine(Any.strconv_ParseInt_10_at64_range laysC174 s g d (.iface f j) w b (gi ⟨_,_,rfl⟩)).mono ?_;rintro e w' ⟨N,c,_,_,hb⟩;exact⟨_,N,c,hb⟩
 |_=>refine(Any.strconv_ParseInt_10_at64_syntax laysC174 s g d (.iface i p) w a (gi ⟨_,_,rfl⟩)).mono ?_;rintro e w' ⟨N,c,_,_,hb⟩;exact⟨_,N,c,hb⟩
def FZ(syn:Int)(l:iK)(w:World)(e:Ending)(w':World):Prop:=
 ∃t:iK,e=.returned (.tuple #[t,.bool (RuS.normV syn l).isSome])/\(∀s,RuS.normV syn l=some s->t=s)/\Below w.heap.size w w'
theorem WL(l:iK):(RuS.wordsL l).length<=l.length+1:=by unfold RuS.wordsL;have h1:=bJ (λp:iK=>!p.isEmpty) (RuS.pieces 32 l);have h2:=IU 32 l;omega
theorem AcV(s:ByteArray)(f:s.size<=1000000)(w:World)(hE:Env w):Calls prog 159 #[.int .i64 1,.string s] w (FZ 1 s.data.toList w):=by
 have g:=λw=>lower_c s (by omega) w;unfold Cb at g;have C:=Lib.size_eq s;have E:=RuS.lower_length s.data.toList;have j:=λw hE=>AfM ⟨(RuS.lower s.data.toList).toArray⟩ (by show (RuS.lower s.data.toList).length<=_;omega) w hE;unfold WC at j;have q:(⟨(RuS.lower s.data.toList).toArray⟩:ByteArray).data.toList=RuS.lower s.data.toList:=rfl;rw[q] at j;have r:=WL (RuS.lower s.data.toList);have p:=RuS.textS_le s.data.toList;have c:RuS.textS s.data.toList=Lib.join (RuS.wordsL (RuS.lower s.data.toList)) [32]:=rfl;have K:=hZ9 c;rw[c] at p;have m:=λv w h=>AfN v (RuS.wordsL (RuS.lower s.data.toList)) ⟨#[32]⟩ w h (by omega) (by show (Lib.join (RuS.wordsL (RuS.lower s.data.toList)) [32]).length<=_;omega);have x:(⟨#[32]⟩:ByteArray).data.toList=[32]:=rfl;rw[x] at m;rw[<-c] at m;have I:=hZ9 (RuS.textS_zero s.data.toList);clear c x q r p;have n:Hid (RuS.normV 1 s.data.toList=if(RuS.textS s.data.toList).isEmpty||RuS.hasNul s.data.toList then none else some (RuS.textS s.data.toList)):=hZ9 rfl;generalize RuS.textS s.data.toList=tx at*;generalize RuS.wordsL (RuS.lower s.data.toList)=ws at*;generalize RuS.lower s.data.toList=lo at*;clear C E;have k:=λw=>strings_IndexByte ⟨tx.toArray⟩ 0 w;have o:(⟨tx.toArray⟩:ByteArray).data.toList=tx:=rfl;have t:((0:Int).toNat.toUInt8)=0:=rfl;rw[o,t] at k;clear o t;have u:=hZ9 (RuS.indexByte_none tx 0);generalize Lib.indexByte tx 0=ix at*;go_enter func159,ntmps159;go_wp2_with fail;refine(g _).mono ?_;rintro e w1 ⟨rfl,y⟩;go_wp2_with fail;refine(j _ (hE.below y)).mono ?_;rintro e w2 ⟨v,rfl,G,z⟩;go_wp2_with fail;refine(m _ _ G).mono ?_;rintro e w3 ⟨rfl,F⟩;have a:=Aa y (Aa z F);cases H:tx.isEmpty with
 |true=>have i:=hZ9 H;go_wp2_with fail;go_ret2;exact⟨tx,by rw[n.out,i.out];rfl,λs f=>(by rw[n.out,i.out] at f;cases f),a⟩
 |false=>
  have i:=hZ9 H;by_cases d:ix<0
  ·have HX:=hZ9 d;go_wp2_with fail;refine(k _).mono ?_;rintro e w4 ⟨rfl,rfl⟩;go_wp2_with fail;go_ret2;have b:RuS.hasNul s.data.toList=false:=by
    unfold RuS.hasNul;rw[bg,<-I.out];exact u.out.1 HX.out
   exact⟨tx,by rw[n.out,i.out,b];rfl,λs f=>by rw[n.out,i.out,b] at f;exact aU f,a⟩
  ·have HX:=hZ9 d;have J:decide (ix<0)=false:=aB d;clear d;go_wp2_with fail;refine(k _).mono ?_;rintro e w4 ⟨rfl,rfl⟩;go_wp2_with fail;go_ret2;have b:RuS.hasNul s.data.toList=true:=by
    unfold RuS.hasNul;rw[az,<-I.out];exact fW λhc=>by have h1:=u.out.2 hc;have h2:=HX.out;omega
   exact⟨tx,by rw[n.out,i.out,b];rfl,λs f=>(by rw[n.out,i.out,b] at f;cases f),a⟩
theorem AcW(s:ByteArray)(w:World):Calls prog 159 #[.int .i64 2,.string s] w (FZ 2 s.data.toList w):=by go_enter func159,ntmps159;go_wp2_with fail;go_ret2;exact⟨s.data.toList,rfl,λt a=>aU a,Below.refl _ _⟩
theorem AcX(s:ByteArray)(i:s.size<=1000000)(w:World)(hE:Env w):Calls prog 159 #[.int .i64 4,.string s] w (FZ 4 s.data.toList w):=by
 have hp:=λw hE=>La s (by omega) w hE;unfold QX at hp;have h:Hid (RuS.normV 4 s.data.toList=if(PhS.parseP s.data.toList).isSome then some s.data.toList else none):=hZ9 rfl;cases d:PhS.parseP s.data.toList with
 |none=>rw[d] at hp;simp only at hp;have g:=hZ9 d;clear d;go_enter func159,ntmps159;go_wp2_with fail;refine(hp _ hE).mono ?_;rintro e w1 ⟨rfl,c⟩;go_wp2_with fail;go_ret2;exact⟨s.data.toList,by rw[h.out,g.out];rfl,λt f=>(by rw[h.out,g.out] at f;cases f),c⟩
 |some p=>obtain⟨a,b⟩:=p;rw[d] at hp;simp only at hp;have g:=hZ9 d;clear d;go_enter func159,ntmps159;go_wp2_with fail;refine(hp _ hE).mono ?_;rintro e w1 ⟨rfl,c⟩;go_wp2_with fail;go_ret2;exact⟨s.data.toList,by rw[h.out,g.out];rfl,λt f=>by rw[h.out,g.out] at f;exact aU f,c⟩
theorem WM(s:ByteArray):(⟨s.data.toList.toArray⟩:ByteArray)=s:=by obtain⟨⟨l⟩⟩:=s;rfl
theorem AaA(s:ByteArray)(g:s.size<=1000000)(hp:∀v,Lib.parseIntB 64 s.data.toList≠.ok v)(w:World)(hE:Env w):Calls prog 159 #[.int .i64 3,.string s] w (FZ 3 s.data.toList w):=by
 have a:=λw hE=>UB s (by omega) hp w hE;have c:Hid (RuS.normV 3 s.data.toList=none):=hZ9 (by
  show (if(RuS.intS s.data.toList).isSome then some s.data.toList else none)=none
  have:RuS.intS s.data.toList=none:=by
   unfold RuS.intS;split
   ·rename_i n f;exact absurd f (hp n)
   ·rfl
  rw[this];rfl)
 clear hp;go_enter func159,ntmps159;go_wp2_with fail;refine(a _ hE).mono ?_;rintro e w1 ⟨n,N,rfl,b⟩;go_wp2_with fail;go_ret2;exact⟨s.data.toList,by rw[c.out];rfl,λt d=>(by rw[c.out] at d;cases d),b⟩
theorem AaB(s:ByteArray)(p:s.size<=1000000)(v:Int)(hp:Lib.parseIntB 64 s.data.toList=.ok v)(w:World)(hE:Env w):Calls prog 159 #[.int .i64 3,.string s] w (FZ 3 s.data.toList w):=by
 have h:=λw=>MJ s (by omega) v hp w;have n:=Yc hp;have g:=λw hE=>KO v n.1 n.2 w hE;have f:=λw=>strings_TrimPrefix s ⟨#[45]⟩ w;have c:(⟨#[45]⟩:ByteArray).data.toList=[45]:=rfl;rw[c] at f;clear c;have i:Hid (RuS.normV 3 s.data.toList=if(Lib.itoa v==s.data.toList)&&decide ((Lib.trimPrefix s.data.toList [45]).length<=18) then some s.data.toList else none):=hZ9 (by
  show (if(RuS.intS s.data.toList).isSome then some s.data.toList else none)=_
  unfold RuS.intS;rw[hp];simp only;split<;>rfl)
 clear hp n;generalize Lib.itoa v=iv at*;have k:s.data.toList=s.toList:=(Lib.toList_data s).symm;have j:=hZ9 k;clear k;cases h1:(iv==s.toList) with
 |false=>have H1:Hid ((iv==s.data.toList)=false):=hZ9 (by rw[j.out];exact h1);go_enter func159,ntmps159;go_wp2_with fail;refine(h _).mono ?_;rintro e w1 ⟨rfl,a⟩;go_wp2_with fail;refine(g _ (hE.below a)).mono ?_;rintro e w2 ⟨rfl,b⟩;go_wp2_with fail;go_ret2;exact⟨s.data.toList,by rw[i.out,H1.out];rfl,λt d=>(by rw[i.out,H1.out] at d;cases d),Aa a b⟩
 |true=>
  have H1:Hid ((iv==s.data.toList)=true):=hZ9 (by rw[j.out];exact h1);generalize Lib.trimPrefix s.data.toList [45]=tp at*;by_cases h2:tp.length<=18
  ·have m:=hZ9 (aI h2);have o:decide ((tp.length:Int)<=18)=true:=aI (by omega);go_enter func159,ntmps159;go_wp2_with fail;refine(h _).mono ?_;rintro e w1 ⟨rfl,a⟩;go_wp2_with fail;refine(g _ (hE.below a)).mono ?_;rintro e w2 ⟨rfl,b⟩;go_wp2_with fail;refine(f _).mono ?_;rintro e w3 ⟨rfl,rfl⟩;go_wp2_with fail;go_ret2;exact⟨s.data.toList,by rw[i.out,H1.out,m.out];rfl,λt d=>(by rw[i.out,H1.out,m.out] at d;exact aU d),Aa a b⟩
  ·have m:=hZ9 (aB h2);have o:decide ((tp.length:Int)<=18)=false:=aB (by omega);go_enter func159,ntmps159;go_wp2_with fail;refine(h _).mono ?_;rintro e w1 ⟨rfl,a⟩;go_wp2_with fail;refine(g _ (hE.below a)).mono ?_;rintro e w2 ⟨rfl,b⟩;go_wp2_with fail;refine(f _).mono ?_;rintro e w3 ⟨rfl,rfl⟩;go_wp2_with fail;go_ret2;exact⟨s.data.toList,by rw[i.out,H1.out,m.out];rfl,λt d=>(by rw[i.out,H1.out,m.out] at d;cases d),Aa a b⟩
theorem WN(k:Nat)(h1:1<=k)(h4:k<=4)(s:ByteArray)(a:s.size<=1000000)(w:World)(hE:Env w):Calls prog 159 #[k,.string s] w (FZ (k:Int) s.data.toList w):=by
 have hk:k=1\/k=2\/k=3\/k=4:=by omega
 rcases hk with rfl|rfl|rfl|rfl
 ·exact AcV s a w hE
 ·exact AcW s w
 ·by_cases h:∃v,Lib.parseIntB 64 s.data.toList=.ok v
  ·obtain⟨v,b⟩:=h;exact AaB s a v b w hE
  ·exact AaA s a (λv b=>h ⟨v,b⟩) w hE
 ·exact AcX s a w hE
def AX(name l:iK)(w:World)(e:Ending)(w':World):Prop:=e=.returned (.tuple #[.string ⟨(RuS.normal name l).1.toArray⟩,.int .i64 (RuS.normal name l).2])/\Below w.heap.size w w'
theorem AX.mk'{name:iK}{w w':World}{r:iK×Int}(h:RuS.normal name l=r)(hb:Below w.heap.size w w'):AX name l w (.returned (.tuple #[r.1,r.2])) w':=by unfold AX;rw[h];exact⟨rfl,hb⟩
theorem Ge(nm s:ByteArray)(L:nm.size<=9223372036854775807)(M:s.size<=9223372036854775807)(w:World)(hE:Env w):
  Calls prog 126 #[.string nm,.string s] w (AX nm.data.toList s.data.toList w):=by
 have d:=λw=>Gx nm L w;unfold Ak at d;have i:=RuS.typeM_all (RuS.lower nm.data.toList);have n:Hid (RuS.normal nm.data.toList s.data.toList=RuS.normalR (RuS.typeOf nm.data.toList).2 s.data.toList):=hZ9 rfl;have f:RuS.typeOf nm.data.toList=([],0)\/(1<=(RuS.typeOf nm.data.toList).2/\(RuS.typeOf nm.data.toList).2<=5/\1<=(RuS.typeOf nm.data.toList).1.length/\(RuS.typeOf nm.data.toList).1.length<=17):=i;clear i;generalize RuS.typeOf nm.data.toList=r at*;obtain⟨t,j⟩:=r;simp only at d n f;have q:=Lib.size_eq s;by_cases h0:j=0
 ·subst h0;go_enter func126,ntmps126;go_wp2_with fail;refine(d _).mono ?_;rintro e w1 ⟨rfl,c⟩;go_wp2_with fail;go_ret2;exact AX.mk' (r:=([],5)) (by rw[n.out];rfl) c
 by_cases h5:j=5
 ·subst h5;go_enter func126,ntmps126;go_wp2_with fail;refine(d _).mono ?_;rintro e w1 ⟨rfl,c⟩;go_wp2_with fail;go_ret2;exact AX.mk' (r:=([],1)) (by rw[n.out];rfl) c
 have H:1<=j/\j<=4:=by
  rcases f with h|h
  ·injection h with _ h;exact absurd h h0
  ·omega
 have g0:(j==0)=false:=by simpa using h0
 have g5:(j==5)=false:=by simpa using h5
 have H0:=hZ9 h0;have v:=hZ9 h5;clear h0 h5 f;by_cases o:s.data.toList.length<1
 ·have G:s.toList.isEmpty=true:=by rw[Lib.toList_data];exact dD.2 (aY (by omega))
  have C:=hZ9 o;clear o;go_enter func126,ntmps126;go_wp2_with fail;refine(d _).mono ?_;rintro e w1 ⟨rfl,c⟩;go_wp2_with fail;go_ret2;exact AX.mk' (r:=([],2)) (by rw[n.out];unfold RuS.normalR;rw[aG H0.out,aG v.out,aJ (.inl C.out)]) c
 have G:s.toList.isEmpty=false:=by
  rw[Lib.toList_data];cases J:s.data.toList with
  |nil=>rw[J] at o;exact absurd (by decide) o
  |cons a b=>rfl
 by_cases z:200<s.data.toList.length
 ·have C:=hZ9 z;have y:200<s.size:=by omega
  clear o z q;go_enter func126,ntmps126;go_wp2_with fail;refine(d _).mono ?_;rintro e w1 ⟨rfl,c⟩;go_wp2_with fail;go_ret2;exact AX.mk' (r:=([],2)) (by rw[n.out];unfold RuS.normalR;rw[aG H0.out,aG v.out,aJ (.inr C.out)]) c
 have y:s.size<=200:=by omega
 have I:Hid (¬(s.data.toList.length<1\/200<s.data.toList.length)):=hZ9 (by omega);clear o z q;obtain⟨k,rfl⟩:∃k:Nat,j=(k:Int):=⟨j.toNat,by omega⟩
 have g:=λw hE=>WN k (by omega) (by omega) s (by omega) w hE;unfold FZ at g;have K:decide ((200:Int)<(s.size:Int))=false:=aB (by omega);cases p:RuS.normV (k:Int) s.data.toList with
 |none=>rw[p] at g;simp only[Option.isSome_none] at g;have F:=hZ9 p;clear p;go_enter func126,ntmps126;go_wp2_with fail;refine(d _).mono ?_;rintro e w1 ⟨rfl,c⟩;go_wp2_with fail;refine(g _ (hE.below c)).mono ?_;rintro e w2 ⟨t2,rfl,_,m⟩;go_wp2_with fail;go_ret2;exact AX.mk' (r:=([],2)) (by rw[n.out];unfold RuS.normalR;rw[aG H0.out,aG v.out,aG I.out,F.out]) (Aa c m)
 |some x=>rw[p] at g;simp only[Option.isSome_some] at g;have F:=hZ9 p;clear p;go_enter func126,ntmps126;go_wp2_with fail;refine(d _).mono ?_;rintro e w1 ⟨rfl,c⟩;go_wp2_with fail;refine(g _ (hE.below c)).mono ?_;rintro e w2 ⟨t2,rfl,u,m⟩;have E:=u x rfl;clear u;subst E;go_wp2_with fail;go_ret2;exact AX.mk' (r:=(_,0)) (by rw[n.out];unfold RuS.normalR;rw[aG H0.out,aG v.out,aG I.out,F.out]) (Aa c m)
end
section
open Go.RowKit
theorem Ah.laid(w:World)(xs:List iK)(n:Nat)(a:xs.length=n):Ah (w.alloc (.cells (xs.map Ac).toArray 9)) (.slice (some ⟨w.heap.size,0,none⟩) n n) xs:=by subst a;refine⟨_,_,rfl,aA _,.inr ⟨w.heap.size,0,rfl,by simp,λj y b=>?_⟩⟩;have h:=(Whole.made w 9 (xs.map Ac).toArray).cell j;rw[bv,h];simp[b]
end
