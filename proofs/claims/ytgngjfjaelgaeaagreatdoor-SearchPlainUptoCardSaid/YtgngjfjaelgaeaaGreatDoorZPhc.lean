/- The walks of the reference's numbers: their texts, what they are read of, how they are held against the program's. Conditions: as stated. -/
import Derived.Deep.RegionHeld3
import Derived.Deep.DeepCutAuto
import Derived.Test.YtgngjfjaelgaeaaGreatDoorZPha
set_option maxRecDepth 100000
set_option maxHeartbeats 1000000
namespace Go.Proofs.YtgngjfjaelgaeaaGreatDoor
open Go.Proofs.Tryz
variable {s:ByteArray} {x y:Int} {l:iK} {c:UInt8} {w w' wc:World}
section
open Go.RowKit
def Ahi(a b:Int):Value:=.agg #[a,b]
theorem PD(b:Int)(hb:b.natAbs<=1000000)(w:World)(hE:Env w):
  Calls prog 193 #[b] w λe w'=>e=.returned (.string ⟨(PhS.sec b).toArray⟩)/\Below w.heap.size w w':=by
 have h:=PhS.itoa_len (n:=b) (by omega);by_cases h1:b=1
 ·subst h1;go_enter func193,ntmps193;go_wp2_with fail;go_ret;exact⟨rfl,Below.refl _ _⟩
 ·by_cases h2:b=-1
  ·subst h2;go_enter func193,ntmps193;go_wp2_with fail;go_ret;exact⟨rfl,Below.refl _ _⟩
  ·have a:PhS.sec b=Lib.itoa b++[105]:=by unfold PhS.sec;rw[aG h1,aG h2]
   have f:=hZ9 a;have g:(b==1)=false:=by simpa using h1
   have t2:(b==-1)=false:=by simpa using h2
   clear a h1 h2;go_enter func193,ntmps193;go_wp2_with fail;refine(KO b (by omega) (by omega) _ hE).mono ?_;rintro e w1 ⟨rfl,d⟩;go_wp2_with fail;go_ret;exact⟨by rw[f.out,<-BV];rfl,d⟩
theorem Afc{W:World}{v0 a:Value}(h0:W.cell? ⟨w.heap.size,0,none⟩=some v0)(h1:W.cell? ⟨w.heap.size,1,none⟩=some a)(hE:Env W)(hb:Below w.heap.size w W)(h:Below W.heap.size W w'):
  w'.cell? ⟨w.heap.size,0,none⟩=some v0/\w'.cell? ⟨w.heap.size,1,none⟩=some a/\Env w'/\Below w.heap.size w w':=
 ⟨CG h (aA _) h0,CG h (aA _) h1,hE.below h,hb.trans (h.mono hb.size)⟩
theorem AbZ{v0 a:Value}{t:TypeId}(hE:Env w):
  (w.alloc (Obj.cells #[v0,a] t)).drew.cell? ⟨w.heap.size,0,none⟩=some v0/\(w.alloc (Obj.cells #[v0,a] t)).drew.cell? ⟨w.heap.size,1,none⟩=some a/\Env (w.alloc (Obj.cells #[v0,a] t)).drew/\Below w.heap.size w (w.alloc (Obj.cells #[v0,a] t)).drew:=
 ⟨by simp[go_sem],by simp[go_sem],(hE.alloc _).drew,((Below.refl _ _).alloc (aA _) _).drew⟩
theorem Aee(a b:Int)(j:a.natAbs<=1000000)(hb:b.natAbs<=1000000)(f:a≠0)(h0:0<b)(w:World)(hE:Env w):
  Calls prog 166 #[.agg #[a,b]] w λe w'=>e=.returned (.string ⟨(PhS.text a b).toArray⟩)/\Below w.heap.size w w':=by
 have m:=PhS.itoa_len (n:=a) (by omega);have h:=PhS.sec_len (b:=b) hb;have k:(b==0)=false:=by simp;omega
 have t2:(a==0)=false:=by simpa using f
 have d:PhS.text a b=(Lib.itoa a++[43])++PhS.sec b:=by unfold PhS.text;rw[aG (by omega),aG f,aJ h0];simp
 have i:=hZ9 d;have z1:¬9223372036854775807<(Lib.itoa a).length+1:=by omega
 have z2:¬9223372036854775807<(Lib.itoa a).length+1+(PhS.sec b).length:=by omega
 clear d f;go_enter func166,ntmps166;go_wp2_with fail
 go_region_held3 (λw'=>w'.cell? ⟨w.heap.size,0,none⟩=some (.int .i64 a)/\w'.cell? ⟨w.heap.size,1,none⟩=some (.int .i64 b)/\Env w'/\Below w.heap.size w w')
  (first|exact AbZ hE|(go_split_ands;exact Afc (by assumption) (by assumption) (by assumption) (by assumption) g)|go_keep)
  (first
    |(go_at_call 184;go_split_ands;refine(KO a (by omega) (by omega) _ ?_).mono ?_;assumption;rintro e w1 ⟨rfl,g⟩)
    |(go_at_call 193;go_split_ands;refine(PD b hb _ ?_).mono ?_;assumption;rintro e w2 ⟨rfl,g⟩))
 all_goals go_wp2_with fail
 all_goals go_split_ands
 all_goals go_ret
 all_goals exact⟨by rw[i.out,<-BV,<-BV];rfl,by(first|assumption|exact Aa (by assumption) (by assumption))⟩
theorem Aef(a b:Int)(j:a.natAbs<=1000000)(hb:b.natAbs<=1000000)(f:a≠0)(h0:b<0)(w:World)(hE:Env w):
  Calls prog 166 #[.agg #[a,b]] w λe w'=>e=.returned (.string ⟨(PhS.text a b).toArray⟩)/\Below w.heap.size w w':=by
 have m:=PhS.itoa_len (n:=a) (by omega);have h:=PhS.sec_len (b:=b) hb;have k:(b==0)=false:=by simp;omega
 have t2:(a==0)=false:=by simpa using f
 have d:PhS.text a b=Lib.itoa a++PhS.sec b:=by unfold PhS.text;rw[aG (by omega),aG f,aG (by omega)]
 have i:=hZ9 d;have z2:¬9223372036854775807<(Lib.itoa a).length+(PhS.sec b).length:=by omega
 clear d f;go_enter func166,ntmps166;go_wp2_with fail
 go_region_held3 (λw'=>w'.cell? ⟨w.heap.size,0,none⟩=some (.int .i64 a)/\w'.cell? ⟨w.heap.size,1,none⟩=some (.int .i64 b)/\Env w'/\Below w.heap.size w w')
  (first|exact AbZ hE|(go_split_ands;exact Afc (by assumption) (by assumption) (by assumption) (by assumption) g)|go_keep)
  (first
    |(go_at_call 184;go_split_ands;refine(KO a (by omega) (by omega) _ ?_).mono ?_;assumption;rintro e w1 ⟨rfl,g⟩)
    |(go_at_call 193;go_split_ands;refine(PD b hb _ ?_).mono ?_;assumption;rintro e w2 ⟨rfl,g⟩))
 all_goals go_wp2_with fail
 all_goals go_split_ands
 all_goals go_ret
 all_goals exact⟨by rw[i.out,<-BV];rfl,by(first|assumption|exact Aa (by assumption) (by assumption))⟩
theorem Aca(a:Int)(d:a.natAbs<=1000000)(w:World)(hE:Env w):
  Calls prog 166 #[.agg #[a,.int .i64 0]] w λe w'=>e=.returned (.string ⟨(PhS.text a 0).toArray⟩)/\Below w.heap.size w w':=by
 go_enter func166,ntmps166;go_wp2_with fail;refine(KO a (by omega) (by omega) _ (hE.alloc _)).mono ?_;rintro e w1 ⟨rfl,b⟩;go_wp2_with fail;go_ret;exact⟨rfl,Aa ((Below.refl _ _).alloc (aA _) _) b⟩
theorem XI(b:Int)(hb:b.natAbs<=1000000)(h0:b≠0)(w:World)(hE:Env w):
  Calls prog 166 #[.agg #[.int .i64 0,b]] w λe w'=>e=.returned (.string ⟨(PhS.text 0 b).toArray⟩)/\Below w.heap.size w w':=by
 have g:(b==0)=false:=by simpa using h0
 have a:PhS.text 0 b=PhS.sec b:=by unfold PhS.text;rw[aG h0,aJ rfl]
 have f:=hZ9 a;clear a h0;go_enter func166,ntmps166;go_wp2_with fail;refine(PD b hb _ (hE.alloc _)).mono ?_;rintro e w1 ⟨rfl,d⟩;go_wp2_with fail;go_ret;exact⟨by rw[f.out];rfl,Aa ((Below.refl _ _).alloc (aA _) _) d⟩
theorem Acb(a b:Int)(h:PhS.inR a b=true)(w:World)(hE:Env w):
  Calls prog 166 #[.agg #[a,b]] w λe w'=>e=.returned (.string ⟨(PhS.text a b).toArray⟩)/\Below w.heap.size w w':=by
 have g:a.natAbs<=1000000/\b.natAbs<=1000000:=b7 h;obtain⟨d,hb⟩:=g;by_cases f:b=0
 ·subst f;exact Aca a d w hE
 by_cases a0:a=0
 ·subst a0;exact XI b hb f w hE
 by_cases hp:0<b
 ·exact Aee a b d hb a0 hp w hE
 ·exact Aef a b d hb a0 (by omega) w hE
theorem VO(a b:Int)(d:a.natAbs<=9223372036854775807)(hb:b.natAbs<=9223372036854775807)(w:World):
  Calls prog 165 #[.agg #[a,b]] w λe w'=>e=.returned (.bool (PhS.inR a b))/\Below w.heap.size w w':=by
 go_enter func165,ntmps165;go_wp2_with fail
 all_goals go_ret
 all_goals refine⟨Rz ?_,(Below.refl _ _).alloc (aA _) _⟩
 all_goals unfold PhS.inR
 all_goals first|(rw[bM];omega)|(symm;rw[bg];omega)
end
section
open Go.RowKit
def RB(u:ByteArray)(n i:Value):Prop:=∃k:Nat,k<=u.size/\i=.int .i64 k/\n=.int .i64 (PhS.valFrom 0 (u.data.toList.take k))/\(u.data.toList.take k).all PhS.isDig=true
def CM(l:iK)(w:World)(e:Ending)(w':World):Prop:=e=.returned (.tuple #[.int .i64 (PhS.numV l),.bool (PhS.numOk l)])/\w=w'
theorem CM.yes{v:Int}(h:PhS.numS l=some v):CM l w (.returned (.tuple #[v,true])) w:=by refine⟨?_,rfl⟩;unfold PhS.numV PhS.numOk;rw[h];rfl
theorem CM.no(h:PhS.numS l=none):CM l w (.returned (.tuple #[.int .i64 0,false])) w:=by refine⟨?_,rfl⟩;unfold PhS.numV PhS.numOk;rw[h];rfl
theorem PE(h:0<s.size):∃r,s.data.toList=s[0] :: r:=by
 obtain⟨⟨l⟩⟩:=s;cases l with
 |nil=>exact absurd h (by decide)
 |cons c r=>exact⟨r,rfl⟩
theorem FA{n:Nat}(a:n<256)(h:(c.toNat:Int)=n):c=UInt8.ofNat n:=by apply cd.1;rw[bz];omega
theorem JP(h:0<s.size)(a:(s[0].toNat:Int)=45\/(s[0].toNat:Int)=43):PhS.bare s.data.toList=(s.extract 1 s.size).data.toList:=by
 obtain⟨r,b⟩:=PE h;rw[Lib.extract_to_end,b];have:PhS.isSign s[0]=true:=by
  rcases a with h|h
  ·rw[FA (n:=45) (by decide) h];rfl
  ·rw[FA (n:=43) (by decide) h];rfl
 unfold PhS.bare;simp only;rw[this];rfl
theorem SQ(h:0<s.size)(h1:¬(s[0].toNat:Int)=45)(h2:¬(s[0].toNat:Int)=43):PhS.bare s.data.toList=s.data.toList:=by
 obtain⟨r,a⟩:=PE h;rw[a];have:PhS.isSign s[0]=false:=by unfold PhS.isSign;rw[cz,aV,aV];exact⟨λe=>h2 (by rw[e];rfl),λe=>h1 (by rw[e];rfl)⟩
 unfold PhS.bare;simp only;rw[this];rfl
theorem GY(h:0<s.size):s.data.toList.head?=some s[0]:=by obtain⟨r,a⟩:=PE h;rw[a];rfl
theorem Jz(h:48<=(c.toNat:Int)/\(c.toNat:Int)<=57):PhS.isDig c=true:=aI (by omega)
theorem KV(h:¬(48<=(c.toNat:Int)/\(c.toNat:Int)<=57)):PhS.isDig c=false:=aB (by omega)
theorem all_not(u:ByteArray)(k:Nat)(hk:k<u.size)(h:PhS.isDig u[k]=false):u.data.toList.all PhS.isDig=false:=by rw[fN];exact⟨u[k],aZ (by simpa using hk),by rw[h];simp⟩
theorem Ia{k:IntKind}{a b:Int}(h:a=b):Value.int k a=Value.int k b:=by rw[h]
theorem VP(s:ByteArray)(h0:s.size=0)(w:World):Calls prog 164 #[.string s] w (CM s.data.toList w):=by
 have a:s=ByteArray.empty:=by
  obtain⟨⟨l⟩⟩:=s;cases l with
  |nil=>rfl
  |cons c r=>have h1:(c :: r).length=0:=h0;cases h1
 subst a;go_enter func164,ntmps164;go_wp2_with fail;go_ret2;exact CM.no rfl
set_option linter.unusedVariables false in
theorem Aac(s:ByteArray)(h1:2<=s.size)(F:s.size<=10)(d:(s[0].toNat:Int)=45)(w:World):
  Calls prog 164 #[.string s] w (CM s.data.toList w):=by
 have m:=hZ9 (JP (s:=s) (by omega) (.inl d));have j:s.data.toList.head?=some 45:=by rw[GY (by omega),FA (n:=45) (by decide) d];rfl
 have j:=hZ9 j;go_enter func164,ntmps164;go_wp2_with fail;have B:(s.extract 1 s.size).size<=9:=by simp;omega
 have r:1<=(s.extract 1 s.size).size:=by simp;omega
 generalize s.extract 1 s.size=u at*;clear d;go_loop [4,6] (λn i=>RB u n i) (λ_ i=>u.size-(intOf i).toNat)
 case atStart=>exact⟨0,aR _,rfl,rfl,rfl⟩
 case round=>
  obtain⟨k,hk,rfl,rfl,hd⟩:=hrel;have E:PhS.valFrom 0 (u.data.toList.take k)<1000000000:=by
   have:=PhS.valFrom_lt _ hd;have h2:(u.data.toList.take k).length<=9:=by simp;omega
   have h3:10 ^ (u.data.toList.take k).length<=10 ^ 9:=bh (by decide) h2;omega
  by_cases e:k<u.size
  ·have o:=hZ9 (PhS.take_snoc u k e);have p:=hZ9 hd;clear hd;generalize g:PhS.valFrom 0 (u.data.toList.take k)=v at*;have A:=hZ9 g;clear g;by_cases a:48<=(u[k].toNat:Int)/\(u[k].toNat:Int)<=57
   ·have z:=hZ9 (Jz a);have q:=hZ9 a;obtain⟨d1,d2⟩:=a
    go_wp2
    go_round
    case rel=>
     refine⟨k+1,by omega,by go_num,Ia ?_,?_⟩
     ·rw[o.out,PhS.valFrom_snoc,A.out];have:=q.out;omega
     ·rw[o.out,dL,p.out];simp[z.out]
    case measure=>simp[intOf];omega
   ·have f:=all_not u k e (KV a);have C:=hZ9 (PhS.numS_no m.out (.inr (.inr f)));clear f
    go_wp2
    all_goals go_ret2
    all_goals exact CM.no C.out
  ·have h:k=u.size:=by omega
   have b:u.data.toList.take k=u.data.toList:=af (by simp;omega);rw[b] at hd E⊢;have hlen:u.data.toList.length=u.size:=(Lib.size_eq u).symm;have t:=hZ9 (PhS.numS_yes m.out (by omega) (by omega) hd);clear b hd hlen;generalize PhS.valFrom 0 u.data.toList=v at*;subst h
   go_wp2
   go_ret2;exact CM.yes (by rw[t.out];rw[aJ j.out])
set_option linter.unusedVariables false in
theorem XJ(s:ByteArray)(h1:2<=s.size)(F:s.size<=10)(d:(s[0].toNat:Int)=43)(w:World):
  Calls prog 164 #[.string s] w (CM s.data.toList w):=by
 have m:=hZ9 (JP (s:=s) (by omega) (.inr d));have j:¬s.data.toList.head?=some 45:=by rw[GY (by omega),FA (n:=43) (by decide) d];decide
 have j:=hZ9 j;go_enter func164,ntmps164;go_wp2_with fail;have B:(s.extract 1 s.size).size<=9:=by simp;omega
 have r:1<=(s.extract 1 s.size).size:=by simp;omega
 generalize s.extract 1 s.size=u at*;clear d;go_loop [4,6] (λn i=>RB u n i) (λ_ i=>u.size-(intOf i).toNat)
 case atStart=>exact⟨0,aR _,rfl,rfl,rfl⟩
 case round=>
  obtain⟨k,hk,rfl,rfl,hd⟩:=hrel;have E:PhS.valFrom 0 (u.data.toList.take k)<1000000000:=by
   have:=PhS.valFrom_lt _ hd;have h2:(u.data.toList.take k).length<=9:=by simp;omega
   have h3:10 ^ (u.data.toList.take k).length<=10 ^ 9:=bh (by decide) h2;omega
  by_cases e:k<u.size
  ·have o:=hZ9 (PhS.take_snoc u k e);have p:=hZ9 hd;clear hd;generalize g:PhS.valFrom 0 (u.data.toList.take k)=v at*;have A:=hZ9 g;clear g;by_cases a:48<=(u[k].toNat:Int)/\(u[k].toNat:Int)<=57
   ·have z:=hZ9 (Jz a);have q:=hZ9 a;obtain⟨d1,d2⟩:=a
    go_wp2
    go_round
    case rel=>
     refine⟨k+1,by omega,by go_num,Ia ?_,?_⟩
     ·rw[o.out,PhS.valFrom_snoc,A.out];have:=q.out;omega
     ·rw[o.out,dL,p.out];simp[z.out]
    case measure=>simp[intOf];omega
   ·have f:=all_not u k e (KV a);have C:=hZ9 (PhS.numS_no m.out (.inr (.inr f)));clear f
    go_wp2
    all_goals go_ret2
    all_goals exact CM.no C.out
  ·have h:k=u.size:=by omega
   have b:u.data.toList.take k=u.data.toList:=af (by simp;omega);rw[b] at hd E⊢;have hlen:u.data.toList.length=u.size:=(Lib.size_eq u).symm;have t:=hZ9 (PhS.numS_yes m.out (by omega) (by omega) hd);clear b hd hlen;generalize PhS.valFrom 0 u.data.toList=v at*;subst h
   go_wp2
   go_ret2;exact CM.yes (by rw[t.out];rw[aG j.out])
set_option linter.unusedVariables false in
theorem XK(u:ByteArray)(C:1<=u.size)(H:u.size<=9)(g:((u[0].toNat:Int)==45)=false)(o:((u[0].toNat:Int)==43)=false)(w:World):
  Calls prog 164 #[.string u] w (CM u.data.toList w):=by
 have b:¬(u[0].toNat:Int)=45:=aV.1 g;have j:¬(u[0].toNat:Int)=43:=aV.1 o;have r:=hZ9 (SQ (s:=u) (by omega) b j);have q:¬u.data.toList.head?=some 45:=by rw[GY (by omega)];intro e;have B:=aU e;rw[B] at b;exact b rfl
 have q:=hZ9 q;clear b j;go_enter func164,ntmps164;go_wp2_with fail;clear g o;go_loop [4,6] (λn i=>RB u n i) (λ_ i=>u.size-(intOf i).toNat)
 case atStart=>exact⟨0,aR _,rfl,rfl,rfl⟩
 case round=>
  obtain⟨k,hk,rfl,rfl,hd⟩:=hrel;have J:PhS.valFrom 0 (u.data.toList.take k)<1000000000:=by
   have:=PhS.valFrom_lt _ hd;have h2:(u.data.toList.take k).length<=9:=by simp;omega
   have h3:10 ^ (u.data.toList.take k).length<=10 ^ 9:=bh (by decide) h2;omega
  by_cases f:k<u.size
  ·have t:=hZ9 (PhS.take_snoc u k f);have z:=hZ9 hd;clear hd;generalize m:PhS.valFrom 0 (u.data.toList.take k)=v at*;have G:=hZ9 m;clear m;by_cases a:48<=(u[k].toNat:Int)/\(u[k].toNat:Int)<=57
   ·have F:=hZ9 (Jz a);have A:=hZ9 a;obtain⟨d1,d2⟩:=a
    go_wp2
    go_round
    case rel=>
     refine⟨k+1,by omega,by go_num,Ia ?_,?_⟩
     ·rw[t.out,PhS.valFrom_snoc,G.out];have:=A.out;omega
     ·rw[t.out,dL,z.out];simp[F.out]
    case measure=>simp[intOf];omega
   ·have h:=all_not u k f (KV a);have I:=hZ9 (PhS.numS_no r.out (.inr (.inr h)));clear h
    go_wp2
    all_goals go_ret2
    all_goals exact CM.no I.out
  ·have p:k=u.size:=by omega
   have d:u.data.toList.take k=u.data.toList:=af (by simp;omega);rw[d] at hd J⊢;have hlen:u.data.toList.length=u.size:=(Lib.size_eq u).symm;have E:=hZ9 (PhS.numS_yes r.out (by omega) (by omega) hd);clear d hd hlen;generalize PhS.valFrom 0 u.data.toList=v at*;subst p
   go_wp2
   go_ret2;exact CM.yes (by rw[E.out];rw[aG q.out])
theorem RD(s:ByteArray)(h1:0<s.size)(e:s.size<=9223372036854775807)(a:s.size<2\/10<s.size)(b:(s[0].toNat:Int)=45)(w:World):
  Calls prog 164 #[.string s] w (CM s.data.toList w):=by
 have d:=hZ9 (PhS.numS_no (JP (s:=s) h1 (.inl b)) (by rw[<-Lib.size_eq];simp only[df];omega));rcases a with a|a
 all_goals
  go_enter func164,ntmps164;go_wp2_with fail;go_ret2;exact CM.no d.out
theorem Qx(s:ByteArray)(h1:0<s.size)(e:s.size<=9223372036854775807)(a:s.size<2\/10<s.size)(b:(s[0].toNat:Int)=43)(w:World):
  Calls prog 164 #[.string s] w (CM s.data.toList w):=by
 have d:=hZ9 (PhS.numS_no (JP (s:=s) h1 (.inr b)) (by rw[<-Lib.size_eq];simp only[df];omega));rcases a with a|a
 all_goals
  go_enter func164,ntmps164;go_wp2_with fail;go_ret2;exact CM.no d.out
theorem Qy(s:ByteArray)(h1:9<s.size)(e:s.size<=9223372036854775807)(b:((s[0].toNat:Int)==45)=false)(a:((s[0].toNat:Int)==43)=false)(w:World):
  Calls prog 164 #[.string s] w (CM s.data.toList w):=by
 have d:=hZ9 (PhS.numS_no (SQ (s:=s) (by omega) (aV.1 b) (aV.1 a)) (by rw[<-Lib.size_eq];omega));go_enter func164,ntmps164;go_wp2_with fail;go_ret2;exact CM.no d.out
theorem VQ(s:ByteArray)(e:s.size<=9223372036854775807)(w:World):Calls prog 164 #[.string s] w (CM s.data.toList w):=by
 by_cases h0:s.size=0
 ·exact VP s h0 w
 have h1:0<s.size:=by omega
 by_cases b:(s[0].toNat:Int)=45
 ·by_cases d:s.size<2\/10<s.size
  ·exact RD s h1 e d b w
  ·exact Aac s (by omega) (by omega) b w
 by_cases a:(s[0].toNat:Int)=43
 ·by_cases d:s.size<2\/10<s.size
  ·exact Qx s h1 e d a w
  ·exact XJ s (by omega) (by omega) a w
 by_cases d:9<s.size
 ·exact Qy s d e (aV.2 b) (aV.2 a) w
 ·exact XK s (by omega) (by omega) (aV.2 b) (aV.2 a) w
end
section
open Go.RowKit
def BX(l:iK)(w:World)(e:Ending)(w':World):Prop:=
 (match PhS.parseP l with
 |some (a,b)=>e=.returned (.tuple #[.agg #[a,b],.int .i64 0])
 |none=>e=.returned (.tuple #[.agg #[.int .i64 0,.int .i64 0],.int .i64 2]))/\Below w.heap.size w w'
theorem BX.no(h:PhS.parseP l=none)(hb:Below w.heap.size w w'):BX l w (.returned (.tuple #[.agg #[.int .i64 0,.int .i64 0],.int .i64 2])) w':=by unfold BX;rw[h];exact⟨rfl,hb⟩
theorem BX.yes{a b:Int}(h:PhS.parseP l=some (a,b))(hb:Below w.heap.size w w'):BX l w (.returned (.tuple #[.agg #[a,b],.int .i64 0])) w':=by unfold BX;rw[h];exact⟨rfl,hb⟩
def RF(s:ByteArray)(v:Value):Prop:=v=.int .i64 (PhS.cutAt s.data.toList)
def Ag3(s:ByteArray)(a i:Value):Prop:=∃k:Nat,1<=k/\k<=s.size/\i=.int .i64 k/\a=.int .i64 ((max (PhS.lastW PhS.isSign (s.data.toList.take k)) 0).toNat:Int)
theorem SR(h:0<s.size):s.data.toList.getLast?=some s[s.size-1]:=by
 obtain⟨⟨l⟩⟩:=s;have a:0<l.length:=h;show l.getLast?=some (l[l.length-1])
 rw[fU,aK]
theorem Aad(h:(c.toNat:Int)=43\/(c.toNat:Int)=45):PhS.isSign c=true:=by
 rcases h with h|h
 ·rw[FA (n:=43) (by decide) h];rfl
 ·rw[FA (n:=45) (by decide) h];rfl
theorem Aae(h1:¬(c.toNat:Int)=43)(h2:¬(c.toNat:Int)=45):PhS.isSign c=false:=by unfold PhS.isSign;rw[cz,aV,aV];exact⟨λe=>h1 (by rw[e];rfl),λe=>h2 (by rw[e];rfl)⟩
theorem Af4(h:0<s.size)(ci:(s[s.size-1].toNat:Int)=105):PhS.cutAt s.data.toList=(max (PhS.lastW PhS.isSign s.data.toList) 0).toNat:=by unfold PhS.cutAt;have a:=SR h;rw[show s[s.size-1]=105 from FA (n:=105) (by decide) ci] at a;rw[aJ a];obtain⟨ys,hd⟩:=eG.1 a;rw[hd,PhS.dropLast_i,PhS.lastW_snoc];rfl
theorem Ag4(l:iK):PhS.cutAt l<=l.length:=by
 unfold PhS.cutAt;split
 ·have h:=PhS.lastW_lt PhS.isSign l.dropLast;have h2:l.dropLast.length<=l.length:=by simp
  omega
 ·exact aA _
def Gt(l:iK):Option Int:=if 0<PhS.cutAt l then PhS.numS (l.take (PhS.cutAt l)) else some 0
def LD(l:iK):iK:=(l.take (l.length-1)).drop (PhS.cutAt l)
def Fp(l:iK):Option Int:=if PhS.cutAt l<l.length then(if LD l=[]\/LD l=[43] then some 1 else if LD l=[45] then some (-1) else PhS.numS (LD l)) else some 0
theorem Aeg(l:iK):PhS.parseP l=match Gt l,Fp l with
 |some x,some y=>if PhS.inR x y=true/\PhS.text x y=l then some (x,y) else none
 |_,_=>none:=(PhS.parseR_eq l).symm
theorem Af5(h:s.size=0\/∃h:0<s.size,¬(s[s.size-1].toNat:Int)=105):PhS.cutAt s.data.toList=s.size:=by
 unfold PhS.cutAt;rw[aG,<-Lib.size_eq];rcases h with h|⟨h,a⟩
 ·have:s.data.toList=[]:=aY (by rw[<-Lib.size_eq];exact h);rw[this];simp
 ·rw[SR h];intro e;have b:=aU e;rw[b] at a;exact a rfl
def BK(w wc:World)(x y:Int):Prop:=Below w.heap.size w wc/\Whole wc w.heap.size 184 #[.int .i64 0,.int .i64 0]/\Whole wc (w.heap.size+1) 184 #[x,y]
theorem BK.made:BK w ((w.alloc (Obj.cells #[Value.int IntKind.i64 0,Value.int IntKind.i64 0] 184)).alloc (Obj.cells #[Value.int IntKind.i64 x,Value.int IntKind.i64 y] 184)) x y:=by
 refine⟨((Below.refl _ _).alloc (aA _) _).alloc (by simp) _,(Whole.made w _ _).alloc _,?_⟩;have:=Whole.made (w.alloc (Obj.cells #[Value.int IntKind.i64 0,Value.int IntKind.i64 0] 184)) 184 #[x,y]
 simpa using this
theorem BK.facts(h:BK w wc x y):wc.cell? ⟨w.heap.size,0,none⟩=some (.int .i64 0)/\wc.cell? ⟨w.heap.size,1,none⟩=some (.int .i64 0)/\wc.cell? ⟨w.heap.size+1,0,none⟩=some (.int .i64 x)/\wc.cell? ⟨w.heap.size+1,1,none⟩=some (.int .i64 y):=
 ⟨h.2.1.cell 0,h.2.1.cell 1,h.2.2.cell 0,h.2.2.cell 1⟩
theorem BK.thaw(h:BK w wc x y):wc.frozen? ⟨w.heap.size,0,none⟩=false/\wc.frozen? ⟨w.heap.size,1,none⟩=false/\wc.frozen? ⟨w.heap.size+1,0,none⟩=false/\wc.frozen? ⟨w.heap.size+1,1,none⟩=false:=
 ⟨h.2.1.thaw 0,h.2.1.thaw 1,h.2.2.thaw 0,h.2.2.thaw 1⟩
theorem BK.call(h:BK w wc x y)(hb:Below wc.heap.size wc w'):BK w w' x y:=
 ⟨h.1.trans (hb.mono h.1.size),h.2.1.call hb,h.2.2.call hb⟩
theorem BK.last(h:BK w wc x y)(a b:Int):(wc.setCell ⟨w.heap.size,0,none⟩ (.int .i64 a)).cell? ⟨w.heap.size,0,none⟩=some (.int .i64 a)/\
  ((wc.setCell ⟨w.heap.size,0,none⟩ (.int .i64 a)).setCell ⟨w.heap.size,1,none⟩ (.int .i64 b)).cell? ⟨w.heap.size,1,none⟩=some (.int .i64 b)/\
  (wc.setCell ⟨w.heap.size,0,none⟩ (.int .i64 a)).frozen? ⟨w.heap.size,1,none⟩=false/\(wc.setCell ⟨w.heap.size,0,none⟩ (.int .i64 a)).cell? ⟨w.heap.size,1,none⟩=some (.int .i64 0):=by
 have h1:=h.2.1.put 0 (.int .i64 a);have h2:=h1.put 1 (.int .i64 b);exact⟨h1.cell 0,h2.cell 1,h1.thaw 1,h1.cell 1⟩
theorem BK.ends(h:BK w wc x y)(a b:Int):Below w.heap.size w ((wc.setCell ⟨w.heap.size,0,none⟩ (.int .i64 a)).setCell ⟨w.heap.size,1,none⟩ (.int .i64 b)):=
 (h.1.setCell (aA _) _).setCell (aA _) _
theorem BK.second{z:Int}(h:BK w wc x y):BK w (wc.setCell ⟨w.heap.size+1,1,none⟩ (.int .i64 z)) x z:=by
 refine⟨h.1.setCell (by simp) _,h.2.1.other (by simp) _,?_⟩;have:=h.2.2.put 1 (.int .i64 z)
 simpa using this
theorem Aeh(h:Gt l=some x):x.natAbs<=1000000000:=by
 unfold Gt at h;split at h
 ·have:=PhS.numV_le (l.take (PhS.cutAt l));unfold PhS.numV at this;rw[h] at this;exact this
 ·have:=aU h;subst this;decide
theorem Acd(h:Fp l=some x):x.natAbs<=1000000000:=by
 unfold Fp at h;split at h
 ·split at h
  ·have:=aU h;subst this;decide
  ·split at h
   ·have:=aU h;subst this;decide
   ·have:=PhS.numV_le (LD l);unfold PhS.numV at this;rw[h] at this;exact this
 ·have:=aU h;subst this;decide
theorem Aei{c:Nat}(hc:PhS.cutAt s.data.toList=c):LD s.data.toList=(s.extract c (s.size-1)).toList:=by unfold LD;rw[hc,Lib.extract_toList,<-Lib.size_eq,eO]
def Ag5(s:ByteArray)(w:World)(ok:Value)(wc:World):Prop:=ok=.bool (Gt s.data.toList).isSome/\BK w wc ((Gt s.data.toList).getD 0) 0
def RG(s:ByteArray)(w:World)(x:Int)(ok:Value)(wc:World):Prop:=ok=.bool (Fp s.data.toList).isSome/\BK w wc x ((Fp s.data.toList).getD 0)
theorem Ut(s:ByteArray)(h1:0<s.size)(hm:s.size<=9223372036854775807)(w:World)(hE:Env w):
  Calls prog 136 #[.string s] w (BX s.data.toList w):=by
 go_enter func136,ntmps136
 go_upto_if 21 with fail
 go_cut [4] (λa wc=>RF s a/\wc=w.alloc (Obj.cells #[Value.int IntKind.i64 0,Value.int IntKind.i64 0] 184))
 case first=>
  by_cases ci:(s[s.size-1].toNat:Int)=105
  ·have t:=hZ9 (Af4 h1 ci);go_wp2_with fail;go_loop [4,5] (λa i=>Ag3 s a i) (λ_ i=>s.size-(intOf i).toNat)
   case atStart=>
    refine⟨1,aA _,h1,rfl,?_⟩;have h2:=PhS.lastW_lt PhS.isSign (s.data.toList.take 1);have h3:(s.data.toList.take 1).length<=1:=by simp;omega
    have:(max (PhS.lastW PhS.isSign (s.data.toList.take 1)) 0).toNat=0:=by omega
    rw[this];rfl
   case round=>
    obtain⟨k,W,hk,rfl,rfl⟩:=hrel;by_cases g:k<s.size
    ·have o:=hZ9 (PhS.take_snoc s k g);have hlen:(s.data.toList.take k).length=k:=by simp;omega
     have V:=hZ9 hlen;clear hlen;generalize H:(max (PhS.lastW PhS.isSign (s.data.toList.take k)) 0).toNat=v at*;have T:=hZ9 H;clear H;by_cases cs:(s[k].toNat:Int)=43\/(s[k].toNat:Int)=45
     ·have n:=hZ9 (Aad cs);rcases cs with cs|cs
      all_goals
       go_wp2
       go_round
       case rel=>refine⟨k+1,by omega,by omega,by go_num,?_⟩;rw[o.out,PhS.lastW_snoc,n.out,aJ rfl,V.out];exact Ia (by omega)
       case measure=>simp[intOf];omega
     ·have n:=hZ9 (Aae (λh=>cs (.inl h)) (λh=>cs (.inr h)));have A0:((s[k].toNat:Int)==43)=false:=aV.2 (λh=>cs (.inl h));have U:((s[k].toNat:Int)==45)=false:=aV.2 (λh=>cs (.inr h));clear cs
      go_wp2
      go_round
      case rel=>refine⟨k+1,by omega,by omega,by go_num,?_⟩;rw[o.out,PhS.lastW_snoc,n.out,aG (by decide),T.out]
      case measure=>simp[intOf];omega
    ·have I:k=s.size:=by omega
     have r:s.data.toList.take k=s.data.toList:=af (by simp;omega);have j:RF s (.int .i64 ((max (PhS.lastW PhS.isSign (s.data.toList.take k)) 0).toNat:Int)):=by unfold RF;rw[r,t.out]
     clear r I;generalize (max (PhS.lastW PhS.isSign (s.data.toList.take k)) 0).toNat=v at*
     go_wp2
     go_meet;exact⟨j,rfl⟩
  ·have j:RF s (.int .i64 s.size):=by
    unfold RF;rw[Af5 (.inr ⟨h1,ci⟩)]
   go_wp2
   go_meet;exact⟨j,rfl⟩
 case rest=>
  obtain⟨R,rfl⟩:=hcut;unfold RF at R;subst R;have M:=Ag4 s.data.toList;rw[<-Lib.size_eq] at M;generalize F:PhS.cutAt s.data.toList=c at*;have t:=hZ9 F;clear F
  go_upto_if 41 with fail
  go_cut [7] (λok wc=>Ag5 s w ok wc)
  case first=>
   by_cases E:0<c
   ·have G:Gt s.data.toList=PhS.numS (s.data.toList.take c):=by
     unfold Gt;rw[t.out,aJ E]
    have X:=hZ9 G;clear G;go_wp2_with fail;refine(VQ (s.extract 0 c) (by simp;omega) _).mono ?_;rintro e w1 ⟨rfl,rfl⟩;go_wp2_with fail;go_meet;unfold Ag5;rw[X.out];exact⟨rfl,BK.made⟩
   ·have G:Gt s.data.toList=some 0:=by
     unfold Gt;rw[t.out,aG E]
    go_wp2_with fail;go_meet;exact⟨by rw[G];rfl,by rw[G];exact BK.made⟩
  case rest=>
   obtain⟨rfl,hp⟩:=hcut;have HR:=hZ9 (Aeg s.data.toList);cases hx:Gt s.data.toList with
   |none=>
    rw[hx] at hp;replace hp:BK w wc 0 0:=hp;have f:PhS.parseP s.data.toList=none:=by rw[HR.out,hx]
    have q:=hZ9 f;have HP:=hZ9 hp;obtain⟨f1,f2,A,f4⟩:=hp.facts;obtain⟨g1,g2,g3,g4⟩:=hp.thaw;obtain⟨k1,p,_,_⟩:=hp.last 0 0;clear hx f hp;go_wp2_with fail;refine bodyPost_ret (v:=.tuple #[.agg #[.int .i64 0,.int .i64 0],.int .i64 2]) (by simp[results,results136,go_sem,k1,p]) rfl ?_;exact BX.no q.out (HP.out.ends 0 0)
   |some x=>
    rw[hx] at hp;replace hp:BK w wc x 0:=hp;have Y:=Aeh hx;have HX:=hZ9 hx;clear hx
    go_upto_if 56 with fail
    go_cut [7] (λok wd=>RG s w x ok wd)
    case first=>
     have HP:=hZ9 hp;obtain⟨f1,f2,A,f4⟩:=hp.facts;obtain⟨g1,g2,g3,g4⟩:=hp.thaw;clear hp;by_cases g:c<s.size
     ·have hb:=Aei (s:=s) t.out;have m:Fp s.data.toList=if(s.extract c (s.size-1)).toList=[]\/(s.extract c (s.size-1)).toList=[43] then some 1 else if(s.extract c (s.size-1)).toList=[45] then some (-1) else PhS.numS (s.extract c (s.size-1)).toList:=by
       unfold Fp;rw[t.out,<-Lib.size_eq,aJ g,hb]
      have n:=hZ9 m;clear m hb;by_cases u0:(s.extract c (s.size-1)).toList=[]
      ·have t0:(s.extract c (s.size-1)).toList.isEmpty=true:=by rw[u0];rfl
       have o:=hZ9 u0;clear u0;go_wp2_with fail;go_meet;unfold RG;rw[n.out,aJ (.inl o.out)];exact⟨rfl,HP.out.second⟩
      ·have t0:(s.extract c (s.size-1)).toList.isEmpty=false:=by
        cases hl:(s.extract c (s.size-1)).toList with
        |nil=>exact absurd hl u0
        |cons a b=>rfl
       by_cases u1:(s.extract c (s.size-1)).toList=[43]
       ·have S:((s.extract c (s.size-1)).toList==[43])=true:=by rw[u1];rfl
        have o:=hZ9 u1;clear u0 u1;go_wp2_with fail;go_meet;unfold RG;rw[n.out,aJ (.inr o.out)];exact⟨rfl,HP.out.second⟩
       ·have S:((s.extract c (s.size-1)).toList==[43])=false:=aV.2 u1;have Q:=hZ9 (λh:(s.extract c (s.size-1)).toList=[]\/(s.extract c (s.size-1)).toList=[43]=>h.elim u0 u1);by_cases u2:(s.extract c (s.size-1)).toList=[45]
        ·have t2:((s.extract c (s.size-1)).toList==[45])=true:=by rw[u2];rfl
         have o:=hZ9 u2;clear u0 u1 u2;go_wp2_with fail;go_meet;unfold RG;rw[n.out,aG Q.out,aJ o.out];exact⟨rfl,HP.out.second⟩
        ·have t2:((s.extract c (s.size-1)).toList==[45])=false:=aV.2 u2;have o:=hZ9 u2;clear u0 u1 u2;go_wp2_with fail;refine(VQ (s.extract c (s.size-1)) (by simp;omega) _).mono ?_;rintro e w1 ⟨rfl,rfl⟩;go_wp2_with fail;go_meet;unfold RG;rw[n.out,aG Q.out,aG o.out,Lib.extract_toList];exact⟨rfl,HP.out.second⟩
     ·have m:Fp s.data.toList=some 0:=by
       unfold Fp;rw[t.out,<-Lib.size_eq,aG g]
      have n:=hZ9 m;clear m;go_wp2_with fail;go_meet;unfold RG;rw[n.out];exact⟨rfl,HP.out⟩
    case rest=>
     obtain⟨rfl,d⟩:=hcut;cases z:Fp s.data.toList with
     |none=>
      rw[z] at d;replace d:BK w wc x 0:=d;have f:PhS.parseP s.data.toList=none:=by rw[HR.out,z,HX.out]
      have q:=hZ9 f;have J:=hZ9 d;obtain⟨f1,f2,A,f4⟩:=d.facts;obtain⟨g1,g2,g3,g4⟩:=d.thaw;obtain⟨k1,p,_,_⟩:=d.last 0 0;clear z f d;go_wp2_with fail;refine bodyPost_ret (v:=.tuple #[.agg #[.int .i64 0,.int .i64 0],.int .i64 2]) (by simp[results,results136,go_sem,k1,p]) rfl ?_;exact BX.no q.out (J.out.ends 0 0)
     |some y=>
      rw[z] at d;replace d:BK w wc x y:=d;have Z:=Acd z;have L:=hZ9 z;have J:=hZ9 d;obtain⟨f1,f2,A,f4⟩:=d.facts;clear z d;go_wp2_with fail;refine(VO x y (by omega) (by omega) _).mono ?_;rintro e w1 ⟨rfl,O⟩;have d:=J.out.call O;clear f1 f2 A f4;obtain⟨f1,f2,A,f4⟩:=d.facts;have u:=hZ9 d;cases P:PhS.inR x y with
      |false=>
       have q:Hid (PhS.parseP s.data.toList=none):=by
        show PhS.parseP s.data.toList=none
        rw[HR.out,L.out,HX.out];simp only;rw[aG (by rw[P];simp)]
       obtain⟨g1,g2,g3,g4⟩:=d.thaw;obtain⟨k1,p,_,_⟩:=d.last 0 0;clear d;go_wp2_with fail;refine bodyPost_ret (v:=.tuple #[.agg #[.int .i64 0,.int .i64 0],.int .i64 2]) (by simp[results,results136,go_sem,k1,p]) rfl ?_;exact BX.no q.out (u.out.ends 0 0)
      |true=>
       clear d;go_wp2_with fail;refine(Acb x y P _ (hE.below u.out.1)).mono ?_;rintro e w2 ⟨rfl,K⟩;have d:=u.out.call K;obtain⟨f1,f2,A,f4⟩:=d.facts;obtain⟨g1,g2,g3,g4⟩:=d.thaw;have C:=hZ9 d;have g:=Lib.toList_data s;by_cases B:PhS.text x y=s.toList
       ·have q:Hid (PhS.parseP s.data.toList=some (x,y)):=by
         show PhS.parseP s.data.toList=some (x,y)
         rw[HR.out,L.out,HX.out];simp only;rw[aJ ⟨P,B.trans g⟩]
        have N:(PhS.text x y==s.toList)=true:=by rw[B];exact eX _
        obtain⟨k1,p,_,_⟩:=d.last x y;clear B g d;go_wp2_with fail;refine bodyPost_ret (v:=.tuple #[.agg #[x,y],.int .i64 0]) (by simp[results,results136,go_sem,k1,p]) rfl ?_;exact BX.yes q.out (C.out.ends x y)
       ·have q:Hid (PhS.parseP s.data.toList=none):=by
         show PhS.parseP s.data.toList=none
         rw[HR.out,L.out,HX.out];simp only;rw[aG (λh=>B (h.2.trans g.symm))]
        have N:(PhS.text x y==s.toList)=false:=aV.2 B;obtain⟨k1,p,_,_⟩:=d.last 0 0;clear B g d;go_wp2_with fail;refine bodyPost_ret (v:=.tuple #[.agg #[.int .i64 0,.int .i64 0],.int .i64 2]) (by simp[results,results136,go_sem,k1,p]) rfl ?_;exact BX.no q.out (C.out.ends 0 0)
theorem Uu(w:World)(hE:Env w):
  Calls prog 136 #[.string ByteArray.empty] w (BX [] w):=by
 have k:Hid (PhS.parseP []=none):=by
  show PhS.parseP []=none
  cases h:PhS.parseP [] with
  |none=>rfl
  |some p=>obtain⟨a,b⟩:=p;have h2:=(PhS.parseP_some.1 h).2;have:PhS.firstOf []=[]:=rfl;unfold PhS.parseP at h;rw[aG (by rintro⟨h3,_⟩;revert h3;decide)] at h;cases h
 have hp:BK w ((w.alloc (Obj.cells #[Value.int IntKind.i64 0,Value.int IntKind.i64 0] 184)).alloc (Obj.cells #[Value.int IntKind.i64 0,Value.int IntKind.i64 0] 184)) 0 0:=BK.made;go_enter func136,ntmps136;go_wp2_with fail;refine(VO 0 0 (by omega) (by omega) _).mono ?_;rintro e w1 ⟨rfl,i⟩;have o:PhS.inR 0 0=true:=by decide
 have d:=hp.call i;obtain⟨f1,f2,n,f4⟩:=d.facts;have f:=hZ9 d;clear hp i;go_wp2_with fail;refine(Acb 0 0 o _ (hE.below f.out.1)).mono ?_;rintro e w2 ⟨rfl,g⟩;have d:=f.out.call g;obtain⟨f1,f2,n,f4⟩:=d.facts;obtain⟨g1,g2,g3,g4⟩:=d.thaw;obtain⟨k1,m,_,_⟩:=d.last 0 0;have j:=hZ9 d;have q:PhS.text 0 0=[48]:=PhS.itoa_zero;clear d g;go_wp2_with fail;refine bodyPost_ret (v:=.tuple #[.agg #[.int .i64 0,.int .i64 0],.int .i64 2]) (by simp[results,results136,go_sem,k1,m]) rfl ?_;exact BX.no k.out (j.out.ends 0 0)
theorem Hk(s:ByteArray)(a:s.size<=9223372036854775807)(w:World)(hE:Env w):
  Calls prog 136 #[.string s] w (BX s.data.toList w):=by
 by_cases h0:s.size=0
 ·have b:s=ByteArray.empty:=by
   obtain⟨⟨l⟩⟩:=s;cases l with
   |nil=>rfl
   |cons c r=>have h1:(c :: r).length=0:=h0;cases h1
  subst b;exact Uu w hE
 ·exact Ut s (by omega) a w hE
end
