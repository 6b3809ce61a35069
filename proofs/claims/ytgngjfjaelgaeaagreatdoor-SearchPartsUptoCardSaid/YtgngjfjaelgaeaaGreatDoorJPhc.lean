/- The walks of the reference's numbers: their texts, what they are read of, how they are held against the program's. Conditions: as stated. -/
import Derived.Deep.RegionHeld3
import Derived.Test.YtgngjfjaelgaeaaGreatDoorJPhi
set_option maxRecDepth 100000
set_option maxHeartbeats 1000000
namespace Go.Proofs.YtgngjfjaelgaeaaGreatDoor
open Go.Proofs.Tryz
section
open Go.RowKit
def Ag3 (a b:Int):Value:=.agg #[.int .i64 a,.int .i64 b]
theorem OI (b:Int) (hb:b.natAbs<=1000000) (w:World) (hE:Env w):
  Calls prog 193 #[.int .i64 b] w fun e w'=>e=.returned (.string ⟨(PhS.sec b).toArray⟩)/\Below w.heap.size w w':=by
 have f:=PhS.itoa_len (n:=b) (by omega);by_cases h1:b=1
 · subst h1;go_enter func193,ntmps193;go_wp2_with fail;go_ret;exact ⟨rfl,Below.refl _ _⟩
 · by_cases h2:b=-1
   · subst h2;go_enter func193,ntmps193;go_wp2_with fail;go_ret;exact ⟨rfl,Below.refl _ _⟩
   · have a:PhS.sec b=Lib.itoa b++[105]:=by unfold PhS.sec;rw [aG h1,aG h2]
     have d:=hZ9 a;have g:(b==1)=false:=by simpa using h1
     have t2:(b==-1)=false:=by simpa using h2
     clear a h1 h2;go_enter func193,ntmps193;go_wp2_with fail;refine (JY b (by omega) (by omega) _ hE).mono ?_;rintro e w1 ⟨rfl,c⟩;go_wp2_with fail;go_ret;exact ⟨by rw [d.out,<-BQ];rfl,c⟩
theorem Aes {w W w':World} {v0 a:Value} (h0:W.cell? ⟨w.heap.size,0,none⟩=some v0) (h1:W.cell? ⟨w.heap.size,1,none⟩=some a) (hE:Env W) (hb:Below w.heap.size w W) (h:Below W.heap.size W w'):
  w'.cell? ⟨w.heap.size,0,none⟩=some v0/\w'.cell? ⟨w.heap.size,1,none⟩=some a/\Env w'/\Below w.heap.size w w':=
 ⟨DI h (aA _) h0,DI h (aA _) h1,hE.below h,hb.trans (h.mono hb.size)⟩
theorem AaW {w:World} {v0 a:Value} {t:TypeId} (hE:Env w):
  (w.alloc (Obj.cells #[v0,a] t)).drew.cell? ⟨w.heap.size,0,none⟩=some v0/\(w.alloc (Obj.cells #[v0,a] t)).drew.cell? ⟨w.heap.size,1,none⟩=some a/\Env (w.alloc (Obj.cells #[v0,a] t)).drew/\Below w.heap.size w (w.alloc (Obj.cells #[v0,a] t)).drew:=
 ⟨by simp [go_sem],by simp [go_sem],(hE.alloc _).drew,((Below.refl _ _).alloc (aA _) _).drew⟩
theorem Adg (a b:Int) (i:a.natAbs<=1000000) (hb:b.natAbs<=1000000) (d:a≠0) (h0:0<b) (w:World) (hE:Env w):
  Calls prog 166 #[.agg #[.int .i64 a,.int .i64 b]] w fun e w'=>e=.returned (.string ⟨(PhS.text a b).toArray⟩)/\Below w.heap.size w w':=by
 have j:=PhS.itoa_len (n:=a) (by omega);have g:=PhS.sec_len (b:=b) hb;have k:(b==0)=false:=by simp;omega
 have t2:(a==0)=false:=by simpa using d
 have c:PhS.text a b=(Lib.itoa a++[43])++PhS.sec b:=by unfold PhS.text;rw [aG (by omega),aG d,aP h0];simp
 have h:=hZ9 c;have z1:¬9223372036854775807<(Lib.itoa a).length+1:=by omega
 have z2:¬9223372036854775807<(Lib.itoa a).length+1+(PhS.sec b).length:=by omega
 clear c d;go_enter func166,ntmps166;go_wp2_with fail
 go_region_held3 (fun w'=>w'.cell? ⟨w.heap.size,0,none⟩=some (.int .i64 a)/\w'.cell? ⟨w.heap.size,1,none⟩=some (.int .i64 b)/\Env w'/\Below w.heap.size w w')
  (first | exact AaW hE | (go_split_ands;exact Aes (by assumption) (by assumption) (by assumption) (by assumption) f) | go_keep)
  (first
    | (go_at_call 184;go_split_ands;refine (JY a (by omega) (by omega) _ ?_).mono ?_;assumption;rintro e w1 ⟨rfl,f⟩)
    | (go_at_call 193;go_split_ands;refine (OI b hb _ ?_).mono ?_;assumption;rintro e w2 ⟨rfl,f⟩))
 all_goals go_wp2_with fail
 all_goals go_split_ands
 all_goals go_ret
 all_goals exact ⟨by rw [h.out,<-BQ,<-BQ];rfl,by (first | assumption | exact Aa (by assumption) (by assumption))⟩
theorem Adh (a b:Int) (i:a.natAbs<=1000000) (hb:b.natAbs<=1000000) (d:a≠0) (h0:b<0) (w:World) (hE:Env w):
  Calls prog 166 #[.agg #[.int .i64 a,.int .i64 b]] w fun e w'=>e=.returned (.string ⟨(PhS.text a b).toArray⟩)/\Below w.heap.size w w':=by
 have j:=PhS.itoa_len (n:=a) (by omega);have g:=PhS.sec_len (b:=b) hb;have k:(b==0)=false:=by simp;omega
 have t2:(a==0)=false:=by simpa using d
 have c:PhS.text a b=Lib.itoa a++PhS.sec b:=by unfold PhS.text;rw [aG (by omega),aG d,aG (by omega)]
 have h:=hZ9 c;have z2:¬9223372036854775807<(Lib.itoa a).length+(PhS.sec b).length:=by omega
 clear c d;go_enter func166,ntmps166;go_wp2_with fail
 go_region_held3 (fun w'=>w'.cell? ⟨w.heap.size,0,none⟩=some (.int .i64 a)/\w'.cell? ⟨w.heap.size,1,none⟩=some (.int .i64 b)/\Env w'/\Below w.heap.size w w')
  (first | exact AaW hE | (go_split_ands;exact Aes (by assumption) (by assumption) (by assumption) (by assumption) f) | go_keep)
  (first
    | (go_at_call 184;go_split_ands;refine (JY a (by omega) (by omega) _ ?_).mono ?_;assumption;rintro e w1 ⟨rfl,f⟩)
    | (go_at_call 193;go_split_ands;refine (OI b hb _ ?_).mono ?_;assumption;rintro e w2 ⟨rfl,f⟩))
 all_goals go_wp2_with fail
 all_goals go_split_ands
 all_goals go_ret
 all_goals exact ⟨by rw [h.out,<-BQ];rfl,by (first | assumption | exact Aa (by assumption) (by assumption))⟩
theorem AaX (a:Int) (c:a.natAbs<=1000000) (w:World) (hE:Env w):
  Calls prog 166 #[.agg #[.int .i64 a,.int .i64 0]] w fun e w'=>e=.returned (.string ⟨(PhS.text a 0).toArray⟩)/\Below w.heap.size w w':=by
 go_enter func166,ntmps166;go_wp2_with fail;refine (JY a (by omega) (by omega) _ (hE.alloc _)).mono ?_;rintro e w1 ⟨rfl,b⟩;go_wp2_with fail;go_ret;exact ⟨rfl,Aa ((Below.refl _ _).alloc (aA _) _) b⟩
theorem WU (b:Int) (hb:b.natAbs<=1000000) (h0:b≠0) (w:World) (hE:Env w):
  Calls prog 166 #[.agg #[.int .i64 0,.int .i64 b]] w fun e w'=>e=.returned (.string ⟨(PhS.text 0 b).toArray⟩)/\Below w.heap.size w w':=by
 have f:(b==0)=false:=by simpa using h0
 have a:PhS.text 0 b=PhS.sec b:=by unfold PhS.text;rw [aG h0,aP rfl]
 have d:=hZ9 a;clear a h0;go_enter func166,ntmps166;go_wp2_with fail;refine (OI b hb _ (hE.alloc _)).mono ?_;rintro e w1 ⟨rfl,c⟩;go_wp2_with fail;go_ret;exact ⟨by rw [d.out];rfl,Aa ((Below.refl _ _).alloc (aA _) _) c⟩
theorem AaY (a b:Int) (h:PhS.inR a b=true) (w:World) (hE:Env w):
  Calls prog 166 #[.agg #[.int .i64 a,.int .i64 b]] w fun e w'=>e=.returned (.string ⟨(PhS.text a b).toArray⟩)/\Below w.heap.size w w':=by
 have f:a.natAbs<=1000000/\b.natAbs<=1000000:=bB h;obtain ⟨c,hb⟩:=f;by_cases d:b=0
 · subst d;exact AaX a c w hE
 by_cases a0:a=0
 · subst a0;exact WU b hb d w hE
 by_cases hp:0<b
 · exact Adg a b c hb a0 hp w hE
 · exact Adh a b c hb a0 (by omega) w hE
theorem UT (a b:Int) (c:a.natAbs<=9223372036854775807) (hb:b.natAbs<=9223372036854775807) (w:World):
  Calls prog 165 #[.agg #[.int .i64 a,.int .i64 b]] w fun e w'=>e=.returned (.bool (PhS.inR a b))/\Below w.heap.size w w':=by
 go_enter func165,ntmps165;go_wp2_with fail
 all_goals go_ret
 all_goals refine ⟨QQ ?_,(Below.refl _ _).alloc (aA _) _⟩
 all_goals unfold PhS.inR
 all_goals first | (rw [bO];omega) | (symm;rw [bc];omega)
end
section
open Go.RowKit
def QI (u:ByteArray) (n i:Value):Prop:=∃k:Nat,k<=u.size/\i=.int .i64 k/\n=.int .i64 (PhS.valFrom 0 (u.data.toList.take k))/\(u.data.toList.take k).all PhS.isDig=true
def CH (l:List UInt8) (w:World) (e:Ending) (w':World):Prop:=e=.returned (.tuple #[.int .i64 (PhS.numV l),.bool (PhS.numOk l)])/\w=w'
theorem CH.yes {l:List UInt8} {w:World} {v:Int} (h:PhS.numS l=some v):CH l w (.returned (.tuple #[.int .i64 v,.bool true])) w:=by refine ⟨?_,rfl⟩;unfold PhS.numV PhS.numOk;rw [h];rfl
theorem CH.no {l:List UInt8} {w:World} (h:PhS.numS l=none):CH l w (.returned (.tuple #[.int .i64 0,.bool false])) w:=by refine ⟨?_,rfl⟩;unfold PhS.numV PhS.numOk;rw [h];rfl
theorem OJ {s:ByteArray} (h:0<s.size):∃r,s.data.toList=s[0] :: r:=by
 obtain ⟨⟨l⟩⟩:=s;cases l with
 | nil=>exact absurd h (by decide)
 | cons c r=>exact ⟨r,rfl⟩
theorem FX {c:UInt8} {n:Nat} (a:n<256) (h:(c.toNat:Int)=n):c=UInt8.ofNat n:=by apply cY.1;rw [bu];omega
theorem Js {s:ByteArray} (h:0<s.size) (b:(s[0].toNat:Int)=45\/(s[0].toNat:Int)=43):PhS.bare s.data.toList=(s.extract 1 s.size).data.toList:=by
 obtain ⟨r,a⟩:=OJ h;rw [Lib.extract_to_end,a];have:PhS.isSign s[0]=true:=by
  rcases b with h | h
  · rw [FX (n:=45) (by decide) h];rfl
  · rw [FX (n:=43) (by decide) h];rfl
 unfold PhS.bare;simp only;rw [this];rfl
theorem RL {s:ByteArray} (h:0<s.size) (h1:¬(s[0].toNat:Int)=45) (h2:¬(s[0].toNat:Int)=43):PhS.bare s.data.toList=s.data.toList:=by
 obtain ⟨r,a⟩:=OJ h;rw [a];have:PhS.isSign s[0]=false:=by unfold PhS.isSign;rw [cg,aV,aV];exact ⟨fun e=>h2 (by rw [e];rfl),fun e=>h1 (by rw [e];rfl)⟩
 unfold PhS.bare;simp only;rw [this];rfl
theorem GQ {s:ByteArray} (h:0<s.size):s.data.toList.head?=some s[0]:=by obtain ⟨r,a⟩:=OJ h;rw [a];rfl
theorem Jc {c:UInt8} (h:48<=(c.toNat:Int)/\(c.toNat:Int)<=57):PhS.isDig c=true:=aL (by omega)
theorem Kq {c:UInt8} (h:¬(48<=(c.toNat:Int)/\(c.toNat:Int)<=57)):PhS.isDig c=false:=aC (by omega)
theorem all_not (u:ByteArray) (k:Nat) (hk:k<u.size) (h:PhS.isDig u[k]=false):u.data.toList.all PhS.isDig=false:=by rw [fG];exact ⟨u[k],aZ (by simpa using hk),by rw [h];simp⟩
theorem Ht {k:IntKind} {a b:Int} (h:a=b):Value.int k a=Value.int k b:=by rw [h]
theorem UU (s:ByteArray) (h0:s.size=0) (w:World):Calls prog 164 #[.string s] w (CH s.data.toList w):=by
 have a:s=ByteArray.empty:=by
  obtain ⟨⟨l⟩⟩:=s;cases l with
  | nil=>rfl
  | cons c r=>have h1:(c :: r).length=0:=h0;cases h1
 subst a;go_enter func164,ntmps164;go_wp2_with fail;go_ret2;exact CH.no rfl
set_option linter.unusedVariables false in
theorem YX (s:ByteArray) (h1:2<=s.size) (A:s.size<=10) (c:(s[0].toNat:Int)=45) (w:World):
  Calls prog 164 #[.string s] w (CH s.data.toList w):=by
 have l:=hZ9 (Js (s:=s) (by omega) (.inl c));have h:s.data.toList.head?=some 45:=by rw [GQ (by omega),FX (n:=45) (by decide) c];rfl
 have h:=hZ9 h;go_enter func164,ntmps164;go_wp2_with fail;have z:(s.extract 1 s.size).size<=9:=by simp;omega
 have x:1<=(s.extract 1 s.size).size:=by simp;omega
 generalize s.extract 1 s.size=u at*;clear c;go_loop [4,6] (fun n i=>QI u n i) (fun _ i=>u.size - (intOf i).toNat)
 case atStart=>exact ⟨0,aR _,rfl,rfl,rfl⟩
 case round=>
  obtain ⟨k,hk,rfl,rfl,hd⟩:=hrel;have m:PhS.valFrom 0 (u.data.toList.take k)<1000000000:=by
   have:=PhS.valFrom_lt _ hd;have h2:(u.data.toList.take k).length<=9:=by simp;omega
   have h3:10 ^ (u.data.toList.take k).length<=10 ^ 9:=bg (by decide) h2;omega
  by_cases e:k<u.size
  · have j:=hZ9 (PhS.take_snoc u k e);have q:=hZ9 hd;clear hd;generalize f:PhS.valFrom 0 (u.data.toList.take k)=v at*;have t:=hZ9 f;clear f;by_cases a:48<=(u[k].toNat:Int)/\(u[k].toNat:Int)<=57
    · have o:=hZ9 (Jc a);have p:=hZ9 a;obtain ⟨d1,d2⟩:=a
      go_wp2
      go_round
      case rel=>
       refine ⟨k+1,by omega,by go_num,Ht ?_,?_⟩
       · rw [j.out,PhS.valFrom_snoc,t.out];have:=p.out;omega
       · rw [j.out,dL,q.out];simp [o.out]
      case measure=>simp [intOf];omega
    · have d:=all_not u k e (Kq a);have y:=hZ9 (PhS.numS_no l.out (.inr (.inr d)));clear d
      go_wp2
      all_goals go_ret2
      all_goals exact CH.no y.out
  · have g:k=u.size:=by omega
    have b:u.data.toList.take k=u.data.toList:=ag (by simp;omega);rw [b] at hd m⊢;have hlen:u.data.toList.length=u.size:=(Lib.size_eq u).symm;have r:=hZ9 (PhS.numS_yes l.out (by omega) (by omega) hd);clear b hd hlen;generalize PhS.valFrom 0 u.data.toList=v at*;subst g
    go_wp2
    go_ret2;exact CH.yes (by rw [r.out];rw [aP h.out])
set_option linter.unusedVariables false in
theorem WV (s:ByteArray) (h1:2<=s.size) (A:s.size<=10) (c:(s[0].toNat:Int)=43) (w:World):
  Calls prog 164 #[.string s] w (CH s.data.toList w):=by
 have l:=hZ9 (Js (s:=s) (by omega) (.inr c));have h:¬s.data.toList.head?=some 45:=by rw [GQ (by omega),FX (n:=43) (by decide) c];decide
 have h:=hZ9 h;go_enter func164,ntmps164;go_wp2_with fail;have z:(s.extract 1 s.size).size<=9:=by simp;omega
 have x:1<=(s.extract 1 s.size).size:=by simp;omega
 generalize s.extract 1 s.size=u at*;clear c;go_loop [4,6] (fun n i=>QI u n i) (fun _ i=>u.size - (intOf i).toNat)
 case atStart=>exact ⟨0,aR _,rfl,rfl,rfl⟩
 case round=>
  obtain ⟨k,hk,rfl,rfl,hd⟩:=hrel;have m:PhS.valFrom 0 (u.data.toList.take k)<1000000000:=by
   have:=PhS.valFrom_lt _ hd;have h2:(u.data.toList.take k).length<=9:=by simp;omega
   have h3:10 ^ (u.data.toList.take k).length<=10 ^ 9:=bg (by decide) h2;omega
  by_cases e:k<u.size
  · have j:=hZ9 (PhS.take_snoc u k e);have q:=hZ9 hd;clear hd;generalize f:PhS.valFrom 0 (u.data.toList.take k)=v at*;have t:=hZ9 f;clear f;by_cases a:48<=(u[k].toNat:Int)/\(u[k].toNat:Int)<=57
    · have o:=hZ9 (Jc a);have p:=hZ9 a;obtain ⟨d1,d2⟩:=a
      go_wp2
      go_round
      case rel=>
       refine ⟨k+1,by omega,by go_num,Ht ?_,?_⟩
       · rw [j.out,PhS.valFrom_snoc,t.out];have:=p.out;omega
       · rw [j.out,dL,q.out];simp [o.out]
      case measure=>simp [intOf];omega
    · have d:=all_not u k e (Kq a);have y:=hZ9 (PhS.numS_no l.out (.inr (.inr d)));clear d
      go_wp2
      all_goals go_ret2
      all_goals exact CH.no y.out
  · have g:k=u.size:=by omega
    have b:u.data.toList.take k=u.data.toList:=ag (by simp;omega);rw [b] at hd m⊢;have hlen:u.data.toList.length=u.size:=(Lib.size_eq u).symm;have r:=hZ9 (PhS.numS_yes l.out (by omega) (by omega) hd);clear b hd hlen;generalize PhS.valFrom 0 u.data.toList=v at*;subst g
    go_wp2
    go_ret2;exact CH.yes (by rw [r.out];rw [aG h.out])
set_option linter.unusedVariables false in
theorem WW (u:ByteArray) (B:1<=u.size) (E:u.size<=9) (j:((u[0].toNat:Int)==45)=false) (f:((u[0].toNat:Int)==43)=false) (w:World):
  Calls prog 164 #[.string u] w (CH u.data.toList w):=by
 have b:¬(u[0].toNat:Int)=45:=aV.1 j;have d:¬(u[0].toNat:Int)=43:=aV.1 f;have q:=hZ9 (RL (s:=u) (by omega) b d);have o:¬u.data.toList.head?=some 45:=by rw [GQ (by omega)];intro e;have F:=aU e;rw [F] at b;exact b rfl
 have o:=hZ9 o;clear b d;go_enter func164,ntmps164;go_wp2_with fail;clear j f;go_loop [4,6] (fun n i=>QI u n i) (fun _ i=>u.size - (intOf i).toNat)
 case atStart=>exact ⟨0,aR _,rfl,rfl,rfl⟩
 case round=>
  obtain ⟨k,hk,rfl,rfl,hd⟩:=hrel;have r:PhS.valFrom 0 (u.data.toList.take k)<1000000000:=by
   have:=PhS.valFrom_lt _ hd;have h2:(u.data.toList.take k).length<=9:=by simp;omega
   have h3:10 ^ (u.data.toList.take k).length<=10 ^ 9:=bg (by decide) h2;omega
  by_cases h:k<u.size
  · have p:=hZ9 (PhS.take_snoc u k h);have y:=hZ9 hd;clear hd;generalize l:PhS.valFrom 0 (u.data.toList.take k)=v at*;have A:=hZ9 l;clear l;by_cases a:48<=(u[k].toNat:Int)/\(u[k].toNat:Int)<=57
    · have t:=hZ9 (Jc a);have x:=hZ9 a;obtain ⟨d1,d2⟩:=a
      go_wp2
      go_round
      case rel=>
       refine ⟨k+1,by omega,by go_num,Ht ?_,?_⟩
       · rw [p.out,PhS.valFrom_snoc,A.out];have:=x.out;omega
       · rw [p.out,dL,y.out];simp [t.out]
      case measure=>simp [intOf];omega
    · have g:=all_not u k h (Kq a);have C:=hZ9 (PhS.numS_no q.out (.inr (.inr g)));clear g
      go_wp2
      all_goals go_ret2
      all_goals exact CH.no C.out
  · have m:k=u.size:=by omega
    have c:u.data.toList.take k=u.data.toList:=ag (by simp;omega);rw [c] at hd r⊢;have hlen:u.data.toList.length=u.size:=(Lib.size_eq u).symm;have z:=hZ9 (PhS.numS_yes q.out (by omega) (by omega) hd);clear c hd hlen;generalize PhS.valFrom 0 u.data.toList=v at*;subst m
    go_wp2
    go_ret2;exact CH.yes (by rw [z.out];rw [aG o.out])
theorem QJ (s:ByteArray) (h1:0<s.size) (d:s.size<=9223372036854775807) (b:s.size<2\/10<s.size) (a:(s[0].toNat:Int)=45) (w:World):
  Calls prog 164 #[.string s] w (CH s.data.toList w):=by
 have c:=hZ9 (PhS.numS_no (Js (s:=s) h1 (.inl a)) (by rw [<-Lib.size_eq];simp only [dX];omega));rcases b with b | b
 all_goals
  go_enter func164,ntmps164;go_wp2_with fail;go_ret2;exact CH.no c.out
theorem PV (s:ByteArray) (h1:0<s.size) (d:s.size<=9223372036854775807) (a:s.size<2\/10<s.size) (b:(s[0].toNat:Int)=43) (w:World):
  Calls prog 164 #[.string s] w (CH s.data.toList w):=by
 have c:=hZ9 (PhS.numS_no (Js (s:=s) h1 (.inr b)) (by rw [<-Lib.size_eq];simp only [dX];omega));rcases a with a | a
 all_goals
  go_enter func164,ntmps164;go_wp2_with fail;go_ret2;exact CH.no c.out
theorem PW (s:ByteArray) (h1:9<s.size) (d:s.size<=9223372036854775807) (a:((s[0].toNat:Int)==45)=false) (b:((s[0].toNat:Int)==43)=false) (w:World):
  Calls prog 164 #[.string s] w (CH s.data.toList w):=by
 have c:=hZ9 (PhS.numS_no (RL (s:=s) (by omega) (aV.1 a) (aV.1 b)) (by rw [<-Lib.size_eq];omega));go_enter func164,ntmps164;go_wp2_with fail;go_ret2;exact CH.no c.out
theorem UV (s:ByteArray) (d:s.size<=9223372036854775807) (w:World):Calls prog 164 #[.string s] w (CH s.data.toList w):=by
 by_cases h0:s.size=0
 · exact UU s h0 w
 have h1:0<s.size:=by omega
 by_cases a:(s[0].toNat:Int)=45
 · by_cases c:s.size<2\/10<s.size
   · exact QJ s h1 d c a w
   · exact YX s (by omega) (by omega) a w
 by_cases b:(s[0].toNat:Int)=43
 · by_cases c:s.size<2\/10<s.size
   · exact PV s h1 d c b w
   · exact WV s (by omega) (by omega) b w
 by_cases c:9<s.size
 · exact PW s c d (aV.2 a) (aV.2 b) w
 · exact WW s (by omega) (by omega) (aV.2 a) (aV.2 b) w
end
section
open Go.RowKit
def CO (l:List UInt8) (w:World) (e:Ending) (w':World):Prop:=
 (match PhS.parseP l with
 | some (a,b)=>e=.returned (.tuple #[.agg #[.int .i64 a,.int .i64 b],.int .i64 0])
 | none=>e=.returned (.tuple #[.agg #[.int .i64 0,.int .i64 0],.int .i64 2]))/\Below w.heap.size w w'
theorem CO.no {l:List UInt8} {w w':World} (h:PhS.parseP l=none) (hb:Below w.heap.size w w'):CO l w (.returned (.tuple #[.agg #[.int .i64 0,.int .i64 0],.int .i64 2])) w':=by unfold CO;rw [h];exact ⟨rfl,hb⟩
theorem CO.yes {l:List UInt8} {a b:Int} {w w':World} (h:PhS.parseP l=some (a,b)) (hb:Below w.heap.size w w'):CO l w (.returned (.tuple #[.agg #[.int .i64 a,.int .i64 b],.int .i64 0])) w':=by unfold CO;rw [h];exact ⟨rfl,hb⟩
def QK (s:ByteArray) (v:Value):Prop:=v=.int .i64 (PhS.cutAt s.data.toList)
def AfI (s:ByteArray) (a i:Value):Prop:=∃k:Nat,1<=k/\k<=s.size/\i=.int .i64 k/\a=.int .i64 ((max (PhS.lastW PhS.isSign (s.data.toList.take k)) 0).toNat:Int)
theorem RN {s:ByteArray} (h:0<s.size):s.data.toList.getLast?=some s[s.size - 1]:=by
 obtain ⟨⟨l⟩⟩:=s;have a:0<l.length:=h;show l.getLast?=some (l[l.length - 1])
 rw [fM,aJ]
theorem YY {c:UInt8} (h:(c.toNat:Int)=43\/(c.toNat:Int)=45):PhS.isSign c=true:=by
 rcases h with h | h
 · rw [FX (n:=43) (by decide) h];rfl
 · rw [FX (n:=45) (by decide) h];rfl
theorem YZ {c:UInt8} (h1:¬(c.toNat:Int)=43) (h2:¬(c.toNat:Int)=45):PhS.isSign c=false:=by unfold PhS.isSign;rw [cg,aV,aV];exact ⟨fun e=>h1 (by rw [e];rfl),fun e=>h2 (by rw [e];rfl)⟩
theorem AeC {s:ByteArray} (h:0<s.size) (ci:(s[s.size - 1].toNat:Int)=105):PhS.cutAt s.data.toList=(max (PhS.lastW PhS.isSign s.data.toList) 0).toNat:=by unfold PhS.cutAt;have a:=RN h;rw [show s[s.size - 1]=105 from FX (n:=105) (by decide) ci] at a;rw [aP a];obtain ⟨ys,hd⟩:=dm.1 a;rw [hd,PhS.dropLast_i,PhS.lastW_snoc];rfl
theorem AfJ (l:List UInt8):PhS.cutAt l<=l.length:=by
 unfold PhS.cutAt;split
 · have h:=PhS.lastW_lt PhS.isSign l.dropLast;have h2:l.dropLast.length<=l.length:=by simp
   omega
 · exact aA _
def Gl (l:List UInt8):Option Int:=if 0<PhS.cutAt l then PhS.numS (l.take (PhS.cutAt l)) else some 0
def KR (l:List UInt8):List UInt8:=(l.take (l.length - 1)).drop (PhS.cutAt l)
def EX (l:List UInt8):Option Int:=if PhS.cutAt l<l.length then (if KR l=[]\/KR l=[43] then some 1 else if KR l=[45] then some (-1) else PhS.numS (KR l)) else some 0
theorem Adi (l:List UInt8):PhS.parseP l=match Gl l,EX l with
 | some x,some y=>if PhS.inR x y=true/\PhS.text x y=l then some (x,y) else none
 | _,_=>none:=(PhS.parseR_eq l).symm
theorem AeD {s:ByteArray} (h:s.size=0\/∃h:0<s.size,¬(s[s.size - 1].toNat:Int)=105):PhS.cutAt s.data.toList=s.size:=by
 unfold PhS.cutAt;rw [aG,<-Lib.size_eq];rcases h with h | ⟨h,a⟩
 · have:s.data.toList=[]:=aW (by rw [<-Lib.size_eq];exact h);rw [this];simp
 · rw [RN h];intro e;have b:=aU e;rw [b] at a;exact a rfl
def BJ (w wc:World) (x y:Int):Prop:=Below w.heap.size w wc/\Whole wc w.heap.size 184 #[.int .i64 0,.int .i64 0]/\Whole wc (w.heap.size+1) 184 #[.int .i64 x,.int .i64 y]
theorem BJ.made {w:World} {x y:Int}:BJ w ((w.alloc (Obj.cells #[Value.int IntKind.i64 0,Value.int IntKind.i64 0] 184)).alloc (Obj.cells #[Value.int IntKind.i64 x,Value.int IntKind.i64 y] 184)) x y:=by
 refine ⟨((Below.refl _ _).alloc (aA _) _).alloc (by simp) _,(Whole.made w _ _).alloc _,?_⟩;have:=Whole.made (w.alloc (Obj.cells #[Value.int IntKind.i64 0,Value.int IntKind.i64 0] 184)) 184 #[.int .i64 x,.int .i64 y]
 simpa using this
theorem BJ.facts {w wc:World} {x y:Int} (h:BJ w wc x y):wc.cell? ⟨w.heap.size,0,none⟩=some (.int .i64 0)/\wc.cell? ⟨w.heap.size,1,none⟩=some (.int .i64 0)/\wc.cell? ⟨w.heap.size+1,0,none⟩=some (.int .i64 x)/\wc.cell? ⟨w.heap.size+1,1,none⟩=some (.int .i64 y):=
 ⟨h.2.1.cell 0,h.2.1.cell 1,h.2.2.cell 0,h.2.2.cell 1⟩
theorem BJ.thaw {w wc:World} {x y:Int} (h:BJ w wc x y):wc.frozen? ⟨w.heap.size,0,none⟩=false/\wc.frozen? ⟨w.heap.size,1,none⟩=false/\wc.frozen? ⟨w.heap.size+1,0,none⟩=false/\wc.frozen? ⟨w.heap.size+1,1,none⟩=false:=
 ⟨h.2.1.thaw 0,h.2.1.thaw 1,h.2.2.thaw 0,h.2.2.thaw 1⟩
theorem BJ.call {w wc w':World} {x y:Int} (h:BJ w wc x y) (hb:Below wc.heap.size wc w'):BJ w w' x y:=
 ⟨h.1.trans (hb.mono h.1.size),h.2.1.call hb,h.2.2.call hb⟩
theorem BJ.last {w wc:World} {x y:Int} (h:BJ w wc x y) (a b:Int):(wc.setCell ⟨w.heap.size,0,none⟩ (.int .i64 a)).cell? ⟨w.heap.size,0,none⟩=some (.int .i64 a)/\
  ((wc.setCell ⟨w.heap.size,0,none⟩ (.int .i64 a)).setCell ⟨w.heap.size,1,none⟩ (.int .i64 b)).cell? ⟨w.heap.size,1,none⟩=some (.int .i64 b)/\
  (wc.setCell ⟨w.heap.size,0,none⟩ (.int .i64 a)).frozen? ⟨w.heap.size,1,none⟩=false/\(wc.setCell ⟨w.heap.size,0,none⟩ (.int .i64 a)).cell? ⟨w.heap.size,1,none⟩=some (.int .i64 0):=by
 have h1:=h.2.1.put 0 (.int .i64 a);have h2:=h1.put 1 (.int .i64 b);exact ⟨h1.cell 0,h2.cell 1,h1.thaw 1,h1.cell 1⟩
theorem BJ.ends {w wc:World} {x y:Int} (h:BJ w wc x y) (a b:Int):Below w.heap.size w ((wc.setCell ⟨w.heap.size,0,none⟩ (.int .i64 a)).setCell ⟨w.heap.size,1,none⟩ (.int .i64 b)):=
 (h.1.setCell (aA _) _).setCell (aA _) _
theorem BJ.second {w wc:World} {x y z:Int} (h:BJ w wc x y):BJ w (wc.setCell ⟨w.heap.size+1,1,none⟩ (.int .i64 z)) x z:=by
 refine ⟨h.1.setCell (by simp) _,h.2.1.other (by simp) _,?_⟩;have:=h.2.2.put 1 (.int .i64 z)
 simpa using this
theorem Adj {l:List UInt8} {x:Int} (h:Gl l=some x):x.natAbs<=1000000000:=by
 unfold Gl at h;split at h
 · have:=PhS.numV_le (l.take (PhS.cutAt l));unfold PhS.numV at this;rw [h] at this;exact this
 · have:=aU h;subst this;decide
theorem AaZ {l:List UInt8} {x:Int} (h:EX l=some x):x.natAbs<=1000000000:=by
 unfold EX at h;split at h
 · split at h
   · have:=aU h;subst this;decide
   · split at h
     · have:=aU h;subst this;decide
     · have:=PhS.numV_le (KR l);unfold PhS.numV at this;rw [h] at this;exact this
 · have:=aU h;subst this;decide
theorem Adk {s:ByteArray} {c:Nat} (hc:PhS.cutAt s.data.toList=c):KR s.data.toList=(s.extract c (s.size - 1)).toList:=by unfold KR;rw [hc,Lib.extract_toList,<-Lib.size_eq,eZ]
def AfK (s:ByteArray) (w:World) (ok:Value) (wc:World):Prop:=ok=.bool (Gl s.data.toList).isSome/\BJ w wc ((Gl s.data.toList).getD 0) 0
def QM (s:ByteArray) (w:World) (x:Int) (ok:Value) (wc:World):Prop:=ok=.bool (EX s.data.toList).isSome/\BJ w wc x ((EX s.data.toList).getD 0)
theorem Tz (s:ByteArray) (h1:0<s.size) (hm:s.size<=9223372036854775807) (w:World) (hE:Env w):
  Calls prog 136 #[.string s] w (CO s.data.toList w):=by
 go_enter func136,ntmps136
 go_upto_if 21 with fail
 go_cut [4] (fun a wc=>QK s a/\wc=w.alloc (Obj.cells #[Value.int IntKind.i64 0,Value.int IntKind.i64 0] 184))
 case first=>
  by_cases ci:(s[s.size - 1].toNat:Int)=105
  · have t:=hZ9 (AeC h1 ci);go_wp2_with fail;go_loop [4,5] (fun a i=>AfI s a i) (fun _ i=>s.size - (intOf i).toNat)
    case atStart=>
     refine ⟨1,aA _,h1,rfl,?_⟩;have h2:=PhS.lastW_lt PhS.isSign (s.data.toList.take 1);have h3:(s.data.toList.take 1).length<=1:=by simp;omega
     have:(max (PhS.lastW PhS.isSign (s.data.toList.take 1)) 0).toNat=0:=by omega
     rw [this];rfl
    case round=>
     obtain ⟨k,V,hk,rfl,rfl⟩:=hrel;by_cases g:k<s.size
     · have m:=hZ9 (PhS.take_snoc s k g);have hlen:(s.data.toList.take k).length=k:=by simp;omega
       have U:=hZ9 hlen;clear hlen;generalize F:(max (PhS.lastW PhS.isSign (s.data.toList.take k)) 0).toNat=v at*;have T:=hZ9 F;clear F;by_cases cs:(s[k].toNat:Int)=43\/(s[k].toNat:Int)=45
       · have n:=hZ9 (YY cs);rcases cs with cs | cs
         all_goals
          go_wp2
          go_round
          case rel=>refine ⟨k+1,by omega,by omega,by go_num,?_⟩;rw [m.out,PhS.lastW_snoc,n.out,aP rfl,U.out];exact Ht (by omega)
          case measure=>simp [intOf];omega
       · have n:=hZ9 (YZ (fun h=>cs (.inl h)) (fun h=>cs (.inr h)));have S:((s[k].toNat:Int)==43)=false:=aV.2 (fun h=>cs (.inl h));have X:((s[k].toNat:Int)==45)=false:=aV.2 (fun h=>cs (.inr h));clear cs
         go_wp2
         go_round
         case rel=>refine ⟨k+1,by omega,by omega,by go_num,?_⟩;rw [m.out,PhS.lastW_snoc,n.out,aG (by decide),T.out]
         case measure=>simp [intOf];omega
     · have K:k=s.size:=by omega
       have q:s.data.toList.take k=s.data.toList:=ag (by simp;omega);have j:QK s (.int .i64 ((max (PhS.lastW PhS.isSign (s.data.toList.take k)) 0).toNat:Int)):=by unfold QK;rw [q,t.out]
       clear q K;generalize (max (PhS.lastW PhS.isSign (s.data.toList.take k)) 0).toNat=v at*
       go_wp2
       go_meet;exact ⟨j,rfl⟩
  · have j:QK s (.int .i64 s.size):=by
     unfold QK;rw [AeD (.inr ⟨h1,ci⟩)]
    go_wp2
    go_meet;exact ⟨j,rfl⟩
 case rest=>
  obtain ⟨P,rfl⟩:=hcut;unfold QK at P;subst P;have H:=AfJ s.data.toList;rw [<-Lib.size_eq] at H;generalize C:PhS.cutAt s.data.toList=c at*;have t:=hZ9 C;clear C
  go_upto_if 41 with fail
  go_cut [7] (fun ok wc=>AfK s w ok wc)
  case first=>
   by_cases G:0<c
   · have E:Gl s.data.toList=PhS.numS (s.data.toList.take c):=by
      unfold Gl;rw [t.out,aP G]
     have Z:=hZ9 E;clear E;go_wp2_with fail;refine (UV (s.extract 0 c) (by simp;omega) _).mono ?_;rintro e w1 ⟨rfl,rfl⟩;go_wp2_with fail;go_meet;unfold AfK;rw [Z.out];exact ⟨rfl,BJ.made⟩
   · have E:Gl s.data.toList=some 0:=by
      unfold Gl;rw [t.out,aG G]
     go_wp2_with fail;go_meet;exact ⟨by rw [E];rfl,by rw [E];exact BJ.made⟩
  case rest=>
   obtain ⟨rfl,hp⟩:=hcut;have HR:=hZ9 (Adi s.data.toList);cases hx:Gl s.data.toList with
   | none=>
    rw [hx] at hp;replace hp:BJ w wc 0 0:=hp;have f:PhS.parseP s.data.toList=none:=by rw [HR.out,hx]
    have o:=hZ9 f;have HP:=hZ9 hp;obtain ⟨f1,f2,z,f4⟩:=hp.facts;obtain ⟨g1,g2,g3,g4⟩:=hp.thaw;obtain ⟨k1,p,_,_⟩:=hp.last 0 0;clear hx f hp;go_wp2_with fail;refine bodyPost_ret (v:=.tuple #[.agg #[.int .i64 0,.int .i64 0],.int .i64 2]) (by simp [results,results136,go_sem,k1,p]) rfl ?_;exact CO.no o.out (HP.out.ends 0 0)
   | some x=>
    rw [hx] at hp;replace hp:BJ w wc x 0:=hp;have A0:=Adj hx;have HX:=hZ9 hx;clear hx
    go_upto_if 56 with fail
    go_cut [7] (fun ok wd=>QM s w x ok wd)
    case first=>
     have HP:=hZ9 hp;obtain ⟨f1,f2,z,f4⟩:=hp.facts;obtain ⟨g1,g2,g3,g4⟩:=hp.thaw;clear hp;by_cases g:c<s.size
     · have hb:=Adk (s:=s) t.out;have l:EX s.data.toList=if (s.extract c (s.size - 1)).toList=[]\/(s.extract c (s.size - 1)).toList=[43] then some 1 else if (s.extract c (s.size - 1)).toList=[45] then some (-1) else PhS.numS (s.extract c (s.size - 1)).toList:=by
        unfold EX;rw [t.out,<-Lib.size_eq,aP g,hb]
       have n:=hZ9 l;clear l hb;by_cases u0:(s.extract c (s.size - 1)).toList=[]
       · have t0:(s.extract c (s.size - 1)).toList.isEmpty=true:=by rw [u0];rfl
         have m:=hZ9 u0;clear u0;go_wp2_with fail;go_meet;unfold QM;rw [n.out,aP (.inl m.out)];exact ⟨rfl,HP.out.second⟩
       · have t0:(s.extract c (s.size - 1)).toList.isEmpty=false:=by
          cases R:(s.extract c (s.size - 1)).toList with
          | nil=>exact absurd R u0
          | cons a b=>rfl
         by_cases u1:(s.extract c (s.size - 1)).toList=[43]
         · have Y:((s.extract c (s.size - 1)).toList==[43])=true:=by rw [u1];rfl
           have m:=hZ9 u1;clear u0 u1;go_wp2_with fail;go_meet;unfold QM;rw [n.out,aP (.inr m.out)];exact ⟨rfl,HP.out.second⟩
         · have Y:((s.extract c (s.size - 1)).toList==[43])=false:=aV.2 u1;have Q:=hZ9 (fun h:(s.extract c (s.size - 1)).toList=[]\/(s.extract c (s.size - 1)).toList=[43]=>h.elim u0 u1);by_cases u2:(s.extract c (s.size - 1)).toList=[45]
           · have t2:((s.extract c (s.size - 1)).toList==[45])=true:=by rw [u2];rfl
             have m:=hZ9 u2;clear u0 u1 u2;go_wp2_with fail;go_meet;unfold QM;rw [n.out,aG Q.out,aP m.out];exact ⟨rfl,HP.out.second⟩
           · have t2:((s.extract c (s.size - 1)).toList==[45])=false:=aV.2 u2;have m:=hZ9 u2;clear u0 u1 u2;go_wp2_with fail;refine (UV (s.extract c (s.size - 1)) (by simp;omega) _).mono ?_;rintro e w1 ⟨rfl,rfl⟩;go_wp2_with fail;go_meet;unfold QM;rw [n.out,aG Q.out,aG m.out,Lib.extract_toList];exact ⟨rfl,HP.out.second⟩
     · have l:EX s.data.toList=some 0:=by
        unfold EX;rw [t.out,<-Lib.size_eq,aG g]
       have n:=hZ9 l;clear l;go_wp2_with fail;go_meet;unfold QM;rw [n.out];exact ⟨rfl,HP.out⟩
    case rest=>
     obtain ⟨rfl,d⟩:=hcut;cases r:EX s.data.toList with
     | none=>
      rw [r] at d;replace d:BJ w wc x 0:=d;have f:PhS.parseP s.data.toList=none:=by rw [HR.out,r,HX.out]
      have o:=hZ9 f;have I:=hZ9 d;obtain ⟨f1,f2,z,f4⟩:=d.facts;obtain ⟨g1,g2,g3,g4⟩:=d.thaw;obtain ⟨k1,p,_,_⟩:=d.last 0 0;clear r f d;go_wp2_with fail;refine bodyPost_ret (v:=.tuple #[.agg #[.int .i64 0,.int .i64 0],.int .i64 2]) (by simp [results,results136,go_sem,k1,p]) rfl ?_;exact CO.no o.out (I.out.ends 0 0)
     | some y=>
      rw [r] at d;replace d:BJ w wc x y:=d;have W:=AaZ r;have J:=hZ9 r;have I:=hZ9 d;obtain ⟨f1,f2,z,f4⟩:=d.facts;clear r d;go_wp2_with fail;refine (UT x y (by omega) (by omega) _).mono ?_;rintro e w1 ⟨rfl,L⟩;have d:=I.out.call L;clear f1 f2 z f4;obtain ⟨f1,f2,z,f4⟩:=d.facts;have u:=hZ9 d;cases N:PhS.inR x y with
      | false=>
       have o:Hid (PhS.parseP s.data.toList=none):=by
        show PhS.parseP s.data.toList=none
        rw [HR.out,J.out,HX.out];simp only;rw [aG (by rw [N];simp)]
       obtain ⟨g1,g2,g3,g4⟩:=d.thaw;obtain ⟨k1,p,_,_⟩:=d.last 0 0;clear d;go_wp2_with fail;refine bodyPost_ret (v:=.tuple #[.agg #[.int .i64 0,.int .i64 0],.int .i64 2]) (by simp [results,results136,go_sem,k1,p]) rfl ?_;exact CO.no o.out (u.out.ends 0 0)
      | true=>
       clear d;go_wp2_with fail;refine (AaY x y N _ (hE.below u.out.1)).mono ?_;rintro e w2 ⟨rfl,M⟩;have d:=u.out.call M;obtain ⟨f1,f2,z,f4⟩:=d.facts;obtain ⟨g1,g2,g3,g4⟩:=d.thaw;have B:=hZ9 d;have g:=Lib.toList_data s;by_cases A:PhS.text x y=s.toList
       · have o:Hid (PhS.parseP s.data.toList=some (x,y)):=by
          show PhS.parseP s.data.toList=some (x,y)
          rw [HR.out,J.out,HX.out];simp only;rw [aP ⟨N,A.trans g⟩]
         have O:(PhS.text x y==s.toList)=true:=by rw [A];exact eP _
         obtain ⟨k1,p,_,_⟩:=d.last x y;clear A g d;go_wp2_with fail;refine bodyPost_ret (v:=.tuple #[.agg #[.int .i64 x,.int .i64 y],.int .i64 0]) (by simp [results,results136,go_sem,k1,p]) rfl ?_;exact CO.yes o.out (B.out.ends x y)
       · have o:Hid (PhS.parseP s.data.toList=none):=by
          show PhS.parseP s.data.toList=none
          rw [HR.out,J.out,HX.out];simp only;rw [aG (fun h=>A (h.2.trans g.symm))]
         have O:(PhS.text x y==s.toList)=false:=aV.2 A;obtain ⟨k1,p,_,_⟩:=d.last 0 0;clear A g d;go_wp2_with fail;refine bodyPost_ret (v:=.tuple #[.agg #[.int .i64 0,.int .i64 0],.int .i64 2]) (by simp [results,results136,go_sem,k1,p]) rfl ?_;exact CO.no o.out (B.out.ends 0 0)
theorem TA (w:World) (hE:Env w):
  Calls prog 136 #[.string ByteArray.empty] w (CO [] w):=by
 have m:Hid (PhS.parseP []=none):=by
  show PhS.parseP []=none
  cases h:PhS.parseP [] with
  | none=>rfl
  | some p=>obtain ⟨a,b⟩:=p;have h2:=(PhS.parseP_some.1 h).2;have:PhS.firstOf []=[]:=rfl;unfold PhS.parseP at h;rw [aG (by rintro ⟨h3,_⟩;revert h3;decide)] at h;cases h
 have hp:BJ w ((w.alloc (Obj.cells #[Value.int IntKind.i64 0,Value.int IntKind.i64 0] 184)).alloc (Obj.cells #[Value.int IntKind.i64 0,Value.int IntKind.i64 0] 184)) 0 0:=BJ.made;go_enter func136,ntmps136;go_wp2_with fail;refine (UT 0 0 (by omega) (by omega) _).mono ?_;rintro e w1 ⟨rfl,d⟩;have l:PhS.inR 0 0=true:=by decide
 have c:=hp.call d;obtain ⟨f1,f2,k,f4⟩:=c.facts;have f:=hZ9 c;clear hp d;go_wp2_with fail;refine (AaY 0 0 l _ (hE.below f.out.1)).mono ?_;rintro e w2 ⟨rfl,g⟩;have c:=f.out.call g;obtain ⟨f1,f2,k,f4⟩:=c.facts;obtain ⟨g1,g2,g3,g4⟩:=c.thaw;obtain ⟨k1,j,_,_⟩:=c.last 0 0;have i:=hZ9 c;have n:PhS.text 0 0=[48]:=PhS.itoa_zero;clear c g;go_wp2_with fail;refine bodyPost_ret (v:=.tuple #[.agg #[.int .i64 0,.int .i64 0],.int .i64 2]) (by simp [results,results136,go_sem,k1,j]) rfl ?_;exact CO.no m.out (i.out.ends 0 0)
theorem Za (s:ByteArray) (b:s.size<=9223372036854775807) (w:World) (hE:Env w):
  Calls prog 136 #[.string s] w (CO s.data.toList w):=by
 by_cases h0:s.size=0
 · have a:s=ByteArray.empty:=by
    obtain ⟨⟨l⟩⟩:=s;cases l with
    | nil=>rfl
    | cons c r=>have h1:(c :: r).length=0:=h0;cases h1
   subst a;exact TA w hE
 · exact Tz s (by omega) b w hE
end
end Go.Proofs.YtgngjfjaelgaeaaGreatDoor
