/- The walks of the program's 'normal' and 'Normal'. Conditions: as stated. -/
import Derived.Test.YtgngjfjaelgaeaaGreatDoorJRub
import Derived.Test.YtgngjfjaelgaeaaGreatDoorJPhi
set_option maxRecDepth 100000
namespace Go.Proofs.YtgngjfjaelgaeaaGreatDoor
open Go.Proofs.Tryz
section
open Go.RowKit
theorem Afh (v:Value) (xs:List (List UInt8)) (sep:ByteArray) (w:World) (h:Ah w v xs) (k:xs.length<=140737488355328) (hlen:(Lib.join xs sep.data.toList).length<=140737488355328):
  Calls prog 71 #[v,.string sep] w fun e w'=>e=.returned (.string ⟨(Lib.join xs sep.data.toList).toArray⟩)/\Below w.heap.size w w':=by
 obtain ⟨a,c,rfl,hc,h⟩:=h;rcases h with rfl | ⟨g,o,rfl,l,h⟩
 · refine (strings_Join_none a c sep w).mono ?_;rintro e w' ⟨rfl,rfl⟩;exact ⟨rfl,Below.refl _ _⟩
 · have f:(xs.map (fun x=>(⟨x.toArray⟩:ByteArray))).map (·.data.toList)=xs:=by
    rw [cd];exact (cQ (fun x _=>rfl)).trans (eJ xs)
   have d:(xs.map (fun x=>(⟨x.toArray⟩:ByteArray))).length=xs.length:=b7 _;have i:=strings_Join g o c (xs.map (fun x=>(⟨x.toArray⟩:ByteArray))) sep w (fun j x hx=>by
    rw [bZ] at hx;cases b:xs[j]? with
    | none=>rw [b] at hx;cases hx
    | some y=>
     rw [b] at hx;have hx:=aU hx;subst hx;exact h j y b) l (by rw [d];exact k) (by rw [d];exact hc) (by rw [f];exact hlen)
   rw [f,d] at i;exact i
theorem Xp {l:List UInt8} {v:Int} (h:Lib.parseIntB 64 l=.ok v):-9223372036854775808<=v/\v<=9223372036854775807:=by
 unfold Lib.parseIntB at h;split at h
 · cases h
 · rename_i c r;simp only at h;split at h
   · cases h
   · cases h
   · rename_i u hu;by_cases h1:¬c.toNat=45/\2 ^ (64 - 1)<=u
     · rw [aP h1] at h;cases h
     · rw [aG h1] at h;by_cases h2:c.toNat=45/\2 ^ (64 - 1)<u
       · rw [aP h2] at h;cases h
       · rw [aG h2] at h;injection h with h;have e:(2:Nat) ^ (64 - 1)=9223372036854775808:=by decide
         rw [e] at h1 h2;split at h <;> omega
theorem LO (s:ByteArray) (c:s.size<=281474976710656) (v:Int) (h:Lib.parseIntB 64 s.data.toList=.ok v) (w:World):
  Calls prog 183 #[.string s,.int .i64 10,.int .i64 64] w fun e w'=>e=.returned (.tuple #[.int .i64 v,.nilIface])/\Below w.heap.size w w':=by
 refine (strconv_ParseInt_10_at64_ok s (by omega) v h w).mono ?_;rintro e w' ⟨a,b⟩;refine ⟨a,?_⟩;rcases b with rfl | ⟨t,rfl⟩
 · exact Below.refl _ _
 · exact Lib.bytesWorld_below _ _ _
theorem TN (s:ByteArray) (g:s.size<=281474976710656) (h:∀v,Lib.parseIntB 64 s.data.toList≠.ok v) (w:World) (hE:Env w):
  Calls prog 183 #[.string s,.int .i64 10,.int .i64 64] w fun e w'=>∃n N,e=.returned (.tuple #[.int .i64 n,.iface 255 (.pointer (some ⟨N,0,none⟩))])/\Below w.heap.size w w':=by
 obtain ⟨j,p,a⟩:=hE.syn;obtain ⟨f,i,b⟩:=hE.rng;cases c:Lib.parseIntB 64 s.data.toList with
 | ok v=>exact absurd c (h v)
 | range=>refine (Any.strconv_ParseInt_10_at64_range laysC174 s g c (.iface f i) w b (gb ⟨_,_,rfl⟩)).mono ?_;rintro e w' ⟨N,d,_,_,hb⟩;exact ⟨_,N,d,hb⟩
 | _=>refine (Any.strconv_ParseInt_10_at64_syntax laysC174 s g c (.iface j p) w a (gb ⟨_,_,rfl⟩)).mono ?_;rintro e w' ⟨N,d,_,_,hb⟩;exact ⟨_,N,d,hb⟩
def FC (syn:Int) (l:List UInt8) (w:World) (e:Ending) (w':World):Prop:=
 ∃t:List UInt8,e=.returned (.tuple #[.string ⟨t.toArray⟩,.bool (RuS.normV syn l).isSome])/\(∀s,RuS.normV syn l=some s->t=s)/\Below w.heap.size w w'
theorem VX (l:List UInt8):(RuS.wordsL l).length<=l.length+1:=by unfold RuS.wordsL;have h1:=bL (fun p:List UInt8=>!p.isEmpty) (RuS.pieces 32 l);have h2:=IE 32 l;omega
theorem Acl (s:ByteArray) (d:s.size<=1000000) (w:World) (hE:Env w):Calls prog 159 #[.int .i64 1,.string s] w (FC 1 s.data.toList w):=by
 have g:=fun w=>lower_c s (by omega) w;unfold Ce at g;have B:=Lib.size_eq s;have y:=RuS.lower_length s.data.toList;have j:=fun w hE=>Afg ⟨(RuS.lower s.data.toList).toArray⟩ (by show (RuS.lower s.data.toList).length<=_;omega) w hE;unfold VW at j;have n:(⟨(RuS.lower s.data.toList).toArray⟩:ByteArray).data.toList=RuS.lower s.data.toList:=rfl;rw [n] at j;have o:=VX (RuS.lower s.data.toList);have r:=RuS.textS_le s.data.toList;have c:RuS.textS s.data.toList=Lib.join (RuS.wordsL (RuS.lower s.data.toList)) [32]:=rfl;have H:=hZ9 c;rw [c] at r;have l:=fun v w h=>Afh v (RuS.wordsL (RuS.lower s.data.toList)) ⟨#[32]⟩ w h (by omega) (by show (Lib.join (RuS.wordsL (RuS.lower s.data.toList)) [32]).length<=_;omega);have x:(⟨#[32]⟩:ByteArray).data.toList=[32]:=rfl;rw [x] at l;rw [<-c] at l;have F:=hZ9 (RuS.textS_zero s.data.toList);clear c x n o r;have m:Hid (RuS.normV 1 s.data.toList=if (RuS.textS s.data.toList).isEmpty||RuS.hasNul s.data.toList then none else some (RuS.textS s.data.toList)):=hZ9 rfl;generalize RuS.textS s.data.toList=tx at*;generalize RuS.wordsL (RuS.lower s.data.toList)=ws at*;generalize RuS.lower s.data.toList=lo at*;clear B y;have k:=fun w=>strings_IndexByte ⟨tx.toArray⟩ 0 w;have u:(⟨tx.toArray⟩:ByteArray).data.toList=tx:=rfl;have p:((0:Int).toNat.toUInt8)=0:=rfl;rw [u,p] at k;clear u p;have t:=hZ9 (RuS.indexByte_none tx 0);generalize Lib.indexByte tx 0=ix at*;go_enter func159,ntmps159;go_wp2_with fail;refine (g _).mono ?_;rintro e w1 ⟨rfl,q⟩;go_wp2_with fail;refine (j _ (hE.below q)).mono ?_;rintro e w2 ⟨v,rfl,C,z⟩;go_wp2_with fail;refine (l _ _ C).mono ?_;rintro e w3 ⟨rfl,A⟩;have a:=Aa q (Aa z A);cases E:tx.isEmpty with
 | true=>have i:=hZ9 E;go_wp2_with fail;go_ret2;exact ⟨tx,by rw [m.out,i.out];rfl,fun s d=>(by rw [m.out,i.out] at d;cases d),a⟩
 | false=>
  have i:=hZ9 E;by_cases f:ix<0
  · have HX:=hZ9 f;go_wp2_with fail;refine (k _).mono ?_;rintro e w4 ⟨rfl,rfl⟩;go_wp2_with fail;go_ret2;have b:RuS.hasNul s.data.toList=false:=by
     unfold RuS.hasNul;rw [bc,<-F.out];exact t.out.1 HX.out
    exact ⟨tx,by rw [m.out,i.out,b];rfl,fun s d=>by rw [m.out,i.out,b] at d;exact aU d,a⟩
  · have HX:=hZ9 f;have G:decide (ix<0)=false:=aC f;clear f;go_wp2_with fail;refine (k _).mono ?_;rintro e w4 ⟨rfl,rfl⟩;go_wp2_with fail;go_ret2;have b:RuS.hasNul s.data.toList=true:=by
     unfold RuS.hasNul;rw [az,<-F.out];exact fO fun hc=>by have h1:=t.out.2 hc;have h2:=HX.out;omega
    exact ⟨tx,by rw [m.out,i.out,b];rfl,fun s d=>(by rw [m.out,i.out,b] at d;cases d),a⟩
theorem Acm (s:ByteArray) (w:World):Calls prog 159 #[.int .i64 2,.string s] w (FC 2 s.data.toList w):=by go_enter func159,ntmps159;go_wp2_with fail;go_ret2;exact ⟨s.data.toList,rfl,fun t a=>aU a,Below.refl _ _⟩
theorem Acn (s:ByteArray) (i:s.size<=1000000) (w:World) (hE:Env w):Calls prog 159 #[.int .i64 4,.string s] w (FC 4 s.data.toList w):=by
 have hp:=fun w hE=>Kt s (by omega) w hE;unfold Qa at hp;have h:Hid (RuS.normV 4 s.data.toList=if (PhS.parseP s.data.toList).isSome then some s.data.toList else none):=hZ9 rfl;cases d:PhS.parseP s.data.toList with
 | none=>rw [d] at hp;simp only at hp;have g:=hZ9 d;clear d;go_enter func159,ntmps159;go_wp2_with fail;refine (hp _ hE).mono ?_;rintro e w1 ⟨rfl,c⟩;go_wp2_with fail;go_ret2;exact ⟨s.data.toList,by rw [h.out,g.out];rfl,fun t f=>(by rw [h.out,g.out] at f;cases f),c⟩
 | some p=>obtain ⟨a,b⟩:=p;rw [d] at hp;simp only at hp;have g:=hZ9 d;clear d;go_enter func159,ntmps159;go_wp2_with fail;refine (hp _ hE).mono ?_;rintro e w1 ⟨rfl,c⟩;go_wp2_with fail;go_ret2;exact ⟨s.data.toList,by rw [h.out,g.out];rfl,fun t f=>by rw [h.out,g.out] at f;exact aU f,c⟩
theorem VY (s:ByteArray):(⟨s.data.toList.toArray⟩:ByteArray)=s:=by obtain ⟨⟨l⟩⟩:=s;rfl
theorem ZX (s:ByteArray) (g:s.size<=1000000) (hp:∀v,Lib.parseIntB 64 s.data.toList≠.ok v) (w:World) (hE:Env w):Calls prog 159 #[.int .i64 3,.string s] w (FC 3 s.data.toList w):=by
 have a:=fun w hE=>TN s (by omega) hp w hE;have d:Hid (RuS.normV 3 s.data.toList=none):=hZ9 (by
  show (if (RuS.intS s.data.toList).isSome then some s.data.toList else none)=none
  have:RuS.intS s.data.toList=none:=by
   unfold RuS.intS;split
   · rename_i n f;exact absurd f (hp n)
   · rfl
  rw [this];rfl)
 clear hp;go_enter func159,ntmps159;go_wp2_with fail;refine (a _ hE).mono ?_;rintro e w1 ⟨n,N,rfl,b⟩;go_wp2_with fail;go_ret2;exact ⟨s.data.toList,by rw [d.out];rfl,fun t c=>(by rw [d.out] at c;cases c),b⟩
theorem ZY (s:ByteArray) (o:s.size<=1000000) (v:Int) (hp:Lib.parseIntB 64 s.data.toList=.ok v) (w:World) (hE:Env w):Calls prog 159 #[.int .i64 3,.string s] w (FC 3 s.data.toList w):=by
 have f:=fun w=>LO s (by omega) v hp w;have n:=Xp hp;have h:=fun w hE=>JY v n.1 n.2 w hE;have g:=fun w=>strings_TrimPrefix s ⟨#[45]⟩ w;have c:(⟨#[45]⟩:ByteArray).data.toList=[45]:=rfl;rw [c] at g;clear c;have i:Hid (RuS.normV 3 s.data.toList=if (Lib.itoa v==s.data.toList)&&decide ((Lib.trimPrefix s.data.toList [45]).length<=18) then some s.data.toList else none):=hZ9 (by
  show (if (RuS.intS s.data.toList).isSome then some s.data.toList else none)=_
  unfold RuS.intS;rw [hp];simp only;split <;> rfl)
 clear hp n;generalize Lib.itoa v=iv at*;have k:s.data.toList=s.toList:=(Lib.toList_data s).symm;have l:=hZ9 k;clear k;cases h1:(iv==s.toList) with
 | false=>have H1:Hid ((iv==s.data.toList)=false):=hZ9 (by rw [l.out];exact h1);go_enter func159,ntmps159;go_wp2_with fail;refine (f _).mono ?_;rintro e w1 ⟨rfl,a⟩;go_wp2_with fail;refine (h _ (hE.below a)).mono ?_;rintro e w2 ⟨rfl,b⟩;go_wp2_with fail;go_ret2;exact ⟨s.data.toList,by rw [i.out,H1.out];rfl,fun t d=>(by rw [i.out,H1.out] at d;cases d),Aa a b⟩
 | true=>
  have H1:Hid ((iv==s.data.toList)=true):=hZ9 (by rw [l.out];exact h1);generalize Lib.trimPrefix s.data.toList [45]=tp at*;by_cases h2:tp.length<=18
  · have j:=hZ9 (aL h2);have m:decide ((tp.length:Int)<=18)=true:=aL (by omega);go_enter func159,ntmps159;go_wp2_with fail;refine (f _).mono ?_;rintro e w1 ⟨rfl,a⟩;go_wp2_with fail;refine (h _ (hE.below a)).mono ?_;rintro e w2 ⟨rfl,b⟩;go_wp2_with fail;refine (g _).mono ?_;rintro e w3 ⟨rfl,rfl⟩;go_wp2_with fail;go_ret2;exact ⟨s.data.toList,by rw [i.out,H1.out,j.out];rfl,fun t d=>(by rw [i.out,H1.out,j.out] at d;exact aU d),Aa a b⟩
  · have j:=hZ9 (aC h2);have m:decide ((tp.length:Int)<=18)=false:=aC (by omega);go_enter func159,ntmps159;go_wp2_with fail;refine (f _).mono ?_;rintro e w1 ⟨rfl,a⟩;go_wp2_with fail;refine (h _ (hE.below a)).mono ?_;rintro e w2 ⟨rfl,b⟩;go_wp2_with fail;refine (g _).mono ?_;rintro e w3 ⟨rfl,rfl⟩;go_wp2_with fail;go_ret2;exact ⟨s.data.toList,by rw [i.out,H1.out,j.out];rfl,fun t d=>(by rw [i.out,H1.out,j.out] at d;cases d),Aa a b⟩
theorem VZ (k:Nat) (h1:1<=k) (h4:k<=4) (s:ByteArray) (a:s.size<=1000000) (w:World) (hE:Env w):Calls prog 159 #[.int .i64 (k:Int),.string s] w (FC (k:Int) s.data.toList w):=by
 have hk:k=1\/k=2\/k=3\/k=4:=by omega
 rcases hk with rfl | rfl | rfl | rfl
 · exact Acl s a w hE
 · exact Acm s w
 · by_cases h:∃v,Lib.parseIntB 64 s.data.toList=.ok v
   · obtain ⟨v,b⟩:=h;exact ZY s a v b w hE
   · exact ZX s a (fun v b=>h ⟨v,b⟩) w hE
 · exact Acn s a w hE
def Bl (name l:List UInt8) (w:World) (e:Ending) (w':World):Prop:=e=.returned (.tuple #[.string ⟨(RuS.normal name l).1.toArray⟩,.int .i64 (RuS.normal name l).2])/\Below w.heap.size w w'
theorem Bl.mk' {name l:List UInt8} {w w':World} {r:List UInt8 × Int} (h:RuS.normal name l=r) (hb:Below w.heap.size w w'):Bl name l w (.returned (.tuple #[.string ⟨r.1.toArray⟩,.int .i64 r.2])) w':=by unfold Bl;rw [h];exact ⟨rfl,hb⟩
theorem FH (nm s:ByteArray) (I:nm.size<=9223372036854775807) (J:s.size<=9223372036854775807) (w:World) (hE:Env w):
  Calls prog 126 #[.string nm,.string s] w (Bl nm.data.toList s.data.toList w):=by
 have d:=fun w=>Gq nm I w;unfold Ar at d;have j:=RuS.typeM_all (RuS.lower nm.data.toList);have m:Hid (RuS.normal nm.data.toList s.data.toList=RuS.normalR (RuS.typeOf nm.data.toList).2 s.data.toList):=hZ9 rfl;have f:RuS.typeOf nm.data.toList=([],0)\/(1<=(RuS.typeOf nm.data.toList).2/\(RuS.typeOf nm.data.toList).2<=5/\1<=(RuS.typeOf nm.data.toList).1.length/\(RuS.typeOf nm.data.toList).1.length<=17):=j;clear j;generalize RuS.typeOf nm.data.toList=r at*;obtain ⟨t,i⟩:=r;simp only at d m f;have p:=Lib.size_eq s;by_cases h0:i=0
 · subst h0;go_enter func126,ntmps126;go_wp2_with fail;refine (d _).mono ?_;rintro e w1 ⟨rfl,c⟩;go_wp2_with fail;go_ret2;exact Bl.mk' (r:=([],5)) (by rw [m.out];rfl) c
 by_cases h5:i=5
 · subst h5;go_enter func126,ntmps126;go_wp2_with fail;refine (d _).mono ?_;rintro e w1 ⟨rfl,c⟩;go_wp2_with fail;go_ret2;exact Bl.mk' (r:=([],1)) (by rw [m.out];rfl) c
 have F:1<=i/\i<=4:=by
  rcases f with h | h
  · injection h with _ h;exact absurd h h0
  · omega
 have g0:(i==0)=false:=by simpa using h0
 have g5:(i==5)=false:=by simpa using h5
 have H0:=hZ9 h0;have u:=hZ9 h5;clear h0 h5 f;by_cases o:s.data.toList.length<1
 · have C:s.toList.isEmpty=true:=by rw [Lib.toList_data];exact dA.2 (aW (by omega))
   have v:=hZ9 o;clear o;go_enter func126,ntmps126;go_wp2_with fail;refine (d _).mono ?_;rintro e w1 ⟨rfl,c⟩;go_wp2_with fail;go_ret2;exact Bl.mk' (r:=([],2)) (by rw [m.out];unfold RuS.normalR;rw [aG H0.out,aG u.out,aP (.inl v.out)]) c
 have C:s.toList.isEmpty=false:=by
  rw [Lib.toList_data];cases G:s.data.toList with
  | nil=>rw [G] at o;exact absurd (by decide) o
  | cons a b=>rfl
 by_cases B:200<s.data.toList.length
 · have v:=hZ9 B;have z:200<s.size:=by omega
   clear o B p;go_enter func126,ntmps126;go_wp2_with fail;refine (d _).mono ?_;rintro e w1 ⟨rfl,c⟩;go_wp2_with fail;go_ret2;exact Bl.mk' (r:=([],2)) (by rw [m.out];unfold RuS.normalR;rw [aG H0.out,aG u.out,aP (.inr v.out)]) c
 have z:s.size<=200:=by omega
 have E:Hid (¬(s.data.toList.length<1\/200<s.data.toList.length)):=hZ9 (by omega);clear o B p;obtain ⟨k,rfl⟩:∃k:Nat,i=(k:Int):=⟨i.toNat,by omega⟩
 have g:=fun w hE=>VZ k (by omega) (by omega) s (by omega) w hE;unfold FC at g;have H:decide ((200:Int)<(s.size:Int))=false:=aC (by omega);cases n:RuS.normV (k:Int) s.data.toList with
 | none=>rw [n] at g;simp only [Option.isSome_none] at g;have y:=hZ9 n;clear n;go_enter func126,ntmps126;go_wp2_with fail;refine (d _).mono ?_;rintro e w1 ⟨rfl,c⟩;go_wp2_with fail;refine (g _ (hE.below c)).mono ?_;rintro e w2 ⟨t2,rfl,_,l⟩;go_wp2_with fail;go_ret2;exact Bl.mk' (r:=([],2)) (by rw [m.out];unfold RuS.normalR;rw [aG H0.out,aG u.out,aG E.out,y.out]) (Aa c l)
 | some x=>rw [n] at g;simp only [Option.isSome_some] at g;have y:=hZ9 n;clear n;go_enter func126,ntmps126;go_wp2_with fail;refine (d _).mono ?_;rintro e w1 ⟨rfl,c⟩;go_wp2_with fail;refine (g _ (hE.below c)).mono ?_;rintro e w2 ⟨t2,rfl,q,l⟩;have A:=q x rfl;clear q;subst A;go_wp2_with fail;go_ret2;exact Bl.mk' (r:=(_,0)) (by rw [m.out];unfold RuS.normalR;rw [aG H0.out,aG u.out,aG E.out,y.out]) (Aa c l)
end
section
open Go.RowKit
theorem Ah.laid (w:World) (xs:List (List UInt8)) (n:Nat) (b:xs.length=n):Ah (w.alloc (.cells (xs.map Ac).toArray 9)) (.slice (some ⟨w.heap.size,0,none⟩) n n) xs:=by subst b;refine ⟨_,_,rfl,aA _,.inr ⟨w.heap.size,0,rfl,by simp,fun j y a=>?_⟩⟩;have h:=(Whole.made w 9 (xs.map Ac).toArray).cell j;rw [bi,h];simp [a]
end
end Go.Proofs.YtgngjfjaelgaeaaGreatDoor
