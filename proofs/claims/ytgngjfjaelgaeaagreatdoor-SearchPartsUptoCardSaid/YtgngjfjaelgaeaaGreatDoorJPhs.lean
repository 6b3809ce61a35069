/- The walks of the document's 'text' and 'Integer'. Conditions: as stated. -/
import Derived.Deep.DrawnRows
import Derived.Test.YtgngjfjaelgaeaaGreatDoorJPhc
import Derived.Test.YtgngjfjaelgaeaaGreatDoorJRue
set_option maxRecDepth 100000
set_option maxHeartbeats 1000000
namespace Go.Proofs.YtgngjfjaelgaeaaGreatDoor
open Go.Proofs.Tryz
section
open Go.RowKit
def IL (l:List UInt8):List UInt8:=if RuS.hasNul l then [] else RuS.textS l
def XX (l:List UInt8) (w:World) (e:Ending) (w':World):Prop:=e=.returned (.string ⟨(IL l).toArray⟩)/\Below w.heap.size w w'
def Adt (lo:List UInt8) (w0:World) (out gap i:Value) (wr:World):Prop:=
 ∃k:Nat,k<=lo.length/\i=.int .i64 k/\gap=.bool (RuS.gapB (lo.take k))/\OwnB wr w0.heap.size out (Lib.join (RuS.wordsL (lo.take k)) [32])/\(∀c ∈ lo.take k,c≠0)/\Below w0.heap.size w0 wr
theorem Abl (l:List UInt8):RuS.hasNul l=decide ((0:UInt8) ∈ RuS.lower l):=by unfold RuS.hasNul;exact bO.2 (RuS.lower_zero l).symm
theorem Abm (s:ByteArray) (hs:s.size<=1000000) (w:World):Calls prog 134 #[.string s] w (XX s.data.toList w):=by
 have O:=fun w=>BF s (by omega) w;unfold Ce at O;have hlen:=RuS.lower_length s.data.toList;rw [<-Lib.size_eq] at hlen;have W:Hid (RuS.textS s.data.toList=Lib.join (RuS.wordsL (RuS.lower s.data.toList)) [32]):=hZ9 rfl;have S:=hZ9 (Abl s.data.toList);generalize RuS.lower s.data.toList=lo at*;have Y:lo.length<=1000000:=by omega
 clear hlen;go_enter func134,ntmps134;go_wp2_with fail;refine (O _).mono ?_;rintro e w0 ⟨rfl,hb0⟩;go_wp2_with fail;go_loopw [3,4,6] (fun out gap i wr=>Adt lo w0 out gap i wr) (fun _ _ i _=>lo.length - (intOf i).toNat)
 case atStart=>exact ⟨0,aR _,rfl,rfl,OwnB.empty _ _,by simp,Below.refl _ _⟩
 case round=>
  obtain ⟨k,hk,rfl,rfl,g,A,hb⟩:=hrel;have B:=hZ9 A;clear A;by_cases E:k<lo.length
  · have z:=RuS.joinW_le (lo.take k);have F:(lo.take k).length=k:=by simp;omega
    rw [F] at z;have Z:=hZ9 z;have V:(Lib.join (RuS.wordsL (lo.take k)) [32]).length<=1000000:=by omega
    clear z F;have p:Hid (lo.take (k+1)=lo.take k++[lo[k]]):=hZ9 (aX E);have U:Hid (lo[k] ∈ lo):=hZ9 (aZ E);have P:Hid (RuS.gapB (lo.take k++[lo[k]])=(lo[k]==32)):=hZ9 (RuS.gap_snoc _ _);have J:Hid (Lib.join (RuS.wordsL (lo.take k++[32])) [32]=Lib.join (RuS.wordsL (lo.take k)) [32]):=hZ9 (by rw [RuS.wordsL_blank]);have r:=hZ9 (fun (h:lo[k]≠32)=>RuS.wordsL_letter (lo.take k) h);generalize C:lo[k]=c at*;have T:∀h,(⟨lo.toArray⟩:ByteArray)[k]'h=c:=fun _=>C;clear C;generalize Lib.join (RuS.wordsL (lo.take k)) [32]=acc at*;generalize RuS.gapB (lo.take k)=gp at*;by_cases c0:(c.toNat:Int)=0
    · have M:Hid (IL s.data.toList=[]):=hZ9 (by
       unfold IL;rw [S.out,aL (by have h1:=U.out;rw [FX (n:=0) (by decide) c0] at h1;exact h1)];rfl)
      have kz:((c.toNat:Int)==0)=true:=af.2 c0;clear c0;go_wp2_with fail;go_ret;exact ⟨by rw [M.out];rfl,hb0.trans (hb.mono hb0.size)⟩
    · have H0:Hid (c≠0):=hZ9 (fun e=>c0 (by rw [e];rfl));have k0:((c.toNat:Int)==0)=false:=aV.2 c0;have H:∀x ∈ lo.take (k+1),x≠0:=by
       intro x hx;rw [p.out] at hx;rcases b9.1 hx with hx | hx
       · exact B.out x hx
       · rw [ak.1 hx];exact H0.out
      have q:=hZ9 H;clear c0 H;by_cases j:(c.toNat:Int)=32
      · have y:Hid (c=32):=hZ9 (FX (n:=32) (by decide) j);have L:((c.toNat:Int)==32)=true:=af.2 j;clear j;go_wp2_with fail;go_roundw
        case rel=>
         refine ⟨k+1,by omega,by go_num,?_,?_,q.out,hb⟩
         · rw [p.out,P.out,y.out];rfl
         · rw [p.out,y.out,J.out];exact g
        case measure=>simp [intOf];omega
      · have y:Hid (c≠32):=hZ9 (fun e=>j (by rw [e];rfl));have L:((c.toNat:Int)==32)=false:=aV.2 j;clear j;have t:Hid (RuS.gapB (lo.take k++[c])=false):=hZ9 (by rw [P.out];simpa using y.out);cases gp with
        | false=>
         have l:Hid (Lib.join (RuS.wordsL (lo.take k++[c])) [32]=acc++[c]):=hZ9 (by rw [r.out y.out];simp);go_wp2_with (at_builtin;refine Eh (by rfl) _ _ (by rfl) w0.heap.size _ acc (by rfl) (g.alloc _) wr.heap.size 1 1 (by rfl) [c] (by rfl) ?c1 ?c2 ?c3 ?_)
         case c1=>first | exact one_cell (by simp [go_sem,Ai]) | exact Fh _
         case c2=>omega
         case c3=>have:=hb.size;simp;omega
         intro Q w2 f m;go_wp2_with fail;go_roundw
         case rel=>
          refine ⟨k+1,by omega,by go_num,?_,?_,q.out,(hb.alloc hb.size _).trans m⟩
          · rw [p.out,t.out]
          · rw [p.out,l.out];exact f
         case measure=>simp [intOf];omega
        | true=>
         obtain ⟨a,cp,rfl⟩:=g.form;by_cases d:acc=[]
         · have G:acc.length=0:=by rw [d];rfl
           have l:Hid (Lib.join (RuS.wordsL (lo.take k++[c])) [32]=acc++[c]):=hZ9 (by rw [r.out y.out,d];rfl);have K:decide ((0:Int)<(acc.length:Int))=false:=aC (by omega);have HA:=hZ9 d;have X:acc.length<=0:=by omega
           clear d G;go_wp2_with (at_builtin;refine Eh (by rfl) _ _ (by rfl) w0.heap.size _ acc (by rfl) (g.alloc _) wr.heap.size 1 1 (by rfl) [c] (by rfl) ?d1 ?d2 ?d3 ?_)
           case d1=>first | exact one_cell (by simp [go_sem,Ai]) | exact Fh _
           case d2=>omega
           case d3=>have:=hb.size;simp;omega
           intro Q w2 f m;go_wp2_with fail;go_roundw
           case rel=>
            refine ⟨k+1,by omega,by go_num,?_,?_,q.out,(hb.alloc hb.size _).trans m⟩
            · rw [p.out,t.out]
            · rw [p.out,l.out];exact f
           case measure=>simp [intOf];omega
         · have R:0<acc.length:=cT.2 d;have l:Hid (Lib.join (RuS.wordsL (lo.take k++[c])) [32]=acc++[32]++[c]):=hZ9 (by
            rw [r.out y.out];have:acc.isEmpty=false:=by cases acc with
             | nil=>exact absurd rfl d
             | cons a b=>rfl
            rw [this];rfl)
           have K:decide ((0:Int)<(acc.length:Int))=true:=aL (by omega);clear d;go_wp2_with (at_builtin;refine Eh (by rfl) _ _ (by rfl) w0.heap.size _ acc (by rfl) (g.alloc _) wr.heap.size 1 1 (by rfl) [32] (by rfl) ?e1 ?e2 ?e3 ?_)
           case e1=>first | exact one_cell (by simp [go_sem,Ai]) | exact Fh _
           case e2=>omega
           case e3=>have:=hb.size;simp;omega
           intro Q w2 f m;have u:=(hb.alloc hb.size (.cells #[.int .u8 32] 5)).trans m;go_wp2_with (at_builtin;refine Eh (by rfl) _ _ (by rfl) w0.heap.size _ (acc++[32]) (by rfl) (f.alloc _) w2.heap.size 1 1 (by rfl) [c] (by rfl) ?f1 ?f2 ?f3 ?_)
           case f1=>first | exact one_cell (by simp [go_sem,Ai]) | exact Fh _
           case f2=>simp;omega
           case f3=>have:=u.size;simp;omega
           intro v2 w3 v I;go_wp2_with fail;go_roundw
           case rel=>
            refine ⟨k+1,by omega,by go_num,?_,?_,q.out,(u.alloc u.size _).trans I⟩
            · rw [p.out,t.out]
            · rw [p.out,l.out,show acc++[32]++[c]=acc++[32,c] from by simp];exact v
           case measure=>simp [intOf];omega
  · have o:lo.take k=lo:=ag (by omega);rw [o] at g;have M:Hid (IL s.data.toList=Lib.join (RuS.wordsL lo) [32]):=hZ9 (by
     unfold IL;rw [S.out,aC (fun h=>B.out 0 (by rw [o];exact h) rfl),W.out];rfl)
    clear o;have N:=g.back;go_wp2_with fail;go_ret;exact ⟨by rw [M.out];rfl,hb0.trans (hb.mono hb0.size)⟩
def CJ (l:List UInt8) (w:World) (e:Ending) (w':World):Prop:=e=.returned (.tuple #[.int .i64 ((RuS.intR l).getD 0),.bool (RuS.intR l).isSome])/\w=w'
theorem CJ.yes {l:List UInt8} {w:World} {v:Int} (h:RuS.intR l=some v):CJ l w (.returned (.tuple #[.int .i64 v,.bool true])) w:=by unfold CJ;rw [h];exact ⟨rfl,rfl⟩
theorem CJ.no {l:List UInt8} {w:World} (h:RuS.intR l=none):CJ l w (.returned (.tuple #[.int .i64 0,.bool false])) w:=by unfold CJ;rw [h];exact ⟨rfl,rfl⟩
theorem Jt {l d:List UInt8} {neg:Bool} (a:(l.head?==some 45)=neg) (hd:(if neg=true then l.tail else l)=d)
  (h:d.length<1\/18<d.length\/(d.head?=some 48/\(1<d.length\/neg=true))\/d.all PhS.isDig=false):RuS.intR l=none:=by
 unfold RuS.intR;simp only [a,hd];rw [aP h]
theorem Vj {l d:List UInt8} {neg:Bool} (a:(l.head?==some 45)=neg) (hd:(if neg=true then l.tail else l)=d)
  (h:¬(d.length<1\/18<d.length\/(d.head?=some 48/\(1<d.length\/neg=true))\/d.all PhS.isDig=false)):RuS.intR l=some (if neg=true then -(PhS.valFrom 0 d:Int) else PhS.valFrom 0 d):=by
 unfold RuS.intR;simp only [a,hd];rw [aG h]
def XY (u:ByteArray) (n i:Value):Prop:=∃k:Nat,k<=u.size/\i=.int .i64 k/\n=.int .i64 (PhS.valFrom 0 (u.data.toList.take k))/\(u.data.toList.take k).all PhS.isDig=true
theorem TF (s:ByteArray) (h0:s.size=0) (w:World):Calls prog 135 #[.string s] w (CJ s.data.toList w):=by
 have a:s=ByteArray.empty:=by
  obtain ⟨⟨l⟩⟩:=s;cases l with
  | nil=>rfl
  | cons c r=>have h1:(c :: r).length=0:=h0;cases h1
 subst a;go_enter func135,ntmps135;go_wp2_with fail;go_ret2;exact CJ.no rfl
theorem KT {s:ByteArray} (h:0<s.size) (n:UInt8):(s.data.toList.head?==some n)=decide (s[0]=n):=by rw [GQ h,bS,af,az];exact ⟨fun e=>aU e,fun e=>by rw [e]⟩
theorem XZ (s:ByteArray):s.data.toList.tail=(s.extract 1 s.size).data.toList:=by rw [Lib.extract_to_end];simp
set_option linter.unusedVariables false in
theorem NU (u:ByteArray) (h1:1<=u.size) (I:u.size<=18) (p:((u[0].toNat:Int)==45)=false) (a:((u[0].toNat:Int)==48)=false\/(((u[0].toNat:Int)==48)=true/\u.size<=1)) (w:World):
  Calls prog 135 #[.string u] w (CJ u.data.toList w):=by
 have j:¬(u[0].toNat:Int)=45:=aV.1 p;have c:(u.data.toList.head?==some 45)=false:=by rw [KT (by omega),bc];intro e;rw [e] at j;exact j rfl
 have y:=Lib.size_eq u;have NO:=hZ9 (fun h=>Jt c (d:=u.data.toList) rfl h);have h48:¬(u.data.toList.head?=some 48/\(1<u.data.toList.length\/(false:Bool)=true)):=by
  rintro ⟨e,h⟩;rcases a with a | a
  · have:=aV.1 a;rw [GQ (by omega)] at e;have H:=aU e;rw [H] at this;exact this rfl
  · rcases h with h | h
    · omega
    · cases h
 have f:=hZ9 (fun (hd:u.data.toList.all PhS.isDig=true)=>Vj c (d:=u.data.toList) rfl (by
  rintro (h | h | h | h)
  · omega
  · omega
  · exact h48 h
  · rw [hd] at h;cases h))
 replace NO:=NO.out;replace f:=f.out;have s:=hZ9 NO;have m:=hZ9 f;clear NO f j c y h48;rcases a with a | ⟨a,c1⟩
 all_goals
  go_enter func135,ntmps135;go_wp2_with fail;clear p a;go_loop [6,7] (fun n i=>XY u n i) (fun _ i=>u.size - (intOf i).toNat)
  case atStart=>exact ⟨0,aR _,rfl,rfl,rfl⟩
  case round=>
   obtain ⟨k,hk,rfl,rfl,hd⟩:=hrel;have z:PhS.valFrom 0 (u.data.toList.take k)<1000000000000000000:=RuS.val18 hd (by simp;omega);by_cases o:k<u.size
   · have t:PhS.valFrom 0 (u.data.toList.take k)<100000000000000000:=by
      have h1:=PhS.valFrom_lt _ hd;have h2:(u.data.toList.take k).length<=17:=by simp;omega
      have h3:10 ^ (u.data.toList.take k).length<=10 ^ 17:=bg (by decide) h2;omega
     have x:=hZ9 (PhS.take_snoc u k o);have C:=hZ9 hd;clear hd;generalize q:PhS.valFrom 0 (u.data.toList.take k)=v at*;have F:=hZ9 q;clear q;by_cases b:48<=(u[k].toNat:Int)/\(u[k].toNat:Int)<=57
     · have A:=hZ9 (Jc b);have B:=hZ9 b;obtain ⟨d1,d2⟩:=b
       go_wp2
       go_round
       case rel=>
        refine ⟨k+1,by omega,by go_num,Ht ?_,?_⟩
        · rw [x.out,PhS.valFrom_snoc,F.out];have:=B.out;omega
        · rw [x.out,dL,C.out];simp [A.out]
       case measure=>simp [intOf];omega
     · have l:=all_not u k o (Kq b);have G:=hZ9 (s.out (.inr (.inr (.inr l))));clear l
       go_wp2
       all_goals go_ret2
       all_goals exact CJ.no G.out
   · have r:k=u.size:=by omega
     have g:u.data.toList.take k=u.data.toList:=ag (by simp;omega);rw [g] at hd z⊢;have E:=hZ9 (m.out hd);clear g hd;generalize PhS.valFrom 0 u.data.toList=v at*;subst r
     go_wp2
     go_ret2;exact CJ.yes (by rw [E.out];rfl)
set_option linter.unusedVariables false in
theorem WZ (s u:ByteArray) (h1:1<=s.size) (hu:s.extract 1 s.size=u) (J:1<=u.size) (L:u.size<=18) (m:(s[0].toNat:Int)=45) (j:((u[0].toNat:Int)==48)=false) (w:World):
  Calls prog 135 #[.string s] w (CJ s.data.toList w):=by
 have b:(s.data.toList.head?==some 45)=true:=by rw [KT (by omega),az];exact FX (n:=45) (by decide) m
 have d:(if true=true then s.data.toList.tail else s.data.toList)=u.data.toList:=by rw [aP rfl,XZ,hu]
 have z:=Lib.size_eq u;have NO:=fun h=>Jt b d h;have h48:¬u.data.toList.head?=some 48:=by intro e;have:=aV.1 j;rw [GQ (by omega)] at e;have K:=aU e;rw [K] at this;exact this rfl
 have o:=fun (hd:u.data.toList.all PhS.isDig=true)=>Vj b d (by
  rintro (h | h | h | h)
  · omega
  · omega
  · exact h48 h.1
  · rw [hd] at h;cases h)
 have t:=hZ9 NO;have g:=hZ9 o;have q:u.size=s.size - 1:=by rw [<-hu];simp
 have C:2<=s.size:=by omega
 clear NO o b z h48 d q;go_enter func135,ntmps135;go_wp2_with fail;clear m j hu;go_loop [6,7] (fun n i=>XY u n i) (fun _ i=>u.size - (intOf i).toNat)
 case atStart=>exact ⟨0,aR _,rfl,rfl,rfl⟩
 case round=>
  obtain ⟨k,hk,rfl,rfl,hd⟩:=hrel;have A:PhS.valFrom 0 (u.data.toList.take k)<1000000000000000000:=RuS.val18 hd (by simp;omega);by_cases l:k<u.size
  · have x:PhS.valFrom 0 (u.data.toList.take k)<100000000000000000:=by
     have h1:=PhS.valFrom_lt _ hd;have h2:(u.data.toList.take k).length<=17:=by simp;omega
     have h3:10 ^ (u.data.toList.take k).length<=10 ^ 17:=bg (by decide) h2;omega
    have y:=hZ9 (PhS.take_snoc u k l);have F:=hZ9 hd;clear hd;generalize p:PhS.valFrom 0 (u.data.toList.take k)=v at*;have H:=hZ9 p;clear p;by_cases a:48<=(u[k].toNat:Int)/\(u[k].toNat:Int)<=57
    · have B:=hZ9 (Jc a);have E:=hZ9 a;obtain ⟨d1,d2⟩:=a
      go_wp2
      go_round
      case rel=>
       refine ⟨k+1,by omega,by go_num,Ht ?_,?_⟩
       · rw [y.out,PhS.valFrom_snoc,H.out];have:=E.out;omega
       · rw [y.out,dL,F.out];simp [B.out]
      case measure=>simp [intOf];omega
    · have f:=all_not u k l (Kq a);have I:=hZ9 (t.out (.inr (.inr (.inr f))));clear f
      go_wp2
      all_goals go_ret2
      all_goals exact CJ.no I.out
  · have r:k=u.size:=by omega
    have c:u.data.toList.take k=u.data.toList:=ag (by simp;omega);rw [c] at hd A⊢;have G:=hZ9 (g.out hd);clear c hd;generalize PhS.valFrom 0 u.data.toList=v at*;subst r
    go_wp2
    go_ret2;exact CJ.yes (by rw [G.out];rfl)
theorem Ju (u:ByteArray) (h1:1<=u.size) (j:u.size<=1000000) (g:((u[0].toNat:Int)==45)=false) (c:18<u.size\/(u.size<=18/\2<=u.size/\((u[0].toNat:Int)==48)=true)) (w:World):
  Calls prog 135 #[.string u] w (CJ u.data.toList w):=by
 have b:¬(u[0].toNat:Int)=45:=aV.1 g;have a:(u.data.toList.head?==some 45)=false:=by rw [KT (by omega),bc];intro e;rw [e] at b;exact b rfl
 have h:=Lib.size_eq u;have i:=hZ9 (Jt a (d:=u.data.toList) rfl (by
  rcases c with c | ⟨_,c,f⟩
  · right;left;omega
  · right;right;left;refine ⟨?_,.inl (by omega)⟩;rw [GQ (by omega),FX (n:=48) (by decide) (af.1 f)];rfl))
 clear b a h;rcases c with c | ⟨h18,c,f⟩
 all_goals
  go_enter func135,ntmps135;go_wp2_with fail;go_ret2;exact CJ.no i.out
theorem Hf (s u:ByteArray) (h1:1<=s.size) (l:s.size<=1000000) (hu:s.extract 1 s.size=u) (e:(s[0].toNat:Int)=45) (a:u.size<1\/18<u.size\/(u.size<=18/\∃h:1<=u.size,((u[0].toNat:Int)==48)=true)) (w:World):
  Calls prog 135 #[.string s] w (CJ s.data.toList w):=by
 have b:(s.data.toList.head?==some 45)=true:=by rw [KT (by omega),az];exact FX (n:=45) (by decide) e
 have d:(if true=true then s.data.toList.tail else s.data.toList)=u.data.toList:=by rw [aP rfl,XZ,hu]
 have i:=Lib.size_eq u;have f:u.size=s.size - 1:=by rw [<-hu];simp
 have g:=hZ9 (Jt b d (by
  rcases a with a | a | ⟨_,a,c⟩
  · left;omega
  · right;left;omega
  · right;right;left;refine ⟨?_,.inr rfl⟩;rw [GQ (by omega),FX (n:=48) (by decide) (af.1 c)];rfl))
 have j:u.size<=1000000:=by omega
 clear b i d f;rcases a with a | a | ⟨h18,a,c⟩
 · go_enter func135,ntmps135;go_wp2_with fail;go_ret2;exact CJ.no g.out
 · go_enter func135,ntmps135;go_wp2_with fail;go_ret2;exact CJ.no g.out
 · have k:decide ((u.size:Int)<1)=false:=aC (by omega);have m:decide ((18:Int)<(u.size:Int))=false:=aC (by omega);go_enter func135,ntmps135;go_wp2_with fail
   all_goals go_ret2
   all_goals exact CJ.no g.out
theorem Adu (s:ByteArray) (d:s.size<=1000000) (w:World):Calls prog 135 #[.string s] w (CJ s.data.toList w):=by
 by_cases h0:s.size=0
 · exact TF s h0 w
 have h1:1<=s.size:=by omega
 by_cases b:(s[0].toNat:Int)=45
 · by_cases e:(s.extract 1 s.size).size<1
   · exact Hf s _ h1 d rfl b (.inl e) w
   · by_cases f:18<(s.extract 1 s.size).size
     · exact Hf s _ h1 d rfl b (.inr (.inl f)) w
     · have hp:1<=(s.extract 1 s.size).size:=by omega
       cases a:(((s.extract 1 s.size)[0].toNat:Int)==48) with
       | true=>exact Hf s _ h1 d rfl b (.inr (.inr ⟨by omega,hp,a⟩)) w
       | false=>exact WZ s _ h1 rfl hp (by omega) b a w
 · have c:((s[0].toNat:Int)==45)=false:=aV.2 b;by_cases e:18<s.size
   · exact Ju s h1 d c (.inl e) w
   · cases a:((s[0].toNat:Int)==48) with
     | false=>exact NU s h1 (by omega) c (.inl a) w
     | true=>
      by_cases h2:2<=s.size
      · exact Ju s h1 d c (.inr ⟨by omega,h2,a⟩) w
      · exact NU s h1 (by omega) c (.inr ⟨a,by omega⟩) w
end
section
open Go.RowKit
theorem Abn (l:List UInt8):RuS.normV 1 l=if (IL l).isEmpty=true then none else some (IL l):=by
 show (if (RuS.textS l).isEmpty||RuS.hasNul l then none else some (RuS.textS l))=_
 unfold IL;cases h:RuS.hasNul l with
 | true=>simp
 | false=>simp
theorem Xa (l:List UInt8):RuS.normV 3 l=if (RuS.intR l).isSome=true then some l else none:=by rw [RuS.intR_eq];rfl
theorem Zh (l:List UInt8):RuS.normV 4 l=if (PhS.parseP l).isSome=true then some l else none:=rfl
theorem NV (nm s:ByteArray) (E:nm.size<=9223372036854775807) (H:s.size<=9223372036854775807) (w:World) (hE:Env w):
  Calls prog 102 #[.string nm,.string s] w (Bl nm.data.toList s.data.toList w):=by
 have b:=fun w=>MX nm E w;unfold Ar at b;have j:=RuS.typeM_all (RuS.lower nm.data.toList);have o:Hid (RuS.normal nm.data.toList s.data.toList=RuS.normalR (RuS.typeOf nm.data.toList).2 s.data.toList):=hZ9 rfl;have c:RuS.typeOf nm.data.toList=([],0)\/(1<=(RuS.typeOf nm.data.toList).2/\(RuS.typeOf nm.data.toList).2<=5/\1<=(RuS.typeOf nm.data.toList).1.length/\(RuS.typeOf nm.data.toList).1.length<=17):=j;clear j;generalize RuS.typeOf nm.data.toList=r at*;obtain ⟨t,f⟩:=r;simp only at b o c;have m:=Lib.size_eq s;by_cases h0:f=0
 · subst h0;go_enter func102,ntmps102;go_wp2_with fail;refine (b _).mono ?_;rintro e w1 ⟨rfl,a⟩;go_wp2_with fail;go_ret2;exact Bl.mk' (r:=([],5)) (by rw [o.out];rfl) a
 by_cases h5:f=5
 · subst h5;go_enter func102,ntmps102;go_wp2_with fail;refine (b _).mono ?_;rintro e w1 ⟨rfl,a⟩;go_wp2_with fail;go_ret2;exact Bl.mk' (r:=([],1)) (by rw [o.out];rfl) a
 have k:f=1\/f=2\/f=3\/f=4:=by
  rcases c with h | h
  · injection h with _ h;exact absurd h h0
  · omega
 have g0:(f==0)=false:=by simpa using h0
 have g5:(f==5)=false:=by simpa using h5
 have H0:=hZ9 h0;have x:=hZ9 h5;have G:=hZ9 k;clear h0 h5 c k;by_cases l:s.data.toList.length<1\/200<s.data.toList.length
 · have y:=hZ9 l;rw [<-m] at l;clear m;rcases l with l | l
   all_goals
    go_enter func102,ntmps102;go_wp2_with fail;refine (b _).mono ?_;rintro e w1 ⟨rfl,a⟩;go_wp2_with fail;go_ret2;exact Bl.mk' (r:=([],2)) (by rw [o.out];unfold RuS.normalR;rw [aG H0.out,aG x.out,aP y.out]) a
 have z:=hZ9 l;have B:1<=s.size:=by omega
 have C:s.size<=200:=by omega
 clear l m;have A:decide ((200:Int)<(s.size:Int))=false:=aC (by omega);have v:decide ((s.size:Int)<1)=false:=aC (by omega);have g:∀r,(match RuS.normV f s.data.toList with | none=>([],2) | some s=>(s,0))=r->RuS.normal nm.data.toList s.data.toList=r:=by intro r F;rw [o.out];unfold RuS.normalR;rw [aG H0.out,aG x.out,aG z.out];exact F
 have g:=hZ9 g;rcases G.out with rfl | rfl | rfl | rfl
 · have u:=fun w=>Abm s (by omega) w;unfold XX at u;have i:=hZ9 (Abn s.data.toList);generalize IL s.data.toList=tx at*;cases hx:tx.isEmpty with
   | true=>have HX:=hZ9 hx;go_enter func102,ntmps102;go_wp2_with fail;refine (b _).mono ?_;rintro e w1 ⟨rfl,a⟩;go_wp2_with fail;refine (u _).mono ?_;rintro e w2 ⟨rfl,d⟩;go_wp2_with fail;go_ret2;exact Bl.mk' (r:=([],2)) (g.out _ (by rw [i.out,aP HX.out])) (Aa a d)
   | false=>have HX:Hid (¬tx.isEmpty=true):=hZ9 (by rw [hx];decide);go_enter func102,ntmps102;go_wp2_with fail;refine (b _).mono ?_;rintro e w1 ⟨rfl,a⟩;go_wp2_with fail;refine (u _).mono ?_;rintro e w2 ⟨rfl,d⟩;go_wp2_with fail;go_ret2;exact Bl.mk' (r:=(_,0)) (g.out _ (by rw [i.out,aG HX.out])) (Aa a d)
 · go_enter func102,ntmps102;go_wp2_with fail;refine (b _).mono ?_;rintro e w1 ⟨rfl,a⟩;go_wp2_with fail;go_ret2;have:=Bl.mk' (r:=(s.data.toList,0)) (g.out _ rfl) a;rw [VY] at this;exact this
 · have q:=fun w=>Adu s (by omega) w;unfold CJ at q;have i:=hZ9 (Xa s.data.toList);generalize RuS.intR s.data.toList=iv at*;cases iv with
   | none=>simp only [Option.isSome_none] at q;go_enter func102,ntmps102;go_wp2_with fail;refine (b _).mono ?_;rintro e w1 ⟨rfl,a⟩;go_wp2_with fail;refine (q _).mono ?_;rintro e w2 ⟨rfl,rfl⟩;go_wp2_with fail;go_ret2;exact Bl.mk' (r:=([],2)) (g.out _ (by rw [i.out];rfl)) a
   | some n=>simp only [Option.isSome_some,Option.getD_some] at q;go_enter func102,ntmps102;go_wp2_with fail;refine (b _).mono ?_;rintro e w1 ⟨rfl,a⟩;go_wp2_with fail;refine (q _).mono ?_;rintro e w2 ⟨rfl,rfl⟩;go_wp2_with fail;go_ret2;have:=Bl.mk' (r:=(s.data.toList,0)) (g.out _ (by rw [i.out];rfl)) a;rw [VY] at this;exact this
 · have hp:=fun w hE=>Za s (by omega) w hE;unfold CO at hp;have i:=hZ9 (Zh s.data.toList);generalize PhS.parseP s.data.toList=pv at*;cases pv with
   | none=>simp only at hp;go_enter func102,ntmps102;go_wp2_with fail;refine (b _).mono ?_;rintro e w1 ⟨rfl,a⟩;go_wp2_with fail;refine (hp _ (hE.below a)).mono ?_;rintro e w2 ⟨rfl,d⟩;go_wp2_with fail;go_ret2;exact Bl.mk' (r:=([],2)) (g.out _ (by rw [i.out];rfl)) (Ci (Aa a d) _)
   | some p=>obtain ⟨pa,pb⟩:=p;simp only at hp;go_enter func102,ntmps102;go_wp2_with fail;refine (b _).mono ?_;rintro e w1 ⟨rfl,a⟩;go_wp2_with fail;refine (hp _ (hE.below a)).mono ?_;rintro e w2 ⟨rfl,d⟩;go_wp2_with fail;go_ret2;have:=Bl.mk' (r:=(s.data.toList,0)) (g.out _ (by rw [i.out];rfl)) (Ci (Aa a d) (.cells #[.int .i64 pa,.int .i64 pb] 184));rw [VY] at this;exact this
end
section
open Go.RowKit
def DF (nm a b:List UInt8):Int:=if (RuS.normal nm a).2≠0 then (RuS.normal nm a).2 else (RuS.normal nm b).2
def Hu (nm a b:List UInt8) (w:World) (e:Ending) (w':World):Prop:=
 ∃x y:List UInt8,e=.returned (.tuple #[.string ⟨x.toArray⟩,.string ⟨y.toArray⟩,.int .i64 (DF nm a b)])/\(DF nm a b=0->x=(RuS.normal nm a).1/\y=(RuS.normal nm b).1)/\Below w.heap.size w w'
theorem Hu.mk' {nm a b x y:List UInt8} {w w':World} {n:Int} (h:DF nm a b=n) (c:n=0->x=(RuS.normal nm a).1/\y=(RuS.normal nm b).1) (hb:Below w.heap.size w w'):
  Hu nm a b w (.returned (.tuple #[.string ⟨x.toArray⟩,.string ⟨y.toArray⟩,.int .i64 n])) w':=⟨x,y,by rw [h],by rw [h];exact c,hb⟩
theorem Zi {nm a b:List UInt8} {n:Int} (h:(RuS.normal nm a).2=n) (c:n≠0):DF nm a b=n:=by unfold DF;rw [h,aP c]
theorem Xb {nm a b:List UInt8} {n:Int} (h:(RuS.normal nm a).2=0) (h2:(RuS.normal nm b).2=n):DF nm a b=n:=by unfold DF;rw [h,aG (by simp),h2]
theorem Abo (nm a b:ByteArray) (n:nm.size<=9223372036854775807) (o:a.size<=9223372036854775807) (hb:b.size<=9223372036854775807) (w:World) (hE:Env w):
  Calls prog 211 #[.string nm,.string a,.string b] w (Hu nm.data.toList a.data.toList b.data.toList w):=by
 have h1:=fun w hE=>FH nm a n o w hE;have h2:=fun w hE=>FH nm b n hb w hE;unfold Bl at h1 h2;have j:Hid ((RuS.normal nm.data.toList a.data.toList).1=(RuS.normal nm.data.toList a.data.toList).1):=hZ9 rfl;generalize g:RuS.normal nm.data.toList a.data.toList=r1 at*;generalize f:RuS.normal nm.data.toList b.data.toList=r2 at*;obtain ⟨x,l⟩:=r1;obtain ⟨y,q⟩:=r2;simp only at h1 h2;have d:=hZ9 g;have i:=hZ9 f;clear g f j;by_cases z1:l=0
 · subst z1;go_enter func211,ntmps211;go_wp2_with fail;refine (h1 _ hE).mono ?_;rintro e w1 ⟨rfl,c⟩;go_wp2_with fail;refine (h2 _ (hE.below c)).mono ?_;rintro e w2 ⟨rfl,k⟩;go_wp2_with fail
   go_ret3
   exact Hu.mk' (Xb (by rw [d.out]) (by rw [i.out])) (fun _=>⟨by rw [d.out],by rw [i.out]⟩) (Aa c k)
 · have p:(l==0)=false:=by simpa using z1
   have m:=hZ9 z1;clear z1;go_enter func211,ntmps211;go_wp2_with fail;refine (h1 _ hE).mono ?_;rintro e w1 ⟨rfl,c⟩;go_wp2_with fail
   go_ret3
   exact Hu.mk' (y:=[]) (Zi (by rw [d.out]) m.out) (fun h=>absurd h m.out) c
def Aeu (nm a b:List UInt8):Bool:=decide (DF nm a b=0)&&((RuS.normal nm a).1==(RuS.normal nm b).1)
def QS (nm a b:List UInt8) (w:World) (e:Ending) (w':World):Prop:=e=.returned (.tuple #[.bool (Aeu nm a b),.int .i64 (DF nm a b)])/\Below w.heap.size w w'
theorem QS.mk' {nm a b:List UInt8} {w w':World} {q:Bool} {n:Int} (h:DF nm a b=n) (c:Aeu nm a b=q) (hb:Below w.heap.size w w'):QS nm a b w (.returned (.tuple #[.bool q,.int .i64 n])) w':=by unfold QS;rw [h,c];exact ⟨rfl,hb⟩
end
section
open Go.RowKit
theorem Abp (nm a b:List UInt8):DF nm a b=0↔(RuS.normal nm a).2=0/\(RuS.normal nm b).2=0:=by
 unfold DF;by_cases h:(RuS.normal nm a).2=0
 · rw [aG (by simpa using h)];exact ⟨fun h2=>⟨h,h2⟩,fun h2=>h2.2⟩
 · rw [aP h];exact ⟨fun h2=>absurd h2 h,fun h2=>h2.1⟩
end
section
open Go.RowKit
theorem Ya {n:Int} (h:n.natAbs<2 ^ 53) (h1:1000000<n.natAbs):okB (Fl.D n)=false:=by unfold okB Fl.numOf;rw [Fl.toInt_val (Fl.read_D n h).val];simp only;rw [aG (by omega)];rfl
theorem QT {n m:Int} (a:n.natAbs<2 ^ 53) (b:m.natAbs<2 ^ 53):(okB (Fl.D n)&&okB (Fl.D m))=PhS.inR n m:=by
 by_cases h1:n.natAbs<=1000000
 · by_cases h2:m.natAbs<=1000000
   · rw [DZ h1,DZ h2];exact (aL (show n.natAbs<=1000000/\m.natAbs<=1000000 from ⟨h1,h2⟩)).symm
   · rw [Ya b (by omega),bX];exact (aC (show ¬(n.natAbs<=1000000/\m.natAbs<=1000000) from fun h=>h2 h.2)).symm
 · rw [Ya a (by omega),cG];exact (aC (show ¬(n.natAbs<=1000000/\m.natAbs<=1000000) from fun h=>h1 h.1)).symm
theorem Abq {a c:Int} (b:a.natAbs<=1000000) (hc:c.natAbs<=1000000):(a*c).natAbs<=1000000000000:=by rw [Int.natAbs_mul];exact fy b hc
theorem Qb (a b:Int) (h:PhS.inR a b=true) (w:World):
  Calls prog 213 #[.complex .f64 (Fl.D a) (Fl.D b)] w fun e w'=>e=.returned (.int .i64 (a*a+b*b))/\Below w.heap.size w w':=by
 have c:a.natAbs<=1000000/\b.natAbs<=1000000:=bB h;have f:=fun w=>DD (Fl.D a) (Fl.D b) (DJ (by omega)) (DJ (by omega)) w;rw [QT (by omega) (by omega),h] at f;have c1:=fun w=>run_convert_float_int (P:=prog) w 241 2 .f64 .i64 (Fl.D a) a (by kernel_rfl) underlying2 (QR c.1);have c2:=fun w=>run_convert_float_int (P:=prog) w 241 2 .f64 .i64 (Fl.D b) b (by kernel_rfl) underlying2 (QR c.2);have m1:=Abq c.1 c.1;have m2:=Abq c.2 c.2;have p1:IntKind.i64.wrap (a*a)=a*a:=Go.IntWalk.i64_in _ (by omega);have p2:IntKind.i64.wrap (b*b)=b*b:=Go.IntWalk.i64_in _ (by omega);have p3:IntKind.i64.wrap (a*a+b*b)=a*a+b*b:=Go.IntWalk.i64_in _ (by omega);clear h c;go_enter func213,ntmps213;go_wp2_with fail;refine (f _).mono ?_;rintro e w1 ⟨rfl,d⟩;go_wp2_with fail;go_ret;exact ⟨by go_num,d⟩
end
section
open Go.RowKit
def Fj (a b:Int):Int:=if a<b then -1 else if b<a then 1 else 0
theorem Vk (a:Int) (w:World):Calls prog 243 #[.int .i64 a] w fun e w'=>e=.returned (.bool false)/\w=w':=by go_enter func243,ntmps243;go_wp2_with fail;go_ret;exact ⟨rfl,rfl⟩
theorem Vl (a b:Int) (w:World):Calls prog 214 #[.int .i64 a,.int .i64 b] w fun e w'=>e=.returned (.int .i64 (Fj a b))/\w=w':=by
 have c:Hid (Fj a b=if a<b then -1 else if b<a then 1 else 0):=hZ9 rfl;rcases cn a b with h | h | h
 all_goals
  go_enter func214,ntmps214;go_wp2_with fail;refine (Vk _ _).mono ?_;rintro e w1 ⟨rfl,rfl⟩;go_wp2_with fail;refine (Vk _ _).mono ?_;rintro e w1 ⟨rfl,rfl⟩;go_wp2_with fail
 · go_ret;exact ⟨by rw [c.out,aP h];rfl,rfl⟩
 · go_ret;exact ⟨by rw [c.out,aG (by omega),aG (by omega)];rfl,rfl⟩
 · go_ret;exact ⟨by rw [c.out,aG (by omega),aP h];rfl,rfl⟩
theorem Yb (a:Int) (b:a.natAbs<=1000000) (w:World):Calls prog 268 #[.float .f64 (Fl.D a)] w fun e w'=>e=.returned (.bool false)/\w=w':=by
 have c:(FloatKind.f64.format.order (Fl.D a) (Fl.D a)==some .eq)=true:=by rw [PZ b b];simp
 have d:(FloatKind.f64.format.order (Fl.D a) (Fl.D a) !=some .eq)=false:=by rw [bne,c];rfl
 go_enter func268,ntmps268;go_wp2_with fail;go_ret;exact ⟨rfl,rfl⟩
theorem Agl {a c:Int} (b:a.natAbs<=1000000) (hc:c.natAbs<=1000000):(FloatKind.f64.format.order (Fl.D a) (Fl.D c)==some .lt)=decide (a<c):=by
 rw [Zd b hc];rcases cn a c with h | h | h
 · rw [Fl.cmp_lt h];simp;omega
 · subst h;rw [Fl.compare_self'];simp
 · rw [Fl.cmp_gt h];simp;omega
theorem Yc (a b:Int) (c:a.natAbs<=1000000) (hb:b.natAbs<=1000000) (w:World):Calls prog 245 #[.float .f64 (Fl.D a),.float .f64 (Fl.D b)] w fun e w'=>e=.returned (.int .i64 (Fj a b))/\w=w':=by
 have d:Hid (Fj a b=if a<b then -1 else if b<a then 1 else 0):=hZ9 rfl;have f:=Agl c hb;have g:=Aet c hb;rcases cn a b with h | h | h
 all_goals
  first | rw [aL h] at f | rw [aC (by omega)] at f
  first | rw [aL h] at g | rw [aC (by omega)] at g
  have H:=hZ9 h;clear h;go_enter func245,ntmps245;go_wp2_with fail;refine (Yb _ c _).mono ?_;rintro e w1 ⟨rfl,rfl⟩;go_wp2_with fail;refine (Yb _ hb _).mono ?_;rintro e w1 ⟨rfl,rfl⟩;go_wp2_with fail
 · go_ret;exact ⟨by rw [d.out,aP H.out];rfl,rfl⟩
 · go_ret;have h:=H.out;exact ⟨by rw [d.out,aG (by omega),aG (by omega)];rfl,rfl⟩
 · go_ret;have h:=H.out;exact ⟨by rw [d.out,aG (by omega),aP h];rfl,rfl⟩
def orI (x y z:Int):Int:=if x≠0 then x else if y≠0 then y else z
theorem Agw (x y z:Int) (b:Nat) (w:World) (h0:w.cell? ⟨b,0,none⟩=some (.int .i64 x)) (h1:w.cell? ⟨b,1,none⟩=some (.int .i64 y)) (h2:w.cell? ⟨b,2,none⟩=some (.int .i64 z)):
  Calls prog 244 #[.slice (some ⟨b,0,none⟩) 3 3] w fun e w'=>e=.returned (.int .i64 (orI x y z))/\w=w':=by
 have c:Hid (orI x y z=if x≠0 then x else if y≠0 then y else z):=hZ9 rfl;by_cases hx:x=0
 · subst hx;by_cases d:y=0
   · subst d;by_cases a:z=0
     · subst a;go_enter func244,ntmps244;go_wp2_with fail;refine wp_loop_rounds 4 ?_
       repeat any_goals (rw [rounds_succ];go_wp2_with fail)
       go_ret;exact ⟨by rw [c.out];rfl,rfl⟩
     · have h:(z !=0)=true:=by simpa using a
       have j:=hZ9 a;clear a;go_enter func244,ntmps244;go_wp2_with fail;refine wp_loop_rounds 4 ?_
       repeat any_goals (rw [rounds_succ];go_wp2_with fail)
       go_ret;exact ⟨by rw [c.out];rfl,rfl⟩
   · have g:(y !=0)=true:=by simpa using d
     have f:=hZ9 d;clear d;go_enter func244,ntmps244;go_wp2_with fail;refine wp_loop_rounds 4 ?_
     repeat any_goals (rw [rounds_succ];go_wp2_with fail)
     go_ret;exact ⟨by rw [c.out,aG (by simp),aP f.out];rfl,rfl⟩
 · have i:(x !=0)=true:=by simpa using hx
   have HX:=hZ9 hx;clear hx;go_enter func244,ntmps244;go_wp2_with fail;refine wp_loop_rounds 4 ?_
   repeat any_goals (rw [rounds_succ];go_wp2_with fail)
   go_ret;exact ⟨by rw [c.out,aP HX.out];rfl,rfl⟩
end
section
open Go.RowKit
def QU (a b c d:Int):Int:=orI (Fj (a*a+b*b) (c*c+d*d)) (Fj a c) (Fj b d)
theorem Abr (a b c d:Int) (h1:PhS.inR a b=true) (h2:PhS.inR c d=true) (w:World):
  Calls prog 215 #[.complex .f64 (Fl.D a) (Fl.D b),.complex .f64 (Fl.D c) (Fl.D d)] w fun e w'=>e=.returned (.int .i64 (QU a b c d))/\Below w.heap.size w w':=by
 have g:a.natAbs<=1000000/\b.natAbs<=1000000:=bB h1;have f:c.natAbs<=1000000/\d.natAbs<=1000000:=bB h2;have f1:=fun w=>DD (Fl.D a) (Fl.D b) (DJ (by omega)) (DJ (by omega)) w;have f2:=fun w=>DD (Fl.D c) (Fl.D d) (DJ (by omega)) (DJ (by omega)) w;rw [QT (by omega) (by omega),h1] at f1;rw [QT (by omega) (by omega),h2] at f2;have l:=Qb a b h1;have n:=Qb c d h2;have k1:=Yc a c g.1 f.1;have m:=Yc b d g.2 f.2;have o:=Vl (a*a+b*b) (c*c+d*d);have HP:Hid (QU a b c d=orI (Fj (a*a+b*b) (c*c+d*d)) (Fj a c) (Fj b d)):=hZ9 rfl;generalize Fj (a*a+b*b) (c*c+d*d)=q0 at*;generalize a*a+b*b=m1 at*;generalize c*c+d*d=m2 at*;generalize Fj a c=q1 at*;generalize Fj b d=q2 at*;clear h1 h2 g f;go_enter func215,ntmps215;go_wp2_with fail;refine (f1 _).mono ?_;rintro e w1 ⟨rfl,i⟩;go_wp2_with fail;refine (f2 _).mono ?_;rintro e w2 ⟨rfl,j⟩;go_wp2_with fail;refine (l _).mono ?_;rintro e w3 ⟨rfl,k⟩;go_wp2_with fail;refine (n _).mono ?_;rintro e w4 ⟨rfl,h⟩;go_wp2_with fail;refine (o _).mono ?_;rintro e w5 ⟨rfl,rfl⟩;go_wp2_with fail;refine (k1 _).mono ?_;rintro e w6 ⟨rfl,rfl⟩;go_wp2_with fail;refine (m _).mono ?_;rintro e w7 ⟨rfl,rfl⟩;go_wp2_with fail;refine (Agw q0 q1 q2 _ _ (by go_simp) (by go_simp) (by go_simp)).mono ?_;rintro e w8 ⟨rfl,rfl⟩;go_wp2_with fail;go_ret;exact ⟨by rw [HP.out];rfl,Ci (Aa i (Aa j (Aa k h))) _⟩
end
section
open Go.RowKit
attribute [local go_sem ↓] Go.wp_at_zero Go.wp_at_succ
def Zj (w:World) (g:Nat) (p q r t:Int) (w':World):Prop:=
 w'.cell? ⟨g,0,none⟩=some (.int .i64 p)/\w'.cell? ⟨g,1,none⟩=some (.int .i64 q)/\w'.cell? ⟨g+1,0,none⟩=some (.int .i64 r)/\w'.cell? ⟨g+1,1,none⟩=some (.int .i64 t)/\Below w.heap.size w w'
theorem Zj.drew {w w':World} {g:Nat} {p q r t:Int} (h:Zj w g p q r t w'):Zj w g p q r t w'.drew:=
 ⟨h.1,h.2.1,h.2.2.1,h.2.2.2.1,h.2.2.2.2.drew⟩
end
end Go.Proofs.YtgngjfjaelgaeaaGreatDoor
