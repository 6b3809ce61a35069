/- The walks of strings.Join at a comma, of the program's 'fit' and of the document's 'joined'. Conditions: as stated. -/
import Derived.Test.YtgngjfjaelgaeaaGreatDoorJRdu
set_option maxRecDepth 100000
set_option maxHeartbeats 4000000
namespace Go.Proofs.YtgngjfjaelgaeaaGreatDoor
open Go.Proofs.Tryz
section
open Go.RowKit
namespace DnS
open RdS
theorem join_snoc:∀(l:List (List UInt8)) (x:List UInt8),Aq (l++[x])=if l=[] then x else Aq l++[44]++x
 | [],x=>by rw [aP rfl];exact Lib.join_one x [44]
 | [a],x=>by
  rw [aG (by simp)];show Lib.join (a :: x :: []) [44]=Lib.join [a] [44]++[44]++x
  rw [RuS.join_cons_cons,Lib.join_one,Lib.join_one]
 | a :: b :: l,x=>by have c:=join_snoc (b :: l) x;rw [aG (by simp)] at c⊢;unfold Aq at c⊢;rw [List.cons_append,List.cons_append,RuS.join_cons_cons,RuS.join_cons_cons,<-List.cons_append,c];simp
theorem Aax {ts:List (List UInt8)} {k:Nat} (h:k<ts.length):Aq (ts.take (k+1))=if k=0 then ts[k] else Aq (ts.take k)++[44]++ts[k]:=by
 rw [aX h,join_snoc];by_cases hk:k=0
 · subst hk;simp
 · rw [aG hk,aG];intro h0;have:=congrArg List.length h0;rw [au,aS,cJ (by omega)] at this;exact hk this
theorem KF {M:Nat}:∀(ts:List (List UInt8)),(∀t ∈ ts,t.length<=M)->(Aq ts).length<=ts.length*(M+1)
 | [],_=>by simp [Aq,Lib.join,List.intercalate]
 | [a],h=>by unfold Aq;rw [Lib.join_one];have:=h a (ak.2 rfl);simp;omega
 | a :: b :: l,h=>by
  have c:=KF (b :: l) (fun t d=>h t (ar _ d));have:=h a (ai ..);unfold Aq at c⊢;rw [RuS.join_cons_cons,aT,aT,bG];have e:(a :: b :: l).length*(M+1)=(b :: l).length*(M+1)+(M+1):=by rw [aO (a:=a),fR]
  omega
theorem Ti {ts:List (List UInt8)} {M:Nat} (h:∀t ∈ ts,t.length<=M) {n:Nat} (b:ts.length<=n) (k:Nat):(Aq (ts.take k)).length<=n*(M+1):=by have h1:=KF (ts.take k) (fun t a=>h t (dN a));refine aY h1 (bp _ ?_);rw [au];omega
end DnS
theorem Jl {xs:List RdS.Pr} (h:RdS.formedS xs=true):EP xs:=fun p hp=>by have:=(RdS.EG h).2 p hp;omega
theorem Po (v:Value) (ts:List (List UInt8)) (w:World) (h:Ah w v ts) (m:ts.length<=1000000) (i:(DnS.Aq ts).length<=1000000000):Calls prog 71 #[v,.string ⟨#[44]⟩] w fun e w'=>e=.returned (.string ⟨(DnS.Aq ts).toArray⟩)/\Below w.heap.size w w':=by
 obtain ⟨a,c,rfl,hc,b⟩:=h;by_cases h0:ts=[]
 · subst h0;refine (strings_Join_none a c ⟨#[44]⟩ w).mono ?_;rintro e w' ⟨rfl,rfl⟩;exact ⟨by simp [DnS.Aq,Lib.join,List.intercalate],Below.refl _ _⟩
 · rcases b with b | ⟨g,o,rfl,l,hcell⟩
   · exact absurd b h0
   have d:(ts.map (fun t:List UInt8=>(⟨t.toArray⟩:ByteArray))).map (·.data.toList)=ts:=by
    rw [cd]
    conv=>rhs;rw [<-eJ ts]
    exact cQ fun t _=>rfl
   have f:=strings_Join g o c (ts.map (fun t:List UInt8=>(⟨t.toArray⟩:ByteArray))) ⟨#[44]⟩ w (fun j x hx=>by
    rw [bZ] at hx;obtain ⟨t,k,rfl⟩:=bH.1 hx;exact hcell j t k) l (by rw [b7];omega) (by rw [b7];exact hc) (by
    rw [d];exact aY i (by decide))
   rw [d,b7] at f;exact f
theorem Aeo (v:Value) (ts:List (List UInt8)) (w:World) (h:Ah w v ts) (k:ts.length<=1000000) (j:(DnS.Aq ts).length<=1000000000):Calls prog 109 #[v] w fun e w'=>e=.returned (.tuple #[.string ⟨(DnS.Hv ts).1.toArray⟩,.int .i64 (DnS.Hv ts).2])/\Below w.heap.size w w':=by
 have f:=Po v ts w h k j;obtain ⟨a,c,rfl,hc,b⟩:=h;clear b;have g:Hid (DnS.Hv ts=if 12<ts.length\/1000<(DnS.Aq ts).length then ([],4) else (DnS.Aq ts,0)):=hZ9 rfl;generalize DnS.Aq ts=J at*;generalize DnS.Hv ts=F at*;generalize ts.length=n at*;by_cases h12:12<n
 · have i:(12:Int)<(n:Int):=by omega
   go_enter func109,ntmps109;go_wp2_with fail;refine f.mono ?_;rintro e w1 ⟨rfl,hb⟩;go_wp2_with fail;go_ret2;exact ⟨by rw [g.out,aP (.inl h12)];rfl,hb⟩
 · have i:decide ((12:Int)<(n:Int))=false:=aC (by omega);by_cases h1000:1000<J.length
   · have d:(1000:Int)<(J.length:Int):=by omega
     go_enter func109,ntmps109;go_wp2_with fail;refine f.mono ?_;rintro e w1 ⟨rfl,hb⟩;go_wp2_with fail;go_ret2;exact ⟨by rw [g.out,aP (.inr h1000)];rfl,hb⟩
   · have d:decide ((1000:Int)<(J.length:Int))=false:=aC (by omega);go_enter func109,ntmps109;go_wp2_with fail;refine f.mono ?_;rintro e w1 ⟨rfl,hb⟩;go_wp2_with fail;go_ret2;exact ⟨by rw [g.out,aG (fun h=>h.elim h12 h1000)];rfl,hb⟩
theorem Ut (v:Value) (ts:List (List UInt8)) (w:World) (h:Ah w v ts) (N:ts.length<=100) (z:∀t ∈ ts,t.length<=3000):Calls prog 79 #[v] w fun e w'=>e=.returned (.string ⟨(DnS.Aq ts).toArray⟩)/\w=w':=by
 obtain ⟨a,c,rfl,hc,d⟩:=h;have E:=hZ9 (DnS.Ti z N);have M:=hZ9 z;clear z;generalize m:ts.length=n at*;have I:=hZ9 m;clear m;have O:Hid (∀k (h:k<ts.length),∃g o,a=some ⟨g,o,none⟩/\g<w.heap.size/\w.cell? ⟨g,o+k,none⟩=some (Ac ts[k])):=hZ9 (fun k hk=>by
  rcases d with rfl | ⟨g,o,rfl,J,hcell⟩
  · simp at hk
  · exact ⟨g,o,rfl,J,hcell k _ (aJ hk)⟩)
 clear d;go_enter func79,ntmps79;go_wp2_with fail;go_loop [3,7] (fun s i=>∃k:Nat,k<=n/\i=.int .i64 k/\s=.string ⟨(DnS.Aq (ts.take k)).toArray⟩) (fun _ i=>n - (intOf i).toNat)
 case atStart=>exact ⟨0,aR _,rfl,by simp [DnS.Aq,Lib.join,List.intercalate]⟩
 case round=>
  obtain ⟨k,hk,rfl,rfl⟩:=hrel;by_cases G:k<n
  · have b:k<ts.length:=by rw [I.out];exact G
    obtain ⟨g,o,rfl,J,C⟩:=O.out k b;have y:=hZ9 (DnS.Aax b);have x:Hid (k=0->DnS.Aq (ts.take k)=[]):=hZ9 (fun h=>by subst h;simp [DnS.Aq,Lib.join,List.intercalate]);have P:=E.out k;have K:=M.out ts[k] (aZ b);generalize ts[k]=p at*;unfold Ac at C;generalize DnS.Aq (ts.take k)=acc at*;clear b;by_cases f:k=0
    · have B:decide ((0:Int)<(k:Int))=false:=aC (by omega);have q:decide (0<k)=false:=aC (by omega);have j:Hid (DnS.Aq (ts.take (k+1))=acc++p):=hZ9 (by
       rw [y.out,aP f,x.out f];rfl)
      have H:=EE acc p (by omega) (by omega);clear f;go_wp2_with fail;go_round
      case rel=>exact ⟨k+1,by omega,by go_num,by rw [j.out]⟩
      case measure=>simp [intOf];omega
    · have B:(0:Int)<(k:Int):=by omega
      have q:0<k:=by omega
      have j:Hid (DnS.Aq (ts.take (k+1))=acc++[44]++p):=hZ9 (by
       rw [y.out,aG f])
      have H:=EE acc [44] (by omega) (by decide);have l:(acc++[44]).length<=2000000:=by rw [aT,bG];omega
      have A:=LS acc [44];obtain ⟨y1,r⟩:∃y1,y1=acc++[44]:=⟨_,rfl⟩
      rw [<-r] at H l j A;have L:=EE y1 p l (by omega);clear f r;go_wp2_with fail;go_round
      case rel=>exact ⟨k+1,by omega,by go_num,by rw [j.out]⟩
      case measure=>simp [intOf];omega
  · have F:k=n:=by omega
    subst F;have u:Hid (ts.take k=ts):=hZ9 (ag (by rw [I.out];omega));go_wp2_with fail;go_ret;exact ⟨by rw [u.out];rfl,rfl⟩
end
section
open Go.RowKit
def CN (l:List UInt8) (w:World) (e:Ending) (w':World):Prop:=∃v,e=.returned (.tuple #[v,.int .i64 (DnS.Ae l).2])/\Own w' w.heap.size v (DnS.Ae l).1/\Below w.heap.size w w'
theorem CN.none {l:List UInt8} {w w':World} {e:Int} (h:DnS.Ae l=([],e)) (hb:Below w.heap.size w w'):CN l w (.returned (.tuple #[.slice none 0 0,.int .i64 e])) w':=by
 refine ⟨.slice Option.none 0 0,?_,?_,hb⟩
 · rw [h]
 · rw [h];exact Own.empty w' _
def Rn (ls:List (List RdS.Pr)) (w0:World) (out i:Value) (wr:World):Prop:=
 ∃k:Nat,k<=ls.length/\i=.int .i64 k/\Own wr w0.heap.size out ((ls.take k).map DnS.AH)/\Below w0.heap.size w0 wr
namespace DnS
theorem Uu {s:List UInt8} (h:(BA s).2≠0):(BA s).1=[]:=by
 unfold BA at h⊢;split
 · rfl
 · rename_i h1;rw [aG h1] at h;split
   · rfl
   · rename_i h2;rw [aG h2] at h;split
     · rfl
     · rename_i h3;rw [aG h3] at h;cases hp:partsS (RdS.Ak 44 s) with
       | none=>rfl
       | some l=>rw [hp] at h;exact absurd rfl h
theorem Uw {s:List UInt8} {ls:List (List RdS.Pr)} {e:Int} (h:BA s=(ls,e)) (a:e≠0):Ae s=([],e):=by unfold Ae;rw [h,aG a]
theorem Pq {s:List UInt8} {ls:List (List RdS.Pr)} (h:BA s=(ls,0)) (a:1000<(Aq (ls.map AH)).length):Ae s=([],4):=by unfold Ae;rw [h,aP rfl,aP a]
theorem Ro {s:List UInt8} {ls:List (List RdS.Pr)} (h:BA s=(ls,0)) (a:¬1000<(Aq (ls.map AH)).length):Ae s=(ls.map AH,0):=by unfold Ae;rw [h,aP rfl,aG a]
theorem JP {ls:List (List RdS.Pr)} (c:∀q ∈ ls,RdS.formedS q=true):∀t ∈ ls.map AH,t.length<=3000:=fun t b=>by obtain ⟨q,a,rfl⟩:=bD.1 b;exact Ot (c q a)
theorem map_take {ls:List (List RdS.Pr)} {k:Nat} (h:k<ls.length):(ls.take (k+1)).map AH=(ls.take k).map AH++[AH ls[k]]:=by rw [aX h,bP];rfl
theorem join_small {ls:List (List RdS.Pr)} (b:ls.length<=12) (a:∀q ∈ ls,RdS.formedS q=true):(Aq (ls.map AH)).length<=100000:=by have h:=KF (ls.map AH) (JP a);rw [b7] at h;have:ls.length*(3000+1)<=12*3001:=bp _ b;omega
end DnS
theorem Pv (l:List UInt8) (hl:l.length<=1000000) (w:World) (hE:Env w):Calls prog 44 #[.string ⟨l.toArray⟩] w (CN l w):=by
 have m:=AbD l hl w hE;unfold GR at m;obtain ⟨P,C⟩:∃P,DnS.BA l=P:=⟨_,rfl⟩
 obtain ⟨ls,e0⟩:=P;rw [C] at m;simp only at m;by_cases W:e0=0
 · subst W;have j:=DnS.FI C;have Z:=hZ9 j.2.1;have S:ls.length<=12:=j.1;have A6:=hZ9 (DnS.join_small j.1 j.2.1);have A2:=hZ9 (DnS.JP j.2.1);have d:=hZ9 (DnS.Pq C);have y:=hZ9 (DnS.Ro C);clear j C;go_enter func44,ntmps44;go_wp2_with fail;refine m.mono ?_;rintro e w0 ⟨v,rfl,Y,hb0⟩;obtain ⟨a,c,rfl,hc,x⟩:=Y.at;have HC:Hid (∀k (h:k<ls.length),∃g o,a=some ⟨g,o,none⟩/\g<w0.heap.size/\∃u,w0.cell? ⟨g,o+k,none⟩=some u/\AX w0 u ls[k]):=hZ9 (fun k hk=>by
    rcases x with rfl | ⟨g,o,rfl,hg,hcell⟩
    · simp at hk
    · exact ⟨g,o,rfl,hg,hcell k _ (aJ hk)⟩)
   have U:=hZ9 (fun k (h:k<ls.length)=>Z.out ls[k] (aZ h));clear x Y m;generalize R:ls.length=n at S hc⊢;have V:=hZ9 R;clear R;go_wp2_with fail;go_loopw [6,22] (fun out i wr=>Rn ls w0 out i wr) (fun _ i _=>n - (intOf i).toNat)
   case atStart=>exact ⟨0,aR _,rfl,Own.empty _ _,Below.refl _ _⟩
   case round=>
    obtain ⟨k,hk,rfl,b,hb⟩:=hrel;rw [V.out] at hk;have hsz:=hb.size;have r:Below w.heap.size w wr:=hb0.trans (hb.mono hb0.size);have N:=hE.below r;have F:=hZ9 b;clear b;by_cases A4:k<n
    · have f:k<ls.length:=by rw [V.out];exact A4
      obtain ⟨g,o,rfl,hg,u,O,z⟩:=HC.out k f;replace O:wr.cell? ⟨g,o+k,none⟩=some u:=(hb.cell (p:=⟨g,o+k,none⟩) hg).trans O;replace z:AX wr u ls[k]:=z.call hb (aA _);have A3:=hZ9 (DnS.map_take f);have M:=U.out k f;generalize ls[k]=q at*;obtain ⟨a1,n1,c1,rfl⟩:∃a1 n1 c1,u=.slice a1 n1 c1:=by obtain ⟨a1,c1,e,_⟩:=z;exact ⟨a1,_,c1,e⟩
      have E:=TG _ q wr z (Jl M) N;unfold EQ at E;rw [DnS.Nc M] at E;have B:=fun v w h hE=>Zt v (RdS.AU q) w h (Jl (RdS.DN M).1) hE;unfold EK at B;rw [DnS.Ou M] at B;simp only at E B;generalize RdS.AU q=qn at*;generalize DnS.AH q=t at*;clear f z M;go_wp2_with fail;refine E.mono ?_;rintro e w1 ⟨v1,rfl,H,Q⟩;obtain ⟨a2,n2,c2,rfl⟩:∃a2 n2 c2,v1=.slice a2 n2 c2:=by obtain ⟨a1,c1,e,_⟩:=H;exact ⟨a1,_,c1,e⟩
      go_wp2_with fail;refine (B _ _ H (N.below Q)).mono ?_;rintro e w2 ⟨rfl,A0⟩;have K:=Aa Q A0;have A7:=K.size;go_wp2_with (at_builtin;refine Hr (by rfl) _ _ (by rfl) w0.heap.size _ ((ls.take k).map DnS.AH) (by rfl) ((F.out.call K).alloc _) w2.heap.size (by rfl) t ?e1 ?e3 ?e4 ?_)
      case e1=>simp [go_sem,Ac]
      case e3=>rw [b7,au];omega
      case e4=>simp;omega
      intro v' w4 A X;have L:=hZ9 A;clear A;go_wp2_with fail;go_roundw
      case rel=>exact ⟨k+1,by rw [V.out];omega,by go_num,by rw [A3.out,gP];exact L.out,((hb.trans (K.mono hsz)).alloc (by omega) _).trans X⟩
      case measure=>simp [intOf];omega
    · have A1:k=n:=by omega
      subst A1;have G:ls.take k=ls:=ag (by rw [V.out];omega);have b:=F.out;rw [G] at b;have T:=Ut _ _ wr b.strs (by rw [b7,V.out];omega) A2.out;have A8:=A6.out;have I:=hZ9 b;generalize DnS.Aq (ls.map DnS.AH)=J at*;clear G b;by_cases h1000:1000<J.length
      · have hz:(1000:Int)<(J.length:Int):=by omega
        have HR:=hZ9 (d.out h1000);clear d y;go_wp2_with fail;refine T.mono ?_;rintro e w1 ⟨rfl,rfl⟩;go_wp2_with fail;go_ret2;exact CN.none HR.out r
      · have hz:decide ((1000:Int)<(J.length:Int))=false:=aC (by omega);have HR:=hZ9 (y.out h1000);clear d y;go_wp2_with fail;refine T.mono ?_;rintro e w1 ⟨rfl,rfl⟩;go_wp2_with fail;go_ret2;exact ⟨_,by rw [HR.out];rfl,by rw [HR.out];exact I.out.mono hb0.size,r⟩
 · have HR:=hZ9 (DnS.Uw C W);have A5:ls=[]:=by
    have:=DnS.Uu (s:=l) (by rw [C];exact W);rw [C] at this;exact this
   subst A5;clear C;have A9:(e0 !=0)=true:=by simpa using W
   go_enter func44,ntmps44;go_wp2_with fail;refine m.mono ?_;rintro e w0 ⟨v,rfl,Y,hb0⟩;go_wp2_with fail;go_ret2;exact CN.none HR.out hb0
end
section
open Go.RowKit
theorem DK (l:List UInt8) (hl:l.length<=1000000) (w:World) (hE:Env w):Calls prog 70 #[.string ⟨l.toArray⟩] w (CN l w):=by
 have y:=AbG l hl w hE;unfold Fz at y;obtain ⟨P,F⟩:∃P,DnS.BA l=P:=⟨_,rfl⟩
 obtain ⟨ls,e0⟩:=P;rw [F] at y;simp only at y;by_cases he:e0=0
 · subst he;have r:=DnS.FI F;have A2:=hZ9 r.2.1;have W:ls.length<=12:=r.1;have Y:=hZ9 (DnS.join_small r.1 r.2.1);have B1:=hZ9 (DnS.JP r.2.1);have f:=hZ9 (DnS.Pq F);have A:=hZ9 (DnS.Ro F);clear r F;go_enter func70,ntmps70;go_wp2_with fail;refine y.mono ?_;rintro e w0 ⟨v,rfl,Z,hb0⟩;obtain ⟨a,c,rfl,hc,z⟩:=Z.at;have HC:Hid (∀k (h:k<ls.length),∃g o,a=some ⟨g,o,none⟩/\g<w0.heap.size/\∃u,w0.cell? ⟨g,o+k,none⟩=some u/\AX w0 u ls[k]):=hZ9 (fun k hk=>by
    rcases z with rfl | ⟨g,o,rfl,hg,hcell⟩
    · simp at hk
    · exact ⟨g,o,rfl,hg,hcell k _ (aJ hk)⟩)
   have X:=hZ9 (fun k (h:k<ls.length)=>A2.out ls[k] (aZ h));clear z Z y;generalize V:ls.length=n at W hc⊢;have R:=hZ9 V;clear V;go_wp2_with fail;go_loopw [6,26] (fun out i wr=>Rn ls w0 out i wr) (fun _ i _=>n - (intOf i).toNat)
   case atStart=>exact ⟨0,aR _,rfl,Own.empty _ _,Af w0 _⟩
   case round=>
    obtain ⟨k,hk,rfl,b,hb⟩:=hrel;rw [R.out] at hk;have hsz:=hb.size;have d:Below w.heap.size w wr:=hb0.trans (hb.mono hb0.size);have T:=hE.below d;have H:=hZ9 b;clear b;by_cases A6:k<n
    · have m:k<ls.length:=by rw [R.out];exact A6
      obtain ⟨g,o,rfl,hg,u,U,B⟩:=HC.out k m;replace U:wr.cell? ⟨g,o+k,none⟩=some u:=(hb.cell (p:=⟨g,o+k,none⟩) hg).trans U;replace B:AX wr u ls[k]:=B.call hb (aA _);have A5:=hZ9 (DnS.map_take m);have S:=X.out k m;generalize ls[k]=q at*;obtain ⟨a1,n1,c1,rfl⟩:∃a1 n1 c1,u=.slice a1 n1 c1:=by obtain ⟨a1,c1,e,_⟩:=B;exact ⟨a1,_,c1,e⟩
      have G:=Zv _ q wr B (Jl S) T;unfold EQ at G;rw [DnS.Nc S] at G;have E:=fun v w h hE=>AaG v (RdS.AU q) w h (Jl (RdS.DN S).1) hE;unfold EK at E;rw [DnS.Ou S] at E;simp only at G E;generalize RdS.AU q=qn at*;generalize DnS.AH q=t at*;clear m B S;go_wp2_with fail;refine G.mono ?_;rintro e w1 ⟨v1,rfl,K,j⟩;obtain ⟨a2,n2,c2,rfl⟩:∃a2 n2 c2,v1=.slice a2 n2 c2:=by obtain ⟨a1,c1,e,_⟩:=K;exact ⟨a1,_,c1,e⟩
      go_wp2_with fail;refine (E _ _ K (T.below j)).mono ?_;rintro e w2 ⟨rfl,A3⟩;have N:=Aa j A3;have A8:=N.size;go_wp2_with (at_builtin;refine Hr (by rfl) _ _ (by rfl) w0.heap.size _ ((ls.take k).map DnS.AH) (by rfl) ((H.out.call N).alloc _) w2.heap.size (by rfl) t ?e1 ?e3 ?e4 ?_)
      case e1=>simp [go_sem,Ac]
      case e3=>rw [b7,au];omega
      case e4=>simp;omega
      intro v' w4 C A1;have O:=hZ9 C;clear C;go_wp2_with fail;go_roundw
      case rel=>exact ⟨k+1,by rw [R.out];omega,by go_num,by rw [A5.out,gP];exact O.out,((hb.trans (N.mono hsz)).alloc (by omega) _).trans A1⟩
      case measure=>simp [intOf];omega
    · have A4:k=n:=by omega
      subst A4;have I:ls.take k=ls:=ag (by rw [R.out];omega);have b:=H.out;rw [I] at b;have x:=Aeo _ _ wr b.strs (by rw [b7,R.out];omega) (by have:=Y.out;omega);have A9:=Y.out;have M:=hZ9 b;have Q:Hid (1000<(DnS.Aq (ls.map DnS.AH)).length->DnS.Hv (ls.map DnS.AH)=([],4)):=hZ9 (fun h=>by unfold DnS.Hv;rw [aP (.inr h)]);have L:Hid (¬1000<(DnS.Aq (ls.map DnS.AH)).length->DnS.Hv (ls.map DnS.AH)=(DnS.Aq (ls.map DnS.AH),0)):=hZ9 (fun h=>DnS.AfZ (by rw [b7,R.out];omega) (by omega));generalize DnS.Aq (ls.map DnS.AH)=J at*;clear I b;by_cases h1000:1000<J.length
      · have hz:(1000:Int)<(J.length:Int):=by omega
        have HR:=hZ9 (f.out h1000);rw [Q.out h1000] at x;simp only at x;have A0:=d;clear Q L;clear f A;go_wp2_with fail;refine x.mono ?_;rintro e w1 ⟨rfl,j⟩;go_wp2_with fail;go_ret2;exact CN.none HR.out (d.trans (j.mono d.size))
      · have hz:decide ((1000:Int)<(J.length:Int))=false:=aC (by omega);have HR:=hZ9 (A.out h1000);rw [L.out h1000] at x;simp only at x;clear Q L;clear f A;go_wp2_with fail;refine x.mono ?_;rintro e w1 ⟨rfl,j⟩;go_wp2_with fail;go_ret2;exact ⟨_,by rw [HR.out];rfl,by rw [HR.out];exact (M.out.call j).mono hb0.size,d.trans (j.mono d.size)⟩
 · have HR:=hZ9 (DnS.Uw F he);have A7:ls=[]:=by
    have:=DnS.Uu (s:=l) (by rw [F];exact he);rw [F] at this;exact this
   subst A7;clear F;have B0:(e0 !=0)=true:=by simpa using he
   go_enter func70,ntmps70;go_wp2_with fail;refine y.mono ?_;rintro e w0 ⟨v,rfl,Z,hb0⟩;obtain ⟨a,c,rfl,hc,-⟩:=Z.at;go_wp2_with fail;go_ret2;exact CN.none HR.out (Ci hb0 _)
end
section
open Go.RowKit
def Cb (r:List UInt8 × Int) (w:World) (e:Ending) (w':World):Prop:=e=.returned (.tuple #[.string ⟨r.1.toArray⟩,.int .i64 r.2])/\Below w.heap.size w w'
def Px (r:List UInt8 × Bool) (w:World) (e:Ending) (w':World):Prop:=e=.returned (.tuple #[.string ⟨r.1.toArray⟩,.bool r.2])/\Below w.heap.size w w'
def TW (n:Int) (w:World) (e:Ending) (w':World):Prop:=e=.returned (.int .i64 n)/\Below w.heap.size w w'
def Ef (b:Bool) (w:World) (e:Ending) (w':World):Prop:=e=.returned (.bool b)/\Below w.heap.size w w'
theorem WJ {l:List UInt8} {ts:List (List UInt8)} {e:Int} (h:DnS.Ae l=(ts,e)) (h0:ts=[]):DnS.EY l=([],false):=by unfold DnS.EY;rw [h,aP h0]
theorem WL {l:List UInt8} {ts:List (List UInt8)} {e:Int} (h:DnS.Ae l=(ts,e)) (h0:ts≠[]):DnS.EY l=(DnS.Aq (ts.drop 1),true):=by unfold DnS.EY;rw [h,aG h0]
theorem YJ {s:List UInt8} {ts:List (List UInt8)} {e:Int} (h:DnS.Ae s=(ts,e)):(DnS.Aq (ts.drop 1)).length<=1000:=by
 have a:=(DnS.Da s).2;rw [h] at a;cases ts with
 | nil=>exact a
 | cons t ts=>exact aY (DnS.Acr t ts) a
theorem IJ (l:List UInt8) (h:l.length<=1000000) (w:World) (hE:Env w):Calls prog 37 #[.string ⟨l.toArray⟩] w (Cb (DnS.Aw l) w):=by have hp:=DK l h w hE;unfold CN at hp;have g:Hid (DnS.Aw l=(DnS.Aq (DnS.Ae l).1,(DnS.Ae l).2)):=hZ9 rfl;have d:=DnS.Da l;have i:=hZ9 (DnS.Hl (s:=l));generalize DnS.Ae l=T at*;obtain ⟨ts,j⟩:=T;simp only at hp d i g;go_enter func37,ntmps37;go_wp2_with fail;refine hp.mono ?_;rintro e w1 ⟨v,rfl,b,hb⟩;obtain ⟨a,c,rfl⟩:=b.form;go_wp2_with fail;refine (Po _ ts _ b.strs (by omega) (by omega)).mono ?_;rintro e w2 ⟨rfl,f⟩;go_wp2_with fail;go_ret2;exact ⟨by rw [g.out];rfl,Aa hb f⟩
theorem Aay (l:List UInt8) (d:l.length<=1000000) (w:World) (hE:Env w):Calls prog 72 #[.string ⟨l.toArray⟩] w (TW (DnS.Ae l).1.length w):=by have hp:=DK l d w hE;unfold CN at hp;generalize DnS.Ae l=T at*;obtain ⟨ts,f⟩:=T;simp only at hp;go_enter func72,ntmps72;go_wp2_with fail;refine hp.mono ?_;rintro e w1 ⟨v,rfl,b,hb⟩;obtain ⟨a,c,rfl⟩:=b.form;go_wp2_with fail;go_ret;exact ⟨rfl,hb⟩
theorem YK (l:List UInt8) (G:l.length<=1000000) (w:World) (hE:Env w):Calls prog 46 #[.string ⟨l.toArray⟩] w (Px (DnS.EY l) w):=by
 have hp:=DK l G w hE;unfold CN at hp;have u:=DnS.Da l;have i:=hZ9 (DnS.Hl (s:=l));obtain ⟨T,j⟩:∃T,DnS.Ae l=T:=⟨_,rfl⟩
 rw [j] at hp u i;obtain ⟨ts,z⟩:=T;simp only at hp u i;have hd:=YJ j;have p:=hZ9 (WJ j);have d:=hZ9 (WL j);have b:Hid (z≠0->ts=[]):=hZ9 (fun h=>by
  have:=DnS.Nh (s:=l) (by rw [j];exact h);rw [j] at this;exact this)
 clear j;go_enter func46,ntmps46;go_wp2_with fail;refine hp.mono ?_;rintro e w1 ⟨v,rfl,f,hb⟩;obtain ⟨a,c,rfl⟩:=f.form;by_cases h0:ts=[]
 · have HR:=hZ9 (p.out h0);clear p d b;subst h0;go_wp2_with fail;go_ret2;exact ⟨by rw [HR.out];rfl,hb⟩
 · have HR:=hZ9 (d.out h0);have y:z=0:=by
    by_cases A:z=0
    · exact A
    · exact absurd (b.out A) h0
   subst y;have C:0<ts.length:=by
    rcases bT ts.length with h | h
    · exact absurd (aW h) h0
    · exact h
   have F:=f.strs;have H:Hid (∀t ∈ ts.drop 1,t.length<=3000):=hZ9 (fun t I=>i.out t (gI I));clear p d b;have E:ts.length<=c:=by obtain ⟨_,_,e,hc,_⟩:=F;cases e;exact hc
   obtain ⟨g,o,rfl,hdr⟩:=F.drop (k:=1) (by omega) (by omega);have K:(ts.drop 1).length<=100:=by rw [bI];omega
   generalize B:ts.length=n at*;have J:=hZ9 B;have P:((n:Int)==0)=false:=by simp;omega
   have O:(1:Int)<=(n:Int):=by omega
   have M:(n:Int)<=(c:Int):=by omega
   clear B h0;by_cases r:1=c
   · subst r;have x:n=1:=by omega
     subst x;have q:ts.drop 1=[]:=bM (by rw [J.out];exact aA _);rw [q] at HR H hd;clear hdr q;go_wp2_with fail;refine (Po _ [] _ (Ah.nil _ _ _) (by simp) (by omega)).mono ?_;rintro e w2 ⟨rfl,m⟩;go_wp2_with fail;go_ret2;exact ⟨by rw [HR.out];rfl,Aa hb m⟩
   · have L:(1:Int)<(c:Int):=by omega
     have N:¬c=1:=fun h=>r h.symm;generalize ts.drop 1=ds at*;go_wp2_with fail;refine (Po _ ds _ hdr (by omega) (by omega)).mono ?_;rintro e w2 ⟨rfl,m⟩;go_wp2_with fail;go_ret2;exact ⟨by rw [HR.out];rfl,Aa hb m⟩
theorem Py (l:List UInt8) (h:l.length<=1000000) (w:World) (hE:Env w):Calls prog 53 #[.string ⟨l.toArray⟩] w (Cb (DnS.Aw l) w):=by have hp:=Pv l h w hE;unfold CN at hp;have g:Hid (DnS.Aw l=(DnS.Aq (DnS.Ae l).1,(DnS.Ae l).2)):=hZ9 rfl;have d:=DnS.Da l;have f:=hZ9 (DnS.Hl (s:=l));generalize DnS.Ae l=T at*;obtain ⟨ts,i⟩:=T;simp only at hp d f g;go_enter func53,ntmps53;go_wp2_with fail;refine hp.mono ?_;rintro e w1 ⟨v,rfl,b,hb⟩;obtain ⟨a,c,rfl⟩:=b.form;go_wp2_with fail;refine (Ut _ ts _ b.strs (by omega) f.out).mono ?_;rintro e w2 ⟨rfl,rfl⟩;go_wp2_with fail;go_ret2;exact ⟨by rw [g.out];rfl,hb⟩
end
section
open Go.RowKit
theorem QC (n v2:Value) (xs ys:List (List UInt8)) (w:World) (h1:Ah w n xs) (h2:Ah w v2 ys) (C:xs.length<=1000000) (B:ys.length<=1000000):Calls prog 119 #[n,v2] w (Ef (decide (xs=ys)) w):=by
 obtain ⟨a1,c1,rfl,A,c⟩:=h1;obtain ⟨a2,c2,rfl,s,a⟩:=h2;by_cases hlen:xs.length=ys.length
 · by_cases h0:xs=[]
   · subst h0;have z:ys=[]:=aW hlen.symm;subst z;refine (slices_Equal_string_empty a1 a2 c1 0 c2 w (by omega)).mono ?_;rintro e w' ⟨rfl,rfl⟩;exact ⟨rfl,Below.refl _ _⟩
   · have l:ys≠[]:=fun h=>h0 (aW (by rw [hlen,h];rfl));rcases c with c | ⟨g1,m,rfl,u,f⟩
     · exact absurd c h0
     rcases a with a | ⟨g2,o2,rfl,x,d⟩
     · exact absurd a l
     have p:∀(zs:List (List UInt8)) (g o:Nat),(∀(j:Nat) (y:List UInt8),zs[j]?=some y->w.cell? ⟨g,o+j,none⟩=some (Ac y))->∀j,j<(zs.map (fun t:List UInt8=>(⟨t.toArray⟩:ByteArray))).length->w.cell? ⟨g,o+j,none⟩=some (.string ((zs.map (fun t:List UInt8=>(⟨t.toArray⟩:ByteArray))).getD j ByteArray.empty)):=fun zs g o r j v=>by
      have i:j<zs.length:=by simpa using v
      rw [r j zs[j] (aJ i),cy,bZ,aJ i];rfl
     refine (slices_Equal_string g1 m xs.length c1 g2 o2 ys.length c2 _ _ w (by rw [b7];omega) (by rw [b7];omega) (by omega) (by omega) (p xs g1 m f) (p ys g2 o2 d)).mono ?_;rintro e w' ⟨rfl,q,rfl⟩;refine ⟨?_,below_drewN w q⟩;have k:((xs.map (fun t:List UInt8=>(⟨t.toArray⟩:ByteArray))).take xs.length=(ys.map (fun t:List UInt8=>(⟨t.toArray⟩:ByteArray))).take ys.length)↔xs=ys:=by
      rw [ag (by rw [b7];exact aA _),ag (by rw [b7];exact aA _)];constructor
      · intro h;have h2:=congrArg (List.map (fun b:ByteArray=>b.data.toList)) h;rw [cd,cd] at h2;have e:((fun b:ByteArray=>b.data.toList) ∘ fun t:List UInt8=>(⟨t.toArray⟩:ByteArray))=id:=by funext t;simp
        rw [e,eJ,eJ] at h2;exact h2
      · intro h;rw [h]
     simp only [k]
 · refine (slices_Equal_string_lens a1 a2 xs.length c1 ys.length c2 w hlen).mono ?_;rintro e w' ⟨rfl,rfl⟩;exact ⟨by rw [aC (fun h=>hlen (by rw [h]))],Below.refl _ _⟩
def PartOf (r:Option (List (List UInt8))) (w:World) (e:Ending) (w':World):Prop:=∃v,e=.returned (.tuple #[v,.bool r.isSome])/\Ah w' v (r.getD [])/\Below w.heap.size w w'
theorem PartOf.no {r:Option (List (List UInt8))} {w w':World} (h:r=none) (hb:Below w.heap.size w w'):PartOf r w (.returned (.tuple #[.slice none 0 0,.bool false])) w':=by subst h;exact ⟨_,rfl,Ah.empty w',hb⟩
theorem PartOf.yes {r:Option (List (List UInt8))} {q:List (List UInt8)} {v:Value} {w w':World} (h:r=some q) (a:Ah w' v q) (hb:Below w.heap.size w w'):PartOf r w (.returned (.tuple #[v,.bool true])) w':=by subst h;exact ⟨_,rfl,a,hb⟩
theorem Aaz {a b:List (List UInt8)} (h:a.length<b.length):DnS.Db a b=none:=by unfold DnS.Db;rw [aP h]
theorem Aa0 {a b:List (List UInt8)} (h:¬a.length<b.length) (h2:a.drop (a.length - b.length)=b):DnS.Db a b=some (a.take (a.length - b.length)):=by unfold DnS.Db;rw [aG h,aP h2]
theorem AcL {a b:List (List UInt8)} (h:¬a.length<b.length) (h2:¬a.drop (a.length - b.length)=b):DnS.Db a b=none:=by unfold DnS.Db;rw [aG h,aG h2]
theorem Own.plain {w:World} {B:Nat} {v:Value} {xs:List (List UInt8)} (h:Own w B v xs):(v=.slice none 0 0/\xs=[])\/∃g c,v=.slice (some ⟨g,0,none⟩) xs.length c/\xs.length<=c:=by
 rcases h.2 with ⟨rfl,a⟩ | ⟨g,cap,cur,rfl,_,_,a,_⟩
 · exact .inl ⟨rfl,aW a⟩
 · exact .inr ⟨g,cap,rfl,a⟩
theorem Ux (x v2:Value) (xs ys:List (List UInt8)) (w:World) (z:Nat) (h1:Own w z x xs) (h2:Ah w v2 ys) (v:xs.length<=1000) (A:ys.length<=1000):Calls prog 81 #[x,v2] w (PartOf (DnS.Db xs ys) w):=by
 have b:=h1.strs;obtain ⟨a2,c2,rfl⟩:=h2.form;by_cases a:xs.length<ys.length
 · have HR:=hZ9 (Aaz a);obtain ⟨a1,c1,rfl⟩:=h1.form;clear h1 h2 b;generalize xs.length=n at*;generalize ys.length=m at*;have E:(n:Int) - (m:Int)<0:=by omega
   go_enter func81,ntmps81;go_wp2_with fail;go_ret2;exact PartOf.no HR.out (Below.refl _ _)
 · obtain ⟨k,hk⟩:∃k,xs.length=k+ys.length:=⟨xs.length - ys.length,by omega⟩
   have d:xs.length - ys.length=k:=by omega
   have f:=hZ9 (Aa0 a);have c:=hZ9 (AcL a);rw [d] at f c;rcases h1.plain with ⟨rfl,rfl⟩ | ⟨g,c1,rfl,p⟩
   · have u:k=0:=by simp at hk;omega
     have t:ys=[]:=aW (by simp at hk;omega);subst u;subst t;have HR:=hZ9 (f.out rfl);clear f c d hk b h1 a;go_enter func81,ntmps81;go_wp2_with fail;refine (QC _ _ [] [] _ (Ah.nil _ _ _) h2 (by simp) (by simp)).mono ?_;rintro e w1 ⟨rfl,hb⟩;rw [aL rfl];go_wp2_with fail;go_ret2;exact PartOf.yes HR.out (Ah.nil _ _ _) hb
   · have j:Ah w (.slice (some ⟨g,0,none⟩) k c1) (xs.take k):=b.take (k:=k) (by omega);have o:=hZ9 j;have i:(xs.drop k).length=ys.length:=by rw [bI];omega
     by_cases q:k=c1
     · have C:ys=[]:=aW (by omega);subst C;have hd:xs.drop k=[]:=aW (by rw [i];rfl);have HR:=hZ9 (f.out hd);subst q;have l:xs.length=k:=by simpa using hk
       rw [l] at v⊢;have r:=hZ9 h2;clear h1 h2 hk d f c j i hd a p l b;go_enter func81,ntmps81;go_wp2_with fail;refine (QC _ _ [] [] _ (Ah.nil _ _ _) r.out (by simp) (by simp)).mono ?_;rintro e w1 ⟨rfl,hb⟩;rw [aL rfl];go_wp2_with fail;go_ret2;exact PartOf.yes HR.out (o.out.call hb (aA _)) hb
     · have hdr:Ah w (.slice (some ⟨g,0+k,none⟩) (xs.length - k) (c1 - k)) (xs.drop k):=by
        rcases bT xs.length with h0 | h0
        · have:xs=[]:=aW h0;subst this
          simpa using Ah.nil w _ _
        · obtain ⟨F,G,e,h⟩:=b.drop (k:=k) (by omega) h0;cases e;exact h
       rw [bi,hk,eG] at hdr;have s:=hZ9 hdr;have r:=hZ9 h2;have y:k<=c1:=by omega
       rw [hk] at v p⊢;generalize B:ys.length=m at*;have HX:=hZ9 (⟨by omega,by omega⟩:(xs.drop k).length<=1000000/\ys.length<=1000000);clear h1 h2 hk d j i b B a hdr;go_enter func81,ntmps81;go_wp2_with fail;refine (QC _ _ (xs.drop k) ys _ s.out r.out HX.out.1 HX.out.2).mono ?_;rintro e w1 ⟨rfl,hb⟩;by_cases hd:xs.drop k=ys
       · have HR:=hZ9 (f.out hd);rw [aL hd];clear hd f c;go_wp2_with fail;go_ret2;exact PartOf.yes HR.out (o.out.call hb (aA _)) hb
       · have HR:=hZ9 (c.out hd);rw [aC hd];clear hd f c;go_wp2_with fail;go_ret2;exact PartOf.no HR.out hb
theorem Rt (a b:List UInt8) (s:a.length<=1000000) (hb0:b.length<=1000000) (w:World) (hE:Env w):Calls prog 47 #[.string ⟨a.toArray⟩,.string ⟨b.toArray⟩] w (Ef (DnS.EW a b) w):=by
 have hp:=DK a s w hE;have j:=fun w hE=>DK b hb0 w hE;unfold CN at hp j;have l:Hid (DnS.EW a b=(decide ((DnS.Ae a).2=0)&&decide ((DnS.Ae b).2=0)&&(DnS.Db (DnS.Ae a).1 (DnS.Ae b).1).isSome)):=hZ9 rfl;have n:=(DnS.Da a).1;have k:=(DnS.Da b).1;generalize DnS.Ae a=X at*;generalize DnS.Ae b=Y at*;obtain ⟨tx,ex⟩:=X;obtain ⟨ty,p⟩:=Y;simp only at hp j n k l;go_enter func47,ntmps47;go_wp2_with fail;refine hp.mono ?_;rintro e w1 ⟨u,rfl,f,c⟩;go_wp2_with fail;refine (j _ (hE.below c)).mono ?_;rintro e w2 ⟨v2,rfl,i,d⟩;have h:=Aa c d;go_wp2_with fail;refine (Ux _ _ tx ty _ w.heap.size (f.call d) i.strs (by omega) (by omega)).mono ?_;rintro e w3 ⟨v3,rfl,-,g⟩;have t:=hZ9 (Aa h g);generalize (DnS.Db tx ty).isSome=r at*;clear hp j f i c d g h;by_cases hx:ex=0 <;> by_cases q:p=0 <;> cases r
 all_goals
  have hx1:(ex==0)=decide (ex=0):=rfl;have o:(p==0)=decide (p=0):=rfl;have m:=l.out;simp only [hx,q,ft,fS,Bool.and_true,bX] at hx1 o m;have HR:=hZ9 m;clear m l
  try subst hx
  try subst q
  go_wp2_with fail;go_ret;exact ⟨by rw [HR.out];rfl,t.out⟩
end
section
open Go.RowKit
theorem WM {nm v:List UInt8} {t:List UInt8} {a:Int} (h:RuS.typeOf nm=(t,a)) (h5:a≠5):DnS.AG nm v=RuS.normal nm v:=by unfold DnS.AG;rw [h,aG h5]
theorem YL {nm v:List UInt8} {t:List UInt8} (h:RuS.typeOf nm=(t,5)):DnS.AG nm v=if (DnS.Aw v).2≠0\/(DnS.Aw v).1=[]\/200<v.length then ([],2) else ((DnS.Aw v).1,0):=by rw [DnS.Aaf,h,aP rfl]
theorem Cb.mk' {r q:List UInt8 × Int} {w w':World} (h:r=q) (hb:Below w.heap.size w w'):Cb r w (.returned (.tuple #[.string ⟨q.1.toArray⟩,.int .i64 q.2])) w':=by subst h;exact ⟨rfl,hb⟩
theorem GM (nm v:List UInt8) (x:nm.length<=1048576) (u:v.length<=1000000) (w:World) (hE:Env w):Calls prog 92 #[.string ⟨nm.toArray⟩,.string ⟨v.toArray⟩] w (Cb (DnS.AG nm v) w):=by
 have f1:(⟨nm.toArray⟩:ByteArray).size<=9223372036854775807:=by show nm.toArray.size<=_;rw [bV];omega
 have f2:(⟨v.toArray⟩:ByteArray).size<=9223372036854775807:=by show v.toArray.size<=_;rw [bV];omega
 have b:=Gq ⟨nm.toArray⟩ f1 w;have f:=fun w hE=>FH ⟨nm.toArray⟩ ⟨v.toArray⟩ f1 f2 w hE;have d:=fun w hE=>IJ v u w hE;unfold Ar at b;unfold Bl at f;unfold Cb at d;simp only at b f;obtain ⟨T,l⟩:∃T,RuS.typeOf nm=T:=⟨_,rfl⟩
 rw [l] at b;obtain ⟨t,p⟩:=T;have q:=hZ9 l;simp only at b;clear l f1 f2;by_cases h5:p=5
 · subst h5;have g:=hZ9 (YL (v:=v) q.out);clear f;generalize DnS.Aw v=N at*;obtain ⟨n,m⟩:=N;simp only at d g;by_cases k:m=0
   · subst k;by_cases i:n=[]
     · have HR:=hZ9 (g.out.trans (aP (.inr (.inl i))));have j:n.isEmpty=true:=by rw [i];rfl
       clear g;go_enter func92,ntmps92;go_wp2_with fail;refine b.mono ?_;rintro e w1 ⟨rfl,a⟩;go_wp2_with fail;refine (d _ (hE.below a)).mono ?_;rintro e w2 ⟨rfl,c⟩;go_wp2_with fail;go_ret2;exact Cb.mk' HR.out (Aa a c)
     · have j:n.isEmpty=false:=by simpa using i
       by_cases h200:200<v.length
       · have HR:=hZ9 (g.out.trans (aP (.inr (.inr h200))));have s:(200:Int)<(v.length:Int):=by omega
         clear g;go_enter func92,ntmps92;go_wp2_with fail;refine b.mono ?_;rintro e w1 ⟨rfl,a⟩;go_wp2_with fail;refine (d _ (hE.below a)).mono ?_;rintro e w2 ⟨rfl,c⟩;go_wp2_with fail;go_ret2;exact Cb.mk' HR.out (Aa a c)
       · have HR:=hZ9 (g.out.trans (aG (fun h=>h.elim (fun h=>h rfl) (fun h=>h.elim i h200))));have s:decide ((200:Int)<(v.length:Int))=false:=aC (by omega);clear g;go_enter func92,ntmps92;go_wp2_with fail;refine b.mono ?_;rintro e w1 ⟨rfl,a⟩;go_wp2_with fail;refine (d _ (hE.below a)).mono ?_;rintro e w2 ⟨rfl,c⟩;go_wp2_with fail;go_ret2;exact Cb.mk' HR.out (Aa a c)
   · have HR:=hZ9 (g.out.trans (aP (.inl k)));have o:(m !=0)=true:=by simpa using k
     clear g;go_enter func92,ntmps92;go_wp2_with fail;refine b.mono ?_;rintro e w1 ⟨rfl,a⟩;go_wp2_with fail;refine (d _ (hE.below a)).mono ?_;rintro e w2 ⟨rfl,c⟩;go_wp2_with fail;go_ret2;exact Cb.mk' HR.out (Aa a c)
 · have HR:=hZ9 (WM (v:=v) q.out h5);have o:(p !=5)=true:=by simpa using h5
   generalize RuS.normal nm v=R at*;obtain ⟨r,m⟩:=R;simp only at f;clear d;go_enter func92,ntmps92;go_wp2_with fail;refine b.mono ?_;rintro e w1 ⟨rfl,a⟩;go_wp2_with fail;refine (f _ (hE.below a)).mono ?_;rintro e w2 ⟨rfl,c⟩;go_wp2_with fail;go_ret2;exact Cb.mk' HR.out (Aa a c)
end
section
open Go.RowKit
theorem YM {ts:List (List UInt8)} (h:∀t ∈ ts,t.length<=3000) (a:ts.length<=100):(DnS.Aq ts).length<=1000000:=by have h1:=DnS.KF ts h;have:ts.length*(3000+1)<=100*3001:=bp _ a;omega
end
end Go.Proofs.YtgngjfjaelgaeaaGreatDoor
