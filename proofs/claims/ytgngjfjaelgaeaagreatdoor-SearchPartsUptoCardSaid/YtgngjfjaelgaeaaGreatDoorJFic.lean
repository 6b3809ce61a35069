/- The walks of letter, fits, Attribute and Attr (the program's, the document's). Conditions: as stated. -/
import Derived.Test.YtgngjfjaelgaeaaGreatDoorJFib
set_option maxRecDepth 100000
set_option maxHeartbeats 1000000
namespace Go.Proofs.YtgngjfjaelgaeaaGreatDoor
open Go.Proofs.Tryz
namespace FiS
def okI (i:Nat) (c:UInt8):Bool:=if i=0 then AY c else Hh c
theorem UC {s:List UInt8} {i:Nat} (b:i<s.length) (h:okI i (s[i]'b)=false):Gu s=false:=by
 cases s with
 | nil=>rfl
 | cons c r=>
  show (AY c&&r.all Hh&&decide ((c :: r).length<=40))=false
  cases i with
  | zero=>have h:AY c=false:=h;rw [h];rfl
  | succ i=>
   have h:Hh (r[i]'(by simpa using b))=false:=h;have a:r.all Hh=false:=by rw [fG];exact ⟨_,aZ (by simpa using b),by rw [h];simp⟩
   rw [a];simp
theorem Rz {s:List UInt8} (h:∀i (a:i<s.length),okI i (s[i]'a)=true):Gu s=(!s.isEmpty&&decide (s.length<=40)):=by
 cases s with
 | nil=>rfl
 | cons c r=>
  have h0:AY c=true:=h 0 (by simp);have h1:r.all Hh=true:=by rw [List.all_eq_true];intro x hx;obtain ⟨i,a,rfl⟩:=bf.1 hx;exact h (i+1) (by simpa using a)
  show (AY c&&r.all Hh&&decide ((c :: r).length<=40))=_
  rw [h0,h1];rfl
theorem XO {s:List UInt8} {j:Nat} (b:j<s.length) (h:∀i (a:i<s.length),i<j->okI i (s[i]'a)=true) (h2:okI j (s[j]'b)=true):∀i (a:i<s.length),i<j+1->okI i (s[i]'a)=true:=fun i a c=>by
 by_cases e:i=j
 · subst e;exact h2
 · exact h i a (by omega)
theorem Aa5:∀n:Fin 256,(decide ((97:Int)<=(((UInt8.ofNat n.val)||| 32).toNat:Int))&&decide ((((UInt8.ofNat n.val)||| 32).toNat:Int)<=122))=AY (UInt8.ofNat n.val):=by decide+kernel
theorem WQ (c:UInt8):(decide ((97:Int)<=((c||| 32).toNat:Int))&&decide (((c||| 32).toNat:Int)<=122))=AY c:=by
 have:=Aa5 ⟨c.toNat,c.toNat_lt⟩
 simpa only [ck] using this
theorem Agg:∀n:Fin 256,bits .or .u8 ((UInt8.ofNat n.val).toNat:Int) 32=(((UInt8.ofNat n.val)||| 32).toNat:Int):=by decide+kernel
theorem Ae7 (c:UInt8):bits .or .u8 (c.toNat:Int) 32=((c||| 32).toNat:Int):=by
 have:=Agg ⟨c.toNat,c.toNat_lt⟩
 simpa only [ck] using this
end FiS
open Go.RowKit
open FiS (Fi)
attribute [local go_sem ↓] Go.wp_at_zero Go.wp_at_succ
theorem letter_c (c:UInt8) (w:World):Calls prog 167 #[.int .u8 (c.toNat:Int)] w fun e w'=>e=.returned (.bool (FiS.AY c))/\w=w':=by
 have HR:Hid (FiS.AY c=(decide (65<=c.toNat/\c.toNat<=90)||decide (97<=c.toNat/\c.toNat<=122))):=hZ9 rfl;generalize FiS.AY c=R at*;have hc:(97<=c.toNat/\c.toNat<=122/\R=true)\/(97<=c.toNat/\122<c.toNat/\R=false)\/(c.toNat<65/\R=false)\/(65<=c.toNat/\c.toNat<=90/\R=true)\/(90<c.toNat/\c.toNat<97/\R=false):=by
  have h:=HR.out;have e:(decide (65<=c.toNat/\c.toNat<=90)||decide (97<=c.toNat/\c.toNat<=122))=decide ((65<=c.toNat/\c.toNat<=90)\/(97<=c.toNat/\c.toNat<=122)):=by rw [Bool.decide_or]
  rw [e] at h;by_cases h1:97<=c.toNat
  · by_cases h2:c.toNat<=122
    · exact .inl ⟨h1,h2,by rw [h];exact aL (.inr ⟨h1,h2⟩)⟩
    · exact .inr (.inl ⟨h1,by omega,by rw [h];exact aC (by omega)⟩)
  · by_cases h2:c.toNat<65
    · exact .inr (.inr (.inl ⟨h2,by rw [h];exact aC (by omega)⟩))
    · by_cases h3:c.toNat<=90
      · exact .inr (.inr (.inr (.inl ⟨by omega,h3,by rw [h];exact aL (.inl ⟨by omega,h3⟩)⟩)))
      · exact .inr (.inr (.inr (.inr ⟨by omega,by omega,by rw [h];exact aC (by omega)⟩)))
 clear HR;rcases hc with ⟨h1,h2,rfl⟩ | ⟨h1,h2,rfl⟩ | ⟨h1,rfl⟩ | ⟨h1,h2,rfl⟩ | ⟨h1,h2,rfl⟩
 all_goals
  first | have g1:decide ((97:Int)<=(c.toNat:Int))=true:=aL (by omega) | have g1:decide ((97:Int)<=(c.toNat:Int))=false:=aC (by omega)
  first | have g2:decide ((c.toNat:Int)<=122)=true:=aL (by omega) | have g2:decide ((c.toNat:Int)<=122)=false:=aC (by omega)
  first | have g3:decide ((65:Int)<=(c.toNat:Int))=true:=aL (by omega) | have g3:decide ((65:Int)<=(c.toNat:Int))=false:=aC (by omega)
  first | have g4:decide ((c.toNat:Int)<=90)=true:=aL (by omega) | have g4:decide ((c.toNat:Int)<=90)=false:=aC (by omega)
  go_enter func167,ntmps167;go_wp2_with fail;go_ret;exact ⟨rfl,rfl⟩
theorem Aa6 (s:List UInt8) (w:World):Calls prog 154 #[.string ⟨s.toArray⟩] w fun e w'=>e=.returned (.bool (FiS.BN s))/\w=w':=by
 cases s with
 | nil=>go_enter func154,ntmps154;go_wp2_with fail;go_ret;exact ⟨rfl,rfl⟩
 | cons c r=>
  have HR:Hid (FiS.BN (c :: r)=decide ((c :: r).length<=200)):=hZ9 rfl;generalize FiS.BN (c :: r)=R at*;generalize a:c :: r=s at*;have h1:s.isEmpty=false:=by subst a;rfl
  have h2:(s==[])=false:=by subst a;rfl
  have h3:¬s=[]:=by subst a;simp
  clear a;go_enter func154,ntmps154;go_wp2_with fail;go_ret;refine ⟨?_,rfl⟩;rw [HR.out]
  first | rfl | (rw [show decide ((s.length:Int)<=200)=decide (s.length<=200) from bO.2 (by omega)];rfl)
theorem RA (s:List UInt8) (w:World):Calls prog 138 #[.string ⟨s.toArray⟩] w fun e w'=>e=.returned (.bool (FiS.BN s))/\w=w':=by
 have HR:Hid (FiS.BN s=(decide (1<=s.length)&&decide (s.length<=200))):=hZ9 (by
  unfold FiS.BN;cases s <;> simp)
 generalize FiS.BN s=R at*;by_cases h1:1<=s.length
 · have g1:decide ((1:Int)<=(s.length:Int))=true:=aL (by omega);go_enter func138,ntmps138;go_wp2_with fail;go_ret;refine ⟨?_,rfl⟩;rw [HR.out,aL h1,cf]
   first | rfl | (rw [show decide ((s.length:Int)<=200)=decide (s.length<=200) from bO.2 (by omega)];rfl)
 · have g1:decide ((1:Int)<=(s.length:Int))=false:=aC (by omega);have a:R=false:=by rw [HR.out,aC h1];rfl
   subst a;go_enter func138,ntmps138;go_wp2_with fail;go_ret;exact ⟨rfl,rfl⟩
theorem AcR (s:List UInt8) (w:World):Calls prog 156 #[.string ⟨s.toArray⟩] w fun e w'=>e=.returned (.bool (!FiS.BN s))/\w=w':=by have hc:=Aa6 s w;generalize FiS.BN s=R at*;go_enter func156,ntmps156;go_wp2_with fail;refine hc.mono ?_;rintro e w1 ⟨rfl,rfl⟩;go_wp2_with fail;go_ret;exact ⟨rfl,rfl⟩
theorem WR (s:List UInt8) (U:s.length<=20000) (w:World):Calls prog 153 #[.string ⟨s.toArray⟩] w fun e w'=>e=.returned (.bool (FiS.Gu s))/\Below w.heap.size w w':=by
 have u:=fun w=>Lib.run_convert_string_bytes (P:=prog) w 9 157 5 ⟨s.toArray⟩ underlying9 underlying157 underlying5;have G:(⟨s.toArray⟩:ByteArray).size<=grownCap w (⟨s.toArray⟩:ByteArray).size 0 5:=grownCap_ge _ _ _ _;have hb0:=BytesIn.conv w 5 ⟨s.toArray⟩;have E:=Lib.bytesWorld_below w 5 ⟨s.toArray⟩;have hsz:(⟨s.toArray⟩:ByteArray).size=s.length:=by show s.toArray.size=_;simp
 have F:(⟨s.toArray⟩:ByteArray).data.toList=s:=by simp
 rw [F] at hb0;rw [hsz] at u G;have l:=hZ9 (fun j (I:j<s.length) h=>FiS.UC I h);have g:=hZ9 (fun h=>FiS.Rz (s:=s) h);have k:=hZ9 (fun j (I:j<s.length) h h2=>FiS.XO I h h2);obtain ⟨R,hR⟩:∃r,FiS.Gu s=r:=⟨_,rfl⟩
 rw [hR] at l g⊢;clear hR F;obtain ⟨n,O⟩:∃n,s.length=n:=⟨_,rfl⟩
 go_enter func153,ntmps153;go_wp2_with fail;clear u;generalize grownCap w n 0 5=cap at*;generalize Lib.bytesWorld w 5 ⟨s.toArray⟩=w0 at*;go_loopw [9] (fun i wr=>∃j:Nat,j<=n/\i=.int .i64 j/\Hid (∀i (J:i<s.length),i<j->FiS.okI i (s[i]'J)=true)/\BytesIn wr w.heap.size s/\Below w.heap.size w wr) (fun i _=>n - (intOf i).toNat)
 case atStart=>exact ⟨0,aR _,rfl,hZ9 (fun i J h=>by omega),hb0,E⟩
 case round=>
  obtain ⟨j,I,rfl,L,x,hb⟩:=hrel;clear hb0 E;by_cases S:j<n
  · have q:j<s.length:=by omega
    have hc:=x.cell q;have d:=hZ9 (fun h=>l.out j q h);have f:=hZ9 (fun h=>k.out j q L.out h);clear l k g;generalize s[j]=c at*;have N:=FiS.Ae7 c;have m:=FiS.WQ c;have C:Hid (FiS.Hh c=(FiS.AY c||FiS.isDig c||c==45)):=hZ9 rfl;have T:(0:Int)<=(j:Int):=by omega
    have Q:(j:Int)<(n:Int):=by omega
    generalize ((c||| 32).toNat:Int)=z at*;have M:(FiS.AY c=true/\decide ((97:Int)<=z)=true/\decide (z<=122)=true)\/(FiS.AY c=false/\decide ((97:Int)<=z)=false)\/(FiS.AY c=false/\decide ((97:Int)<=z)=true/\decide (z<=122)=false):=by
     cases h1:decide ((97:Int)<=z) <;> cases h2:decide (z<=122) <;> rw [h1,h2] at m
     · exact .inr (.inl ⟨m.symm,rfl⟩)
     · exact .inr (.inl ⟨m.symm,rfl⟩)
     · exact .inr (.inr ⟨m.symm,rfl,rfl⟩)
     · exact .inl ⟨m.symm,rfl,rfl⟩
    clear m;have A:FiS.AY c=true->FiS.okI j c=true:=fun h=>by
     unfold FiS.okI;split
     · exact h
     · rw [C.out,h];rfl
    have p:=hZ9 A;have y:FiS.AY c=false->FiS.okI j c=(decide (j≠0)&&(FiS.isDig c||c==45)):=fun h=>by
     unfold FiS.okI;split
     · rename_i h0;rw [h];simp [h0]
     · rename_i h0;rw [C.out,h];simp [h0]
    have t:=hZ9 y;clear A y C;have a:FiS.AY c=false->∀(P:Prop),((j=0->P)/\(j≠0->c.toNat=45->P)/\(j≠0->c.toNat≠45->c.toNat<48->P)/\(j≠0->c.toNat≠45->48<=c.toNat->57<c.toNat->P)/\(j≠0->c.toNat≠45->48<=c.toNat->c.toNat<=57->P))->P:=fun _ P ⟨p1,p2,p3,p4,p5⟩=>by
     by_cases h0:j=0
     · exact p1 h0
     · by_cases h1:c.toNat=45
       · exact p2 h0 h1
       · by_cases h2:c.toNat<48
         · exact p3 h0 h1 h2
         · by_cases h3:c.toNat<=57
           · exact p5 h0 h1 (by omega) h3
           · exact p4 h0 h1 (by omega) (by omega)
    have K:∀{c:UInt8},c.toNat=45->c=45:=fun h=>cY.1 (by rw [h];rfl);rcases M with ⟨H,z1,z2⟩ | ⟨H,z1⟩ | ⟨H,z1,z2⟩
    · have v:=hZ9 (f.out (p.out H));clear f d p t a;go_wp2_with fail;go_roundw
      case rel=>exact ⟨j+1,by omega,by go_num,v,x,hb⟩
      case measure=>simp [intOf];omega
    all_goals
     have b:=hZ9 (t.out H);clear p t;refine a H _ ⟨fun h0=>?_,fun h0 h1=>?_,fun h0 h1 h2=>?_,fun h0 h1 h2 h3=>?_,fun h0 h1 h2 h3=>?_⟩
     · have hR:=d.out (by rw [b.out];simp [h0]);subst h0;clear d f b a;go_wp2_with fail;go_ret;exact ⟨by rw [hR];rfl,hb⟩
     · have v:=hZ9 (f.out (by rw [b.out,K h1];simp [h0]));have g0:((j:Int)==0)=false:=by simpa using h0
       have g1:((c.toNat:Int) !=45)=false:=by simp;omega
       clear d f b a;go_wp2_with fail;go_roundw
       case rel=>exact ⟨j+1,by omega,by go_num,v,x,hb⟩
       case measure=>simp [intOf];omega
     · have B:(c==45)=false:=by
        cases h:c==45
        · rfl
        · have:=eq_of_beq h;subst this;exact absurd rfl h1
       have hR:=d.out (by rw [b.out,B];simp [FiS.isDig];omega);have g0:((j:Int)==0)=false:=by simpa using h0
       have g1:((c.toNat:Int) !=45)=true:=by simp;omega
       have g2:decide ((c.toNat:Int)<48)=true:=aL (by omega);clear d f b a;go_wp2_with fail;go_ret;exact ⟨by rw [hR];rfl,hb⟩
     · have B:(c==45)=false:=by
        cases h:c==45
        · rfl
        · have:=eq_of_beq h;subst this;exact absurd rfl h1
       have hR:=d.out (by rw [b.out,B];simp [FiS.isDig];omega);have g0:((j:Int)==0)=false:=by simpa using h0
       have g1:((c.toNat:Int) !=45)=true:=by simp;omega
       have g2:decide ((c.toNat:Int)<48)=false:=aC (by omega);have g3:decide ((57:Int)<(c.toNat:Int))=true:=aL (by omega);clear d f b a;go_wp2_with fail;go_ret;exact ⟨by rw [hR];rfl,hb⟩
     · have v:=hZ9 (f.out (by rw [b.out];simp [FiS.isDig,h0];omega));have g0:((j:Int)==0)=false:=by simpa using h0
       have g1:((c.toNat:Int) !=45)=true:=by simp;omega
       have g2:decide ((c.toNat:Int)<48)=false:=aC (by omega);have g3:decide ((57:Int)<(c.toNat:Int))=false:=aC (by omega);clear d f b a;go_wp2_with fail;go_roundw
       case rel=>exact ⟨j+1,by omega,by go_num,v,x,hb⟩
       case measure=>simp [intOf];omega
  · have hR:=g.out (fun i J=>L.out i J (by omega));clear l k g L;cases o:s.isEmpty with
    | true=>have h2:s=[]:=dA.1 o;rw [o] at hR;have hR:R=false:=hR;subst h2;go_wp2_with fail;go_ret;exact ⟨by rw [hR];rfl,hb⟩
    | false=>
     have h2:(s==[])=false:=by cases s <;> simp_all
     have h3:¬s=[]:=fun h=>by rw [h] at o;cases o
     rw [o,O] at hR;have hR:R=decide (n<=40):=hR;have e:decide ((n:Int)<=40)=decide (n<=40):=bO.2 (by omega);rw [<-e] at hR;clear e;go_wp2_with fail;go_ret;exact ⟨by rw [hR];rfl,hb⟩
theorem Aa7 (s:List UInt8) (w:World):Calls prog 137 #[.string ⟨s.toArray⟩] w fun e w'=>e=.returned (.bool (FiS.Gu s))/\w=w':=by
 by_cases v:s=[]
 · subst v;go_enter func137,ntmps137;go_wp2_with fail;go_ret;exact ⟨rfl,rfl⟩
 have m:0<s.length:=cT.2 v;have g1:decide ((s.length:Int)<1)=false:=aC (by omega);by_cases h40:40<s.length
 · have g2:decide ((40:Int)<(s.length:Int))=true:=aL (by omega);have HR:FiS.Gu s=false:=by
    cases s with
    | nil=>rfl
    | cons c r=>
     show (FiS.AY c&&r.all FiS.Hh&&decide ((c :: r).length<=40))=false
     rw [aC (by omega),bX]
   rw [HR];clear HR;go_enter func137,ntmps137;go_wp2_with fail;go_ret;exact ⟨rfl,rfl⟩
 have g2:decide ((40:Int)<(s.length:Int))=false:=aC (by omega);have d:=hZ9 (fun j (C:j<s.length) h=>FiS.UC C h);have a:=hZ9 (fun h=>FiS.Rz (s:=s) h);have g:=hZ9 (fun j (C:j<s.length) h h2=>FiS.XO C h h2);have J:=fun (c:UInt8) w=>letter_c c w;obtain ⟨R,hR⟩:∃r,FiS.Gu s=r:=⟨_,rfl⟩
 rw [hR] at d a⊢;have O:Hid (s.isEmpty=false):=hZ9 (by cases s <;> simp_all);have B:Hid (s.length<=40):=hZ9 (by omega);clear hR v h40;have H0:Hid (FiS.okI 0 (s[0]'m)=FiS.AY (s[0]'m)):=hZ9 rfl;obtain ⟨c0,F⟩:∃c,s[0]'m=c:=⟨_,rfl⟩
 have y:=hZ9 F;have M:∀h,(⟨s.toArray⟩:ByteArray)[0]'h=c0:=fun _=>F;clear F;have t:=J c0 w;obtain ⟨b0,hb0⟩:∃b,FiS.AY c0=b:=⟨_,rfl⟩
 rw [hb0] at t;obtain ⟨n,Q⟩:∃n,s.length=n:=⟨_,rfl⟩
 have X:=hZ9 Q;rw [Q] at g1 g2 m;have Z:(0:Int)<(n:Int):=by omega
 have hsz:(⟨s.toArray⟩:ByteArray).size=n:=by show s.toArray.size=_;simpa using Q
 cases b0 with
 | false=>have hR:=d.out 0 (by omega) (by rw [H0.out,y.out];exact hb0);clear d a g hb0 H0 y;go_enter func137,ntmps137;go_wp2_with fail;refine t.mono ?_;rintro e w1 ⟨rfl,rfl⟩;go_wp2_with fail;go_ret;exact ⟨by rw [hR];rfl,rfl⟩
 | true=>
  have E:Hid (∀(j:Nat) (C:j<s.length),j=0->FiS.AY (s[j]'C)=true):=hZ9 (fun j C e=>by subst e;rw [y.out];exact hb0);clear hb0 H0 y;go_enter func137,ntmps137;go_wp2_with fail;refine t.mono ?_;rintro e w1 ⟨rfl,rfl⟩;go_wp2_with fail;clear t M;go_loopw [3] (fun i wr=>∃j:Nat,j<=n/\i=.int .i64 j/\Hid (∀i (K:i<s.length),i<j->FiS.okI i (s[i]'K)=true)/\w=wr) (fun i _=>n - (intOf i).toNat)
  case atStart=>exact ⟨0,aR _,rfl,hZ9 (fun i K h=>by omega),rfl⟩
  case round=>
   obtain ⟨j,C,rfl,V,rfl⟩:=hrel;by_cases T:j<n
   · have q:j<s.length:=by rw [X.out];exact T
     have o:=hZ9 (fun h=>d.out j q h);have k:=hZ9 (fun h=>g.out j q V.out h);have W:j<=40:=by have:=B.out;omega
     have Y:=hZ9 (E.out j q);clear d g a E;generalize I:s[j]=c at*;have A0:∀h,(⟨s.toArray⟩:ByteArray)[j]'h=c:=fun _=>I;clear I;have p:=J c w;have A:Hid (FiS.Hh c=(FiS.AY c||FiS.isDig c||c==45)):=hZ9 rfl;have z:Hid (FiS.okI j c=if j=0 then FiS.AY c else FiS.Hh c):=hZ9 rfl;have t:(0:Int)<=(j:Int):=by omega
     have A1:(j:Int)<(n:Int):=by omega
     obtain ⟨L,U⟩:∃b,FiS.AY c=b:=⟨_,rfl⟩
     have G:=hZ9 U;rw [U] at p;clear U;have S:∀{c:UInt8},c.toNat=45->c=45:=fun h=>cY.1 (by rw [h];rfl);cases L with
     | true=>
      have x:=hZ9 (k.out (by rw [z.out];split;exact G.out;rw [A.out,G.out];rfl));clear k o z A G;go_wp2_with fail;refine p.mono ?_;rintro e w1 ⟨rfl,rfl⟩;go_wp2_with fail;go_roundw
      case rel=>exact ⟨j+1,by omega,by go_num,x,by trivial⟩
      case measure=>simp [intOf];omega
     | false=>
      have P:j≠0:=fun e=>by have:=Y.out e;rw [G.out] at this;cases this
      have f:Hid (FiS.okI j c=(FiS.isDig c||c==45)):=hZ9 (by rw [z.out,aG P,A.out,G.out];rfl);clear z A G Y;by_cases hd:48<=c.toNat/\c.toNat<=57
      · have x:=hZ9 (k.out (by rw [f.out];simp [FiS.isDig];omega));have g3:decide ((48:Int)<=(c.toNat:Int))=true:=aL (by omega);have g4:decide ((c.toNat:Int)<=57)=true:=aL (by omega);clear k o f hd;go_wp2_with fail;refine p.mono ?_;rintro e w1 ⟨rfl,rfl⟩;go_wp2_with fail;go_roundw
        case rel=>exact ⟨j+1,by omega,by go_num,x,by trivial⟩
        case measure=>simp [intOf];omega
      · have u:FiS.isDig c=false:=aC hd;have l:(decide ((48:Int)<=(c.toNat:Int))=false)\/(decide ((48:Int)<=(c.toNat:Int))=true/\decide ((c.toNat:Int)<=57)=false):=by
         by_cases h:48<=c.toNat
         · exact .inr ⟨aL (by omega),aC (by omega)⟩
         · exact .inl (aC (by omega))
        by_cases h45:c.toNat=45
        · have x:=hZ9 (k.out (by rw [f.out,S h45];simp));have g5:((c.toNat:Int) !=45)=false:=by simp;omega
          clear k o f hd u h45;rcases l with g3 | ⟨g3,g4⟩
          all_goals
           go_wp2_with fail;refine p.mono ?_;rintro e w1 ⟨rfl,rfl⟩;go_wp2_with fail;go_roundw
           case rel=>exact ⟨j+1,by omega,by go_num,x,by trivial⟩
           case measure=>simp [intOf];omega
        · have H:(c==45)=false:=by
           cases h:c==45
           · rfl
           · have:=eq_of_beq h;subst this;exact absurd rfl h45
          have hR:=o.out (by rw [f.out,H,u];rfl);have g5:((c.toNat:Int) !=45)=true:=by simp;omega
          clear k o f hd u H h45;rcases l with g3 | ⟨g3,g4⟩
          all_goals
           go_wp2_with fail;refine p.mono ?_;rintro e w1 ⟨rfl,rfl⟩;go_wp2_with fail;go_ret;exact ⟨by rw [hR];rfl,by trivial⟩
   · have hR:=a.out (fun i K=>V.out i K (by have:=X.out;omega));have N:R=true:=by rw [hR,O.out,aL B.out];rfl
     clear d g a V E;go_wp2_with fail;go_ret;exact ⟨by rw [N];rfl,by trivial⟩
end Go.Proofs.YtgngjfjaelgaeaaGreatDoor
