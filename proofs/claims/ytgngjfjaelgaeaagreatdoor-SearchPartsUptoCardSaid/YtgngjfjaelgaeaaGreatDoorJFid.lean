/- The walks of what belongs to a filter's kind: own (the program's), bare (the document's). Conditions: as stated. -/
import Derived.Test.YtgngjfjaelgaeaaGreatDoorJFic
set_option maxRecDepth 100000
set_option maxHeartbeats 2000000
namespace Go.Proofs.YtgngjfjaelgaeaaGreatDoor
open Go.Proofs.Tryz
namespace FiS
theorem emp (s:List UInt8):s=[]\/(s.isEmpty=false/\(s==[])=false/\(s !=[])=true/\¬s=[]):=by
 cases s with
 | nil=>exact .inl rfl
 | cons c r=>exact .inr ⟨rfl,rfl,rfl,by simp⟩
def Ha (s:List UInt8):Bool:=!BN s
theorem Aa8 (l:List (List UInt8)):l.any Ha=!l.all BN:=by unfold Ha;rw [List.any_eq_not_all_not];congr 2;funext s;simp
def Ap (k:Int) (E V P:Bool) (L F:Bool) (a b A:Bool) (O:Bool):Bool:=
 if k=0\/k=1 then E&&V&&!P
 else if k=2 then E&&V&&!P&&O
 else if k=3\/k=5\/k=6\/k=8 then L&&F&&!P
 else if k=7 then L&&V&&!P
 else if k=4 then L&&V&&P&&a&&b&&A
 else false
theorem XP (k:Int) (a v f l:List UInt8) (s:List (List UInt8)) (n:Nat):Ny k a v f l s n=Ap k a.isEmpty v.isEmpty (Gn f l s) (JE a n) (BN v) (decide (f.length<=200)) (decide (l.length<=200)) (s.all BN) (decide (n=1)):=rfl
theorem AcS {α:Type} {p:α->Bool} {l:List α} {j:Nat} (a:j<l.length):(l.take (j+1)).all p=((l.take j).all p&&p (l[j]'a)):=by rw [aX a,dL];simp
theorem all_not {α:Type} {p:α->Bool} {l:List α} {j:Nat} (a:j<l.length) (h:p (l[j]'a)=false):l.all p=false:=by rw [fG];exact ⟨_,aZ a,by rw [h];simp⟩
def Ua (o:Option Nat):Int:=match o with | some i=>(i:Int) | none=>-1
theorem PM {α:Type} {p:α->Bool}:∀{xs:List α} {k:Nat} (hk:k<xs.length),(∀x ∈ xs.take k,p x=false)->p xs[k]=true->xs.findIdx? p=some k
 | [],k,hk,_,_=>by simp at hk
 | x :: xs,0,_,_,hp=>by rw [dx,aP (show p x=true from hp)]
 | x :: xs,k+1,hk,h,hp=>by rw [dx,aG (by rw [h x (by simp)];simp),PM (k:=k) (by simpa using hk) (fun y a=>h y (by simp [a])) (by simpa using hp)];rfl
theorem Aa9 {α:Type} {p:α->Bool} {xs:List α} (h:∀x ∈ xs,p x=false):xs.findIdx? p=none:=by rw [fL];exact h
theorem AaA {α:Type} {p:α->Bool} {xs:List α} {k:Nat} (hk:k<xs.length) (h:∀x ∈ xs.take k,p x=false) (hp:p xs[k]=false):∀x ∈ xs.take (k+1),p x=false:=fun x hx=>by
 rw [aX hk] at hx;rcases b9.1 hx with hx | hx
 · exact h x hx
 · have:=ak.1 hx;subst this;exact hp
theorem AcT (o:Option Nat):decide (0<=Ua o)=o.isSome:=by
 cases o with
 | none=>rfl
 | some i=>simp [Ua]
theorem AcU {α:Type} (p:α->Bool) (l:List α):(l.findIdx? p).isSome=l.any p:=by rw [eU]
end FiS
open Go.RowKit
def BB (b:Bool) (w:World) (e:Ending) (w':World):Prop:=e=.returned (.bool b)/\Below w.heap.size w w'
def Aep (o:Option Nat) (w:World) (e:Ending) (w':World):Prop:=e=.returned (.int .i64 (FiS.Ua o))/\Below w.heap.size w w'
open FiS (Fi)
theorem AcV (v:Value) (xs:List (List UInt8)) (w:World) (h:Ah w v xs) (F:xs.length<=1048576):
  Calls prog 157 #[v,.func (.func 156) #[] #[]] w (Aep (xs.findIdx? FiS.Ha) w):=by
 obtain ⟨a,c,rfl,hc,n⟩:=Ad.at (h.strsP (fun _=>True) (fun _ _=>trivial));have y:=hZ9 n;have G:=fun x w=>AcR x w;have j:=hZ9 (fun k (hk:k<xs.length)=>FiS.PM (p:=FiS.Ha) hk);have f:=hZ9 (FiS.Aa9 (p:=FiS.Ha) (xs:=xs));have u:=hZ9 (fun k (hk:k<xs.length)=>FiS.AaA (p:=FiS.Ha) hk);generalize xs.findIdx? FiS.Ha=R at*;have HP:Hid (∀s,FiS.Ha s=!FiS.BN s):=hZ9 (fun _=>rfl);generalize FiS.Ha=p at*;clear n h;generalize r:xs.length=m at hc F⊢;have E:=hZ9 r;clear r;go_enter func157,ntmps157;go_wp2_with fail;go_loopw [8] (fun i wr=>∃k:Nat,k<=m/\i=.int .i64 k/\Hid (∀x ∈ xs.take k,p x=false)/\Below w.heap.size w wr) (fun i _=>m - (intOf i).toNat)
 case atStart=>exact ⟨0,aR _,rfl,hZ9 (fun x hx=>by cases hx),Below.refl _ _⟩
 case round=>
  obtain ⟨k,hk,rfl,C,hb⟩:=hrel;by_cases A:k<m
  · have b:k<xs.length:=by rw [E.out];exact A
    obtain ⟨g,o,rfl,H,_,hra⟩:=y.out k b;have c0:wr.cell? ⟨g,o+k,none⟩=some (Ac xs[k]):=by have:w.cell? ⟨g,o+k*1,none⟩=some (Ac xs[k]):=hra;rw [cK] at this;exact Ab this hb
    have B:=hZ9 (j.out k b C.out);have z:=hZ9 (u.out k b C.out);have q:=hZ9 (HP.out xs[k]);generalize xs[k]=x at*;unfold Ac at c0;have d:=G x wr;clear hra b j f u;cases l:p x with
    | true=>have HR:=hZ9 (B.out l);rw [<-q.out,l] at d;clear l B z;go_wp2_with fail;refine d.mono ?_;rintro e w1 ⟨rfl,rfl⟩;go_wp2_with fail;go_ret;exact ⟨by rw [HR.out];rfl,hb⟩
    | false=>
     have HR:=hZ9 (z.out l);rw [<-q.out,l] at d;clear l B z;go_wp2_with fail;refine d.mono ?_;rintro e w1 ⟨rfl,rfl⟩;go_wp2_with fail;go_roundw
     case rel=>exact ⟨k+1,by omega,by go_num,HR,hb⟩
     case measure=>simp [intOf];omega
  · have t:Hid (R=none):=hZ9 (f.out (by have:=C.out;rwa [ag (by rw [E.out];omega)] at this));go_wp2_with fail;go_ret;exact ⟨by rw [t.out];rfl,hb⟩
theorem AcW (v:Value) (xs:List (List UInt8)) (w:World) (h:Ah w v xs) (g:xs.length<=1048576):
  Calls prog 155 #[v,.func (.func 156) #[] #[]] w (BB (!xs.all FiS.BN) w):=by
 have d:=AcV v xs w h g;unfold Aep at d;have HR:Hid ((!xs.all FiS.BN)=(xs.findIdx? FiS.Ha).isSome):=hZ9 (by rw [FiS.AcU,FiS.Aa8]);generalize (!xs.all FiS.BN)=R at*;generalize xs.findIdx? FiS.Ha=I at*;have f:=hZ9 (FiS.AcT I);generalize FiS.Ua I=z at*;obtain ⟨a,c,rfl⟩:=h.form;go_enter func155,ntmps155;go_wp2_with fail;refine d.mono ?_;rintro e w1 ⟨rfl,b⟩;go_wp2_with fail;go_ret;exact ⟨by rw [HR.out,<-f.out];rfl,b⟩
theorem Agh (n:Nat) (x:Fi) (v:Value) (w:World) (h:Dh n w v x) (p:x.attr.length<=20000) (o:x.any.length<=1048576):Calls prog 124 #[v] w (BB (FiS.Hj x) w):=by
 unfold BB;obtain ⟨kd,c,g,j,ls,q,ps⟩:=x;obtain ⟨a5,c5,V,I,hv,A,C,G⟩:=FiV.parts h;have hv:v=.agg #[.int .i64 kd,.string ⟨c.toArray⟩,.string ⟨g.toArray⟩,.string ⟨j.toArray⟩,.string ⟨ls.toArray⟩,.slice a5 q.length c5,.slice V ps.length I]:=hv;subst hv;have A:Ah w (.slice a5 q.length c5) q:=A;have C:ps.length<=I:=C;have G:BC n (fun _=>True) w (.slice V ps.length I) ps:=G;have p:c.length<=20000:=p;have o:q.length<=1048576:=o;have hN:FiS.Hj (.mk kd c g j ls q ps)=FiS.Ny kd c g j ls q ps.length:=rfl;rw [hN];clear hN;obtain ⟨z,B⟩:∃m,q.length=m:=⟨_,rfl⟩
 obtain ⟨l,F⟩:∃m,ps.length=m:=⟨_,rfl⟩
 have B0:=hZ9 B;have B2:=hZ9 F;rw [B] at A;rw [F] at C G
 try rw [B]
 try rw [F]
 rw [FiS.XP];have Y:=Af w (.cells #[.int .i64 kd,.string ⟨c.toArray⟩,.string ⟨g.toArray⟩,.string ⟨j.toArray⟩,.string ⟨ls.toArray⟩,.slice a5 z c5,.slice V l I] 36);have M:=Whole.made w 36 #[.int .i64 kd,.string ⟨c.toArray⟩,.string ⟨g.toArray⟩,.string ⟨j.toArray⟩,.string ⟨ls.toArray⟩,.slice a5 z c5,.slice V l I];have k:=fun w=>WR c p w;have d:=fun w=>Aa6 g w;have f:Hid (FiS.Gn j ls q=(!j.isEmpty||!ls.isEmpty||decide (0<z))):=hZ9 (by rw [<-B0.out];rfl);have i:Hid (FiS.JE c l=(decide (l=0)&&FiS.Gu c)):=hZ9 rfl;obtain ⟨P,hP⟩:∃b,FiS.Gn j ls q=b:=⟨_,rfl⟩
 obtain ⟨L,hL⟩:∃b,FiS.JE c l=b:=⟨_,rfl⟩
 obtain ⟨AT,A2⟩:∃b,FiS.Gu c=b:=⟨_,rfl⟩
 obtain ⟨FT,A8⟩:∃b,FiS.BN g=b:=⟨_,rfl⟩
 obtain ⟨AA,S⟩:∃b,q.all FiS.BN=b:=⟨_,rfl⟩
 rw [hP] at f⊢;rw [hL] at i⊢;rw [A2] at i k;rw [A8] at d⊢;rw [S];have B1:=hZ9 S;clear hP hL A2 A8 S;have r:∀s:List UInt8,decide ((s.length:Int)<=200)=decide (s.length<=200):=fun s=>bO.2 (by omega);obtain ⟨F2,J⟩:∃b,decide (j.length<=200)=b:=⟨_,rfl⟩
 obtain ⟨L2,T⟩:∃b,decide (ls.length<=200)=b:=⟨_,rfl⟩
 have A1:decide ((j.length:Int)<=200)=F2:=(r j).trans J;have A9:decide ((ls.length:Int)<=200)=L2:=(r ls).trans T;rw [J,T];clear J T r;obtain ⟨O,hO⟩:∃b,decide (l=1)=b:=⟨_,rfl⟩
 have A4:((l:Int)==1)=O:=by rw [<-hO];by_cases h:l=1 <;> simp [h] <;> omega
 rw [hO];clear hO;obtain ⟨q0,q1,q2,q3,q4,q5,q6⟩:=M.seven;have u:=fun W (hb:Below w.heap.size w W)=>AcW (.slice a5 z c5) q W (A.call hb (aA _)) o;unfold BB at u;have y:∀W,Below w.heap.size w W->Calls prog 155 #[.slice a5 z c5,.func (.func 156) #[] #[]] W fun e w'=>e=.returned (.bool (!AA))/\Below W.heap.size W w':=fun W hb=>by have:=u W hb;rwa [B1.out] at this
 clear u;obtain ⟨R,Q⟩:∃b,FiS.Ap kd c.isEmpty g.isEmpty P L FT F2 L2 AA O=b:=⟨_,rfl⟩
 rw [Q];have a:=hZ9 Q;clear Q h G B F C;have HW:=hZ9 M;clear M;go_enter func124,ntmps124;go_upto_region 1 with fail;go_cut [3] (fun b wd=>b=.bool P/\wd=(w.alloc (.cells #[.int .i64 kd,.string ⟨c.toArray⟩,.string ⟨g.toArray⟩,.string ⟨j.toArray⟩,.string ⟨ls.toArray⟩,.slice a5 z c5,.slice V l I] 36)))
 case first=>
  clear k d A1 A9 A4;rcases FiS.emp j with rfl | ⟨f1,f2,f3,f4⟩
  · rcases FiS.emp ls with rfl | ⟨l1,l2,l3,l4⟩
    · have t:Hid (P=decide ((0:Int)<(z:Int))):=hZ9 (by rw [f.out];show (false||false||decide (0<z))=_;simp);clear f;go_wp2_with fail;go_meet;exact ⟨by rw [t.out];first | rfl | simp,rfl⟩
    · have t:Hid (P=true):=hZ9 (by rw [f.out,l1];simp);clear f;go_wp2_with fail;go_meet;exact ⟨by rw [t.out],rfl⟩
  · have t:Hid (P=true):=hZ9 (by rw [f.out,f1];simp);clear f;go_wp2_with fail;go_meet;exact ⟨by rw [t.out],rfl⟩
 case rest=>
  obtain ⟨rfl,rfl⟩:=hcut;have H:=Y;clear f Y;go_upto_region 2 with fail;go_cut [4] (fun b wd=>b=.bool L/\Whole wd w.heap.size 36 #[.int .i64 kd,.string ⟨c.toArray⟩,.string ⟨g.toArray⟩,.string ⟨j.toArray⟩,.string ⟨ls.toArray⟩,.slice a5 z c5,.slice V l I]/\Below w.heap.size w wd)
  case first=>
   clear d A1 A9 A4 y;by_cases h0:l=0
   · have N:Hid (L=AT):=hZ9 (by rw [i.out,aL h0,cf]);subst h0;clear i;have hc:=k (w.alloc (.cells #[.int .i64 kd,.string ⟨c.toArray⟩,.string ⟨g.toArray⟩,.string ⟨j.toArray⟩,.string ⟨ls.toArray⟩,.slice a5 z c5,.slice V 0 I] 36));go_wp2_with fail;refine hc.mono ?_;rintro e w2 ⟨rfl,E⟩;go_wp2_with fail;go_meet;exact ⟨by rw [N.out],HW.out.call E,H.trans (E.mono H.size)⟩
   · have N:Hid (L=false):=hZ9 (by rw [i.out,aC h0,cG]);have h00:((l:Int)==0)=false:=by simp;omega
     clear i;go_wp2_with fail;go_meet;exact ⟨by rw [N.out],HW.out,H⟩
  case rest=>
   obtain ⟨rfl,hw,hb⟩:=hcut;clear H i HW q0 q1 q2 q3 q4 q5 q6 k;obtain ⟨q0,q1,q2,q3,q4,q5,q6⟩:=hw.seven;by_cases A6:kd=0
   · subst A6;rcases FiS.emp c with rfl | ⟨x1,x2,x3,x4⟩
     · rcases FiS.emp g with rfl | ⟨y1,y2,y3,y4⟩
       · cases P
         · have HR:Hid (R=true):=hZ9 (by rw [<-a.out];simp [FiS.Ap]);clear a;go_wp2_with fail;go_ret;exact ⟨by (rw [HR.out]) <;> rfl,hb⟩
         · have HR:Hid (R=false):=hZ9 (by rw [<-a.out];simp [FiS.Ap]);clear a;go_wp2_with fail;go_ret;exact ⟨by (rw [HR.out]) <;> rfl,hb⟩
       · have HR:Hid (R=false):=hZ9 (by rw [<-a.out];simp [FiS.Ap,y1]);clear a;go_wp2_with fail;go_ret;exact ⟨by (rw [HR.out]) <;> rfl,hb⟩
     · have HR:Hid (R=false):=hZ9 (by rw [<-a.out];simp [FiS.Ap,x1]);clear a;go_wp2_with fail;go_ret;exact ⟨by (rw [HR.out]) <;> rfl,hb⟩
   by_cases A7:kd=1
   · subst A7;rcases FiS.emp c with rfl | ⟨x1,x2,x3,x4⟩
     · rcases FiS.emp g with rfl | ⟨y1,y2,y3,y4⟩
       · cases P
         · have HR:Hid (R=true):=hZ9 (by rw [<-a.out];simp [FiS.Ap]);clear a;go_wp2_with fail;go_ret;exact ⟨by (rw [HR.out]) <;> rfl,hb⟩
         · have HR:Hid (R=false):=hZ9 (by rw [<-a.out];simp [FiS.Ap]);clear a;go_wp2_with fail;go_ret;exact ⟨by (rw [HR.out]) <;> rfl,hb⟩
       · have HR:Hid (R=false):=hZ9 (by rw [<-a.out];simp [FiS.Ap,y1]);clear a;go_wp2_with fail;go_ret;exact ⟨by (rw [HR.out]) <;> rfl,hb⟩
     · have HR:Hid (R=false):=hZ9 (by rw [<-a.out];simp [FiS.Ap,x1]);clear a;go_wp2_with fail;go_ret;exact ⟨by (rw [HR.out]) <;> rfl,hb⟩
   by_cases U:kd=2
   · subst U;rcases FiS.emp c with rfl | ⟨x1,x2,x3,x4⟩
     · rcases FiS.emp g with rfl | ⟨y1,y2,y3,y4⟩
       · cases P
         · have HR:Hid (R=O):=hZ9 (by rw [<-a.out];simp [FiS.Ap]);clear a;go_wp2_with fail;go_ret;exact ⟨by (rw [HR.out]) <;> rfl,hb⟩
         · have HR:Hid (R=false):=hZ9 (by rw [<-a.out];simp [FiS.Ap]);clear a;go_wp2_with fail;go_ret;exact ⟨by (rw [HR.out]) <;> rfl,hb⟩
       · have HR:Hid (R=false):=hZ9 (by rw [<-a.out];simp [FiS.Ap,y1]);clear a;go_wp2_with fail;go_ret;exact ⟨by (rw [HR.out]) <;> rfl,hb⟩
     · have HR:Hid (R=false):=hZ9 (by rw [<-a.out];simp [FiS.Ap,x1]);clear a;go_wp2_with fail;go_ret;exact ⟨by (rw [HR.out]) <;> rfl,hb⟩
   by_cases A5:kd=3
   · subst A5;have hc:=d wc;cases L with
     | true=>
      cases FT with
      | true=>have HR:Hid (R=!P):=hZ9 (by rw [<-a.out];simp [FiS.Ap]);clear a;go_wp2_with fail;refine hc.mono ?_;rintro e w2 ⟨rfl,rfl⟩;go_wp2_with fail;go_ret;exact ⟨by (rw [HR.out]) <;> rfl,hb⟩
      | false=>have HR:Hid (R=false):=hZ9 (by rw [<-a.out];simp [FiS.Ap]);clear a;go_wp2_with fail;refine hc.mono ?_;rintro e w2 ⟨rfl,rfl⟩;go_wp2_with fail;go_ret;exact ⟨by (rw [HR.out]) <;> rfl,hb⟩
     | false=>have HR:Hid (R=false):=hZ9 (by rw [<-a.out];simp [FiS.Ap]);clear a;go_wp2_with fail;go_ret;exact ⟨by (rw [HR.out]) <;> rfl,hb⟩
   by_cases A3:kd=5
   · subst A3;have hc:=d wc;cases L with
     | true=>
      cases FT with
      | true=>have HR:Hid (R=!P):=hZ9 (by rw [<-a.out];simp [FiS.Ap]);clear a;go_wp2_with fail;refine hc.mono ?_;rintro e w2 ⟨rfl,rfl⟩;go_wp2_with fail;go_ret;exact ⟨by (rw [HR.out]) <;> rfl,hb⟩
      | false=>have HR:Hid (R=false):=hZ9 (by rw [<-a.out];simp [FiS.Ap]);clear a;go_wp2_with fail;refine hc.mono ?_;rintro e w2 ⟨rfl,rfl⟩;go_wp2_with fail;go_ret;exact ⟨by (rw [HR.out]) <;> rfl,hb⟩
     | false=>have HR:Hid (R=false):=hZ9 (by rw [<-a.out];simp [FiS.Ap]);clear a;go_wp2_with fail;go_ret;exact ⟨by (rw [HR.out]) <;> rfl,hb⟩
   by_cases A0:kd=6
   · subst A0;have hc:=d wc;cases L with
     | true=>
      cases FT with
      | true=>have HR:Hid (R=!P):=hZ9 (by rw [<-a.out];simp [FiS.Ap]);clear a;go_wp2_with fail;refine hc.mono ?_;rintro e w2 ⟨rfl,rfl⟩;go_wp2_with fail;go_ret;exact ⟨by (rw [HR.out]) <;> rfl,hb⟩
      | false=>have HR:Hid (R=false):=hZ9 (by rw [<-a.out];simp [FiS.Ap]);clear a;go_wp2_with fail;refine hc.mono ?_;rintro e w2 ⟨rfl,rfl⟩;go_wp2_with fail;go_ret;exact ⟨by (rw [HR.out]) <;> rfl,hb⟩
     | false=>have HR:Hid (R=false):=hZ9 (by rw [<-a.out];simp [FiS.Ap]);clear a;go_wp2_with fail;go_ret;exact ⟨by (rw [HR.out]) <;> rfl,hb⟩
   by_cases Z:kd=8
   · subst Z;have hc:=d wc;cases L with
     | true=>
      cases FT with
      | true=>have HR:Hid (R=!P):=hZ9 (by rw [<-a.out];simp [FiS.Ap]);clear a;go_wp2_with fail;refine hc.mono ?_;rintro e w2 ⟨rfl,rfl⟩;go_wp2_with fail;go_ret;exact ⟨by (rw [HR.out]) <;> rfl,hb⟩
      | false=>have HR:Hid (R=false):=hZ9 (by rw [<-a.out];simp [FiS.Ap]);clear a;go_wp2_with fail;refine hc.mono ?_;rintro e w2 ⟨rfl,rfl⟩;go_wp2_with fail;go_ret;exact ⟨by (rw [HR.out]) <;> rfl,hb⟩
     | false=>have HR:Hid (R=false):=hZ9 (by rw [<-a.out];simp [FiS.Ap]);clear a;go_wp2_with fail;go_ret;exact ⟨by (rw [HR.out]) <;> rfl,hb⟩
   by_cases K:kd=7
   · subst K;cases L with
     | true=>
      rcases FiS.emp g with rfl | ⟨y1,y2,y3,y4⟩
      · have HR:Hid (R=!P):=hZ9 (by rw [<-a.out];simp [FiS.Ap]);clear a;go_wp2_with fail;go_ret;exact ⟨by (rw [HR.out]) <;> rfl,hb⟩
      · have HR:Hid (R=false):=hZ9 (by rw [<-a.out];simp [FiS.Ap,y1]);clear a;go_wp2_with fail;go_ret;exact ⟨by (rw [HR.out]) <;> rfl,hb⟩
     | false=>have HR:Hid (R=false):=hZ9 (by rw [<-a.out];simp [FiS.Ap]);clear a;go_wp2_with fail;go_ret;exact ⟨by (rw [HR.out]) <;> rfl,hb⟩
   by_cases X:kd=4
   · subst X;have hc:=y wc hb;cases L with
     | true=>
      rcases FiS.emp g with rfl | ⟨y1,y2,y3,y4⟩
      · cases P with
        | false=>have HR:Hid (R=false):=hZ9 (by rw [<-a.out];simp [FiS.Ap]);clear a;go_wp2_with fail;go_ret;exact ⟨by (rw [HR.out]) <;> rfl,hb⟩
        | true=>
         cases F2 with
         | false=>have HR:Hid (R=false):=hZ9 (by rw [<-a.out];simp [FiS.Ap]);clear a;go_wp2_with fail;go_ret;exact ⟨by (rw [HR.out]) <;> rfl,hb⟩
         | true=>
          cases L2 with
          | false=>have HR:Hid (R=false):=hZ9 (by rw [<-a.out];simp [FiS.Ap]);clear a;go_wp2_with fail;go_ret;exact ⟨by (rw [HR.out]) <;> rfl,hb⟩
          | true=>have HR:Hid (R=AA):=hZ9 (by rw [<-a.out];simp [FiS.Ap]);clear a;go_wp2_with fail;refine hc.mono ?_;rintro e w2 ⟨rfl,E⟩;go_wp2_with fail;go_ret;exact ⟨by rw [HR.out];(try rw [Bool.not_not]) <;> rfl,hb.trans (E.mono hb.size)⟩
      · have HR:Hid (R=false):=hZ9 (by rw [<-a.out];simp [FiS.Ap,y1]);clear a;go_wp2_with fail;go_ret;exact ⟨by (rw [HR.out]) <;> rfl,hb⟩
     | false=>have HR:Hid (R=false):=hZ9 (by rw [<-a.out];simp [FiS.Ap]);clear a;go_wp2_with fail;go_ret;exact ⟨by (rw [HR.out]) <;> rfl,hb⟩
   have HR:Hid (R=false):=hZ9 (by rw [<-a.out];unfold FiS.Ap;rw [aG (by omega),aG U,aG (by omega),aG K,aG X]);clear a;have k0:(kd==0)=false:=by simpa using A6
   have k1:(kd==1)=false:=by simpa using A7
   have k2:(kd==2)=false:=by simpa using U
   have k3:(kd==3)=false:=by simpa using A5
   have k4:(kd==4)=false:=by simpa using X
   have k5:(kd==5)=false:=by simpa using A3
   have k6:(kd==6)=false:=by simpa using A0
   have k7:(kd==7)=false:=by simpa using K
   have k8:(kd==8)=false:=by simpa using Z
   go_wp2_with fail;go_ret;exact ⟨by (rw [HR.out]) <;> rfl,hb⟩
theorem AfA (n:Nat) (x:Fi) (v:Value) (w:World) (h:Dh n w v x) (Q:x.any.length<=1048576):Calls prog 105 #[v] w (BB (FiS.Hj x) w):=by
 unfold BB;obtain ⟨kd,d,q,l,ls,y,ps⟩:=x;obtain ⟨a5,c5,u,t,hv,B,J,N⟩:=FiV.parts h;have hv:v=.agg #[.int .i64 kd,.string ⟨d.toArray⟩,.string ⟨q.toArray⟩,.string ⟨l.toArray⟩,.string ⟨ls.toArray⟩,.slice a5 y.length c5,.slice u ps.length t]:=hv;subst hv;have B:Ah w (.slice a5 y.length c5) y:=B;have J:ps.length<=t:=J;have N:BC n (fun _=>True) w (.slice u ps.length t) ps:=N;have Q:y.length<=1048576:=Q;have hN:FiS.Hj (.mk kd d q l ls y ps)=FiS.Ny kd d q l ls y ps.length:=rfl;rw [hN];clear hN;obtain ⟨r,I⟩:∃m,y.length=m:=⟨_,rfl⟩
 obtain ⟨k,M⟩:∃m,ps.length=m:=⟨_,rfl⟩
 have A0:=hZ9 I;have C6:=hZ9 M;rw [I] at B;rw [M] at J N
 try rw [I]
 try rw [M]
 rw [FiS.XP];have A6:=Af w (.cells #[.int .i64 kd,.string ⟨d.toArray⟩,.string ⟨q.toArray⟩,.string ⟨l.toArray⟩,.string ⟨ls.toArray⟩,.slice a5 r c5,.slice u k t] 26);have V:=Whole.made w 26 #[.int .i64 kd,.string ⟨d.toArray⟩,.string ⟨q.toArray⟩,.string ⟨l.toArray⟩,.string ⟨ls.toArray⟩,.slice a5 r c5,.slice u k t];have f:=fun w=>Aa7 d w;have z:=fun w=>RA q w;have A:Hid (FiS.Gn l ls y=(!l.isEmpty||!ls.isEmpty||decide (0<r))):=hZ9 (by rw [<-A0.out];rfl);have E:Hid (FiS.JE d k=(decide (k=0)&&FiS.Gu d)):=hZ9 rfl;obtain ⟨P,hP⟩:∃b,FiS.Gn l ls y=b:=⟨_,rfl⟩
 obtain ⟨L,hL⟩:∃b,FiS.JE d k=b:=⟨_,rfl⟩
 obtain ⟨AT,A9⟩:∃b,FiS.Gu d=b:=⟨_,rfl⟩
 obtain ⟨FT,B5⟩:∃b,FiS.BN q=b:=⟨_,rfl⟩
 obtain ⟨AA,F⟩:∃b,y.all FiS.BN=b:=⟨_,rfl⟩
 rw [hP] at A⊢;rw [hL] at E⊢;rw [A9] at E f;rw [B5] at z⊢;rw [F];have B3:=hZ9 F;clear hP hL A9 B5 F;have C:∀s:List UInt8,decide ((s.length:Int)<=200)=decide (s.length<=200):=fun s=>bO.2 (by omega);obtain ⟨F2,S⟩:∃b,decide (l.length<=200)=b:=⟨_,rfl⟩
 obtain ⟨L2,A1⟩:∃b,decide (ls.length<=200)=b:=⟨_,rfl⟩
 have B7:decide ((l.length:Int)<=200)=F2:=(C l).trans S;have C3:decide ((ls.length:Int)<=200)=L2:=(C ls).trans A1;rw [S,A1];clear S A1 C;obtain ⟨O,hO⟩:∃b,decide (k=1)=b:=⟨_,rfl⟩
 have C2:((k:Int)==1)=O:=by rw [<-hO];by_cases h:k=1 <;> simp [h] <;> omega
 rw [hO];clear hO;obtain ⟨q0,q1,q2,q3,q4,q5,q6⟩:=V.seven;obtain ⟨R,X⟩:∃b,FiS.Ap kd d.isEmpty q.isEmpty P L FT F2 L2 AA O=b:=⟨_,rfl⟩
 rw [X];have a:=hZ9 X;clear X h N I M J;have HW:=hZ9 V;clear V;go_enter func105,ntmps105;go_upto_region 1 with fail;go_cut [3] (fun b wd=>b=.bool P/\wd=(w.alloc (.cells #[.int .i64 kd,.string ⟨d.toArray⟩,.string ⟨q.toArray⟩,.string ⟨l.toArray⟩,.string ⟨ls.toArray⟩,.slice a5 r c5,.slice u k t] 26)))
 case first=>
  clear f z B7 C3 C2;rcases FiS.emp l with rfl | ⟨f1,f2,f3,f4⟩
  · rcases FiS.emp ls with rfl | ⟨l1,l2,l3,l4⟩
    · have G:Hid (P=decide ((0:Int)<(r:Int))):=hZ9 (by rw [A.out];show (false||false||decide (0<r))=_;simp);clear A;go_wp2_with fail;go_meet;exact ⟨by rw [G.out];first | rfl | simp,rfl⟩
    · have G:Hid (P=true):=hZ9 (by rw [A.out,l1];simp);clear A;go_wp2_with fail;go_meet;exact ⟨by rw [G.out],rfl⟩
  · have G:Hid (P=true):=hZ9 (by rw [A.out,f1];simp);clear A;go_wp2_with fail;go_meet;exact ⟨by rw [G.out],rfl⟩
 case rest=>
  obtain ⟨rfl,rfl⟩:=hcut;have B6:=A6;clear A A6;have hb:=B6;clear B6;by_cases B2:kd=0
  · subst B2;rcases FiS.emp d with rfl | ⟨x1,x2,x3,x4⟩
    · rcases FiS.emp q with rfl | ⟨y1,y2,y3,y4⟩
      · cases P
        · have HR:Hid (R=true):=hZ9 (by rw [<-a.out];simp [FiS.Ap]);clear a;go_wp2_with fail;go_ret;exact ⟨by (rw [HR.out]) <;> rfl,hb⟩
        · have HR:Hid (R=false):=hZ9 (by rw [<-a.out];simp [FiS.Ap]);clear a;go_wp2_with fail;go_ret;exact ⟨by (rw [HR.out]) <;> rfl,hb⟩
      · have HR:Hid (R=false):=hZ9 (by rw [<-a.out];simp [FiS.Ap,y1]);clear a;go_wp2_with fail;go_ret;exact ⟨by (rw [HR.out]) <;> rfl,hb⟩
    · have HR:Hid (R=false):=hZ9 (by rw [<-a.out];simp [FiS.Ap,x1]);clear a;go_wp2_with fail;go_ret;exact ⟨by (rw [HR.out]) <;> rfl,hb⟩
  by_cases B4:kd=1
  · subst B4;rcases FiS.emp d with rfl | ⟨x1,x2,x3,x4⟩
    · rcases FiS.emp q with rfl | ⟨y1,y2,y3,y4⟩
      · cases P
        · have HR:Hid (R=true):=hZ9 (by rw [<-a.out];simp [FiS.Ap]);clear a;go_wp2_with fail;go_ret;exact ⟨by (rw [HR.out]) <;> rfl,hb⟩
        · have HR:Hid (R=false):=hZ9 (by rw [<-a.out];simp [FiS.Ap]);clear a;go_wp2_with fail;go_ret;exact ⟨by (rw [HR.out]) <;> rfl,hb⟩
      · have HR:Hid (R=false):=hZ9 (by rw [<-a.out];simp [FiS.Ap,y1]);clear a;go_wp2_with fail;go_ret;exact ⟨by (rw [HR.out]) <;> rfl,hb⟩
    · have HR:Hid (R=false):=hZ9 (by rw [<-a.out];simp [FiS.Ap,x1]);clear a;go_wp2_with fail;go_ret;exact ⟨by (rw [HR.out]) <;> rfl,hb⟩
  by_cases A2:kd=2
  · subst A2;rcases FiS.emp d with rfl | ⟨x1,x2,x3,x4⟩
    · rcases FiS.emp q with rfl | ⟨y1,y2,y3,y4⟩
      · cases P
        · have HR:Hid (R=O):=hZ9 (by rw [<-a.out];simp [FiS.Ap]);clear a;go_wp2_with fail;go_ret;exact ⟨by (rw [HR.out]) <;> rfl,hb⟩
        · have HR:Hid (R=false):=hZ9 (by rw [<-a.out];simp [FiS.Ap]);clear a;go_wp2_with fail;go_ret;exact ⟨by (rw [HR.out]) <;> rfl,hb⟩
      · have HR:Hid (R=false):=hZ9 (by rw [<-a.out];simp [FiS.Ap,y1]);clear a;go_wp2_with fail;go_ret;exact ⟨by (rw [HR.out]) <;> rfl,hb⟩
    · have HR:Hid (R=false):=hZ9 (by rw [<-a.out];simp [FiS.Ap,x1]);clear a;go_wp2_with fail;go_ret;exact ⟨by (rw [HR.out]) <;> rfl,hb⟩
  have A5:((k:Int)==0)=decide (k=0):=by by_cases h:k=0 <;> simp [h] <;> omega
  obtain ⟨Z,hZ⟩:∃b,decide (k=0)=b:=⟨_,rfl⟩
  rw [hZ] at A5 E;have HL:=E.out;subst HL;clear hZ E;by_cases B1:kd=3
  · subst B1;have hc:=z (w.alloc (.cells #[.int .i64 3,.string ⟨d.toArray⟩,.string ⟨q.toArray⟩,.string ⟨l.toArray⟩,.string ⟨ls.toArray⟩,.slice a5 r c5,.slice u k t] 26));have c:=f (w.alloc (.cells #[.int .i64 3,.string ⟨d.toArray⟩,.string ⟨q.toArray⟩,.string ⟨l.toArray⟩,.string ⟨ls.toArray⟩,.slice a5 r c5,.slice u k t] 26));cases AT with
    | false=>have HR:Hid (R=false):=hZ9 (by rw [<-a.out];simp [FiS.Ap]);clear a;go_wp2_with fail;refine c.mono ?_;rintro e w2 ⟨rfl,rfl⟩;go_wp2_with fail;go_ret;exact ⟨by (rw [HR.out]) <;> rfl,hb⟩
    | true=>
     cases FT with
     | false=>have HR:Hid (R=false):=hZ9 (by rw [<-a.out];simp [FiS.Ap]);clear a;go_wp2_with fail;refine c.mono ?_;rintro e w2 ⟨rfl,rfl⟩;go_wp2_with fail;refine hc.mono ?_;rintro e w2 ⟨rfl,rfl⟩;go_wp2_with fail;go_ret;exact ⟨by (rw [HR.out]) <;> rfl,hb⟩
     | true=>
      cases P with
      | true=>have HR:Hid (R=false):=hZ9 (by rw [<-a.out];simp [FiS.Ap]);clear a;go_wp2_with fail;refine c.mono ?_;rintro e w2 ⟨rfl,rfl⟩;go_wp2_with fail;refine hc.mono ?_;rintro e w2 ⟨rfl,rfl⟩;go_wp2_with fail;go_ret;exact ⟨by (rw [HR.out]) <;> rfl,hb⟩
      | false=>have HR:Hid (R=Z):=hZ9 (by rw [<-a.out];simp [FiS.Ap]);clear a;go_wp2_with fail;refine c.mono ?_;rintro e w2 ⟨rfl,rfl⟩;go_wp2_with fail;refine hc.mono ?_;rintro e w2 ⟨rfl,rfl⟩;go_wp2_with fail;go_ret;exact ⟨by (rw [HR.out]) <;> rfl,hb⟩
  by_cases B0:kd=5
  · subst B0;have hc:=z (w.alloc (.cells #[.int .i64 5,.string ⟨d.toArray⟩,.string ⟨q.toArray⟩,.string ⟨l.toArray⟩,.string ⟨ls.toArray⟩,.slice a5 r c5,.slice u k t] 26));have c:=f (w.alloc (.cells #[.int .i64 5,.string ⟨d.toArray⟩,.string ⟨q.toArray⟩,.string ⟨l.toArray⟩,.string ⟨ls.toArray⟩,.slice a5 r c5,.slice u k t] 26));cases AT with
    | false=>have HR:Hid (R=false):=hZ9 (by rw [<-a.out];simp [FiS.Ap]);clear a;go_wp2_with fail;refine c.mono ?_;rintro e w2 ⟨rfl,rfl⟩;go_wp2_with fail;go_ret;exact ⟨by (rw [HR.out]) <;> rfl,hb⟩
    | true=>
     cases FT with
     | false=>have HR:Hid (R=false):=hZ9 (by rw [<-a.out];simp [FiS.Ap]);clear a;go_wp2_with fail;refine c.mono ?_;rintro e w2 ⟨rfl,rfl⟩;go_wp2_with fail;refine hc.mono ?_;rintro e w2 ⟨rfl,rfl⟩;go_wp2_with fail;go_ret;exact ⟨by (rw [HR.out]) <;> rfl,hb⟩
     | true=>
      cases P with
      | true=>have HR:Hid (R=false):=hZ9 (by rw [<-a.out];simp [FiS.Ap]);clear a;go_wp2_with fail;refine c.mono ?_;rintro e w2 ⟨rfl,rfl⟩;go_wp2_with fail;refine hc.mono ?_;rintro e w2 ⟨rfl,rfl⟩;go_wp2_with fail;go_ret;exact ⟨by (rw [HR.out]) <;> rfl,hb⟩
      | false=>have HR:Hid (R=Z):=hZ9 (by rw [<-a.out];simp [FiS.Ap]);clear a;go_wp2_with fail;refine c.mono ?_;rintro e w2 ⟨rfl,rfl⟩;go_wp2_with fail;refine hc.mono ?_;rintro e w2 ⟨rfl,rfl⟩;go_wp2_with fail;go_ret;exact ⟨by (rw [HR.out]) <;> rfl,hb⟩
  by_cases A8:kd=6
  · subst A8;have hc:=z (w.alloc (.cells #[.int .i64 6,.string ⟨d.toArray⟩,.string ⟨q.toArray⟩,.string ⟨l.toArray⟩,.string ⟨ls.toArray⟩,.slice a5 r c5,.slice u k t] 26));have c:=f (w.alloc (.cells #[.int .i64 6,.string ⟨d.toArray⟩,.string ⟨q.toArray⟩,.string ⟨l.toArray⟩,.string ⟨ls.toArray⟩,.slice a5 r c5,.slice u k t] 26));cases AT with
    | false=>have HR:Hid (R=false):=hZ9 (by rw [<-a.out];simp [FiS.Ap]);clear a;go_wp2_with fail;refine c.mono ?_;rintro e w2 ⟨rfl,rfl⟩;go_wp2_with fail;go_ret;exact ⟨by (rw [HR.out]) <;> rfl,hb⟩
    | true=>
     cases FT with
     | false=>have HR:Hid (R=false):=hZ9 (by rw [<-a.out];simp [FiS.Ap]);clear a;go_wp2_with fail;refine c.mono ?_;rintro e w2 ⟨rfl,rfl⟩;go_wp2_with fail;refine hc.mono ?_;rintro e w2 ⟨rfl,rfl⟩;go_wp2_with fail;go_ret;exact ⟨by (rw [HR.out]) <;> rfl,hb⟩
     | true=>
      cases P with
      | true=>have HR:Hid (R=false):=hZ9 (by rw [<-a.out];simp [FiS.Ap]);clear a;go_wp2_with fail;refine c.mono ?_;rintro e w2 ⟨rfl,rfl⟩;go_wp2_with fail;refine hc.mono ?_;rintro e w2 ⟨rfl,rfl⟩;go_wp2_with fail;go_ret;exact ⟨by (rw [HR.out]) <;> rfl,hb⟩
      | false=>have HR:Hid (R=Z):=hZ9 (by rw [<-a.out];simp [FiS.Ap]);clear a;go_wp2_with fail;refine c.mono ?_;rintro e w2 ⟨rfl,rfl⟩;go_wp2_with fail;refine hc.mono ?_;rintro e w2 ⟨rfl,rfl⟩;go_wp2_with fail;go_ret;exact ⟨by (rw [HR.out]) <;> rfl,hb⟩
  by_cases A7:kd=8
  · subst A7;have hc:=z (w.alloc (.cells #[.int .i64 8,.string ⟨d.toArray⟩,.string ⟨q.toArray⟩,.string ⟨l.toArray⟩,.string ⟨ls.toArray⟩,.slice a5 r c5,.slice u k t] 26));have c:=f (w.alloc (.cells #[.int .i64 8,.string ⟨d.toArray⟩,.string ⟨q.toArray⟩,.string ⟨l.toArray⟩,.string ⟨ls.toArray⟩,.slice a5 r c5,.slice u k t] 26));cases AT with
    | false=>have HR:Hid (R=false):=hZ9 (by rw [<-a.out];simp [FiS.Ap]);clear a;go_wp2_with fail;refine c.mono ?_;rintro e w2 ⟨rfl,rfl⟩;go_wp2_with fail;go_ret;exact ⟨by (rw [HR.out]) <;> rfl,hb⟩
    | true=>
     cases FT with
     | false=>have HR:Hid (R=false):=hZ9 (by rw [<-a.out];simp [FiS.Ap]);clear a;go_wp2_with fail;refine c.mono ?_;rintro e w2 ⟨rfl,rfl⟩;go_wp2_with fail;refine hc.mono ?_;rintro e w2 ⟨rfl,rfl⟩;go_wp2_with fail;go_ret;exact ⟨by (rw [HR.out]) <;> rfl,hb⟩
     | true=>
      cases P with
      | true=>have HR:Hid (R=false):=hZ9 (by rw [<-a.out];simp [FiS.Ap]);clear a;go_wp2_with fail;refine c.mono ?_;rintro e w2 ⟨rfl,rfl⟩;go_wp2_with fail;refine hc.mono ?_;rintro e w2 ⟨rfl,rfl⟩;go_wp2_with fail;go_ret;exact ⟨by (rw [HR.out]) <;> rfl,hb⟩
      | false=>have HR:Hid (R=Z):=hZ9 (by rw [<-a.out];simp [FiS.Ap]);clear a;go_wp2_with fail;refine c.mono ?_;rintro e w2 ⟨rfl,rfl⟩;go_wp2_with fail;refine hc.mono ?_;rintro e w2 ⟨rfl,rfl⟩;go_wp2_with fail;go_ret;exact ⟨by (rw [HR.out]) <;> rfl,hb⟩
  by_cases T:kd=7
  · subst T;cases AT with
    | false=>have c:=f (w.alloc (.cells #[.int .i64 7,.string ⟨d.toArray⟩,.string ⟨q.toArray⟩,.string ⟨l.toArray⟩,.string ⟨ls.toArray⟩,.slice a5 r c5,.slice u k t] 26));have HR:Hid (R=false):=hZ9 (by rw [<-a.out];simp [FiS.Ap]);clear a;go_wp2_with fail;refine c.mono ?_;rintro e w2 ⟨rfl,rfl⟩;go_wp2_with fail;go_ret;exact ⟨by (rw [HR.out]) <;> rfl,hb⟩
    | true=>
     rcases FiS.emp q with rfl | ⟨y1,y2,y3,y4⟩
     · cases P with
       | true=>have c:=f (w.alloc (.cells #[.int .i64 7,.string ⟨d.toArray⟩,.string ⟨([]:List UInt8).toArray⟩,.string ⟨l.toArray⟩,.string ⟨ls.toArray⟩,.slice a5 r c5,.slice u k t] 26));have HR:Hid (R=false):=hZ9 (by rw [<-a.out];simp [FiS.Ap]);clear a;go_wp2_with fail;refine c.mono ?_;rintro e w2 ⟨rfl,rfl⟩;go_wp2_with fail;go_ret;exact ⟨by (rw [HR.out]) <;> rfl,hb⟩
       | false=>have c:=f (w.alloc (.cells #[.int .i64 7,.string ⟨d.toArray⟩,.string ⟨([]:List UInt8).toArray⟩,.string ⟨l.toArray⟩,.string ⟨ls.toArray⟩,.slice a5 r c5,.slice u k t] 26));have HR:Hid (R=Z):=hZ9 (by rw [<-a.out];simp [FiS.Ap]);clear a;go_wp2_with fail;refine c.mono ?_;rintro e w2 ⟨rfl,rfl⟩;go_wp2_with fail;go_ret;exact ⟨by (rw [HR.out]) <;> rfl,hb⟩
     · have c:=f (w.alloc (.cells #[.int .i64 7,.string ⟨d.toArray⟩,.string ⟨q.toArray⟩,.string ⟨l.toArray⟩,.string ⟨ls.toArray⟩,.slice a5 r c5,.slice u k t] 26));have HR:Hid (R=false):=hZ9 (by rw [<-a.out];simp [FiS.Ap,y1]);clear a;go_wp2_with fail;refine c.mono ?_;rintro e w2 ⟨rfl,rfl⟩;go_wp2_with fail;go_ret;exact ⟨by (rw [HR.out]) <;> rfl,hb⟩
  by_cases A4:kd=4
  · subst A4;have U:=hZ9 (fun j (hj:j<y.length)=>FiS.AcS (p:=FiS.BN) hj);have Y:=hZ9 (fun j (hj:j<y.length) (h:FiS.BN y[j]=false)=>FiS.all_not (p:=FiS.BN) hj h);obtain ⟨a',c',e,B9,W⟩:=Ad.at (B.strsP (fun _=>True) (fun _ _=>trivial));injection e with e1 e2 e3;rw [<-e1] at W;have A3:=hZ9 W;have B8:=fun s w=>RA s w;clear W B e1 e2 e3 B9;go_wp2_with fail;go_loopw [104] (fun i wr=>∃j:Nat,j<=r/\i=.int .i64 j/\Hid ((y.take j).all FiS.BN=true)/\(w.alloc (.cells #[.int .i64 4,.string ⟨d.toArray⟩,.string ⟨q.toArray⟩,.string ⟨l.toArray⟩,.string ⟨ls.toArray⟩,.slice a5 r c5,.slice u k t] 26))=wr) (fun i _=>r - (intOf i).toNat)
    case atStart=>exact ⟨0,aR _,rfl,hZ9 rfl,rfl⟩
    case round=>
     obtain ⟨j,hj,rfl,HA,rfl⟩:=hrel;by_cases C0:j<r
     · have H:j<y.length:=by rw [A0.out];exact C0
       have HT:=hZ9 (U.out j H);have HN:=hZ9 (Y.out j H);obtain ⟨g,o,C4,hg,_,hra⟩:=A3.out j H;have C1:((w.alloc (.cells #[.int .i64 4,.string ⟨d.toArray⟩,.string ⟨q.toArray⟩,.string ⟨l.toArray⟩,.string ⟨ls.toArray⟩,.slice a5 r c5,.slice u k t] 26))).cell? ⟨g,o+j,none⟩=some (Ac y[j]):=by have:w.cell? ⟨g,o+j*1,none⟩=some (Ac y[j]):=hra;rw [cK] at this;exact Ab this hb
       clear hra;clear U Y A3;generalize y[j]=s at*;unfold Ac at C1;have K:=B8 s (w.alloc (.cells #[.int .i64 4,.string ⟨d.toArray⟩,.string ⟨q.toArray⟩,.string ⟨l.toArray⟩,.string ⟨ls.toArray⟩,.slice a5 r c5,.slice u k t] 26));subst C4;have C8:(0:Int)<=(j:Int):=by omega
       have C7:(j:Int)<(r:Int):=by omega
       cases hq:FiS.BN s with
       | true=>
        have C5:Hid ((y.take (j+1)).all FiS.BN=true):=hZ9 (by rw [HT.out,HA.out,hq];rfl);rw [hq] at K;clear hq HT HN HA;go_wp2_with fail;refine K.mono ?_;rintro e w2 ⟨rfl,rfl⟩;go_wp2_with fail;go_roundw
        case rel=>exact ⟨j+1,by omega,by go_num,C5,by first | rfl | trivial⟩
        case measure=>simp [intOf];omega
       | false=>have HR:Hid (R=false):=hZ9 (by rw [<-a.out,<-B3.out,HN.out hq];simp [FiS.Ap]);rw [hq] at K;clear hq HT HN HA a;go_wp2_with fail;refine K.mono ?_;rintro e w2 ⟨rfl,rfl⟩;go_wp2_with fail;go_ret;exact ⟨by (rw [HR.out]) <;> rfl,hb⟩
     · have hA:y.all FiS.BN=true:=by have:=HA.out;rwa [ag (by rw [A0.out];omega)] at this
       have F:AA=true:=by rw [<-B3.out];exact hA
       subst F;have c:=f (w.alloc (.cells #[.int .i64 4,.string ⟨d.toArray⟩,.string ⟨q.toArray⟩,.string ⟨l.toArray⟩,.string ⟨ls.toArray⟩,.slice a5 r c5,.slice u k t] 26));clear HA hA U Y A3;cases AT with
       | false=>have HR:Hid (R=false):=hZ9 (by rw [<-a.out];simp [FiS.Ap]);clear a;go_wp2_with fail;refine c.mono ?_;rintro e w2 ⟨rfl,rfl⟩;go_wp2_with fail;go_ret;exact ⟨by (rw [HR.out]) <;> rfl,hb⟩
       | true=>
        rcases FiS.emp q with rfl | ⟨y1,y2,y3,y4⟩
        · cases P with
          | false=>have HR:Hid (R=false):=hZ9 (by rw [<-a.out];simp [FiS.Ap]);clear a;go_wp2_with fail;refine c.mono ?_;rintro e w2 ⟨rfl,rfl⟩;go_wp2_with fail;go_ret;exact ⟨by (rw [HR.out]) <;> rfl,hb⟩
          | true=>
           cases Z with
           | false=>have HR:Hid (R=false):=hZ9 (by rw [<-a.out];simp [FiS.Ap]);clear a;go_wp2_with fail;refine c.mono ?_;rintro e w2 ⟨rfl,rfl⟩;go_wp2_with fail;go_ret;exact ⟨by (rw [HR.out]) <;> rfl,hb⟩
           | true=>
            cases F2 with
            | false=>have HR:Hid (R=false):=hZ9 (by rw [<-a.out];simp [FiS.Ap]);clear a;go_wp2_with fail;refine c.mono ?_;rintro e w2 ⟨rfl,rfl⟩;go_wp2_with fail;go_ret;exact ⟨by (rw [HR.out]) <;> rfl,hb⟩
            | true=>have HR:Hid (R=L2):=hZ9 (by rw [<-a.out];simp [FiS.Ap]);clear a;go_wp2_with fail;refine c.mono ?_;rintro e w2 ⟨rfl,rfl⟩;go_wp2_with fail;go_ret;exact ⟨by (rw [HR.out]) <;> rfl,hb⟩
        · have HR:Hid (R=false):=hZ9 (by rw [<-a.out];simp [FiS.Ap,y1]);clear a;go_wp2_with fail;refine c.mono ?_;rintro e w2 ⟨rfl,rfl⟩;go_wp2_with fail;go_ret;exact ⟨by (rw [HR.out]) <;> rfl,hb⟩
  have HR:Hid (R=false):=hZ9 (by rw [<-a.out];unfold FiS.Ap;rw [aG (by omega),aG A2,aG (by omega),aG T,aG A4]);clear a;have k0:(kd==0)=false:=by simpa using B2
  have k1:(kd==1)=false:=by simpa using B4
  have k2:(kd==2)=false:=by simpa using A2
  have k3:(kd==3)=false:=by simpa using B1
  have k4:(kd==4)=false:=by simpa using A4
  have k5:(kd==5)=false:=by simpa using B0
  have k6:(kd==6)=false:=by simpa using A8
  have k7:(kd==7)=false:=by simpa using T
  have k8:(kd==8)=false:=by simpa using A7
  go_wp2_with fail;go_ret;exact ⟨by (rw [HR.out]) <;> rfl,hb⟩
end Go.Proofs.YtgngjfjaelgaeaaGreatDoor
