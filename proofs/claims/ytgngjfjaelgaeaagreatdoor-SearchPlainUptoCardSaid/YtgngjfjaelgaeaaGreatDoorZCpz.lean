/- The walks of an entry's values, of what is alike one of them, and of aliases: the program's. Conditions: as stated. -/
import Derived.Test.YtgngjfjaelgaeaaGreatDoorZDnj
set_option maxRecDepth 100000
set_option maxHeartbeats 2000000
namespace Go.Proofs.YtgngjfjaelgaeaaGreatDoor
open Go.Proofs.Tryz
variable {xs:List EnS.At} {Ts:List TypeId} {t:iK} {B C g k:Nat} {T:TypeId} {u v:Value} {w w':World}
section
open Go.RowKit
def GZ(xs:List EnS.At):Prop:=xs.length<=1048576/\∀x∈xs,x.vals.length<=1048576/\∀v∈x.vals,v.length<=1000000
theorem Ot:∀{xs:List EnS.At} (t:iK),(∀x∈xs,x.vals.length<=1048576/\∀v∈x.vals,v.length<=1000000)->(EnS.valuesL xs t).length<=1048576/\∀v∈EnS.valuesL xs t,v.length<=1000000
 |[],_,_=>⟨aR _,λv b=>by cases b⟩
 |a :: l,t,h=>by
  unfold EnS.valuesL;split
  ·exact h a (ai ..)
  ·exact Ot t (λx hx=>h x (au _ hx))
theorem Qb(h:GZ xs)(name nm:iK):(EnS.Et ⟨name,xs⟩ nm).length<=1048576/\∀v∈EnS.Et ⟨name,xs⟩ nm,v.length<=1000000:=by
 unfold EnS.Et;split
 ·exact⟨aR _,λv a=>by cases a⟩
 ·exact Ot _ h.2
theorem Xu(hk:k<xs.length)(h:xs[k].typ=t):EnS.valuesL (xs.drop k) t=xs[k].vals:=by rw[av hk];unfold EnS.valuesL;rw[aJ h]
theorem UT(hk:k<xs.length)(h:xs[k].typ≠t):EnS.valuesL (xs.drop k) t=EnS.valuesL (xs.drop (k+1)) t:=by
 rw[av hk];conv=>lhs;unfold EnS.valuesL
 rw[aG h]
theorem Xv(hk:xs.length<=k):EnS.valuesL (xs.drop k) t=[]:=by rw[dI hk];rfl
def Lh(o:Option Nat):Int:=match o with|some i=>(i:Int)|none=>-1
theorem JH{α:Type}{p:α->Bool}:∀{xs:List α} {k:Nat} (hk:k<xs.length),(∀x∈xs.take k,p x=false)->p xs[k]=true->xs.findIdx? p=some k
 |[],k,hk,_,_=>by simp at hk
 |x :: xs,0,_,_,hp=>by rw[eH,aJ (show p x=true from hp)]
 |x :: xs,k+1,hk,h,hp=>by rw[eH,aG (by rw[h x (by simp)];simp),JH (k:=k) (by simpa using hk) (λy a=>h y (by simp[a])) (by simpa using hp)];rfl
theorem Ph{α:Type}{p:α->Bool}{xs:List α}(h:∀x∈xs,p x=false):xs.findIdx? p=none:=by rw[fS];exact h
theorem take_miss{α:Type}{p:α->Bool}{xs:List α}(hk:k<xs.length)(h:∀x∈xs.take k,p x=false)(hp:p xs[k]=false):∀x∈xs.take (k+1),p x=false:=λx hx=>by
 rw[aW hk] at hx;rcases bB.1 hx with hx|hx
 ·exact h x hx
 ·have:=aj.1 hx;subst this;exact hp
theorem Qc(v:Value)(xs:List iK)(w:World)(h:Ah w v xs)(r:xs.length<=1048576):Calls prog 83 #[v] w (Iy w xs):=by
 obtain⟨a,c,rfl,hc,b⟩:=h;cases a with
 |none=>
  have h0:xs=[]:=by
   rcases b with h|⟨g,o,e,_⟩
   ·exact h
   ·cases e
  subst h0;refine(slices_Clone_string_nil _ _ w).mono ?_;rintro e w' ⟨rfl,rfl⟩;exact⟨_,rfl,Own.empty _ _,Below.refl _ _⟩
 |some m=>
  rcases b with rfl|⟨g,o,e,q,hcell⟩
  ·refine(slices_Clone_string_zero m c w).mono ?_;rintro e w' ⟨p,rfl,f,_,hb⟩;exact⟨_,rfl,f,hb⟩
  ·cases e;refine(slices_Clone_string g o xs.length c (xs.map λl=>⟨l.toArray⟩) w (by simp) (by omega) (λj n=>?_)).mono ?_
   ·have d:j<xs.length:=by simpa using n
    rw[hcell j _ (aK d)];unfold Ac;simp[List.getD,d]
   ·rintro e w' ⟨p,rfl,f,_,hb⟩;refine⟨_,rfl,?_,hb⟩;have i:((xs.map λl=>(⟨l.toArray⟩:ByteArray)).take xs.length).map Value.string=xs.map Ac:=by
     rw[af (by simp),ck];rfl
    rw[i] at f;exact f
theorem UU(name:iK)(xs:List EnS.At)(u:Value)(nm:iK)(w:World)(h:BA w u xs)(hf:GZ xs)(A1:nm.length<=1048576):
  Calls prog 90 #[.agg #[name,u],nm] w (Iy w (EnS.Et ⟨name,xs⟩ nm)):=by
 have L:∀w,Calls prog 51 #[nm] w (Ak nm w):=λw=>Gx ⟨nm.toArray⟩ (by show nm.toArray.size<=_;simp;omega) w;unfold Ak at L;have F:Hid (EnS.Et ⟨name,xs⟩ nm=if(RuS.typeOf nm).1=[] then [] else EnS.valuesL xs (RuS.typeOf nm).1):=hZ9 rfl;generalize EnS.Et ⟨name,xs⟩ nm=R at*;generalize RuS.typeOf nm=TT at*;obtain⟨T,sy⟩:=TT;simp only at L F;obtain⟨hl,hv⟩:=hf;obtain⟨a,c,rfl,hc,H⟩:=Ad.at h;have K:=hZ9 H;have Q:=hZ9 (λk (h:k<xs.length)=>(hv xs[k] (aZ h)).1);have l:=Af w (.cells #[name,.slice a xs.length c] 52);have m:=Whole.made w 52 #[name,.slice a xs.length c];clear H h hv;generalize hn:xs.length=n at hc hl l m⊢;have X:=hZ9 hn;clear hn;by_cases y:T=[]
 ·have V:T.isEmpty=true:=by rw[y];rfl
  have A0:(T !=[])=false:=by rw[y];rfl
  have N:(T==[])=true:=by rw[y];rfl
  have HR:Hid (R=[]):=hZ9 (by rw[F.out,aJ y]);clear F y;go_enter func90,ntmps90;go_wp2_with fail;refine(L _).mono ?_;rintro e w1 ⟨rfl,d⟩;have W:=Aa l d;have j:=m.call d;have q0:=j.cell 0;have Y:=j.cell 1;simp only[aO,aH,aP] at q0 Y;clear l d j m;go_wp2_with fail;go_loopw [17] (λi wr=>∃k:Nat,k<=n/\i=.int .i64 k/\Below w.heap.size w wr) (λi _=>n-(intOf i).toNat)
  case atStart=>exact⟨0,aR _,rfl,W⟩
  case round=>
   obtain⟨k,hk,rfl,hb⟩:=hrel;by_cases s:k<n
   ·have b:k<xs.length:=by rw[X.out];exact s
    obtain⟨g,o,rfl,P,_,hra⟩:=K.out k b;obtain⟨c0,a2,p2,c1,z,hu⟩:=BG.parts (BG.call hra P trivial hb);generalize xs[k]=x at*;obtain⟨ty,vals⟩:=x;simp only at c0 c1 z;clear hra b hu;generalize vals.length=n2 at*;have f:=hb.alloc hb.size (.cells #[ty,.slice a2 n2 p2] 56);cases O:(ty==T) with
    |true=>
     go_wp2_with fail;go_roundw
     case rel=>exact⟨k+1,by omega,by go_num,f⟩
     case measure=>simp[intOf];omega
    |false=>
     go_wp2_with fail;go_roundw
     case rel=>exact⟨k+1,by omega,by go_num,f⟩
     case measure=>simp[intOf];omega
   ·have Z:k=n:=by omega
    subst Z;go_wp2_with fail;go_ret;exact⟨_,rfl,by rw[HR.out];exact Own.empty _ _,hb⟩
 ·have V:T.isEmpty=false:=by cases T<;>simp_all
  have A0:(T !=[])=true:=by cases T<;>simp_all
  have N:(T==[])=false:=by cases T<;>simp_all
  have HR:Hid (R=EnS.valuesL (xs.drop 0) T):=hZ9 (by rw[F.out,aG y];rfl);clear F y;go_enter func90,ntmps90;go_wp2_with fail;refine(L _).mono ?_;rintro e w1 ⟨rfl,d⟩;have W:=Aa l d;have j:=m.call d;have q0:=j.cell 0;have Y:=j.cell 1;simp only[aO,aH,aP] at q0 Y;clear l d j m;go_wp2_with fail;go_loopw [17] (λi wr=>∃k:Nat,k<=n/\i=.int .i64 k/\Hid (R=EnS.valuesL (xs.drop k) T)/\Below w.heap.size w wr) (λi _=>n-(intOf i).toNat)
  case atStart=>exact⟨0,aR _,rfl,HR,W⟩
  case round=>
   obtain⟨k,hk,rfl,S,hb⟩:=hrel;clear HR;by_cases s:k<n
   ·have b:k<xs.length:=by rw[X.out];exact s
    obtain⟨g,o,rfl,P,_,hra⟩:=K.out k b;obtain⟨c0,a2,p2,c1,z,hu⟩:=BG.parts (BG.call hra P trivial hb);have r:=hZ9 (λM=>Xu (t:=T) b M);have p:=hZ9 (λM=>UT (t:=T) b M);have I:=Q.out k b;generalize xs[k]=x at*;obtain⟨ty,vals⟩:=x;simp only at c0 c1 z hu r p I;clear hra b;have f:=hb.alloc hb.size (.cells #[ty,.slice a2 vals.length p2] 56);have G:=hu.strs;have q:=G.call (Af wr (.cells #[ty,.slice a2 vals.length p2] 56)) (aA _);clear hu G;cases O:(ty==T) with
    |true=>have A:Hid (R=vals):=hZ9 (by rw[S.out];exact r.out (ag.1 O));have J:=Qc _ vals _ q I;unfold Iy at J;go_wp2_with fail;refine J.mono ?_;rintro e w2 ⟨v2,rfl,E,U⟩;go_wp2_with fail;go_ret;exact⟨_,rfl,by rw[A.out];exact E.mono f.size,f.trans (U.mono f.size)⟩
    |false=>
     have A:Hid (R=EnS.valuesL (xs.drop (k+1)) T):=hZ9 (by rw[S.out];exact p.out (by simpa using O));clear q;generalize vals.length=n2 at*;go_wp2_with fail;go_roundw
     case rel=>exact⟨k+1,by omega,by go_num,A,f⟩
     case measure=>simp[intOf];omega
   ·have A:Hid (R=[]):=hZ9 (by rw[S.out];exact Xv (by rw[X.out];omega));go_wp2_with fail;go_ret;exact⟨_,rfl,by rw[A.out];exact Own.empty _ _,hb⟩
theorem AaY(nm n v:iK)(c d:Nat)(w:World)(hE:Env w)(h1:w.cell? ⟨c,0,none⟩=some (Ac nm))(h2:w.cell? ⟨d,0,none⟩=some (Ac n))(i:nm.length<=1048576)(j:v.length<=1000000):
  Calls prog 158 #[v,.pointer (some ⟨c,0,none⟩),.pointer (some ⟨d,0,none⟩)] w (Ew (EnS.Gm nm n v) w):=by
 have hc:=GW nm v i j w hE;unfold Bo at hc;have HR:Hid (EnS.Gm nm n v=(decide ((DnS.AC nm v).2=0)&&((DnS.AC nm v).1==n))):=hZ9 rfl;generalize EnS.Gm nm n v=R at*;generalize DnS.AC nm v=V at*;obtain⟨m,f⟩:=V;simp only at hc HR;unfold Ac at h1 h2;by_cases b:f=0
 ·subst b;go_enter func158,ntmps158;go_wp2_with fail;refine hc.mono ?_;rintro e w1 ⟨rfl,a⟩;have h3:=Ab h2 a;go_wp2_with fail;go_ret;exact⟨by rw[HR.out];simp,a⟩
 ·have h:(f==0)=false:=by simpa using b
  go_enter func158,ntmps158;go_wp2_with fail;refine hc.mono ?_;rintro e w1 ⟨rfl,a⟩;go_wp2_with fail;go_ret;exact⟨by rw[HR.out,aB b];rfl,a⟩
def GU(o:Option Nat)(w:World)(e:Ending)(w':World):Prop:=e=.returned (.int .i64 (Lh o))/\Below w.heap.size w w'
theorem Ad0(nm n:iK)(v:Value)(xs:List iK)(K A:Nat)(w:World)(hE:Env w)(h1:w.cell? ⟨K,0,none⟩=some (Ac nm))(h2:w.cell? ⟨A,0,none⟩=some (Ac n))(O:nm.length<=1048576)
  (h:Ah w v xs)(P:xs.length<=1048576)(hx:∀x∈xs,x.length<=1000000):
  Calls prog 157 #[v,.func (.func 158) #[] #[.pointer (some ⟨K,0,none⟩),.pointer (some ⟨A,0,none⟩)]] w (GU (xs.findIdx? (EnS.Gm nm n)) w):=by
 obtain⟨a,c,rfl,hc,r⟩:=Ad.at (h.strsP (λ_=>True) (λ_ _=>trivial));have J:=hZ9 r;have HX:=hZ9 (λk (h:k<xs.length)=>hx xs[k] (aZ h));have M:=λx w hE k1 E hx=>AaY nm n x K A w hE k1 E O hx;unfold Ew at M;have f:=hZ9 (λk (hk:k<xs.length)=>JH (p:=EnS.Gm nm n) hk);have j:=hZ9 (Ph (p:=EnS.Gm nm n) (xs:=xs));have s:=hZ9 (λk (hk:k<xs.length)=>take_miss (p:=EnS.Gm nm n) hk);generalize xs.findIdx? (EnS.Gm nm n)=R at*;generalize EnS.Gm nm n=p at*;clear r hx h;generalize z:xs.length=m at hc P⊢;have N:=hZ9 z;clear z;go_enter func157,ntmps157;go_wp2_with fail;go_loopw [8] (λi wr=>∃k:Nat,k<=m/\i=.int .i64 k/\Hid (∀x∈xs.take k,p x=false)/\Below w.heap.size w wr) (λi _=>m-(intOf i).toNat)
 case atStart=>exact⟨0,aR _,rfl,hZ9 (λx hx=>by cases hx),Below.refl _ _⟩
 case round=>
  obtain⟨k,hk,rfl,F,hb⟩:=hrel;by_cases H:k<m
  ·have b:k<xs.length:=by rw[N.out];exact H
   obtain⟨g,o,rfl,Q,_,hra⟩:=J.out k b;have c0:wr.cell? ⟨g,o+k,none⟩=some (Ac xs[k]):=by have:w.cell? ⟨g,o+k*1,none⟩=some (Ac xs[k]):=hra;rw[bp] at this;exact Ab this hb
   have k1:=Ab h1 hb;have E:=Ab h2 hb;have G:=HX.out k b;have I:=hZ9 (f.out k b F.out);have L:=hZ9 (s.out k b F.out);generalize xs[k]=x at*;unfold Ac at c0;have d:=M x wr (hE.below hb) k1 E G;clear hra b f j s;cases q:p x with
   |true=>have HR:=hZ9 (I.out q);rw[q] at d;clear q I L;go_wp2_with fail;refine d.mono ?_;rintro e w1 ⟨rfl,l⟩;go_wp2_with fail;go_ret;exact⟨by rw[HR.out];rfl,hb.trans (l.mono hb.size)⟩
   |false=>
    have HR:=hZ9 (L.out q);rw[q] at d;clear q I L;go_wp2_with fail;refine d.mono ?_;rintro e w1 ⟨rfl,l⟩;go_wp2_with fail;go_roundw
    case rel=>exact⟨k+1,by omega,by go_num,HR,hb.trans (l.mono hb.size)⟩
    case measure=>simp[intOf];omega
  ·have y:Hid (R=none):=hZ9 (j.out (by have:=F.out;rwa [af (by rw[N.out];omega)] at this));go_wp2_with fail;go_ret;exact⟨by rw[y.out];rfl,hb⟩
theorem Agj(nm v:iK)(u:Value)(xs:List iK)(w:World)(hE:Env w)(A:nm.length<=1048576)(L:v.length<=1000000)(h:Ah w u xs)(F:xs.length<=1048576)(hx:∀x∈xs,x.length<=1000000):
  Calls prog 125 #[nm,u,v] w (GU (EnS.LS nm xs v) w):=by
 have G:∀(fn:Fn) (first cap:Array Value) (w:World),(Instr.makeFunc fn first cap).run prog w=.ok (.func fn first cap) w:=λ_ _ _ _=>rfl;have hb0:=Af w (.cells #[nm] 9);have y:=Whole.made w 9 #[nm];have hc:=GW nm v A L _ (hE.below hb0);unfold Bo at hc;have HR:Hid (EnS.LS nm xs v=if(DnS.AC nm v).2=0 then xs.findIdx? (EnS.Gm nm (DnS.AC nm v).1) else none):=hZ9 rfl;generalize EnS.LS nm xs v=R at*;generalize DnS.AC nm v=V at*;obtain⟨n,E⟩:=V;simp only at hc HR;have j:=λw K H hE h1 h2 h=>Ad0 nm n u xs K H w hE h1 h2 A h F hx;unfold GU at j;obtain⟨a,c,rfl⟩:=h.form;generalize M:xs.length=m at F h j⊢;by_cases p:E=0
 ·subst p;rw[aJ rfl] at HR;generalize xs.findIdx? (EnS.Gm nm n)=I at*;go_enter func125,ntmps125;go_wp2_with fail;refine hc.mono ?_;rintro e w1 ⟨rfl,d⟩;have o:=Aa hb0 d;have z:=y.call d;have b:=Af w1 (.cells #[n] 9);have l:=Whole.made w1 9 #[n];have k1:=z.call b;have i:=(hE.below o).below b;have f:=(h.call o (aA _)).call b (aA _);have s:=j _ w.heap.size w1.heap.size i (k1.cell 0) (l.cell 0) f;have r:=Aa o b;clear j b z d i f k1 l o;go_wp2_with fail;refine s.mono ?_;rintro e w2 ⟨rfl,q⟩;go_wp2_with fail;go_ret;exact⟨by rw[HR.out];rfl,Aa r q⟩
 ·have J:(E !=0)=true:=by simpa using p
  rw[aG p] at HR;clear j;go_enter func125,ntmps125;go_wp2_with fail;refine hc.mono ?_;rintro e w1 ⟨rfl,d⟩;go_wp2_with fail;go_ret;exact⟨by rw[HR.out];rfl,Aa (Aa hb0 d) (Af w1 _)⟩
theorem Yu(o:Option Nat):decide (0<=Lh o)=o.isSome:=by
 cases o with
 |none=>rfl
 |some i=>simp[Lh]
theorem AgM(name:iK)(xs:List EnS.At)(u:Value)(nm v:iK)(w:World)(hE:Env w)(h:BA w u xs)(q:GZ xs)(i:nm.length<=1048576)(r:v.length<=1000000):
  Calls prog 91 #[.agg #[name,u],nm,v] w (Ew (EnS.RU ⟨name,xs⟩ nm v) w):=by
 have j:=Af w (.cells #[name,u] 52);have b:=UU name xs u nm _ (h.call j) q i;have d:=Qb q name nm;have HR:Hid (EnS.RU ⟨name,xs⟩ nm v=(EnS.LS nm (EnS.Et ⟨name,xs⟩ nm) v).isSome):=hZ9 (by rw[EnS.Ye];rfl);unfold Iy at b;generalize EnS.RU ⟨name,xs⟩ nm v=R at*;generalize EnS.Et ⟨name,xs⟩ nm=vals at*;have f:=λu2 w hE h=>Agj nm v u2 vals w hE i r h d.1 d.2;unfold GU at f;generalize EnS.LS nm vals v=I at*;have s:=hZ9 (Yu I);generalize Lh I=z at*;obtain⟨a,c,rfl,_⟩:=Ad.form h;generalize xs.length=n at*;go_enter func91,ntmps91;go_wp2_with fail;refine b.mono ?_;rintro e w1 ⟨x,rfl,l,o⟩;have p:=Aa j o;go_wp2_with fail;refine(f _ _ (hE.below p) l.strs).mono ?_;rintro e w2 ⟨rfl,m⟩;go_wp2_with fail;go_ret;exact⟨by rw[HR.out,<-s.out];rfl,Aa p m⟩
theorem Yv(name:iK)(xs:List EnS.At)(u:Value)(w:World)(hE:Env w)(h:BA w u xs)(K:GZ xs):
  Calls prog 57 #[.agg #[name,u]] w (Qj (EnS.Ds ⟨name,xs⟩) w):=by
 have r:=Af w (.cells #[name,u] 52);have A:=Whole.made w 52 #[name,u];have m:=UU name xs u EnS.DL _ (h.call r) K (by decide);have l:=λw hE h=>AgM name xs u EnS.NL EnS.NM w hE h K (by decide) (by decide);have E:=Qb K name EnS.DL;have j:=λv w U hE=>GW EnS.DL v (by decide) U w hE;have HR:Hid (EnS.Ds ⟨name,xs⟩=EnS.WQ (EnS.Et ⟨name,xs⟩ EnS.DL) (EnS.RU ⟨name,xs⟩ EnS.NL EnS.NM)):=hZ9 rfl;unfold Iy at m;unfold Ew at l;unfold Bo at j;generalize EnS.Ds ⟨name,xs⟩=R at*;generalize EnS.RU ⟨name,xs⟩ EnS.NL EnS.NM=b at*;generalize EnS.Et ⟨name,xs⟩ EnS.DL=vals at*;obtain⟨a,c,rfl,_⟩:=Ad.form h;generalize P:xs.length=n at*;unfold EnS.DL at m j;unfold EnS.NL EnS.NM at l;cases vals with
 |nil=>have s:Hid (R=([],false)):=hZ9 HR.out;clear l j;go_enter func57,ntmps57;go_wp2_with fail;refine m.mono ?_;rintro e w1 ⟨N,rfl,d,f⟩;obtain⟨a1,c1,rfl⟩:=d.form;simp only[aS] at d;go_wp2_with fail;go_ret2;exact⟨by rw[s.out];rfl,Aa r f⟩
 |cons v0 vs=>
  have H:=E.2 v0 (ai ..);have hlen:((v0 :: vs).length:Int)≠0:=by rw[aN];omega
  have W:decide (((v0 :: vs).length:Int)=0)=false:=aB hlen;have S:(((v0 :: vs).length:Int)==0)=false:=by simpa using hlen
  have O:(0:Int)<((v0 :: vs).length:Int):=by rw[aN];omega
  cases b with
  |false=>have s:Hid (R=([],false)):=hZ9 HR.out;clear j;go_enter func57,ntmps57;go_wp2_with fail;refine m.mono ?_;rintro e w1 ⟨N,rfl,d,f⟩;obtain⟨a1,c1,rfl⟩:=d.form;have p:=A.call f;have I:=p.cell 0;have G:=p.cell 1;simp only[aO,aH,aP] at I G;have x:=Aa r f;generalize (v0 :: vs).length=L at*;go_wp2_with fail;refine(l _ (hE.below x) (h.call x)).mono ?_;rintro e w2 ⟨rfl,q⟩;go_wp2_with fail;go_ret2;exact⟨by rw[s.out];rfl,Aa x q⟩
  |true=>
   have s:Hid (R=((DnS.AC EnS.DL v0).1,decide ((DnS.AC EnS.DL v0).2=0))):=hZ9 HR.out;have z:=λw hE=>j v0 w H hE;unfold EnS.DL at s;clear j;generalize DnS.AC _ v0=V at*;obtain⟨n0,Z⟩:=V;simp only at z s;go_enter func57,ntmps57;go_wp2_with fail;refine m.mono ?_;rintro e w1 ⟨N,rfl,d,f⟩;have M:=d.strs;obtain⟨a1,c1,rfl,Q,i⟩:=M;rcases i with i|⟨g,o,rfl,X,hcell⟩
   ·cases i
   have F:=hcell 0 v0 rfl;rw[Nat.add_zero] at F;unfold Ac at F;have p:=A.call f;have I:=p.cell 0;have G:=p.cell 1;simp only[aO,aH,aP] at I G;have x:=Aa r f;clear hcell d;generalize (v0 :: vs).length=L at*;go_wp2_with fail;refine(l _ (hE.below x) (h.call x)).mono ?_;rintro e w2 ⟨rfl,q⟩;have y:=Aa x q;have Y:=Ab F q;go_wp2_with fail;refine(z _ (hE.below y)).mono ?_;rintro e w3 ⟨rfl,J⟩;go_wp2_with fail;go_ret2;exact⟨by rw[s.out];rfl,Aa y J⟩
end
section
open Go.RowKit
def Xw:Go.Shelf.Ren:=⟨fun|41=>82|n=>n,fun|22=>50|23=>56|4=>4|n=>n,fun|n=>n⟩
theorem Yw:Go.Proofs.SlLaysE0.n41 prog Xw:={
 mixed:=by kernel_rfl
 f41:=⟨f82.name,by decide,func82.trans (congrArg some (by kernel_rfl))⟩
 t4:=underlying4
 a4:=isAgg4
 z4:=sizeOf4
 v4:=zeroValue4
 t22:=underlying50
 a22:=isAgg50
 z22:=sizeOf50
 v22:=zeroValue50 }
theorem Pi:(prog.info? 56).map (λi=>(i.zero,i.size,i.bytes))=some (some (.agg #[.string ⟨#[]⟩,.slice none 0 0]),2,40):=by kernel_rfl
theorem RZ{α:Type}(L:KLay α):∀(xs:List α) (a:List Value) (j:Nat) (u:Value),(flatK L xs a)[j]?=some u->(∃i x z,j=i*2/\xs[i]?=some x/\a[i]?=some z/\u=Ac (L.key x))\/(∃i x,j=i*2+1/\xs[i]?=some x/\a[i]?=some u)
 |[],_,j,u,h=>by simp[flatK] at h
 |_ :: _,[],j,u,h=>by simp[flatK] at h
 |y :: xs,z :: a,0,u,h=>.inl ⟨0,y,z,rfl,rfl,rfl,by simpa[flatK] using h.symm⟩
 |y :: xs,z :: a,1,u,h=>.inr ⟨0,y,rfl,rfl,by simpa[flatK] using h⟩
 |y :: xs,z :: a,j+2,u,h=>by
  rcases RZ L xs a j u (by simpa[flatK] using h) with⟨i,x,v,e,h1,h2,h3⟩|⟨i,x,e,h1,h2⟩
  ·exact .inl ⟨i+1,x,v,by omega,by simpa using h1,by simpa using h2,h3⟩
  ·exact .inr ⟨i+1,x,by omega,by simpa using h1,by simpa using h2⟩
theorem UV{α:Type}(L:KLay α){ok:Nat->Prop}{xs:List α}{o:Nat}(h:∀(j:Nat) (x:α),xs[j]?=some x->w.cell? ⟨g,o+j*2,none⟩=some (Ac (L.key x))/\∃u,w.cell? ⟨g,o+j*2+1,none⟩=some u/\L.El ok w u x):
  ∃c:List Value,c.length=xs.length/\(∀j u,(flatK L xs c)[j]?=some u->w.cell? ⟨g,o+j,none⟩=some u/\u.oneCell'=true)/\∀(i:Nat) (u:Value) (x:α),c[i]?=some u->xs[i]?=some x->L.El ok w u x:=by
 have H:∀i:Fin xs.length,∃u,w.cell? ⟨g,o+i.1*2+1,none⟩=some u/\L.El ok w u xs[i.1]:=λi=>(h i.1 _ (aK i.2)).2;obtain⟨f,d⟩:=gG H;have b:∀(i:Nat) (x:α) (u:Value),xs[i]?=some x->(List.ofFn f)[i]?=some u->∃a:i<xs.length,u=f ⟨i,a⟩/\x=xs[i]:=λi x u hx hu=>by obtain⟨a,e⟩:=ak.1 hx;refine⟨a,?_,e.symm⟩;rw[gb] at hu;simp[a] at hu;exact hu.symm
 refine⟨List.ofFn f,by simp,λj u l=>?_,λi u x hu hx=>?_⟩
 ·rcases RZ L xs _ j u l with⟨i,x,z,rfl,hx,m,rfl⟩|⟨i,x,rfl,hx,hu⟩
  ·exact⟨(h i x hx).1,rfl⟩
  ·obtain⟨a,rfl,rfl⟩:=b i x u hx hu;have:=d ⟨i,a⟩;exact⟨by rw[<-cQ];exact this.1,L.one this.2⟩
 ·obtain⟨a,rfl,rfl⟩:=b i x u hx hu;exact(d ⟨i,a⟩).2
theorem Iw{α:Type}(L:KLay α):∀(xs:List α) (a:List Value),a.length=xs.length->(flatK L xs a).length=xs.length*2
 |[],[],_=>rfl
 |[],_ :: _,h=>by simp at h
 |_ :: _,[],h=>by simp at h
 |y :: xs,z :: a,h=>by have:=Iw L xs a (by simpa using h);simp[flatK,this];omega
def Agk{α:Type}(L:KLay α)(T:TypeId)(Ts:List TypeId)(C:Nat)(xs:List α)(w:World)(e:Ending)(w':World):Prop:=∃v,e=.returned v/\Ao L T Ts C w' w.heap.size v xs/\Below w.heap.size w w'
theorem UW(a:Addr)(c:Nat)(w:World):Calls prog 82 #[.slice (some a) 0 c] w λe w'=>∃f,e=.returned f/\w'.ownsRow w.heap.size 56 2 f 0 []/\Below w.heap.size w w':=by
 obtain⟨i0,q,l,h,m⟩:=info_parts Pi;have r:∀(w:World) (a:Option Addr) (n c o i:Nat),(binOp .eql 50 (.slice a n c) (.slice none o i)).run prog w=.ok (.bool a.isNone) w:=λw a n c o i=>Lib.run_eql_slice_nil w _ _ a n c o i underlying50;go_enter func82,ntmps82;go_wp2_with (at_builtin;refine wpList_append_own _ rfl _ _ 50 rfl w.heap.size 56 i0 _ 2 40 underlying50 q l h m rfl (by decide) _ _ _ rfl (World.ownsRow_made w #[] 0 (aA _) (aR _) rfl) a 0 c [] rfl rfl (by intro j u p;simp at p) (by intro u hu;simp at hu) (by unfold maxLen;omega) (by omega) (by simp) ?_)
 intro f w1 d b _;go_wp2_with fail;go_ret;exact⟨f,rfl,by simpa using d,((Below.refl _ w).alloc (aA _) _).grown b (by simp) (by intro k hk;simp[Value.ownBlock] at hk;omega)⟩
theorem Am.callT{xs:List iK}(h:Am (okT Ts B w) w u xs)(hb:Below w.heap.size w w'):Am (okT Ts B w') w' u xs:=h.keep hb.size (λg b _=>hb.block g b) (λg b a=>a.same (hb.block g b))
def Eg(Ts:List TypeId)(C:Nat)(w:World)(u:Value)(xs:List EnS.At):Prop:=Ad 2 (BG (okT Ts C w)) (λ_=>True) w u xs
theorem BG.callE{o:Nat}{x:EnS.At}(h:BG (okT Ts C w) w g o x)(a:g<w.heap.size)(hb:Below w.heap.size w w'):BG (okT Ts C w') w' g o x:=by obtain⟨h1,u,h2,h3⟩:=h;exact⟨(hb.cell (p:=⟨g,o,none⟩) a).trans h1,u,(hb.cell (p:=⟨g,o+1,none⟩) a).trans h2,Am.callT h3 hb⟩
theorem Eg.callT(h:Eg Ts C w u xs)(hb:Below w.heap.size w w'):Eg Ts C w' u xs:=
 Ad.imp h hb.size (λ_ _ h=>h) λ_ _ _ a _ hx=>hx.callE a hb
theorem Aw.exp(h:Aw (okT Ts C w) w u xs):Eg Ts C w u xs:=Ad.imp h (aA _) (λ_ _ _=>trivial) λ_ _ _ _ _ hx=>hx
theorem Ao.attrsE(h:Ao atK T Ts C w B v xs):Eg Ts C w v xs:=by
 obtain⟨d,h1,h2,h3⟩:=h;rcases h1.2 with⟨rfl,b⟩|⟨g,cap,cur,rfl,n,f,b,o,hsz,l⟩
 ·exact⟨none,0,by rw[b],by omega,.inl (aY b)⟩
 ·refine⟨some ⟨g,0,none⟩,cap,rfl,b,.inr ⟨g,0,rfl,(ah.1 f).1,trivial,λj x c=>?_⟩⟩;have e:j<d.length:=by rw[h2];exact(ak.1 c).1
  have hu:=aK e;obtain⟨m,f1⟩:=GI atK xs d j x _ c hu;have c0:=World.ownsRow.cells h1 (g:=g) rfl (j*2) _ m;have c1:=World.ownsRow.cells h1 (g:=g) rfl (j*2+1) _ f1;have a:∀i,(⟨g,0,none⟩:Addr).add i=⟨g,0+i,none⟩:=λi=>by unfold Addr.add;split<;>simp_all
  rw[a] at c0 c1;exact⟨c0,d[j],c1,h3 j _ x hu c⟩
theorem AaZ(Ts:List TypeId)(C:Nat)(v:Value)(xs:List EnS.At)(w:World)(h:Eg Ts C w v xs)(H:xs.length<=1048576):Calls prog 82 #[v] w (Agk atK 56 Ts C xs w):=by
 obtain⟨a,c,rfl,hc,b⟩:=h;obtain⟨i0,F,r,z,A⟩:=info_parts Pi;cases a with
 |none=>
  have h0:xs=[]:=by
   rcases b with h|⟨g,o,e,_⟩
   ·exact h
   ·cases e
  subst h0;refine(AnyE.slices_Clone_nil Yw _ _ w).mono ?_;rintro e w' ⟨rfl,rfl⟩;exact⟨_,rfl,Ao.empty _ _ _ _ _ _,Below.refl _ _⟩
 |some E=>
  have q:=λg o cap (l:List Value) (d:l.length=xs.length) f h1=>AnyE.slices_Clone Yw i0 _ 2 40 F r z A (by rfl) (by decide) sizeOf56 g o xs.length cap (flatK atK xs l) w (Iw atK xs l d) (by unfold maxLen;omega) (by omega) f h1;rcases b with rfl|⟨g,o,e,m,_,hcell⟩
  ·refine(UW E c w).mono ?_;rintro e w' ⟨G,rfl,p,hb⟩;exact⟨_,rfl,⟨[],p,rfl,λi u x hu=>by simp at hu⟩,hb⟩
  ·cases e;obtain⟨l,d,f,y⟩:=UV atK hcell;refine(q g o c l d (λj u n=>(f j u n).1) (λu hu=>?_)).mono ?_
   ·obtain⟨j,n,rfl⟩:=bc.1 hu;exact(f j _ (aK n)).2
   ·rintro e w' ⟨G,rfl,p,_,hb⟩;exact⟨_,rfl,⟨l,p,d,λi u x hu hx=>atK.keep (y i u x hu hx) hb.size (λg m _=>hb.block g m) (λg m s=>s.same (hb.block g m))⟩,hb⟩
theorem Ao.other{α:Type}{L:KLay α}{xs:List α}(h:Ao L T Ts C w B v xs){f:TypeId}{cs:Array Value}(b:Whole w g f cs)(p:C<=g)(m:f∉Ts)(l:T≠f)(i:Nat)(y:Value):Ao L T Ts C (w.setCell ⟨g,i,none⟩ y) B v xs:=by
 obtain⟨o,h1,h2,h3⟩:=h;have a:w.grownBy (w.setCell ⟨g,i,none⟩ y) (some g):=⟨rfl,rfl,rfl,by simp[World.setCell],λk _ hk=>Below.heap_setCell w ⟨g,i,none⟩ y k (λe=>hk (by rw[e]))⟩
 have d:v.ownBlock≠some g:=λe=>by obtain⟨c,fz,h⟩:=Lib.ownsRow_kind h1 g e;unfold Whole at b;rw[b] at h;cases h;exact l rfl
 have hblk:∀k,okT Ts C w k->(w.setCell ⟨g,i,none⟩ y).heap[k]?=w.heap[k]?:=λk hk=>by
  refine Below.heap_setCell w ⟨g,i,none⟩ y k (λe=>?_);subst e;rcases hk with hk|⟨c,T2,fz,hk,n⟩
  ·exact absurd p (Nat.not_le_of_lt hk)
  ·unfold Whole at b;rw[b] at hk;cases hk;exact m n
 exact⟨o,World.ownsRow.kept h1 a (.inr d),h2,λj u x hu hx=>L.keep (h3 j u x hu hx) a.size (λk _ hk=>hblk k hk) (λk _ hk=>hk.same (hblk k hk))⟩
theorem Ao.alloc{α:Type}{L:KLay α}{xs:List α}(h:Ao L T Ts C w B v xs)(o:Obj):Ao L T Ts C (w.alloc o) B v xs:=h.call (Af w o)
theorem Own.typed{a:Nat}{xs:List iK}(h:Own w a v xs)(b:9∈Ts):Am (okT Ts B w) w v xs:=h.strs.strsP _ (λg d=>by
 obtain⟨c,fz,e⟩:=Lib.ownsRow_kind h g d;exact .inr ⟨c,_,fz,e,b⟩)
theorem Aw.base(h:BA w u xs)(Ts:List TypeId):Aw (okT Ts w.heap.size w) w u xs:=h.keep (aA _) (λ_ _ _=>rfl) (λ_ a _=>.inl a)
theorem Aw.callT(h:Aw (okT Ts B w) w u xs)(hb:Below w.heap.size w w'):Aw (okT Ts B w') w' u xs:=h.keep hb.size (λg b _=>hb.block g b) (λg b a=>a.same (hb.block g b))
end
section
open Go.RowKit
theorem BO{fn:Func}{p:Tmp}{ty:TypeId}(h:fn.results=#[.cell p ty])(tmps:Array Value)(P:Program)(w:World):
  (results fn tmps).run P w=((asAddr (tmps.getD p undef)).run P w).andThen λa b=>(loadVar ty a).run P b:=by
 simp only[results,h];simp[Sem.run_bind]
def Jj(C:Nat)(name:iK)(xs:List EnS.At)(w:World)(e:Ending)(w':World):Prop:=∃u,e=.returned (.agg #[name,u])/\Ao atK 56 [9] C w' w.heap.size u xs/\Below w.heap.size w w'
theorem Ao.slice{α:Type}{L:KLay α}{xs:List α}(h:Ao L T Ts C w B v xs)(hk:k<xs.length):∃g cap a,v=.slice (some ⟨g,0,none⟩) xs.length cap/\B<=g/\xs.length<=cap/\(∃cur:Array Value,w.heap[g]?=some (.cells cur T (0,0)))/\(a:Value)=a/\w.cell? ⟨g,k*2,none⟩=some (Ac (L.key (xs[k]'hk)))/\w.cell? ⟨g,k*2+1,none⟩=some a/\L.El (okT Ts C w) w a (xs[k]'hk):=by
 obtain⟨a,h1,h2,h3⟩:=h;rcases h1.2 with⟨rfl,d⟩|⟨g,cap,cur,rfl,e,f,d,m,hsz,j⟩
 ·omega
 ·have c:k<a.length:=by omega
  obtain⟨l,f1⟩:=GI L xs a k _ _ (aK hk) (aK c);have c0:=World.ownsRow.cells h1 (g:=g) rfl (k*2) _ l;have c1:=World.ownsRow.cells h1 (g:=g) rfl (k*2+1) _ f1;have b:∀i,(⟨g,0,none⟩:Addr).add i=⟨g,i,none⟩:=λi=>by unfold Addr.add;split<;>simp_all
  rw[b] at c0 c1;exact⟨g,cap,a[k],rfl,e,d,⟨cur,f⟩,rfl,c0,c1,h3 k _ _ (aK c) (aK hk)⟩
attribute [local go_sem ↓] Go.wp_at_zero Go.wp_at_succ
theorem UX(C:Nat)(name:iK)(xs:List EnS.At)(u:Value)(w:World)(hC:C<=w.heap.size)(h:Eg [9] C w u xs)(hf:GZ xs):Calls prog 48 #[.agg #[name,u]] w (Jj C name xs w):=by
 have hb0:=Af w (.cells #[name,u] 52);have B0:=Whole.made w 52 #[name,u];have N:=Af (w.alloc (.cells #[name,u] 52)) (.cells #[.string ⟨#[]⟩,.slice none 0 0] 52);have I:=Aa hb0 N;have A0:=I.size;have S:=B0.call N;have A3:=Whole.made (w.alloc (.cells #[name,u] 52)) 52 #[.string ⟨#[]⟩,.slice none 0 0];have A7:=h.callT I;have r:=AaZ [9] C u xs _ A7 hf.1;have B8:xs.length<=1048576:=hf.1;have HF:=hZ9 (λk (hk:k<xs.length)=>(hf.2 _ (aZ hk)).1);unfold Agk at r;obtain⟨a,c,rfl,_⟩:=Ad.form h;clear hb0 B0 N h A7;have P:=S.cell 1;simp only[aO,aH,aP] at P;go_enter func48,ntmps48;go_wp2_with fail;refine r.mono ?_;rintro e w1 ⟨v1,rfl,b,H⟩;have o:=S.call H;have G:=A3.call H;have y:=Aa I H;obtain⟨a1,c1,rfl⟩:=b.form;have q2:=o.cell 1;simp only[aO,aH,aP] at q2;have t2:=o.thaw 1;have z:=o.put 1 (.slice a1 xs.length c1);have j:=b.other o hC (by decide) (by decide) 1 (.slice a1 xs.length c1);have R:=G.other (p:=⟨w.heap.size,1,none⟩) (by show (w.alloc _).heap.size≠w.heap.size;rw[show (w.alloc (.cells #[name,.slice a xs.length c] 52)).heap.size=w.heap.size+1 from by show (w.heap.push _).size=_;exact br _];omega) (.slice a1 xs.length c1);have d:Below w.heap.size w (w1.setCell ⟨w.heap.size,1,none⟩ (.slice a1 xs.length c1)):=y.setCell (p:=⟨w.heap.size,1,none⟩) (aA _) _;have E:(w.alloc (.cells #[name,.slice a xs.length c] 52)).heap.size=w.heap.size+1:=by show (w.heap.push _).size=_;exact br _
 rw[E] at R;simp only[aF,aQ,aL] at z;clear r S A3 I H P o G b y;have q0:=z.cell 0;have P:=z.cell 1;simp only[aO,aH,aP] at q0 P;go_wp2_with fail;generalize w1.setCell ⟨w.heap.size,1,none⟩ (.slice a1 xs.length c1)=w2 at*;have HN:Hid (∃n,n=xs.length):=hZ9 ⟨_,rfl⟩;clear E;go_loopw [12] (λi wr=>∃k:Nat,k<=xs.length/\i=.int .i64 k/\Ao atK 56 [9] C wr w.heap.size (.slice a1 xs.length c1) xs/\Whole wr w.heap.size 52 #[name,.slice a1 xs.length c1]/\Whole wr (w.heap.size+1) 52 #[.string ⟨#[]⟩,.slice none 0 0]/\Below w.heap.size w wr) (λi _=>xs.length-(intOf i).toNat)
 case atStart=>exact⟨0,aR _,rfl,j.mono A0,z,R,d⟩
 case round=>
  obtain⟨k,hk,rfl,b,V,F,hb⟩:=hrel;clear j z R d q0 P;by_cases q:k<xs.length
  ·obtain⟨g,cap,us,e,hg,_,⟨cur,Z⟩,_,c0,A4,A⟩:=b.slice q;cases e;have K:∀x,xs[k]?=some x->atK.key xs[k]=atK.key x:=λx hx=>by rw[aK q] at hx;cases hx;rfl
   have s:xs.set k xs[k]=xs:=gI q;have A6:=HF.out k q;have f:=λw' (h:Ao atK 56 [9] C w' w.heap.size (.slice (some ⟨g,0,none⟩) xs.length c1) xs) (u:Value) (hu:atK.El (okT [9] C w') w' u (xs[k]'q))=>Ao.stored hC (by decide) rfl h k (xs[k]'q) K u hu;rw[s] at f;change wr.cell? ⟨g,k*2,none⟩=some (Ac xs[k].typ) at c0;change ∀w',_->∀u,Am (okT [9] C w') w' u xs[k].vals->_ at f;change Am (okT [9] C wr) wr us xs[k].vals at A;generalize xs[k]=x at*;obtain⟨ty,vals⟩:=x;simp only at c0 A A6 f;obtain⟨a2,p2,rfl,_⟩:=Ad.form A;unfold Ac at c0;clear K s;have m:=Af wr (.cells #[ty,.slice a2 vals.length p2] 56);have B1:=Whole.made wr 56 #[ty,.slice a2 vals.length p2];have y:=hb.trans (m.mono hb.size);have O:=b.call m;have o:=V.call m;have G:=F.call m;have l:Whole wr g 56 cur:=Z;have Q:=l.call m;have B2:=λw' h=>Qc (.slice a2 vals.length p2) vals w' h A6;have J:=(Am.strs (ok:=okT [9] C wr) A).call m (aA _);have r:=B2 (wr.alloc (.cells #[ty,.slice a2 vals.length p2] 56)).drew (J.call (Below.refl _ _).drew (aA _));unfold Iy at r;have d1:(wr.alloc (.cells #[ty,.slice a2 vals.length p2] 56)).drew.cell? ⟨wr.heap.size,1,none⟩=some (.slice a2 vals.length p2):=B1.cell 1;have d0:(wr.alloc (.cells #[ty,.slice a2 vals.length p2] 56)).drew.cell? ⟨w.heap.size,1,none⟩=some (.slice (some ⟨g,0,none⟩) xs.length c1):=o.cell 1;have i0:(0:Int)<=(k:Int):=by omega
   have i1:(k:Int)<(xs.length:Int):=by omega
   have B9:g<wr.heap.size:=l.lt;have B7:w.heap.size+1≠g:=λe=>by have h1:Whole wr (w.heap.size+1) _ _:=F;have h2:Whole wr g _ _:=l;rw[e] at h1;unfold Whole at h1 h2;rw[h1] at h2;cases h2
   have A5:w.heap.size≠g:=λe=>by have h1:Whole wr w.heap.size _ _:=V;have h2:Whole wr g _ _:=l;rw[e] at h1;unfold Whole at h1 h2;rw[h1] at h2;cases h2
   generalize hL:vals.length=L at*;have d2:(wr.alloc (.cells #[ty,.slice a2 L p2] 56)).drew.cell? ⟨g,k*2+1,none⟩=some (.slice a2 L p2):=Ab A4 m.drew;have hsz:(wr.alloc (.cells #[ty,.slice a2 L p2] 56)).drew.heap.size=wr.heap.size+1:=by show (wr.heap.push _).size=_;exact br _
   have Y:wr.heap.size≠g:=by omega
   clear B2 B1 J A V F b m;go_wp2_with fail;clear c0 A4
   go_region_held3 (λW=>W.cell? ⟨w.heap.size,1,none⟩=some (.slice (some ⟨g,0,none⟩) xs.length c1)/\W.cell? ⟨wr.heap.size,1,none⟩=some (.slice a2 L p2))
    (first|exact⟨d0,d1⟩|exact⟨Ab d0 d,Ab d1 d⟩|exact⟨(World.cell?_setCell_far _ ⟨g,k*2+1,none⟩ ⟨w.heap.size,1,none⟩ _ (λe=>A5 e.symm)).trans (Ab d0 d),(World.cell?_setCell_far _ ⟨g,k*2+1,none⟩ ⟨wr.heap.size,1,none⟩ _ (λe=>Y e.symm)).trans (Ab d1 d)⟩|go_keep)
    (first|(go_at_call 83;(with_reducible refine r.mono ?_);rintro e w3 ⟨v3,rfl,j,d⟩;obtain⟨a3,c3,rfl⟩:=j.form;have hcur3:=Q.drew.call d;have z1:=Ab d2 d;have z2:=hcur3.thaw (k*2+1)))
   have U:=(Below.refl (wr.alloc (.cells #[ty,.slice a2 L p2] 56)).heap.size (wr.alloc (.cells #[ty,.slice a2 L p2] 56))).drew;have M:=(O.call U).call d;have A9:=j.typed (Ts:=[9]) (B:=C) (aj.2 rfl);rw[hL] at A9;obtain⟨A1,B3⟩:=f w3 M _ A9;have B6:=((o.drew).call d).other (p:=⟨g,k*2+1,none⟩) A5 (.slice a3 L c3);have B5:=((G.drew).call d).other (p:=⟨g,k*2+1,none⟩) B7 (.slice a3 L c3);have B4:=((Aa y U).trans (d.mono (Aa y U).size)).trans B3;go_wp2_with fail;go_roundw
   case rel=>exact⟨k+1,by omega,by go_num,A1,B6,B5,B4⟩
   case measure=>simp[intOf];omega
  ·have q0:=V.cell 0;have P:=V.cell 1;have r0:=F.cell 0;have r1:=F.cell 1;have s0:=F.thaw 0;have s1:=F.thaw 1;simp only[aO,aH,aP] at q0 P r0 r1;have hA:=F.put 0 (.string ⟨name.toArray⟩);have A2:=b.other F (by omega) (by decide) (by decide) 0 (.string ⟨name.toArray⟩);simp only[aF,aL] at hA;have hB:=hA.put 1 (.slice a1 xs.length c1);have X:=A2.other hA (by omega) (by decide) (by decide) 1 (.slice a1 xs.length c1);simp only[aF,aQ,aL] at hB;have A8:Below w.heap.size w ((wr.setCell ⟨w.heap.size+1,0,none⟩ (.string ⟨name.toArray⟩)).setCell ⟨w.heap.size+1,1,none⟩ (.slice a1 xs.length c1)):=(hb.setCell (p:=⟨w.heap.size+1,0,none⟩) (by show w.heap.size<=w.heap.size+1;omega) _).setCell (p:=⟨w.heap.size+1,1,none⟩) (by show w.heap.size<=w.heap.size+1;omega) _;have y0:=hB.cell 0;have y1:=hB.cell 1;simp only[aO,aH,aP] at y0 y1;go_wp2_with fail
   (try simp only[Exit.inBlock,Exit.then])
   refine bodyPost_ret (v:=.agg #[name,.slice a1 xs.length c1]) ?_ rfl ⟨_,rfl,X,A8⟩;clear hA A2 hB X A8 b V F hb;generalize (wr.setCell ⟨w.heap.size+1,0,none⟩ (.string ⟨name.toArray⟩)).setCell ⟨w.heap.size+1,1,none⟩ (.slice a1 xs.length c1)=wf at*;rw[BO rfl];go_simp
end
