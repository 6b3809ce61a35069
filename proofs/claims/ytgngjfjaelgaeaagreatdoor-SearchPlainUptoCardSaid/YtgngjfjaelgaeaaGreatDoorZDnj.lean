/- The walks of 'rest', 'below' and of Under, the program's and the document's. Conditions: as stated. -/
import Derived.Lib.AppendZeros
import Derived.Test.YtgngjfjaelgaeaaGreatDoorZDnd
set_option maxRecDepth 100000
set_option maxHeartbeats 2000000
namespace Go.Proofs.YtgngjfjaelgaeaaGreatDoor
open Go.Proofs.Tryz
variable {e:Int} {a b t u v:List iK} {fr nm s:iK} {w w':World}
section
open Go.RowKit
theorem Rm(n v2:Value)(xs ys:List iK)(w:World)(h1:Ah w n xs)(h2:Ah w v2 ys)(H:xs.length<=1000000)(A:ys.length<=1000000):Calls prog 119 #[n,v2] w (Ew (decide (xs=ys)) w):=by
 obtain⟨a1,c1,rfl,F,d⟩:=h1;obtain⟨a2,c2,rfl,E,c⟩:=h2;by_cases hlen:xs.length=ys.length
 ·by_cases h0:xs=[]
  ·subst h0;have G:ys=[]:=aY hlen.symm;subst G;refine(slices_Equal_string_empty a1 a2 c1 0 c2 w (by omega)).mono ?_;rintro e w' ⟨rfl,rfl⟩;exact⟨rfl,Below.refl _ _⟩
  ·have m:ys≠[]:=λh=>h0 (aY (by rw[hlen,h];rfl));rcases d with d|⟨g1,r,rfl,C,i⟩
   ·exact absurd d h0
   rcases c with c|⟨g2,o2,rfl,x,f⟩
   ·exact absurd c m
   have p:∀(zs:List iK) (g o:Nat),(∀(j:Nat) (y:iK),zs[j]?=some y->w.cell? ⟨g,o+j,none⟩=some (Ac y))->∀j,j<(zs.map (λt:iK=>(⟨t.toArray⟩:ByteArray))).length->w.cell? ⟨g,o+j,none⟩=some (.string ((zs.map (λt:iK=>(⟨t.toArray⟩:ByteArray))).getD j ByteArray.empty)):=λzs g o B j z=>by
    have k:j<zs.length:=by simpa using z
    rw[B j zs[j] (aK k),dC,ba,aK k];rfl
   refine(slices_Equal_string g1 r xs.length c1 g2 o2 ys.length c2 _ _ w (by rw[b9];omega) (by rw[b9];omega) (by omega) (by omega) (p xs g1 r i) (p ys g2 o2 f)).mono ?_;rintro e w' ⟨rfl,q,rfl⟩;refine⟨?_,below_drewN w q⟩;have l:((xs.map (λt:iK=>(⟨t.toArray⟩:ByteArray))).take xs.length=(ys.map (λt:iK=>(⟨t.toArray⟩:ByteArray))).take ys.length)↔xs=ys:=by
    rw[af (by rw[b9];exact aA _),af (by rw[b9];exact aA _)];constructor
    ·intro h;have h2:=congrArg (List.map (λb:ByteArray=>b.data.toList)) h;rw[ck,ck] at h2;have e:((λb:ByteArray=>b.data.toList)∘λt:iK=>(⟨t.toArray⟩:ByteArray))=id:=by funext t;simp
     rw[e,fF,fF] at h2;exact h2
    ·intro h;rw[h]
   simp only[l]
 ·refine(slices_Equal_string_lens a1 a2 xs.length c1 ys.length c2 w hlen).mono ?_;rintro e w' ⟨rfl,rfl⟩;exact⟨by rw[aB (λh=>hlen (by rw[h]))],Below.refl _ _⟩
def PartOf(r:Option (List iK))(w:World)(e:Ending)(w':World):Prop:=∃v,e=.returned (.tuple #[v,r.isSome])/\Ah w' v (r.getD [])/\Below w.heap.size w w'
theorem PartOf.no{r:Option (List iK)}(h:r=none)(hb:Below w.heap.size w w'):PartOf r w (.returned (.tuple #[.slice none 0 0,false])) w':=by subst h;exact⟨_,rfl,Ah.empty w',hb⟩
theorem PartOf.yes{r:Option (List iK)}{q:List iK}{v:Value}(h:r=some q)(c:Ah w' v q)(hb:Below w.heap.size w w'):PartOf r w (.returned (.tuple #[v,true])) w':=by subst h;exact⟨_,rfl,c,hb⟩
theorem Abm(h:a.length<b.length):DnS.Di a b=none:=by unfold DnS.Di;rw[aJ h]
theorem Abn(h:¬a.length<b.length)(h2:a.drop (a.length-b.length)=b):DnS.Di a b=some (a.take (a.length-b.length)):=by unfold DnS.Di;rw[aG h,aJ h2]
theorem Ad3(h:¬a.length<b.length)(h2:¬a.drop (a.length-b.length)=b):DnS.Di a b=none:=by unfold DnS.Di;rw[aG h,aG h2]
theorem Own.plain{B:Nat}{v:Value}{xs:List iK}(h:Own w B v xs):(v=.slice none 0 0/\xs=[])\/∃g c,v=.slice (some ⟨g,0,none⟩) xs.length c/\xs.length<=c:=by
 rcases h.2 with⟨rfl,d⟩|⟨g,cap,cur,rfl,_,_,d,_⟩
 ·exact .inl ⟨rfl,aY d⟩
 ·exact .inr ⟨g,cap,rfl,d⟩
theorem Vi(C v2:Value)(xs ys:List iK)(w:World)(G:Nat)(h1:Own w G C xs)(h2:Ah w v2 ys)(F:xs.length<=1000)(H:ys.length<=1000):Calls prog 81 #[C,v2] w (PartOf (DnS.Di xs ys) w):=by
 have c:=h1.strs;obtain⟨a2,c2,rfl⟩:=h2.form;by_cases f:xs.length<ys.length
 ·have HR:=hZ9 (Abm f);obtain⟨a1,c1,rfl⟩:=h1.form;clear h1 h2 c;generalize xs.length=n at*;generalize ys.length=m at*;have L:(n:Int)-(m:Int)<0:=by omega
  go_enter func81,ntmps81;go_wp2_with fail;go_ret2;exact PartOf.no HR.out (Below.refl _ _)
 ·obtain⟨k,hk⟩:∃k,xs.length=k+ys.length:=⟨xs.length-ys.length,by omega⟩
  have i:xs.length-ys.length=k:=by omega
  have j:=hZ9 (Abn f);have d:=hZ9 (Ad3 f);rw[i] at j d;rcases h1.plain with⟨rfl,rfl⟩|⟨g,c1,rfl,q⟩
  ·have A:k=0:=by simp at hk;omega
   have B:ys=[]:=aY (by simp at hk;omega);subst A;subst B;have HR:=hZ9 (j.out rfl);clear j d i hk c h1 f;go_enter func81,ntmps81;go_wp2_with fail;refine(Rm _ _ [] [] _ (Ah.nil _ _ _) h2 (by simp) (by simp)).mono ?_;rintro e w1 ⟨rfl,hb⟩;rw[aI rfl];go_wp2_with fail;go_ret2;exact PartOf.yes HR.out (Ah.nil _ _ _) hb
  ·have o:Ah w (.slice (some ⟨g,0,none⟩) k c1) (xs.take k):=c.take (k:=k) (by omega);have r:=hZ9 o;have l:(xs.drop k).length=ys.length:=by rw[bD];omega
   by_cases z:k=c1
   ·have I:ys=[]:=aY (by omega);subst I;have hd:xs.drop k=[]:=aY (by rw[l];rfl);have HR:=hZ9 (j.out hd);subst z;have p:xs.length=k:=by simpa using hk
    rw[p] at F⊢;have y:=hZ9 h2;clear h1 h2 hk i j d o l hd f q p c;go_enter func81,ntmps81;go_wp2_with fail;refine(Rm _ _ [] [] _ (Ah.nil _ _ _) y.out (by simp) (by simp)).mono ?_;rintro e w1 ⟨rfl,hb⟩;rw[aI rfl];go_wp2_with fail;go_ret2;exact PartOf.yes HR.out (r.out.call hb (aA _)) hb
   ·have hdr:Ah w (.slice (some ⟨g,0+k,none⟩) (xs.length-k) (c1-k)) (xs.drop k):=by
     rcases bU xs.length with h0|h0
     ·have:xs=[]:=aY h0;subst this
      simpa using Ah.nil w _ _
     ·obtain⟨K,M,e,h⟩:=c.drop (k:=k) (by omega) h0;cases e;exact h
    rw[bv,hk,dY] at hdr;have x:=hZ9 hdr;have y:=hZ9 h2;have E:k<=c1:=by omega
    rw[hk] at F q⊢;generalize J:ys.length=m at*;have HX:=hZ9 (⟨by omega,by omega⟩:(xs.drop k).length<=1000000/\ys.length<=1000000);clear h1 h2 hk i o l c J f hdr;go_enter func81,ntmps81;go_wp2_with fail;refine(Rm _ _ (xs.drop k) ys _ x.out y.out HX.out.1 HX.out.2).mono ?_;rintro e w1 ⟨rfl,hb⟩;by_cases hd:xs.drop k=ys
    ·have HR:=hZ9 (j.out hd);rw[aI hd];clear hd j d;go_wp2_with fail;go_ret2;exact PartOf.yes HR.out (r.out.call hb (aA _)) hb
    ·have HR:=hZ9 (d.out hd);rw[aB hd];clear hd j d;go_wp2_with fail;go_ret2;exact PartOf.no HR.out hb
theorem Sr(a b:iK)(x:a.length<=1000000)(hb0:b.length<=1000000)(w:World)(hE:Env w):Calls prog 47 #[a,b] w (Ew (DnS.Fh a b) w):=by
 have hp:=DY a x w hE;have j:=λw hE=>DY b hb0 w hE;unfold CP at hp j;have o:Hid (DnS.Fh a b=(decide ((DnS.Ae a).2=0)&&decide ((DnS.Ae b).2=0)&&(DnS.Di (DnS.Ae a).1 (DnS.Ae b).1).isSome)):=hZ9 rfl;have l:=(DnS.Dh a).1;have p:=(DnS.Dh b).1;generalize DnS.Ae a=X at*;generalize DnS.Ae b=Y at*;obtain⟨tx,ex⟩:=X;obtain⟨ty,k⟩:=Y;simp only at hp j l p o;go_enter func47,ntmps47;go_wp2_with fail;refine hp.mono ?_;rintro e w1 ⟨z,rfl,g,c⟩;go_wp2_with fail;refine(j _ (hE.below c)).mono ?_;rintro e w2 ⟨v2,rfl,h,d⟩;have f:=Aa c d;go_wp2_with fail;refine(Vi _ _ tx ty _ w.heap.size (g.call d) h.strs (by omega) (by omega)).mono ?_;rintro e w3 ⟨v3,rfl,-,i⟩;have y:=hZ9 (Aa f i);generalize (DnS.Di tx ty).isSome=r at*;clear hp j g h c d i f;by_cases hx:ex=0<;>by_cases q:k=0<;>cases r
 all_goals
  have hx1:(ex==0)=decide (ex=0):=rfl;have n:(k==0)=decide (k=0):=rfl;have m:=o.out;simp only[hx,q,eT,eK,Bool.and_true,bY] at hx1 n m;have HR:=hZ9 m;clear m o
  try subst hx
  try subst q
  go_wp2_with fail;go_ret;exact⟨by rw[HR.out];rfl,y.out⟩
end
section
open Go.RowKit
theorem Ox{v:iK}{t:iK}{c:Int}(h:RuS.typeOf nm=(t,c))(h5:c≠5):DnS.AC nm v=RuS.normal nm v:=by unfold DnS.AC;rw[h,aG h5]
theorem ZF{v:iK}{t:iK}(h:RuS.typeOf nm=(t,5)):DnS.AC nm v=if(DnS.Ax v).2≠0\/(DnS.Ax v).1=[]\/200<v.length then([],2) else((DnS.Ax v).1,0):=by rw[DnS.AaG,h,aJ rfl]
theorem Xz{v:iK}{t:iK}(h:RuS.typeOf nm=(t,5)):DnS.AC nm v=if v.length<1\/200<v.length then([],2) else if(DnS.Ax v).2=0 then((DnS.Ax v).1,0) else([],2):=by unfold DnS.AC;rw[h,aJ rfl]
theorem Bo.mk'{r q:iK×Int}(h:r=q)(hb:Below w.heap.size w w'):Bo r w (.returned (.tuple #[q.1,q.2])) w':=by subst h;exact⟨rfl,hb⟩
theorem GW(nm v:iK)(B:nm.length<=1048576)(A:v.length<=1000000)(w:World)(hE:Env w):Calls prog 92 #[nm,v] w (Bo (DnS.AC nm v) w):=by
 have f1:(⟨nm.toArray⟩:ByteArray).size<=9223372036854775807:=by show nm.toArray.size<=_;rw[bS];omega
 have f2:(⟨v.toArray⟩:ByteArray).size<=9223372036854775807:=by show v.toArray.size<=_;rw[bS];omega
 have d:=Gx ⟨nm.toArray⟩ f1 w;have i:=λw hE=>Ge ⟨nm.toArray⟩ ⟨v.toArray⟩ f1 f2 w hE;have g:=λw hE=>IX v A w hE;unfold Ak at d;unfold AX at i;unfold Bo at g;simp only at d i;obtain⟨T,m⟩:∃T,RuS.typeOf nm=T:=⟨_,rfl⟩
 rw[m] at d;obtain⟨t,y⟩:=T;have x:=hZ9 m;simp only at d;clear m f1 f2;by_cases h5:y=5
 ·subst h5;have k:=hZ9 (ZF (v:=v) x.out);clear i;generalize DnS.Ax v=N at*;obtain⟨n,p⟩:=N;simp only at g k;by_cases l:p=0
  ·subst l;by_cases j:n=[]
   ·have HR:=hZ9 (k.out.trans (aJ (.inr (.inl j))));have q:n.isEmpty=true:=by rw[j];rfl
    clear k;go_enter func92,ntmps92;go_wp2_with fail;refine d.mono ?_;rintro e w1 ⟨rfl,c⟩;go_wp2_with fail;refine(g _ (hE.below c)).mono ?_;rintro e w2 ⟨rfl,f⟩;go_wp2_with fail;go_ret2;exact Bo.mk' HR.out (Aa c f)
   ·have q:n.isEmpty=false:=by simpa using j
    by_cases h200:200<v.length
    ·have HR:=hZ9 (k.out.trans (aJ (.inr (.inr h200))));have z:(200:Int)<(v.length:Int):=by omega
     clear k;go_enter func92,ntmps92;go_wp2_with fail;refine d.mono ?_;rintro e w1 ⟨rfl,c⟩;go_wp2_with fail;refine(g _ (hE.below c)).mono ?_;rintro e w2 ⟨rfl,f⟩;go_wp2_with fail;go_ret2;exact Bo.mk' HR.out (Aa c f)
    ·have HR:=hZ9 (k.out.trans (aG (λh=>h.elim (λh=>h rfl) (λh=>h.elim j h200))));have z:decide ((200:Int)<(v.length:Int))=false:=aB (by omega);clear k;go_enter func92,ntmps92;go_wp2_with fail;refine d.mono ?_;rintro e w1 ⟨rfl,c⟩;go_wp2_with fail;refine(g _ (hE.below c)).mono ?_;rintro e w2 ⟨rfl,f⟩;go_wp2_with fail;go_ret2;exact Bo.mk' HR.out (Aa c f)
  ·have HR:=hZ9 (k.out.trans (aJ (.inl l)));have o:(p !=0)=true:=by simpa using l
   clear k;go_enter func92,ntmps92;go_wp2_with fail;refine d.mono ?_;rintro e w1 ⟨rfl,c⟩;go_wp2_with fail;refine(g _ (hE.below c)).mono ?_;rintro e w2 ⟨rfl,f⟩;go_wp2_with fail;go_ret2;exact Bo.mk' HR.out (Aa c f)
 ·have HR:=hZ9 (Ox (v:=v) x.out h5);have o:(y !=5)=true:=by simpa using h5
  generalize RuS.normal nm v=R at*;obtain⟨r,p⟩:=R;simp only at i;clear g;go_enter func92,ntmps92;go_wp2_with fail;refine d.mono ?_;rintro e w1 ⟨rfl,c⟩;go_wp2_with fail;refine(i _ (hE.below c)).mono ?_;rintro e w2 ⟨rfl,f⟩;go_wp2_with fail;go_ret2;exact Bo.mk' HR.out (Aa c f)
theorem MP(nm v:iK)(F:nm.length<=1048576)(E:v.length<=1000000)(w:World)(hE:Env w):Calls prog 65 #[nm,v] w (Bo (DnS.AC nm v) w):=by
 have f1:(⟨nm.toArray⟩:ByteArray).size<=9223372036854775807:=by show nm.toArray.size<=_;rw[bS];omega
 have f2:(⟨v.toArray⟩:ByteArray).size<=9223372036854775807:=by show v.toArray.size<=_;rw[bS];omega
 have d:=Eb ⟨nm.toArray⟩ f1 w;have g:=λw hE=>Fq ⟨nm.toArray⟩ ⟨v.toArray⟩ f1 f2 w hE;have i:=λw hE=>Lm v E w hE;unfold Ak at d;unfold AX at g;unfold Bo at i;simp only at d g;obtain⟨T,p⟩:∃T,RuS.typeOf nm=T:=⟨_,rfl⟩
 rw[p] at d;obtain⟨t,z⟩:=T;have y:=hZ9 p;simp only at d;clear p f1 f2;by_cases h5:z=5
 ·subst h5;have k:=hZ9 (Xz (v:=v) y.out);clear g;generalize DnS.Ax v=N at*;obtain⟨n,x⟩:=N;simp only at i k;by_cases h1:v.length<1
  ·have HR:=hZ9 (k.out.trans (aJ (.inl h1)));have B:decide ((v.length:Int)<(1:Int))=true:=aI (by omega);have l:v.length=0:=by omega
   have m:v=[]:=aY l;clear k;subst m;go_enter func65,ntmps65;go_wp2_with fail;refine d.mono ?_;rintro e w1 ⟨rfl,c⟩;go_wp2_with fail;go_ret2;exact Bo.mk' HR.out c
  ·have B:decide ((v.length:Int)<(1:Int))=false:=aB (by omega);have m:(v.length:Int)≠0:=by omega
   have A:1<=(v.length:Int):=by omega
   have C:0<v.length:=by omega
   by_cases h200:200<v.length
   ·have HR:=hZ9 (k.out.trans (aJ (.inr h200)));have l:(200:Int)<(v.length:Int):=by omega
    clear k;go_enter func65,ntmps65;go_wp2_with fail;refine d.mono ?_;rintro e w1 ⟨rfl,c⟩;go_wp2_with fail;go_ret2;exact Bo.mk' HR.out c
   ·have l:decide ((200:Int)<(v.length:Int))=false:=aB (by omega);have j:=hZ9 (k.out.trans (aG (λh=>h.elim h1 h200)));clear k;by_cases o:x=0
    ·subst o;have HR:=hZ9 (j.out.trans (aJ rfl));clear j;go_enter func65,ntmps65;go_wp2_with fail;refine d.mono ?_;rintro e w1 ⟨rfl,c⟩;go_wp2_with fail;refine(i _ (hE.below c)).mono ?_;rintro e w2 ⟨rfl,f⟩;go_wp2_with fail;go_ret2;exact Bo.mk' HR.out (Aa c f)
    ·have HR:=hZ9 (j.out.trans (aG o));have q:(x !=0)=true:=by simpa using o
     clear j;go_enter func65,ntmps65;go_wp2_with fail;refine d.mono ?_;rintro e w1 ⟨rfl,c⟩;go_wp2_with fail;refine(i _ (hE.below c)).mono ?_;rintro e w2 ⟨rfl,f⟩;go_wp2_with fail;go_ret2;exact Bo.mk' HR.out (Aa c f)
 ·have HR:=hZ9 (Ox (v:=v) y.out h5);have q:(z !=5)=true:=by simpa using h5
  generalize RuS.normal nm v=R at*;obtain⟨r,x⟩:=R;simp only at g;clear i;go_enter func65,ntmps65;go_wp2_with fail;refine d.mono ?_;rintro e w1 ⟨rfl,c⟩;go_wp2_with fail;refine(g _ (hE.below c)).mono ?_;rintro e w2 ⟨rfl,f⟩;go_wp2_with fail;go_ret2;exact Bo.mk' HR.out (Aa c f)
end
section
open Go.RowKit
theorem ZG{ts:List iK}(h:∀t∈ts,t.length<=3000)(c:ts.length<=100):(DnS.Au ts).length<=1000000:=by have h1:=DnS.Ll ts h;have:ts.length*(3000+1)<=100*3001:=bu _ c;omega
end
section
open Go.RowKit
def Iy(w:World)(xs:List iK)(e:Ending)(w':World):Prop:=∃v,e=.returned v/\Own w' w.heap.size v xs/\Below w.heap.size w w'
theorem Agn(n:Nat)(r:n<=1000000)(w:World):Calls prog 147 #[.slice none 0 0,n] w (Iy w []):=by
 rcases bU n with h0|f
 ·subst h0;go_enter func147,ntmps147;go_wp2_with fail;go_ret;exact⟨_,rfl,Own.empty _ _,Below.refl _ _⟩
 ·have h1:¬((n:Int)<0):=by omega
  have h4:(0:Int)<(n:Int):=by omega
  obtain⟨i0,m,g,k,h⟩:=info_parts Hy;have d:=λty=>Lib.run_append_nil_zeros (P:=prog) w 23 3 ty 9 i0 (.string ⟨#[]⟩) .i64 .i64 underlying23 underlying3 m g n f (by omega) (by omega) (by rw[h];omega);obtain⟨G,i⟩:∃G,G=grownCap w n 0 9:=⟨_,rfl⟩
  have q:n<=G:=by rw[i];exact grownCap_ge w _ _ _
  have c:G<=maxLen:=by rw[i];exact grownCap_le_maxLen w _ _ _ (by unfold maxLen;omega)
  rw[<-i] at d;have o:G<=9223372036854775807:=by unfold maxLen at c;omega
  have j:=hZ9 c;have HR:=hZ9 d;clear i m d g k h c;have l:(Builtin.zeroCells (Value.string ⟨#[]⟩).cells n++Builtin.zeroCells (Value.string ⟨#[]⟩).cells (G-n)).size=G*1:=by
   rw[Array.size_append,size_zeroCells,size_zeroCells];show n*1+(G-n)*1=G*1
   omega
  have p:=hZ9 l;clear l;generalize Builtin.zeroCells (Value.string ⟨#[]⟩).cells n++Builtin.zeroCells (Value.string ⟨#[]⟩).cells (G-n)=Z at*;go_enter func147,ntmps147;go_wp2_with (at_builtin;refine Lib.wpList_append_run _ (by rfl) _ _ _ _ (by rfl) _ _ (by rfl) (by rfl) _ _ (HR.out _) ?_)
  go_ret;refine⟨_,rfl,⟨rfl,.inr ⟨w.heap.size,G,Z,rfl,aA _,?_,aR _,j.out,p.out,rfl⟩⟩,(Below.refl _ _).drew.alloc (aA _) _⟩;show (w.heap.push _)[w.heap.size]?=_
  rw[dV]
theorem Ad4(b:Nat)(z v2:Value)(xs ys:List iK)(w:World)(hb:b<w.heap.size)(x:w.cell? ⟨b,0,none⟩=some z)(o:w.cell? ⟨b,1,none⟩=some v2)(h1:Ah w z xs)(h2:Ah w v2 ys)(J:xs.length<=400000)(G:ys.length<=400000):Calls prog 113 #[.slice (some ⟨b,0,none⟩) 2 2] w (Iy w (xs++ys)):=by
 have d:=Agn (xs.length+ys.length) (by omega) w;obtain⟨a1,c1,rfl⟩:=h1.form;obtain⟨a2,c2,rfl⟩:=h2.form;have H1:=hZ9 h1;have I:=hZ9 h2;clear h1 h2;have hk:((xs.length+ys.length:Nat):Int)=(xs.length:Int)+(ys.length:Int):=by omega
 rw[hk] at d;generalize C:xs.length=n at*;generalize A:ys.length=m at*;have B:=hZ9 C;have F:=hZ9 A;clear C A hk;have q:¬((n:Int)<0):=by omega
 have y:¬((n:Int)+(m:Int)<0):=by omega
 go_enter func113,ntmps113;go_wp2_with fail;refine wp_loop_rounds 3 ?_
 repeat any_goals(rw[rounds_succ];go_wp2_with fail)
 refine d.mono ?_;rintro e w1 ⟨v0,rfl,l,c⟩;have H:w1.cell? ⟨b,0,none⟩=some (.slice a1 n c1):=Ab x c;have d1:w1.cell? ⟨b,1,none⟩=some (.slice a2 m c2):=Ab o c;have hsz:=c.size;clear d q y;go_wp2_with fail;refine wp_loop_rounds 3 ?_;rw[rounds_succ];go_wp2_with (at_builtin;refine Nj (by rfl) _ _ (by rfl) w.heap.size _ [] (by rfl) l _ xs (by rfl) (H1.out.call c (aA _)) ?e1 ?e2 ?_)
 case e1=>rw[B.out];simp;omega
 case e2=>omega
 intro v3 w3 g f;have d2:w3.cell? ⟨b,1,none⟩=some (.slice a2 m c2):=(f.cell (p:=⟨b,1,none⟩) hb).trans d1;have E:=f.size;have j:=hZ9 g;have h:=c.trans f;clear g H d1;go_wp2_with fail;rw[rounds_succ];go_wp2_with (at_builtin;refine Nj (by rfl) _ _ (by rfl) w.heap.size _ xs (by rfl) j.out _ ys (by rfl) (I.out.call h (aA _)) ?f1 ?f2 ?_)
 case f1=>rw[B.out,F.out];omega
 case f2=>omega
 intro v4 w4 i k;have r:=hZ9 i;clear i;go_wp2_with fail;rw[rounds_succ];go_wp2_with fail;go_ret;exact⟨_,rfl,r.out,h.trans k⟩
end
section
open Go.RowKit
theorem Ago{dst:iK}(h:DnS.Ae s=(t,e))(c:e≠0):DnS.Dj s fr dst=([],e):=by unfold DnS.Dj;rw[h,aG c]
theorem Agp{dst:iK}(h:DnS.Ae s=(t,0))(k:DnS.Ae fr=(u,e))(c:e≠0):DnS.Dj s fr dst=([],e):=by unfold DnS.Dj;rw[h,k,aJ rfl,aG c]
theorem Agq{dst:iK}(h:DnS.Ae s=(t,0))(k:DnS.Ae fr=(u,0))(l:DnS.Ae dst=(v,e))(c:e≠0):DnS.Dj s fr dst=([],e):=by unfold DnS.Dj;rw[h,k,l,aJ rfl,aJ rfl,aG c]
theorem Afn{dst:iK}(h:DnS.Ae s=(t,0))(k:DnS.Ae fr=(u,0))(l:DnS.Ae dst=(v,0))(c:DnS.Di t u=none):DnS.Dj s fr dst=([],1):=by unfold DnS.Dj;rw[h,k,l,aJ rfl,aJ rfl,aJ rfl,c]
theorem Ad5{dst:iK}{r:List iK}(h:DnS.Ae s=(t,0))(k:DnS.Ae fr=(u,0))(l:DnS.Ae dst=(v,0))(c:DnS.Di t u=some r):DnS.Dj s fr dst=DnS.Ib (r++v):=by unfold DnS.Dj;rw[h,k,l,aJ rfl,aJ rfl,aJ rfl,c]
theorem ZH{r:List iK}{M:Nat}(d:DnS.Di t u=some r)(h1:∀x∈t,x.length<=M)(h2:∀x∈v,x.length<=M)(c:t.length<=12)(f:v.length<=12):(∀x∈r++v,x.length<=M)/\(r++v).length<=24/\r.length<=12:=by
 have h:=DnS.NK.1 d;subst h;rw[aT] at c;refine⟨λx hx=>?_,by rw[aT];omega,by omega⟩;rcases bB.1 hx with hx|hx
 ·exact h1 x (bw _ hx)
 ·exact h2 x hx
theorem Ad6(a b c:iK)(ha:a.length<=1000000)(hb0:b.length<=1000000)(E3:c.length<=1000000)(w:World)(hE:Env w):Calls prog 73 #[.string ⟨a.toArray⟩,b,c] w (Bo (DnS.Dj a b c) w):=by
 have hp:=λw hE=>DY a ha w hE;have d:=λw hE=>DY b hb0 w hE;have hr:=λw hE=>DY c E3 w hE;unfold CP at hp d hr;have B7:=(DnS.Dh a).1;have C7:=(DnS.Dh b).1;have B4:=(DnS.Dh c).1;have A9:=hZ9 (DnS.Hr (s:=a));have B5:=hZ9 (DnS.Hr (s:=c));obtain⟨X,hX⟩:∃X,DnS.Ae a=X:=⟨_,rfl⟩
 obtain⟨Y,hY⟩:∃Y,DnS.Ae b=Y:=⟨_,rfl⟩
 obtain⟨Z,hZ⟩:∃Z,DnS.Ae c=Z:=⟨_,rfl⟩
 rw[hX] at hp B7 A9;rw[hY] at d C7;rw[hZ] at hr B4 B5;obtain⟨tx,ex⟩:=X;obtain⟨ty,ey⟩:=Y;obtain⟨tz,ez⟩:=Z;simp only at hp d hr B7 C7 B4 A9 B5;have HX:=hZ9 hX;have HY:=hZ9 hY;have HZ:=hZ9 hZ;clear hX hY hZ;have C6:=Whole.made w 166 #[.slice none 0 0,.slice none 0 0,.slice none 0 0];have D5:=Af w (.cells #[.slice none 0 0,.slice none 0 0,.slice none 0 0] 166);generalize D2:w.alloc (.cells #[.slice none 0 0,.slice none 0 0,.slice none 0 0] 166)=wA at*;have T:wA.heap.size=w.heap.size+1:=by rw[<-D2];simp
 have Q:=Whole.made wA 9 #[Ac a,Ac b,Ac c];have P:=D5.alloc (by omega) (.cells #[Ac a,Ac b,Ac c] 9);have A0:=C6.alloc (.cells #[Ac a,Ac b,Ac c] 9);unfold Ac at Q P A0;rw[T] at Q;generalize B3:wA.alloc (.cells #[.string ⟨a.toArray⟩,b,c] 9)=wB at*;have S:wB.heap.size=w.heap.size+2:=by rw[<-B3];simp;omega
 have F0:=hE.below P;have l:=hZ9 S;have c0:wB.cell? ⟨w.heap.size+1,0,none⟩=some (.string ⟨a.toArray⟩):=Q.cell 0;go_enter func73,ntmps73;go_wp2_with fail
 (try simp only[B3])
 clear D2 C6 D5 T B3 S;refine wp_loop_rounds 4 ?_;rw[rounds_succ];go_wp2_with fail;refine(hp _ F0).mono ?_;rintro e w1 ⟨v1,rfl,C0,N⟩;have k:=A0.call N;have A8:=Q.call N;have W:=P.trans (N.mono P.size);have F7:=N.size;obtain⟨a1,J,m1,E7⟩:∃a n m,v1=.slice a n m:=by obtain⟨a,m,e⟩:=C0.form;exact⟨a,_,m,e⟩
 have q1:w1.cell? ⟨w.heap.size,0,none⟩=some (.slice none 0 0):=k.cell 0;have p1:w1.frozen? ⟨w.heap.size,0,none⟩=false:=k.thaw 0;subst E7;by_cases hx1:ex=0
 case neg=>
  have HR:=hZ9 (Ago (fr:=b) (dst:=c) HX.out hx1);have D1:(ex !=0)=true:=by simpa using hx1
  have H:=hZ9 W;go_wp2_with fail;go_ret2;exact Bo.mk' HR.out (H.out.setCell (aA _) _)
 subst hx1;go_wp2_with fail;rw[rounds_succ];have A3:=k.put 0 (.slice a1 J m1);have x:=A8.other (p:=⟨w.heap.size,0,none⟩) (by show w.heap.size+1≠w.heap.size;omega) (.slice a1 J m1);have B:=W.setCell (p:=⟨w.heap.size,0,none⟩) (aA _) (.slice a1 J m1);have z:Own (w1.setCell ⟨w.heap.size,0,none⟩ (.slice a1 J m1)) wB.heap.size (.slice a1 J m1) tx:=(C0).kept (λq d=>Below.heap_setCell _ _ _ _ (by
  have:=(Dz (C0) d).1;have h2:=l.out;show q≠w.heap.size
  omega))
 have F2:(w1.setCell ⟨w.heap.size,0,none⟩ (.slice a1 J m1)).heap.size=w1.heap.size:=by simp[World.setCell]
 generalize C5:w1.setCell ⟨w.heap.size,0,none⟩ (.slice a1 J m1)=u1 at*;have E8:=hE.below B;have c1:u1.cell? ⟨w.heap.size+1,1,none⟩=some (.string ⟨b.toArray⟩):=x.cell 1;clear q1 p1 C5;go_wp2_with fail;refine(d _ E8).mono ?_;rintro e w2 ⟨v2,rfl,B9,o⟩;have g:=A3.call o;have A6:=x.call o;have U:=B.trans (o.mono B.size);have F6:=o.size;obtain⟨a2,K,m2,E2⟩:∃a n m,v2=.slice a n m:=by obtain⟨a,m,e⟩:=B9.form;exact⟨a,_,m,e⟩
 have q2:w2.cell? ⟨w.heap.size,1,none⟩=some (.slice none 0 0):=g.cell 1;have p2:w2.frozen? ⟨w.heap.size,1,none⟩=false:=g.thaw 1;subst E2;by_cases B8:ey=0
 case neg=>
  have HR:=hZ9 (Agp (dst:=c) HX.out HY.out B8);have D1:(ey !=0)=true:=by simpa using B8
  have H:=hZ9 U;go_wp2_with fail;go_ret2;exact Bo.mk' HR.out (H.out.setCell (aA _) _)
 subst B8;go_wp2_with fail;rw[rounds_succ];have A2:=g.put 1 (.slice a2 K m2);have G:=A6.other (p:=⟨w.heap.size,1,none⟩) (by show w.heap.size+1≠w.heap.size;omega) (.slice a2 K m2);have I:=U.setCell (p:=⟨w.heap.size,1,none⟩) (aA _) (.slice a2 K m2);have y:Own (w2.setCell ⟨w.heap.size,1,none⟩ (.slice a2 K m2)) wB.heap.size (.slice a1 J m1) tx:=(z.call o).kept (λq d=>Below.heap_setCell _ _ _ _ (by
  have:=(Dz (z.call o) d).1;have h2:=l.out;show q≠w.heap.size
  omega))
 have E:Own (w2.setCell ⟨w.heap.size,1,none⟩ (.slice a2 K m2)) u1.heap.size (.slice a2 K m2) ty:=(B9).kept (λq d=>Below.heap_setCell _ _ _ _ (by
  have:=(Dz (B9) d).1;have h2:=l.out;show q≠w.heap.size
  omega))
 have F1:(w2.setCell ⟨w.heap.size,1,none⟩ (.slice a2 K m2)).heap.size=w2.heap.size:=by simp[World.setCell]
 generalize C2:w2.setCell ⟨w.heap.size,1,none⟩ (.slice a2 K m2)=u2 at*;have E5:=hE.below I;have c2:u2.cell? ⟨w.heap.size+1,2,none⟩=some (.string ⟨c.toArray⟩):=G.cell 2;clear q2 p2 C2;go_wp2_with fail;refine(hr _ E5).mono ?_;rintro e w3 ⟨v3,rfl,B2,f⟩;have i:=A2.call f;have D7:=G.call f;have V:=I.trans (f.mono I.size);have F5:=f.size;obtain⟨a3,n3,m3,E0⟩:∃a n m,v3=.slice a n m:=by obtain⟨a,m,e⟩:=B2.form;exact⟨a,_,m,e⟩
 have q3:w3.cell? ⟨w.heap.size,2,none⟩=some (.slice none 0 0):=i.cell 2;have p3:w3.frozen? ⟨w.heap.size,2,none⟩=false:=i.thaw 2;subst E0;by_cases B0:ez=0
 case neg=>
  have HR:=hZ9 (Agq HX.out HY.out HZ.out B0);have D1:(ez !=0)=true:=by simpa using B0
  have H:=hZ9 V;go_wp2_with fail;go_ret2;exact Bo.mk' HR.out (H.out.setCell (aA _) _)
 subst B0;go_wp2_with fail;rw[rounds_succ];have j:=i.put 2 (.slice a3 n3 m3);have F:=V.setCell (p:=⟨w.heap.size,2,none⟩) (aA _) (.slice a3 n3 m3);have A1:Own (w3.setCell ⟨w.heap.size,2,none⟩ (.slice a3 n3 m3)) wB.heap.size (.slice a1 J m1) tx:=(y.call f).kept (λq d=>Below.heap_setCell _ _ _ _ (by
  have:=(Dz (y.call f) d).1;have h2:=l.out;show q≠w.heap.size
  omega))
 have A5:Own (w3.setCell ⟨w.heap.size,2,none⟩ (.slice a3 n3 m3)) u1.heap.size (.slice a2 K m2) ty:=(E.call f).kept (λq d=>Below.heap_setCell _ _ _ _ (by
  have:=(Dz (E.call f) d).1;have h2:=l.out;show q≠w.heap.size
  omega))
 have A4:Own (w3.setCell ⟨w.heap.size,2,none⟩ (.slice a3 n3 m3)) u2.heap.size (.slice a3 n3 m3) tz:=(B2).kept (λq d=>Below.heap_setCell _ _ _ _ (by
  have:=(Dz (B2) d).1;have h2:=l.out;show q≠w.heap.size
  omega))
 have F3:(w3.setCell ⟨w.heap.size,2,none⟩ (.slice a3 n3 m3)).heap.size=w3.heap.size:=by simp[World.setCell]
 generalize C3:w3.setCell ⟨w.heap.size,2,none⟩ (.slice a3 n3 m3)=u3 at*;have F4:=hE.below F;have d0:u3.cell? ⟨w.heap.size,0,none⟩=some (.slice a1 J m1):=j.cell 0;have d1:u3.cell? ⟨w.heap.size,1,none⟩=some (.slice a2 K m2):=j.cell 1;clear q3 p3 C3;go_wp2_with fail;refine(Vi _ _ tx ty _ _ A1 A5.strs (by omega) (by omega)).mono ?_;rintro e w4 ⟨v4,rfl,C9,B1⟩;have A:=F.trans (B1.mono F.size);have A7:=j.call B1;have C4:=A4.call B1;have d2:w4.cell? ⟨w.heap.size,2,none⟩=some (.slice a3 n3 m3):=A7.cell 2;have C1:=hZ9 (Afn HX.out HY.out HZ.out);have C:=hZ9 (λr=>Ad5 (r:=r) HX.out HY.out HZ.out);have B6:=hZ9 (λr (h:DnS.Di tx ty=some r)=>ZH (M:=3000) h A9.out B5.out B7 B4);clear hp d hr HX HY HZ d0 d1;generalize DnS.Di tx ty=R at*;cases R with
 |none=>have HR:=hZ9 (C1.out rfl);clear C1 C B6;go_wp2_with fail;go_ret2;exact Bo.mk' HR.out A
 |some r=>
  have HR:=hZ9 (C.out r rfl);obtain⟨D3,F9,F8⟩:=B6.out r rfl;have D6:=ZG D3 (by omega);have D4:Ah w4 v4 r:=C9;obtain⟨a4,n4,m4,E1⟩:∃a n m,v4=.slice a n m:=by obtain⟨a,m,e⟩:=D4.form;exact⟨a,_,m,e⟩
  subst E1;have L:=Whole.made w4 23 #[.slice a4 n4 m4,.slice a3 n3 m3];have O:=Af w4 (.cells #[.slice a4 n4 m4,.slice a3 n3 m3] 23);have E4:=Ad4 w4.heap.size (.slice a4 n4 m4) (.slice a3 n3 m3) r tz _ L.lt (L.cell 0) (L.cell 1) (D4.call O (aA _)) ((C4.call O).strs) (by omega) (by omega);have D8:=hZ9 D6;have D0:=hZ9 (A.trans (O.mono A.size));clear C1 C B6 D3 C9 L D6 O;go_wp2_with fail;refine E4.mono ?_;rintro e w6 ⟨v6,rfl,D9,E9⟩;have C8:=hZ9 (D0.out.trans (E9.mono D0.out.size));go_wp2_with fail;refine(AeW _ _ _ D9.strs (by omega) (by have:=D8.out;omega)).mono ?_;rintro e w8 ⟨rfl,E6⟩;go_wp2_with fail;go_ret2;exact Bo.mk' HR.out (C8.out.trans (E6.mono C8.out.size))
end
