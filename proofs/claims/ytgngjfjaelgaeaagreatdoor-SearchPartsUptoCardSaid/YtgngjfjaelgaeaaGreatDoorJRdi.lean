/- The walk of the program's 'Parse' of a part. Conditions: as stated. -/
import Derived.Test.YtgngjfjaelgaeaaGreatDoorJSrx
set_option maxRecDepth 100000
set_option maxHeartbeats 8000000
namespace Go.Proofs.YtgngjfjaelgaeaaGreatDoor
open Go.Proofs.Tryz
section
open Go.RowKit
namespace RdS
theorem Le:∀p:List UInt8,(p.contains 61=true->Lib.index p [61]=((nameOf p).length:Int))/\(p.contains 61=false->Lib.index p [61]=-1)
 | []=>⟨fun h=>by simp at h,fun _=>by decide⟩
 | b :: p=>by
  have a:=Le p;by_cases hb:b=61
  · subst hb;exact ⟨fun _=>by rw [RuS.index_cons_eq];simp [nameOf],fun h=>by simp at h⟩
  · have hc:(b :: p).contains 61=p.contains 61:=by
     rw [fC];have:((61:UInt8)==b)=false:=by simpa using fun e=>hb e.symm
     rw [this,Bool.false_or]
    have c:nameOf (b :: p)=b :: nameOf p:=by unfold nameOf;rw [cX,aP (by simpa using hb)]
    rw [hc,c,RuS.index_cons_ne hb];refine ⟨fun h=>?_,fun h=>?_⟩
    · rw [a.1 h,aG (by rw [af];omega)];simp
    · rw [a.2 h];rfl
theorem Oc (p:List UInt8):p.take (nameOf p).length=nameOf p:=by
 have h:=List.takeWhile_append_dropWhile (p:=fun b:UInt8=>b !=61) (l:=p);have h2:p=nameOf p++p.dropWhile (fun b:UInt8=>b !=61):=h.symm
 conv=>lhs;rw [h2]
 rw [eX (cH (by congr 1;rw [<-h2]))];rw [<-h2];exact bE
theorem AeQ {p:List UInt8} (h:p.contains 61=true):Lib.cut p [61]=(nameOf p,p.drop ((nameOf p).length+1),true):=by have a:=(Le p).1 h;unfold Lib.cut;rw [a,aP (by omega),Int.toNat_natCast,Oc];rfl
theorem AfN {p:List UInt8} (h:p.contains 61=false):Lib.cut p [61]=(p,[],false):=by have a:=(Le p).2 h;unfold Lib.cut;rw [a,aG (by decide)]
theorem Zr (p:List UInt8):(nameOf p).length<=p.length:=by have:=congrArg List.length (Oc p);rw [au] at this;omega
theorem Ab3:∀(l:List UInt8) (f:Bool) (v:List UInt8),Az f l=some v->v.length<=l.length:=by
 intro l
 induction h:l.length using Nat.strongRecOn generalizing l with
 | _ n ih=>
  intro f v a
  match l,h,a with
  | [],h,a=>cases a;simp
  | [c],h,a=>
   unfold Az at a;split at a
   · cases a
   · cases a;simp at h;simp;omega
  | c :: d :: r,h,a=>
   have hd:(d :: r).length<n:=by rw [<-h];simp
   have b:r.length<n:=by rw [<-h];simp;omega
   by_cases hc:c=92
   · subst hc;cases hb:Ea d with
     | true=>rw [EA f hb] at a;obtain ⟨u,hu,rfl⟩:=bH.1 a;have:=ih _ b r rfl false u hu;simp only [aO] at h⊢;omega
     | false=>
      match r,b,h,a with
      | [],b,h,a=>rw [Fq f hb] at a;cases a
      | e :: r,b,h,a=>
       cases h1:hexOf d with
       | none=>rw [CZ f hb (.inl h1)] at a;cases a
       | some x=>
        cases h2:hexOf e with
        | none=>rw [CZ f hb (.inr h2)] at a;cases a
        | some y=>
         rw [EM f hb h1 h2] at a;obtain ⟨u,hu,rfl⟩:=bH.1 a;have g:r.length<n:=by rw [<-h];simp;omega
         have:=ih _ g r rfl false u hu;simp only [aO] at h⊢;omega
   · cases hb:Dk f (d :: r).isEmpty c with
     | true=>rw [JA hc hb] at a;cases a
     | false=>rw [Ii hc hb] at a;obtain ⟨u,hu,rfl⟩:=bH.1 a;have:=ih _ hd (d :: r) rfl false u hu;simp only [aO] at h this⊢;omega
theorem readS_len {l v:List UInt8} (h:readS l=some v):v.length<=l.length:=Ab3 l true v h
end RdS
def QX (l:List UInt8) (w:World) (e:Ending) (w':World):Prop:=∃v,e=.returned (.tuple #[v,.int .i64 (RdS.Bh l).2])/\AX w' v (RdS.Bh l).1/\Below w.heap.size w w'
theorem QX.none {l:List UInt8} {w w':World} (h:RdS.Bh l=([],2)) (hb:Below w.heap.size w w'):QX l w (.returned (.tuple #[.slice none 0 0,.int .i64 2])) w':=by
 refine ⟨.slice Option.none 0 0,?_,?_,hb⟩
 · rw [h]
 · rw [h];exact AX.empty w'
def CP (T:TypeId) (l:List UInt8) (w:World) (e:Ending) (w':World):Prop:=∃v,e=.returned (.tuple #[v,.int .i64 (RdS.Bh l).2])/\AX w' v (RdS.Bh l).1/\Below w.heap.size w w'/\Tag T w' v
theorem CP.plain {l:List UInt8} {w w':World} {e:Ending} {T:TypeId} (h:CP T l w e w'):QX l w e w':=by obtain ⟨v,h1,h2,h3,_⟩:=h;exact ⟨v,h1,h2,h3⟩
theorem CP.none {T:TypeId} {l:List UInt8} {w w':World} (h:RdS.Bh l=([],2)) (hb:Below w.heap.size w w'):CP T l w (.returned (.tuple #[.slice Option.none 0 0,.int .i64 2])) w':=by
 refine ⟨.slice Option.none 0 0,?_,?_,hb,Tag.nil _ _ _ _⟩
 · rw [h]
 · rw [h];exact AX.empty w'
def Ab4 (ps:List (List UInt8)) (w0:World) (out i:Value) (wr:World):Prop:=
 ∃(k:Nat) (a:List RdS.Pr),k<=ps.length/\i=.int .i64 k/\Bg 190 wr w0.heap.size out a/\a.length=k/\RdS.CU (ps.take k)=some a/\(∀q ∈ a,q.1.length<=17/\q.2.length<=1000000)/\Below w0.heap.size w0 wr
theorem Oe {ps:List (List UInt8)} {k:Nat} (h:k<ps.length) {b:List RdS.Pr} (c:RdS.CU (ps.take k)=some b) {a:RdS.Pr} (d:RdS.CG ps[k]=some a):RdS.CU (ps.take (k+1))=some (b++[a]):=by rw [aX h,RdS.NZ,c,d]
theorem Qo {l:List UInt8} {k:Nat} {ps:List (List UInt8)} (a:RdS.Ak 43 l=ps) (h:k<ps.length) (b:RdS.CG ps[k]=none):RdS.Bh l=([],2):=by unfold RdS.Bh;rw [a,RdS.Oa (aZ h) b]
theorem Yg:(prog.info? 190).map (fun i=>(i.zero,i.size,i.bytes))=some (some (.agg #[.string ⟨#[]⟩,.string ⟨#[]⟩]),2,32):=by kernel_rfl
theorem Xi (a:Option Addr) (n c:Nat) (w:World) (g:3<n) (f:n<=1000000):Calls prog 141 #[.slice a n c] w fun e w'=>e=.returned (.bool false)/\w=w':=by
 have d:((n:Int)==0)=false:=aV.2 (by omega);have b:(3:Int)<(n:Int):=by omega
 go_enter func141,ntmps141;go_wp2_with fail;go_ret;exact ⟨rfl,rfl⟩
theorem Ab5 (l:List UInt8) (hl:l.length<=100000) (w:World) (hE:Env w):Calls prog 140 #[.string ⟨l.toArray⟩] w (CP 190 l w):=by
 have I:=Rj l 43 (by omega) (by decide) w;unfold Hn at I;have C9:=RdS.IP (sep:=43) l;have X:=RdS.EF (sep:=43) l;obtain ⟨p0,D5,A3⟩:=RdS.CQ 43 l;have P:Hid (1<=(RdS.Ak 43 l).length):=hZ9 (by rw [A3];simp);clear A3;obtain ⟨ps,V⟩:∃ps,RdS.Ak 43 l=ps:=⟨_,rfl⟩
 rw [V] at I C9 X P;have A8:=hZ9 V;have B6:=hZ9 X;clear V X;go_enter func140,ntmps140;go_wp2_with fail;refine I.mono ?_;rintro e w0 ⟨v,rfl,hv,hb0⟩;obtain ⟨a,c,rfl,hc,O⟩:=hv;generalize hn:ps.length=n at*;have HN:=hZ9 hn;have D7:=hE.below hb0;rcases O with rfl | ⟨g,o,rfl,hg,hcell⟩
 · simp at hn;exact absurd P.out (by rw [<-hn];simp)
 have W:=hZ9 hcell;clear hn hcell I;go_wp2_with fail;go_loopw [4,17] (fun out i wr=>Ab4 ps w0 out i wr) (fun _ i _=>n - (intOf i).toNat)
 case atStart=>exact ⟨0,[],aR _,rfl,Bg.empty _ _ _,rfl,rfl,by simp,Below.refl _ _⟩
 case round=>
  obtain ⟨k,M,hk,rfl,s,J,y,H,hb⟩:=hrel;rw [HN.out] at hk;have hsz:=hb.size;have f:Below w.heap.size w wr:=hb0.trans (hb.mono hb0.size);have C5:=hE.below f;by_cases C2:k<n
  · have r:k<ps.length:=by rw [HN.out];exact C2
    have C7:wr.cell? ⟨g,o+k,none⟩=some (Ac ps[k]):=(hb.cell (p:=⟨g,o+k,none⟩) hg).trans (W.out k _ (aJ r));have D4:=B6.out ps[k] (aZ r);have A:=hZ9 (Qo A8.out r);have F:=hZ9 (fun (a:RdS.Pr)=>Oe r y (a:=a));have Y:=hZ9 H;generalize ps[k]=p at*;unfold Ac at C7;clear y r H;obtain ⟨m,hm⟩:=C5.maxLen;have hcut:=strings_Cut ⟨p.toArray⟩ ⟨#[61]⟩ m wr (by show p.toArray.size<_;rw [bV];omega) hm;have dp:(⟨p.toArray⟩:ByteArray).data.toList=p:=rfl;have A6:(⟨#[61]⟩:ByteArray).data.toList=[61]:=rfl;rw [dp,A6] at hcut;clear dp A6 hm;have C:=fun (nm:List UInt8) (h:nm.length<=1000000) w=>Gq ⟨nm.toArray⟩ (by show nm.toArray.size<=_;rw [bV];omega) w;unfold Ar at C;cases h61:p.contains 61 with
    | false=>rw [RdS.AfN h61] at hcut;have E:Hid (RdS.Bh l=([],2)):=hZ9 (A.out (by unfold RdS.CG;rw [h61];rfl));clear h61 A;have S:=fun w=>C p (by omega) w;clear C;generalize RuS.typeOf (⟨p.toArray⟩:ByteArray).data.toList=ty at*;have j:=fun w=>Yz [] (by simp) w;unfold BV at j;go_wp2_with fail;refine hcut.mono ?_;rintro e w1 ⟨rfl,nd,rfl⟩;go_wp2_with fail;refine (S _).mono ?_;rintro e w2 ⟨rfl,b⟩;go_wp2_with fail;refine (j _).mono ?_;rintro e w3 ⟨rfl,d⟩;go_wp2_with fail;go_ret2;exact CP.none E.out (f.trans ((Aa (below_drewN wr nd) (Aa b d)).mono f.size))
    | true=>
     rw [RdS.AeQ h61] at hcut;have HP:Hid (RdS.CG p=if (RuS.typeOf (RdS.nameOf p)).1=[] then none else (RdS.readS (p.drop ((RdS.nameOf p).length+1))).map ((RuS.typeOf (RdS.nameOf p)).1,·)):=hZ9 (by unfold RdS.CG;rw [h61];rfl);have C1:=RdS.Zr p;have B1:(p.drop ((RdS.nameOf p).length+1)).length<=p.length:=by rw [bI];omega
     have S:=fun w=>C (RdS.nameOf p) (by omega) w;have dn:(⟨(RdS.nameOf p).toArray⟩:ByteArray).data.toList=RdS.nameOf p:=rfl;rw [dn] at S;have A7:=RuS.typeM_all (RuS.lower (RdS.nameOf p));have K:(RuS.typeOf (RdS.nameOf p)).1.length<=17:=by
      rcases A7 with e | e
      · have:RuS.typeOf (RdS.nameOf p)=([],0):=e;rw [this];simp
      · exact e.2.2.2
     have j:=fun w=>Yz (p.drop ((RdS.nameOf p).length+1)) (by omega) w;have A5:=fun v=>RdS.readS_len (l:=p.drop ((RdS.nameOf p).length+1)) (v:=v);clear h61 dn A7 C C1;unfold BV at j;generalize p.drop ((RdS.nameOf p).length+1)=rest at*;generalize RuS.typeOf (RdS.nameOf p)=ty at*;generalize RdS.nameOf p=nm at*;obtain ⟨t,sy⟩:=ty;simp only at S K;have D0:=hZ9 B1;have B4:=hZ9 A5;clear B1 A5;cases hr:RdS.readS rest with
     | none=>rw [hr] at j;have E:Hid (RdS.Bh l=([],2)):=hZ9 (A.out (by rw [HP.out,hr];split <;> rfl));clear hr A F;go_wp2_with fail;refine hcut.mono ?_;rintro e w1 ⟨rfl,nd,rfl⟩;go_wp2_with fail;refine (S _).mono ?_;rintro e w2 ⟨rfl,b⟩;go_wp2_with fail;refine (j _).mono ?_;rintro e w3 ⟨rfl,d⟩;go_wp2_with fail;go_ret2;exact CP.none E.out (f.trans ((Aa (below_drewN wr nd) (Aa b d)).mono f.size))
     | some v=>
      rw [hr] at j;have B3:=B4.out v hr;have HR:=hZ9 hr;have B5:v.length<=1000000:=by have:=D0.out;omega
      clear hr;cases R:t.isEmpty with
      | true=>have E:Hid (RdS.Bh l=([],2)):=hZ9 (A.out (by rw [HP.out,aP (by simpa using R)]));have D9:=hZ9 R;go_wp2_with fail;refine hcut.mono ?_;rintro e w1 ⟨rfl,nd,rfl⟩;go_wp2_with fail;refine (S _).mono ?_;rintro e w2 ⟨rfl,b⟩;go_wp2_with fail;refine (j _).mono ?_;rintro e w3 ⟨rfl,d⟩;go_wp2_with fail;go_ret2;exact CP.none E.out (f.trans ((Aa (below_drewN wr nd) (Aa b d)).mono f.size))
      | false=>
       have D1:=hZ9 (F.out (t,v) (by rw [HP.out,aG (by simpa using R),HR.out];rfl));obtain ⟨i0,hi,C8,D2,C6⟩:=info_parts Yg;have HI:=hZ9 hi;have A1:=hZ9 s;have D8:M.length<=1000001:=by omega
       clear A F hi s;go_wp2_with fail;refine hcut.mono ?_;rintro e w1 ⟨rfl,nd,rfl⟩;go_wp2_with fail;refine (S _).mono ?_;rintro e w2 ⟨rfl,b⟩;go_wp2_with fail;refine (j _).mono ?_;rintro e w3 ⟨rfl,d⟩;have Z:Below wr.heap.size wr w3:=Aa (below_drewN wr nd) (Aa b d);have D3:=Z.size;go_wp2_with (at_builtin;refine IW 190 151 underlying151 HI.out C8 D2 C6 (by rfl) (by rfl) _ _ (by rfl) w0.heap.size _ M (by rfl) ((A1.out.call Z).alloc _) w3.heap.size (by rfl) (t,v) ?e1 ?e2 ?e3 ?e4 ?_)
       case e1=>simp [go_sem,Ac]
       case e2=>simp [go_sem,Ac]
       case e3=>omega
       case e4=>simp;omega
       intro v' w4 A0 C3;go_wp2_with fail;go_roundw
       case rel=>
        refine ⟨k+1,M++[(t,v)],by rw [HN.out];omega,by go_num,A0,by simp [J],D1.out,?_,(hb.trans (Z.mono hsz)).alloc (by omega) _ |>.trans C3⟩;intro q y;rcases b9.1 y with y | y
        · exact Y.out q y
        · have:=ak.1 y;subst this;exact ⟨K,B5⟩
       case measure=>simp [intOf];omega
  · have C0:k=n:=by omega
    subst C0;have N:ps.take k=ps:=ag (by rw [HN.out];omega);rw [N] at y;have U:Hid (RdS.Bh l=if RdS.formedS (RdS.CE M) then (RdS.CE M,0) else ([],2)):=hZ9 (by unfold RdS.Bh;rw [A8.out,y]);have A2:M≠[]:=by intro h;have:=P.out;rw [<-J,h] at this;simp at this
    have x:=sort_c w0.heap.size _ M wr s A2 (by omega);unfold YE at x;obtain ⟨a,cp,rfl⟩:=s.form;rw [J] at x;have Y:=hZ9 H;clear N y s H;go_wp2_with fail;refine x.mono ?_;rintro e w1 ⟨rfl,B7,ys,D6,G,A9,B2⟩;have B9:=hZ9 B2;clear B2;have b:Below w.heap.size w w1:=f.trans (B7.mono hb0.size);have C4:=hZ9 A9;clear A9 x;by_cases h20:k<20
    · obtain ⟨T,B0⟩:=C4.out h20;have A4:=RdS.sort_same T B0;have L:EP ys:=fun q y=>by
       have:=Y.out q (T.mem_iff.1 y);omega
      have u:=Ld _ ys w1 G L (hE.below b);unfold JB at u;have Q:=hZ9 A4;have B8:=hZ9 G;clear T B0 A4 L G;cases z:RdS.formedS ys with
      | true=>
       have B:=hZ9 z;rw [z] at u;clear z;go_wp2_with fail;refine u.mono ?_;rintro e w2 ⟨rfl,d⟩;go_wp2_with fail;go_ret2;have e1:RdS.Bh l=(ys,0):=by rw [U.out,<-Q.out.1,aP B.out,Q.out.2 B.out]
       exact ⟨_,by rw [e1];rfl,by rw [e1];exact B8.out.call d (aA _),b.trans (d.mono b.size),B9.out.call d⟩
      | false=>have B:=hZ9 z;rw [z] at u;clear z;go_wp2_with fail;refine u.mono ?_;rintro e w2 ⟨rfl,d⟩;go_wp2_with fail;go_ret2;exact CP.none (by rw [U.out,<-Q.out.1,aG (by rw [B.out];decide)]) (b.trans (d.mono b.size))
    · have u:=Xi a k cp w1 (by omega) (by omega);have B:Hid (RdS.formedS (RdS.CE M)=false):=hZ9 (by
       unfold RdS.formedS;rw [RdS.Jg,J,aC (show ¬k<=3 by omega)];simp)
      clear G;go_wp2_with fail;refine u.mono ?_;rintro e w2 ⟨rfl,rfl⟩;go_wp2_with fail;go_ret2;exact CP.none (by rw [U.out,aG (by rw [B.out];decide)]) b
end
section
open Go.RowKit
attribute [local go_sem ↓] Go.wp_at_zero Go.wp_at_succ
def VA (l:List UInt8) (w:World) (out i:Value) (wr:World):Prop:=
 ∃(k:Nat) (acc:List UInt8),k<=l.length/\i=.int .i64 k/\OwnB wr w.heap.size out acc/\acc.length<=k/\RdS.readS l=(RdS.Az (decide (k=0)) (l.drop k)).map (acc++·)/\Below w.heap.size w wr
theorem Ab6 {w:World} {ops:Array Oper} {o:Oper} {a:Act} {K:Act->World->Prop} {Q:Exit->Act->World->Prop} {E:Prop} (n:o.guard=none) (s x:Operand)
  (r:o.op=.call { callee:=.builtin .append,args:=#[s,x],argTypes:=#[157,157] })
  (B:Nat) (v:Value) (l:List UInt8) (z:a.eval s=v) (b:OwnB w B v l) (g c:Nat) (hx:a.eval x=.slice (some ⟨g,0,none⟩) 1 c)
  (y:UInt8) (hc:w.cell? ⟨g,0,none⟩=some (Ai y)) (F:l.length<=1000000000) (hB:B<=w.heap.size)
  (A:∀e w',OwnB w' B e (l++[y])->Below B w w'->K (a.put o.dst e) w'):if Region.wanted o (yielded ops a.tmps)=true then Oper.wp prog o a w K Q else E:=by
 have C:Region.wanted o (yielded ops a.tmps)=true:=by simp [Region.wanted,n]
 rw [aP C];obtain ⟨i0,t,f,q,i⟩:=info_parts PT;refine wp_append_own w s x _ r B 5 i0 (.int .u8 0) 1 1 underlying157 t f q i rfl (by decide) v l.length (l.map Ai) z b ⟨g,0,none⟩ 1 c [Ai y] hx rfl
  (fun j u m=>?_) (fun u hu=>?_) (by unfold maxLen;omega) (by omega) hB (fun e w' h1 h2 _=>A e w' ?_ ?_)
 · have p:j=0:=by
    rcases bT j with h | h
    · exact h
    · rw [dC (by simp;omega)] at m;cases m
   subst p;have d:(⟨g,0,none⟩:Addr).add 0=⟨g,0,none⟩:=by unfold Addr.add;split <;> simp_all
   rw [d,hc]
   simpa using m
 · rw [ak] at hu;subst hu;rfl
 · unfold OwnB;rw [bP,aT];exact h1
 · exact (Below.refl B w).grown h2 hB (fun k hk=>(World.ownsRow.lt b k hk).1)
theorem Ab7 (l:List UInt8) (hl:l.length<=1000000) (w:World):Calls prog 177 #[.string ⟨l.toArray⟩] w (BV l w):=by
 go_enter func177,ntmps177;go_wp2_with fail;go_loopw [4,5] (fun out i wr=>VA l w out i wr) (fun _ i _=>l.length - (intOf i).toNat)
 case atStart=>exact ⟨0,[],aR _,rfl,OwnB.empty _ _,aR _,by simp [RdS.readS],Below.refl _ _⟩
 case round=>
  obtain ⟨k,acc,hk,rfl,o,B2,T,hb⟩:=hrel;have HK:=hZ9 hk;have O:=hZ9 T;have hsz:=hb.size;clear T hk;by_cases A5:k<l.length
  · have G:=hZ9 (av A5);generalize X:l[k]=c at*;have C0:∀h,(⟨l.toArray⟩:ByteArray)[k]'h=c:=fun _=>X;clear X;have j:Hid (RdS.Az (decide (k=0)) (l.drop k)=none->RdS.readS l=none):=hZ9 (fun h=>by rw [O.out,h];rfl);have A:Hid (∀(K:Nat) (x:UInt8) (out i:Value) (w2:World),K<=l.length->k<K->i=.int .i64 K->RdS.Az (decide (k=0)) (l.drop k)=(RdS.Az false (l.drop K)).map (x :: ·)->OwnB w2 w.heap.size out (acc++[x])->Below w.heap.size w w2->VA l w out i w2):=
     hZ9 (fun K x out i w2 h1 h2 hi h3 h4 h5=>⟨K,acc++[x],h1,hi,h4,by simp;omega,by rw [O.out,h3,Option.map_map,aC (show ¬K=0 by omega)];congr 1;funext y;simp,h5⟩)
    have B9:((k:Int)==0)=decide (k=0):=by rw [bS,af,az];omega
    by_cases h92:c=92
    · have m:=hZ9 h92;have A4:((c.toNat:Int) !=92)=false:=by rw [h92];rfl
      clear h92;by_cases A8:k+1<l.length
      · have B:=hZ9 (av A8);generalize Y:l[k+1]=d at*;have B8:∀h,(⟨l.toArray⟩:ByteArray)[k+1]'h=d:=fun _=>Y;clear Y;have S:(k:Int)+1<(l.length:Int):=by omega
        have n:=fun w=>Nq d w;have R:Hid (RdS.Ea d=(RdS.Av d||d==35||d==61||d==32)):=hZ9 rfl;have F:Hid (RdS.Ea d=true->RdS.Az (decide (k=0)) (l.drop k)=(RdS.Az false (l.drop (k+2))).map (d :: ·)):=hZ9 (fun h=>by rw [G.out,m.out,B.out,RdS.EA _ h]);generalize P:RdS.Av d=sv at*;by_cases g:sv=true\/d=35\/d=61\/d=32
        · have A7:Hid (RdS.Ea d=true):=hZ9 (by rw [R.out];rcases g with rfl | rfl | rfl | rfl <;> simp);have B0:=hZ9 (F.out A7.out);have L:sv=true\/(sv=false/\((d.toNat:Int)==35)=true)\/(sv=false/\((d.toNat:Int)==35)=false/\((d.toNat:Int)==61)=true)\/(sv=false/\((d.toNat:Int)==35)=false/\((d.toNat:Int)==61)=false/\((d.toNat:Int)==32)=true):=by
           rcases g with rfl | rfl | rfl | rfl
           · exact .inl rfl
           · cases sv <;> simp
           · cases sv <;> simp
           · cases sv <;> simp
          have C1:=hZ9 P;clear g P;rcases L with rfl | ⟨rfl,g1⟩ | ⟨rfl,g1,g2⟩ | ⟨rfl,g1,g2,g3⟩
          all_goals
           go_wp2_with fail;refine (n _).mono ?_;rintro e w1 ⟨rfl,rfl⟩;go_wp2_with (at_builtin;refine Eh (by rfl) _ _ (by rfl) w.heap.size _ acc (by rfl) (o.alloc _) wr.heap.size 1 1 (by rfl) [d] (by rfl) ?c1 ?c2 ?c3 ?_)
           case c1=>first | exact one_cell (by simp [go_sem,Ai]) | exact Fh _
           case c2=>omega
           case c3=>simp;omega
           intro v' w2 a s;go_wp2_with fail;go_roundw
           case rel=>exact A.out (k+2) d _ _ _ (by omega) (by omega) (by go_num) B0.out a ((hb.alloc hsz _).trans s)
           case measure=>simp [intOf];omega
        · have A9:sv=false:=by cases sv with | true=>exact absurd (.inl rfl) g | false=>rfl
          subst A9;have C:Hid (RdS.Ea d=false):=hZ9 (by
           rw [R.out];have n1:(d==35)=false:=by simpa using fun h=>g (.inr (.inl h))
           have n2:(d==61)=false:=by simpa using fun h=>g (.inr (.inr (.inl h)))
           have n3:(d==32)=false:=by simpa using fun h=>g (.inr (.inr (.inr h)))
           rw [n1,n2,n3];rfl)
          have g1:((d.toNat:Int)==35)=false:=aV.2 (fun h=>g (.inr (.inl (Di rfl h))));have g2:((d.toNat:Int)==61)=false:=aV.2 (fun h=>g (.inr (.inr (.inl (Di rfl h)))));have g3:((d.toNat:Int)==32)=false:=aV.2 (fun h=>g (.inr (.inr (.inr (Di rfl h)))));clear g P F;by_cases A3:k+2<l.length
          · have I:=hZ9 (av A3);generalize Q:l[k+2]=f at*;have C5:∀h,(⟨l.toArray⟩:ByteArray)[k+2]'h=f:=fun _=>Q;clear Q;have H:decide ((l.length:Int)<=(k:Int)+2)=false:=aC (by omega);have B4:(k:Int)+2<(l.length:Int):=by omega
            have q:=fun w=>Aaq d w;have t:=fun w=>Aaq f w;rcases RdS.IQ d with ⟨W,U⟩ | ⟨x,hx,J,B5⟩
            · rw [U] at q;have p:Hid (RdS.readS l=none):=hZ9 (j.out (by rw [G.out,m.out,B.out,show k+1+1=k+2 from rfl,I.out,RdS.CZ _ C.out (.inl W)]));clear W U t;go_wp2_with fail;refine (n _).mono ?_;rintro e w0 ⟨rfl,rfl⟩;go_wp2_with fail;refine (q _).mono ?_;rintro e w1 ⟨rfl,rfl⟩;go_wp2_with fail;go_ret2;exact BV.none p.out hb
            · rcases RdS.IQ f with ⟨W,U⟩ | ⟨y,hy,A2,B3⟩
              · rw [J] at q;rw [U] at t;have p:Hid (RdS.readS l=none):=hZ9 (j.out (by rw [G.out,m.out,B.out,show k+1+1=k+2 from rfl,I.out,RdS.CZ _ C.out (.inr W)]));have A6:decide ((x:Int)<0)=false:=aC (by omega);clear W U hx J;go_wp2_with fail;refine (n _).mono ?_;rintro e w0 ⟨rfl,rfl⟩;go_wp2_with fail;refine (q _).mono ?_;rintro e w1 ⟨rfl,rfl⟩;go_wp2_with fail;refine (t _).mono ?_;rintro e w2 ⟨rfl,rfl⟩;go_wp2_with fail;go_ret2;exact BV.none p.out hb
              · have F:Hid (RdS.Az (decide (k=0)) (l.drop k)=(RdS.Az false (l.drop (k+3))).map (UInt8.ofNat (16*x+y) :: ·)):=hZ9 (by
                 rw [G.out,m.out,B.out,show k+1+1=k+2 from rfl,I.out,RdS.EM _ C.out hx hy])
                obtain ⟨z,hz⟩:∃z:UInt8,z=UInt8.ofNat (16*x+y):=⟨_,rfl⟩
                have V:(z.toNat:Int)=16*(x:Int)+(y:Int):=by rw [hz,bu];omega
                rw [<-hz] at F;have Z:=z.toNat_lt;have B1:(16:Int)*(x:Int)+(y:Int)=(z.toNat:Int):=V.symm;have C6:IntKind.u8.wrap (z.toNat:Int)=(z.toNat:Int):=by rw [IntKind.wrap_u8];omega
                have C3:IntKind.i64.wrap (z.toNat:Int)=(z.toNat:Int):=by rw [IntKind.wrap_i64];omega
                have C4:IntKind.i64.wrap (16*(x:Int))=16*(x:Int):=by rw [IntKind.wrap_i64];omega
                have A6:decide ((x:Int)<0)=false:=aC (by omega);have C7:decide ((y:Int)<0)=false:=aC (by omega);have j1:(0:Int)<=(k:Int)+1:=by omega
                have j2:(0:Int)<=(k:Int)+2:=by omega
                have t1:((k:Int)+1).toNat=k+1:=by omega
                have t2:((k:Int)+2).toNat=k+2:=by omega
                have C8:IntKind.i64.wrap ((k:Int)+1)=(k:Int)+1:=by rw [IntKind.wrap_i64];omega
                have B6:IntKind.i64.wrap ((k:Int)+2)=(k:Int)+2:=by rw [IntKind.wrap_i64];omega
                clear hx hy hz V;rw [J] at q;rw [A2] at t;go_wp2_with fail;refine (n _).mono ?_;rintro e w0 ⟨rfl,rfl⟩;go_wp2_with fail;refine (q _).mono ?_;rintro e w1 ⟨rfl,rfl⟩;go_wp2_with fail;refine (t _).mono ?_;rintro e w2 ⟨rfl,rfl⟩;go_wp2_with fail;have M:=o;clear q t n o
                go_region_law (first
                 | (refine Ab6 (by rfl) _ _ (by rfl) w.heap.size _ acc (by rfl) (World.ownsRow.alloc M _) wr.heap.size 1 (by rfl) z (by simp [go_sem,Ai]) (by omega) (by simp;omega) ?_;intro v' w2 a s)
                 | (go_simp;go_at_call 199;refine (Aaq _ _).mono ?_;rintro e w1 ⟨rfl,rfl⟩))
                all_goals go_wp2_with fail
                all_goals go_roundw
                all_goals first | (simp [intOf];omega) | exact A.out (k+3) z _ _ _ (by omega) (by omega) (by go_num) F.out a ((hb.drew.alloc hsz _).trans s)
          · have H:(l.length:Int)<=(k:Int)+2:=by omega
            have b:l.drop (k+1+1)=[]:=bM (by omega);have p:Hid (RdS.readS l=none):=hZ9 (j.out (by rw [G.out,m.out,B.out,b,RdS.Fq _ C.out]));clear b;go_wp2_with fail;refine (n _).mono ?_;rintro e w0 ⟨rfl,rfl⟩;go_wp2_with fail;go_ret2;exact BV.none p.out hb
      · have S:decide ((k:Int)+1<(l.length:Int))=false:=aC (by omega);have H:(l.length:Int)<=(k:Int)+2:=by omega
        have b:l.drop (k+1)=[]:=bM (by omega);have p:Hid (RdS.readS l=none):=hZ9 (j.out (by rw [G.out,m.out,b,RdS.Iu]));clear b;go_wp2_with fail;go_ret2;exact BV.none p.out hb
    · have m:=hZ9 h92;have A4:((c.toNat:Int) !=92)=true:=by rw [fK];exact fun h=>m.out (Di rfl h)
      clear h92;have N:(l.drop (k+1)).isEmpty=decide (k+1=l.length):=by rw [bS,dA,eW,az];omega
      have u:Hid (RdS.Dk (decide (k=0)) (decide (k+1=l.length)) c=true->RdS.readS l=none):=hZ9 (fun h=>j.out (by rw [G.out];exact RdS.JA m.out (by rw [N];exact h)));have A1:Hid (RdS.Dk (decide (k=0)) (decide (k+1=l.length)) c=false->RdS.Az (decide (k=0)) (l.drop k)=(RdS.Az false (l.drop (k+1))).map (c :: ·)):=hZ9 (fun h=>by rw [G.out];exact RdS.Ii m.out (by rw [N];exact h));have el:((k:Int)==(l.length:Int) - 1)=decide (k+1=l.length):=by rw [bS,af,az];omega
      have E:Hid (∀f last,RdS.Dk f last c=(RdS.Av c||c==0||(c==32&&(f||last))||(c==35&&f))):=hZ9 (fun _ _=>rfl);have e0:((c.toNat:Int)==0)=(c==0):=by rw [bS,af,af];exact ⟨fun h=>Di rfl h,fun h=>by rw [h];rfl⟩
      have C2:((c.toNat:Int)==32)=(c==32):=by rw [bS,af,af];exact ⟨fun h=>Di rfl h,fun h=>by rw [h];rfl⟩
      have B7:((c.toNat:Int)==35)=(c==35):=by rw [bS,af,af];exact ⟨fun h=>Di rfl h,fun h=>by rw [h];rfl⟩
      have r:=fun w=>Nq c w;have v:=hZ9 (fun out w2=>A.out (k+1) c out _ w2 (by omega) (by omega) rfl);clear N;generalize decide (k+1=l.length)=ql at*;generalize decide (k=0)=qf at*;generalize RdS.Av c=sv at*;generalize (c==0)=z0 at*;generalize (c==32)=z32 at*;generalize (c==35)=z35 at*;cases sv
      case true=>have p:=hZ9 (u.out (by rw [E.out];rfl));go_wp2_with fail;refine (r _).mono ?_;rintro e w1 ⟨rfl,rfl⟩;go_wp2_with fail;go_ret2;exact BV.none p.out hb
      cases z0
      case true=>have p:=hZ9 (u.out (by rw [E.out];rfl));go_wp2_with fail;refine (r _).mono ?_;rintro e w1 ⟨rfl,rfl⟩;go_wp2_with fail;go_ret2;exact BV.none p.out hb
      cases z32 <;> cases z35 <;> cases qf <;> cases ql
      all_goals first
       | (have p:=hZ9 (u.out (by rw [E.out];rfl))
          go_wp2_with fail;refine (r _).mono ?_;rintro e w1 ⟨rfl,rfl⟩;go_wp2_with fail;go_ret2;exact BV.none p.out hb)
       | (have F:=hZ9 (A1.out (by rw [E.out];rfl))
          go_wp2_with fail;refine (r _).mono ?_;rintro e w1 ⟨rfl,rfl⟩;go_wp2_with (at_builtin;refine Eh (by rfl) _ _ (by rfl) w.heap.size _ acc (by rfl) (o.alloc _) wr.heap.size 1 1 (by rfl) [c] (by rfl) (by first | exact one_cell (by simp [go_sem,Ai]) | exact Fh _) (by omega) (by simp;omega) ?_)
          intro v' w2 a s;go_wp2_with fail;go_roundw
          · first | exact v.out _ _ F.out a ((hb.alloc hsz _).trans s) | (simp [intOf];omega)
          · first | exact v.out _ _ F.out a ((hb.alloc hsz _).trans s) | (simp [intOf];omega))
  · have b:l.drop k=[]:=bM (by omega);have p:Hid (RdS.readS l=some acc):=hZ9 (by rw [O.out,b];simp [RdS.Az]);have A0:=o.back;clear b;go_wp2_with fail;go_ret2;exact ⟨by rw [p.out];rfl,hb⟩
end
end Go.Proofs.YtgngjfjaelgaeaaGreatDoor
