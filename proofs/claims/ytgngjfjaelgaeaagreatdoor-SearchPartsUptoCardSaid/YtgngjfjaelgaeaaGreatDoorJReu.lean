/- The walks of a step of following aliases, the program's and the document's. Conditions: as stated. -/
import Derived.Test.YtgngjfjaelgaeaaGreatDoorJCqa
set_option maxRecDepth 100000
set_option maxHeartbeats 8000000
namespace Go.Proofs.YtgngjfjaelgaeaaGreatDoor
open Go.Proofs.Tryz
section
open Go.RowKit
namespace EnS
def VG (o:Option (List UInt8 × List UInt8)):Int:=match o with | none=>-1 | some p=>((DnS.Ae p.1).1.length:Int)
def frO (o:Option (List UInt8 × List UInt8)):List UInt8:=match o with | none=>[] | some p=>p.1
def toO (o:Option (List UInt8 × List UInt8)):List UInt8:=match o with | none=>[] | some p=>p.2
theorem AbJ {n:List UInt8} {acc:Option (List UInt8 × List UInt8)} {e:En} (h:(Dm e).2=false):Fa n acc e=acc:=by unfold Fa KB;rw [h];rfl
theorem VH {n:List UInt8} {acc:Option (List UInt8 × List UInt8)} {e:En} (h:DnS.EW n e.name=false):Fa n acc e=acc:=by unfold Fa KB;rw [h,bX];rfl
theorem VI {n:List UInt8} {e:En} (h:(Dm e).2=true) (h2:DnS.EW n e.name=true):Fa n none e=some (e.name,(Dm e).1):=by unfold Fa KB;rw [h,h2];rfl
theorem Xj {n:List UInt8} {q:List UInt8 × List UInt8} {e:En} (h:(Dm e).2=true) (h2:DnS.EW n e.name=true) (h3:(DnS.Ae e.name).1.length<(DnS.Ae q.1).1.length):Fa n (some q) e=some (e.name,(Dm e).1):=by
 have hb:KB n (some q) e=true:=by
  show ((Dm e).2&&DnS.EW n e.name&&decide ((DnS.Ae e.name).1.length<(DnS.Ae q.1).1.length))=true
  rw [h,h2,aL h3];rfl
 unfold Fa;rw [aP hb]
theorem Xk {n:List UInt8} {q:List UInt8 × List UInt8} {e:En} (h3:¬(DnS.Ae e.name).1.length<(DnS.Ae q.1).1.length):Fa n (some q) e=some q:=by
 have hb:¬KB n (some q) e=true:=by
  show ¬((Dm e).2&&DnS.EW n e.name&&decide ((DnS.Ae e.name).1.length<(DnS.Ae q.1).1.length))=true
  rw [aC h3,bX];simp
 unfold Fa;rw [aG hb]
theorem VJ {n:List UInt8}:∀{l:List En} {acc:Option (List UInt8 × List UInt8)} {q:List UInt8 × List UInt8},l.foldl (Fa n) acc=some q->acc=some q\/∃e ∈ l,q=(e.name,(Dm e).1)
 | [],_,_,h=>.inl h
 | e :: l,acc,q,h=>by
  rw [List.foldl_cons] at h;rcases VJ h with h | ⟨x,hx,h⟩
  · unfold Fa at h;split at h
    · exact .inr ⟨e,ai ..,(aU h).symm⟩
    · exact .inl h
  · exact .inr ⟨x,ar _ hx,h⟩
theorem Zw (v:List UInt8):(DnS.AG Dz v).1.length<=1000:=by
 have h5:(RuS.typeOf Dz).2=5:=by decide+kernel
 unfold DnS.AG;rw [aP h5];split
 · simp
 · split
   · exact DnS.Hw v
   · simp
theorem AbK (e:En):(Dm e).1.length<=1000:=by
 unfold Dm Wi;split
 · simp
 · split
   · exact Zw _
   · simp
theorem VK {n:List UInt8} {l:List En} {q:List UInt8 × List UInt8} (h:Ge n l=some q) (a:∀e ∈ l,e.name.length<=1000000):q.1.length<=1000000/\q.2.length<=1000000:=by
 rcases VJ h with h | ⟨e,b,rfl⟩
 · cases h
 · exact ⟨a e b,aY (AbK e) (by decide)⟩
end EnS
def Eb (xs:List EnS.En):Prop:=xs.length<=1048576/\∀x ∈ xs,x.name.length<=1000000/\GW x.attrs
def BZ (r:List UInt8 × Bool × Int) (w:World) (e:Ending) (w':World):Prop:=e=.returned (.tuple #[.string ⟨r.1.toArray⟩,.bool r.2.1,.int .i64 r.2.2])/\Below w.heap.size w w'
theorem BZ.mk' {r q:List UInt8 × Bool × Int} {w w':World} (h:r=q) (hb:Below w.heap.size w w'):BZ r w (.returned (.tuple #[.string ⟨q.1.toArray⟩,.bool q.2.1,.int .i64 q.2.2])) w':=by subst h;exact ⟨rfl,hb⟩
theorem AbL {l:List EnS.En} {s n:List UInt8} {e:Int} (h:DnS.Aw s=(n,e)) (a:e≠0):EnS.stepS l s=([],false,34):=by unfold EnS.stepS;rw [h,aG a]
theorem Zx {l:List EnS.En} {s n:List UInt8} (h:DnS.Aw s=(n,0)):EnS.stepS l s=EnS.NE n (EnS.Ge n l):=by unfold EnS.stepS;rw [h];exact aP rfl
theorem Zy {n:List UInt8} {q:List UInt8 × List UInt8} {x:List UInt8} (h:DnS.Dc n q.1 q.2=(x,0)):EnS.NE n (some q)=(x,true,0):=by
 show (if (DnS.Dc n q.1 q.2).2=0 then ((DnS.Dc n q.1 q.2).1,true,0) else ([],false,33))=_
 rw [h];exact aP rfl
theorem AbM {n:List UInt8} {q:List UInt8 × List UInt8} {x:List UInt8} {e:Int} (h:DnS.Dc n q.1 q.2=(x,e)) (a:e≠0):EnS.NE n (some q)=([],false,33):=by
 show (if (DnS.Dc n q.1 q.2).2=0 then ((DnS.Dc n q.1 q.2).1,true,0) else ([],false,33))=_
 rw [h];exact aG a
theorem AfQ (v:Value) (xs:List EnS.En) (s:List UInt8) (w:World) (hE:Env w) (h:Cm w v xs) (hf:Eb xs) (hs:s.length<=1000000):
  Calls prog 39 #[v,.string ⟨s.toArray⟩] w (BZ (EnS.stepS xs s) w):=by
 have h1:=IJ s hs w hE;unfold Cb at h1;have B0:=DnS.Hw s;have HB:=hZ9 (fun n e=>AbL (l:=xs) (s:=s) (n:=n) (e:=e));have HG:=hZ9 (fun n=>Zx (l:=xs) (s:=s) (n:=n));generalize EnS.stepS xs s=R at*;obtain ⟨n,e0⟩:∃n e,DnS.Aw s=(n,e):=⟨_,_,rfl⟩
 obtain ⟨e0,T⟩:=e0;rw [T] at h1 B0;simp only at h1 B0;obtain ⟨hl,V⟩:=hf;obtain ⟨a,c,rfl,hc,B2⟩:=Ad.at h;have B6:=hZ9 B2;have B1:=hZ9 (fun k (h:k<xs.length)=>V xs[k] (aZ h));have Y:=hZ9 (fun k (h:k<xs.length)=>EnS.Acs (n:=n) h);have U:=hZ9 (fun q (h:EnS.Ge n xs=some q)=>EnS.VK h (fun e he=>(V e he).1));have X:=hZ9 (fun k q (h:EnS.Ge n (xs.take k)=some q)=>EnS.VK h (fun e he=>(V e (dN he)).1));clear B2 h V;by_cases he:e0=0
 case neg=>
  have HR:=hZ9 (HB.out n e0 T he);have C2:(e0 !=0)=true:=by simpa using he
  clear HB HG T B6 B1 Y U X;generalize xs.length=m at*;go_enter func39,ntmps39;go_wp2_with fail;refine h1.mono ?_;rintro e w1 ⟨rfl,A3⟩;go_wp2_with fail
  go_ret3
  exact BZ.mk' HR.out A3
 subst he;have HR:=hZ9 (HG.out n T);clear HB HG T;generalize B5:xs.length=m at hc hl⊢;have HN:=hZ9 B5;clear B5;go_enter func39,ntmps39;go_wp2_with fail;refine h1.mono ?_;rintro e w1 ⟨rfl,A3⟩;go_wp2_with fail;go_loopw [9,10,11,26] (fun l f t i wr=>∃k:Nat,k<=m/\i=.int .i64 k/\l=.int .i64 (EnS.VG (EnS.Ge n (xs.take k)))/\f=.string ⟨(EnS.frO (EnS.Ge n (xs.take k))).toArray⟩/\t=.string ⟨(EnS.toO (EnS.Ge n (xs.take k))).toArray⟩/\Below w.heap.size w wr) (fun _ _ _ i _=>m - (intOf i).toNat)
 case atStart=>exact ⟨0,aR _,rfl,rfl,rfl,rfl,A3⟩
 case round=>
  obtain ⟨k,hk,rfl,rfl,rfl,rfl,hb⟩:=hrel;by_cases C0:k<m
  · have L:k<xs.length:=by rw [HN.out];exact C0
    obtain ⟨g,o,rfl,hg,_,hra⟩:=B6.out k L;have A9:=Df.call hra hg trivial hb;obtain ⟨c0,a1,p1,c1,C1,F⟩:=Df.parts A9;have B7:=B1.out k L;have b:=hZ9 (Y.out k L);have C6:=hZ9 (X.out k);clear hra A9 Y X;generalize xs[k]=x at*;clear L;obtain ⟨name,attrs⟩:=x;obtain ⟨A4,A5⟩:=B7;simp only at c0 c1 C1 F A4 A5;generalize EnS.Ge n (xs.take k)=A at*;have A2:=Af wr (.cells #[.string ⟨name.toArray⟩,.slice a1 attrs.length p1] 52);have B:=Whole.made wr 52 #[.string ⟨name.toArray⟩,.slice a1 attrs.length p1];have O:=(hE.below hb).below A2;have A0:=F.call A2;have j:=hb.trans (A2.mono hb.size);have H:=XM name attrs _ _ O A0 A5;have P:=fun w hE=>Aay name A4 w hE;have S:=fun w hE=>Rt n name (by omega) A4 w hE;have N:=hZ9 (EnS.AbJ (n:=n) (acc:=A) (e:=⟨name,attrs⟩));have Q:=hZ9 (EnS.VH (n:=n) (acc:=A) (e:=⟨name,attrs⟩));have I:=hZ9 (EnS.VI (n:=n) (e:=⟨name,attrs⟩));have z:=hZ9 (fun q=>EnS.Xj (n:=n) (q:=q) (e:=⟨name,attrs⟩));have C:=hZ9 (fun q=>EnS.Xk (n:=n) (q:=q) (e:=⟨name,attrs⟩));unfold Px at H;unfold TW at P;unfold Ef at S;simp only at Q I z C;generalize EnS.Dm ⟨name,attrs⟩=AL at*;obtain ⟨tg,al⟩:=AL;generalize DnS.EW n name=un at*;simp only at H N I z;generalize B3:(DnS.Ae name).1.length=dl at*;have A8:=hZ9 B3;clear B3;generalize A7:attrs.length=n1 at*;clear F A7 A0 A5;cases al with
    | false=>
     have b:=hZ9 (b.out.trans (N.out rfl));clear N Q I z C S;go_wp2_with fail;refine H.mono ?_;rintro e wa ⟨rfl,hx1⟩;have r:=j.trans (hx1.mono j.size);have p:=O.below hx1;have J:=(B.call hx1).cell 0;have K:=(B.call hx1).cell 1;simp only [aI,aH,aK] at J K;go_wp2_with fail;refine (P _ p).mono ?_;rintro e wb ⟨rfl,d⟩;have u:=r.trans (d.mono r.size);have G:=p.below d;have q2:=Ab J d;have q3:=Ab K d;go_wp2_with fail;go_roundw
     case rel=>exact ⟨k+1,by omega,by go_num,by rw [b.out],by rw [b.out],by rw [b.out],u⟩
     case measure=>simp [intOf];omega
    | true=>
     cases un with
     | false=>
      have b:=hZ9 (b.out.trans (Q.out rfl));clear N Q I z C;go_wp2_with fail;refine H.mono ?_;rintro e wa ⟨rfl,hx1⟩;have r:=j.trans (hx1.mono j.size);have p:=O.below hx1;have J:=(B.call hx1).cell 0;have K:=(B.call hx1).cell 1;simp only [aI,aH,aK] at J K;go_wp2_with fail;refine (P _ p).mono ?_;rintro e wb ⟨rfl,d⟩;have u:=r.trans (d.mono r.size);have G:=p.below d;have q2:=Ab J d;have q3:=Ab K d;go_wp2_with fail;refine (S _ G).mono ?_;rintro e wc ⟨rfl,y⟩;have E:=u.trans (y.mono u.size);have q4:=Ab q2 y;go_wp2_with fail;go_roundw
      case rel=>exact ⟨k+1,by omega,by go_num,by rw [b.out],by rw [b.out],by rw [b.out],E⟩
      case measure=>simp [intOf];omega
     | true=>
      cases A with
      | none=>
       have b:=hZ9 (b.out.trans (I.out rfl rfl));clear N Q I z C;simp only [EnS.VG,EnS.frO,EnS.toO];go_wp2_with fail;refine H.mono ?_;rintro e wa ⟨rfl,hx1⟩;have r:=j.trans (hx1.mono j.size);have p:=O.below hx1;have J:=(B.call hx1).cell 0;have K:=(B.call hx1).cell 1;simp only [aI,aH,aK] at J K;go_wp2_with fail;refine (P _ p).mono ?_;rintro e wb ⟨rfl,d⟩;have u:=r.trans (d.mono r.size);have G:=p.below d;have q2:=Ab J d;have q3:=Ab K d;go_wp2_with fail;refine (S _ G).mono ?_;rintro e wc ⟨rfl,y⟩;have E:=u.trans (y.mono u.size);have q4:=Ab q2 y;go_wp2_with fail
       go_quiet (fail)
       go_wp2_with fail;go_roundw
       case rel=>exact ⟨k+1,by omega,by go_num,by rw [b.out];show _=Value.int .i64 ((DnS.Ae name).1.length:Int);rw [A8.out],by rw [b.out],by rw [b.out],(E.trans ((below_drewN wc nq).mono E.size))⟩
       case measure=>simp [intOf];omega
      | some q=>
       have z:=hZ9 (z.out q rfl rfl);have C:=hZ9 (C.out q);clear N Q I;simp only [EnS.VG,EnS.frO,EnS.toO];obtain ⟨qa,qb⟩:=q;simp only at z C⊢;generalize B4:(DnS.Ae qa).1.length=ql at*;have B9:=hZ9 B4;clear B4;have C3:decide ((ql:Int)<0)=false:=aC (by omega);by_cases hd:dl<ql
       · have b:=hZ9 (b.out.trans (z.out hd));have C5:decide ((dl:Int)<(ql:Int))=true:=aL (by omega);clear z C;go_wp2_with fail;refine H.mono ?_;rintro e wa ⟨rfl,hx1⟩;have r:=j.trans (hx1.mono j.size);have p:=O.below hx1;have J:=(B.call hx1).cell 0;have K:=(B.call hx1).cell 1;simp only [aI,aH,aK] at J K;go_wp2_with fail;refine (P _ p).mono ?_;rintro e wb ⟨rfl,d⟩;have u:=r.trans (d.mono r.size);have G:=p.below d;have q2:=Ab J d;have q3:=Ab K d;go_wp2_with fail;refine (S _ G).mono ?_;rintro e wc ⟨rfl,y⟩;have E:=u.trans (y.mono u.size);have q4:=Ab q2 y;go_wp2_with fail
         go_quiet (fail)
         go_wp2_with fail;go_roundw
         case rel=>exact ⟨k+1,by omega,by go_num,by rw [b.out];show _=Value.int .i64 ((DnS.Ae name).1.length:Int);rw [A8.out],by rw [b.out],by rw [b.out],(E.trans ((below_drewN wc nq).mono E.size))⟩
         case measure=>simp [intOf];omega
       · have b:=hZ9 (b.out.trans (C.out hd));have C5:decide ((dl:Int)<(ql:Int))=false:=aC (by omega);clear z C;go_wp2_with fail;refine H.mono ?_;rintro e wa ⟨rfl,hx1⟩;have r:=j.trans (hx1.mono j.size);have p:=O.below hx1;have J:=(B.call hx1).cell 0;have K:=(B.call hx1).cell 1;simp only [aI,aH,aK] at J K;go_wp2_with fail;refine (P _ p).mono ?_;rintro e wb ⟨rfl,d⟩;have u:=r.trans (d.mono r.size);have G:=p.below d;have q2:=Ab J d;have q3:=Ab K d;go_wp2_with fail;refine (S _ G).mono ?_;rintro e wc ⟨rfl,y⟩;have E:=u.trans (y.mono u.size);have q4:=Ab q2 y;go_wp2_with fail;go_roundw
         case rel=>exact ⟨k+1,by omega,by go_num,by rw [b.out];show _=Value.int .i64 ((DnS.Ae qa).1.length:Int);rw [B9.out],by rw [b.out],by rw [b.out],E⟩
         case measure=>simp [intOf];omega
  · have A1:xs.take k=xs:=ag (by rw [HN.out];omega);rw [A1];clear Y X A1;obtain ⟨A,hA⟩:∃A,EnS.Ge n xs=A:=⟨_,rfl⟩
    rw [hA] at HR⊢;cases A with
    | none=>
     have HZ:Hid (R=(n,false,0)):=hZ9 HR.out;clear hA U;simp only [EnS.VG,EnS.frO,EnS.toO];go_wp2_with fail
     go_ret3
     exact BZ.mk' HZ.out hb
    | some q=>
     obtain ⟨C4,B8⟩:=U.out q hA;have M:=AcO n q.1 q.2 (by omega) C4 B8 wr (hE.below hb);have W:=hZ9 (fun x=>Zy (n:=n) (q:=q) (x:=x));have Z:=hZ9 (fun x e=>AbM (n:=n) (q:=q) (x:=x) (e:=e));unfold Cb at M;clear hA U;generalize EnS.NE n (some q)=TR at*;simp only [EnS.VG,EnS.frO,EnS.toO];obtain ⟨qa,qb⟩:=q;simp only at M W Z⊢;obtain ⟨x,e1,hM⟩:∃x e,DnS.Dc n qa qb=(x,e):=⟨_,_,rfl⟩
     rw [hM] at M;simp only at M;generalize (DnS.Ae qa).1.length=ql at*;have C3:decide ((ql:Int)<0)=false:=aC (by omega);by_cases A6:e1=0
     · subst A6;have HZ:=hZ9 (HR.out.trans (W.out x hM));clear W Z HR hM;go_wp2_with fail;refine M.mono ?_;rintro e w2 ⟨rfl,j⟩;go_wp2_with fail
       go_ret3
       exact BZ.mk' HZ.out (hb.trans (j.mono hb.size))
     · have C2:(e1 !=0)=true:=by simpa using A6
       have HZ:=hZ9 (HR.out.trans (Z.out x e1 hM A6));clear W Z HR hM;go_wp2_with fail;refine M.mono ?_;rintro e w2 ⟨rfl,j⟩;go_wp2_with fail
       go_ret3
       exact BZ.mk' HZ.out (hb.trans (j.mono hb.size))
end
section
open Go.RowKit
theorem AbN {a b:List UInt8} (h:(⟨a.toArray⟩:ByteArray)=⟨b.toArray⟩):a=b:=by
 have:=congrArg (fun x:ByteArray=>x.data.toList) h
 simpa using this
theorem VM (xs:List (List UInt8)) (l:List UInt8):Lib.containsS (xs.map fun l=>(⟨l.toArray⟩:ByteArray)) ⟨l.toArray⟩=xs.contains l:=by
 rw [bS,Lib.containsS_iff,cZ,bD];constructor
 · rintro ⟨x,hx,a⟩;rw [<-AbN a];exact hx
 · intro h;exact ⟨l,h,rfl⟩
theorem contains_c (v:Value) (xs:List (List UInt8)) (l:List UInt8) (w:World) (h:Ah w v xs) (i:xs.length<=1048576):Calls prog 50 #[v,.string ⟨l.toArray⟩] w fun e w'=>e=.returned (.bool (xs.contains l))/\w'=w:=by
 obtain ⟨a,c,rfl,hc,b⟩:=h;rcases b with rfl | ⟨g,o,rfl,k,hcell⟩
 · exact slices_Contains_string_empty a c ⟨l.toArray⟩ w
 · refine (slices_Contains_string g o xs.length c (xs.map fun l=>⟨l.toArray⟩) ⟨l.toArray⟩ w (by simp) (by omega) (fun j f=>?_)).mono ?_
   · have d:j<xs.length:=by simpa using f
     rw [hcell j _ (aJ d)];unfold Ac;simp [List.getD,d]
   · rintro e w' ⟨rfl,rfl⟩;rw [ag (by simp),VM];exact ⟨rfl,rfl⟩
theorem Zz {w:World} {ops:Array Oper} {rest:List Oper} {o:Oper} {a:Act} {Q:Exit->Act->World->Prop} (l:o.guard=none) (s x:Operand)
  (p:o.op=.call { callee:=.builtin .append,args:=#[s,x],argTypes:=#[23,23] })
  (B:Nat) (v:Value) (xs:List (List UInt8)) (r:a.eval s=v) (b:Own w B v xs) (g:Nat) (hx:a.eval x=.slice (some ⟨g,0,Option.none⟩) 1 1)
  (y:List UInt8) (hc:w.cell? ⟨g,0,Option.none⟩=some (Ac y)) (t:xs.length<=1000000000) (hB:B<=w.heap.size)
  (h:∀d w',Own w' B d (xs++[y])->Below B w w'->w.grownBy w' v.ownBlock->wpList prog ops Q rest (a.put o.dst d) w'):wpList prog ops Q (o :: rest) a w:=by
 obtain ⟨i0,q,e,n,f⟩:=info_parts Hq;refine wpList_append_own w l s x _ p B 9 i0 (.string ⟨#[]⟩) 1 16 underlying23 q e n f rfl (by decide) v xs.length (xs.map Ac) r b ⟨g,0,Option.none⟩ 1 1 [Ac y] hx rfl
  (fun j u i=>?_) (fun u hu=>?_) (by unfold maxLen;omega) (by omega) hB (fun d w' h1 h2 _=>h d w' ?_ ?_ h2)
 · have m:j=0:=by
    rcases bT j with h | h
    · exact h
    · rw [dC (by simp;omega)] at i;cases i
   subst m;have c:(⟨g,0,Option.none⟩:Addr).add 0=⟨g,0,Option.none⟩:=by unfold Addr.add;split <;> simp_all
   rw [c,hc]
   simpa using i
 · rw [ak] at hu;subst hu;rfl
 · unfold Own;rw [bP,aT];exact h1
 · exact (Below.refl B w).grown h2 hB (fun k hk=>(World.ownsRow.lt b k hk).1)
def EH (w:World) (B b:Nat) (seen:List (List UInt8)):Prop:=∃v,Whole w b 116 #[v]/\Own w B v seen/\B<=b
theorem Own.apart {w:World} {B:Nat} {v:Value} {xs:List (List UInt8)} (h:Own w B v xs) {b:Nat} {T:TypeId} {cs:Array Value} (hb:Whole w b T cs) (a:T≠9):v.ownBlock≠some b:=fun e=>by
 rcases h.2 with ⟨rfl,_⟩ | ⟨g,cap,cur,rfl,_,c,_⟩
 · cases e
 · have:g=b:=by simpa [Value.ownBlock] using e
   subst this;unfold Whole at hb;rw [c] at hb;simp only [bn,Obj.cells.injEq] at hb;exact a hb.2.1.symm
theorem EH.call {w w':World} {B b:Nat} {seen:List (List UInt8)} (h:EH w B b seen) (hb:Below w.heap.size w w'):EH w' B b seen:=by obtain ⟨v,h1,h2,h3⟩:=h;exact ⟨v,h1.call hb,h2.call hb,h3⟩
def Ad7 (l:List UInt8) (w:World) (e:Ending) (w':World):Prop:=∃b,e=.returned (.pointer (some ⟨b,0,none⟩))/\EH w' w.heap.size b [l]/\Below w.heap.size w w'
theorem Yj (l:List UInt8) (w:World):Calls prog 38 #[.string ⟨l.toArray⟩] w (Ad7 l w):=by
 have c:=Af w (.cells #[.string ⟨l.toArray⟩] 9);have b:=Af (w.alloc (.cells #[.string ⟨l.toArray⟩] 9)) (.cells #[.slice (some ⟨w.heap.size,0,none⟩) 1 1] 116);have a:=Whole.made (w.alloc (.cells #[.string ⟨l.toArray⟩] 9)) 116 #[.slice (some ⟨w.heap.size,0,none⟩) 1 1];have d:Own (w.alloc (.cells #[.string ⟨l.toArray⟩] 9)) w.heap.size (.slice (some ⟨w.heap.size,0,none⟩) 1 1) [l]:=by refine ⟨rfl,.inr ⟨w.heap.size,1,#[.string ⟨l.toArray⟩],rfl,aA _,heap_alloc_new w _,aA _,by unfold maxLen;omega,rfl,rfl⟩⟩
 have hsz:(w.alloc (.cells #[.string ⟨l.toArray⟩] 9)).heap.size=w.heap.size+1:=by show (w.heap.push _).size=_;simp
 rw [hsz] at a;go_enter func38,ntmps38;go_wp2_with fail;go_ret;exact ⟨_,rfl,⟨_,a,d.call b,fw _⟩,Aa c b⟩
def OS (seen:List (List UInt8)) (w:World) (e:Ending) (w':World):Prop:=e=.returned (.bool (decide (1<seen.length)))/\w=w'
theorem Kw (b B:Nat) (seen:List (List UInt8)) (w:World) (h:EH w B b seen):Calls prog 43 #[.pointer (some ⟨b,0,none⟩)] w (OS seen w):=by
 obtain ⟨v,h1,h2,h3⟩:=h;obtain ⟨a,c,rfl⟩:=h2.form;have e:=h1.cell 0;simp only [aI,aH] at e;have hd:decide ((1:Int)<(seen.length:Int))=decide (1<seen.length):=by
  by_cases h:1<seen.length
  · rw [aL h,aL (by omega)]
  · rw [aC h,aC (by omega)]
 have d:=hZ9 hd;clear h1 h2 hd;unfold OS;generalize seen.length=n at*;go_enter func43,ntmps43;go_wp2_with fail;go_ret;exact ⟨by rw [<-d.out];rfl,rfl⟩
def Nw (seen:List (List UInt8)):Int:=if 1<seen.length then 33 else 32
theorem Ad8 {seen:List (List UInt8)} (h:1<seen.length):Nw seen=33:=aP h
theorem AeY {seen:List (List UInt8)} (h:¬1<seen.length):Nw seen=32:=aG h
def AeZ (seen:List (List UInt8)) (w:World) (e:Ending) (w':World):Prop:=e=.returned (.int .i64 (Nw seen))/\w=w'
theorem AbO (b B:Nat) (seen:List (List UInt8)) (w:World) (h:EH w B b seen):Calls prog 42 #[.pointer (some ⟨b,0,none⟩)] w (AeZ seen w):=by
 have a:=Kw b B seen w h;unfold OS at a;by_cases c:1<seen.length
 · rw [aL c] at a;have HR:Hid (Nw seen=33):=hZ9 (Ad8 c);go_enter func42,ntmps42;go_wp2_with fail;refine a.mono ?_;rintro e w1 ⟨rfl,rfl⟩;go_wp2_with fail;go_ret;exact ⟨by rw [HR.out];rfl,rfl⟩
 · rw [aC c] at a;have HR:Hid (Nw seen=32):=hZ9 (AeY c);go_enter func42,ntmps42;go_wp2_with fail;refine a.mono ?_;rintro e w1 ⟨rfl,rfl⟩;go_wp2_with fail;go_ret;exact ⟨by rw [HR.out];rfl,rfl⟩
def Aew (b B:Nat) (seen:List (List UInt8)) (l:List UInt8) (w:World) (e:Ending) (w':World):Prop:=
 (seen.contains l=true\/16<seen.length)/\e=.returned (.bool false)/\w=w'\/
 (¬(seen.contains l=true\/16<seen.length))/\e=.returned (.bool true)/\EH w' B b (seen++[l])/\Below B w w'
theorem AbP (b B:Nat) (seen:List (List UInt8)) (l:List UInt8) (w:World) (h:EH w B b seen) (O:seen.length<=1000):Calls prog 40 #[.pointer (some ⟨b,0,none⟩),.string ⟨l.toArray⟩] w (Aew b B seen l w):=by
 obtain ⟨v,h1,h2,h3⟩:=h;have f:=contains_c v seen l w h2.strs (by omega);have i:=h2.apart h1 (by decide);have q:=h2.form;obtain ⟨a,c,F⟩:=q;unfold Aew;have L:=h1.cell 0;have Q:=h1.thaw 0;simp only [aI,aH] at L;subst F;cases g:seen.contains l with
 | true=>rw [g] at f;clear g h1 h2 i;generalize seen.length=n at*;go_enter func40,ntmps40;go_wp2_with fail;refine f.mono ?_;rintro e w1 ⟨rfl,rfl⟩;go_wp2_with fail;go_ret;exact .inl ⟨.inl (by trivial),rfl,rfl⟩
 | false=>
  rw [g] at f;by_cases h16:16<seen.length
  · have HR:Hid (16<seen.length):=hZ9 h16;have J:(16:Int)<(seen.length:Int):=by omega
    clear g h1 h2 i;generalize seen.length=n at*;go_enter func40,ntmps40;go_wp2_with fail;refine f.mono ?_;rintro e w1 ⟨rfl,rfl⟩;go_wp2_with fail;go_ret;exact .inl ⟨.inr HR.out,rfl,rfl⟩
  · have HR:Hid (¬16<seen.length):=hZ9 h16;have J:decide ((16:Int)<(seen.length:Int))=false:=aC (by omega);have k:=h1.lt;have s:B<=w.heap.size:=aY h3 (dD k);have m:=Af w (.cells #[.string ⟨l.toArray⟩] 9);have I:=hZ9 (h1.call m);have H:=hZ9 (h2.call m);have N:=hZ9 i;have M:=hZ9 k;have t:=hZ9 ((Below.refl B w).alloc s (.cells #[.string ⟨l.toArray⟩] 9));clear g h1 h2 i m;generalize C:seen.length=n at*;go_enter func40,ntmps40;go_wp2_with fail;refine f.mono ?_;rintro e w1 ⟨rfl,rfl⟩;go_wp2_with (at_builtin;refine Zz (by rfl) _ _ (by rfl) B _ seen (by rfl) H.out w1.heap.size (by rfl) l ?e1 ?e2 ?e3 ?_)
    case e1=>simp [go_sem,Ac]
    case e2=>omega
    case e3=>exact aY s (t.out.size)
    intro P w2 d z G;obtain ⟨A,E,u⟩:=d.form;rw [aT,bG,C] at u;subst u;have j:Whole w2 b 116 #[.slice a n c]:=(G.block b (ae M.out (Af w1 _).size) (fun e=>N.out e.symm)).trans I.out;have K:=j.cell 0;have R:=j.thaw 0;simp only [aI,aH] at K;have r:=d.apart j (by decide);have x:=j.put 0 (.slice A (n+1) E);have o:=ownsRow_setCell_other d (a:=⟨b,0,none⟩) r (.slice A (n+1) E);have y:=(t.out.trans z).setCell (p:=⟨b,0,none⟩) h3 (.slice A (n+1) E);clear f H I;go_wp2_with fail;go_ret;exact .inr ⟨fun h=>h.elim (fun h=>by cases h) HR.out,rfl,⟨_,x,o,h3⟩,y⟩
theorem Afa (name n:List UInt8) (u:Value) (b:Nat) (w:World) (h1:w.cell? ⟨b,0,none⟩=some (.string ⟨n.toArray⟩)):
  Calls prog 75 #[.agg #[.string ⟨name.toArray⟩,u],.pointer (some ⟨b,0,none⟩)] w (Ef (name==n) w):=by
 have a:=Af w (.cells #[.string ⟨name.toArray⟩,u] 52);have h2:=Ab h1 a;go_enter func75,ntmps75;go_wp2_with fail;go_ret;exact ⟨rfl,a⟩
def FA (n:List UInt8) (e:EnS.En):Bool:=e.name==n
theorem Afb (n:List UInt8) (v:Value) (xs:List EnS.En) (A:Nat) (w:World) (h1:w.cell? ⟨A,0,none⟩=some (.string ⟨n.toArray⟩)) (h:Cm w v xs) (I:xs.length<=1048576):
  Calls prog 114 #[v,.func (.func 75) #[] #[.pointer (some ⟨A,0,none⟩)]] w (GP (xs.findIdx? (FA n)) w):=by
 obtain ⟨a,c,rfl,hc,t⟩:=Ad.at h;have B:=hZ9 t;have l:=hZ9 (fun k (hk:k<xs.length)=>Jm (p:=FA n) hk);have j:=hZ9 (Oz (p:=FA n) (xs:=xs));have z:=hZ9 (fun k (hk:k<xs.length)=>take_miss (p:=FA n) hk);have HP:Hid (∀e:EnS.En,FA n e=(e.name==n)):=hZ9 (fun _=>rfl);generalize xs.findIdx? (FA n)=R at*;generalize FA n=p at*;clear t h;generalize u:xs.length=m at hc I⊢;have H:=hZ9 u;clear u;go_enter func114,ntmps114;go_wp2_with fail;go_loopw [8] (fun i wr=>∃k:Nat,k<=m/\i=.int .i64 k/\Hid (∀x ∈ xs.take k,p x=false)/\Below w.heap.size w wr) (fun i _=>m - (intOf i).toNat)
 case atStart=>exact ⟨0,aR _,rfl,hZ9 (fun x hx=>by cases hx),Below.refl _ _⟩
 case round=>
  obtain ⟨k,hk,rfl,G,hb⟩:=hrel;by_cases E:k<m
  · have b:k<xs.length:=by rw [H.out];exact E
    obtain ⟨g,o,rfl,J,_,hra⟩:=B.out k b;obtain ⟨c0,a1,p1,c1,K,f⟩:=Df.parts (Df.call hra J trivial hb);have k1:=Ab h1 hb;have F:=hZ9 (l.out k b G.out);have C:=hZ9 (z.out k b G.out);have r:=hZ9 (HP.out xs[k]);generalize xs[k]=x at*;obtain ⟨name,attrs⟩:=x;simp only at c0 c1 r;have d:=Afa name n (.slice a1 attrs.length p1) A wr k1;unfold Ef at d;clear hra b l j z f HP;generalize attrs.length=n1 at*;cases s:(name==n) with
    | true=>have HR:=hZ9 (F.out (r.out.trans s));rw [s] at d;clear s F C;go_wp2_with fail;refine d.mono ?_;rintro e w1 ⟨rfl,q⟩;go_wp2_with fail;go_ret;exact ⟨by rw [HR.out];rfl,hb.trans (q.mono hb.size)⟩
    | false=>
     have HR:=hZ9 (C.out (r.out.trans s));rw [s] at d;clear s F C;go_wp2_with fail;refine d.mono ?_;rintro e w1 ⟨rfl,q⟩;go_wp2_with fail;go_roundw
     case rel=>exact ⟨k+1,by omega,by go_num,HR,hb.trans (q.mono hb.size)⟩
     case measure=>simp [intOf];omega
  · have y:Hid (R=none):=hZ9 (j.out (by have:=G.out;rwa [ag (by rw [H.out];omega)] at this));go_wp2_with fail;go_ret;exact ⟨by rw [y.out];rfl,hb⟩
theorem Afc (n:List UInt8) (v:Value) (xs:List EnS.En) (b:Nat) (w:World) (h1:w.cell? ⟨b,0,none⟩=some (.string ⟨n.toArray⟩)) (h:Cm w v xs) (g:xs.length<=1048576):
  Calls prog 74 #[v,.func (.func 75) #[] #[.pointer (some ⟨b,0,none⟩)]] w (Ef (EnS.inS xs n) w):=by
 have f:=Afb n v xs b w h1 h g;have HR:Hid (EnS.inS xs n=(xs.findIdx? (FA n)).isSome):=hZ9 (by rw [eU];rfl);unfold GP at f;generalize EnS.inS xs n=R at*;generalize xs.findIdx? (FA n)=I at*;have i:=hZ9 (XK I);generalize KG I=z at*;obtain ⟨a,c,rfl,_⟩:=Ad.form h;generalize xs.length=m at*;go_enter func74,ntmps74;go_wp2_with fail;refine f.mono ?_;rintro e w1 ⟨rfl,d⟩;go_wp2_with fail;go_ret;exact ⟨by rw [HR.out,<-i.out];rfl,d⟩
theorem Agx (n:List UInt8) (v:Value) (xs:List EnS.En) (w:World) (h:Cm w v xs) (f:xs.length<=1048576):
  Calls prog 41 #[v,.string ⟨n.toArray⟩] w (Ef (EnS.inS xs n) w):=by
 have g:∀(fn:Fn) (first cap:Array Value) (w:World),(Instr.makeFunc fn first cap).run prog w=.ok (.func fn first cap) w:=fun _ _ _ _=>rfl;have hb0:=Af w (.cells #[.string ⟨n.toArray⟩] 9);have b:=Whole.made w 9 #[.string ⟨n.toArray⟩];have hc:=Afc n v xs w.heap.size _ (b.cell 0) (h.call hb0) f;unfold Ef at hc;obtain ⟨a,c,rfl,_⟩:=Ad.form h;generalize xs.length=m at*;go_enter func41,ntmps41;go_wp2_with fail;refine hc.mono ?_;rintro e w1 ⟨rfl,d⟩;go_wp2_with fail;go_ret;exact ⟨rfl,Aa hb0 d⟩
end
section
open Go.RowKit
namespace EnS
theorem ZA {l:List En} {k:Nat} {seen:List (List UInt8)} {n a:List UInt8} {more:Bool} {code:Int} (h:stepS l n=(a,more,code)) (hc:code≠0):DX l (k+1) seen n=([],[],code):=by unfold DX;rw [h];exact aG hc
theorem ZB {l:List En} {k:Nat} {seen:List (List UInt8)} {n a:List UInt8} (h:stepS l n=(a,false,0)):DX l (k+1) seen n=(seen,n,0):=by unfold DX;rw [h,aP rfl];exact aG (by simp)
theorem Ad9 {l:List En} {k:Nat} {seen:List (List UInt8)} {n a:List UInt8} (h:stepS l n=(a,true,0)) (hx:seen.contains a=true\/16<seen.length):DX l (k+1) seen n=([],[],36):=by unfold DX;rw [h,aP rfl,aP rfl];exact aP hx
theorem AdA {l:List En} {k:Nat} {seen:List (List UInt8)} {n a:List UInt8} (h:stepS l n=(a,true,0)) (hx:¬(seen.contains a=true\/16<seen.length)):DX l (k+1) seen n=DX l k (seen++[a]) a:=by
 conv=>lhs;unfold DX
 rw [h,aP rfl,aP rfl];exact aG hx
theorem VO (l:List En) {code:Int} (hc:code≠0):Ij l ([],[],code)=([],false,code):=by unfold Ij;exact aG hc
theorem AbQ (l:List En) (seen:List (List UInt8)) (n:List UInt8):Ij l (seen,n,0)=Gy l seen n:=by unfold Ij;exact aP rfl
theorem Sr {l:List En} {seen:List (List UInt8)} {n:List UInt8} (h:n=[]):Gy l seen n=(n,decide (1<seen.length),0):=by unfold Gy;exact aG (fun k=>k.1 h)
theorem AbR {l:List En} {seen:List (List UInt8)} {n:List UInt8} (h:inS l n=true):Gy l seen n=(n,decide (1<seen.length),0):=by unfold Gy;exact aG (fun k=>by rw [h] at k;cases k.2)
theorem Yk {l:List En} {seen:List (List UInt8)} {n:List UInt8} (h0:n≠[]) (h:inS l n=false):Gy l seen n=([],false,Nw seen):=by unfold Gy;exact aP ⟨h0,h⟩
theorem ZC {l:List En} {s a:List UInt8} {more:Bool} (h:stepS l s=(a,more,0)):a.length<=1000/\DnS.Aw a=(a,0):=by have:=Xw h;have h2:=DnS.Hw a;rw [this] at h2;exact ⟨h2,this⟩
theorem AdB {l:List En} {s n:List UInt8} {e:Int} {f:Bool} (h:DnS.Aw s=(n,e)) (a:e≠0):AK l s f=([],false,34):=by unfold AK;rw [h];exact aG a
theorem AdC {l:List En} {s n:List UInt8} (h:DnS.Aw s=(n,0)):AK l s false=Gy l [n] n:=by unfold AK;rw [h,aP rfl];exact aG (by simp)
theorem Afd {l:List En} {s n:List UInt8} (h:DnS.Aw s=(n,0)):AK l s true=Ij l (DX l 17 [n] n):=by unfold AK;rw [h,aP rfl];exact aP rfl
end EnS
def ZE (w:World) (b:Nat):Nat:=match w.cell? ⟨b,0,none⟩ with | some (.slice _ n _)=>n | _=>0
def AfR (v:Value):Nat:=match v with | .slice _ n _=>n | _=>0
theorem Own.lenOf {w:World} {B:Nat} {v:Value} {xs:List (List UInt8)} (h:Own w B v xs):AfR v=xs.length:=by obtain ⟨a,c,rfl⟩:=h.form;rfl
theorem EH.len {w:World} {B b:Nat} {seen:List (List UInt8)} (h:EH w B b seen):ZE w b=seen.length:=by obtain ⟨v,h1,h2,_⟩:=h;have q:=h1.cell 0;simp only [aI,aH] at q;unfold ZE;rw [q];obtain ⟨a,c,rfl⟩:=h2.form;rfl
theorem Own.one (w:World) (l:List UInt8):Own (w.alloc (.cells #[.string ⟨l.toArray⟩] 9)) w.heap.size (.slice (some ⟨w.heap.size,0,none⟩) 1 1) [l]:=
 ⟨rfl,.inr ⟨w.heap.size,1,#[.string ⟨l.toArray⟩],rfl,aA _,heap_alloc_new w _,aA _,by unfold maxLen;omega,rfl,rfl⟩⟩
def atI (xs:List EnS.En) (s:List UInt8):Option Nat:=if (DnS.Aw s).2=0 then xs.findIdx? (FA (DnS.Aw s).1) else none
theorem Agy (v:Value) (xs:List EnS.En) (s:List UInt8) (w:World) (hE:Env w) (h:Cm w v xs) (M:xs.length<=1048576) (O:s.length<=1000000):
  Calls prog 55 #[v,.string ⟨s.toArray⟩] w (GP (atI xs s) w):=by
 have h1:=Py s O w hE;unfold Cb at h1;have f:Hid (atI xs s=if (DnS.Aw s).2=0 then xs.findIdx? (FA (DnS.Aw s).1) else none):=hZ9 rfl;generalize atI xs s=R at*;generalize DnS.Aw s=N at*;obtain ⟨n,L⟩:=N;simp only at h1 f;obtain ⟨a,c,rfl,hc,u⟩:=Ad.at h;have H:=hZ9 u;have r:=hZ9 (fun k (hk:k<xs.length)=>Jm (p:=FA n) hk);have l:=hZ9 (Oz (p:=FA n) (xs:=xs));have B:=hZ9 (fun k (hk:k<xs.length)=>take_miss (p:=FA n) hk);have HP:Hid (∀e:EnS.En,FA n e=(e.name==n)):=hZ9 (fun _=>rfl);generalize xs.findIdx? (FA n)=I at*;generalize FA n=q at*;clear u h;generalize y:xs.length=m at hc M⊢;have K:=hZ9 y;clear y;by_cases C:L=0
 · subst C;have HR:Hid (R=I):=hZ9 (f.out.trans (aP rfl));clear f;go_enter func55,ntmps55;go_wp2_with fail;refine h1.mono ?_;rintro e w1 ⟨rfl,d⟩;go_wp2_with fail;go_loop [15] (fun i=>∃k:Nat,k<=m/\i=.int .i64 k/\Hid (∀x ∈ xs.take k,q x=false)) (fun i=>m - (intOf i).toNat)
   case atStart=>exact ⟨0,aR _,rfl,hZ9 (fun x hx=>by cases hx)⟩
   case round=>
    obtain ⟨k,hk,rfl,G⟩:=hrel;by_cases A:k<m
    · have b:k<xs.length:=by rw [K.out];exact A
      obtain ⟨g,o,rfl,S,_,hra⟩:=H.out k b;obtain ⟨c0,a1,p1,c1,T,j⟩:=Df.parts (Df.call hra S trivial d);have U:=hZ9 (r.out k b G.out);have Q:=hZ9 (B.out k b G.out);have t:=hZ9 (HP.out xs[k]);generalize xs[k]=x at*;obtain ⟨name,attrs⟩:=x;simp only at c0 c1 t;clear hra b r l B j HP;cases J:(name==n) with
      | true=>have F:=hZ9 (U.out (t.out.trans J));go_wp2_with fail;go_ret;exact ⟨by rw [HR.out,F.out];rfl,d⟩
      | false=>
       have F:=hZ9 (Q.out (t.out.trans J));go_wp2_with fail;go_round
       case rel=>exact ⟨k+1,by omega,by go_num,F⟩
       case measure=>simp [intOf];omega
    · have z:Hid (I=none):=hZ9 (l.out (by have:=G.out;rwa [ag (by rw [K.out];omega)] at this));go_wp2_with fail;go_ret;exact ⟨by rw [HR.out,z.out];rfl,d⟩
 · have P:(L==0)=false:=by simpa using C
   have HR:Hid (R=none):=hZ9 (f.out.trans (aG C));clear f;go_enter func55,ntmps55;go_wp2_with fail;refine h1.mono ?_;rintro e w1 ⟨rfl,d⟩;go_wp2_with fail;go_loop [15] (fun i=>∃k:Nat,k<=m/\i=.int .i64 k) (fun i=>m - (intOf i).toNat)
   case atStart=>exact ⟨0,aR _,rfl⟩
   case round=>
    obtain ⟨k,hk,rfl⟩:=hrel;by_cases A:k<m
    · go_wp2_with fail;go_round
      case rel=>exact ⟨k+1,by omega,by go_num⟩
      case measure=>simp [intOf];omega
    · have E:k=m:=by omega
      subst E;go_wp2_with fail;go_ret;exact ⟨by rw [HR.out];rfl,d⟩
theorem VP (v:Value) (xs:List EnS.En) (s:List UInt8) (follow:Bool) (w:World) (hE:Env w) (h:Cm w v xs) (W:Eb xs) (hs:s.length<=1000000):
  Calls prog 14 #[v,.string ⟨s.toArray⟩,.bool follow] w (BZ (EnS.AK xs s follow) w):=by
 have h1:=IJ s hs w hE;unfold Cb at h1;have V:=DnS.Hw s;have HB:=hZ9 (fun n e=>EnS.AdB (l:=xs) (s:=s) (n:=n) (e:=e) (f:=follow));have C:=hZ9 (fun n=>EnS.AdC (l:=xs) (s:=s) (n:=n));have A:=hZ9 (fun n=>EnS.Afd (l:=xs) (s:=s) (n:=n));have I:=hZ9 (fun h=>DnS.SH (s:=s) h);obtain ⟨n,e0,z⟩:∃n e,DnS.Aw s=(n,e):=⟨_,_,rfl⟩
 rw [z] at h1 V I;simp only at h1 V I;obtain ⟨a,c,A2,hc⟩:=Ad.form h;subst A2;by_cases X:e0=0
 case neg=>
  have HR:=hZ9 (HB.out n e0 z X);have A1:(e0 !=0)=true:=by simpa using X
  clear HB C A z I h W;generalize xs.length=m at*;go_enter func14,ntmps14;go_wp2_with fail;refine h1.mono ?_;rintro e w1 ⟨rfl,B⟩;go_wp2_with fail
  go_ret3
  exact BZ.mk' HR.out B
 subst X;have B3:Hid (DnS.Aw n=(n,0)):=hZ9 (I.out rfl);have C:=hZ9 (C.out n z);have A:=hZ9 (A.out n z);have M:=fun n w (Y:Cm w (.slice a xs.length c) xs)=>Agx n _ xs w Y W.1;have E:=fun n w hE (Y:Cm w (.slice a xs.length c) xs) hn=>AfQ _ xs n w hE Y W hn;unfold Ef at M;unfold BZ at E;have HI:=hZ9 h;clear HB z I h W hc;generalize A5:xs.length=m at*;clear A5;cases follow with
 | false=>
  have HX:=C;clear C A E;go_enter func14,ntmps14;go_wp2_with fail;refine h1.mono ?_;rintro e w1 ⟨rfl,B⟩;go_wp2_with fail;refine (Yj n w1).mono ?_;rintro e w2 ⟨b,rfl,G,O⟩;have o:=Aa B O;go_wp2_with fail;refine wp_loop_rounds 1 ?_;rw [rounds_succ];have N:Cm w2 (.slice a m c) xs:=HI.out.call o;by_cases d:n=[]
  · have p:=hZ9 (HX.out.trans (EnS.Sr d));clear HX;subst d;go_wp2_with fail;refine (Kw _ _ _ _ G).mono ?_;rintro e U ⟨rfl,rfl⟩;go_wp2_with fail
    go_ret3
    exact BZ.mk' p.out o
  · have A7:n.isEmpty=false:=by simpa using d
    have A4:(n==[])=false:=by simpa using d
    have A6:(n !=[])=true:=by simpa using d
    have r:=hZ9 (fun h=>HX.out.trans (EnS.Yk d h));have t:=hZ9 (fun h=>HX.out.trans (EnS.AbR h));clear d HX;have j:=M n w2 N;cases y:EnS.inS xs n with
    | true=>
     rw [y] at j;have p:=hZ9 (t.out y);clear t r y;go_wp2_with fail;refine j.mono ?_;rintro e Z ⟨rfl,g⟩;have x:=G.call g;go_wp2_with fail;refine (Kw _ _ [n] _ x).mono ?_;rintro e U ⟨rfl,rfl⟩;go_wp2_with fail
     go_ret3
     exact BZ.mk' p.out (o.trans (g.mono o.size))
    | false=>
     rw [y] at j;have p:=hZ9 (r.out y);clear t r y;go_wp2_with fail;refine j.mono ?_;rintro e Z ⟨rfl,g⟩;have x:=G.call g;go_wp2_with fail;refine (AbO _ _ [n] _ x).mono ?_;rintro e U ⟨rfl,rfl⟩;go_wp2_with fail
     go_ret3
     exact BZ.mk' p.out (o.trans (g.mono o.size))
 | true=>
  have HX:=A;clear C A;generalize EnS.AK xs s true=R at*;go_enter func14,ntmps14;go_wp2_with fail;refine h1.mono ?_;rintro e w1 ⟨rfl,B⟩;go_wp2_with fail;refine (Yj n w1).mono ?_;rintro e w2 ⟨b,rfl,G,O⟩;have o:=Aa B O;have A0:w.heap.size<=w1.heap.size:=B.size;go_wp2_with fail;go_loopw [9] (fun nv wr=>∃(seen:List (List UInt8)) (q:List UInt8),nv=.string ⟨q.toArray⟩/\EH wr w1.heap.size b seen/\1<=seen.length/\seen.length<=17/\Hid (R=EnS.Ij xs (EnS.DX xs (18 - seen.length) seen q))/\q.length<=1000000/\Below w.heap.size w wr) (fun _ wr=>18 - ZE wr b)
  case atStart=>exact ⟨[n],n,rfl,G,by simp,by simp,HX,by omega,o⟩
  case round=>
   obtain ⟨seen,q,rfl,hT,B0,B1,J,A8,hb⟩:=hrel;clear HX;have hlen:=hT.len;obtain ⟨k,hk⟩:∃k,18 - seen.length=k+1:=⟨17 - seen.length,by omega⟩
   rw [hk] at J;have H:=E q wr (hE.below hb) (HI.out.call hb) A8;obtain ⟨K,more,code,hS⟩:∃K more code,EnS.stepS xs q=(K,more,code):=⟨_,_,_,rfl⟩
   rw [hS] at H;simp only at H;by_cases L:code=0
   case neg=>
    have A1:(code !=0)=true:=by simpa using L
    have p:Hid (R=([],false,code)):=hZ9 (by rw [J.out,EnS.ZA hS L,EnS.VO xs L]);clear hS J E hk;go_wp2_with fail;refine H.mono ?_;rintro e w3 ⟨rfl,u⟩;go_wp2_with fail
    go_ret3
    exact BZ.mk' p.out (hb.trans (u.mono hb.size))
   subst L;cases more with
   | false=>
    have HX:Hid (R=EnS.Gy xs seen q):=hZ9 (by rw [J.out,EnS.ZB hS,EnS.AbQ]);clear hS J E hk;go_wp2_with fail;refine H.mono ?_;rintro e w3 ⟨rfl,u⟩;have F:=hT.call u;have i:=hb.trans (u.mono hb.size);have N:Cm w3 (.slice a m c) xs:=HI.out.call i;by_cases d:q=[]
    · have p:=hZ9 (HX.out.trans (EnS.Sr d));clear HX;subst d;go_wp2_with fail;refine (Kw _ _ _ _ F).mono ?_;rintro e U ⟨rfl,rfl⟩;go_wp2_with fail
      go_ret3
      exact BZ.mk' p.out i
    · have A7:q.isEmpty=false:=by simpa using d
      have A4:(q==[])=false:=by simpa using d
      have A6:(q !=[])=true:=by simpa using d
      have r:=hZ9 (fun h=>HX.out.trans (EnS.Yk d h));have t:=hZ9 (fun h=>HX.out.trans (EnS.AbR h));clear d HX;have j:=M q w3 N;cases y:EnS.inS xs q with
      | true=>
       rw [y] at j;have p:=hZ9 (t.out y);clear t r y;go_wp2_with fail;refine j.mono ?_;rintro e Z ⟨rfl,g⟩;have x:=F.call g;go_wp2_with fail;refine (Kw _ _ seen _ x).mono ?_;rintro e U ⟨rfl,rfl⟩;go_wp2_with fail
       go_ret3
       exact BZ.mk' p.out (i.trans (g.mono i.size))
      | false=>
       rw [y] at j;have p:=hZ9 (r.out y);clear t r y;go_wp2_with fail;refine j.mono ?_;rintro e Z ⟨rfl,g⟩;have x:=F.call g;go_wp2_with fail;refine (AbO _ _ seen _ x).mono ?_;rintro e U ⟨rfl,rfl⟩;go_wp2_with fail
       go_ret3
       exact BZ.mk' p.out (i.trans (g.mono i.size))
   | true=>
    have A9:=EnS.ZC hS;have P:=hZ9 (fun hx=>(EnS.Ad9 (k:=k) (seen:=seen) hS hx));have S:=hZ9 (fun hx=>(EnS.AdA (k:=k) (seen:=seen) hS hx));clear hS E;go_wp2_with fail;refine H.mono ?_;rintro e w3 ⟨rfl,u⟩;have F:=hT.call u;have i:=hb.trans (u.mono hb.size);go_wp2_with fail;refine (AbP b _ seen K _ F (by omega)).mono ?_;rintro e w4 (⟨hx,rfl,rfl⟩ | ⟨hx,rfl,T,A3⟩)
    · have p:Hid (R=([],false,36)):=hZ9 (by rw [J.out,P.out hx,EnS.VO xs (by decide)]);clear hx P S J hk;go_wp2_with fail
      go_ret3
      exact BZ.mk' p.out i
    · have p:Hid (R=EnS.Ij xs (EnS.DX xs (18 - (seen++[K]).length) (seen++[K]) K)):=hZ9 (by
       rw [J.out,S.out hx,show 18 - (seen++[K]).length=k by rw [aT,bG];omega])
      have B2:¬16<seen.length:=fun h=>hx (.inr h);have Q:=T.len;clear hx P S J;go_wp2_with fail;go_roundw
      case rel=>exact ⟨seen++[K],K,rfl,T,by simp,by simp;omega,p,by omega,i.trans (A3.mono A0)⟩
      case measure=>rw [Q,hlen,aT,bG];omega
end
end Go.Proofs.YtgngjfjaelgaeaaGreatDoor
