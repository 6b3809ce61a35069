/- Requests of searches in memory, and the walks of whether one is formed, the program's and the document's. Conditions: as stated. -/
import Derived.Deep.AppendLies
import Derived.Test.YtgngjfjaelgaeaaGreatDoorZFif
set_option maxRecDepth 100000
set_option maxHeartbeats 4000000
namespace Go.Proofs.YtgngjfjaelgaeaaGreatDoor
open Go.Proofs.Tryz
variable {l:iK} {B b:Nat} {T:TypeId} {v:Value} {w w':World}
section
open Go.RowKit
open FiS (Fi)
attribute [local go_sem ↓] Go.wp_at_zero Go.wp_at_succ
def FI(n:Nat)(w:World)(v:Value)(q:SeS.Rq):Prop:=∃(a5 c e:Option Addr) (c5 d a:Nat),v=.agg #[q.base,q.scope,q.deref,q.filter.kind,q.filter.attr,q.filter.value,q.filter.first,q.filter.last,.slice a5 q.filter.any.length c5,.slice c q.filter.parts.length d,.slice e q.attrs.length a,q.tonly,q.size]/\BF n w (.agg #[q.filter.kind,q.filter.attr,q.filter.value,q.filter.first,q.filter.last,.slice a5 q.filter.any.length c5,.slice c q.filter.parts.length d]) q.filter/\Ah w (.slice e q.attrs.length a) q.attrs
theorem FI.call{n:Nat}{q:SeS.Rq}(h:FI n w v q)(hb:Below w.heap.size w w'):FI n w' v q:=by obtain⟨a5,a,f,c5,c,e,d,h1,h2⟩:=h;exact⟨a5,a,f,c5,c,e,d,h1.call hb,h2.call hb (aA _)⟩
theorem Zv(n:Nat)(q:SeS.Rq)(v:Value)(w:World)(h:FI n w v q)(o:FiS.wdF 20000 q.filter):Calls prog 24 #[v] w (AP (SeS.CU q) w):=by
 have i:=hZ9 (λv W h=>Ql n q.filter v W h o);unfold AP SeS.CU at*;obtain⟨a5,K,I,c5,y,F,rfl,p,_⟩:=h;have g:=hZ9 p;clear p o;obtain⟨E,sc,dr,x,at_,C,sz⟩:=q;simp only at i g⊢;generalize at_.length=QL at*;generalize x.any.length=AL at*;generalize x.parts.length=PL at*;generalize x.kind=kd at*;generalize x.attr=at0 at*;generalize x.value=vl at*;generalize x.first=fs at*;generalize x.last=ls at*;have c:=Af w (.cells #[E,sc,dr,kd,at0,vl,fs,ls,.slice a5 AL c5,.slice K PL y,.slice I QL F,C,sz] 38);have a:=Whole.made w 38 #[E,sc,dr,kd,at0,vl,fs,ls,.slice a5 AL c5,.slice K PL y,.slice I QL F,C,sz];have R:=a.cell 1;have O:=a.cell 2;have P:=a.cell 3;have N:=a.cell 4;have U:=a.cell 5;have Q:=a.cell 6;have M:=a.cell 7;have S:=a.cell 8;have V:=a.cell 9;have t:=a.cell 12;simp only[aO,aH,aP] at R O P N U Q M S V t;have d:=i.out _ _ (g.out.call c);clear i g a;obtain⟨G,m⟩:∃b,FiS.formedS x=b:=⟨_,rfl⟩
 rw[m] at d⊢;clear m;obtain⟨k,j⟩:∃b,(decide (0<=sc)&&decide (sc<=2)&&decide (0<=dr)&&decide (dr<=3)&&decide (0<=sz)&&G)=b:=⟨_,rfl⟩
 rw[j];have f:=hZ9 j;clear j;by_cases J:0<=sc
 case neg=>have r:decide (0<=sc)=false:=aB J;clear d;have HR:Hid (k=false):=hZ9 (by rw[<-f.out,r];simp);go_enter func24,ntmps24;go_wp2_with fail;go_ret;exact⟨by(rw[HR.out])<;>rfl,c⟩
 have r:decide (0<=sc)=true:=aI J;by_cases L:sc<=2
 case neg=>have d1:decide (sc<=2)=false:=aB L;clear d;have HR:Hid (k=false):=hZ9 (by rw[<-f.out,d1];simp);go_enter func24,ntmps24;go_wp2_with fail;go_ret;exact⟨by(rw[HR.out])<;>rfl,c⟩
 have d1:decide (sc<=2)=true:=aI L;by_cases A:0<=dr
 case neg=>have d2:decide (0<=dr)=false:=aB A;clear d;have HR:Hid (k=false):=hZ9 (by rw[<-f.out,d2];simp);go_enter func24,ntmps24;go_wp2_with fail;go_ret;exact⟨by(rw[HR.out])<;>rfl,c⟩
 have d2:decide (0<=dr)=true:=aI A;by_cases H:dr<=3
 case neg=>have d3:decide (dr<=3)=false:=aB H;clear d;have HR:Hid (k=false):=hZ9 (by rw[<-f.out,d3];simp);go_enter func24,ntmps24;go_wp2_with fail;go_ret;exact⟨by(rw[HR.out])<;>rfl,c⟩
 have d3:decide (dr<=3)=true:=aI H;by_cases z:0<=sz
 case neg=>have d4:decide (0<=sz)=false:=aB z;clear d;have HR:Hid (k=false):=hZ9 (by rw[<-f.out,d4];simp);go_enter func24,ntmps24;go_wp2_with fail;go_ret;exact⟨by(rw[HR.out])<;>rfl,c⟩
 have d4:decide (0<=sz)=true:=aI z;have HR:Hid (k=G):=hZ9 (by rw[<-f.out,r,d1,d2,d3,d4];rfl);go_enter func24,ntmps24;go_wp2_with fail;refine d.mono ?_;rintro e w1 ⟨rfl,u⟩;have s:=c.trans (u.mono c.size);clear d;go_wp2_with fail;go_ret;exact⟨by(rw[HR.out])<;>rfl,s⟩
theorem Uc(n:Nat)(q:SeS.Rq)(v:Value)(w:World)(h:FI n w v q)(o:FiS.wdF 20000 q.filter):Calls prog 13 #[v] w (AP (SeS.CU q) w):=by
 have i:=hZ9 (λv W h=>MB n q.filter v W h o);unfold AP SeS.CU at*;obtain⟨a5,K,I,c5,y,F,rfl,p,_⟩:=h;have g:=hZ9 p;clear p o;obtain⟨E,sc,dr,x,at_,C,sz⟩:=q;simp only at i g⊢;generalize at_.length=QL at*;generalize x.any.length=AL at*;generalize x.parts.length=PL at*;generalize x.kind=kd at*;generalize x.attr=at0 at*;generalize x.value=vl at*;generalize x.first=fs at*;generalize x.last=ls at*;have c:=Af w (.cells #[E,sc,dr,kd,at0,vl,fs,ls,.slice a5 AL c5,.slice K PL y,.slice I QL F,C,sz] 28);have a:=Whole.made w 28 #[E,sc,dr,kd,at0,vl,fs,ls,.slice a5 AL c5,.slice K PL y,.slice I QL F,C,sz];have R:=a.cell 1;have O:=a.cell 2;have P:=a.cell 3;have N:=a.cell 4;have U:=a.cell 5;have Q:=a.cell 6;have M:=a.cell 7;have S:=a.cell 8;have V:=a.cell 9;have t:=a.cell 12;simp only[aO,aH,aP] at R O P N U Q M S V t;have d:=i.out _ _ (g.out.call c);clear i g a;obtain⟨G,m⟩:∃b,FiS.formedS x=b:=⟨_,rfl⟩
 rw[m] at d⊢;clear m;obtain⟨k,j⟩:∃b,(decide (0<=sc)&&decide (sc<=2)&&decide (0<=dr)&&decide (dr<=3)&&decide (0<=sz)&&G)=b:=⟨_,rfl⟩
 rw[j];have f:=hZ9 j;clear j;by_cases J:0<=sc
 case neg=>have r:decide (0<=sc)=false:=aB J;clear d;have HR:Hid (k=false):=hZ9 (by rw[<-f.out,r];simp);go_enter func13,ntmps13;go_wp2_with fail;go_ret;exact⟨by(rw[HR.out])<;>rfl,c⟩
 have r:decide (0<=sc)=true:=aI J;by_cases L:sc<=2
 case neg=>have d1:decide (sc<=2)=false:=aB L;clear d;have HR:Hid (k=false):=hZ9 (by rw[<-f.out,d1];simp);go_enter func13,ntmps13;go_wp2_with fail;go_ret;exact⟨by(rw[HR.out])<;>rfl,c⟩
 have d1:decide (sc<=2)=true:=aI L;by_cases A:0<=dr
 case neg=>have d2:decide (0<=dr)=false:=aB A;clear d;have HR:Hid (k=false):=hZ9 (by rw[<-f.out,d2];simp);go_enter func13,ntmps13;go_wp2_with fail;go_ret;exact⟨by(rw[HR.out])<;>rfl,c⟩
 have d2:decide (0<=dr)=true:=aI A;by_cases H:dr<=3
 case neg=>have d3:decide (dr<=3)=false:=aB H;clear d;have HR:Hid (k=false):=hZ9 (by rw[<-f.out,d3];simp);go_enter func13,ntmps13;go_wp2_with fail;go_ret;exact⟨by(rw[HR.out])<;>rfl,c⟩
 have d3:decide (dr<=3)=true:=aI H;by_cases z:0<=sz
 case neg=>have d4:decide (0<=sz)=false:=aB z;clear d;have HR:Hid (k=false):=hZ9 (by rw[<-f.out,d4];simp);go_enter func13,ntmps13;go_wp2_with fail;go_ret;exact⟨by(rw[HR.out])<;>rfl,c⟩
 have d4:decide (0<=sz)=true:=aI z;have HR:Hid (k=G):=hZ9 (by rw[<-f.out,r,d1,d2,d3,d4];rfl);go_enter func13,ntmps13;go_wp2_with fail;refine d.mono ?_;rintro e w1 ⟨rfl,u⟩;have s:=c.trans (u.mono c.size);clear d;go_wp2_with fail;go_ret;exact⟨by(rw[HR.out])<;>rfl,s⟩
end
section
open Go.RowKit
theorem Eu(l:iK)(a b:Nat):(⟨l.toArray⟩:ByteArray).extract a b=⟨((l.take b).drop a).toArray⟩:=by apply eW;rw[ByteArray.data_extract];apply Array.ext';simp[List.extract,List.drop_take]
theorem MN(l r:iK):(⟨l.toArray⟩++⟨r.toArray⟩:ByteArray)=⟨(l++r).toArray⟩:=by apply eW;rw[ByteArray.data_append];simp
theorem Dn{c n:UInt8}{k:Int}(a:(n.toNat:Int)=k)(h:(c.toNat:Int)=k):c=n:=cd.1 (by omega)
theorem Zw(cur l:iK)(a b:Nat)(h1:cur.length<=2000000)(h2:l.length<=1000000){y:iK}(c:(l.take b).drop a=y)(w:World):
  (Op.stringOp .add ⟨cur.toArray⟩ ((⟨l.toArray⟩:ByteArray).extract a b)).run prog w=.ok (.string ⟨(cur++y).toArray⟩) w:=by
 rw[Eu,c];have:y.length<=l.length:=by rw[<-c,bD,ar];omega
 rw[<-MN];exact run_string_add_sum w _ _ (by show cur.toArray.size+y.toArray.size<=_;simp;omega)
def Hv(sep:UInt8)(l:iK)(w:World)(e:Ending)(w':World):Prop:=∃v,e=.returned v/\Ah w' v (RdS.Ap sep l)/\Below w.heap.size w w'
def RX(sep:UInt8)(l:iK)(w0:World)(out i:Value)(wr:World):Prop:=
 ∃(k:Nat) (ys:List iK) (cur:iK),k<=l.length/\i=.int .i64 k/\Own wr w0.heap.size out (ys++[cur])/\ys.length<=k/\cur.length<=k/\
  RdS.Ap sep l=ys++RdS.glue cur (RdS.Ap sep (l.drop k))/\Below w0.heap.size w0 wr
theorem Own.last{ys:List iK}{cur:iK}(h:Own w B v (ys++[cur])):∃g c,v=.slice (some ⟨g,0,none⟩) (ys.length+1) c/\B<=g/\
  w.cell? ⟨g,ys.length,none⟩=some (Ac cur)/\w.frozen? ⟨g,ys.length,none⟩=false/\(∀z:iK,Own (w.setCell ⟨g,ys.length,none⟩ (Ac z)) B v (ys++[z])):=by
 have d:(ys++[cur]).length=ys.length+1:=by simp
 have h0:=h;unfold Own at h0;rw[d] at h0;obtain⟨g,cap,rfl,e,_⟩:=World.ownsRow.form h0 (Nat.succ_pos _);refine⟨g,cap,rfl,e,?_,World.ownsRow.frozenAt h0 _,λz=>?_⟩
 ·have:=World.ownsRow.cells h0 (g:=g) rfl ys.length (Ac cur) (by rw[bQ,bH (by simp)];simp);have a:(⟨g,0,none⟩:Addr).add ys.length=⟨g,ys.length,none⟩:=by unfold Addr.add;split<;>simp_all
  rwa [a] at this
 ·have:=(World.ownsRow.stored h0 ys.length (Ac z)).1;unfold Own;rw[show (ys++[z]).length=ys.length+1 from by simp];rw[bQ,dm _ _ (by simp)] at this;rw[bQ]
  simpa using this
theorem RY(l:iK)(sep:UInt8)(hl:l.length<=1000000)(h92:sep≠92)(w:World):Calls prog 139 #[l,.int .u8 (sep.toNat:Int)] w (Hv sep l w):=by
 have R:((sep.toNat:Int) !=92)=true:=by rw[fR];intro h;exact h92 (Dn (n:=92) rfl h)
 have C:=hZ9 h92;clear h92;go_enter func139,ntmps139;go_wp2_with fail;go_loopw [5,6] (λout i wr=>RX sep l w out i wr) (λ_ i _=>l.length-(intOf i).toNat)
 case atStart=>
  refine⟨0,[],[],aR _,rfl,?_,aR _,aR _,?_,Af w _⟩
  ·exact⟨rfl,.inr ⟨w.heap.size,1,#[.string ⟨#[]⟩],rfl,aA _,by show (w.heap.push _)[w.heap.size]?=_;rw[dV],aA _,by unfold maxLen;omega,rfl,rfl⟩⟩
  ·obtain⟨p,ps,e⟩:=RdS.CS sep l;rw[bI,e];rfl
 case round=>
  obtain⟨k,ys,cur,hk,rfl,a,V,X,m,hb⟩:=hrel;by_cases G:k<l.length
  ·have u:=hZ9 (av G);generalize F:l[k]=c at*;have W:∀h,(⟨l.toArray⟩:ByteArray)[k]'h=c:=λ_=>F;have HK:=hZ9 hk;have H:=hZ9 m;have A:=hZ9 a;obtain⟨g,S,rfl,U,hc,Y,t⟩:=a.last;have E:=hZ9 t;unfold Ac at hc;clear F m t hk;cases o:(c==sep) with
   |true=>
    have M:=hZ9 (ag.1 o);have Z:((c.toNat:Int)==(sep.toNat:Int))=true:=by rw[ag.1 o];exact eX _
    clear o;go_wp2_with (at_builtin;refine Hz (by rfl) _ _ (by rfl) w.heap.size (.slice (some ⟨g,0,none⟩) (ys.length+1) S) (ys++[cur]) (by rfl) (A.out.alloc _) wr.heap.size (by rfl) [] ?c1 ?c2 ?c3 ?_)
    case c1=>simp[go_sem,Ac]
    case c2=>simp;omega
    case c3=>have:=hb.size;simp;omega
    intro v' w2 z N;go_wp2_with fail;go_roundw
    case rel=>refine⟨k+1,ys++[cur],[],G,by go_num,by rw[bL];exact z,by simp;omega,aR _,?_,(hb.alloc hb.size _).trans N⟩;rw[H.out,u.out,M.out,RdS.LH,RdS.IB,bK,bL];obtain⟨p,ps,e⟩:=RdS.CS sep (l.drop (k+1));rw[e];rfl
    case measure=>simp[intOf];omega
   |false=>
    have M:Hid (c≠sep):=hZ9 (by simpa using o);have Z:((c.toNat:Int)==(sep.toNat:Int))=false:=aV.2 (λh=>M.out (cd.1 (by omega)));clear o;have q:Hid (∀(x:Nat) (y:iK) (i:Value),x<=l.length->k<=x->y.length<=x-k->i=.int .i64 x->RdS.Ap sep (l.drop k)=RdS.glue y (RdS.Ap sep (l.drop x))->
      RX sep l w (.slice (some ⟨g,0,none⟩) (ys.length+1) S) i (wr.drew.setCell ⟨g,ys.length,none⟩ (.string ⟨(cur++y).toArray⟩))):=hZ9 (λx y i h1 h2 h3 hi h4=>
     ⟨x,ys,cur++y,h1,hi,E.out (cur++y),by omega,by rw[aT];omega,by rw[H.out,h4,RdS.JV],hb.drew.setCell (p:=⟨g,ys.length,none⟩) U _⟩)
    by_cases h92:c=92
    ·have f:=hZ9 h92;have P:((c.toNat:Int)==92)=true:=by rw[h92];rfl
     clear h92;by_cases J:k+1<l.length
     ·have L:min ((k:Int)+2) (l.length:Int)=(k:Int)+2:=by omega
      have K:(l.take (k+2)).drop k=[92,l[k+1]]:=by rw[eO,u.out,av J,f.out,show k+2-k=2 from by omega];rfl
      have r:=Zw cur l k (k+2) (by omega) (by omega) K;have I:Hid (RdS.Ap sep (l.drop k)=RdS.glue [92,l[k+1]] (RdS.Ap sep (l.drop (k+2)))):=hZ9 (by
       rw[u.out,f.out,av J,RdS.IP C.out])
      clear K;generalize l[k+1]=d at*;go_wp2_with fail
      go_region
      all_goals go_wp2_with fail
      all_goals go_roundw
      all_goals first|(simp[intOf];omega)|exact q.out (k+2) [92,d] _ (by omega) (by omega) (by simp) (by go_num) I.out
     ·have O:k+1=l.length:=by omega
      have L:min ((k:Int)+2) (l.length:Int)=(l.length:Int):=by omega
      have j:l.drop (k+1)=[]:=by rw[O];exact cj
      have K:(l.take l.length).drop k=[92]:=by rw[bA,u.out,j,f.out]
      have r:=Zw cur l k l.length (by omega) (by omega) K;have I:Hid (RdS.Ap sep (l.drop k)=RdS.glue [92] (RdS.Ap sep (l.drop l.length))):=hZ9 (by
       rw[u.out,f.out,j,RdS.KW C.out,cj];simp[RdS.Ap,RdS.glue])
      clear K j;go_wp2_with fail
      go_region
      all_goals go_wp2_with fail
      all_goals go_roundw
      all_goals first|(simp[intOf];omega)|exact q.out l.length [92] _ (by omega) (by omega) (by simp;omega) (by go_num) I.out
    ·have f:=hZ9 h92;have P:((c.toNat:Int)==92)=false:=aV.2 (λh=>h92 (Dn (n:=92) rfl h));have r:=Zw cur l k (k+1) (by omega) (by omega) (show (l.take (k+1)).drop k=[c] by rw[eO,u.out];simp);clear h92;have I:Hid (RdS.Ap sep (l.drop k)=RdS.glue [c] (RdS.Ap sep (l.drop (k+1)))):=hZ9 (by rw[u.out,RdS.JB M.out f.out]);go_wp2_with fail
     go_region
     all_goals go_wp2_with fail
     all_goals go_roundw
     all_goals first|(simp[intOf];omega)|exact q.out (k+1) [c] _ (by omega) (by omega) (by simp) (by go_num) I.out
  ·have Q:k=l.length:=by omega
   subst Q;have hd:l.drop l.length=[]:=cj;rw[hd] at m;have s:RdS.Ap sep l=ys++[cur]:=by rw[m];simp[RdS.Ap,RdS.glue]
   rw[<-s] at a;clear m s hd;go_wp2_with fail;go_ret;exact⟨_,rfl,a.strs,hb⟩
end
section
open Go.RowKit
def UR(sep:UInt8)(l:iK)(w0:World)(out fr i:Value)(wr:World):Prop:=
 ∃(k f:Nat) (ys:List iK),k<=l.length+1/\i=.int .i64 k/\fr=.int .i64 f/\f<=k/\f<=l.length/\Own wr w0.heap.size out ys/\ys.length<=k/\
  RdS.Ap sep l=ys++RdS.glue ((l.take k).drop f) (RdS.Ap sep (l.drop k))/\Below w0.heap.size w0 wr
theorem Ud(l:iK)(f k j:Nat)(h:f<=k)(hk:k<=l.length):(l.take (k+j)).drop f=(l.take k).drop f++(l.drop k).take j:=by
 rw[List.take_add,fY];have:f-(l.take k).length=0:=by rw[ar];omega
 rw[this,bI]
theorem PY(l:iK)(sep:UInt8)(Q:l.length<=1000000)(h92:sep≠92)(w:World):Calls prog 115 #[l,.int .u8 (sep.toNat:Int)] w (Hv sep l w):=by
 have u:=hZ9 h92;clear h92;go_enter func115,ntmps115;go_wp2_with fail;go_loopw [5,6,7] (λout fr i wr=>UR sep l w out fr i wr) (λ_ _ i _=>l.length+1-(intOf i).toNat)
 case atStart=>refine⟨0,0,[],aR _,rfl,rfl,aA _,aR _,Own.empty _ _,aR _,?_,Below.refl _ _⟩;obtain⟨p,ps,e⟩:=RdS.CS sep l;simp[e,RdS.glue]
 case round=>
  obtain⟨k,f,ys,hk,rfl,rfl,F,z,d,K,o,hb⟩:=hrel;by_cases G:k<l.length
  ·have E:=hZ9 (av G);generalize x:l[k]=c at*;have M:∀h,(⟨l.toArray⟩:ByteArray)[k]'h=c:=λ_=>x;have P:=hZ9 hk;have g:=hZ9 o;have A:=hZ9 (λj=>Ud l f k j F (by omega));clear x o hk;by_cases h92:c=92
   ·have r:=hZ9 h92;have H:((c.toNat:Int)==92)=true:=by rw[h92];rfl
    clear h92;go_wp2_with fail;go_roundw
    case rel=>
     refine⟨k+2,f,ys,by omega,by go_num,rfl,by omega,z,d,by omega,?_,hb⟩;rw[g.out,A.out 2,E.out,r.out];by_cases I:k+1<l.length
     ·rw[av I,RdS.IP u.out,RdS.JV];rfl
     ·have y:l.drop (k+1)=[]:=bO (by omega);have t:l.drop (k+2)=[]:=bO (by omega);rw[y,t,RdS.KW u.out];simp[RdS.Ap,RdS.glue]
    case measure=>simp[intOf];omega
   ·have r:=hZ9 h92;have H:((c.toNat:Int)==92)=false:=aV.2 (λh=>h92 (Dn (n:=92) rfl h));clear h92;cases m:(c==sep) with
    |true=>
     have C:=hZ9 (ag.1 m);have O:((c.toNat:Int)==(sep.toNat:Int))=true:=by rw[ag.1 m];exact eX _
     clear m;go_wp2_with (at_builtin;refine Hz (by rfl) _ _ (by rfl) w.heap.size _ ys (by rfl) (d.alloc _) wr.heap.size (by rfl) ((l.take k).drop f) ?c1 ?c2 ?c3 ?_)
     case c1=>simp[go_sem,Ac,Eu]
     case c2=>omega
     case c3=>have:=hb.size;simp;omega
     intro L w2 a s;go_wp2_with fail;go_roundw
     case rel=>refine⟨k+1,k+1,ys++[(l.take k).drop f],by omega,by go_num,by go_num,aA _,by omega,a,by simp;omega,?_,(hb.alloc hb.size _).trans s⟩;have N:(l.take (k+1)).drop (k+1)=[]:=bO (by rw[ar];omega);obtain⟨p,ps,e⟩:=RdS.CS sep (l.drop (k+1));rw[g.out,E.out,C.out,RdS.LH,RdS.IB,bK,bL,N,e];rfl
     case measure=>simp[intOf];omega
    |false=>
     have C:Hid (c≠sep):=hZ9 (by simpa using m);have O:((c.toNat:Int)==(sep.toNat:Int))=false:=aV.2 (λh=>C.out (cd.1 (by omega)));clear m;go_wp2_with fail;go_roundw
     case rel=>refine⟨k+1,f,ys,by omega,by go_num,rfl,by omega,z,d,by omega,?_,hb⟩;rw[g.out,A.out 1,E.out,RdS.JB C.out r.out,RdS.JV];rfl
     case measure=>simp[intOf];omega
  ·have hd:l.drop k=[]:=bO (by omega);have J:l.take k=l:=af (by omega);have q:RdS.Ap sep l=ys++[l.drop f]:=by rw[o,hd,J];simp[RdS.Ap,RdS.glue]
   have g:=hZ9 q;clear o q hd J;go_wp2_with (at_builtin;refine Hz (by rfl) _ _ (by rfl) w.heap.size _ ys (by rfl) (d.alloc _) wr.heap.size (by rfl) (l.drop f) ?d1 ?d2 ?d3 ?_)
   case d1=>simp[go_sem,Ac,Eu]
   case d2=>omega
   case d3=>have:=hb.size;simp;omega
   intro L w2 a s;go_wp2_with fail;go_ret;exact⟨_,rfl,by rw[g.out];exact a.strs,(hb.alloc hb.size _).trans s⟩
end
section
open Go.RowKit
def Bld(B b:Nat)(l:iK)(w:World):Prop:=Lib.IsBuilder 159 5 B b (l.map Aj) w
def Gp(B b:Nat)(l:iK)(w:World):Prop:=Lib.BuilderAt 159 5 B b (.pointer (some ⟨b,0,none⟩)) (l.map Aj) w
theorem Gp.bld(h:Gp B b l w):Bld B b l w:=.inr h
theorem Bld.fresh(w:World):Bld w.heap.size w.heap.size [] (w.alloc (.cells #[.pointer none,.slice none 0 0] 159)):=Lib.fresh_isBuilder _ _ w
theorem Bld.lt(h:Bld B b l w):b<w.heap.size/\B<=b:=by
 rcases h with h|h
 ·exact⟨h.lt,h.1⟩
 ·exact⟨h.lt,h.1⟩
theorem PZ{p:Value}{f:List Value}(h:Lib.BuilderAt 159 5 B b p f w)(hb:Below w.heap.size w w'):Lib.BuilderAt 159 5 B b p f w':=by have e:=h.lt;obtain⟨hB,v,d,a,c⟩:=h;exact⟨hB,v,by rw[hb.block b e];exact d,World.ownsRow.kept a (Bc hb) (by cases v.ownBlock<;>simp),c⟩
theorem Bld.call(h:Bld B b l w)(hb:Below w.heap.size w w'):Bld B b l w':=by
 rcases h with h|h
 ·exact .inl (PZ h hb)
 ·exact .inr (PZ h hb)
theorem Bld.alloc(h:Bld B b l w)(o:Obj):Bld B b l (w.alloc o):=h.call (Af w o)
theorem Bld.drew(h:Bld B b l w):Bld B b l w.drew:=h.call ((Below.refl _ _).drew)
theorem Agi:(159:Nat)≠5:=by decide
theorem Yt:(prog.info? 159).map (·.size)=some 2:=by kernel_rfl
theorem Afi:liesAt prog prog.depth 159 (2 / prog.cellsOf 159) 0 159 1=true:=by kernel_rfl
def Others(b:Nat)(w w':World):Prop:=∀k,k<w.heap.size->k≠b->(∀cs fz,w.heap[k]?≠some (.cells cs 5 fz))->w'.heap[k]?=w.heap[k]?
theorem Others.refl(b:Nat)(w:World):Others b w w:=λ_ _ _ _=>rfl
theorem Others.trans{u v:World}(h:Others b u v)(h2:Others b v w)(c:u.heap.size<=v.heap.size):Others b u w:=λk hk hb a=>by have e:=h k hk hb a;rw[h2 k (by omega) hb (by rw[e];exact a),e]
theorem Others.alloc(h:Others b w w')(c:w.heap.size<=w'.heap.size)(o:Obj):Others b w (w'.alloc o):=λk hk hb a=>by rw[Below.heap_alloc _ _ _ (by omega)];exact h k hk hb a
theorem Others.drew(h:Others b w w'):Others b w w'.drew:=h
theorem Others.of_ne(h:∀k,k≠b->w'.heap[k]?=w.heap[k]?):Others b w w':=λk _ hb _=>h k hb
theorem Others.grown{w2:World}{n:Nat}{xs:List Value}(f:w.grownBy w2 v.ownBlock)(a:w.ownsRow B 5 1 v n xs):Others b w w2:=λk hk _ c=>by
 refine f.block k hk (λe=>?_);rcases a.2 with⟨rfl,_⟩|⟨g,cap,cur,rfl,_,d,_⟩
 ·cases e
 ·cases e;exact c _ _ d
theorem Others.setCell(h:Others b w w')(i:Nat)(u:Value):Others b w (w'.setCell ⟨b,i,none⟩ u):=λk hk hb a=>by rw[Below.heap_setCell _ _ _ _ hb];exact h k hk hb a
theorem Others.cell(h:Others b w w'){g:Nat}{cs:Array Value}(c:T≠5)(hb:g≠b)(a:Whole w g T cs):Whole w' g T cs:=by unfold Whole at a⊢;rw[h g (ah.1 a).1 hb (λd fz e=>by rw[a] at e;cases e;exact c rfl)];exact a
theorem Rk(b:Nat)(w:World)(h0:w.cell? ⟨b,0,none⟩=some (.pointer (some ⟨b,0,none⟩))):
  Calls prog 145 #[.pointer (some ⟨b,0,none⟩)] w λe w'=>e=.returned (.tuple #[])/\w=w':=by
 obtain⟨j,c,_⟩:=bF.1 Yt;have a:=λw=>Lib.run_neq_ptr_same (P:=prog) w ⟨b,0,none⟩ underlying156 c;clear c;go_enter func145,ntmps145;go_wp2_with fail
 go_end0
 exact⟨rfl,rfl⟩
theorem Qa(b:Nat)(w:World)(h0:w.cell? ⟨b,0,none⟩=some (.pointer none))(a:w.shape? b=some (159,2))(f:w.frozen? ⟨b,0,none⟩=false):
  Calls prog 145 #[.pointer (some ⟨b,0,none⟩)] w λe w'=>e=.returned (.tuple #[])/\(w.setCell ⟨b,0,none⟩ (.pointer (some ⟨b,0,none⟩)))=w':=by
 obtain⟨j,d,c⟩:=bF.1 Yt;have c1:=Lib.run_to_unsafe (P:=prog) w ⟨b,0,none⟩ underlying156 underlying218 d (by rw[c];decide) a (dW 1);have c2:=Lib.run_from_unsafe (P:=prog) w ⟨b,0,none⟩ underlying218 underlying156 d a Afi;have g:(callFunc 175 #[.pointer (some ⟨b,0,none⟩)]).run prog w=.ok (.value (.pointer (some ⟨b,0,none⟩))) w:=by rw[run_callFunc_extern func175 (by kernel_rfl) (by kernel_rfl) (by kernel_rfl) (e:=Extern.AbiNoEscape.same) (by kernel_rfl),Lib.run_noEscape];rfl
 clear d c;go_enter func145,ntmps145;go_wp2_with fail
 go_end0
 exact⟨rfl,rfl⟩
theorem Kz(B b:Nat)(l:iK)(w:World)(h:Bld B b l w):
  Calls prog 145 #[.pointer (some ⟨b,0,none⟩)] w λe w'=>e=.returned (.tuple #[])/\Gp B b l w'/\Below B w w'/\(∀k,k≠b->w'.heap[k]?=w.heap[k]?)/\w.heap.size<=w'.heap.size:=by
 rcases h with h|h
 ·refine(Qa b w h.cell0 h.shape h.frozen0).mono ?_;rintro e w' ⟨rfl,rfl⟩;exact⟨rfl,h.used _,(Below.refl B w).setCell (p:=⟨b,0,none⟩) h.1 _,λk hk=>Below.heap_setCell _ _ _ _ hk,by simp[World.setCell]⟩
 ·refine(Rk b w h.cell0).mono ?_;rintro e w' ⟨rfl,rfl⟩;exact⟨rfl,h,Below.refl B _,λ_ _=>rfl,aA _⟩
theorem Gp.open_(h:Gp B b l w):∃v,w.heap[b]?=some (.cells #[.pointer (some ⟨b,0,none⟩),v] 159 (0,0))/\OwnB w B v l/\v.ownBlock≠some b/\b<w.heap.size/\B<=b/\
  w.cell? ⟨b,0,none⟩=some (.pointer (some ⟨b,0,none⟩))/\w.cell? ⟨b,1,none⟩=some v:=by
 have e:=h.lt;obtain⟨hB,v,c,a,d⟩:=h;refine⟨v,c,?_,d,e,hB,?_,?_⟩
 ·unfold OwnB;rw[b9] at a;exact a
 ·rw[Lib.cell_of_heap c];rfl
 ·rw[Lib.cell_of_heap c];rfl
theorem Gp.stored{w2:World}{h:Value}{row:Option Nat}(d:w.heap[b]?=some (.cells #[.pointer (some ⟨b,0,none⟩),v] 159 (0,0)))(g:b<w.heap.size)(hB:B<=b)
  (i:w.grownBy w2 row)(f:row≠some b)(c:OwnB w2 B h l):w2.cell? ⟨b,0,none⟩=some (.pointer (some ⟨b,0,none⟩))/\w2.cell? ⟨b,1,none⟩=some v/\w2.frozen? ⟨b,1,none⟩=false/\Gp B b l (w2.setCell ⟨b,1,none⟩ h):=by
 have a:w2.heap[b]?=some (.cells #[.pointer (some ⟨b,0,none⟩),v] 159 (0,0)):=by rw[i.block b g (λe=>f e.symm)];exact d
 refine⟨by rw[Lib.cell_of_heap a];rfl,by rw[Lib.cell_of_heap a];rfl,Lib.frozen_of_heap a 1,?_⟩;exact Lib.BuilderAt.put hB a (by unfold OwnB at c;rw[b9];exact c) Agi
theorem Dw(B b:Nat)(l:iK)(c:UInt8)(w:World)(h:Bld B b l w)(J:l.length<=900000000)(E:B<=w.heap.size):
  Calls prog 143 #[.pointer (some ⟨b,0,none⟩),.int .u8 (c.toNat:Int)] w λe w'=>e=.returned .nilIface/\Gp B b (l++[c]) w'/\Below B w w'/\Others b w w':=by
 have r:=Kz B b l w h;clear h;go_enter func143,ntmps143;go_wp2_with fail;refine r.mono ?_;rintro e w1 ⟨rfl,hu,q,m,n⟩;obtain⟨v,k,d,o,x,hB,c0,c1⟩:=hu.open_;obtain⟨a,G,rfl⟩:=d.form;have hsz:=q.size;have C:=hZ9 d;have y:=hZ9 o;have A:=hZ9 k;have z:=hZ9 (Others.of_ne m);clear r o k hu m;go_wp2_with (at_builtin;refine Jv (by rfl) _ _ (by rfl) B _ l (by rfl) (d.alloc _) w1.heap.size 1 1 (by rfl) [c] (by rfl) ?c1 ?c2 ?c3 ?_)
 case c1=>first|exact one_cell (by simp[go_sem,Aj])|exact EY _
 case c2=>simp;omega
 case c3=>simp;omega
 intro I w2 f u j;have t:Hid (Others b w w2):=hZ9 ((z.out.alloc n _).trans (Others.grown j (OwnB.alloc C.out _)) (by simp;omega));obtain⟨a2,F,rfl⟩:=f.form;have i:(w1.alloc (.cells #[.int .u8 (c.toNat:Int)] 5)).heap[b]?=some (.cells #[.pointer (some ⟨b,0,none⟩),.slice a l.length G] 159 (0,0)):=by rw[Below.heap_alloc _ _ _ x];exact A.out
 obtain⟨H,d1,f1,g⟩:=Gp.stored i (by simp;omega) hB j y.out f;rw[show (l++[c]).length=l.length+1 from by simp] at g;have s:=hZ9 g;clear i g;go_wp2_with fail;go_ret;exact⟨rfl,s.out,((q.alloc (by omega) _).trans u).setCell (p:=⟨b,1,none⟩) hB _,t.out.setCell 1 _⟩
theorem Ij(B b:Nat)(l:iK)(c:UInt8)(w:World)(h:Bld B b l w)(d:l.length<=900000000)(a:B<=w.heap.size):
  Calls prog 143 #[.pointer (some ⟨b,0,none⟩),.int .u8 (c.toNat:Int)] w λe w'=>e=.returned .nilIface/\Gp B b (l++[c]) w'/\Below B w w':=
 (Dw B b l c w h d a).mono λ_ _ h=>⟨h.1,h.2.1,h.2.2.1⟩
theorem Cf(B b:Nat)(l:iK)(g m K:Nat)(ys:iK)(w:World)(h:Bld B b l w)(U:l.length+m<=900000000)(O:B<=w.heap.size)(J:ys.length=m)(G:g≠b)
  (L:∀(j:Nat) (y:UInt8),ys[j]?=some y->w.cell? ⟨g,j,none⟩=some (Aj y)):
  Calls prog 174 #[.pointer (some ⟨b,0,none⟩),.slice (some ⟨g,0,none⟩) m K] w λe w'=>e=.returned (.tuple #[m,.nilIface])/\Gp B b (l++ys) w'/\Below B w w'/\Others b w w':=by
 have t:=Kz B b l w h;clear h;go_enter func174,ntmps174;go_wp2_with fail;refine t.mono ?_;rintro e w1 ⟨rfl,hu,s,i,q⟩;have o:∀(j:Nat) (y:UInt8),ys[j]?=some y->w1.cell? ⟨g,j,none⟩=some (Aj y):=λj y N=>
  (World.cell?_of_block (a:=⟨g,j,none⟩) (i g G)).trans (L j y N)
 have A:=hZ9 o;clear L o;obtain⟨v,n,c,r,C,hB,c0,c1⟩:=hu.open_;obtain⟨a,S,rfl⟩:=c.form;have hsz:=s.size;have I:=hZ9 c;have E:=hZ9 r;have H:=hZ9 n;have M:=hZ9 J;have F:=hZ9 (Others.of_ne i);clear t r n hu J i;go_wp2_with (at_builtin;refine Jv (by rfl) _ _ (by rfl) B _ l (by rfl) c g m K (by rfl) ys M.out A.out ?c2 ?c3 ?_)
 case c2=>omega
 case c3=>omega
 intro R w2 d z k;have x:Hid (Others b w w2):=hZ9 (F.out.trans (Others.grown k I.out) q);obtain⟨a2,P,rfl⟩:=d.form;obtain⟨Q,d1,f1,f⟩:=Gp.stored H.out C hB k E.out d;rw[show (l++ys).length=l.length+ys.length from aT] at f;have u:=hZ9 f;clear f;go_wp2_with fail;go_ret2;exact⟨rfl,u.out,(s.trans z).setCell (p:=⟨b,1,none⟩) hB _,x.out.setCell 1 _⟩
theorem MA(B b:Nat)(l:iK)(s:ByteArray)(w:World)(h:Bld B b l w)(R:l.length+s.size<=900000000)(L:B<=w.heap.size):
  Calls prog 111 #[.pointer (some ⟨b,0,none⟩),.string s] w λe w'=>e=.returned (.tuple #[s.size,.nilIface])/\Gp B b (l++s.data.toList) w'/\Below B w w'/\Others b w w':=by
 obtain⟨i0,K,z,F,H⟩:=info_parts Qs;have M:=hZ9 K;have x:=Kz B b l w h;clear h K;go_enter func111,ntmps111;go_wp2_with fail;refine x.mono ?_;rintro e w1 ⟨rfl,hu,u,q,r⟩;obtain⟨v,o,c,t,C,hB,c0,c1⟩:=hu.open_;obtain⟨a,P,rfl⟩:=c.form;have hsz:=u.size;have J:=hZ9 c;have E:=hZ9 t;have I:=hZ9 o;have i:w1.ownsRow B 5 1 (.slice a l.length P) l.length (l.map Aj):=c;have G:=hZ9 (Others.of_ne q);clear x t o hu c q;go_wp2_with (at_builtin;refine Lib.wpList_append_own_string _ (by rfl) _ _ 157 9 (by rfl) B 5 i0 underlying157 underlying9 M.out z F H _ _ _ (by rfl) i s (by rfl) ?c3 ?c4 ?c5 ?_)
 case c3=>unfold maxLen;omega
 case c4=>omega
 case c5=>omega
 intro N w2 d n _;have y:Hid (Others b w w2):=hZ9 (G.out.trans (Others.grown n J.out) r);have j:Lib.strCells s=s.data.toList.map Aj:=by unfold Lib.strCells Aj;first|rfl|simp
 have f:OwnB w2 B N (l++s.data.toList):=by unfold OwnB;rw[bQ,aT,<-Lib.size_eq,<-j];exact d
 clear d;obtain⟨a2,O,rfl⟩:=f.form;obtain⟨Q,d1,f1,g⟩:=Gp.stored I.out C hB n E.out f;rw[show (l++s.data.toList).length=l.length+s.data.toList.length from aT] at g;have m:=hZ9 g;have A:Below B w1 w2:=(Below.refl B w1).grown n (by omega) (λk hk=>(World.ownsRow.lt i k hk).1);clear g;go_wp2_with fail;go_ret2;exact⟨rfl,by first|exact m.out|simpa using m.out,(u.trans A).setCell (p:=⟨b,1,none⟩) hB _,y.out.setCell 1 _⟩
end
section
open Go.RowKit
def AY(w:World)(v:Value)(xs:List RdS.Pr):Prop:=
 ∃a c,v=.slice a xs.length c/\xs.length<=c/\(xs=[]\/∃g o,a=some ⟨g,o,none⟩/\g<w.heap.size/\
  ∀(j:Nat) (p:RdS.Pr),xs[j]?=some p->w.cell? ⟨g,o+j*2,none⟩=some (Ac p.1)/\w.cell? ⟨g,o+j*2+1,none⟩=some (Ac p.2))
theorem AY.call{xs:List RdS.Pr}(h:AY w v xs)(hb:Below B w w')(hB:w.heap.size<=B):AY w' v xs:=by
 obtain⟨a,c,rfl,hc,h⟩:=h;refine⟨a,c,rfl,hc,?_⟩;rcases h with h|⟨g,o,rfl,d,h⟩
 ·exact .inl h
 ·refine .inr ⟨g,o,rfl,ae d hb.size,λj p e=>⟨?_,?_⟩⟩
  ·exact(hb.cell (p:=⟨g,o+j*2,none⟩) (ae d hB)).trans (h j p e).1
  ·exact(hb.cell (p:=⟨g,o+j*2+1,none⟩) (ae d hB)).trans (h j p e).2
theorem AY.empty(w:World):AY w (.slice none 0 0) []:=⟨Option.none,0,rfl,aA _,.inl rfl⟩
def CO(xs:List RdS.Pr):List Value:=xs.flatMap λp=>[Ac p.1,Ac p.2]
theorem Le(xs:List RdS.Pr):(CO xs).length=xs.length*2:=by
 induction xs with
 |nil=>rfl
 |cons p xs a=>show ([Ac p.1,Ac p.2]++CO xs).length=_;rw[aT,a];simp;omega
theorem KA(xs ys:List RdS.Pr):CO (xs++ys)=CO xs++CO ys:=by unfold CO;rw[gY]
theorem Ji:∀(xs:List RdS.Pr) (j:Nat) (p:RdS.Pr),xs[j]?=some p->(CO xs)[j*2]?=some (Ac p.1)/\(CO xs)[j*2+1]?=some (Ac p.2)
 |[],j,p,h=>by simp at h
 |q :: xs,0,p,h=>by have:=aU h;subst this;exact⟨rfl,rfl⟩
 |q :: xs,j+1,p,h=>by have:=Ji xs j p (by simpa using h);have e:CO (q :: xs)=Ac q.1 :: Ac q.2 :: CO xs:=rfl;rw[e,show (j+1)*2=j*2+1+1 from by omega];exact this
def Bg(T:TypeId)(w:World)(B:Nat)(v:Value)(xs:List RdS.Pr):Prop:=w.ownsRow B T 2 v xs.length (CO xs)
theorem Bg.empty(T:TypeId)(w:World)(B:Nat):Bg T w B (.slice none 0 0) []:=World.ownsRow_nil w B _ 2
theorem Bg.form{xs:List RdS.Pr}(h:Bg T w B v xs):∃a c,v=.slice a xs.length c:=by
 rcases h.2 with⟨rfl,d⟩|⟨g,cap,cur,rfl,_⟩
 ·exact⟨_,_,by rw[d]⟩
 ·exact⟨_,_,rfl⟩
theorem Bg.call{xs:List RdS.Pr}(h:Bg T w B v xs)(hb:Below w.heap.size w w'):Bg T w' B v xs:=
 World.ownsRow.kept h (Bc hb) (by cases v.ownBlock<;>simp)
theorem Bg.alloc{xs:List RdS.Pr}(h:Bg T w B v xs)(o:Obj):Bg T (w.alloc o) B v xs:=World.ownsRow.alloc h o
theorem Bg.avas{xs:List RdS.Pr}(h:Bg T w B v xs):AY w v xs:=by
 rcases h.2 with⟨rfl,c⟩|⟨g,cap,cur,rfl,i,e,c,m,hsz,f⟩
 ·exact⟨Option.none,0,by rw[c],by omega,.inl (aY c)⟩
 ·refine⟨some ⟨g,0,Option.none⟩,cap,rfl,c,.inr ⟨g,0,rfl,(ah.1 e).1,λj p d=>?_⟩⟩;have h2:=Ji xs j p d;have a:∀k,(⟨g,0,Option.none⟩:Addr).add k=⟨g,0+k,Option.none⟩:=λk=>by unfold Addr.add;split<;>simp_all
  have c1:=World.ownsRow.cells h (g:=g) rfl _ _ h2.1;have c2:=World.ownsRow.cells h (g:=g) rfl _ _ h2.2;rw[a] at c1 c2;exact⟨c1,by rw[cQ];exact c2⟩
theorem Jm{ops:Array Oper}{rest:List Oper}{o:Oper}{a:Act}{Q:Exit->Act->World->Prop}(T n:TypeId)(t:prog.underlying n=some (.slice T)){i0:TypeInfo}{z:Value}
  (G:prog.info? T=some i0)(C:i0.zero=some z)(e:i0.size=2)(A:i0.bytes=32)(m:z.cells.size=2)(r:o.guard=none)(s x:Operand)
  (F:o.op=.call { callee:=.builtin .append,args:=#[s,x],argTypes:=#[n,n] })
  (B:Nat)(v:Value)(xs:List RdS.Pr)(E:a.eval s=v)(c:Bg T w B v xs)(g:Nat)(hx:a.eval x=.slice (some ⟨g,0,Option.none⟩) 1 1)
  (p:RdS.Pr)(q:w.cell? ⟨g,0,Option.none⟩=some (Ac p.1))(y:w.cell? ⟨g,1,Option.none⟩=some (Ac p.2))(H:xs.length<=1000000000)(hB:B<=w.heap.size)
  (h:∀i w',Bg T w' B i (xs++[p])->Below B w w'->wpList prog ops Q rest (a.put o.dst i) w'):wpList prog ops Q (o :: rest) a w:=by
 refine wpList_append_own w r s x _ F B T i0 z 2 32 t G C e A m (by decide) v xs.length (CO xs) E c ⟨g,0,Option.none⟩ 1 1 [Ac p.1,Ac p.2] hx rfl
  (λj u f=>?_) (λu hu=>?_) (by unfold maxLen;omega) (by omega) hB (λi w' h1 h2 _=>h i w' ?_ ?_)
 ·have d:∀k,(⟨g,0,Option.none⟩:Addr).add k=⟨g,k,Option.none⟩:=λk=>by unfold Addr.add;split<;>simp_all
  rw[d]
  match j,f with
  |0,f=>rw[q];simpa using f
  |1,f=>rw[y];simpa using f
 ·simp only[ay,dX,fZ] at hu;rcases hu with rfl|rfl<;>rfl
 ·unfold Bg;rw[KA,aT];exact h1
 ·exact(Below.refl B w).grown h2 hB (λk hk=>(World.ownsRow.lt c k hk).1)
end
