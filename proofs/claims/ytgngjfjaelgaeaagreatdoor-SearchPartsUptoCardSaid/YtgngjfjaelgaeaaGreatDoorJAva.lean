/- Requests of searches in memory, and the walks of whether one is formed, the program's and the document's. Conditions: as stated. -/
import Derived.Deep.AppendLies
import Derived.Test.YtgngjfjaelgaeaaGreatDoorJFif
set_option maxRecDepth 100000
set_option maxHeartbeats 4000000
namespace Go.Proofs.YtgngjfjaelgaeaaGreatDoor
open Go.Proofs.Tryz
section
open Go.RowKit
open FiS (Fi)
attribute [local go_sem ↓] Go.wp_at_zero Go.wp_at_succ
def EC (n:Nat) (w:World) (v:Value) (q:SeS.Rq):Prop:=∃(a5 d a:Option Addr) (c5 b c:Nat),v=.agg #[.string ⟨q.base.toArray⟩,.int .i64 q.scope,.int .i64 q.deref,.int .i64 q.filter.kind,.string ⟨q.filter.attr.toArray⟩,.string ⟨q.filter.value.toArray⟩,.string ⟨q.filter.first.toArray⟩,.string ⟨q.filter.last.toArray⟩,.slice a5 q.filter.any.length c5,.slice d q.filter.parts.length b,.slice a q.attrs.length c,.bool q.tonly,.int .i64 q.size]/\Dh n w (.agg #[.int .i64 q.filter.kind,.string ⟨q.filter.attr.toArray⟩,.string ⟨q.filter.value.toArray⟩,.string ⟨q.filter.first.toArray⟩,.string ⟨q.filter.last.toArray⟩,.slice a5 q.filter.any.length c5,.slice d q.filter.parts.length b]) q.filter/\Ah w (.slice a q.attrs.length c) q.attrs
theorem EC.call {n:Nat} {w w':World} {v:Value} {q:SeS.Rq} (h:EC n w v q) (hb:Below w.heap.size w w'):EC n w' v q:=by obtain ⟨a5,b,d,c5,e,a,c,h1,h2⟩:=h;exact ⟨a5,b,d,c5,e,a,c,h1.call hb,h2.call hb (aA _)⟩
theorem YF (n:Nat) (q:SeS.Rq) (v:Value) (w:World) (h:EC n w v q) (o:FiS.wdF 20000 q.filter):Calls prog 24 #[v] w (BB (SeS.AW q) w):=by
 have g:=hZ9 (fun v W h=>PO n q.filter v W h o);unfold BB SeS.AW at*;obtain ⟨a5,B,y,c5,z,F,rfl,l,_⟩:=h;have i:=hZ9 l;clear l o;obtain ⟨I,sc,dr,x,at_,C,sz⟩:=q;simp only at g i⊢;generalize at_.length=QL at*;generalize x.any.length=AL at*;generalize x.parts.length=PL at*;generalize x.kind=kd at*;generalize x.attr=at0 at*;generalize x.value=vl at*;generalize x.first=fs at*;generalize x.last=ls at*;have c:=Af w (.cells #[.string ⟨I.toArray⟩,.int .i64 sc,.int .i64 dr,.int .i64 kd,.string ⟨at0.toArray⟩,.string ⟨vl.toArray⟩,.string ⟨fs.toArray⟩,.string ⟨ls.toArray⟩,.slice a5 AL c5,.slice B PL z,.slice y QL F,.bool C,.int .i64 sz] 38);have a:=Whole.made w 38 #[.string ⟨I.toArray⟩,.int .i64 sc,.int .i64 dr,.int .i64 kd,.string ⟨at0.toArray⟩,.string ⟨vl.toArray⟩,.string ⟨fs.toArray⟩,.string ⟨ls.toArray⟩,.slice a5 AL c5,.slice B PL z,.slice y QL F,.bool C,.int .i64 sz];have Q:=a.cell 1;have N:=a.cell 2;have R:=a.cell 3;have O:=a.cell 4;have K:=a.cell 5;have S:=a.cell 6;have M:=a.cell 7;have P:=a.cell 8;have L:=a.cell 9;have r:=a.cell 12;simp only [aI,aH,aK] at Q N R O K S M P L r;have d:=g.out _ _ (i.out.call c);clear g i a;obtain ⟨G,m⟩:∃b,FiS.formedS x=b:=⟨_,rfl⟩
 rw [m] at d⊢;clear m;obtain ⟨k,j⟩:∃b,(decide (0<=sc)&&decide (sc<=2)&&decide (0<=dr)&&decide (dr<=3)&&decide (0<=sz)&&G)=b:=⟨_,rfl⟩
 rw [j];have f:=hZ9 j;clear j;by_cases H:0<=sc
 case neg=>have s:decide (0<=sc)=false:=aC H;clear d;have HR:Hid (k=false):=hZ9 (by rw [<-f.out,s];simp);go_enter func24,ntmps24;go_wp2_with fail;go_ret;exact ⟨by (rw [HR.out]) <;> rfl,c⟩
 have s:decide (0<=sc)=true:=aL H;by_cases E:sc<=2
 case neg=>have d1:decide (sc<=2)=false:=aC E;clear d;have HR:Hid (k=false):=hZ9 (by rw [<-f.out,d1];simp);go_enter func24,ntmps24;go_wp2_with fail;go_ret;exact ⟨by (rw [HR.out]) <;> rfl,c⟩
 have d1:decide (sc<=2)=true:=aL E;by_cases J:0<=dr
 case neg=>have d2:decide (0<=dr)=false:=aC J;clear d;have HR:Hid (k=false):=hZ9 (by rw [<-f.out,d2];simp);go_enter func24,ntmps24;go_wp2_with fail;go_ret;exact ⟨by (rw [HR.out]) <;> rfl,c⟩
 have d2:decide (0<=dr)=true:=aL J;by_cases u:dr<=3
 case neg=>have d3:decide (dr<=3)=false:=aC u;clear d;have HR:Hid (k=false):=hZ9 (by rw [<-f.out,d3];simp);go_enter func24,ntmps24;go_wp2_with fail;go_ret;exact ⟨by (rw [HR.out]) <;> rfl,c⟩
 have d3:decide (dr<=3)=true:=aL u;by_cases A:0<=sz
 case neg=>have d4:decide (0<=sz)=false:=aC A;clear d;have HR:Hid (k=false):=hZ9 (by rw [<-f.out,d4];simp);go_enter func24,ntmps24;go_wp2_with fail;go_ret;exact ⟨by (rw [HR.out]) <;> rfl,c⟩
 have d4:decide (0<=sz)=true:=aL A;have HR:Hid (k=G):=hZ9 (by rw [<-f.out,s,d1,d2,d3,d4];rfl);go_enter func24,ntmps24;go_wp2_with fail;refine d.mono ?_;rintro e w1 ⟨rfl,p⟩;have t:=c.trans (p.mono c.size);clear d;go_wp2_with fail;go_ret;exact ⟨by (rw [HR.out]) <;> rfl,t⟩
theorem LF (n:Nat) (q:SeS.Rq) (v:Value) (w:World) (h:EC n w v q) (o:FiS.wdF 20000 q.filter):Calls prog 13 #[v] w (BB (SeS.AW q) w):=by
 have g:=hZ9 (fun v W h=>Tm n q.filter v W h o);unfold BB SeS.AW at*;obtain ⟨a5,B,y,c5,z,F,rfl,l,_⟩:=h;have i:=hZ9 l;clear l o;obtain ⟨I,sc,dr,x,at_,C,sz⟩:=q;simp only at g i⊢;generalize at_.length=QL at*;generalize x.any.length=AL at*;generalize x.parts.length=PL at*;generalize x.kind=kd at*;generalize x.attr=at0 at*;generalize x.value=vl at*;generalize x.first=fs at*;generalize x.last=ls at*;have c:=Af w (.cells #[.string ⟨I.toArray⟩,.int .i64 sc,.int .i64 dr,.int .i64 kd,.string ⟨at0.toArray⟩,.string ⟨vl.toArray⟩,.string ⟨fs.toArray⟩,.string ⟨ls.toArray⟩,.slice a5 AL c5,.slice B PL z,.slice y QL F,.bool C,.int .i64 sz] 28);have a:=Whole.made w 28 #[.string ⟨I.toArray⟩,.int .i64 sc,.int .i64 dr,.int .i64 kd,.string ⟨at0.toArray⟩,.string ⟨vl.toArray⟩,.string ⟨fs.toArray⟩,.string ⟨ls.toArray⟩,.slice a5 AL c5,.slice B PL z,.slice y QL F,.bool C,.int .i64 sz];have Q:=a.cell 1;have N:=a.cell 2;have R:=a.cell 3;have O:=a.cell 4;have K:=a.cell 5;have S:=a.cell 6;have M:=a.cell 7;have P:=a.cell 8;have L:=a.cell 9;have r:=a.cell 12;simp only [aI,aH,aK] at Q N R O K S M P L r;have d:=g.out _ _ (i.out.call c);clear g i a;obtain ⟨G,m⟩:∃b,FiS.formedS x=b:=⟨_,rfl⟩
 rw [m] at d⊢;clear m;obtain ⟨k,j⟩:∃b,(decide (0<=sc)&&decide (sc<=2)&&decide (0<=dr)&&decide (dr<=3)&&decide (0<=sz)&&G)=b:=⟨_,rfl⟩
 rw [j];have f:=hZ9 j;clear j;by_cases H:0<=sc
 case neg=>have s:decide (0<=sc)=false:=aC H;clear d;have HR:Hid (k=false):=hZ9 (by rw [<-f.out,s];simp);go_enter func13,ntmps13;go_wp2_with fail;go_ret;exact ⟨by (rw [HR.out]) <;> rfl,c⟩
 have s:decide (0<=sc)=true:=aL H;by_cases E:sc<=2
 case neg=>have d1:decide (sc<=2)=false:=aC E;clear d;have HR:Hid (k=false):=hZ9 (by rw [<-f.out,d1];simp);go_enter func13,ntmps13;go_wp2_with fail;go_ret;exact ⟨by (rw [HR.out]) <;> rfl,c⟩
 have d1:decide (sc<=2)=true:=aL E;by_cases J:0<=dr
 case neg=>have d2:decide (0<=dr)=false:=aC J;clear d;have HR:Hid (k=false):=hZ9 (by rw [<-f.out,d2];simp);go_enter func13,ntmps13;go_wp2_with fail;go_ret;exact ⟨by (rw [HR.out]) <;> rfl,c⟩
 have d2:decide (0<=dr)=true:=aL J;by_cases u:dr<=3
 case neg=>have d3:decide (dr<=3)=false:=aC u;clear d;have HR:Hid (k=false):=hZ9 (by rw [<-f.out,d3];simp);go_enter func13,ntmps13;go_wp2_with fail;go_ret;exact ⟨by (rw [HR.out]) <;> rfl,c⟩
 have d3:decide (dr<=3)=true:=aL u;by_cases A:0<=sz
 case neg=>have d4:decide (0<=sz)=false:=aC A;clear d;have HR:Hid (k=false):=hZ9 (by rw [<-f.out,d4];simp);go_enter func13,ntmps13;go_wp2_with fail;go_ret;exact ⟨by (rw [HR.out]) <;> rfl,c⟩
 have d4:decide (0<=sz)=true:=aL A;have HR:Hid (k=G):=hZ9 (by rw [<-f.out,s,d1,d2,d3,d4];rfl);go_enter func13,ntmps13;go_wp2_with fail;refine d.mono ?_;rintro e w1 ⟨rfl,p⟩;have t:=c.trans (p.mono c.size);clear d;go_wp2_with fail;go_ret;exact ⟨by (rw [HR.out]) <;> rfl,t⟩
end
section
open Go.RowKit
theorem GV (l:List UInt8) (a b:Nat):(⟨l.toArray⟩:ByteArray).extract a b=⟨((l.take b).drop a).toArray⟩:=by apply eO;rw [ByteArray.data_extract];apply Array.ext';simp [List.extract,eZ]
theorem LS (l r:List UInt8):(⟨l.toArray⟩++⟨r.toArray⟩:ByteArray)=⟨(l++r).toArray⟩:=by apply eO;rw [ByteArray.data_append];simp
theorem Di {c n:UInt8} {k:Int} (a:(n.toNat:Int)=k) (h:(c.toNat:Int)=k):c=n:=cY.1 (by omega)
theorem YG (cur l:List UInt8) (a b:Nat) (h1:cur.length<=2000000) (h2:l.length<=1000000) {y:List UInt8} (c:(l.take b).drop a=y) (w:World):
  (Op.stringOp .add ⟨cur.toArray⟩ ((⟨l.toArray⟩:ByteArray).extract a b)).run prog w=.ok (.string ⟨(cur++y).toArray⟩) w:=by
 rw [GV,c];have:y.length<=l.length:=by rw [<-c,bI,au];omega
 rw [<-LS];exact run_string_add_sum w _ _ (by show cur.toArray.size+y.toArray.size<=_;simp;omega)
def Hn (sep:UInt8) (l:List UInt8) (w:World) (e:Ending) (w':World):Prop:=∃v,e=.returned v/\Ah w' v (RdS.Ak sep l)/\Below w.heap.size w w'
def Ri (sep:UInt8) (l:List UInt8) (w0:World) (out i:Value) (wr:World):Prop:=
 ∃(k:Nat) (ys:List (List UInt8)) (cur:List UInt8),k<=l.length/\i=.int .i64 k/\Own wr w0.heap.size out (ys++[cur])/\ys.length<=k/\cur.length<=k/\
  RdS.Ak sep l=ys++RdS.glue cur (RdS.Ak sep (l.drop k))/\Below w0.heap.size w0 wr
theorem Own.last {w:World} {B:Nat} {v:Value} {ys:List (List UInt8)} {cur:List UInt8} (h:Own w B v (ys++[cur])):∃g c,v=.slice (some ⟨g,0,none⟩) (ys.length+1) c/\B<=g/\
  w.cell? ⟨g,ys.length,none⟩=some (Ac cur)/\w.frozen? ⟨g,ys.length,none⟩=false/\(∀z:List UInt8,Own (w.setCell ⟨g,ys.length,none⟩ (Ac z)) B v (ys++[z])):=by
 have b:(ys++[cur]).length=ys.length+1:=by simp
 have h0:=h;unfold Own at h0;rw [b] at h0;obtain ⟨g,cap,rfl,d,_⟩:=World.ownsRow.form h0 (Nat.succ_pos _);refine ⟨g,cap,rfl,d,?_,World.ownsRow.frozenAt h0 _,fun z=>?_⟩
 · have:=World.ownsRow.cells h0 (g:=g) rfl ys.length (Ac cur) (by rw [bP,bC (by simp)];simp);have a:(⟨g,0,none⟩:Addr).add ys.length=⟨g,ys.length,none⟩:=by unfold Addr.add;split <;> simp_all
   rwa [a] at this
 · have:=(World.ownsRow.stored h0 ys.length (Ac z)).1;unfold Own;rw [show (ys++[z]).length=ys.length+1 from by simp];rw [bP,dJ _ _ (by simp)] at this;rw [bP]
   simpa using this
theorem Rj (l:List UInt8) (sep:UInt8) (X:l.length<=1000000) (h92:sep≠92) (w:World):Calls prog 139 #[.string ⟨l.toArray⟩,.int .u8 (sep.toNat:Int)] w (Hn sep l w):=by
 have P:((sep.toNat:Int) !=92)=true:=by rw [fK];intro h;exact h92 (Di (n:=92) rfl h)
 have E:=hZ9 h92;clear h92;go_enter func139,ntmps139;go_wp2_with fail;go_loopw [5,6] (fun out i wr=>Ri sep l w out i wr) (fun _ i _=>l.length - (intOf i).toNat)
 case atStart=>
  refine ⟨0,[],[],aR _,rfl,?_,aR _,aR _,?_,Af w _⟩
  · exact ⟨rfl,.inr ⟨w.heap.size,1,#[.string ⟨#[]⟩],rfl,aA _,by show (w.heap.push _)[w.heap.size]?=_;rw [dR],aA _,by unfold maxLen;omega,rfl,rfl⟩⟩
  · obtain ⟨p,ps,e⟩:=RdS.CQ sep l;rw [bQ,e];rfl
 case round=>
  obtain ⟨k,ys,cur,hk,rfl,a,S,Q,j,hb⟩:=hrel;by_cases G:k<l.length
  · have t:=hZ9 (av G);generalize A:l[k]=c at*;have R:∀h,(⟨l.toArray⟩:ByteArray)[k]'h=c:=fun _=>A;have Z:=hZ9 hk;have I:=hZ9 j;have F:=hZ9 a;obtain ⟨g,O,rfl,T,hc,W,r⟩:=a.last;have z:=hZ9 r;unfold Ac at hc;clear A j r hk;cases m:(c==sep) with
    | true=>
     have J:=hZ9 (af.1 m);have U:((c.toNat:Int)==(sep.toNat:Int))=true:=by rw [af.1 m];exact eP _
     clear m;go_wp2_with (at_builtin;refine Hr (by rfl) _ _ (by rfl) w.heap.size (.slice (some ⟨g,0,none⟩) (ys.length+1) O) (ys++[cur]) (by rfl) (F.out.alloc _) wr.heap.size (by rfl) [] ?c1 ?c2 ?c3 ?_)
     case c1=>simp [go_sem,Ac]
     case c2=>simp;omega
     case c3=>have:=hb.size;simp;omega
     intro Y w2 u K;go_wp2_with fail;go_roundw
     case rel=>refine ⟨k+1,ys++[cur],[],G,by go_num,by rw [bK];exact u,by simp;omega,aR _,?_,(hb.alloc hb.size _).trans K⟩;rw [I.out,t.out,J.out,RdS.KW,RdS.Ir,bJ,bK];obtain ⟨p,ps,e⟩:=RdS.CQ sep (l.drop (k+1));rw [e];rfl
     case measure=>simp [intOf];omega
    | false=>
     have J:Hid (c≠sep):=hZ9 (by simpa using m);have U:((c.toNat:Int)==(sep.toNat:Int))=false:=aV.2 (fun h=>J.out (cY.1 (by omega)));clear m;have f:Hid (∀(v:Nat) (y:List UInt8) (i:Value),v<=l.length->k<=v->y.length<=v - k->i=.int .i64 v->RdS.Ak sep (l.drop k)=RdS.glue y (RdS.Ak sep (l.drop v))->
       Ri sep l w (.slice (some ⟨g,0,none⟩) (ys.length+1) O) i (wr.drew.setCell ⟨g,ys.length,none⟩ (.string ⟨(cur++y).toArray⟩))):=hZ9 (fun v y i h1 h2 h3 V h4=>
      ⟨v,ys,cur++y,h1,V,z.out (cur++y),by omega,by rw [aT];omega,by rw [I.out,h4,RdS.Jz],hb.drew.setCell (p:=⟨g,ys.length,none⟩) T _⟩)
     by_cases h92:c=92
     · have b:=hZ9 h92;have M:((c.toNat:Int)==92)=true:=by rw [h92];rfl
       clear h92;by_cases C:k+1<l.length
       · have H:min ((k:Int)+2) (l.length:Int)=(k:Int)+2:=by omega
         have B:(l.take (k+2)).drop k=[92,l[k+1]]:=by rw [eZ,t.out,av C,b.out,show k+2 - k=2 from by omega];rfl
         have q:=YG cur l k (k+2) (by omega) (by omega) B;have x:Hid (RdS.Ak sep (l.drop k)=RdS.glue [92,l[k+1]] (RdS.Ak sep (l.drop (k+2)))):=hZ9 (by
          rw [t.out,b.out,av C,RdS.IB E.out])
         clear B;generalize l[k+1]=d at*;go_wp2_with fail
         go_region
         all_goals go_wp2_with fail
         all_goals go_roundw
         all_goals first | (simp [intOf];omega) | exact f.out (k+2) [92,d] _ (by omega) (by omega) (by simp) (by go_num) x.out
       · have L:k+1=l.length:=by omega
         have H:min ((k:Int)+2) (l.length:Int)=(l.length:Int):=by omega
         have o:l.drop (k+1)=[]:=by rw [L];exact dH
         have B:(l.take l.length).drop k=[92]:=by rw [bE,t.out,o,b.out]
         have q:=YG cur l k l.length (by omega) (by omega) B;have x:Hid (RdS.Ak sep (l.drop k)=RdS.glue [92] (RdS.Ak sep (l.drop l.length))):=hZ9 (by
          rw [t.out,b.out,o,RdS.Ku E.out,dH];simp [RdS.Ak,RdS.glue])
         clear B o;go_wp2_with fail
         go_region
         all_goals go_wp2_with fail
         all_goals go_roundw
         all_goals first | (simp [intOf];omega) | exact f.out l.length [92] _ (by omega) (by omega) (by simp;omega) (by go_num) x.out
     · have b:=hZ9 h92;have M:((c.toNat:Int)==92)=false:=aV.2 (fun h=>h92 (Di (n:=92) rfl h));have q:=YG cur l k (k+1) (by omega) (by omega) (show (l.take (k+1)).drop k=[c] by rw [eZ,t.out];simp);clear h92;have x:Hid (RdS.Ak sep (l.drop k)=RdS.glue [c] (RdS.Ak sep (l.drop (k+1)))):=hZ9 (by rw [t.out,RdS.Jf J.out b.out]);go_wp2_with fail
       go_region
       all_goals go_wp2_with fail
       all_goals go_roundw
       all_goals first | (simp [intOf];omega) | exact f.out (k+1) [c] _ (by omega) (by omega) (by simp) (by go_num) x.out
  · have N:k=l.length:=by omega
    subst N;have hd:l.drop l.length=[]:=dH;rw [hd] at j;have s:RdS.Ak sep l=ys++[cur]:=by rw [j];simp [RdS.Ak,RdS.glue]
    rw [<-s] at a;clear j s hd;go_wp2_with fail;go_ret;exact ⟨_,rfl,a.strs,hb⟩
end
section
open Go.RowKit
def Uj (sep:UInt8) (l:List UInt8) (w0:World) (out fr i:Value) (wr:World):Prop:=
 ∃(k f:Nat) (ys:List (List UInt8)),k<=l.length+1/\i=.int .i64 k/\fr=.int .i64 f/\f<=k/\f<=l.length/\Own wr w0.heap.size out ys/\ys.length<=k/\
  RdS.Ak sep l=ys++RdS.glue ((l.take k).drop f) (RdS.Ak sep (l.drop k))/\Below w0.heap.size w0 wr
theorem Td (l:List UInt8) (f k j:Nat) (h:f<=k) (hk:k<=l.length):(l.take (k+j)).drop f=(l.take k).drop f++(l.drop k).take j:=by
 rw [List.take_add,List.drop_append];have:f - (l.take k).length=0:=by rw [au];omega
 rw [this,bQ]
theorem Pg (l:List UInt8) (sep:UInt8) (M:l.length<=1000000) (h92:sep≠92) (w:World):Calls prog 115 #[.string ⟨l.toArray⟩,.int .u8 (sep.toNat:Int)] w (Hn sep l w):=by
 have v:=hZ9 h92;clear h92;go_enter func115,ntmps115;go_wp2_with fail;go_loopw [5,6,7] (fun out fr i wr=>Uj sep l w out fr i wr) (fun _ _ i _=>l.length+1 - (intOf i).toNat)
 case atStart=>refine ⟨0,0,[],aR _,rfl,rfl,aA _,aR _,Own.empty _ _,aR _,?_,Below.refl _ _⟩;obtain ⟨p,ps,e⟩:=RdS.CQ sep l;simp [e,RdS.glue]
 case round=>
  obtain ⟨k,f,ys,hk,rfl,rfl,A,y,b,J,m,hb⟩:=hrel;by_cases F:k<l.length
  · have B:=hZ9 (av F);generalize u:l[k]=c at*;have I:∀h,(⟨l.toArray⟩:ByteArray)[k]'h=c:=fun _=>u;have N:=hZ9 hk;have g:=hZ9 m;have t:=hZ9 (fun j=>Td l f k j A (by omega));clear u m hk;by_cases h92:c=92
    · have q:=hZ9 h92;have E:((c.toNat:Int)==92)=true:=by rw [h92];rfl
      clear h92;go_wp2_with fail;go_roundw
      case rel=>
       refine ⟨k+2,f,ys,by omega,by go_num,rfl,by omega,y,b,by omega,?_,hb⟩;rw [g.out,t.out 2,B.out,q.out];by_cases C:k+1<l.length
       · rw [av C,RdS.IB v.out,RdS.Jz];rfl
       · have x:l.drop (k+1)=[]:=bM (by omega);have s:l.drop (k+2)=[]:=bM (by omega);rw [x,s,RdS.Ku v.out];simp [RdS.Ak,RdS.glue]
      case measure=>simp [intOf];omega
    · have q:=hZ9 h92;have E:((c.toNat:Int)==92)=false:=aV.2 (fun h=>h92 (Di (n:=92) rfl h));clear h92;cases d:(c==sep) with
      | true=>
       have z:=hZ9 (af.1 d);have K:((c.toNat:Int)==(sep.toNat:Int))=true:=by rw [af.1 d];exact eP _
       clear d;go_wp2_with (at_builtin;refine Hr (by rfl) _ _ (by rfl) w.heap.size _ ys (by rfl) (b.alloc _) wr.heap.size (by rfl) ((l.take k).drop f) ?c1 ?c2 ?c3 ?_)
       case c1=>simp [go_sem,Ac,GV]
       case c2=>omega
       case c3=>have:=hb.size;simp;omega
       intro H w2 a r;go_wp2_with fail;go_roundw
       case rel=>refine ⟨k+1,k+1,ys++[(l.take k).drop f],by omega,by go_num,by go_num,aA _,by omega,a,by simp;omega,?_,(hb.alloc hb.size _).trans r⟩;have L:(l.take (k+1)).drop (k+1)=[]:=bM (by rw [au];omega);obtain ⟨p,ps,e⟩:=RdS.CQ sep (l.drop (k+1));rw [g.out,B.out,z.out,RdS.KW,RdS.Ir,bJ,bK,L,e];rfl
       case measure=>simp [intOf];omega
      | false=>
       have z:Hid (c≠sep):=hZ9 (by simpa using d);have K:((c.toNat:Int)==(sep.toNat:Int))=false:=aV.2 (fun h=>z.out (cY.1 (by omega)));clear d;go_wp2_with fail;go_roundw
       case rel=>refine ⟨k+1,f,ys,by omega,by go_num,rfl,by omega,y,b,by omega,?_,hb⟩;rw [g.out,t.out 1,B.out,RdS.Jf z.out q.out,RdS.Jz];rfl
       case measure=>simp [intOf];omega
  · have hd:l.drop k=[]:=bM (by omega);have G:l.take k=l:=ag (by omega);have o:RdS.Ak sep l=ys++[l.drop f]:=by rw [m,hd,G];simp [RdS.Ak,RdS.glue]
    have g:=hZ9 o;clear m o hd G;go_wp2_with (at_builtin;refine Hr (by rfl) _ _ (by rfl) w.heap.size _ ys (by rfl) (b.alloc _) wr.heap.size (by rfl) (l.drop f) ?d1 ?d2 ?d3 ?_)
    case d1=>simp [go_sem,Ac,GV]
    case d2=>omega
    case d3=>have:=hb.size;simp;omega
    intro H w2 a r;go_wp2_with fail;go_ret;exact ⟨_,rfl,by rw [g.out];exact a.strs,(hb.alloc hb.size _).trans r⟩
end
section
open Go.RowKit
def Bld (B b:Nat) (l:List UInt8) (w:World):Prop:=Lib.IsBuilder 159 5 B b (l.map Ai) w
def Gf (B b:Nat) (l:List UInt8) (w:World):Prop:=Lib.BuilderAt 159 5 B b (.pointer (some ⟨b,0,none⟩)) (l.map Ai) w
theorem Gf.bld {B b:Nat} {l:List UInt8} {w:World} (h:Gf B b l w):Bld B b l w:=.inr h
theorem Bld.fresh (w:World):Bld w.heap.size w.heap.size [] (w.alloc (.cells #[.pointer none,.slice none 0 0] 159)):=Lib.fresh_isBuilder _ _ w
theorem Bld.lt {B b:Nat} {l:List UInt8} {w:World} (h:Bld B b l w):b<w.heap.size/\B<=b:=by
 rcases h with h | h
 · exact ⟨h.lt,h.1⟩
 · exact ⟨h.lt,h.1⟩
theorem Ph {B b:Nat} {p:Value} {f:List Value} {w w':World} (h:Lib.BuilderAt 159 5 B b p f w) (hb:Below w.heap.size w w'):Lib.BuilderAt 159 5 B b p f w':=by have e:=h.lt;obtain ⟨hB,v,d,a,c⟩:=h;exact ⟨hB,v,by rw [hb.block b e];exact d,World.ownsRow.kept a (Ba hb) (by cases v.ownBlock <;> simp),c⟩
theorem Bld.call {B b:Nat} {l:List UInt8} {w w':World} (h:Bld B b l w) (hb:Below w.heap.size w w'):Bld B b l w':=by
 rcases h with h | h
 · exact .inl (Ph h hb)
 · exact .inr (Ph h hb)
theorem Bld.alloc {B b:Nat} {l:List UInt8} {w:World} (h:Bld B b l w) (o:Obj):Bld B b l (w.alloc o):=h.call (Af w o)
theorem Bld.drew {B b:Nat} {l:List UInt8} {w:World} (h:Bld B b l w):Bld B b l w.drew:=h.call ((Below.refl _ _).drew)
theorem Af0:(159:Nat)≠5:=by decide
theorem XH:(prog.info? 159).map (·.size)=some 2:=by kernel_rfl
theorem Ae1:liesAt prog prog.depth 159 (2 / prog.cellsOf 159) 0 159 1=true:=by kernel_rfl
def Others (b:Nat) (w w':World):Prop:=∀k,k<w.heap.size->k≠b->(∀cs fz,w.heap[k]?≠some (.cells cs 5 fz))->w'.heap[k]?=w.heap[k]?
theorem Others.refl (b:Nat) (w:World):Others b w w:=fun _ _ _ _=>rfl
theorem Others.trans {b:Nat} {u v w:World} (h:Others b u v) (h2:Others b v w) (c:u.heap.size<=v.heap.size):Others b u w:=fun k hk hb a=>by have e:=h k hk hb a;rw [h2 k (by omega) hb (by rw [e];exact a),e]
theorem Others.alloc {b:Nat} {w w':World} (h:Others b w w') (c:w.heap.size<=w'.heap.size) (o:Obj):Others b w (w'.alloc o):=fun k hk hb a=>by rw [Below.heap_alloc _ _ _ (by omega)];exact h k hk hb a
theorem Others.drew {b:Nat} {w w':World} (h:Others b w w'):Others b w w'.drew:=h
theorem Others.of_ne {b:Nat} {w w':World} (h:∀k,k≠b->w'.heap[k]?=w.heap[k]?):Others b w w':=fun k _ hb _=>h k hb
theorem Others.grown {b:Nat} {w w2:World} {B:Nat} {v:Value} {n:Nat} {xs:List Value} (f:w.grownBy w2 v.ownBlock) (a:w.ownsRow B 5 1 v n xs):Others b w w2:=fun k hk _ d=>by
 refine f.block k hk (fun e=>?_);rcases a.2 with ⟨rfl,_⟩ | ⟨g,cap,cur,rfl,_,c,_⟩
 · cases e
 · cases e;exact d _ _ c
theorem Others.setCell {b:Nat} {w w':World} (h:Others b w w') (i:Nat) (u:Value):Others b w (w'.setCell ⟨b,i,none⟩ u):=fun k hk hb a=>by rw [Below.heap_setCell _ _ _ _ hb];exact h k hk hb a
theorem Others.cell {b:Nat} {w w':World} (h:Others b w w') {g:Nat} {T:TypeId} {cs:Array Value} (d:T≠5) (hb:g≠b) (a:Whole w g T cs):Whole w' g T cs:=by unfold Whole at a⊢;rw [h g (ah.1 a).1 hb (fun c fz e=>by rw [a] at e;cases e;exact d rfl)];exact a
theorem QB (b:Nat) (w:World) (h0:w.cell? ⟨b,0,none⟩=some (.pointer (some ⟨b,0,none⟩))):
  Calls prog 145 #[.pointer (some ⟨b,0,none⟩)] w fun e w'=>e=.returned (.tuple #[])/\w=w':=by
 obtain ⟨j,c,_⟩:=bH.1 XH;have a:=fun w=>Lib.run_neq_ptr_same (P:=prog) w ⟨b,0,none⟩ underlying156 c;clear c;go_enter func145,ntmps145;go_wp2_with fail
 go_end0
 exact ⟨rfl,rfl⟩
theorem Pi (b:Nat) (w:World) (h0:w.cell? ⟨b,0,none⟩=some (.pointer none)) (c:w.shape? b=some (159,2)) (g:w.frozen? ⟨b,0,none⟩=false):
  Calls prog 145 #[.pointer (some ⟨b,0,none⟩)] w fun e w'=>e=.returned (.tuple #[])/\(w.setCell ⟨b,0,none⟩ (.pointer (some ⟨b,0,none⟩)))=w':=by
 obtain ⟨j,d,a⟩:=bH.1 XH;have c1:=Lib.run_to_unsafe (P:=prog) w ⟨b,0,none⟩ underlying156 underlying218 d (by rw [a];decide) c (dS 1);have c2:=Lib.run_from_unsafe (P:=prog) w ⟨b,0,none⟩ underlying218 underlying156 d c Ae1;have f:(callFunc 175 #[.pointer (some ⟨b,0,none⟩)]).run prog w=.ok (.value (.pointer (some ⟨b,0,none⟩))) w:=by rw [run_callFunc_extern func175 (by kernel_rfl) (by kernel_rfl) (by kernel_rfl) (e:=Extern.AbiNoEscape.same) (by kernel_rfl),Lib.run_noEscape];rfl
 clear d a;go_enter func145,ntmps145;go_wp2_with fail
 go_end0
 exact ⟨rfl,rfl⟩
theorem JM (B b:Nat) (l:List UInt8) (w:World) (h:Bld B b l w):
  Calls prog 145 #[.pointer (some ⟨b,0,none⟩)] w fun e w'=>e=.returned (.tuple #[])/\Gf B b l w'/\Below B w w'/\(∀k,k≠b->w'.heap[k]?=w.heap[k]?)/\w.heap.size<=w'.heap.size:=by
 rcases h with h | h
 · refine (Pi b w h.cell0 h.shape h.frozen0).mono ?_;rintro e w' ⟨rfl,rfl⟩;exact ⟨rfl,h.used _,(Below.refl B w).setCell (p:=⟨b,0,none⟩) h.1 _,fun k hk=>Below.heap_setCell _ _ _ _ hk,by simp [World.setCell]⟩
 · refine (QB b w h.cell0).mono ?_;rintro e w' ⟨rfl,rfl⟩;exact ⟨rfl,h,Below.refl B _,fun _ _=>rfl,aA _⟩
theorem Gf.open_ {B b:Nat} {l:List UInt8} {w:World} (h:Gf B b l w):∃v,w.heap[b]?=some (.cells #[.pointer (some ⟨b,0,none⟩),v] 159 (0,0))/\OwnB w B v l/\v.ownBlock≠some b/\b<w.heap.size/\B<=b/\
  w.cell? ⟨b,0,none⟩=some (.pointer (some ⟨b,0,none⟩))/\w.cell? ⟨b,1,none⟩=some v:=by
 have e:=h.lt;obtain ⟨hB,v,c,a,d⟩:=h;refine ⟨v,c,?_,d,e,hB,?_,?_⟩
 · unfold OwnB;rw [b7] at a;exact a
 · rw [Lib.cell_of_heap c];rfl
 · rw [Lib.cell_of_heap c];rfl
theorem Gf.stored {B b:Nat} {l:List UInt8} {w w2:World} {v h:Value} {row:Option Nat} (f:w.heap[b]?=some (.cells #[.pointer (some ⟨b,0,none⟩),v] 159 (0,0))) (g:b<w.heap.size) (hB:B<=b)
  (i:w.grownBy w2 row) (d:row≠some b) (c:OwnB w2 B h l):w2.cell? ⟨b,0,none⟩=some (.pointer (some ⟨b,0,none⟩))/\w2.cell? ⟨b,1,none⟩=some v/\w2.frozen? ⟨b,1,none⟩=false/\Gf B b l (w2.setCell ⟨b,1,none⟩ h):=by
 have a:w2.heap[b]?=some (.cells #[.pointer (some ⟨b,0,none⟩),v] 159 (0,0)):=by rw [i.block b g (fun e=>d e.symm)];exact f
 refine ⟨by rw [Lib.cell_of_heap a];rfl,by rw [Lib.cell_of_heap a];rfl,Lib.frozen_of_heap a 1,?_⟩;exact Lib.BuilderAt.put hB a (by unfold OwnB at c;rw [b7];exact c) Af0
theorem Ds (B b:Nat) (l:List UInt8) (c:UInt8) (w:World) (h:Bld B b l w) (H:l.length<=900000000) (E:B<=w.heap.size):
  Calls prog 143 #[.pointer (some ⟨b,0,none⟩),.int .u8 (c.toNat:Int)] w fun e w'=>e=.returned .nilIface/\Gf B b (l++[c]) w'/\Below B w w'/\Others b w w':=by
 have o:=JM B b l w h;clear h;go_enter func143,ntmps143;go_wp2_with fail;refine o.mono ?_;rintro e w1 ⟨rfl,hu,k,s,r⟩;obtain ⟨v,q,g,j,C,hB,c0,c1⟩:=hu.open_;obtain ⟨a,F,rfl⟩:=g.form;have hsz:=k.size;have t:=hZ9 g;have u:=hZ9 j;have x:=hZ9 q;have A:=hZ9 (Others.of_ne s);clear o j q hu s;go_wp2_with (at_builtin;refine IZ (by rfl) _ _ (by rfl) B _ l (by rfl) (g.alloc _) w1.heap.size 1 1 (by rfl) [c] (by rfl) ?c1 ?c2 ?c3 ?_)
 case c1=>first | exact one_cell (by simp [go_sem,Ai]) | exact Fh _
 case c2=>simp;omega
 case c3=>simp;omega
 intro I w2 f y n;have z:Hid (Others b w w2):=hZ9 ((A.out.alloc r _).trans (Others.grown n (OwnB.alloc t.out _)) (by simp;omega));obtain ⟨a2,G,rfl⟩:=f.form;have i:(w1.alloc (.cells #[.int .u8 (c.toNat:Int)] 5)).heap[b]?=some (.cells #[.pointer (some ⟨b,0,none⟩),.slice a l.length F] 159 (0,0)):=by rw [Below.heap_alloc _ _ _ C];exact x.out
 obtain ⟨J,d1,f1,d⟩:=Gf.stored i (by simp;omega) hB n u.out f;rw [show (l++[c]).length=l.length+1 from by simp] at d;have m:=hZ9 d;clear i d;go_wp2_with fail;go_ret;exact ⟨rfl,m.out,((k.alloc (by omega) _).trans y).setCell (p:=⟨b,1,none⟩) hB _,z.out.setCell 1 _⟩
theorem Ic (B b:Nat) (l:List UInt8) (c:UInt8) (w:World) (h:Bld B b l w) (d:l.length<=900000000) (a:B<=w.heap.size):
  Calls prog 143 #[.pointer (some ⟨b,0,none⟩),.int .u8 (c.toNat:Int)] w fun e w'=>e=.returned .nilIface/\Gf B b (l++[c]) w'/\Below B w w':=
 (Ds B b l c w h d a).mono fun _ _ h=>⟨h.1,h.2.1,h.2.2.1⟩
theorem BX (B b:Nat) (l:List UInt8) (g m K:Nat) (ys:List UInt8) (w:World) (h:Bld B b l w) (Q:l.length+m<=900000000) (M:B<=w.heap.size) (L:ys.length=m) (C:g≠b)
  (J:∀(j:Nat) (y:UInt8),ys[j]?=some y->w.cell? ⟨g,j,none⟩=some (Ai y)):
  Calls prog 174 #[.pointer (some ⟨b,0,none⟩),.slice (some ⟨g,0,none⟩) m K] w fun e w'=>e=.returned (.tuple #[.int .i64 m,.nilIface])/\Gf B b (l++ys) w'/\Below B w w'/\Others b w w':=by
 have r:=JM B b l w h;clear h;go_enter func174,ntmps174;go_wp2_with fail;refine r.mono ?_;rintro e w1 ⟨rfl,hu,n,i,t⟩;have u:∀(j:Nat) (y:UInt8),ys[j]?=some y->w1.cell? ⟨g,j,none⟩=some (Ai y):=fun j y O=>
  (World.cell?_of_block (a:=⟨g,j,none⟩) (i g C)).trans (J j y O)
 have I:=hZ9 u;clear J u;obtain ⟨v,s,f,k,H,hB,c0,c1⟩:=hu.open_;obtain ⟨a,S,rfl⟩:=f.form;have hsz:=n.size;have x:=hZ9 f;have z:=hZ9 k;have A:=hZ9 s;have P:=hZ9 L;have G:=hZ9 (Others.of_ne i);clear r k s hu L i;go_wp2_with (at_builtin;refine IZ (by rfl) _ _ (by rfl) B _ l (by rfl) f g m K (by rfl) ys P.out I.out ?c2 ?c3 ?_)
 case c2=>omega
 case c3=>omega
 intro R w2 d E q;have F:Hid (Others b w w2):=hZ9 (G.out.trans (Others.grown q x.out) t);obtain ⟨a2,N,rfl⟩:=d.form;obtain ⟨T,d1,f1,c⟩:=Gf.stored A.out H hB q z.out d;rw [show (l++ys).length=l.length+ys.length from aT] at c;have o:=hZ9 c;clear c;go_wp2_with fail;go_ret2;exact ⟨rfl,o.out,(n.trans E).setCell (p:=⟨b,1,none⟩) hB _,F.out.setCell 1 _⟩
theorem LG (B b:Nat) (l:List UInt8) (s:ByteArray) (w:World) (h:Bld B b l w) (Q:l.length+s.size<=900000000) (L:B<=w.heap.size):
  Calls prog 111 #[.pointer (some ⟨b,0,none⟩),.string s] w fun e w'=>e=.returned (.tuple #[.int .i64 s.size,.nilIface])/\Gf B b (l++s.data.toList) w'/\Below B w w'/\Others b w w':=by
 obtain ⟨i0,K,G,J,z⟩:=info_parts PT;have P:=hZ9 K;have r:=JM B b l w h;clear h K;go_enter func111,ntmps111;go_wp2_with fail;refine r.mono ?_;rintro e w1 ⟨rfl,hu,q,x,u⟩;obtain ⟨v,t,c,o,I,hB,c0,c1⟩:=hu.open_;obtain ⟨a,N,rfl⟩:=c.form;have hsz:=q.size;have y:=hZ9 c;have A:=hZ9 o;have C:=hZ9 t;have f:w1.ownsRow B 5 1 (.slice a l.length N) l.length (l.map Ai):=c;have H:=hZ9 (Others.of_ne x);clear r o t hu c x;go_wp2_with (at_builtin;refine Lib.wpList_append_own_string _ (by rfl) _ _ 157 9 (by rfl) B 5 i0 underlying157 underlying9 P.out G J z _ _ _ (by rfl) f s (by rfl) ?c3 ?c4 ?c5 ?_)
 case c3=>unfold maxLen;omega
 case c4=>omega
 case c5=>omega
 intro M w2 i n _;have F:Hid (Others b w w2):=hZ9 (H.out.trans (Others.grown n y.out) u);have j:Lib.strCells s=s.data.toList.map Ai:=by unfold Lib.strCells Ai;first | rfl | simp
 have g:OwnB w2 B M (l++s.data.toList):=by unfold OwnB;rw [bP,aT,<-Lib.size_eq,<-j];exact i
 clear i;obtain ⟨a2,O,rfl⟩:=g.form;obtain ⟨R,d1,f1,d⟩:=Gf.stored C.out I hB n A.out g;rw [show (l++s.data.toList).length=l.length+s.data.toList.length from aT] at d;have m:=hZ9 d;have E:Below B w1 w2:=(Below.refl B w1).grown n (by omega) (fun k hk=>(World.ownsRow.lt f k hk).1);clear d;go_wp2_with fail;go_ret2;exact ⟨rfl,by first | exact m.out | simpa using m.out,(q.trans E).setCell (p:=⟨b,1,none⟩) hB _,F.out.setCell 1 _⟩
end
section
open Go.RowKit
def AX (w:World) (v:Value) (xs:List RdS.Pr):Prop:=
 ∃a c,v=.slice a xs.length c/\xs.length<=c/\(xs=[]\/∃g o,a=some ⟨g,o,none⟩/\g<w.heap.size/\
  ∀(j:Nat) (p:RdS.Pr),xs[j]?=some p->w.cell? ⟨g,o+j*2,none⟩=some (Ac p.1)/\w.cell? ⟨g,o+j*2+1,none⟩=some (Ac p.2))
theorem AX.call {w w':World} {v:Value} {xs:List RdS.Pr} (h:AX w v xs) {B:Nat} (hb:Below B w w') (hB:w.heap.size<=B):AX w' v xs:=by
 obtain ⟨a,c,rfl,hc,h⟩:=h;refine ⟨a,c,rfl,hc,?_⟩;rcases h with h | ⟨g,o,rfl,b,h⟩
 · exact .inl h
 · refine .inr ⟨g,o,rfl,ae b hb.size,fun j p d=>⟨?_,?_⟩⟩
   · exact (hb.cell (p:=⟨g,o+j*2,none⟩) (ae b hB)).trans (h j p d).1
   · exact (hb.cell (p:=⟨g,o+j*2+1,none⟩) (ae b hB)).trans (h j p d).2
theorem AX.empty (w:World):AX w (.slice none 0 0) []:=⟨Option.none,0,rfl,aA _,.inl rfl⟩
def CM (xs:List RdS.Pr):List Value:=xs.flatMap fun p=>[Ac p.1,Ac p.2]
theorem KD (xs:List RdS.Pr):(CM xs).length=xs.length*2:=by
 induction xs with
 | nil=>rfl
 | cons p xs a=>show ([Ac p.1,Ac p.2]++CM xs).length=_;rw [aT,a];simp;omega
theorem JO (xs ys:List RdS.Pr):CM (xs++ys)=CM xs++CM ys:=by unfold CM;rw [gU]
theorem IR:∀(xs:List RdS.Pr) (j:Nat) (p:RdS.Pr),xs[j]?=some p->(CM xs)[j*2]?=some (Ac p.1)/\(CM xs)[j*2+1]?=some (Ac p.2)
 | [],j,p,h=>by simp at h
 | q :: xs,0,p,h=>by have:=aU h;subst this;exact ⟨rfl,rfl⟩
 | q :: xs,j+1,p,h=>by have:=IR xs j p (by simpa using h);have e:CM (q :: xs)=Ac q.1 :: Ac q.2 :: CM xs:=rfl;rw [e,show (j+1)*2=j*2+1+1 from by omega];exact this
def Bg (T:TypeId) (w:World) (B:Nat) (v:Value) (xs:List RdS.Pr):Prop:=w.ownsRow B T 2 v xs.length (CM xs)
theorem Bg.empty (T:TypeId) (w:World) (B:Nat):Bg T w B (.slice none 0 0) []:=World.ownsRow_nil w B _ 2
theorem Bg.form {T:TypeId} {w:World} {B:Nat} {v:Value} {xs:List RdS.Pr} (h:Bg T w B v xs):∃a c,v=.slice a xs.length c:=by
 rcases h.2 with ⟨rfl,b⟩ | ⟨g,cap,cur,rfl,_⟩
 · exact ⟨_,_,by rw [b]⟩
 · exact ⟨_,_,rfl⟩
theorem Bg.call {T:TypeId} {w w':World} {B:Nat} {v:Value} {xs:List RdS.Pr} (h:Bg T w B v xs) (hb:Below w.heap.size w w'):Bg T w' B v xs:=
 World.ownsRow.kept h (Ba hb) (by cases v.ownBlock <;> simp)
theorem Bg.alloc {T:TypeId} {w:World} {B:Nat} {v:Value} {xs:List RdS.Pr} (h:Bg T w B v xs) (o:Obj):Bg T (w.alloc o) B v xs:=World.ownsRow.alloc h o
theorem Bg.avas {T:TypeId} {w:World} {B:Nat} {v:Value} {xs:List RdS.Pr} (h:Bg T w B v xs):AX w v xs:=by
 rcases h.2 with ⟨rfl,b⟩ | ⟨g,cap,cur,rfl,i,d,b,f,hsz,c⟩
 · exact ⟨Option.none,0,by rw [b],by omega,.inl (aW b)⟩
 · refine ⟨some ⟨g,0,Option.none⟩,cap,rfl,b,.inr ⟨g,0,rfl,(ah.1 d).1,fun j p e=>?_⟩⟩;have h2:=IR xs j p e;have a:∀k,(⟨g,0,Option.none⟩:Addr).add k=⟨g,0+k,Option.none⟩:=fun k=>by unfold Addr.add;split <;> simp_all
   have c1:=World.ownsRow.cells h (g:=g) rfl _ _ h2.1;have c2:=World.ownsRow.cells h (g:=g) rfl _ _ h2.2;rw [a] at c1 c2;exact ⟨c1,by rw [cN];exact c2⟩
theorem IW {w:World} {ops:Array Oper} {rest:List Oper} {o:Oper} {a:Act} {Q:Exit->Act->World->Prop} (T i:TypeId) (r:prog.underlying i=some (.slice T)) {i0:TypeInfo} {z:Value}
  (C:prog.info? T=some i0) (y:i0.zero=some z) (e:i0.size=2) (q:i0.bytes=32) (m:z.cells.size=2) (n:o.guard=none) (s x:Operand)
  (A:o.op=.call { callee:=.builtin .append,args:=#[s,x],argTypes:=#[i,i] })
  (B:Nat) (v:Value) (xs:List RdS.Pr) (E:a.eval s=v) (b:Bg T w B v xs) (g:Nat) (hx:a.eval x=.slice (some ⟨g,0,Option.none⟩) 1 1)
  (p:RdS.Pr) (t:w.cell? ⟨g,0,Option.none⟩=some (Ac p.1)) (l:w.cell? ⟨g,1,Option.none⟩=some (Ac p.2)) (F:xs.length<=1000000000) (hB:B<=w.heap.size)
  (h:∀f w',Bg T w' B f (xs++[p])->Below B w w'->wpList prog ops Q rest (a.put o.dst f) w'):wpList prog ops Q (o :: rest) a w:=by
 refine wpList_append_own w n s x _ A B T i0 z 2 32 r C y e q m (by decide) v xs.length (CM xs) E b ⟨g,0,Option.none⟩ 1 1 [Ac p.1,Ac p.2] hx rfl
  (fun j u d=>?_) (fun u hu=>?_) (by unfold maxLen;omega) (by omega) hB (fun f w' h1 h2 _=>h f w' ?_ ?_)
 · have c:∀k,(⟨g,0,Option.none⟩:Addr).add k=⟨g,k,Option.none⟩:=fun k=>by unfold Addr.add;split <;> simp_all
   rw [c]
   match j,d with
   | 0,d=>rw [t];simpa using d
   | 1,d=>rw [l];simpa using d
 · simp only [ay,dU,fQ] at hu;rcases hu with rfl | rfl <;> rfl
 · unfold Bg;rw [JO,aT];exact h1
 · exact (Below.refl B w).grown h2 hB (fun k hk=>(World.ownsRow.lt b k hk).1)
end
end Go.Proofs.YtgngjfjaelgaeaaGreatDoor
