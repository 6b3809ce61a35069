/- The walk of the document's 'Parse' of a name. Conditions: as stated. -/
import Derived.Lib.LazyBuf
import Derived.Test.YtgngjfjaelgaeaaGreatDoorJAvs
import Derived.Test.YtgngjfjaelgaeaaGreatDoorJFip
set_option maxRecDepth 100000
set_option maxHeartbeats 4000000
namespace Go.Proofs.YtgngjfjaelgaeaaGreatDoor
open Go.Proofs.Tryz
section
open Go.RowKit
namespace DnS
open RdS
theorem Oh:∀(ps:List (List UInt8)) (p:List UInt8),partsS (ps++[p])=(partsS ps).bind fun l=>if (Bh p).2=0 then some (l++[(Bh p).1]) else none
 | [],p=>by
  show partsS [p]=_
  unfold partsS;split <;> simp [partsS, *]
 | q :: ps,p=>by
  rw [List.cons_append];unfold partsS;rw [Oh ps p];by_cases a:(Bh q).2=0
  · rw [aP a,aP a];cases partsS ps with
    | none=>rfl
    | some l=>by_cases hp:(Bh p).2=0 <;> simp [hp]
  · rw [aG a,aG a];rfl
theorem MU:∀{ps:List (List UInt8)} {p:List UInt8},p ∈ ps->(Bh p).2≠0->partsS ps=none
 | q :: ps,p,h,hp=>by
  unfold partsS;rcases ay.1 h with rfl | h
  · rw [aG hp]
  · split
    · rw [MU h hp];rfl
    · rfl
theorem partsS_step {ps:List (List UInt8)} {k:Nat} (h:k<ps.length) {ls:List (List Pr)} (a:partsS (ps.take k)=some ls) (h0:(Bh ps[k]).2=0):partsS (ps.take (k+1))=some (ls++[(Bh ps[k]).1]):=by rw [aX h,Oh,a];simp [h0]
end DnS
def GR (l:List UInt8) (w:World) (e:Ending) (w':World):Prop:=∃v,e=.returned (.tuple #[v,.int .i64 (DnS.BA l).2])/\EU w' v (DnS.BA l).1/\Below w.heap.size w w'
theorem GR.none {l:List UInt8} {w w':World} {e:Int} (h:DnS.BA l=([],e)) (hb:Below w.heap.size w w'):GR l w (.returned (.tuple #[.slice none 0 0,.int .i64 e])) w':=by
 refine ⟨.slice Option.none 0 0,?_,?_,hb⟩
 · rw [h]
 · rw [h];exact EU.empty w'
def AbB (ps:List (List UInt8)) (w0:World) (out i:Value) (wr:World):Prop:=
 ∃(k:Nat) (ls:List (List RdS.Pr)),k<=ps.length/\i=.int .i64 k/\DY 124 173 wr w0.heap.size out ls/\ls.length=k/\DnS.partsS (ps.take k)=some ls/\Below w0.heap.size w0 wr
theorem AbC:(prog.info? 124).map (fun i=>(i.zero,i.size,i.bytes))=some (some (.slice none 0 0),1,24):=by kernel_rfl
theorem Sm {l:List UInt8} {ps:List (List UInt8)} (h1:¬1000<l.length) (h0:l≠[]) (a:RdS.Ak 44 l=ps) (b:12<ps.length):DnS.BA l=([],4):=by unfold DnS.BA;rw [aG h1,aG h0,a,aP b]
theorem Yi {l:List UInt8} {ps:List (List UInt8)} (h1:¬1000<l.length) (h0:l≠[]) (a:RdS.Ak 44 l=ps) (b:¬12<ps.length) (h:DnS.partsS ps=none):DnS.BA l=([],2):=by unfold DnS.BA;rw [aG h1,aG h0,a,aG b,h]
theorem VF {l:List UInt8} {ps:List (List UInt8)} (h1:¬1000<l.length) (h0:l≠[]) (a:RdS.Ak 44 l=ps) (b:¬12<ps.length) {ls:List (List RdS.Pr)} (h:DnS.partsS ps=some ls):DnS.BA l=(ls,0):=by unfold DnS.BA;rw [aG h1,aG h0,a,aG b,h]
theorem AbD (l:List UInt8) (hl:l.length<=1000000) (w:World) (hE:Env w):Calls prog 76 #[.string ⟨l.toArray⟩] w (GR l w):=by
 by_cases h1:1000<l.length
 · have hz:(1000:Int)<(l.length:Int):=by omega
   have F:Hid (DnS.BA l=([],4)):=hZ9 (by unfold DnS.BA;rw [aP h1]);clear h1;go_enter func76,ntmps76;go_wp2_with fail;go_ret2;exact GR.none F.out (Below.refl _ _)
 have hz:decide ((1000:Int)<(l.length:Int))=false:=aC (by omega);by_cases h0:l=[]
 · subst h0;have F:Hid (DnS.BA []=([],0)):=hZ9 rfl;go_enter func76,ntmps76;go_wp2_with fail;go_ret2;exact GR.none F.out (Below.refl _ _)
 have B2:l.isEmpty=false:=by simpa using h0
 have B:=Pg l 44 (by omega) (by decide) w;unfold Hn at B;have L:=RdS.EF (sep:=44) l;obtain ⟨ps,t⟩:∃ps,RdS.Ak 44 l=ps:=⟨_,rfl⟩
 rw [t] at B L;have A9:l.length<=1000:=by omega
 have f:=hZ9 (Sm h1 h0 t);have j:=hZ9 (Yi h1 h0 t);have d:=hZ9 (fun R ls h=>VF h1 h0 t R (ls:=ls) h);have W:=hZ9 L;have Y:Hid (ps≠[]):=hZ9 (by
  obtain ⟨p0,B1,T⟩:=RdS.CQ 44 l;rw [<-t,T];simp)
 clear t L h0 h1;go_enter func76,ntmps76;go_wp2_with fail;refine B.mono ?_;rintro e w0 ⟨v,rfl,hv,hb0⟩;obtain ⟨a,c,rfl,hc,H⟩:=hv;generalize R:ps.length=n at*;have F:=hZ9 R;have B4:=hE.below hb0;by_cases y:12<n
 · have h3:(12:Int)<(n:Int):=by omega
   have u:=hZ9 (f.out y);clear R f j d;go_wp2_with fail;go_ret2;exact GR.none u.out hb0
 have h3:decide ((12:Int)<(n:Int))=false:=aC (by omega);have z:=hZ9 (j.out y);have A:=hZ9 (d.out y);rcases H with rfl | ⟨g,o,rfl,hg,hcell⟩
 · exact absurd rfl Y.out
 have I:=hZ9 hcell;clear R hcell B f j d;go_wp2_with fail;go_loopw [5,21] (fun out i wr=>AbB ps w0 out i wr) (fun _ i _=>n - (intOf i).toNat)
 case atStart=>exact ⟨0,[],aR _,rfl,DY.empty _ _ _ _,rfl,rfl,Below.refl _ _⟩
 case round=>
  obtain ⟨k,ls,hk,rfl,r,Z,N,hb⟩:=hrel;rw [F.out] at hk;have hsz:=hb.size;have m:Below w.heap.size w wr:=hb0.trans (hb.mono hb0.size);have V:=hE.below m;by_cases A5:k<n
  · have b:k<ps.length:=by rw [F.out];exact A5
    have A0:wr.cell? ⟨g,o+k,none⟩=some (Ac ps[k]):=(hb.cell (p:=⟨g,o+k,none⟩) hg).trans (I.out k _ (aJ b));have B0:=W.out ps[k] (aZ b);have u:=hZ9 (fun h=>z.out (DnS.MU (aZ b) h));have q:=hZ9 (DnS.partsS_step b N);generalize ps[k]=p at*;unfold Ac at A0;clear N b;have E:=Aav p (by omega) wr V;unfold CP at E;have C:=RdS.RY (s:=p);generalize RdS.Bh p=P at*;obtain ⟨xs,e0⟩:=P;simp only at E C u q;have O:=hZ9 r;clear r;by_cases S:e0=0
    · subst S;have A6:=hZ9 (q.out rfl);clear q u C;obtain ⟨i0,hi,A3,A7,X⟩:=info_parts AbC;have HI:=hZ9 hi;clear hi;go_wp2_with fail;refine E.mono ?_;rintro e w1 ⟨v,rfl,K,x,Q⟩;obtain ⟨a1,c1,rfl,B3⟩:∃a1 c1,v=.slice a1 xs.length c1/\True:=by
       obtain ⟨a1,c1,e,_⟩:=K;exact ⟨a1,c1,e,trivial⟩
      have J:=O.out.call x;have A8:=x.size;go_wp2_with (at_builtin;refine Un 124 173 121 (by decide) underlying121 HI.out A3 A7 X (by rfl) _ _ (by rfl) w0.heap.size _ ls (by rfl) (J.call (Af w1 _)) w1.heap.size (by rfl) (.slice a1 xs.length c1) (by rfl) xs ?e1 (K.call (Af w1 _) (aA _)) (Q.call (Af w1 _)) ?e3 ?e4 ?_)
      case e1=>simp [go_sem]
      case e3=>omega
      case e4=>simp;omega
      intro v' w4 M U _;go_wp2_with fail;go_roundw
      case rel=>exact ⟨k+1,ls++[xs],by rw [F.out];omega,by go_num,M,by simp [Z],A6.out,((hb.trans (x.mono hsz)).alloc (by omega) _).trans U⟩
      case measure=>simp [intOf];omega
    · have h2:=C S;rw [bR] at h2;obtain ⟨rfl,rfl⟩:=h2;have A2:=hZ9 (u.out S);clear q u C S;go_wp2_with fail;refine E.mono ?_;rintro e w1 ⟨v,rfl,K,x,Q⟩;go_wp2_with fail;go_ret2;exact GR.none A2.out (m.trans (x.mono m.size))
  · have A4:k=n:=by omega
    subst A4;have G:ps.take k=ps:=ag (by rw [F.out];omega);rw [G] at N;have HS:=hZ9 (A.out ls N);have A1:=hZ9 r.avss;clear G N r;go_wp2_with fail;go_ret2;exact ⟨_,by rw [HS.out];rfl,by rw [HS.out];exact A1.out,m⟩
end
section
open Go.RowKit
def Fz (l:List UInt8) (w:World) (e:Ending) (w':World):Prop:=∃v,e=.returned (.tuple #[.agg #[v],.int .i64 (DnS.BA l).2])/\EU w' v (DnS.BA l).1/\Below w.heap.size w w'
theorem Fz.none {l:List UInt8} {w w':World} {e:Int} (h:DnS.BA l=([],e)) (hb:Below w.heap.size w w'):Fz l w (.returned (.tuple #[.agg #[.slice none 0 0],.int .i64 e])) w':=by
 refine ⟨.slice Option.none 0 0,?_,?_,hb⟩
 · rw [h]
 · rw [h];exact EU.empty w'
def AbE (ps:List (List UInt8)) (w w0:World) (b:Nat) (i:Value) (wr:World):Prop:=
 ∃(k:Nat) (ls:List (List RdS.Pr)) (a:Option Addr) (c:Nat),k<=ps.length/\i=.int .i64 k/\DY 151 190 wr (b+1) (.slice a k c) ls/\ls.length=k/\DnS.partsS (ps.take k)=some ls/\
  Whole wr b 148 #[.slice a k c]/\Whole wr w.heap.size 148 #[.slice none 0 0]/\Below w.heap.size w wr/\Below w0.heap.size w0 wr
theorem AbF:(prog.info? 151).map (fun i=>(i.zero,i.size,i.bytes))=some (some (.slice none 0 0),1,24):=by kernel_rfl
theorem AbG (l:List UInt8) (hl:l.length<=1000000) (w:World) (hE:Env w):Calls prog 106 #[.string ⟨l.toArray⟩] w (Fz l w):=by
 have C2:=Whole.made w 148 #[.slice none 0 0];have H:Below w.heap.size w (w.alloc (.cells #[.slice none 0 0] 148)):=Af w _;by_cases h1:1000<l.length
 · have hz:(1000:Int)<(l.length:Int):=by omega
   have Q:Hid (DnS.BA l=([],4)):=hZ9 (by unfold DnS.BA;rw [aP h1]);clear h1;go_enter func106,ntmps106;go_wp2_with fail
   (try simp only [Exit.inBlock,Exit.then])
   refine bodyPost_ret (v:=.tuple #[.agg #[.slice none 0 0],.int .i64 4]) ?_ rfl (Fz.none Q.out H);rw [results_cell_tmp rfl];go_simp
 have hz:decide ((1000:Int)<(l.length:Int))=false:=aC (by omega);by_cases h0:l=[]
 · subst h0;have Q:Hid (DnS.BA []=([],0)):=hZ9 rfl;go_enter func106,ntmps106;go_wp2_with fail
   (try simp only [Exit.inBlock,Exit.then])
   refine bodyPost_ret (v:=.tuple #[.agg #[.slice none 0 0],.int .i64 0]) ?_ rfl (Fz.none Q.out H);rw [results_cell_tmp rfl];go_simp
 have E0:l.isEmpty=false:=by simpa using h0
 have K:=fun w=>Rj l 44 (by omega) (by decide) w;unfold Hn at K;have T:=RdS.EF (sep:=44) l;obtain ⟨ps,A⟩:∃ps,RdS.Ak 44 l=ps:=⟨_,rfl⟩
 rw [A] at K T;have D2:l.length<=1000:=by omega
 have t:=hZ9 (Sm h1 h0 A);have u:=hZ9 (Yi h1 h0 A);have r:=hZ9 (fun hn ls h=>VF h1 h0 A hn (ls:=ls) h);have B0:=hZ9 T;have B1:Hid (ps≠[]):=hZ9 (by
  obtain ⟨p0,D8,B8⟩:=RdS.CQ 44 l;rw [<-A,B8];simp)
 clear A T h0 h1;generalize A6:w.alloc (.cells #[.slice none 0 0] 148)=ws at*;go_enter func106,ntmps106;go_wp2_with fail
 (try simp only [A6])
 refine (K ws).mono ?_;rintro e w0 ⟨v,rfl,hv,hb0⟩;clear A6;have F:Below w.heap.size w w0:=H.trans (hb0.mono H.size);have q:=C2.call hb0;obtain ⟨a,c,rfl,hc,V⟩:=hv;generalize hn:ps.length=n at*;have Q:=hZ9 hn;have D0:w0.cell? ⟨w.heap.size,0,none⟩=some (.slice none 0 0):=q.cell 0;have C6:w0.frozen? ⟨w.heap.size,0,none⟩=false:=q.thaw 0;by_cases C:12<n
 · have h3:(12:Int)<(n:Int):=by omega
   have z:=hZ9 (t.out C);clear hn t u r;go_wp2_with fail
   (try simp only [Exit.inBlock,Exit.then])
   refine bodyPost_ret (v:=.tuple #[.agg #[.slice none 0 0],.int .i64 4]) ?_ rfl (Fz.none z.out (F.setCell (aA _) _));rw [results_cell_tmp rfl];have A1:(w0.setCell ⟨w.heap.size,0,none⟩ (.slice none 0 0)).cell? ⟨w.heap.size,0,none⟩=some (.slice none 0 0):=(q.put 0 _).cell 0;go_simp
 have h3:decide ((12:Int)<(n:Int))=false:=aC (by omega);have L:=hZ9 (u.out C);have M:=hZ9 (r.out C);rcases V with rfl | ⟨g,o,rfl,hg,hcell⟩
 · exact absurd rfl B1.out
 have Z:=hZ9 hcell;have A5:=Whole.made w0 148 #[.slice none 0 0];have A8:Below w0.heap.size w0 (w0.alloc (.cells #[.slice none 0 0] 148)):=Af w0 _;have A3:=q.alloc (.cells #[.slice none 0 0] 148);have J:=q.lt;clear hn hcell K t u r D0 C6;go_wp2_with fail;go_loopw [25] (fun i wr=>AbE ps w w0 w0.heap.size i wr) (fun i _=>n - (intOf i).toNat)
 case atStart=>exact ⟨0,[],none,0,aR _,rfl,DY.empty _ _ _ _,rfl,rfl,A5,A3,F.trans (A8.mono F.size),A8⟩
 case round=>
  obtain ⟨k,ls,a2,c2,hk,rfl,S,C4,hq,W,B,j,hb⟩:=hrel;rw [Q.out] at hk;have B4:=hE.below j;have hsz:=j.size;have C8:=W.lt;have O:=hZ9 S;have D9:wr.cell? ⟨w0.heap.size,0,none⟩=some (.slice a2 k c2):=W.cell 0;have A9:wr.cell? ⟨w.heap.size,0,none⟩=some (.slice none 0 0):=B.cell 0;have C3:wr.frozen? ⟨w.heap.size,0,none⟩=false:=B.thaw 0;clear S;by_cases C1:k<n
  · have m:k<ps.length:=by rw [Q.out];exact C1
    have C5:wr.cell? ⟨g,o+k,none⟩=some (Ac ps[k]):=(hb.cell (p:=⟨g,o+k,none⟩) hg).trans (Z.out k _ (aJ m));have D7:=B0.out ps[k] (aZ m);have z:=hZ9 (fun h=>L.out (DnS.MU (aZ m) h));have y:=hZ9 (DnS.partsS_step m hq);generalize ps[k]=p at*;unfold Ac at C5;clear hq m;have N:=Ab5 p (by omega) wr B4;unfold CP at N;have I:=RdS.RY (s:=p);generalize RdS.Bh p=P at*;obtain ⟨xs,e0⟩:=P;simp only at N I z y;by_cases he:e0=0
    · subst he;have C9:=hZ9 (y.out rfl);clear y z I A9 C3;obtain ⟨i0,hi,B6,B7,B5⟩:=info_parts AbF;have HI:=hZ9 hi;clear hi;go_wp2_with fail;refine N.mono ?_;rintro e w1 ⟨v,rfl,Y,f,A7⟩;obtain ⟨a1,c1,rfl,A1⟩:∃a1 c1,v=.slice a1 xs.length c1/\True:=by
       obtain ⟨a1,c1,e,_⟩:=Y;exact ⟨a1,c1,e,trivial⟩
      have A0:=O.out.call f;have D5:=f.size;have G:=W.call f;have b:=B.call f;have A4:w1.cell? ⟨w0.heap.size,0,none⟩=some (.slice a2 k c2):=G.cell 0;go_wp2_with (at_builtin;refine Un 151 190 146 (by decide) underlying146 HI.out B6 B7 B5 (by rfl) _ _ (by rfl) (w0.heap.size+1) _ ls (by rfl) (A0.call (Af w1 _)) w1.heap.size (by rfl) (.slice a1 xs.length c1) (by rfl) xs ?e1 (Y.call (Af w1 _) (aA _)) (A7.call (Af w1 _)) ?e3 ?e4 ?_)
      case e1=>simp [go_sem]
      case e3=>omega
      case e4=>simp;omega
      intro v' w4 d E _;obtain ⟨a3,c3,rfl⟩:=d.form;have X:(ls++[xs]).length=k+1:=by simp [C4]
      rw [X] at d;simp only [X];have x:=(G.alloc (.cells #[.slice a1 xs.length c1] 151)).below E (fY _);have A2:=(b.alloc (.cells #[.slice a1 xs.length c1] 151)).below E (i6 J);have D3:w4.cell? ⟨w0.heap.size,0,none⟩=some (.slice a2 k c2):=x.cell 0;have D1:w4.frozen? ⟨w0.heap.size,0,none⟩=false:=x.thaw 0;have B9:Hid (Below w0.heap.size w0 w4):=hZ9 (((hb.trans (f.mono (dD C8))).alloc (by omega) _).trans (E.mono (fw _)));have C7:Hid (Below w.heap.size w w4):=hZ9 (((j.trans (f.mono hsz)).alloc (by omega) _).trans (E.mono (by omega)));have U:=hZ9 d;clear d E G b A4;go_wp2_with fail;go_roundw
      case rel=>exact ⟨k+1,ls++[xs],a3,c3,by rw [Q.out];omega,by go_num,U.out.setHdr x (fY _) _,X,C9.out,x.put 0 _,A2.other (Nat.ne_of_lt J) _,C7.out.setCell (dD J) _,B9.out.setCell (aA _) _⟩
      case measure=>simp [intOf];omega
    · have h2:=I he;rw [bR] at h2;obtain ⟨rfl,rfl⟩:=h2;have C0:=hZ9 (z.out he);clear y z I he;go_wp2_with fail;refine N.mono ?_;rintro e w1 ⟨v,rfl,Y,f,A7⟩;have b:=B.call f;have D4:w1.cell? ⟨w.heap.size,0,none⟩=some (.slice none 0 0):=b.cell 0;have D6:w1.frozen? ⟨w.heap.size,0,none⟩=false:=b.thaw 0;go_wp2_with fail
      (try simp only [Exit.inBlock,Exit.then])
      refine bodyPost_ret (v:=.tuple #[.agg #[.slice none 0 0],.int .i64 2]) ?_ rfl (Fz.none C0.out ((j.trans (f.mono hsz)).setCell (aA _) _));rw [results_cell_tmp rfl];have A1:(w1.setCell ⟨w.heap.size,0,none⟩ (.slice none 0 0)).cell? ⟨w.heap.size,0,none⟩=some (.slice none 0 0):=(b.put 0 _).cell 0;go_simp
  · have B3:k=n:=by omega
    subst B3;have R:ps.take k=ps:=ag (by rw [Q.out];omega);rw [R] at hq;have HS:=hZ9 (M.out ls hq);have B2:=hZ9 (O.out.setHdr B (i6 J) (.slice a2 k c2)).avss;clear R hq;go_wp2_with fail
    (try simp only [Exit.inBlock,Exit.then])
    refine bodyPost_ret (v:=.tuple #[.agg #[.slice a2 k c2],.int .i64 0]) ?_ rfl ⟨_,by rw [HS.out],by rw [HS.out];exact B2.out,j.setCell (aA _) _⟩;rw [results_cell_tmp rfl];have A1:(wr.setCell ⟨w.heap.size,0,none⟩ (.slice a2 k c2)).cell? ⟨w.heap.size,0,none⟩=some (.slice a2 k c2):=(B.put 0 _).cell 0;go_simp
end
section
open Go.RowKit
attribute [local go_sem ↓] Go.wp_at_zero Go.wp_at_succ
def AeV (xs:List RdS.Pr) (w1:World) (s i:Value) (wr:World):Prop:=∃k:Nat,k<=xs.length/\i=.int .i64 k/\s=.string ⟨(RdS.Bc xs k).toArray⟩/\Below w1.heap.size w1 wr
theorem Zt (v:Value) (xs:List RdS.Pr) (w:World) (h:AX w v xs) (hf:EP xs) (hE:Env w):Calls prog 78 #[v] w (EK xs w):=by
 have y:=IC v xs w h hf hE;unfold JB at y;cases b:RdS.formedS xs with
 | false=>rw [b] at y;have I:=hZ9 b;clear h hf b;go_enter func78,ntmps78;go_wp2_with fail;refine y.mono ?_;rintro e w1 ⟨rfl,m⟩;go_wp2_with fail;go_ret2;exact EK.bad I.out m
 | true=>
  rw [b] at y;have I:=hZ9 b;have M:=hZ9 (RdS.EG b);have Y:=hZ9 (RdS.Lc b);have T:Hid (RdS.printS xs=(RdS.Bc xs xs.length,0)):=hZ9 (by unfold RdS.printS;rw [aP b]);clear b hf;obtain ⟨a,c,rfl,hc,C⟩:=h;rcases C with rfl | ⟨g,o,rfl,hg,hcell⟩
  · have:=I.out;cases this
  have HC:=hZ9 hcell;generalize hn:xs.length=n at*;have R:=hZ9 hn;have A3:n<=3:=M.out.1;clear hn hcell;go_enter func78,ntmps78;go_wp2_with fail;refine y.mono ?_;rintro e w1 ⟨rfl,m⟩;have F:g<w1.heap.size:=ae hg m.size;go_wp2_with fail;go_loopw [4,11] (fun s i wr=>AeV xs w1 s i wr) (fun _ i _=>n - (intOf i).toNat)
  case atStart=>exact ⟨0,aR _,rfl,rfl,Below.refl _ _⟩
  case round=>
   obtain ⟨k,hk,rfl,rfl,hb⟩:=hrel;rw [R.out] at hk;have hsz:=hb.size;by_cases A0:k<n
   · have x:k<xs.length:=by rw [R.out];exact A0
     obtain ⟨c0,c1⟩:=HC.out k _ (aJ x);have Q:=hZ9 (RdS.Ih xs k x);have X:=M.out.2 _ (aZ x);have A4:=Y.out k hk;generalize xs[k]=p at*;obtain ⟨t,u⟩:=p;simp only at c0 c1 X;have L:Hid (RdS.pairT (t,u)=t++[61]++RdS.Et u):=hZ9 rfl;have A2:=RdS.Vy u;have P:=fun w=>YR u (by omega) w;replace c0:wr.cell? ⟨g,o+k*2,none⟩=some (Ac t):=(hb.cell (p:=⟨g,o+k*2,none⟩) F).trans ((m.cell (p:=⟨g,o+k*2,none⟩) hg).trans c0);replace c1:wr.cell? ⟨g,o+k*2+1,none⟩=some (Ac u):=(hb.cell (p:=⟨g,o+k*2+1,none⟩) F).trans ((m.cell (p:=⟨g,o+k*2+1,none⟩) hg).trans c1);unfold Ac at c0 c1;have z:g<wr.heap.size:=ae F hsz;clear x;by_cases A:k=0
     · have J:Hid (RdS.Bc xs (k+1)=RdS.Bc xs k++t++[61]++RdS.Et u):=hZ9 (by rw [Q.out,aP A,L.out];simp);have V:decide ((0:Int)<(k:Int))=false:=aC (by omega);have N:decide (0<k)=false:=aC (by omega);clear A;generalize RdS.Bc xs k=acc at*;generalize RdS.Et u=eu at*;have K:=EE acc t (by omega) (by omega);have f:(acc++t).length<=4000:=by rw [aT];omega
       obtain ⟨y1,r⟩:∃y1,y1=acc++t:=⟨_,rfl⟩
       rw [<-r] at K f;have E:=EE y1 [61] (by omega) (by decide);have d:(y1++[61]).length<=5000:=by rw [aT,bG];omega
       obtain ⟨y2,l⟩:∃y2,y2=y1++[61]:=⟨_,rfl⟩
       rw [<-l] at E d;have G:=EE y2 eu (by omega) (by omega);obtain ⟨y3,j⟩:∃y3,y3=y2++eu:=⟨_,rfl⟩
       rw [<-j] at G;have U:Hid (y3=acc++t++[61]++eu):=hZ9 (by rw [j,l,r]);clear r l j f d;go_wp2_with fail
       go_region_held3 (fun W=>W.cell? ⟨g,o+k*2,none⟩=some (.string ⟨t.toArray⟩)/\W.cell? ⟨g,o+k*2+1,none⟩=some (.string ⟨u.toArray⟩)) (first | exact ⟨c0,c1⟩ | exact ⟨(q.cell (p:=⟨g,o+k*2,none⟩) z).trans c0,(q.cell (p:=⟨g,o+k*2+1,none⟩) z).trans c1⟩)
        (first | (go_at_call 118;(with_reducible refine (P _).mono ?_);rintro e w2 ⟨rfl,q⟩))
       all_goals go_wp2_with fail
       all_goals go_roundw
       all_goals first | exact ⟨k+1,by rw [R.out];omega,by go_num,by rw [J.out,U.out],hb.trans ((Aa (Below.drew (Below.refl _ _)) q).mono hsz)⟩ | (simp [intOf];omega)
     · have J:Hid (RdS.Bc xs (k+1)=RdS.Bc xs k++[43]++t++[61]++RdS.Et u):=hZ9 (by rw [Q.out,aG A,L.out];simp);have V:(0:Int)<(k:Int):=by omega
       have N:0<k:=by omega
       clear A;generalize RdS.Bc xs k=acc at*;generalize RdS.Et u=eu at*;have S:=EE acc [43] (by omega) (by decide);have A1:(⟨acc.toArray⟩++⟨#[43]⟩:ByteArray)=⟨(acc++[43]).toArray⟩:=LS acc [43];have B:(acc++[43]).length<=3500:=by rw [aT,bG];omega
       obtain ⟨O,H⟩:∃O,O=acc++[43]:=⟨_,rfl⟩
       rw [<-H] at S A1 B;have K:=EE O t (by omega) (by omega);have f:(O++t).length<=4000:=by rw [aT];omega
       obtain ⟨y1,r⟩:∃y1,y1=O++t:=⟨_,rfl⟩
       rw [<-r] at K f;have E:=EE y1 [61] (by omega) (by decide);have d:(y1++[61]).length<=5000:=by rw [aT,bG];omega
       obtain ⟨y2,l⟩:∃y2,y2=y1++[61]:=⟨_,rfl⟩
       rw [<-l] at E d;have G:=EE y2 eu (by omega) (by omega);obtain ⟨y3,j⟩:∃y3,y3=y2++eu:=⟨_,rfl⟩
       rw [<-j] at G;have U:Hid (y3=acc++[43]++t++[61]++eu):=hZ9 (by rw [j,l,r,H]);clear H r l j B f d;go_wp2_with fail
       go_region_held3 (fun W=>W.cell? ⟨g,o+k*2,none⟩=some (.string ⟨t.toArray⟩)/\W.cell? ⟨g,o+k*2+1,none⟩=some (.string ⟨u.toArray⟩)) (first | exact ⟨c0,c1⟩ | exact ⟨(q.cell (p:=⟨g,o+k*2,none⟩) z).trans c0,(q.cell (p:=⟨g,o+k*2+1,none⟩) z).trans c1⟩)
        (first | (go_at_call 118;(with_reducible refine (P _).mono ?_);rintro e w2 ⟨rfl,q⟩))
       all_goals go_wp2_with fail
       all_goals go_roundw
       all_goals first | exact ⟨k+1,by rw [R.out];omega,by go_num,by rw [J.out,U.out],hb.trans ((Aa (Below.drew (Below.refl _ _)) q).mono hsz)⟩ | (simp [intOf];omega)
   · have Z:k=n:=by omega
     subst Z;generalize RdS.Bc xs k=tx at*;go_wp2_with fail;go_ret2;exact ⟨by rw [T.out];rfl,m.trans (hb.mono m.size)⟩
end
section
open Go.RowKit
attribute [local go_sem ↓] Go.wp_at_zero Go.wp_at_succ
theorem AbH (T:TypeId) (w:World):Bg T (w.alloc (.cells #[] T)) w.heap.size (.slice (some ⟨w.heap.size,0,none⟩) 0 0) []:=
 ⟨rfl,.inr ⟨w.heap.size,0,#[],rfl,aA _,by show (w.heap.push _)[w.heap.size]?=_;rw [dR],aA _,by unfold maxLen;omega,rfl,rfl⟩⟩
theorem AeW (v:Value) (xs:List RdS.Pr) (w:World) (h:AX w v xs) (h0:xs≠[]) (E:xs.length<=1000):Calls prog 142 #[v] w fun e w'=>∃u,e=.returned u/\Bg 190 w' w.heap.size u xs/\Below w.heap.size w w':=by
 obtain ⟨a,c,rfl,hc,b⟩:=h;rcases b with rfl | ⟨g,o,rfl,G,hcell⟩
 · exact absurd rfl h0
 have l:∀(j:Nat) (u:Value),(CM xs)[j]?=some u->(w.alloc (.cells #[] 190)).cell? ((⟨g,o,none⟩:Addr).add j)=some u:=fun j u i=>by
  have f:(⟨g,o,none⟩:Addr).add j=⟨g,o+j,none⟩:=by unfold Addr.add;split <;> simp_all
  rw [f];have s:=(aj.1 i).1;rw [KD] at s;have k:j / 2<xs.length:=by omega
  obtain ⟨c0,c1⟩:=hcell (j / 2) _ (aJ k);obtain ⟨a0,a1⟩:=IR xs (j / 2) xs[j / 2] (aJ k);have hb:=Af w (.cells #[] 190);rcases df j with h2 | h2
  · rw [show j / 2*2=j from by omega] at c0 a0;rw [a0] at i;cases i;exact Ab c0 hb
  · rw [show o+j / 2*2+1=o+j from by omega] at c1;rw [show j / 2*2+1=j from by omega] at a1;rw [a1] at i;cases i;exact Ab c1 hb
 have p:=hZ9 l;obtain ⟨i0,y,r,t,m⟩:=info_parts Yg;have B:=hZ9 y;clear y l hcell;generalize x:xs.length=n at*;have A:=hZ9 x;clear x;have z:=fun w=>Lib.run_eql_slice_nil (P:=prog) w 151 190 (some ⟨g,o,none⟩) n c 0 0 underlying151;go_enter func142,ntmps142;go_wp2_with (at_builtin;refine Ik 190 151 underlying151 B.out r t m (by rfl) (by rfl) _ _ (by rfl) w.heap.size _ [] (by rfl) (AbH _ w) ⟨g,o,none⟩ n _ (by rfl) xs A.out p.out (by simp;omega) (by simp) ?_)
 intro F w2 d q C;go_wp2_with fail;go_ret;exact ⟨_,rfl,d,(Af w _).trans q⟩
def EQ (xs:List RdS.Pr) (w:World) (e:Ending) (w':World):Prop:=∃v,e=.returned (.tuple #[v,.int .i64 (RdS.normP xs).2])/\AX w' v (RdS.normP xs).1/\Below w.heap.size w w'
theorem EQ.bad {xs:List RdS.Pr} {w w':World} (h:RdS.formedS xs=false) (hb:Below w.heap.size w w'):EQ xs w (.returned (.tuple #[.slice Option.none 0 0,.int .i64 1])) w':=by unfold EQ RdS.normP;rw [h];exact ⟨_,rfl,AX.empty w',hb⟩
def ER (xs:List RdS.Pr) (k:Nat):List RdS.Pr:=RdS.AU (xs.take k)++xs.drop k
theorem AbI (xs:List RdS.Pr) (k:Nat):(ER xs k).length=xs.length:=by unfold ER;rw [aT,RdS.Fv,au,bI];omega
theorem Ad5 {xs:List RdS.Pr} {k:Nat} (h:k<xs.length):(ER xs k)[k]?=some xs[k]:=by
 unfold ER;have a:(RdS.AU (xs.take k)).length=k:=by rw [RdS.Fv,au];omega
 rw [bC (by omega),a,eD,eA,Nat.add_zero,aJ h]
theorem Zu {xs:List RdS.Pr} {k:Nat} (h:k<xs.length):ER xs (k+1)=(ER xs k).set k (xs[k].1,(RuS.normal xs[k].1 xs[k].2).1):=by
 have a:(RdS.AU (xs.take k)).length=k:=by rw [RdS.Fv,au];omega
 unfold ER;rw [dJ _ _ (by omega),a,eD,av h,aN,aX h];unfold RdS.AU;rw [bP];simp
theorem Ad6 (xs:List RdS.Pr):∀(k:Nat) (p:RdS.Pr) (y:List UInt8),xs[k]?=some p->CM (xs.set k (p.1,y))=(CM xs).set (k*2+1) (Ac y):=by
 induction xs with
 | nil=>intro k p y h;simp at h
 | cons q xs a=>
  intro k p y h;cases k with
  | zero=>have:=aU h;subst this;rfl
  | succ k=>
   have b:xs[k]?=some p:=by simpa using h
   show Ac q.1 :: Ac q.2 :: CM (xs.set k (p.1,y))=_
   rw [a k p y b,show (k+1)*2+1=k*2+1+1+1 from by omega];rfl
theorem Bg.stored {T:TypeId} {w:World} {B g n cap:Nat} {xs:List RdS.Pr} (h:Bg T w B (.slice (some ⟨g,0,none⟩) n cap) xs) (a:n=xs.length) {k:Nat} {p:RdS.Pr} (hk:xs[k]?=some p) (y:List UInt8):
  Bg T (w.setCell ⟨g,k*2+1,none⟩ (Ac y)) B (.slice (some ⟨g,0,none⟩) n cap) (xs.set k (p.1,y)):=by
 subst a;have h1:=(World.ownsRow.stored h (k*2+1) (Ac y)).1;unfold Bg;rw [List.length_set,Ad6 xs k p y hk];exact h1
def AfP (xs:List RdS.Pr) (w1:World) (u i:Value) (wr:World):Prop:=∃k:Nat,k<=xs.length/\i=.int .i64 k/\Bg 190 wr w1.heap.size u (ER xs k)/\Below w1.heap.size w1 wr
theorem Zv (v:Value) (xs:List RdS.Pr) (w:World) (h:AX w v xs) (X:EP xs) (hE:Env w):Calls prog 107 #[v] w (EQ xs w):=by
 have m:=Ld v xs w h X hE;unfold JB at m;cases c:RdS.formedS xs with
 | false=>rw [c] at m;have A0:=hZ9 c;clear h X c;go_enter func107,ntmps107;go_wp2_with fail;refine m.mono ?_;rintro e w1 ⟨rfl,f⟩;go_wp2_with fail;go_ret2;exact EQ.bad A0.out f
 | true=>
  rw [c] at m;have o:=RdS.Hg c;have O:xs≠[]:=by intro h0;rw [h0] at o;simp at o
  have H:=hZ9 (RdS.EG c);have M:Hid (RdS.normP xs=(RdS.AU xs,0)):=hZ9 (by unfold RdS.normP;rw [aP c]);have K:0<xs.length:=o.1;have I:=fun w h=>AeW v xs w h O (by have:=o.2.1;omega);clear c X o;go_enter func107,ntmps107;go_wp2_with fail;refine m.mono ?_;rintro e w1 ⟨rfl,f⟩;have G:=hE.below f;go_wp2_with fail;refine (I _ (h.call f (aA _))).mono ?_;rintro e w2 ⟨u,rfl,a,J⟩;have A1:=G.below J;obtain ⟨g2,cap,rfl,R,A4⟩:=World.ownsRow.form a K;have h00:ER xs 0=xs:=by unfold ER;simp [RdS.AU]
  have q:Bg 190 w2 w1.heap.size (.slice (some ⟨g2,0,none⟩) xs.length cap) (ER xs 0):=by rw [h00];exact a
  have B:=hZ9 q;generalize hn:xs.length=n at*;have L:=hZ9 hn;have A2:n<=3:=H.out.1;clear hn a q h00 m I h;go_wp2_with fail;go_loopw [14] (fun i wr=>AfP xs w1 (.slice (some ⟨g2,0,none⟩) n cap) i wr) (fun i _=>n - (intOf i).toNat)
  case atStart=>exact ⟨0,aR _,rfl,B.out,J⟩
  case round=>
   obtain ⟨k,hk,rfl,a,hb⟩:=hrel;rw [L.out] at hk;have hsz:=hb.size;by_cases Y:k<n
   · have d:k<xs.length:=by rw [L.out];exact Y
     have A:=Ad5 d;have E:=hZ9 (Zu d);have U:=H.out.2 _ (aZ d);obtain ⟨a0,a1⟩:=IR (ER xs k) k xs[k] A;have c0:=World.ownsRow.cells a (g:=g2) rfl _ _ a0;have c1:=World.ownsRow.cells a (g:=g2) rfl _ _ a1;have F:∀j,(⟨g2,0,none⟩:Addr).add j=⟨g2,j,none⟩:=fun j=>by unfold Addr.add;split <;> simp_all
     rw [F] at c0 c1;have b:=AbI xs k;rw [L.out] at b;have W:=hZ9 (fun (w':World) (C:Below wr.heap.size wr w') (y:List UInt8)=>Bg.stored (Bg.call a C) b.symm A y);have N:=fun (w':World) (C:Below wr.heap.size wr w')=>World.ownsRow.frozenAt (n:=(ER xs k).length) (cap:=cap) (by have h5:=Bg.call a C;rw [b];unfold Bg at h5;rw [b] at h5;exact h5) (k*2+1);have Z:=hZ9 N;have A3:g2<wr.heap.size:=(World.ownsRow.lt a g2 rfl).2;generalize xs[k]=p at*;obtain ⟨t,u⟩:=p;simp only at c0 c1 U;unfold Ac at c0 c1;have s:=fun w hE=>FH ⟨t.toArray⟩ ⟨u.toArray⟩ (by show t.toArray.size<=_;rw [bV];omega) (by show u.toArray.size<=_;rw [bV];omega) w hE;unfold Bl at s;have S:∀l:List UInt8,(⟨l.toArray⟩:ByteArray).data.toList=l:=fun _=>rfl;rw [S,S] at s;simp only at E;generalize RuS.normal t u=nr at*;obtain ⟨x,e0⟩:=nr;simp only at s E;have P:Below wr.heap.size wr (wr.alloc (.cells #[.string ⟨t.toArray⟩,.string ⟨u.toArray⟩] 190)):=Af wr _;have Q:Env (wr.alloc (.cells #[.string ⟨t.toArray⟩,.string ⟨u.toArray⟩] 190)):=(G.below hb).alloc _;clear A a0 a1 d a S N;go_wp2_with fail;refine (s _ Q).mono ?_;rintro e w3 ⟨rfl,T⟩;have r:Below wr.heap.size wr w3:=Aa P T;have d1:w3.cell? ⟨g2,k*2+1,none⟩=some (.string ⟨u.toArray⟩):=Ab c1 r;have f1:=Z.out w3 r;go_wp2_with fail;go_roundw
     case rel=>exact ⟨k+1,by rw [L.out];omega,by go_num,by rw [E.out];exact W.out w3 r x,(hb.trans (r.mono hsz)).setCell (p:=⟨g2,k*2+1,none⟩) R _⟩
     case measure=>simp [intOf];omega
   · have V:k=n:=by omega
     subst V;have z:ER xs k=RdS.AU xs:=by unfold ER;rw [<-L.out,bE,dH,bJ]
     rw [z] at a;clear z;go_wp2_with fail;go_ret2;exact ⟨_,by rw [M.out];rfl,by rw [M.out];exact a.avas,f.trans (hb.mono f.size)⟩
end
section
open Go.RowKit
attribute [local go_sem ↓] Go.wp_at_zero Go.wp_at_succ
def AeX (xs:List RdS.Pr) (w1:World) (out i:Value) (wr:World):Prop:=∃k:Nat,k<=xs.length/\i=.int .i64 k/\Bg 173 wr w1.heap.size out (RdS.AU (xs.take k))/\Below w1.heap.size w1 wr
theorem TG (v:Value) (xs:List RdS.Pr) (w:World) (h:AX w v xs) (V:EP xs) (hE:Env w):Calls prog 77 #[v] w (EQ xs w):=by
 have m:=IC v xs w h V hE;unfold JB at m;cases b:RdS.formedS xs with
 | false=>rw [b] at m;have H:=hZ9 b;clear h V b;go_enter func77,ntmps77;go_wp2_with fail;refine m.mono ?_;rintro e w1 ⟨rfl,d⟩;go_wp2_with fail;go_ret2;exact EQ.bad H.out d
 | true=>
  rw [b] at m;have H:=hZ9 b;have I:=hZ9 (RdS.EG b);have L:Hid (RdS.normP xs=(RdS.AU xs,0)):=hZ9 (by unfold RdS.normP;rw [aP b]);clear b V;obtain ⟨a,c,rfl,hc,A⟩:=h;rcases A with rfl | ⟨g,o,rfl,X,hcell⟩
  · have:=H.out;cases this
  have HC:=hZ9 hcell;obtain ⟨i0,hi,S,Z,Q⟩:=info_parts Uk;have HI:=hZ9 hi;generalize hn:xs.length=n at*;have N:=hZ9 hn;have A1:n<=3:=I.out.1;clear hn hcell hi;go_enter func77,ntmps77;go_wp2_with fail;refine m.mono ?_;rintro e w1 ⟨rfl,d⟩;have P:=hE.below d;have B:g<w1.heap.size:=ae X d.size;go_wp2_with fail;go_loopw [4,13] (fun out i wr=>AeX xs w1 out i wr) (fun _ i _=>n - (intOf i).toNat)
  case atStart=>exact ⟨0,aR _,rfl,Bg.empty _ _ _,Below.refl _ _⟩
  case round=>
   obtain ⟨k,hk,rfl,j,hb⟩:=hrel;rw [N.out] at hk;have hsz:=hb.size;by_cases Y:k<n
   · have f:k<xs.length:=by rw [N.out];exact Y
     obtain ⟨c0,c1⟩:=HC.out k _ (aJ f);have T:=I.out.2 _ (aZ f);have z:Hid (RdS.AU (xs.take (k+1))=RdS.AU (xs.take k)++[(xs[k].1,(RuS.normal xs[k].1 xs[k].2).1)]):=hZ9 (by
      rw [aX f];unfold RdS.AU;rw [bP];rfl)
     have A0:(RdS.AU (xs.take k)).length<=1000:=by rw [RdS.Fv,au];omega
     generalize xs[k]=p at*;obtain ⟨t,u⟩:=p;simp only at c0 c1 T z;replace c0:wr.cell? ⟨g,o+k*2,none⟩=some (Ac t):=(hb.cell (p:=⟨g,o+k*2,none⟩) B).trans ((d.cell (p:=⟨g,o+k*2,none⟩) X).trans c0);replace c1:wr.cell? ⟨g,o+k*2+1,none⟩=some (Ac u):=(hb.cell (p:=⟨g,o+k*2+1,none⟩) B).trans ((d.cell (p:=⟨g,o+k*2+1,none⟩) X).trans c1);unfold Ac at c0 c1;have r:=fun w hE=>NV ⟨t.toArray⟩ ⟨u.toArray⟩ (by show t.toArray.size<=_;rw [bV];omega) (by show u.toArray.size<=_;rw [bV];omega) w hE;unfold Bl at r;have R:∀l:List UInt8,(⟨l.toArray⟩:ByteArray).data.toList=l:=fun _=>rfl;rw [R,R] at r;generalize RuS.normal t u=nr at*;obtain ⟨x,e0⟩:=nr;simp only at r z;have s:=r wr.drew (P.below hb).drew;have C:g<wr.heap.size:=ae B hsz;have K:=hZ9 j;generalize RdS.AU (xs.take k)=ac at*;clear f R r j;go_wp2_with fail
     go_region_held3 (fun W=>W.cell? ⟨g,o+k*2,none⟩=some (.string ⟨t.toArray⟩)/\W.cell? ⟨g,o+k*2+1,none⟩=some (.string ⟨u.toArray⟩)) (first | exact ⟨c0,c1⟩ | exact ⟨(E.cell (p:=⟨g,o+k*2,none⟩) C).trans c0,(E.cell (p:=⟨g,o+k*2+1,none⟩) C).trans c1⟩)
      (first | (go_at_call 102;(with_reducible refine s.mono ?_);rintro e w2 ⟨rfl,E⟩))
     have q:Below wr.heap.size wr w2:=Aa (Below.drew (Below.refl _ _)) E;have d0:w2.cell? ⟨g,o+k*2,none⟩=some (.string ⟨t.toArray⟩):=(q.cell (p:=⟨g,o+k*2,none⟩) C).trans c0;have F:=Bg.call K.out q;have J:Below w1.heap.size w1 w2:=hb.trans (q.mono hsz);have M:=J.size;clear c0 c1 s;go_wp2_with (at_builtin;refine IW 173 124 underlying124 HI.out S Z Q (by rfl) (by rfl) _ _ (by rfl) w1.heap.size _ ac (by rfl) (F.alloc _) w2.heap.size (by rfl) (t,x) ?e1 ?e2 ?e3 ?e4 ?_)
     case e1=>simp [go_sem,Ac]
     case e2=>simp [go_sem,Ac]
     case e3=>omega
     case e4=>simp;omega
     intro v' w4 G O;go_wp2_with fail;go_roundw
     case rel=>exact ⟨k+1,by rw [N.out];omega,by go_num,by rw [z.out];exact G,(J.alloc M _).trans O⟩
     case measure=>simp [intOf];omega
   · have U:k=n:=by omega
     subst U;have y:xs.take k=xs:=ag (by rw [N.out];omega);rw [y] at j;clear y;go_wp2_with fail;go_ret2;exact ⟨_,by rw [L.out];rfl,by rw [L.out];exact j.avas,d.trans (hb.mono d.size)⟩
end
end Go.Proofs.YtgngjfjaelgaeaaGreatDoor
