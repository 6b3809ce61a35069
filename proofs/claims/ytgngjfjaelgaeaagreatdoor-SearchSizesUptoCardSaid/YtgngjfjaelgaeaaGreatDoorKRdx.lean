/- Slices of slices of pairs in memory: one that is read; one of the call's own that is appended to. Conditions: as stated. -/
import Derived.Test.YtgngjfjaelgaeaaGreatDoorKRdl
import Derived.Test.YtgngjfjaelgaeaaGreatDoorKSeS
set_option maxRecDepth 100000
set_option maxHeartbeats 4000000
namespace Go.Proofs.YtgngjfjaelgaeaaGreatDoor
section
open Go.RowKit
def EC (w:World) (v:Value) (ls:List (List RdS.Pr)):Prop:=
 ∃(a:Option Addr) (c:Nat) (us:List Value),v=.slice a ls.length c/\ls.length<=c/\us.length=ls.length/\(∀(i:Nat) (u:Value) (l:List RdS.Pr),us[i]?=some u->ls[i]?=some l->AK w u l)/\
  (ls=[]\/∃g o,a=some ⟨g,o,none⟩/\g<w.heap.size/\∀(i:Nat) (u:Value),us[i]?=some u->w.cell? ⟨g,o+i,none⟩=some u)
theorem EC.call {w w':World} {v:Value} {ls:List (List RdS.Pr)} (h:EC w v ls) {B:Nat} (hb:Below B w w') (hB:w.heap.size<=B):EC w' v ls:=by
 obtain ⟨a,c,us,rfl,hc,hu,A0,h⟩:=h
 refine ⟨a,c,us,rfl,hc,hu,fun i u l h1 h2=>(A0 i u l h1 h2).call hb hB,?_⟩
 rcases h with h | ⟨g,o,rfl,hg,h⟩
 · exact .inl h
 · exact .inr ⟨g,o,rfl,Nat.lt_of_lt_of_le hg hb.size,fun i u hi=>(hb.cell (p:=⟨g,o+i,none⟩) (Nat.lt_of_lt_of_le hg hB)).trans (h i u hi)⟩
theorem EC.empty (w:World):EC w (.slice none 0 0) []:=⟨none,0,[],rfl,Nat.le_refl _,rfl,fun i u l h=>(by simp at h),.inl rfl⟩
theorem EC.at {w:World} {v:Value} {ls:List (List RdS.Pr)} (h:EC w v ls):∃a c,v=.slice a ls.length c/\ls.length<=c/\(ls=[]\/∃g o,a=some ⟨g,o,none⟩/\g<w.heap.size/\∀(i:Nat) (l:List RdS.Pr),ls[i]?=some l->∃u,w.cell? ⟨g,o+i,none⟩=some u/\AK w u l):=by
 obtain ⟨a,c,us,rfl,hc,hu,A1,h⟩:=h
 refine ⟨a,c,rfl,hc,?_⟩
 rcases h with h | ⟨g,o,rfl,hg,h⟩
 · exact .inl h
 · refine .inr ⟨g,o,rfl,hg,fun i l hl=>?_⟩
   have A0:i<us.length:=by rw [hu];exact (List.getElem?_eq_some_iff.1 hl).1
   exact ⟨us[i],h i _ (List.getElem?_eq_getElem A0),A1 i _ l (List.getElem?_eq_getElem A0) hl⟩
def DF (T T2:TypeId) (w:World) (B:Nat) (v:Value) (ls:List (List RdS.Pr)):Prop:=
 ∃us:List Value,w.ownsRow B T 1 v ls.length us/\us.length=ls.length/\∀(i:Nat) (u:Value) (l:List RdS.Pr),us[i]?=some u->ls[i]?=some l->AK w u l/\Tag T2 w u
theorem DF.empty (T T2:TypeId) (w:World) (B:Nat):DF T T2 w B (.slice none 0 0) []:=⟨[],World.ownsRow_nil w B _ 1,rfl,fun i u l h=>(by simp at h)⟩
theorem DF.form {T T2:TypeId} {w:World} {B:Nat} {v:Value} {ls:List (List RdS.Pr)} (h:DF T T2 w B v ls):∃a c,v=.slice a ls.length c:=by
 obtain ⟨us,h,_⟩:=h
 rcases h.2 with ⟨rfl,hn⟩ | ⟨g,cap,cur,rfl,_⟩
 · exact ⟨_,_,by rw [hn]⟩
 · exact ⟨_,_,rfl⟩
theorem DF.call {T T2:TypeId} {w w':World} {B:Nat} {v:Value} {ls:List (List RdS.Pr)} (h:DF T T2 w B v ls) (hb:Below w.heap.size w w'):DF T T2 w' B v ls:=by
 obtain ⟨us,h1,h2,h3⟩:=h
 exact ⟨us,World.ownsRow.kept h1 (AX hb) (by cases v.ownBlock <;> simp),h2,fun i u l a b=>⟨(h3 i u l a b).1.call hb (Nat.le_refl _),(h3 i u l a b).2.call hb⟩⟩
theorem DF.avss {T T2:TypeId} {w:World} {B:Nat} {v:Value} {ls:List (List RdS.Pr)} (h:DF T T2 w B v ls):EC w v ls:=by
 obtain ⟨us,h1,h2,h3⟩:=h
 rcases h1.2 with ⟨rfl,hn⟩ | ⟨g,cap,cur,rfl,hg,hh,hn,hm,hsz,A1⟩
 · refine ⟨none,0,us,by rw [hn],by omega,h2,fun i u l a b=>(h3 i u l a b).1,.inl (List.eq_nil_of_length_eq_zero hn)⟩
 · refine ⟨some ⟨g,0,none⟩,cap,us,rfl,hn,h2,fun i u l a b=>(h3 i u l a b).1,.inr ⟨g,0,rfl,(Array.getElem?_eq_some_iff.1 hh).1,fun i u hi=>?_⟩⟩
   have:=World.ownsRow.cells h1 (g:=g) rfl i u hi
   have A0:(⟨g,0,none⟩:Addr).add i=⟨g,0+i,none⟩:=by unfold Addr.add;split <;> simp_all
   rwa [A0] at this
theorem AK.setHdr {w:World} {v:Value} {xs:List RdS.Pr} (h:AK w v xs) {b:Nat} {T:TypeId} {a0:Option Addr} {n0 c0:Nat} (hw:Whole w b T #[.slice a0 n0 c0]) (u:Value):AK (w.setCell ⟨b,0,none⟩ u) v xs:=by
 obtain ⟨a,c,rfl,hc,h⟩:=h
 refine ⟨a,c,rfl,hc,?_⟩
 rcases h with h | ⟨g,o,rfl,hg,h⟩
 · exact .inl h
 · cases xs with
   | nil=>exact .inl rfl
   | cons p xs=>
    have A0:g≠b:=by
     intro e
     subst e
     have h1:=(h 0 p rfl).1
     rw [hw.cell] at h1
     cases o with
     | zero=>simp [Ac] at h1
     | succ o=>simp at h1
    refine .inr ⟨g,o,rfl,by simpa [World.setCell] using hg,fun j q hj=>?_⟩
    have hblk:=Below.heap_setCell w ⟨b,0,none⟩ u g A0
    exact ⟨(World.cell?_of_block (a:=⟨g,o+j*2,none⟩) hblk).trans (h j q hj).1,(World.cell?_of_block (a:=⟨g,o+j*2+1,none⟩) hblk).trans (h j q hj).2⟩
theorem Tag.setCell {T:TypeId} {w:World} {v:Value} (h:Tag T w v) (a:Addr) (u:Value):Tag T (w.setCell a u) v:=fun g hg=>by
 obtain ⟨cs,fz,e⟩:=h g hg
 by_cases hb:g=a.block
 · subst hb
   show ∃cs fz,(w.heap.modify a.block _)[a.block]?=_
   rw [Array.getElem?_modify,if_pos rfl,e]
   exact ⟨_,_,rfl⟩
 · exact ⟨cs,fz,(Below.heap_setCell w a u g hb).trans e⟩
theorem DF.setHdr {Ts T2:TypeId} {w:World} {B:Nat} {v:Value} {ls:List (List RdS.Pr)} (h:DF Ts T2 w B v ls) {b:Nat} {T:TypeId} {a0:Option Addr} {n0 c0:Nat} (hw:Whole w b T #[.slice a0 n0 c0]) (hb:b<B) (u:Value):DF Ts T2 (w.setCell ⟨b,0,none⟩ u) B v ls:=by
 obtain ⟨us,h1,h2,h3⟩:=h
 exact ⟨us,ownsRow_setCell_below h1 (a:=⟨b,0,none⟩) hb u,h2,fun i x l a c=>⟨(h3 i x l a c).1.setHdr hw u,(h3 i x l a c).2.setCell _ u⟩⟩
theorem AK.grownTag {w w':World} {u:Value} {l:List RdS.Pr} (h:AK w u l) {T2:TypeId} (ht:Tag T2 w u) {row:Option Nat} (hg:w.grownBy w' row) {T:TypeId} (hr:∀k,row=some k->∃cs fz,w.heap[k]?=some (.cells cs T fz)) (A1:T≠T2):AK w' u l/\Tag T2 w' u:=by
 have hblk:∀g,u.ownBlock=some g->w'.heap[g]?=w.heap[g]?:=fun g hu=>by
  obtain ⟨cs,fz,e⟩:=ht g hu
  refine hg.block g (Array.getElem?_eq_some_iff.1 e).1 (fun hc=>?_)
  obtain ⟨A2,A3,e2⟩:=hr g hc.symm
  rw [e] at e2
  cases e2
  exact A1 rfl
 refine ⟨?_,fun g hu=>by
  obtain ⟨cs,fz,e⟩:=ht g hu
  exact ⟨cs,fz,(hblk g hu).trans e⟩⟩
 obtain ⟨a,c,rfl,hc,h⟩:=h
 refine ⟨a,c,rfl,hc,?_⟩
 rcases h with h | ⟨g,o,rfl,A0,h⟩
 · exact .inl h
 · have e:=hblk g rfl
   exact .inr ⟨g,o,rfl,Nat.lt_of_lt_of_le A0 hg.size,fun j q hj=>⟨(World.cell?_of_block (a:=⟨g,o+j*2,none⟩) e).trans (h j q hj).1,(World.cell?_of_block (a:=⟨g,o+j*2+1,none⟩) e).trans (h j q hj).2⟩⟩
theorem UI {w:World} {ops:Array Oper} {rest:List Oper} {o:Oper} {a:Act} {Q:Exit->Act->World->Prop} (T T2 sT:TypeId) (A8:T≠T2) (B4:Tryz.prog.underlying sT=some (.slice T)) {i0:TypeInfo}
  (hi:Tryz.prog.info? T=some i0) (hz:i0.zero=some (.slice none 0 0)) (A5:i0.size=1) (B5:i0.bytes=24) (B7:o.guard=none) (s x:Operand)
  (ho:o.op=.call { callee:=.builtin .append,args:=#[s,x],argTypes:=#[sT,sT] })
  (B:Nat) (v:Value) (ls:List (List RdS.Pr)) (hs:a.eval s=v) (A0:DF T T2 w B v ls) (g:Nat) (hx:a.eval x=.slice (some ⟨g,0,none⟩) 1 1)
  (u0:Value) (B6:u0.oneCell'=true) (l:List RdS.Pr) (B3:w.cell? ⟨g,0,none⟩=some u0) (B8:AK w u0 l) (B2:Tag T2 w u0) (hn:ls.length<=1000000000) (hB:B<=w.heap.size)
  (h:∀v' w',DF T T2 w' B v' (ls++[l])->Below B w w'->w.grownBy w' v.ownBlock->wpList Tryz.prog ops Q rest (a.put o.dst v') w'):wpList Tryz.prog ops Q (o :: rest) a w:=by
 obtain ⟨us,A0,A7,A6⟩:=A0
 have A3:∀k,v.ownBlock=some k->∃cs fz,w.heap[k]?=some (.cells cs T fz):=fun k hk=>by
  rcases A0.2 with ⟨e,_⟩ | ⟨g',cap,cur,e,_,hh,_⟩
  · rw [e] at hk;cases hk
  · rw [e] at hk;cases hk;exact ⟨_,_,hh⟩
 refine wpList_append_own w B7 s x _ ho B T i0 (.slice none 0 0) 1 24 B4 hi hz A5 B5 rfl (by decide) v ls.length us hs A0 ⟨g,0,none⟩ 1 1 [u0] hx rfl
  (fun j u hj=>?_) (fun u hu=>?_) (by unfold maxLen;omega) (by omega) hB (fun v' w' h1 h2 _=>h v' w' ?_ ?_ h2)
 · have A9:j=0:=by
    rcases Nat.eq_zero_or_pos j with h | h
    · exact h
    · rw [List.getElem?_eq_none (by simp;omega)] at hj;cases hj
   subst A9
   have A4:(⟨g,0,none⟩:Addr).add 0=⟨g,0,none⟩:=by unfold Addr.add;split <;> simp_all
   rw [A4,B3]
   simpa using hj
 · rw [List.mem_singleton] at hu;subst hu;exact B6
 · refine ⟨us++[u0],by rw [List.length_append];exact h1,by simp [A7],fun i u l2 A1 A2=>?_⟩
   by_cases B0:i<us.length
   · rw [List.getElem?_append_left B0] at A1
     rw [List.getElem?_append_left (by omega)] at A2
     exact (A6 i u l2 A1 A2).1.grownTag (A6 i u l2 A1 A2).2 h2 A3 A8
   · have B1:i=us.length:=by
      have:=(List.getElem?_eq_some_iff.1 A1).1
      simp at this;omega
     subst B1
     rw [List.getElem?_append_right (Nat.le_refl _)] at A1
     rw [A7,List.getElem?_append_right (Nat.le_refl _)] at A2
     simp at A1 A2
     subst A1;subst A2
     exact B8.grownTag B2 h2 A3 A8
 · exact (Below.refl B w).grown h2 hB (fun k hk=>(World.ownsRow.lt A0 k hk).1)
end
section
open Go.RowKit
namespace DnS
open RdS
theorem NF:∀(ps:List (List UInt8)) (p:List UInt8),partsS (ps++[p])=(partsS ps).bind fun l=>if (AY p).2=0 then some (l++[(AY p).1]) else none
 | [],p=>by
  show partsS [p]=_
  unfold partsS
  split <;> simp [partsS, *]
 | q :: ps,p=>by
  rw [List.cons_append]
  unfold partsS
  rw [NF ps p]
  by_cases hq:(AY q).2=0
  · rw [if_pos hq,if_pos hq]
    cases partsS ps with
    | none=>rfl
    | some l=>by_cases hp:(AY p).2=0 <;> simp [hp]
  · rw [if_neg hq,if_neg hq];rfl
theorem MA:∀{ps:List (List UInt8)} {p:List UInt8},p ∈ ps->(AY p).2≠0->partsS ps=none
 | q :: ps,p,h,hp=>by
  unfold partsS
  rcases List.mem_cons.1 h with rfl | h
  · rw [if_neg hp]
  · split
    · rw [MA h hp];rfl
    · rfl
theorem partsS_step {ps:List (List UInt8)} {k:Nat} (h:k<ps.length) {ls:List (List Pr)} (hq:partsS (ps.take k)=some ls) (h0:(AY ps[k]).2=0):partsS (ps.take (k+1))=some (ls++[(AY ps[k]).1]):=by
 rw [List.take_succ_eq_append_getElem h,NF,hq]
 simp [h0]
end DnS
def Gm (l:List UInt8) (w:World) (e:Ending) (w':World):Prop:=∃v,e=.returned (.tuple #[v,.int .i64 (DnS.Bg l).2])/\EC w' v (DnS.Bg l).1/\Below w.heap.size w w'
theorem Gm.none {l:List UInt8} {w w':World} {e:Int} (h:DnS.Bg l=([],e)) (hb:Below w.heap.size w w'):Gm l w (.returned (.tuple #[.slice none 0 0,.int .i64 e])) w':=by
 refine ⟨.slice Option.none 0 0,?_,?_,hb⟩
 · rw [h]
 · rw [h];exact EC.empty w'
def AaW (ps:List (List UInt8)) (w0:World) (out i:Value) (wr:World):Prop:=
 ∃(k:Nat) (ls:List (List RdS.Pr)),k<=ps.length/\i=.int .i64 k/\DF 124 173 wr w0.heap.size out ls/\ls.length=k/\DnS.partsS (ps.take k)=some ls/\Below w0.heap.size w0 wr
theorem AaX:(Tryz.prog.info? 124).map (fun i=>(i.zero,i.size,i.bytes))=some (some (.slice none 0 0),1,24):=by kernel_rfl
theorem Rt {l:List UInt8} {ps:List (List UInt8)} (h1:¬1000<l.length) (h0:l≠[]) (A0:RdS.Aj 44 l=ps) (hn:12<ps.length):DnS.Bg l=([],4):=by
 unfold DnS.Bg;rw [if_neg h1,if_neg h0,A0,if_pos hn]
theorem Xp {l:List UInt8} {ps:List (List UInt8)} (h1:¬1000<l.length) (h0:l≠[]) (A0:RdS.Aj 44 l=ps) (hn:¬12<ps.length) (h:DnS.partsS ps=none):DnS.Bg l=([],2):=by
 unfold DnS.Bg;rw [if_neg h1,if_neg h0,A0,if_neg hn,h]
theorem UJ {l:List UInt8} {ps:List (List UInt8)} (h1:¬1000<l.length) (h0:l≠[]) (A0:RdS.Aj 44 l=ps) (hn:¬12<ps.length) {ls:List (List RdS.Pr)} (h:DnS.partsS ps=some ls):DnS.Bg l=(ls,0):=by
 unfold DnS.Bg;rw [if_neg h1,if_neg h0,A0,if_neg hn,h]
theorem AaY (l:List UInt8) (hl:l.length<=1000000) (w:World) (hE:Env w):Calls Tryz.prog 76 #[.string ⟨l.toArray⟩] w (Gm l w):=by
 by_cases h1:1000<l.length
 · have hz:(1000:Int)<(l.length:Int):=by omega
   have HN:Hid (DnS.Bg l=([],4)):=hZ9 (by unfold DnS.Bg;rw [if_pos h1])
   clear h1
   go_enter Tryz.func76,Tryz.ntmps76
   go_wp2_with fail
   go_ret2
   exact Gm.none HN.out (Below.refl _ _)
 have hz:decide ((1000:Int)<(l.length:Int))=false:=decide_eq_false (by omega)
 by_cases h0:l=[]
 · subst h0
   have HN:Hid (DnS.Bg []=([],0)):=hZ9 rfl
   go_enter Tryz.func76,Tryz.ntmps76
   go_wp2_with fail
   go_ret2
   exact Gm.none HN.out (Below.refl _ _)
 have E6:l.isEmpty=false:=by simpa using h0
 have C0:=Ou l 44 (by omega) (by decide) w
 unfold GI at C0
 have C2:=RdS.Ei (sep:=44) l
 obtain ⟨ps,B1⟩:∃ps,RdS.Aj 44 l=ps:=⟨_,rfl⟩
 rw [B1] at C0 C2
 have D3:l.length<=1000:=by omega
 have A1:=hZ9 (Rt h1 h0 B1)
 have A0:=hZ9 (Xp h1 h0 B1)
 have A2:=hZ9 (fun hn ls h=>UJ h1 h0 B1 hn (ls:=ls) h)
 have D5:=hZ9 C2
 have C8:Hid (ps≠[]):=hZ9 (by
  obtain ⟨p0,E3,D6⟩:=RdS.Cm 44 l
  rw [<-B1,D6];simp)
 clear B1 C2 h0 h1
 go_enter Tryz.func76,Tryz.ntmps76
 go_wp2_with fail
 refine C0.mono ?_
 rintro e w0 ⟨v,rfl,hv,hb0⟩
 obtain ⟨a,c,rfl,hc,B2⟩:=hv
 generalize hn:ps.length=n at*
 have HN:=hZ9 hn
 have E2:=hE.below hb0
 by_cases A9:12<n
 · have h3:(12:Int)<(n:Int):=by omega
   have B0:=hZ9 (A1.out A9)
   clear hn A1 A0 A2
   go_wp2_with fail
   go_ret2
   exact Gm.none B0.out hb0
 have h3:decide ((12:Int)<(n:Int))=false:=decide_eq_false (by omega)
 have A8:=hZ9 (A0.out A9)
 have A7:=hZ9 (A2.out A9)
 rcases B2 with rfl | ⟨g,o,rfl,hg,hcell⟩
 · exact absurd rfl C8.out
 have B6:=hZ9 hcell
 clear hn hcell C0 A1 A0 A2
 go_wp2_with fail
 go_loopw [5,21] (fun out i wr=>AaW ps w0 out i wr) (fun _ i _=>n - (intOf i).toNat)
 case atStart=>exact ⟨0,[],Nat.zero_le _,rfl,DF.empty _ _ _ _,rfl,rfl,Below.refl _ _⟩
 case round=>
  obtain ⟨k,ls,hk,rfl,A5,D0,hq,hb⟩:=hrel
  rw [HN.out] at hk
  have hsz:=hb.size
  have A4:Below w.heap.size w wr:=hb0.trans (hb.mono hb0.size)
  have E1:=hE.below A4
  by_cases D1:k<n
  · have A3:k<ps.length:=by rw [HN.out];exact D1
    have D9:wr.cell? ⟨g,o+k,none⟩=some (Ac ps[k]):=(hb.cell (p:=⟨g,o+k,none⟩) hg).trans (B6.out k _ (List.getElem?_eq_getElem A3))
    have E5:=D5.out ps[k] (List.getElem_mem A3)
    have B0:=hZ9 (fun h=>A8.out (DnS.MA (List.getElem_mem A3) h))
    have A6:=hZ9 (DnS.partsS_step A3 hq)
    generalize ps[k]=p at*
    unfold Ac at D9
    clear hq A3
    have B8:=AaQ p (by omega) wr E1
    unfold Ci at B8
    have B9:=RdS.Rn (s:=p)
    generalize RdS.AY p=P at*
    obtain ⟨xs,e0⟩:=P
    simp only at B8 B9 B0 A6
    have C1:=hZ9 A5
    clear A5
    by_cases he:e0=0
    · subst he
      have C5:=hZ9 (A6.out rfl)
      clear A6 B0 B9
      obtain ⟨i0,hi,C9,D4,E0⟩:=info_parts AaX
      have HI:=hZ9 hi
      clear hi
      go_wp2_with fail
      refine B8.mono ?_
      rintro e w1 ⟨v,rfl,C3,B4,C4⟩
      obtain ⟨a1,c1,rfl,E4⟩:∃a1 c1,v=.slice a1 xs.length c1/\True:=by
       obtain ⟨a1,c1,e,_⟩:=C3
       exact ⟨a1,c1,e,trivial⟩
      have B7:=C1.out.call B4
      have C7:=B4.size
      go_wp2_with (at_builtin;refine UI 124 173 121 (by decide) Tryz.underlying121 HI.out C9 D4 E0 (by rfl) _ _ (by rfl) w0.heap.size _ ls (by rfl) (B7.call (Af w1 _)) w1.heap.size (by rfl) (.slice a1 xs.length c1) (by rfl) xs ?e1 (C3.call (Af w1 _) (Nat.le_refl _)) (C4.call (Af w1 _)) ?e3 ?e4 ?_)
      case e1=>simp [go_sem]
      case e3=>omega
      case e4=>simp;omega
      intro v' w4 B5 C6 _
      go_wp2_with fail
      go_roundw
      case rel=>exact ⟨k+1,ls++[xs],by rw [HN.out];omega,by go_num,B5,by simp [D0],C5.out,((hb.trans (B4.mono hsz)).alloc (by omega) _).trans C6⟩
      case measure=>simp [intOf];omega
    · have h2:=B9 he
      rw [Prod.mk.injEq] at h2
      obtain ⟨rfl,rfl⟩:=h2
      have D2:=hZ9 (B0.out he)
      clear A6 B0 B9 he
      go_wp2_with fail
      refine B8.mono ?_
      rintro e w1 ⟨v,rfl,C3,B4,C4⟩
      go_wp2_with fail
      go_ret2
      exact Gm.none D2.out (A4.trans (B4.mono A4.size))
  · have D8:k=n:=by omega
    subst D8
    have B3:ps.take k=ps:=List.take_of_length_le (by rw [HN.out];omega)
    rw [B3] at hq
    have HS:=hZ9 (A7.out ls hq)
    have D7:=hZ9 A5.avss
    clear B3 hq A5
    go_wp2_with fail
    go_ret2
    exact ⟨_,by rw [HS.out];rfl,by rw [HS.out];exact D7.out,A4⟩
end
section
open Go.RowKit
def ET (l:List UInt8) (w:World) (e:Ending) (w':World):Prop:=∃v,e=.returned (.tuple #[.agg #[v],.int .i64 (DnS.Bg l).2])/\EC w' v (DnS.Bg l).1/\Below w.heap.size w w'
theorem ET.none {l:List UInt8} {w w':World} {e:Int} (h:DnS.Bg l=([],e)) (hb:Below w.heap.size w w'):ET l w (.returned (.tuple #[.agg #[.slice none 0 0],.int .i64 e])) w':=by
 refine ⟨.slice Option.none 0 0,?_,?_,hb⟩
 · rw [h]
 · rw [h];exact EC.empty w'
def AaZ (ps:List (List UInt8)) (w w0:World) (b:Nat) (i:Value) (wr:World):Prop:=
 ∃(k:Nat) (ls:List (List RdS.Pr)) (a:Option Addr) (c:Nat),k<=ps.length/\i=.int .i64 k/\DF 151 190 wr (b+1) (.slice a k c) ls/\ls.length=k/\DnS.partsS (ps.take k)=some ls/\
  Whole wr b 148 #[.slice a k c]/\Whole wr w.heap.size 148 #[.slice none 0 0]/\Below w.heap.size w wr/\Below w0.heap.size w0 wr
theorem Aba:(Tryz.prog.info? 151).map (fun i=>(i.zero,i.size,i.bytes))=some (some (.slice none 0 0),1,24):=by kernel_rfl
theorem Abb (l:List UInt8) (hl:l.length<=1000000) (w:World) (hE:Env w):Calls Tryz.prog 106 #[.string ⟨l.toArray⟩] w (ET l w):=by
 have E4:=Whole.made w 148 #[.slice none 0 0]
 have C7:Below w.heap.size w (w.alloc (.cells #[.slice none 0 0] 148)):=Af w _
 by_cases h1:1000<l.length
 · have hz:(1000:Int)<(l.length:Int):=by omega
   have HN:Hid (DnS.Bg l=([],4)):=hZ9 (by unfold DnS.Bg;rw [if_pos h1])
   clear h1
   go_enter Tryz.func106,Tryz.ntmps106
   go_wp2_with fail
   (try simp only [Exit.inBlock,Exit.then])
   refine bodyPost_ret (v:=.tuple #[.agg #[.slice none 0 0],.int .i64 4]) ?_ rfl (ET.none HN.out C7)
   rw [results_cell_tmp rfl]
   go_simp
 have hz:decide ((1000:Int)<(l.length:Int))=false:=decide_eq_false (by omega)
 by_cases h0:l=[]
 · subst h0
   have HN:Hid (DnS.Bg []=([],0)):=hZ9 rfl
   go_enter Tryz.func106,Tryz.ntmps106
   go_wp2_with fail
   (try simp only [Exit.inBlock,Exit.then])
   refine bodyPost_ret (v:=.tuple #[.agg #[.slice none 0 0],.int .i64 0]) ?_ rfl (ET.none HN.out C7)
   rw [results_cell_tmp rfl]
   go_simp
 have H4:l.isEmpty=false:=by simpa using h0
 have D1:=fun w=>QC l 44 (by omega) (by decide) w
 unfold GI at D1
 have D8:=RdS.Ei (sep:=44) l
 obtain ⟨ps,B8⟩:∃ps,RdS.Aj 44 l=ps:=⟨_,rfl⟩
 rw [B8] at D1 D8
 have F4:l.length<=1000:=by omega
 have A4:=hZ9 (Rt h1 h0 B8)
 have A2:=hZ9 (Xp h1 h0 B8)
 have A5:=hZ9 (fun hn ls h=>UJ h1 h0 B8 hn (ls:=ls) h)
 have F6:=hZ9 D8
 have E7:Hid (ps≠[]):=hZ9 (by
  obtain ⟨p0,H2,F8⟩:=RdS.Cm 44 l
  rw [<-B8,F8];simp)
 clear B8 D8 h0 h1
 generalize E1:w.alloc (.cells #[.slice none 0 0] 148)=ws at*
 go_enter Tryz.func106,Tryz.ntmps106
 go_wp2_with fail
 (try simp only [E1])
 refine (D1 ws).mono ?_
 rintro e w0 ⟨v,rfl,hv,hb0⟩
 clear E1
 have B3:Below w.heap.size w w0:=C7.trans (hb0.mono C7.size)
 have A7:=E4.call hb0
 obtain ⟨a,c,rfl,hc,C0⟩:=hv
 generalize hn:ps.length=n at*
 have HN:=hZ9 hn
 have F9:w0.cell? ⟨w.heap.size,0,none⟩=some (.slice none 0 0):=A7.cell 0
 have G1:w0.frozen? ⟨w.heap.size,0,none⟩=false:=A7.thaw 0
 by_cases B5:12<n
 · have h3:(12:Int)<(n:Int):=by omega
   have B7:=hZ9 (A4.out B5)
   clear hn A4 A2 A5
   go_wp2_with fail
   (try simp only [Exit.inBlock,Exit.then])
   refine bodyPost_ret (v:=.tuple #[.agg #[.slice none 0 0],.int .i64 4]) ?_ rfl (ET.none B7.out (B3.setCell (Nat.le_refl _) _))
   rw [results_cell_tmp rfl]
   have D4:(w0.setCell ⟨w.heap.size,0,none⟩ (.slice none 0 0)).cell? ⟨w.heap.size,0,none⟩=some (.slice none 0 0):=(A7.put 0 _).cell 0
   go_simp
 have h3:decide ((12:Int)<(n:Int))=false:=decide_eq_false (by omega)
 have B4:=hZ9 (A2.out B5)
 have B1:=hZ9 (A5.out B5)
 rcases C0 with rfl | ⟨g,o,rfl,hg,hcell⟩
 · exact absurd rfl E7.out
 have C5:=hZ9 hcell
 have D7:=Whole.made w0 148 #[.slice none 0 0]
 have E2:Below w0.heap.size w0 (w0.alloc (.cells #[.slice none 0 0] 148)):=Af w0 _
 have D9:=A7.alloc (.cells #[.slice none 0 0] 148)
 have C8:=A7.lt
 clear hn hcell D1 A4 A2 A5 F9 G1
 go_wp2_with fail
 go_loopw [25] (fun i wr=>AaZ ps w w0 w0.heap.size i wr) (fun i _=>n - (intOf i).toNat)
 case atStart=>exact ⟨0,[],none,0,Nat.zero_le _,rfl,DF.empty _ _ _ _,rfl,rfl,D7,D9,B3.trans (E2.mono B3.size),E2⟩
 case round=>
  obtain ⟨k,ls,a2,c2,hk,rfl,C1,E8,hq,D6,B6,A3,hb⟩:=hrel
  rw [HN.out] at hk
  have G9:=hE.below A3
  have hsz:=A3.size
  have F2:=D6.lt
  have C3:=hZ9 C1
  have H5:wr.cell? ⟨w0.heap.size,0,none⟩=some (.slice a2 k c2):=D6.cell 0
  have G4:wr.cell? ⟨w.heap.size,0,none⟩=some (.slice none 0 0):=B6.cell 0
  have G6:wr.frozen? ⟨w.heap.size,0,none⟩=false:=B6.thaw 0
  clear C1
  by_cases F0:k<n
  · have A6:k<ps.length:=by rw [HN.out];exact F0
    have G7:wr.cell? ⟨g,o+k,none⟩=some (Ac ps[k]):=(hb.cell (p:=⟨g,o+k,none⟩) hg).trans (C5.out k _ (List.getElem?_eq_getElem A6))
    have H3:=F6.out ps[k] (List.getElem_mem A6)
    have B7:=hZ9 (fun h=>B4.out (DnS.MA (List.getElem_mem A6) h))
    have A9:=hZ9 (DnS.partsS_step A6 hq)
    generalize ps[k]=p at*
    unfold Ac at G7
    clear hq A6
    have C9:=AaM p (by omega) wr G9
    unfold Ci at C9
    have D0:=RdS.Rn (s:=p)
    generalize RdS.AY p=P at*
    obtain ⟨xs,e0⟩:=P
    simp only at C9 D0 B7 A9
    by_cases he:e0=0
    · subst he
      have E5:=hZ9 (A9.out rfl)
      clear A9 B7 D0 G4 G6
      obtain ⟨i0,hi,F1,F5,G8⟩:=info_parts Aba
      have HI:=hZ9 hi
      clear hi
      go_wp2_with fail
      refine C9.mono ?_
      rintro e w1 ⟨v,rfl,E0,A8,E3⟩
      obtain ⟨a1,c1,rfl,D4⟩:∃a1 c1,v=.slice a1 xs.length c1/\True:=by
       obtain ⟨a1,c1,e,_⟩:=E0
       exact ⟨a1,c1,e,trivial⟩
      have C6:=C3.out.call A8
      have E6:=A8.size
      have B2:=D6.call A8
      have A1:=B6.call A8
      have D2:w1.cell? ⟨w0.heap.size,0,none⟩=some (.slice a2 k c2):=B2.cell 0
      go_wp2_with (at_builtin;refine UI 151 190 146 (by decide) Tryz.underlying146 HI.out F1 F5 G8 (by rfl) _ _ (by rfl) (w0.heap.size+1) _ ls (by rfl) (C6.call (Af w1 _)) w1.heap.size (by rfl) (.slice a1 xs.length c1) (by rfl) xs ?e1 (E0.call (Af w1 _) (Nat.le_refl _)) (E3.call (Af w1 _)) ?e3 ?e4 ?_)
      case e1=>simp [go_sem]
      case e3=>omega
      case e4=>simp;omega
      intro v' w4 A0 B9 _
      obtain ⟨a3,c3,rfl⟩:=A0.form
      have D3:(ls++[xs]).length=k+1:=by simp [E8]
      rw [D3] at A0
      simp only [D3]
      have B0:=(B2.alloc (.cells #[.slice a1 xs.length c1] 151)).below B9 (Nat.lt_succ_self _)
      have D5:=(A1.alloc (.cells #[.slice a1 xs.length c1] 151)).below B9 (Nat.lt_succ_of_lt C8)
      have E9:w4.cell? ⟨w0.heap.size,0,none⟩=some (.slice a2 k c2):=B0.cell 0
      have G0:w4.frozen? ⟨w0.heap.size,0,none⟩=false:=B0.thaw 0
      have H0:Hid (Below w0.heap.size w0 w4):=hZ9 (((hb.trans (A8.mono (Nat.le_of_lt F2))).alloc (by omega) _).trans (B9.mono (Nat.le_succ _)))
      have G2:Hid (Below w.heap.size w w4):=hZ9 (((A3.trans (A8.mono hsz)).alloc (by omega) _).trans (B9.mono (by omega)))
      have C4:=hZ9 A0
      clear A0 B9 B2 A1 D2
      go_wp2_with fail
      go_roundw
      case rel=>exact ⟨k+1,ls++[xs],a3,c3,by rw [HN.out];omega,by go_num,C4.out.setHdr B0 (Nat.lt_succ_self _) _,D3,E5.out,B0.put 0 _,D5.other (Nat.ne_of_lt C8) _,G2.out.setCell (Nat.le_of_lt C8) _,H0.out.setCell (Nat.le_refl _) _⟩
      case measure=>simp [intOf];omega
    · have h2:=D0 he
      rw [Prod.mk.injEq] at h2
      obtain ⟨rfl,rfl⟩:=h2
      have F3:=hZ9 (B7.out he)
      clear A9 B7 D0 he
      go_wp2_with fail
      refine C9.mono ?_
      rintro e w1 ⟨v,rfl,E0,A8,E3⟩
      have A1:=B6.call A8
      have F7:w1.cell? ⟨w.heap.size,0,none⟩=some (.slice none 0 0):=A1.cell 0
      have H1:w1.frozen? ⟨w.heap.size,0,none⟩=false:=A1.thaw 0
      go_wp2_with fail
      (try simp only [Exit.inBlock,Exit.then])
      refine bodyPost_ret (v:=.tuple #[.agg #[.slice none 0 0],.int .i64 2]) ?_ rfl (ET.none F3.out ((A3.trans (A8.mono hsz)).setCell (Nat.le_refl _) _))
      rw [results_cell_tmp rfl]
      have D4:(w1.setCell ⟨w.heap.size,0,none⟩ (.slice none 0 0)).cell? ⟨w.heap.size,0,none⟩=some (.slice none 0 0):=(A1.put 0 _).cell 0
      go_simp
  · have G5:k=n:=by omega
    subst G5
    have C2:ps.take k=ps:=List.take_of_length_le (by rw [HN.out];omega)
    rw [C2] at hq
    have HS:=hZ9 (B1.out ls hq)
    have G3:=hZ9 (C3.out.setHdr B6 (Nat.lt_succ_of_lt C8) (.slice a2 k c2)).avss
    clear C2 hq
    go_wp2_with fail
    (try simp only [Exit.inBlock,Exit.then])
    refine bodyPost_ret (v:=.tuple #[.agg #[.slice a2 k c2],.int .i64 0]) ?_ rfl ⟨_,by rw [HS.out],by rw [HS.out];exact G3.out,A3.setCell (Nat.le_refl _) _⟩
    rw [results_cell_tmp rfl]
    have D4:(wr.setCell ⟨w.heap.size,0,none⟩ (.slice a2 k c2)).cell? ⟨w.heap.size,0,none⟩=some (.slice a2 k c2):=(B6.put 0 _).cell 0
    go_simp
end
section
open Go.RowKit
attribute [local go_sem ↓] Go.wp_at_zero Go.wp_at_succ
def Aeh (xs:List RdS.Pr) (w1:World) (s i:Value) (wr:World):Prop:=∃k:Nat,k<=xs.length/\i=.int .i64 k/\s=.string ⟨(RdS.AQ xs k).toArray⟩/\Below w1.heap.size w1 wr
theorem Yy (v:Value) (xs:List RdS.Pr) (w:World) (h:AK w v xs) (hf:Es xs) (hE:Env w):Calls Tryz.prog 78 #[v] w (Et xs w):=by
 have B0:=Ie v xs w h hf hE
 unfold Ji at B0
 cases A2:RdS.formedS xs with
 | false=>
  rw [A2] at B0
  have B8:=hZ9 A2
  clear h hf A2
  go_enter Tryz.func78,Tryz.ntmps78
  go_wp2_with fail
  refine B0.mono ?_;rintro e w1 ⟨rfl,A5⟩
  go_wp2_with fail
  go_ret2
  exact Et.bad B8.out A5
 | true=>
  rw [A2] at B0
  have B8:=hZ9 A2
  have C3:=hZ9 (RdS.Ej A2)
  have C9:=hZ9 (RdS.KO A2)
  have C7:Hid (RdS.printS xs=(RdS.AQ xs xs.length,0)):=hZ9 (by unfold RdS.printS;rw [if_pos A2])
  clear A2 hf
  obtain ⟨a,c,rfl,hc,A9⟩:=h
  rcases A9 with rfl | ⟨g,o,rfl,hg,hcell⟩
  · have:=B8.out;cases this
  have HC:=hZ9 hcell
  generalize hn:xs.length=n at*
  have HN:=hZ9 hn
  have D6:n<=3:=C3.out.1
  clear hn hcell
  go_enter Tryz.func78,Tryz.ntmps78
  go_wp2_with fail
  refine B0.mono ?_;rintro e w1 ⟨rfl,A5⟩
  have C1:g<w1.heap.size:=Nat.lt_of_lt_of_le hg A5.size
  go_wp2_with fail
  go_loopw [4,11] (fun s i wr=>Aeh xs w1 s i wr) (fun _ i _=>n - (intOf i).toNat)
  case atStart=>exact ⟨0,Nat.zero_le _,rfl,rfl,Below.refl _ _⟩
  case round=>
   obtain ⟨k,hk,rfl,rfl,hb⟩:=hrel
   rw [HN.out] at hk
   have hsz:=hb.size
   by_cases C8:k<n
   · have A3:k<xs.length:=by rw [HN.out];exact C8
     obtain ⟨c0,c1⟩:=HC.out k _ (List.getElem?_eq_getElem A3)
     have C5:=hZ9 (RdS.Hh xs k A3)
     have D2:=C3.out.2 _ (List.getElem_mem A3)
     have D5:=C9.out k hk
     generalize xs[k]=p at*
     obtain ⟨t,u⟩:=p
     simp only at c0 c1 D2
     have C2:Hid (RdS.pairT (t,u)=t++[61]++RdS.Ec u):=hZ9 rfl
     have C6:=RdS.UB u
     have C4:=fun w=>Yv u (by omega) w
     replace c0:wr.cell? ⟨g,o+k*2,none⟩=some (Ac t):=(hb.cell (p:=⟨g,o+k*2,none⟩) C1).trans ((A5.cell (p:=⟨g,o+k*2,none⟩) hg).trans c0)
     replace c1:wr.cell? ⟨g,o+k*2+1,none⟩=some (Ac u):=(hb.cell (p:=⟨g,o+k*2+1,none⟩) C1).trans ((A5.cell (p:=⟨g,o+k*2+1,none⟩) hg).trans c1)
     unfold Ac at c0 c1
     have B3:g<wr.heap.size:=Nat.lt_of_lt_of_le C1 hsz
     clear A3
     by_cases B2:k=0
     · have B5:Hid (RdS.AQ xs (k+1)=RdS.AQ xs k++t++[61]++RdS.Ec u):=hZ9 (by rw [C5.out,if_pos B2,C2.out];simp)
       have D3:decide ((0:Int)<(k:Int))=false:=decide_eq_false (by omega)
       have B9:decide (0<k)=false:=decide_eq_false (by omega)
       clear B2
       generalize RdS.AQ xs k=acc at*
       generalize RdS.Ec u=eu at*
       have B6:=Ek acc t (by omega) (by omega)
       have A1:(acc++t).length<=4000:=by rw [List.length_append];omega
       obtain ⟨y1,A6⟩:∃y1,y1=acc++t:=⟨_,rfl⟩
       rw [<-A6] at B6 A1
       have B4:=Ek y1 [61] (by omega) (by decide)
       have A0:(y1++[61]).length<=5000:=by rw [List.length_append,List.length_singleton];omega
       obtain ⟨y2,A7⟩:∃y2,y2=y1++[61]:=⟨_,rfl⟩
       rw [<-A7] at B4 A0
       have B7:=Ek y2 eu (by omega) (by omega)
       obtain ⟨y3,A8⟩:∃y3,y3=y2++eu:=⟨_,rfl⟩
       rw [<-A8] at B7
       have HY:Hid (y3=acc++t++[61]++eu):=hZ9 (by rw [A8,A7,A6])
       clear A6 A7 A8 A1 A0
       go_wp2_with fail
       go_region_held3 (fun W=>W.cell? ⟨g,o+k*2,none⟩=some (.string ⟨t.toArray⟩)/\W.cell? ⟨g,o+k*2+1,none⟩=some (.string ⟨u.toArray⟩)) (first | exact ⟨c0,c1⟩ | exact ⟨(A4.cell (p:=⟨g,o+k*2,none⟩) B3).trans c0,(A4.cell (p:=⟨g,o+k*2+1,none⟩) B3).trans c1⟩)
        (first | (go_at_call 118;(with_reducible refine (C4 _).mono ?_);rintro e w2 ⟨rfl,A4⟩))
       all_goals go_wp2_with fail
       all_goals go_roundw
       all_goals first | exact ⟨k+1,by rw [HN.out];omega,by go_num,by rw [B5.out,HY.out],hb.trans ((Aa (Below.drew (Below.refl _ _)) A4).mono hsz)⟩ | (simp [intOf];omega)
     · have B5:Hid (RdS.AQ xs (k+1)=RdS.AQ xs k++[43]++t++[61]++RdS.Ec u):=hZ9 (by rw [C5.out,if_neg B2,C2.out];simp)
       have D3:(0:Int)<(k:Int):=by omega
       have B9:0<k:=by omega
       clear B2
       generalize RdS.AQ xs k=acc at*
       generalize RdS.Ec u=eu at*
       have D1:=Ek acc [43] (by omega) (by decide)
       have D0:(⟨acc.toArray⟩++⟨#[43]⟩:ByteArray)=⟨(acc++[43]).toArray⟩:=Lt acc [43]
       have B1:(acc++[43]).length<=3500:=by rw [List.length_append,List.length_singleton];omega
       obtain ⟨y0,C0⟩:∃y0,y0=acc++[43]:=⟨_,rfl⟩
       rw [<-C0] at D1 D0 B1
       have B6:=Ek y0 t (by omega) (by omega)
       have A1:(y0++t).length<=4000:=by rw [List.length_append];omega
       obtain ⟨y1,A6⟩:∃y1,y1=y0++t:=⟨_,rfl⟩
       rw [<-A6] at B6 A1
       have B4:=Ek y1 [61] (by omega) (by decide)
       have A0:(y1++[61]).length<=5000:=by rw [List.length_append,List.length_singleton];omega
       obtain ⟨y2,A7⟩:∃y2,y2=y1++[61]:=⟨_,rfl⟩
       rw [<-A7] at B4 A0
       have B7:=Ek y2 eu (by omega) (by omega)
       obtain ⟨y3,A8⟩:∃y3,y3=y2++eu:=⟨_,rfl⟩
       rw [<-A8] at B7
       have HY:Hid (y3=acc++[43]++t++[61]++eu):=hZ9 (by rw [A8,A7,A6,C0])
       clear C0 A6 A7 A8 B1 A1 A0
       go_wp2_with fail
       go_region_held3 (fun W=>W.cell? ⟨g,o+k*2,none⟩=some (.string ⟨t.toArray⟩)/\W.cell? ⟨g,o+k*2+1,none⟩=some (.string ⟨u.toArray⟩)) (first | exact ⟨c0,c1⟩ | exact ⟨(A4.cell (p:=⟨g,o+k*2,none⟩) B3).trans c0,(A4.cell (p:=⟨g,o+k*2+1,none⟩) B3).trans c1⟩)
        (first | (go_at_call 118;(with_reducible refine (C4 _).mono ?_);rintro e w2 ⟨rfl,A4⟩))
       all_goals go_wp2_with fail
       all_goals go_roundw
       all_goals first | exact ⟨k+1,by rw [HN.out];omega,by go_num,by rw [B5.out,HY.out],hb.trans ((Aa (Below.drew (Below.refl _ _)) A4).mono hsz)⟩ | (simp [intOf];omega)
   · have D4:k=n:=by omega
     subst D4
     generalize RdS.AQ xs k=tx at*
     go_wp2_with fail
     go_ret2
     exact ⟨by rw [C7.out];rfl,A5.trans (hb.mono A5.size)⟩
end
end Go.Proofs.YtgngjfjaelgaeaaGreatDoor
