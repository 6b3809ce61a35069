/- The walks of Normal and NormalPart of a part. Conditions: as stated. -/
import Derived.Lib.LazyBuf
import Derived.Test.YtgngjfjaelgaeaaGreatDoorKRdl
set_option maxRecDepth 100000
set_option maxHeartbeats 4000000
namespace Go.Proofs.YtgngjfjaelgaeaaGreatDoor
section
open Go.RowKit
attribute [local go_sem ↓] Go.wp_at_zero Go.wp_at_succ
theorem AaU (T:TypeId) (w:World):AW T (w.alloc (.cells #[] T)) w.heap.size (.slice (some ⟨w.heap.size,0,none⟩) 0 0) []:=
 ⟨rfl,.inr ⟨w.heap.size,0,#[],rfl,Nat.le_refl _,by show (w.heap.push _)[w.heap.size]?=_;rw [Array.getElem?_push_size],Nat.le_refl _,by unfold maxLen;omega,rfl,rfl⟩⟩
theorem Aef (v:Value) (xs:List RdS.Pr) (w:World) (h:AK w v xs) (h0:xs≠[]) (hl:xs.length<=1000):Calls Tryz.prog 142 #[v] w fun e w'=>∃u,e=.returned u/\AW 190 w' w.heap.size u xs/\Below w.heap.size w w':=by
 obtain ⟨a,c,rfl,hc,A1⟩:=h
 rcases A1 with rfl | ⟨g,o,rfl,hg,hcell⟩
 · exact absurd rfl h0
 have A4:∀(j:Nat) (u:Value),(Cc xs)[j]?=some u->(w.alloc (.cells #[] 190)).cell? ((⟨g,o,none⟩:Addr).add j)=some u:=fun j u hj=>by
  have A2:(⟨g,o,none⟩:Addr).add j=⟨g,o+j,none⟩:=by unfold Addr.add;split <;> simp_all
  rw [A2]
  have A7:=(List.getElem?_eq_some_iff.1 hj).1
  rw [JX] at A7
  have A3:j / 2<xs.length:=by omega
  obtain ⟨c0,c1⟩:=hcell (j / 2) _ (List.getElem?_eq_getElem A3)
  obtain ⟨a0,a1⟩:=Ir xs (j / 2) xs[j / 2] (List.getElem?_eq_getElem A3)
  have hb:=Af w (.cells #[] 190)
  rcases Nat.mod_two_eq_zero_or_one j with h2 | h2
  · rw [show j / 2*2=j from by omega] at c0 a0
    rw [a0] at hj;cases hj
    exact Ab c0 hb
  · rw [show o+j / 2*2+1=o+j from by omega] at c1
    rw [show j / 2*2+1=j from by omega] at a1
    rw [a1] at hj;cases hj
    exact Ab c1 hb
 have A5:=hZ9 A4
 obtain ⟨i0,hi,A8,A6,B0⟩:=info_parts Xl
 have HI:=hZ9 hi
 clear hi A4 hcell
 generalize hn:xs.length=n at*
 have HN:=hZ9 hn
 clear hn
 have B2:=fun w=>Lib.run_eql_slice_nil (P:=Tryz.prog) w 151 190 (some ⟨g,o,none⟩) n c 0 0 Tryz.underlying151
 go_enter Tryz.func142,Tryz.ntmps142
 go_wp2_with (at_builtin;refine Ht 190 151 Tryz.underlying151 HI.out A8 A6 B0 (by rfl) (by rfl) _ _ (by rfl) w.heap.size _ [] (by rfl) (AaU _ w) ⟨g,o,none⟩ n _ (by rfl) xs HN.out A5.out (by simp;omega) (by simp) ?_)
 intro v' w2 A0 A9 B1
 go_wp2_with fail
 go_ret
 exact ⟨_,rfl,A0,(Af w _).trans A9⟩
def Eu (xs:List RdS.Pr) (w:World) (e:Ending) (w':World):Prop:=∃v,e=.returned (.tuple #[v,.int .i64 (RdS.normP xs).2])/\AK w' v (RdS.normP xs).1/\Below w.heap.size w w'
theorem Eu.bad {xs:List RdS.Pr} {w w':World} (h:RdS.formedS xs=false) (hb:Below w.heap.size w w'):Eu xs w (.returned (.tuple #[.slice Option.none 0 0,.int .i64 1])) w':=by
 unfold Eu RdS.normP;rw [h];exact ⟨_,rfl,AK.empty w',hb⟩
def Ew (xs:List RdS.Pr) (k:Nat):List RdS.Pr:=RdS.AH (xs.take k)++xs.drop k
theorem AaV (xs:List RdS.Pr) (k:Nat):(Ew xs k).length=xs.length:=by
 unfold Ew;rw [List.length_append,RdS.ES,List.length_take,List.length_drop];omega
theorem AcT {xs:List RdS.Pr} {k:Nat} (h:k<xs.length):(Ew xs k)[k]?=some xs[k]:=by
 unfold Ew
 have hl:(RdS.AH (xs.take k)).length=k:=by rw [RdS.ES,List.length_take];omega
 rw [List.getElem?_append_right (by omega),hl,Nat.sub_self,List.getElem?_drop,Nat.add_zero,List.getElem?_eq_getElem h]
theorem Yw {xs:List RdS.Pr} {k:Nat} (h:k<xs.length):Ew xs (k+1)=(Ew xs k).set k (xs[k].1,(RuS.normal xs[k].1 xs[k].2).1):=by
 have hl:(RdS.AH (xs.take k)).length=k:=by rw [RdS.ES,List.length_take];omega
 unfold Ew
 rw [List.set_append_right _ _ (by omega),hl,Nat.sub_self,List.drop_eq_getElem_cons h,List.set_cons_zero,List.take_succ_eq_append_getElem h]
 unfold RdS.AH
 rw [List.map_append]
 simp
theorem AcU (xs:List RdS.Pr):∀(k:Nat) (p:RdS.Pr) (y:List UInt8),xs[k]?=some p->Cc (xs.set k (p.1,y))=(Cc xs).set (k*2+1) (Ac y):=by
 induction xs with
 | nil=>intro k p y h;simp at h
 | cons q xs ih=>
  intro k p y h
  cases k with
  | zero=>have:=Option.some.inj h;subst this;rfl
  | succ k=>
   have h':xs[k]?=some p:=by simpa using h
   show Ac q.1 :: Ac q.2 :: Cc (xs.set k (p.1,y))=_
   rw [ih k p y h',show (k+1)*2+1=k*2+1+1+1 from by omega]
   rfl
theorem AW.stored {T:TypeId} {w:World} {B g n cap:Nat} {xs:List RdS.Pr} (h:AW T w B (.slice (some ⟨g,0,none⟩) n cap) xs) (hn:n=xs.length) {k:Nat} {p:RdS.Pr} (hk:xs[k]?=some p) (y:List UInt8):
  AW T (w.setCell ⟨g,k*2+1,none⟩ (Ac y)) B (.slice (some ⟨g,0,none⟩) n cap) (xs.set k (p.1,y)):=by
 subst hn
 have h1:=(World.ownsRow.stored h (k*2+1) (Ac y)).1
 unfold AW
 rw [List.length_set,AcU xs k p y hk]
 exact h1
def AeT (xs:List RdS.Pr) (w1:World) (u i:Value) (wr:World):Prop:=∃k:Nat,k<=xs.length/\i=.int .i64 k/\AW 190 wr w1.heap.size u (Ew xs k)/\Below w1.heap.size w1 wr
theorem Yx (v:Value) (xs:List RdS.Pr) (w:World) (h:AK w v xs) (hf:Es xs) (hE:Env w):Calls Tryz.prog 107 #[v] w (Eu xs w):=by
 have A5:=KP v xs w h hf hE
 unfold Ji at A5
 cases A3:RdS.formedS xs with
 | false=>
  rw [A3] at A5
  have C8:=hZ9 A3
  clear h hf A3
  go_enter Tryz.func107,Tryz.ntmps107
  go_wp2_with fail
  refine A5.mono ?_;rintro e w1 ⟨rfl,A6⟩
  go_wp2_with fail
  go_ret2
  exact Eu.bad C8.out A6
 | true=>
  rw [A3] at A5
  have A9:=RdS.Gz A3
  have C7:xs≠[]:=by intro h0;rw [h0] at A9;simp at A9
  have B9:=hZ9 (RdS.Ej A3)
  have B8:Hid (RdS.normP xs=(RdS.AH xs,0)):=hZ9 (by unfold RdS.normP;rw [if_pos A3])
  have B6:0<xs.length:=A9.1
  have C2:=fun w h=>Aef v xs w h C7 (by have:=A9.2.1;omega)
  clear A3 hf A9
  go_enter Tryz.func107,Tryz.ntmps107
  go_wp2_with fail
  refine A5.mono ?_;rintro e w1 ⟨rfl,A6⟩
  have C0:=hE.below A6
  go_wp2_with fail
  refine (C2 _ (h.call A6 (Nat.le_refl _))).mono ?_;rintro e w2 ⟨u,rfl,A0,B7⟩
  have D7:=C0.below B7
  obtain ⟨g2,cap,rfl,C4,D4⟩:=World.ownsRow.form A0 B6
  have h00:Ew xs 0=xs:=by unfold Ew;simp [RdS.AH]
  have A4:AW 190 w2 w1.heap.size (.slice (some ⟨g2,0,none⟩) xs.length cap) (Ew xs 0):=by rw [h00];exact A0
  have A7:=hZ9 A4
  generalize hn:xs.length=n at*
  have HN:=hZ9 hn
  have D6:n<=3:=B9.out.1
  clear hn A0 A4 h00 A5 C2 h
  go_wp2_with fail
  go_loopw [14] (fun i wr=>AeT xs w1 (.slice (some ⟨g2,0,none⟩) n cap) i wr) (fun i _=>n - (intOf i).toNat)
  case atStart=>exact ⟨0,Nat.zero_le _,rfl,A7.out,B7⟩
  case round=>
   obtain ⟨k,hk,rfl,A0,hb⟩:=hrel
   rw [HN.out] at hk
   have hsz:=hb.size
   by_cases C3:k<n
   · have A2:k<xs.length:=by rw [HN.out];exact C3
     have B4:=AcT A2
     have B5:=hZ9 (Yw A2)
     have D0:=B9.out.2 _ (List.getElem_mem A2)
     obtain ⟨a0,a1⟩:=Ir (Ew xs k) k xs[k] B4
     have c0:=World.ownsRow.cells A0 (g:=g2) rfl _ _ a0
     have c1:=World.ownsRow.cells A0 (g:=g2) rfl _ _ a1
     have B2:∀j,(⟨g2,0,none⟩:Addr).add j=⟨g2,j,none⟩:=fun j=>by unfold Addr.add;split <;> simp_all
     rw [B2] at c0 c1
     have A1:=AaV xs k
     rw [HN.out] at A1
     have C5:=hZ9 (fun (w':World) (B3:Below wr.heap.size wr w') (y:List UInt8)=>AW.stored (AW.call A0 B3) A1.symm B4 y)
     have C1:=fun (w':World) (B3:Below wr.heap.size wr w')=>World.ownsRow.frozenAt (n:=(Ew xs k).length) (cap:=cap) (by have h5:=AW.call A0 B3;rw [A1];unfold AW at h5;rw [A1] at h5;exact h5) (k*2+1)
     have D1:=hZ9 C1
     have D5:g2<wr.heap.size:=(World.ownsRow.lt A0 g2 rfl).2
     generalize xs[k]=p at*
     obtain ⟨t,u⟩:=p
     simp only at c0 c1 D0
     unfold Ac at c0 c1
     have B1:=fun w hE=>EX ⟨t.toArray⟩ ⟨u.toArray⟩ (by show t.toArray.size<=_;rw [List.size_toArray];omega) (by show u.toArray.size<=_;rw [List.size_toArray];omega) w hE
     unfold Ba at B1
     have du:∀l:List UInt8,(⟨l.toArray⟩:ByteArray).data.toList=l:=fun _=>rfl
     rw [du,du] at B1
     simp only at B5
     generalize RuS.normal t u=nr at*
     obtain ⟨x,e0⟩:=nr
     simp only at B1 B5
     have C6:Below wr.heap.size wr (wr.alloc (.cells #[.string ⟨t.toArray⟩,.string ⟨u.toArray⟩] 190)):=Af wr _
     have D3:Env (wr.alloc (.cells #[.string ⟨t.toArray⟩,.string ⟨u.toArray⟩] 190)):=(C0.below hb).alloc _
     clear B4 a0 a1 A2 A0 du C1
     go_wp2_with fail
     refine (B1 _ D3).mono ?_;rintro e w3 ⟨rfl,C9⟩
     have B0:Below wr.heap.size wr w3:=Aa C6 C9
     have d1:w3.cell? ⟨g2,k*2+1,none⟩=some (.string ⟨u.toArray⟩):=Ab c1 B0
     have f1:=D1.out w3 B0
     go_wp2_with fail
     go_roundw
     case rel=>exact ⟨k+1,by rw [HN.out];omega,by go_num,by rw [B5.out];exact C5.out w3 B0 x,(hb.trans (B0.mono hsz)).setCell (p:=⟨g2,k*2+1,none⟩) C4 _⟩
     case measure=>simp [intOf];omega
   · have D2:k=n:=by omega
     subst D2
     have A8:Ew xs k=RdS.AH xs:=by unfold Ew;rw [<-HN.out,List.take_length,List.drop_length,List.append_nil]
     rw [A8] at A0
     clear A8
     go_wp2_with fail
     go_ret2
     exact ⟨_,by rw [B8.out];rfl,by rw [B8.out];exact A0.avas,A6.trans (hb.mono A6.size)⟩
end
section
open Go.RowKit
attribute [local go_sem ↓] Go.wp_at_zero Go.wp_at_succ
def Aeg (xs:List RdS.Pr) (w1:World) (out i:Value) (wr:World):Prop:=∃k:Nat,k<=xs.length/\i=.int .i64 k/\AW 173 wr w1.heap.size out (RdS.AH (xs.take k))/\Below w1.heap.size w1 wr
theorem SC (v:Value) (xs:List RdS.Pr) (w:World) (h:AK w v xs) (hf:Es xs) (hE:Env w):Calls Tryz.prog 77 #[v] w (Eu xs w):=by
 have A7:=Ie v xs w h hf hE
 unfold Ji at A7
 cases A2:RdS.formedS xs with
 | false=>
  rw [A2] at A7
  have B5:=hZ9 A2
  clear h hf A2
  go_enter Tryz.func77,Tryz.ntmps77
  go_wp2_with fail
  refine A7.mono ?_;rintro e w1 ⟨rfl,A3⟩
  go_wp2_with fail
  go_ret2
  exact Eu.bad B5.out A3
 | true=>
  rw [A2] at A7
  have B5:=hZ9 A2
  have C0:=hZ9 (RdS.Ej A2)
  have B9:Hid (RdS.normP xs=(RdS.AH xs,0)):=hZ9 (by unfold RdS.normP;rw [if_pos A2])
  clear A2 hf
  obtain ⟨a,c,rfl,hc,A6⟩:=h
  rcases A6 with rfl | ⟨g,o,rfl,hg,hcell⟩
  · have:=B5.out;cases this
  have HC:=hZ9 hcell
  obtain ⟨i0,hi,C3,C5,C9⟩:=info_parts UE
  have HI:=hZ9 hi
  generalize hn:xs.length=n at*
  have HN:=hZ9 hn
  have D1:n<=3:=C0.out.1
  clear hn hcell hi
  go_enter Tryz.func77,Tryz.ntmps77
  go_wp2_with fail
  refine A7.mono ?_;rintro e w1 ⟨rfl,A3⟩
  have C6:=hE.below A3
  have B8:g<w1.heap.size:=Nat.lt_of_lt_of_le hg A3.size
  go_wp2_with fail
  go_loopw [4,13] (fun out i wr=>Aeg xs w1 out i wr) (fun _ i _=>n - (intOf i).toNat)
  case atStart=>exact ⟨0,Nat.zero_le _,rfl,AW.empty _ _ _,Below.refl _ _⟩
  case round=>
   obtain ⟨k,hk,rfl,A0,hb⟩:=hrel
   rw [HN.out] at hk
   have hsz:=hb.size
   by_cases C4:k<n
   · have A1:k<xs.length:=by rw [HN.out];exact C4
     obtain ⟨c0,c1⟩:=HC.out k _ (List.getElem?_eq_getElem A1)
     have C7:=C0.out.2 _ (List.getElem_mem A1)
     have B2:Hid (RdS.AH (xs.take (k+1))=RdS.AH (xs.take k)++[(xs[k].1,(RuS.normal xs[k].1 xs[k].2).1)]):=hZ9 (by
      rw [List.take_succ_eq_append_getElem A1];unfold RdS.AH;rw [List.map_append];rfl)
     have D0:(RdS.AH (xs.take k)).length<=1000:=by rw [RdS.ES,List.length_take];omega
     generalize xs[k]=p at*
     obtain ⟨t,u⟩:=p
     simp only at c0 c1 C7 B2
     replace c0:wr.cell? ⟨g,o+k*2,none⟩=some (Ac t):=(hb.cell (p:=⟨g,o+k*2,none⟩) B8).trans ((A3.cell (p:=⟨g,o+k*2,none⟩) hg).trans c0)
     replace c1:wr.cell? ⟨g,o+k*2+1,none⟩=some (Ac u):=(hb.cell (p:=⟨g,o+k*2+1,none⟩) B8).trans ((A3.cell (p:=⟨g,o+k*2+1,none⟩) hg).trans c1)
     unfold Ac at c0 c1
     have B0:=fun w hE=>Nu ⟨t.toArray⟩ ⟨u.toArray⟩ (by show t.toArray.size<=_;rw [List.size_toArray];omega) (by show u.toArray.size<=_;rw [List.size_toArray];omega) w hE
     unfold Ba at B0
     have du:∀l:List UInt8,(⟨l.toArray⟩:ByteArray).data.toList=l:=fun _=>rfl
     rw [du,du] at B0
     generalize RuS.normal t u=nr at*
     obtain ⟨x,e0⟩:=nr
     simp only at B0 B2
     have A8:=B0 wr.drew (C6.below hb).drew
     have B4:g<wr.heap.size:=Nat.lt_of_lt_of_le B8 hsz
     have B6:=hZ9 A0
     generalize RdS.AH (xs.take k)=ac at*
     clear A1 du B0 A0
     go_wp2_with fail
     go_region_held3 (fun W=>W.cell? ⟨g,o+k*2,none⟩=some (.string ⟨t.toArray⟩)/\W.cell? ⟨g,o+k*2+1,none⟩=some (.string ⟨u.toArray⟩)) (first | exact ⟨c0,c1⟩ | exact ⟨(B3.cell (p:=⟨g,o+k*2,none⟩) B4).trans c0,(B3.cell (p:=⟨g,o+k*2+1,none⟩) B4).trans c1⟩)
      (first | (go_at_call 102;(with_reducible refine A8.mono ?_);rintro e w2 ⟨rfl,B3⟩))
     have A4:Below wr.heap.size wr w2:=Aa (Below.drew (Below.refl _ _)) B3
     have d0:w2.cell? ⟨g,o+k*2,none⟩=some (.string ⟨t.toArray⟩):=(A4.cell (p:=⟨g,o+k*2,none⟩) B4).trans c0
     have A5:=AW.call B6.out A4
     have C1:Below w1.heap.size w1 w2:=hb.trans (A4.mono hsz)
     have B7:=C1.size
     clear c0 c1 A8
     go_wp2_with (at_builtin;refine Ix 173 124 Tryz.underlying124 HI.out C3 C5 C9 (by rfl) (by rfl) _ _ (by rfl) w1.heap.size _ ac (by rfl) (A5.alloc _) w2.heap.size (by rfl) (t,x) ?e1 ?e2 ?e3 ?e4 ?_)
     case e1=>simp [go_sem,Ac]
     case e2=>simp [go_sem,Ac]
     case e3=>omega
     case e4=>simp;omega
     intro v' w4 B1 C2
     go_wp2_with fail
     go_roundw
     case rel=>exact ⟨k+1,by rw [HN.out];omega,by go_num,by rw [B2.out];exact B1,(C1.alloc B7 _).trans C2⟩
     case measure=>simp [intOf];omega
   · have C8:k=n:=by omega
     subst C8
     have A9:xs.take k=xs:=List.take_of_length_le (by rw [HN.out];omega)
     rw [A9] at A0
     clear A9
     go_wp2_with fail
     go_ret2
     exact ⟨_,by rw [B9.out];rfl,by rw [B9.out];exact A0.avas,A3.trans (hb.mono A3.size)⟩
end
end Go.Proofs.YtgngjfjaelgaeaaGreatDoor
