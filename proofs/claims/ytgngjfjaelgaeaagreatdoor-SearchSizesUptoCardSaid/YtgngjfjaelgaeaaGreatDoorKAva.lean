/- The walk of the program's 'Split': a text cut at the bytes that have no stroke ahead. Conditions: as stated. -/
import Derived.Deep.AppendLies
import Derived.Test.YtgngjfjaelgaeaaGreatDoorKMem
import Derived.Test.YtgngjfjaelgaeaaGreatDoorKRdS
set_option maxRecDepth 100000
namespace Go.Proofs.YtgngjfjaelgaeaaGreatDoor
section
open Go.RowKit
theorem Gn (l:List UInt8) (a b:Nat):(⟨l.toArray⟩:ByteArray).extract a b=⟨((l.take b).drop a).toArray⟩:=by
 apply ByteArray.ext
 rw [ByteArray.data_extract]
 apply Array.ext'
 simp [List.extract,List.drop_take]
theorem Lt (l r:List UInt8):(⟨l.toArray⟩++⟨r.toArray⟩:ByteArray)=⟨(l++r).toArray⟩:=by
 apply ByteArray.ext
 rw [ByteArray.data_append]
 simp
theorem CV {c n:UInt8} {k:Int} (hn:(n.toNat:Int)=k) (h:(c.toNat:Int)=k):c=n:=UInt8.toNat_inj.1 (by omega)
theorem XH (cur l:List UInt8) (a b:Nat) (h1:cur.length<=2000000) (h2:l.length<=1000000) {y:List UInt8} (hy:(l.take b).drop a=y) (w:World):
  (Op.stringOp .add ⟨cur.toArray⟩ ((⟨l.toArray⟩:ByteArray).extract a b)).run Tryz.prog w=.ok (.string ⟨(cur++y).toArray⟩) w:=by
 rw [Gn,hy]
 have:y.length<=l.length:=by rw [<-hy,List.length_drop,List.length_take];omega
 rw [<-Lt]
 exact run_string_add_sum w _ _ (by show cur.toArray.size+y.toArray.size<=_;simp;omega)
def GI (sep:UInt8) (l:List UInt8) (w:World) (e:Ending) (w':World):Prop:=∃v,e=.returned v/\Ai w' v (RdS.Aj sep l)/\Below w.heap.size w w'
def QB (sep:UInt8) (l:List UInt8) (w0:World) (out i:Value) (wr:World):Prop:=
 ∃(k:Nat) (ys:List (List UInt8)) (cur:List UInt8),k<=l.length/\i=.int .i64 k/\Own wr w0.heap.size out (ys++[cur])/\ys.length<=k/\cur.length<=k/\
  RdS.Aj sep l=ys++RdS.glue cur (RdS.Aj sep (l.drop k))/\Below w0.heap.size w0 wr
theorem Own.last {w:World} {B:Nat} {v:Value} {ys:List (List UInt8)} {cur:List UInt8} (h:Own w B v (ys++[cur])):∃g c,v=.slice (some ⟨g,0,none⟩) (ys.length+1) c/\B<=g/\
  w.cell? ⟨g,ys.length,none⟩=some (Ac cur)/\w.frozen? ⟨g,ys.length,none⟩=false/\(∀z:List UInt8,Own (w.setCell ⟨g,ys.length,none⟩ (Ac z)) B v (ys++[z])):=by
 have hl:(ys++[cur]).length=ys.length+1:=by simp
 have h0:=h
 unfold Own at h0
 rw [hl] at h0
 obtain ⟨g,cap,rfl,hg,_⟩:=World.ownsRow.form h0 (Nat.succ_pos _)
 refine ⟨g,cap,rfl,hg,?_,World.ownsRow.frozenAt h0 _,fun z=>?_⟩
 · have:=World.ownsRow.cells h0 (g:=g) rfl ys.length (Ac cur) (by rw [List.map_append,List.getElem?_append_right (by simp)];simp)
   have A0:(⟨g,0,none⟩:Addr).add ys.length=⟨g,ys.length,none⟩:=by unfold Addr.add;split <;> simp_all
   rwa [A0] at this
 · have:=(World.ownsRow.stored h0 ys.length (Ac z)).1
   unfold Own
   rw [show (ys++[z]).length=ys.length+1 from by simp]
   rw [List.map_append,List.set_append_right _ _ (by simp)] at this
   rw [List.map_append]
   simpa using this
theorem QC (l:List UInt8) (sep:UInt8) (hl:l.length<=1000000) (h92:sep≠92) (w:World):Calls Tryz.prog 139 #[.string ⟨l.toArray⟩,.int .u8 (sep.toNat:Int)] w (GI sep l w):=by
 have C2:((sep.toNat:Int) !=92)=true:=by
  rw [bne_iff_ne];intro h;exact h92 (CV (n:=92) rfl h)
 have B7:=hZ9 h92
 clear h92
 go_enter Tryz.func139,Tryz.ntmps139
 go_wp2_with fail
 go_loopw [5,6] (fun out i wr=>QB sep l w out i wr) (fun _ i _=>l.length - (intOf i).toNat)
 case atStart=>
  refine ⟨0,[],[],Nat.zero_le _,rfl,?_,Nat.zero_le _,Nat.zero_le _,?_,Af w _⟩
  · exact ⟨rfl,.inr ⟨w.heap.size,1,#[.string ⟨#[]⟩],rfl,Nat.le_refl _,by show (w.heap.push _)[w.heap.size]?=_;rw [Array.getElem?_push_size],Nat.le_refl _,by unfold maxLen;omega,rfl,rfl⟩⟩
  · obtain ⟨p,ps,e⟩:=RdS.Cm sep l
    rw [List.drop_zero,e];rfl
 case round=>
  obtain ⟨k,ys,cur,hk,rfl,A0,C5,C6,A9,hb⟩:=hrel
  by_cases B4:k<l.length
  · have HD:=hZ9 (List.drop_eq_getElem_cons B4)
    generalize B5:l[k]=c at*
    have C3:∀h,(⟨l.toArray⟩:ByteArray)[k]'h=c:=fun _=>B5
    have HK:=hZ9 hk
    have B3:=hZ9 A9
    have B1:=hZ9 A0
    obtain ⟨g,cp,rfl,hg,hc,C4,A5⟩:=A0.last
    have B2:=hZ9 A5
    unfold Ac at hc
    clear B5 A9 A5 hk
    cases A8:(c==sep) with
    | true=>
     have HC:=hZ9 (beq_iff_eq.1 A8)
     have e1:((c.toNat:Int)==(sep.toNat:Int))=true:=by rw [beq_iff_eq.1 A8];exact beq_self_eq_true _
     clear A8
     go_wp2_with (at_builtin;refine GR (by rfl) _ _ (by rfl) w.heap.size (.slice (some ⟨g,0,none⟩) (ys.length+1) cp) (ys++[cur]) (by rfl) (B1.out.alloc _) wr.heap.size (by rfl) [] ?c1 ?c2 ?c3 ?_)
     case c1=>simp [go_sem,Ac]
     case c2=>simp;omega
     case c3=>have:=hb.size;simp;omega
     intro v' w2 A6 B8
     go_wp2_with fail
     go_roundw
     case rel=>
      refine ⟨k+1,ys++[cur],[],B4,by go_num,by rw [List.append_assoc];exact A6,by simp;omega,Nat.zero_le _,?_,(hb.alloc hb.size _).trans B8⟩
      rw [B3.out,HD.out,HC.out,RdS.KH,RdS.Hq,List.append_nil,List.append_assoc]
      obtain ⟨p,ps,e⟩:=RdS.Cm sep (l.drop (k+1))
      rw [e];rfl
     case measure=>simp [intOf];omega
    | false=>
     have HC:Hid (c≠sep):=hZ9 (by simpa using A8)
     have e1:((c.toNat:Int)==(sep.toNat:Int))=false:=beq_eq_false_iff_ne.2 (fun h=>HC.out (UInt8.toNat_inj.1 (by omega)))
     clear A8
     have A1:Hid (∀(k2:Nat) (y:List UInt8) (i:Value),k2<=l.length->k<=k2->y.length<=k2 - k->i=.int .i64 k2->RdS.Aj sep (l.drop k)=RdS.glue y (RdS.Aj sep (l.drop k2))->
       QB sep l w (.slice (some ⟨g,0,none⟩) (ys.length+1) cp) i (wr.drew.setCell ⟨g,ys.length,none⟩ (.string ⟨(cur++y).toArray⟩))):=hZ9 (fun k2 y i h1 h2 h3 hi h4=>
      ⟨k2,ys,cur++y,h1,hi,B2.out (cur++y),by omega,by rw [List.length_append];omega,by rw [B3.out,h4,RdS.Jg],hb.drew.setCell (p:=⟨g,ys.length,none⟩) hg _⟩)
     by_cases h92:c=92
     · have A3:=hZ9 h92
       have C0:((c.toNat:Int)==92)=true:=by rw [h92];rfl
       clear h92
       by_cases B6:k+1<l.length
       · have B0:min ((k:Int)+2) (l.length:Int)=(k:Int)+2:=by omega
         have hy:(l.take (k+2)).drop k=[92,l[k+1]]:=by
          rw [List.drop_take,HD.out,List.drop_eq_getElem_cons B6,A3.out,show k+2 - k=2 from by omega];rfl
         have A7:=XH cur l k (k+2) (by omega) (by omega) hy
         have HG:Hid (RdS.Aj sep (l.drop k)=RdS.glue [92,l[k+1]] (RdS.Aj sep (l.drop (k+2)))):=hZ9 (by
          rw [HD.out,A3.out,List.drop_eq_getElem_cons B6,RdS.Ic B7.out])
         clear hy
         generalize l[k+1]=d at*
         go_wp2_with fail
         go_region
         all_goals go_wp2_with fail
         all_goals go_roundw
         all_goals first | (simp [intOf];omega) | exact A1.out (k+2) [92,d] _ (by omega) (by omega) (by simp) (by go_num) HG.out
       · have B9:k+1=l.length:=by omega
         have B0:min ((k:Int)+2) (l.length:Int)=(l.length:Int):=by omega
         have A2:l.drop (k+1)=[]:=by rw [B9];exact List.drop_length
         have hy:(l.take l.length).drop k=[92]:=by rw [List.take_length,HD.out,A2,A3.out]
         have A7:=XH cur l k l.length (by omega) (by omega) hy
         have HG:Hid (RdS.Aj sep (l.drop k)=RdS.glue [92] (RdS.Aj sep (l.drop l.length))):=hZ9 (by
          rw [HD.out,A3.out,A2,RdS.JP B7.out,List.drop_length];simp [RdS.Aj,RdS.glue])
         clear hy A2
         go_wp2_with fail
         go_region
         all_goals go_wp2_with fail
         all_goals go_roundw
         all_goals first | (simp [intOf];omega) | exact A1.out l.length [92] _ (by omega) (by omega) (by simp;omega) (by go_num) HG.out
     · have A3:=hZ9 h92
       have C0:((c.toNat:Int)==92)=false:=beq_eq_false_iff_ne.2 (fun h=>h92 (CV (n:=92) rfl h))
       have A7:=XH cur l k (k+1) (by omega) (by omega) (show (l.take (k+1)).drop k=[c] by rw [List.drop_take,HD.out];simp)
       clear h92
       have HG:Hid (RdS.Aj sep (l.drop k)=RdS.glue [c] (RdS.Aj sep (l.drop (k+1)))):=hZ9 (by rw [HD.out,RdS.IJ HC.out A3.out])
       go_wp2_with fail
       go_region
       all_goals go_wp2_with fail
       all_goals go_roundw
       all_goals first | (simp [intOf];omega) | exact A1.out (k+1) [c] _ (by omega) (by omega) (by simp) (by go_num) HG.out
  · have C1:k=l.length:=by omega
    subst C1
    have hd:l.drop l.length=[]:=List.drop_length
    rw [hd] at A9
    have A4:RdS.Aj sep l=ys++[cur]:=by rw [A9];simp [RdS.Aj,RdS.glue]
    rw [<-A4] at A0
    clear A9 A4 hd
    go_wp2_with fail
    go_ret
    exact ⟨_,rfl,A0.strs,hb⟩
end
section
open Go.RowKit
def Td (sep:UInt8) (l:List UInt8) (w0:World) (out fr i:Value) (wr:World):Prop:=
 ∃(k f:Nat) (ys:List (List UInt8)),k<=l.length+1/\i=.int .i64 k/\fr=.int .i64 f/\f<=k/\f<=l.length/\Own wr w0.heap.size out ys/\ys.length<=k/\
  RdS.Aj sep l=ys++RdS.glue ((l.take k).drop f) (RdS.Aj sep (l.drop k))/\Below w0.heap.size w0 wr
theorem RP (l:List UInt8) (f k j:Nat) (h:f<=k) (hk:k<=l.length):(l.take (k+j)).drop f=(l.take k).drop f++(l.drop k).take j:=by
 rw [List.take_add,List.drop_append]
 have:f - (l.take k).length=0:=by rw [List.length_take];omega
 rw [this,List.drop_zero]
theorem Ou (l:List UInt8) (sep:UInt8) (hl:l.length<=1000000) (h92:sep≠92) (w:World):Calls Tryz.prog 115 #[.string ⟨l.toArray⟩,.int .u8 (sep.toNat:Int)] w (GI sep l w):=by
 have B3:=hZ9 h92
 clear h92
 go_enter Tryz.func115,Tryz.ntmps115
 go_wp2_with fail
 go_loopw [5,6,7] (fun out fr i wr=>Td sep l w out fr i wr) (fun _ _ i _=>l.length+1 - (intOf i).toNat)
 case atStart=>
  refine ⟨0,0,[],Nat.zero_le _,rfl,rfl,Nat.le_refl _,Nat.zero_le _,Own.empty _ _,Nat.zero_le _,?_,Below.refl _ _⟩
  obtain ⟨p,ps,e⟩:=RdS.Cm sep l
  simp [e,RdS.glue]
 case round=>
  obtain ⟨k,f,ys,hk,rfl,rfl,B7,B2,A1,B9,A6,hb⟩:=hrel
  by_cases B4:k<l.length
  · have HD:=hZ9 (List.drop_eq_getElem_cons B4)
    generalize B0:l[k]=c at*
    have B8:∀h,(⟨l.toArray⟩:ByteArray)[k]'h=c:=fun _=>B0
    have HK:=hZ9 hk
    have A3:=hZ9 A6
    have B1:=hZ9 (fun j=>RP l f k j B7 (by omega))
    clear B0 A6 hk
    by_cases h92:c=92
    · have A8:=hZ9 h92
      have B5:((c.toNat:Int)==92)=true:=by rw [h92];rfl
      clear h92
      go_wp2_with fail
      go_roundw
      case rel=>
       refine ⟨k+2,f,ys,by omega,by go_num,rfl,by omega,B2,A1,by omega,?_,hb⟩
       rw [A3.out,B1.out 2,HD.out,A8.out]
       by_cases B6:k+1<l.length
       · rw [List.drop_eq_getElem_cons B6,RdS.Ic B3.out,RdS.Jg];rfl
       · have A9:l.drop (k+1)=[]:=List.drop_of_length_le (by omega)
         have A5:l.drop (k+2)=[]:=List.drop_of_length_le (by omega)
         rw [A9,A5,RdS.JP B3.out];simp [RdS.Aj,RdS.glue]
      case measure=>simp [intOf];omega
    · have A8:=hZ9 h92
      have B5:((c.toNat:Int)==92)=false:=beq_eq_false_iff_ne.2 (fun h=>h92 (CV (n:=92) rfl h))
      clear h92
      cases A4:(c==sep) with
      | true=>
       have HC:=hZ9 (beq_iff_eq.1 A4)
       have e1:((c.toNat:Int)==(sep.toNat:Int))=true:=by rw [beq_iff_eq.1 A4];exact beq_self_eq_true _
       clear A4
       go_wp2_with (at_builtin;refine GR (by rfl) _ _ (by rfl) w.heap.size _ ys (by rfl) (A1.alloc _) wr.heap.size (by rfl) ((l.take k).drop f) ?c1 ?c2 ?c3 ?_)
       case c1=>simp [go_sem,Ac,Gn]
       case c2=>omega
       case c3=>have:=hb.size;simp;omega
       intro v' w2 A0 A7
       go_wp2_with fail
       go_roundw
       case rel=>
        refine ⟨k+1,k+1,ys++[(l.take k).drop f],by omega,by go_num,by go_num,Nat.le_refl _,by omega,A0,by simp;omega,?_,(hb.alloc hb.size _).trans A7⟩
        have e0:(l.take (k+1)).drop (k+1)=[]:=List.drop_of_length_le (by rw [List.length_take];omega)
        obtain ⟨p,ps,e⟩:=RdS.Cm sep (l.drop (k+1))
        rw [A3.out,HD.out,HC.out,RdS.KH,RdS.Hq,List.append_nil,List.append_assoc,e0,e];rfl
       case measure=>simp [intOf];omega
      | false=>
       have HC:Hid (c≠sep):=hZ9 (by simpa using A4)
       have e1:((c.toNat:Int)==(sep.toNat:Int))=false:=beq_eq_false_iff_ne.2 (fun h=>HC.out (UInt8.toNat_inj.1 (by omega)))
       clear A4
       go_wp2_with fail
       go_roundw
       case rel=>
        refine ⟨k+1,f,ys,by omega,by go_num,rfl,by omega,B2,A1,by omega,?_,hb⟩
        rw [A3.out,B1.out 1,HD.out,RdS.IJ HC.out A8.out,RdS.Jg];rfl
       case measure=>simp [intOf];omega
  · have hd:l.drop k=[]:=List.drop_of_length_le (by omega)
    have ht:l.take k=l:=List.take_of_length_le (by omega)
    have A2:RdS.Aj sep l=ys++[l.drop f]:=by rw [A6,hd,ht];simp [RdS.Aj,RdS.glue]
    have A3:=hZ9 A2
    clear A6 A2 hd ht
    go_wp2_with (at_builtin;refine GR (by rfl) _ _ (by rfl) w.heap.size _ ys (by rfl) (A1.alloc _) wr.heap.size (by rfl) (l.drop f) ?d1 ?d2 ?d3 ?_)
    case d1=>simp [go_sem,Ac,Gn]
    case d2=>omega
    case d3=>have:=hb.size;simp;omega
    intro v' w2 A0 A7
    go_wp2_with fail
    go_ret
    exact ⟨_,rfl,by rw [A3.out];exact A0.strs,(hb.alloc hb.size _).trans A7⟩
end
section
open Go.RowKit
def Bld (B b:Nat) (l:List UInt8) (w:World):Prop:=Lib.IsBuilder 159 5 B b (l.map Ag) w
def Fz (B b:Nat) (l:List UInt8) (w:World):Prop:=Lib.BuilderAt 159 5 B b (.pointer (some ⟨b,0,none⟩)) (l.map Ag) w
theorem Fz.bld {B b:Nat} {l:List UInt8} {w:World} (h:Fz B b l w):Bld B b l w:=.inr h
theorem Bld.fresh (w:World):Bld w.heap.size w.heap.size [] (w.alloc (.cells #[.pointer none,.slice none 0 0] 159)):=Lib.fresh_isBuilder _ _ w
theorem Bld.lt {B b:Nat} {l:List UInt8} {w:World} (h:Bld B b l w):b<w.heap.size/\B<=b:=by
 rcases h with h | h
 · exact ⟨h.lt,h.1⟩
 · exact ⟨h.lt,h.1⟩
theorem Ov {B b:Nat} {p:Value} {bs:List Value} {w w':World} (h:Lib.BuilderAt 159 5 B b p bs w) (hb:Below w.heap.size w w'):Lib.BuilderAt 159 5 B b p bs w':=by
 have A3:=h.lt
 obtain ⟨hB,v,A2,A0,A1⟩:=h
 exact ⟨hB,v,by rw [hb.block b A3];exact A2,World.ownsRow.kept A0 (AX hb) (by cases v.ownBlock <;> simp),A1⟩
theorem Bld.call {B b:Nat} {l:List UInt8} {w w':World} (h:Bld B b l w) (hb:Below w.heap.size w w'):Bld B b l w':=by
 rcases h with h | h
 · exact .inl (Ov h hb)
 · exact .inr (Ov h hb)
theorem Bld.alloc {B b:Nat} {l:List UInt8} {w:World} (h:Bld B b l w) (o:Obj):Bld B b l (w.alloc o):=h.call (Af w o)
theorem Bld.drew {B b:Nat} {l:List UInt8} {w:World} (h:Bld B b l w):Bld B b l w.drew:=h.call ((Below.refl _ _).drew)
theorem Ae6:(159:Nat)≠5:=by decide
theorem WO:(Tryz.prog.info? 159).map (·.size)=some 2:=by kernel_rfl
theorem AdB:liesAt Tryz.prog Tryz.prog.depth 159 (2 / Tryz.prog.cellsOf 159) 0 159 1=true:=by kernel_rfl
def Others (b:Nat) (w w':World):Prop:=∀k,k<w.heap.size->k≠b->(∀cs fz,w.heap[k]?≠some (.cells cs 5 fz))->w'.heap[k]?=w.heap[k]?
theorem Others.refl (b:Nat) (w:World):Others b w w:=fun _ _ _ _=>rfl
theorem Others.trans {b:Nat} {u v w:World} (h:Others b u v) (h2:Others b v w) (hs:u.heap.size<=v.heap.size):Others b u w:=fun k hk hb hn=>by
 have e:=h k hk hb hn
 rw [h2 k (by omega) hb (by rw [e];exact hn),e]
theorem Others.alloc {b:Nat} {w w':World} (h:Others b w w') (hs:w.heap.size<=w'.heap.size) (o:Obj):Others b w (w'.alloc o):=fun k hk hb hn=>by
 rw [Below.heap_alloc _ _ _ (by omega)];exact h k hk hb hn
theorem Others.drew {b:Nat} {w w':World} (h:Others b w w'):Others b w w'.drew:=h
theorem Others.of_ne {b:Nat} {w w':World} (h:∀k,k≠b->w'.heap[k]?=w.heap[k]?):Others b w w':=fun k _ hb _=>h k hb
theorem Others.grown {b:Nat} {w w2:World} {B:Nat} {v:Value} {n:Nat} {xs:List Value} (hg:w.grownBy w2 v.ownBlock) (A0:w.ownsRow B 5 1 v n xs):Others b w w2:=fun k hk _ hn=>by
 refine hg.block k hk (fun e=>?_)
 rcases A0.2 with ⟨rfl,_⟩ | ⟨g,cap,cur,rfl,_,hh,_⟩
 · cases e
 · cases e;exact hn _ _ hh
theorem Others.setCell {b:Nat} {w w':World} (h:Others b w w') (i:Nat) (u:Value):Others b w (w'.setCell ⟨b,i,none⟩ u):=fun k hk hb hn=>by
 rw [Below.heap_setCell _ _ _ _ hb];exact h k hk hb hn
theorem Others.cell {b:Nat} {w w':World} (h:Others b w w') {g:Nat} {T:TypeId} {cs:Array Value} (hT:T≠5) (hb:g≠b) (hw:Whole w g T cs):Whole w' g T cs:=by
 unfold Whole at hw⊢
 rw [h g (Array.getElem?_eq_some_iff.1 hw).1 hb (fun A0 fz e=>by rw [hw] at e;cases e;exact hT rfl)]
 exact hw
theorem Qb (b:Nat) (w:World) (h0:w.cell? ⟨b,0,none⟩=some (.pointer (some ⟨b,0,none⟩))):
  Calls Tryz.prog 145 #[.pointer (some ⟨b,0,none⟩)] w fun e w'=>e=.returned (.tuple #[])/\w=w':=by
 obtain ⟨j,hj,_⟩:=Option.map_eq_some_iff.1 WO
 have A0:=fun w=>Lib.run_neq_ptr_same (P:=Tryz.prog) w ⟨b,0,none⟩ Tryz.underlying156 hj
 clear hj
 go_enter Tryz.func145,Tryz.ntmps145
 go_wp2_with fail
 go_end0
 exact ⟨rfl,rfl⟩
theorem Ox (b:Nat) (w:World) (h0:w.cell? ⟨b,0,none⟩=some (.pointer none)) (A0:w.shape? b=some (159,2)) (A2:w.frozen? ⟨b,0,none⟩=false):
  Calls Tryz.prog 145 #[.pointer (some ⟨b,0,none⟩)] w fun e w'=>e=.returned (.tuple #[])/\(w.setCell ⟨b,0,none⟩ (.pointer (some ⟨b,0,none⟩)))=w':=by
 obtain ⟨j,hj,A1⟩:=Option.map_eq_some_iff.1 WO
 have c1:=Lib.run_to_unsafe (P:=Tryz.prog) w ⟨b,0,none⟩ Tryz.underlying156 Tryz.underlying218 hj (by rw [A1];decide) A0 (Nat.zero_lt_succ 1)
 have c2:=Lib.run_from_unsafe (P:=Tryz.prog) w ⟨b,0,none⟩ Tryz.underlying218 Tryz.underlying156 hj A0 AdB
 have A3:(callFunc 175 #[.pointer (some ⟨b,0,none⟩)]).run Tryz.prog w=.ok (.value (.pointer (some ⟨b,0,none⟩))) w:=by
  rw [run_callFunc_extern Tryz.func175 (by kernel_rfl) (by kernel_rfl) (by kernel_rfl) (e:=Extern.AbiNoEscape.same) (by kernel_rfl),Lib.run_noEscape]
  rfl
 clear hj A1
 go_enter Tryz.func145,Tryz.ntmps145
 go_wp2_with fail
 go_end0
 exact ⟨rfl,rfl⟩
theorem Jr (B b:Nat) (l:List UInt8) (w:World) (h:Bld B b l w):
  Calls Tryz.prog 145 #[.pointer (some ⟨b,0,none⟩)] w fun e w'=>e=.returned (.tuple #[])/\Fz B b l w'/\Below B w w'/\(∀k,k≠b->w'.heap[k]?=w.heap[k]?)/\w.heap.size<=w'.heap.size:=by
 rcases h with h | h
 · refine (Ox b w h.cell0 h.shape h.frozen0).mono ?_
   rintro e w' ⟨rfl,rfl⟩
   exact ⟨rfl,h.used _,(Below.refl B w).setCell (p:=⟨b,0,none⟩) h.1 _,fun k hk=>Below.heap_setCell _ _ _ _ hk,by simp [World.setCell]⟩
 · refine (Qb b w h.cell0).mono ?_
   rintro e w' ⟨rfl,rfl⟩
   exact ⟨rfl,h,Below.refl B _,fun _ _=>rfl,Nat.le_refl _⟩
theorem Fz.open_ {B b:Nat} {l:List UInt8} {w:World} (h:Fz B b l w):∃v,w.heap[b]?=some (.cells #[.pointer (some ⟨b,0,none⟩),v] 159 (0,0))/\OwnB w B v l/\v.ownBlock≠some b/\b<w.heap.size/\B<=b/\
  w.cell? ⟨b,0,none⟩=some (.pointer (some ⟨b,0,none⟩))/\w.cell? ⟨b,1,none⟩=some v:=by
 have A3:=h.lt
 obtain ⟨hB,v,A1,A0,A2⟩:=h
 refine ⟨v,A1,?_,A2,A3,hB,?_,?_⟩
 · unfold OwnB;rw [List.length_map] at A0;exact A0
 · rw [Lib.cell_of_heap A1];rfl
 · rw [Lib.cell_of_heap A1];rfl
theorem Fz.stored {B b:Nat} {l:List UInt8} {w w2:World} {v v':Value} {row:Option Nat} (A2:w.heap[b]?=some (.cells #[.pointer (some ⟨b,0,none⟩),v] 159 (0,0))) (A3:b<w.heap.size) (hB:B<=b)
  (hg:w.grownBy w2 row) (A4:row≠some b) (A0:OwnB w2 B v' l):w2.cell? ⟨b,0,none⟩=some (.pointer (some ⟨b,0,none⟩))/\w2.cell? ⟨b,1,none⟩=some v/\w2.frozen? ⟨b,1,none⟩=false/\Fz B b l (w2.setCell ⟨b,1,none⟩ v'):=by
 have A1:w2.heap[b]?=some (.cells #[.pointer (some ⟨b,0,none⟩),v] 159 (0,0)):=by
  rw [hg.block b A3 (fun e=>A4 e.symm)];exact A2
 refine ⟨by rw [Lib.cell_of_heap A1];rfl,by rw [Lib.cell_of_heap A1];rfl,Lib.frozen_of_heap A1 1,?_⟩
 exact Lib.BuilderAt.put hB A1 (by unfold OwnB at A0;rw [List.length_map];exact A0) Ae6
theorem Df (B b:Nat) (l:List UInt8) (c:UInt8) (w:World) (h:Bld B b l w) (hl:l.length<=900000000) (C0:B<=w.heap.size):
  Calls Tryz.prog 143 #[.pointer (some ⟨b,0,none⟩),.int .u8 (c.toNat:Int)] w fun e w'=>e=.returned .nilIface/\Fz B b (l++[c]) w'/\Below B w w'/\Others b w w':=by
 have B1:=Jr B b l w h
 clear h
 go_enter Tryz.func143,Tryz.ntmps143
 go_wp2_with fail
 refine B1.mono ?_;rintro e w1 ⟨rfl,hu,A6,A9,A4⟩
 obtain ⟨v,B0,A1,A8,B4,hB,c0,c1⟩:=hu.open_
 obtain ⟨a,cp,rfl⟩:=A1.form
 have hsz:=A6.size
 have B6:=hZ9 A1
 have B2:=hZ9 A8
 have B7:=hZ9 B0
 have B8:=hZ9 (Others.of_ne A9)
 clear B1 A8 B0 hu A9
 go_wp2_with (at_builtin;refine ID (by rfl) _ _ (by rfl) B _ l (by rfl) (A1.alloc _) w1.heap.size 1 1 (by rfl) [c] (by rfl) ?c1 ?c2 ?c3 ?_)
 case c1=>first | exact one_cell (by simp [go_sem,Ag]) | exact EN _
 case c2=>simp;omega
 case c3=>simp;omega
 intro v' w2 A0 B3 A7
 have B5:Hid (Others b w w2):=hZ9 ((B8.out.alloc A4 _).trans (Others.grown A7 (OwnB.alloc B6.out _)) (by simp;omega))
 obtain ⟨a2,B9,rfl⟩:=A0.form
 have A3:(w1.alloc (.cells #[.int .u8 (c.toNat:Int)] 5)).heap[b]?=some (.cells #[.pointer (some ⟨b,0,none⟩),.slice a l.length cp] 159 (0,0)):=by
  rw [Below.heap_alloc _ _ _ B4];exact B7.out
 obtain ⟨d0,d1,f1,A2⟩:=Fz.stored A3 (by simp;omega) hB A7 B2.out A0
 rw [show (l++[c]).length=l.length+1 from by simp] at A2
 have A5:=hZ9 A2
 clear A3 A2
 go_wp2_with fail
 go_ret
 exact ⟨rfl,A5.out,((A6.alloc (by omega) _).trans B3).setCell (p:=⟨b,1,none⟩) hB _,B5.out.setCell 1 _⟩
theorem Hf (B b:Nat) (l:List UInt8) (c:UInt8) (w:World) (h:Bld B b l w) (hl:l.length<=900000000) (A0:B<=w.heap.size):
  Calls Tryz.prog 143 #[.pointer (some ⟨b,0,none⟩),.int .u8 (c.toNat:Int)] w fun e w'=>e=.returned .nilIface/\Fz B b (l++[c]) w'/\Below B w w':=
 (Df B b l c w h hl A0).mono fun _ _ h=>⟨h.1,h.2.1,h.2.2.1⟩
theorem BJ (B b:Nat) (l:List UInt8) (g m cq:Nat) (ys:List UInt8) (w:World) (h:Bld B b l w) (hl:l.length+m<=900000000) (C2:B<=w.heap.size) (hm:ys.length=m) (B7:g≠b)
  (hy:∀(j:Nat) (y:UInt8),ys[j]?=some y->w.cell? ⟨g,j,none⟩=some (Ag y)):
  Calls Tryz.prog 174 #[.pointer (some ⟨b,0,none⟩),.slice (some ⟨g,0,none⟩) m cq] w fun e w'=>e=.returned (.tuple #[.int .i64 m,.nilIface])/\Fz B b (l++ys) w'/\Below B w w'/\Others b w w':=by
 have B1:=Jr B b l w h
 clear h
 go_enter Tryz.func174,Tryz.ntmps174
 go_wp2_with fail
 refine B1.mono ?_;rintro e w1 ⟨rfl,hu,A7,A5,A3⟩
 have A6:∀(j:Nat) (y:UInt8),ys[j]?=some y->w1.cell? ⟨g,j,none⟩=some (Ag y):=fun j y hj=>
  (World.cell?_of_block (a:=⟨g,j,none⟩) (A5 g B7)).trans (hy j y hj)
 have B8:=hZ9 A6
 clear hy A6
 obtain ⟨v,B0,A1,A9,B4,hB,c0,c1⟩:=hu.open_
 obtain ⟨a,cp,rfl⟩:=A1.form
 have hsz:=A7.size
 have B6:=hZ9 A1
 have B2:=hZ9 A9
 have B9:=hZ9 B0
 have HM:=hZ9 hm
 have C0:=hZ9 (Others.of_ne A5)
 clear B1 A9 B0 hu hm A5
 go_wp2_with (at_builtin;refine ID (by rfl) _ _ (by rfl) B _ l (by rfl) A1 g m cq (by rfl) ys HM.out B8.out ?c2 ?c3 ?_)
 case c2=>omega
 case c3=>omega
 intro v' w2 A0 B3 A8
 have B5:Hid (Others b w w2):=hZ9 (C0.out.trans (Others.grown A8 B6.out) A3)
 obtain ⟨a2,C1,rfl⟩:=A0.form
 obtain ⟨d0,d1,f1,A2⟩:=Fz.stored B9.out B4 hB A8 B2.out A0
 rw [show (l++ys).length=l.length+ys.length from List.length_append] at A2
 have A4:=hZ9 A2
 clear A2
 go_wp2_with fail
 go_ret2
 exact ⟨rfl,A4.out,(A7.trans B3).setCell (p:=⟨b,1,none⟩) hB _,B5.out.setCell 1 _⟩
theorem Lc (B b:Nat) (l:List UInt8) (s:ByteArray) (w:World) (h:Bld B b l w) (hl:l.length+s.size<=900000000) (C5:B<=w.heap.size):
  Calls Tryz.prog 111 #[.pointer (some ⟨b,0,none⟩),.string s] w fun e w'=>e=.returned (.tuple #[.int .i64 s.size,.nilIface])/\Fz B b (l++s.data.toList) w'/\Below B w w'/\Others b w w':=by
 obtain ⟨i0,hi,B5,B8,C1⟩:=info_parts OU
 have HI:=hZ9 hi
 have B3:=Jr B b l w h
 clear h hi
 go_enter Tryz.func111,Tryz.ntmps111
 go_wp2_with fail
 refine B3.mono ?_;rintro e w1 ⟨rfl,hu,A9,B1,A7⟩
 obtain ⟨v,B2,A0,B0,B7,hB,c0,c1⟩:=hu.open_
 obtain ⟨a,cp,rfl⟩:=A0.form
 have hsz:=A9.size
 have C0:=hZ9 A0
 have B4:=hZ9 B0
 have C2:=hZ9 B2
 have A3:w1.ownsRow B 5 1 (.slice a l.length cp) l.length (l.map Ag):=A0
 have C3:=hZ9 (Others.of_ne B1)
 clear B3 B0 B2 hu A0 B1
 go_wp2_with (at_builtin;refine Lib.wpList_append_own_string _ (by rfl) _ _ 157 9 (by rfl) B 5 i0 Tryz.underlying157 Tryz.underlying9 HI.out B5 B8 C1 _ _ _ (by rfl) A3 s (by rfl) ?c3 ?c4 ?c5 ?_)
 case c3=>unfold maxLen;omega
 case c4=>omega
 case c5=>omega
 intro v' w2 A1 A8 _
 have B9:Hid (Others b w w2):=hZ9 (C3.out.trans (Others.grown A8 C0.out) A7)
 have A5:Lib.strCells s=s.data.toList.map Ag:=by
  unfold Lib.strCells Ag;first | rfl | simp
 have A2:OwnB w2 B v' (l++s.data.toList):=by
  unfold OwnB
  rw [List.map_append,List.length_append,<-Lib.size_eq,<-A5]
  exact A1
 clear A1
 obtain ⟨a2,C4,rfl⟩:=A2.form
 obtain ⟨d0,d1,f1,A4⟩:=Fz.stored C2.out B7 hB A8 B4.out A2
 rw [show (l++s.data.toList).length=l.length+s.data.toList.length from List.length_append] at A4
 have A6:=hZ9 A4
 have B6:Below B w1 w2:=(Below.refl B w1).grown A8 (by omega) (fun k hk=>(World.ownsRow.lt A3 k hk).1)
 clear A4
 go_wp2_with fail
 go_ret2
 exact ⟨rfl,by first | exact A6.out | simpa using A6.out,(A9.trans B6).setCell (p:=⟨b,1,none⟩) hB _,B9.out.setCell 1 _⟩
end
section
open Go.RowKit
def AK (w:World) (v:Value) (xs:List RdS.Pr):Prop:=
 ∃a c,v=.slice a xs.length c/\xs.length<=c/\(xs=[]\/∃g o,a=some ⟨g,o,none⟩/\g<w.heap.size/\
  ∀(j:Nat) (p:RdS.Pr),xs[j]?=some p->w.cell? ⟨g,o+j*2,none⟩=some (Ac p.1)/\w.cell? ⟨g,o+j*2+1,none⟩=some (Ac p.2))
theorem AK.call {w w':World} {v:Value} {xs:List RdS.Pr} (h:AK w v xs) {B:Nat} (hb:Below B w w') (hB:w.heap.size<=B):AK w' v xs:=by
 obtain ⟨a,c,rfl,hc,h⟩:=h
 refine ⟨a,c,rfl,hc,?_⟩
 rcases h with h | ⟨g,o,rfl,hg,h⟩
 · exact .inl h
 · refine .inr ⟨g,o,rfl,Nat.lt_of_lt_of_le hg hb.size,fun j p hj=>⟨?_,?_⟩⟩
   · exact (hb.cell (p:=⟨g,o+j*2,none⟩) (Nat.lt_of_lt_of_le hg hB)).trans (h j p hj).1
   · exact (hb.cell (p:=⟨g,o+j*2+1,none⟩) (Nat.lt_of_lt_of_le hg hB)).trans (h j p hj).2
theorem AK.empty (w:World):AK w (.slice none 0 0) []:=⟨Option.none,0,rfl,Nat.le_refl _,.inl rfl⟩
def Cc (xs:List RdS.Pr):List Value:=xs.flatMap fun p=>[Ac p.1,Ac p.2]
theorem JX (xs:List RdS.Pr):(Cc xs).length=xs.length*2:=by
 induction xs with
 | nil=>rfl
 | cons p xs ih=>show ([Ac p.1,Ac p.2]++Cc xs).length=_;rw [List.length_append,ih];simp;omega
theorem Js (xs ys:List RdS.Pr):Cc (xs++ys)=Cc xs++Cc ys:=by unfold Cc;rw [List.flatMap_append]
theorem Ir:∀(xs:List RdS.Pr) (j:Nat) (p:RdS.Pr),xs[j]?=some p->(Cc xs)[j*2]?=some (Ac p.1)/\(Cc xs)[j*2+1]?=some (Ac p.2)
 | [],j,p,h=>by simp at h
 | q :: xs,0,p,h=>by have:=Option.some.inj h;subst this;exact ⟨rfl,rfl⟩
 | q :: xs,j+1,p,h=>by
  have:=Ir xs j p (by simpa using h)
  have e:Cc (q :: xs)=Ac q.1 :: Ac q.2 :: Cc xs:=rfl
  rw [e,show (j+1)*2=j*2+1+1 from by omega]
  exact this
def AW (T:TypeId) (w:World) (B:Nat) (v:Value) (xs:List RdS.Pr):Prop:=w.ownsRow B T 2 v xs.length (Cc xs)
theorem AW.empty (T:TypeId) (w:World) (B:Nat):AW T w B (.slice none 0 0) []:=World.ownsRow_nil w B _ 2
theorem AW.form {T:TypeId} {w:World} {B:Nat} {v:Value} {xs:List RdS.Pr} (h:AW T w B v xs):∃a c,v=.slice a xs.length c:=by
 rcases h.2 with ⟨rfl,hn⟩ | ⟨g,cap,cur,rfl,_⟩
 · exact ⟨_,_,by rw [hn]⟩
 · exact ⟨_,_,rfl⟩
theorem AW.call {T:TypeId} {w w':World} {B:Nat} {v:Value} {xs:List RdS.Pr} (h:AW T w B v xs) (hb:Below w.heap.size w w'):AW T w' B v xs:=
 World.ownsRow.kept h (AX hb) (by cases v.ownBlock <;> simp)
theorem AW.alloc {T:TypeId} {w:World} {B:Nat} {v:Value} {xs:List RdS.Pr} (h:AW T w B v xs) (o:Obj):AW T (w.alloc o) B v xs:=World.ownsRow.alloc h o
theorem AW.avas {T:TypeId} {w:World} {B:Nat} {v:Value} {xs:List RdS.Pr} (h:AW T w B v xs):AK w v xs:=by
 rcases h.2 with ⟨rfl,hn⟩ | ⟨g,cap,cur,rfl,hg,hh,hn,hm,hsz,A1⟩
 · exact ⟨Option.none,0,by rw [hn],by omega,.inl (List.eq_nil_of_length_eq_zero hn)⟩
 · refine ⟨some ⟨g,0,Option.none⟩,cap,rfl,hn,.inr ⟨g,0,rfl,(Array.getElem?_eq_some_iff.1 hh).1,fun j p hj=>?_⟩⟩
   have h2:=Ir xs j p hj
   have A0:∀k,(⟨g,0,Option.none⟩:Addr).add k=⟨g,0+k,Option.none⟩:=fun k=>by unfold Addr.add;split <;> simp_all
   have c1:=World.ownsRow.cells h (g:=g) rfl _ _ h2.1
   have c2:=World.ownsRow.cells h (g:=g) rfl _ _ h2.2
   rw [A0] at c1 c2
   exact ⟨c1,by rw [Nat.add_assoc];exact c2⟩
theorem Ix {w:World} {ops:Array Oper} {rest:List Oper} {o:Oper} {a:Act} {Q:Exit->Act->World->Prop} (T sT:TypeId) (A5:Tryz.prog.underlying sT=some (.slice T)) {i0:TypeInfo} {z:Value}
  (hi:Tryz.prog.info? T=some i0) (hz:i0.zero=some z) (A2:i0.size=2) (A8:i0.bytes=32) (A4:z.cells.size=2) (A6:o.guard=none) (s x:Operand)
  (ho:o.op=.call { callee:=.builtin .append,args:=#[s,x],argTypes:=#[sT,sT] })
  (B:Nat) (v:Value) (xs:List RdS.Pr) (hs:a.eval s=v) (A0:AW T w B v xs) (g:Nat) (hx:a.eval x=.slice (some ⟨g,0,Option.none⟩) 1 1)
  (p:RdS.Pr) (A3:w.cell? ⟨g,0,Option.none⟩=some (Ac p.1)) (A7:w.cell? ⟨g,1,Option.none⟩=some (Ac p.2)) (hn:xs.length<=1000000000) (hB:B<=w.heap.size)
  (h:∀v' w',AW T w' B v' (xs++[p])->Below B w w'->wpList Tryz.prog ops Q rest (a.put o.dst v') w'):wpList Tryz.prog ops Q (o :: rest) a w:=by
 refine wpList_append_own w A6 s x _ ho B T i0 z 2 32 A5 hi hz A2 A8 A4 (by decide) v xs.length (Cc xs) hs A0 ⟨g,0,Option.none⟩ 1 1 [Ac p.1,Ac p.2] hx rfl
  (fun j u hj=>?_) (fun u hu=>?_) (by unfold maxLen;omega) (by omega) hB (fun v' w' h1 h2 _=>h v' w' ?_ ?_)
 · have A1:∀k,(⟨g,0,Option.none⟩:Addr).add k=⟨g,k,Option.none⟩:=fun k=>by unfold Addr.add;split <;> simp_all
   rw [A1]
   match j,hj with
   | 0,hj=>rw [A3];simpa using hj
   | 1,hj=>rw [A7];simpa using hj
 · simp only [List.mem_cons,List.not_mem_nil,or_false] at hu
   rcases hu with rfl | rfl <;> rfl
 · unfold AW
   rw [Js,List.length_append]
   exact h1
 · exact (Below.refl B w).grown h2 hB (fun k hk=>(World.ownsRow.lt A0 k hk).1)
end
end Go.Proofs.YtgngjfjaelgaeaaGreatDoor
