/- The walks of the digits and of the special bytes: the program's 'digit', the document's 'hex' and 'special'. Conditions: as stated. -/
import Derived.Deep.Onto
import Derived.Test.YtgngjfjaelgaeaaGreatDoorKRda
set_option maxRecDepth 100000
set_option maxHeartbeats 8000000
namespace Go.Proofs.YtgngjfjaelgaeaaGreatDoor
section
open Go.RowKit
namespace RdS
def FC (c:UInt8):Int:=match hexOf c with
 | some n=>(n:Int)
 | none=>-1
theorem XT:∀n:Fin 256,Lib.indexByte hexL (RuS.lowC (UInt8.ofNat n.val))=FC (UInt8.ofNat n.val):=by decide+kernel
theorem Acu (c:UInt8):Lib.indexByte hexL (RuS.lowC c)=FC c:=by
 have h:=XT ⟨c.toNat,c.toNat_lt⟩
 simpa using h
theorem Il (c:UInt8):(hexOf c=none/\FC c=-1)\/∃n:Nat,hexOf c=some n/\FC c=(n:Int)/\n<16:=by
 unfold FC hexOf
 split
 · exact .inr ⟨_,rfl,rfl,by omega⟩
 · split
   · exact .inr ⟨_,rfl,rfl,by omega⟩
   · split
     · exact .inr ⟨_,rfl,rfl,by omega⟩
     · exact .inl ⟨rfl,rfl⟩
end RdS
theorem digit_c (c:UInt8) (w:World):Calls Tryz.prog 195 #[.int .u8 (c.toNat:Int)] w fun e w'=>e=.returned (.int .i64 (RdS.FC c))/\Below w.heap.size w w':=by
 have A0:=fun w=>lower_c ⟨#[c]⟩ (by show 1<=_;decide) w
 unfold BO at A0
 have A5:(RuS.lower (⟨#[c]⟩:ByteArray).data.toList)=[RuS.lowC c]:=rfl
 rw [A5] at A0
 have A2:=fun w=>Tryz.strings_IndexByte ⟨#[48,49,50,51,52,53,54,55,56,57,97,98,99,100,101,102]⟩ ((RuS.lowC c).toNat:Int) w
 have A4:(⟨#[48,49,50,51,52,53,54,55,56,57,97,98,99,100,101,102]⟩:ByteArray).data.toList=RdS.hexL:=rfl
 have A3:(((RuS.lowC c).toNat:Int).toNat.toUInt8)=RuS.lowC c:=by rw [Int.toNat_natCast];exact UInt8.ofNat_toNat
 rw [A4,A3,RdS.Acu] at A2
 clear A4 A3 A5
 have A6:(convert 157 9 (.slice (some ⟨w.heap.size,0,none⟩) 1 1)).run Tryz.prog (w.alloc (.cells #[.int .u8 (c.toNat:Int)] 5))=.ok (.string ⟨#[c]⟩) (w.alloc (.cells #[.int .u8 (c.toNat:Int)] 5)):=by
  refine run_convert_bytes_back (w.alloc (.cells #[.int .u8 (c.toNat:Int)] 5)) _ _ 5 ⟨w.heap.size,0,none⟩ 1 [c] Tryz.underlying157 Tryz.underlying5 Tryz.underlying9 fun j hj=>?_
  have:j=0:=by simp at hj;exact hj
  subst this
  have A1:(⟨w.heap.size,0,none⟩:Addr).add 0=⟨w.heap.size,0,none⟩:=by unfold Addr.add;split <;> simp_all
  rw [A1]
  simp [go_sem]
 generalize RuS.lowC c=d at*
 generalize RdS.FC c=r at*
 go_enter Tryz.func195,Tryz.ntmps195
 go_wp2_with fail
 refine (A0 _).mono ?_;rintro e w1 ⟨rfl,A7⟩
 go_wp2_with fail
 refine (A2 _).mono ?_;rintro e w2 ⟨rfl,rfl⟩
 go_wp2_with fail
 go_ret
 exact ⟨rfl,(Af w _).trans (A7.mono (by simp))⟩
theorem LG (c:UInt8) (w:World):Calls Tryz.prog 149 #[.int .u8 (c.toNat:Int)] w fun e w'=>e=.returned (.bool (RdS.Ar c))/\w=w':=by
 cases hs:RdS.Ar c with
 | true=>
  have hm:c ∈ RdS.Eb:=List.contains_iff_mem.1 hs
  simp only [RdS.Eb,List.mem_cons,List.not_mem_nil,or_false] at hm
  clear hs
  rcases hm with rfl | rfl | rfl | rfl | rfl | rfl | rfl
  all_goals
   go_enter Tryz.func149,Tryz.ntmps149
   go_wp2_with fail
   go_ret
   exact ⟨rfl,rfl⟩
 | false=>
  have hn:∀d,RdS.Ar d=true->c≠d:=fun d hd=>RdS.FU hd hs
  have f1:((c.toNat:Int)==44)=false:=beq_eq_false_iff_ne.2 (fun h=>hn 44 (by decide) (CV rfl h))
  have f2:((c.toNat:Int)==43)=false:=beq_eq_false_iff_ne.2 (fun h=>hn 43 (by decide) (CV rfl h))
  have f3:((c.toNat:Int)==34)=false:=beq_eq_false_iff_ne.2 (fun h=>hn 34 (by decide) (CV rfl h))
  have f4:((c.toNat:Int)==92)=false:=beq_eq_false_iff_ne.2 (fun h=>hn 92 (by decide) (CV rfl h))
  have f5:((c.toNat:Int)==60)=false:=beq_eq_false_iff_ne.2 (fun h=>hn 60 (by decide) (CV rfl h))
  have f6:((c.toNat:Int)==62)=false:=beq_eq_false_iff_ne.2 (fun h=>hn 62 (by decide) (CV rfl h))
  have f7:((c.toNat:Int)==59)=false:=beq_eq_false_iff_ne.2 (fun h=>hn 59 (by decide) (CV rfl h))
  clear hn hs
  go_enter Tryz.func149,Tryz.ntmps149
  go_wp2_with fail
  go_ret
  exact ⟨rfl,rfl⟩
theorem XU (c:UInt8) (w:World):Calls Tryz.prog 199 #[.int .u8 (c.toNat:Int)] w fun e w'=>e=.returned (.int .i64 (RdS.FC c))/\w=w':=by
 have A0:=c.toNat_lt
 by_cases h1:48<=c.toNat/\c.toNat<=57
 · have HR:Hid (RdS.FC c=(c.toNat:Int) - 48):=hZ9 (by unfold RdS.FC RdS.hexOf;rw [if_pos h1];show ((c.toNat - 48:Nat):Int)=_;omega)
   obtain ⟨h1,h2⟩:=h1
   have g1:(48:Int)<=(c.toNat:Int):=by omega
   have g2:(c.toNat:Int)<=57:=by omega
   go_enter Tryz.func199,Tryz.ntmps199
   go_wp2_with fail
   go_ret
   exact ⟨by rw [HR.out];rfl,rfl⟩
 by_cases h2:97<=c.toNat/\c.toNat<=102
 · have HR:Hid (RdS.FC c=(c.toNat:Int) - 97+10):=hZ9 (by unfold RdS.FC RdS.hexOf;rw [if_neg h1,if_pos h2];show ((c.toNat - 97+10:Nat):Int)=_;omega)
   obtain ⟨h3,h4⟩:=h2
   have g1:decide ((c.toNat:Int)<=57)=false:=decide_eq_false (by omega)
   have g0:(48:Int)<=(c.toNat:Int):=by omega
   have g2:(97:Int)<=(c.toNat:Int):=by omega
   have g3:(c.toNat:Int)<=102:=by omega
   clear h1
   go_enter Tryz.func199,Tryz.ntmps199
   go_wp2_with fail
   go_ret
   exact ⟨by rw [HR.out];rfl,rfl⟩
 by_cases h3:65<=c.toNat/\c.toNat<=70
 · have HR:Hid (RdS.FC c=(c.toNat:Int) - 65+10):=hZ9 (by unfold RdS.FC RdS.hexOf;rw [if_neg h1,if_neg h2,if_pos h3];show ((c.toNat - 65+10:Nat):Int)=_;omega)
   obtain ⟨h4,h5⟩:=h3
   have g1:decide ((c.toNat:Int)<=57)=false:=decide_eq_false (by omega)
   have g0:(48:Int)<=(c.toNat:Int):=by omega
   have g2:decide ((97:Int)<=(c.toNat:Int))=false:=decide_eq_false (by omega)
   have g3:(65:Int)<=(c.toNat:Int):=by omega
   have g4:(c.toNat:Int)<=70:=by omega
   clear h1 h2
   go_enter Tryz.func199,Tryz.ntmps199
   go_wp2_with fail
   go_ret
   exact ⟨by rw [HR.out];rfl,rfl⟩
 have HR:Hid (RdS.FC c=-1):=hZ9 (by unfold RdS.FC RdS.hexOf;rw [if_neg h1,if_neg h2,if_neg h3])
 have hc:c.toNat<48\/(57<c.toNat/\c.toNat<65)\/(70<c.toNat/\c.toNat<97)\/102<c.toNat:=by omega
 clear h1 h2 h3
 rcases hc with h | ⟨h,h'⟩ | ⟨h,h'⟩ | h
 all_goals
  first | have g1:(48:Int)<=(c.toNat:Int):=by omega | have g1:decide ((48:Int)<=(c.toNat:Int))=false:=decide_eq_false (by omega)
  first | have g2:(c.toNat:Int)<=57:=by omega | have g2:decide ((c.toNat:Int)<=57)=false:=decide_eq_false (by omega)
  first | have g3:(97:Int)<=(c.toNat:Int):=by omega | have g3:decide ((97:Int)<=(c.toNat:Int))=false:=decide_eq_false (by omega)
  first | have g4:(c.toNat:Int)<=102:=by omega | have g4:decide ((c.toNat:Int)<=102)=false:=decide_eq_false (by omega)
  first | have g5:(65:Int)<=(c.toNat:Int):=by omega | have g5:decide ((65:Int)<=(c.toNat:Int))=false:=decide_eq_false (by omega)
  first | have g6:(c.toNat:Int)<=70:=by omega | have g6:decide ((c.toNat:Int)<=70)=false:=decide_eq_false (by omega)
  go_enter Tryz.func199,Tryz.ntmps199
  go_wp2_with fail
  go_ret
  exact ⟨by rw [HR.out];rfl,rfl⟩
end
section
open Go.RowKit
attribute [local go_sem ↓] Go.wp_at_zero Go.wp_at_succ
namespace RdS
def SR:List UInt8:=[44,43,34,92,60,62,59,35,61,32]
theorem ZY:∀n:Fin 256,decide (0<=Lib.indexByte SR (UInt8.ofNat n.val))=DD (UInt8.ofNat n.val):=by decide+kernel
theorem VR (c:UInt8):decide (0<=Lib.indexByte SR c)=DD c:=by
 have h:=ZY ⟨c.toNat,c.toNat_lt⟩
 rwa [show UInt8.ofNat c.toNat=c from UInt8.ofNat_toNat] at h
theorem Ky {c:UInt8} {last:Bool} (h1:c≠32) (h2:c≠35):CY true last c=CY false last c:=by
 have e1:(c==32)=false:=by simpa using h1
 have e2:(c==35)=false:=by simpa using h2
 unfold CY;rw [e1,e2];simp
theorem VS {c:UInt8} {r:List UInt8} (h1:c≠32) (h2:c≠35):readS (c :: r)=Az false (c :: r):=by
 unfold readS
 match r with
 | []=>simp [Az,Ky h1 h2]
 | [d]=>simp [Az,Ky h1 h2]
 | d :: e :: r=>simp [Az,Ky h1 h2]
theorem ZZ {c:UInt8} {r:List UInt8} (h:c=32\/c=35):readS (c :: r)=none:=by
 unfold readS
 refine Jh ?_ ?_
 · rcases h with rfl | rfl <;> decide
 · rcases h with rfl | rfl <;> simp [CY]
end RdS
def BH (l:List UInt8) (w:World) (e:Ending) (w':World):Prop:=e=.returned (.tuple #[.string ⟨((RdS.readS l).getD []).toArray⟩,.bool (RdS.readS l).isSome])/\Below w.heap.size w w'
theorem BH.none {l:List UInt8} {w w':World} (h:RdS.readS l=none) (hb:Below w.heap.size w w'):BH l w (.returned (.tuple #[.string ⟨#[]⟩,.bool false])) w':=by
 unfold BH;rw [h];exact ⟨rfl,hb⟩
def WU (l:List UInt8) (w:World) (i:Value) (wr:World):Prop:=
 ∃(k:Nat) (acc:List UInt8),k<=l.length/\i=.int .i64 k/\Bld w.heap.size w.heap.size acc wr/\acc.length<=k/\RdS.readS l=(RdS.Az false (l.drop k)).map (acc++·)/\Below w.heap.size w wr
theorem Afs {x y:Nat} (hx:x<16) (hy:y<16):bits .or .i64 ((x:Int)*16) (y:Int)=((16*x+y:Nat):Int):=by
 have h:∀a:Fin 16,∀b:Fin 16,bits .or .i64 ((a.val:Int)*16) (b.val:Int)=((16*a.val+b.val:Nat):Int):=by decide+kernel
 exact h ⟨x,hx⟩ ⟨y,hy⟩
theorem WV (l:List UInt8) (hl:l.length<=1000000) (w:World):Calls Tryz.prog 169 #[.string ⟨l.toArray⟩] w (BH l w):=by
 match l,hl with
 | [],hl=>
  have D6:=Tryz.Builder_String_any w.heap.size w.heap.size [] (w.alloc (.cells #[.pointer none,.slice none 0 0] 159)) (by first | exact Bld.fresh w | simpa [Bld,Ag,Lib.byteCells] using Bld.fresh w) (by simp)
  go_enter Tryz.func169,Tryz.ntmps169
  go_wp2_with fail
  refine wp_loop_rounds 1 ?_
  rw [rounds_succ]
  go_wp2_with fail
  refine D6.mono ?_;rintro e w1 ⟨rfl,A1⟩
  go_wp2_with fail
  go_ret2
  exact ⟨rfl,(Af w _).trans A1⟩
 | c0 :: r0,hl=>
  have B1:=hZ9 (fun (h:c0=32\/c0=35)=>RdS.ZZ (r:=r0) h)
  have E4:=hZ9 (fun (h1:c0≠32) (h2:c0≠35)=>RdS.VS (r:=r0) h1 h2)
  have h0:0<(c0 :: r0).length:=by simp
  have G0:∀h,(⟨(c0 :: r0).toArray⟩:ByteArray)[0]'h=c0:=fun _=>rfl
  have F1:(c0 :: r0).isEmpty=false:=rfl
  generalize c0 :: r0=l at*
  by_cases B9:c0=32
  · have D2:((c0.toNat:Int)==32)=true:=by rw [B9];rfl
    have HC:=hZ9 B9
    clear B9
    go_enter Tryz.func169,Tryz.ntmps169
    go_wp2_with fail
    go_ret2
    exact BH.none (B1.out (.inl HC.out)) (Af w _)
  · have C5:=hZ9 B9
    have D2:((c0.toNat:Int)==32)=false:=beq_eq_false_iff_ne.2 (fun h=>C5.out (CV rfl h))
    clear B9
    by_cases C0:c0=35
    · have F4:((c0.toNat:Int)==35)=true:=by rw [C0];rfl
      have HC:=hZ9 C0
      clear C0
      go_enter Tryz.func169,Tryz.ntmps169
      go_wp2_with fail
      go_ret2
      exact BH.none (B1.out (.inr HC.out)) (Af w _)
    · have C2:=hZ9 C0
      have F4:((c0.toNat:Int)==35)=false:=beq_eq_false_iff_ne.2 (fun h=>C2.out (CV rfl h))
      have F0:=hZ9 (E4.out C5.out C2.out)
      clear C0 E4 B1
      go_enter Tryz.func169,Tryz.ntmps169
      go_wp2_with fail
      go_loopw [5] (fun i wr=>WU l w i wr) (fun i _=>l.length - (intOf i).toNat)
      case atStart=>exact ⟨0,[],Nat.zero_le _,rfl,Bld.fresh w,Nat.zero_le _,by rw [F0.out,List.drop_zero];simp,Af w _⟩
      case round=>
       obtain ⟨k,acc,hk,rfl,B2,E8,E5,hb⟩:=hrel
       have HK:=hZ9 hk
       have C9:=hZ9 E5
       have hsz:=hb.size
       clear E5 hk
       by_cases E7:k<l.length
       · have HD:=hZ9 (List.drop_eq_getElem_cons E7)
         generalize E0:l[k]=c at*
         have F9:∀h,(⟨l.toArray⟩:ByteArray)[k]'h=c:=fun _=>E0
         clear E0
         have A2:Hid (RdS.Az false (l.drop k)=none->RdS.readS l=none):=hZ9 (fun h=>by rw [C9.out,h];rfl)
         have A6:Hid (∀(k2:Nat) (x:UInt8) (i:Value) (w2:World),k2<=l.length->k<k2->i=.int .i64 k2->RdS.Az false (l.drop k)=(RdS.Az false (l.drop k2)).map (x :: ·)->Fz w.heap.size w.heap.size (acc++[x]) w2->Below w.heap.size w w2->WU l w i w2):=
          hZ9 (fun k2 x i w2 h1 h2 hi h3 h4 h5=>⟨k2,acc++[x],h1,hi,h4.bld,by simp;omega,by rw [C9.out,h3,Option.map_map];congr 1;funext y;simp,h5⟩)
         by_cases h92:c=92
         · have A5:=hZ9 h92
           have E6:((c.toNat:Int) !=92)=false:=by rw [h92];rfl
           clear h92
           by_cases F2:k+1<l.length
           · have C7:=hZ9 (List.drop_eq_getElem_cons F2)
             generalize D8:l[k+1]=d at*
             have G5:∀h,(⟨l.toArray⟩:ByteArray)[k+1]'h=d:=fun _=>D8
             clear D8
             have C8:(k:Int)+1<(l.length:Int):=by omega
             have A4:=fun w=>Tryz.strings_IndexByte ⟨#[44,43,34,92,60,62,59,35,61,32]⟩ (d.toNat:Int) w
             have C1:(⟨#[44,43,34,92,60,62,59,35,61,32]⟩:ByteArray).data.toList=RdS.SR:=rfl
             have C6:((d.toNat:Int).toNat.toUInt8)=d:=by rw [Int.toNat_natCast];exact UInt8.ofNat_toNat
             rw [C1,C6] at A4
             clear C1 C6
             have C4:=hZ9 (RdS.VR d)
             generalize Lib.indexByte RdS.SR d=ix at*
             replace A4:=fun w=>(A4 w).mono (fun e w' (h:_/\_)=>(⟨h.1,h.2.symm⟩:e=.returned (.int .i64 ix)/\w=w'))
             by_cases A7:0<=ix
             · have B4:Hid (RdS.DD d=true):=hZ9 (by rw [<-C4.out,decide_eq_true A7])
               have HE:Hid (RdS.Az false (l.drop k)=(RdS.Az false (l.drop (k+2))).map (d :: ·)):=hZ9 (by rw [HD.out,A5.out,C7.out,RdS.Ee _ B4.out])
               go_wp2_with fail
               refine (A4 _).mono ?_;rintro e w0 ⟨rfl,rfl⟩
               go_wp2_with fail
               refine (Hf w.heap.size w.heap.size acc d _ B2 (by omega) (by omega)).mono ?_
               rintro e w1 ⟨rfl,hu,A1⟩
               go_wp2_with fail
               go_roundw
               case rel=>exact A6.out (k+2) d _ _ (by omega) (by omega) (by go_num) HE.out hu (hb.trans A1)
               case measure=>simp [intOf];omega
             · have B4:Hid (RdS.DD d=false):=hZ9 (by rw [<-C4.out,decide_eq_false A7])
               have B6:decide (0<=ix)=false:=decide_eq_false A7
               clear A7
               by_cases F7:k+2<l.length
               · have D5:=hZ9 (List.drop_eq_getElem_cons F7)
                 generalize E3:l[k+2]=f at*
                 have F8:∀h,(⟨l.toArray⟩:ByteArray)[k+2]'h=f:=fun _=>E3
                 clear E3
                 have C3:(k:Int)+2<(l.length:Int):=by omega
                 have A9:=fun w=>digit_c d w
                 have B5:=fun w=>digit_c f w
                 rcases RdS.Il d with ⟨hn,hv⟩ | ⟨x,hx,D4,D1⟩
                 · rw [hv] at A9
                   have HN:Hid (RdS.readS l=none):=hZ9 (A2.out (by rw [HD.out,A5.out,C7.out,show k+1+1=k+2 from rfl,D5.out,RdS.CP _ B4.out (.inl hn)]))
                   clear hn hv B5
                   go_wp2_with fail
                   refine (A4 _).mono ?_;rintro e w0 ⟨rfl,rfl⟩
                   go_wp2_with fail
                   refine (A9 _).mono ?_;rintro e w1 ⟨rfl,A1⟩
                   go_wp2_with fail
                   go_ret2
                   exact BH.none HN.out (hb.trans (A1.mono (by omega)))
                 · rcases RdS.Il f with ⟨hn,hv⟩ | ⟨y,hy,F6,D0⟩
                   · rw [D4] at A9
                     rw [hv] at B5
                     have HN:Hid (RdS.readS l=none):=hZ9 (A2.out (by rw [HD.out,A5.out,C7.out,show k+1+1=k+2 from rfl,D5.out,RdS.CP _ B4.out (.inr hn)]))
                     clear hn hv hx D4
                     go_wp2_with fail
                     refine (A4 _).mono ?_;rintro e w0 ⟨rfl,rfl⟩
                     go_wp2_with fail
                     refine (A9 _).mono ?_;rintro e w1 ⟨rfl,A1⟩
                     go_wp2_with fail
                     refine (B5 _).mono ?_;rintro e w2 ⟨rfl,B7⟩
                     go_wp2_with fail
                     go_ret2
                     exact BH.none HN.out (hb.trans ((Aa A1 B7).mono (by omega)))
                   · have HE:Hid (RdS.Az false (l.drop k)=(RdS.Az false (l.drop (k+3))).map (UInt8.ofNat (16*x+y) :: ·)):=hZ9 (by
                      rw [HD.out,A5.out,C7.out,show k+1+1=k+2 from rfl,D5.out,RdS.Eo _ B4.out hx hy])
                     have D9:=Afs D1 D0
                     have HT:Hid (((UInt8.ofNat (16*x+y)).toNat:Int)=((16*x+y:Nat):Int)):=hZ9 (by rw [UInt8.toNat_ofNat'];omega)
                     obtain ⟨z,hz⟩:∃z:UInt8,z=UInt8.ofNat (16*x+y):=⟨_,rfl⟩
                     rw [<-hz] at HE HT
                     have E9:bits .or .i64 ((x:Int)*16) (y:Int)=(z.toNat:Int):=by rw [D9,HT.out]
                     have E2:=z.toNat_lt
                     clear hx hy D9 hz HT
                     rw [D4] at A9
                     rw [F6] at B5
                     go_wp2_with fail
                     refine (A4 _).mono ?_;rintro e w0 ⟨rfl,rfl⟩
                     go_wp2_with fail
                     refine (A9 _).mono ?_;rintro e w1 ⟨rfl,A1⟩
                     go_wp2_with fail
                     refine (B5 _).mono ?_;rintro e w2 ⟨rfl,B7⟩
                     go_wp2_with fail
                     have A8:=((B2.call A1).call B7).drew
                     have B3:Below w.heap.size w w2.drew:=(hb.trans ((Aa A1 B7).mono (by omega))).drew
                     clear B2 A1 B7 hb
                     have F5:=B3.size
                     have G1:IntKind.u8.wrap (z.toNat:Int)=(z.toNat:Int):=by rw [IntKind.wrap_u8];omega
                     have G2:IntKind.i64.wrap ((x:Int)*16)=(x:Int)*16:=by rw [IntKind.wrap_i64];omega
                     have j1:(0:Int)<=(k:Int)+1:=by omega
                     have j2:(0:Int)<=(k:Int)+2:=by omega
                     have t1:((k:Int)+1).toNat=k+1:=by omega
                     have t2:((k:Int)+2).toNat=k+2:=by omega
                     have G3:IntKind.i64.wrap ((k:Int)+1)=(k:Int)+1:=by rw [IntKind.wrap_i64];omega
                     have G4:IntKind.i64.wrap ((k:Int)+2)=(k:Int)+2:=by rw [IntKind.wrap_i64];omega
                     clear A9 B5 A4
                     go_region_held3 (fun _=>True) (trivial)
                      (first
                        | (go_at_call 195;(with_reducible refine (digit_c _ _).mono ?_);rintro e w1 ⟨rfl,A1⟩;replace A8:=A8.call A1;replace B3:=B3.trans (A1.mono B3.size))
                        | (go_at_call 143;(with_reducible refine (Hf w.heap.size w.heap.size acc z _ A8 (by omega) B3.size).mono ?_);rintro e w3 ⟨rfl,hu,F3⟩))
                     all_goals go_wp2_with fail
                     all_goals go_roundw
                     all_goals first | (simp [intOf];omega) | exact A6.out (k+3) z _ _ (by omega) (by omega) (by go_num) HE.out hu (B3.trans F3)
               · have C3:decide ((k:Int)+2<(l.length:Int))=false:=decide_eq_false (by omega)
                 have A3:l.drop (k+1+1)=[]:=List.drop_of_length_le (by omega)
                 have HN:Hid (RdS.readS l=none):=hZ9 (A2.out (by rw [HD.out,A5.out,C7.out,A3,RdS.ER _ B4.out]))
                 clear A3
                 go_wp2_with fail
                 refine (A4 _).mono ?_;rintro e w0 ⟨rfl,rfl⟩
                 go_wp2_with fail
                 go_ret2
                 exact BH.none HN.out hb
           · have C8:decide ((k:Int)+1<(l.length:Int))=false:=decide_eq_false (by omega)
             have C3:decide ((k:Int)+2<(l.length:Int))=false:=decide_eq_false (by omega)
             have A3:l.drop (k+1)=[]:=List.drop_of_length_le (by omega)
             have HN:Hid (RdS.readS l=none):=hZ9 (A2.out (by rw [HD.out,A5.out,A3,RdS.Hr]))
             clear A3
             go_wp2_with fail
             go_ret2
             exact BH.none HN.out hb
         · have A5:=hZ9 h92
           have E6:((c.toNat:Int) !=92)=true:=by rw [bne_iff_ne];exact fun h=>A5.out (CV rfl h)
           clear h92
           have D3:(l.drop (k+1)).isEmpty=decide (k+1=l.length):=by rw [Bool.eq_iff_iff,List.isEmpty_iff,List.drop_eq_nil_iff,decide_eq_true_eq];omega
           have B0:Hid (RdS.CY false (decide (k+1=l.length)) c=true->RdS.readS l=none):=hZ9 (fun h=>A2.out (by rw [HD.out];exact RdS.Jh A5.out (by rw [D3];exact h)))
           have D7:Hid (RdS.CY false (decide (k+1=l.length)) c=false->RdS.Az false (l.drop k)=(RdS.Az false (l.drop (k+1))).map (c :: ·)):=hZ9 (fun h=>by rw [HD.out];exact RdS.Hj A5.out (by rw [D3];exact h))
           have el:((k:Int)==(l.length:Int) - 1)=decide (k+1=l.length):=by rw [Bool.eq_iff_iff,beq_iff_eq,decide_eq_true_eq];omega
           have B8:Hid (∀last,RdS.CY false last c=(RdS.Ar c||c==0||(c==32&&last))):=hZ9 (fun last=>by unfold RdS.CY;simp)
           clear D3
           generalize decide (k+1=l.length)=ql at*
           by_cases hz:c=0
           · have ez:((c.toNat:Int)==0)=true:=by rw [hz];rfl
             have HN:Hid (RdS.readS l=none):=hZ9 (B0.out (by rw [B8.out,hz];simp))
             clear hz
             go_wp2_with fail
             go_ret2
             exact BH.none HN.out hb
           · have HZ:=hZ9 hz
             have ez:((c.toNat:Int)==0)=false:=beq_eq_false_iff_ne.2 (fun h=>HZ.out (CV rfl h))
             clear hz
             have A4:=fun w=>Tryz.strings_IndexByte ⟨#[44,43,34,92,60,62,59]⟩ (c.toNat:Int) w
             have C1:(⟨#[44,43,34,92,60,62,59]⟩:ByteArray).data.toList=RdS.Eb:=rfl
             have C6:((c.toNat:Int).toNat.toUInt8)=c:=by rw [Int.toNat_natCast];exact UInt8.ofNat_toNat
             rw [C1,C6] at A4
             clear C1 C6
             have C4:=hZ9 (Ll c)
             generalize Lib.indexByte RdS.Eb c=ix at*
             replace A4:=fun w=>(A4 w).mono (fun e w' (h:_/\_)=>(⟨h.1,h.2.symm⟩:e=.returned (.int .i64 ix)/\w=w'))
             by_cases A7:0<=ix
             · have HN:Hid (RdS.readS l=none):=hZ9 (B0.out (by rw [B8.out,<-C4.out,decide_eq_true A7];simp))
               go_wp2_with fail
               refine (A4 _).mono ?_;rintro e w0 ⟨rfl,rfl⟩
               go_wp2_with fail
               go_ret2
               exact BH.none HN.out hb
             · have B6:decide (0<=ix)=false:=decide_eq_false A7
               have HS:Hid (RdS.Ar c=false):=hZ9 (by rw [<-C4.out];exact B6)
               clear A7
               by_cases A0:c=32
               · have D2:((c.toNat:Int)==32)=true:=by rw [A0];rfl
                 cases ql with
                 | true=>
                  have HN:Hid (RdS.readS l=none):=hZ9 (B0.out (by rw [B8.out,A0];simp))
                  clear A0
                  go_wp2_with fail
                  refine (A4 _).mono ?_;rintro e w0 ⟨rfl,rfl⟩
                  go_wp2_with fail
                  go_ret2
                  exact BH.none HN.out hb
                 | false=>
                  have HE:=hZ9 (D7.out (by rw [B8.out,HS.out,A0];rfl))
                  clear A0
                  go_wp2_with fail
                  refine (A4 _).mono ?_;rintro e w0 ⟨rfl,rfl⟩
                  go_wp2_with fail
                  refine (Hf w.heap.size w.heap.size acc c _ B2 (by omega) (by omega)).mono ?_
                  rintro e w1 ⟨rfl,hu,A1⟩
                  go_wp2_with fail
                  go_roundw
                  case rel=>exact A6.out (k+1) c _ _ (by omega) (by omega) (by go_num) HE.out hu (hb.trans A1)
                  case measure=>simp [intOf];omega
               · have E1:=hZ9 A0
                 have D2:((c.toNat:Int)==32)=false:=beq_eq_false_iff_ne.2 (fun h=>E1.out (CV rfl h))
                 have HE:=hZ9 (D7.out (by rw [B8.out,HS.out,show (c==0)=false from by simpa using HZ.out,show (c==32)=false from by simpa using E1.out];rfl))
                 clear A0
                 go_wp2_with fail
                 refine (A4 _).mono ?_;rintro e w0 ⟨rfl,rfl⟩
                 go_wp2_with fail
                 refine (Hf w.heap.size w.heap.size acc c _ B2 (by omega) (by omega)).mono ?_
                 rintro e w1 ⟨rfl,hu,A1⟩
                 go_wp2_with fail
                 go_roundw
                 case rel=>exact A6.out (k+1) c _ _ (by omega) (by omega) (by go_num) HE.out hu (hb.trans A1)
                 case measure=>simp [intOf];omega
       · have A3:l.drop k=[]:=List.drop_of_length_le (by omega)
         have HN:Hid (RdS.readS l=some acc):=hZ9 (by rw [C9.out,A3];simp [RdS.Az])
         have D6:=Tryz.Builder_String_any w.heap.size w.heap.size acc wr (by first | exact B2 | simpa [Bld,Ag,Lib.byteCells] using B2) (by omega)
         clear A3
         go_wp2_with fail
         refine D6.mono ?_;rintro e w1 ⟨rfl,A1⟩
         go_wp2_with fail
         go_ret2
         exact ⟨by rw [HN.out];rfl,hb.trans A1⟩
end
section
open Go.RowKit
open FiS (Fi)
def Ge (C b:Nat) (l:List UInt8) (w:World):Prop:=b<C/\C<=w.heap.size/\∃p v,(p=.pointer none\/p=.pointer (some ⟨b,0,none⟩))/\w.heap[b]?=some (.cells #[p,v] 159 (0,0))/\OwnB w C v l
def Bh (C b:Nat) (w w':World):Prop:=Below b w w'/\∀k,k<C->k≠b->w'.heap[k]?=w.heap[k]?
theorem Bh.refl (C b:Nat) (w:World):Bh C b w w:=⟨Below.refl _ _,fun _ _ _=>rfl⟩
theorem Bh.trans {C b:Nat} {u v w:World} (h:Bh C b u v) (h2:Bh C b v w):Bh C b u w:=⟨h.1.trans h2.1,fun k hk hb=>(h2.2 k hk hb).trans (h.2 k hk hb)⟩
theorem Bh.of_below {C b:Nat} {w w':World} (h:Below C w w') (hb:b<=C):Bh C b w w':=⟨h.mono hb,fun k hk _=>h.block k hk⟩
theorem Bh.alloc {C b:Nat} {w w':World} (h:Bh C b w w') (hb:b<=C) (hC:C<=w'.heap.size) (o:Obj):Bh C b w (w'.alloc o):=h.trans (Bh.of_below ((Af w' o).mono hC) hb)
theorem Bh.drew {C b:Nat} {w w':World} (h:Bh C b w w'):Bh C b w w'.drew:=⟨h.1.drew,h.2⟩
theorem Bh.setCell {C b:Nat} {w w':World} (h:Bh C b w w') (i:Nat) (u:Value):Bh C b w (w'.setCell ⟨b,i,none⟩ u):=⟨h.1.setCell (p:=⟨b,i,none⟩) (Nat.le_refl _) u,fun k hk hb=>by
 rw [Below.heap_setCell _ _ _ _ hb];exact h.2 k hk hb⟩
theorem Bh.bytes {C b g:Nat} {w w':World} {l:List UInt8} (h:Bh C b w w') (hg:g<C) (A1:g≠b) (A0:BytesIn w g l):BytesIn w' g l:=by
 have e:=h.2 g hg A1
 refine ⟨Nat.lt_of_lt_of_le A0.1 h.1.size,fun j hj=>⟨(World.cell?_of_block (a:=⟨g,j,none⟩) e).trans (A0.cell hj),?_⟩⟩
 have h2:=A0.thaw hj
 unfold World.frozen? at h2⊢
 rw [e];exact h2
theorem Ge.call {C b:Nat} {l:List UInt8} {w w':World} (h:Ge C b l w) (hb:Below w.heap.size w w'):Ge C b l w':=by
 obtain ⟨h1,h2,p,v,hp,h3,h4⟩:=h
 exact ⟨h1,Nat.le_trans h2 hb.size,p,v,hp,(hb.block b (by omega)).trans h3,h4.call hb⟩
theorem Ge.alloc {C b:Nat} {l:List UInt8} {w:World} (h:Ge C b l w) (o:Obj):Ge C b l (w.alloc o):=h.call (Af w o)
theorem Ge.drew {C b:Nat} {l:List UInt8} {w:World} (h:Ge C b l w):Ge C b l w.drew:=h.call ((Below.refl _ _).drew)
theorem Ge.bld {C b:Nat} {l:List UInt8} {w:World} (h:Ge C b l w):Bld b b l w:=by
 obtain ⟨h1,h2,p,v,hp,h3,h4⟩:=h
 have A1:v.ownBlock≠some b:=fun e=>by have:=(World.ownsRow.lt h4 b e).1;omega
 have A0:w.ownsRow b 5 1 v (l.map Ag).length (l.map Ag):=by
  rw [List.length_map];exact World.ownsRow.mono h4 (by omega)
 rcases hp with rfl | rfl
 · exact .inl ⟨Nat.le_refl _,v,h3,A0,A1⟩
 · exact .inr ⟨Nat.le_refl _,v,h3,A0,A1⟩
theorem Ge.fresh {w w':World} (hb:Below (w.heap.size+1) (w.alloc (.cells #[.pointer none,.slice none 0 0] 159)) w'):Ge w'.heap.size w.heap.size [] w':=by
 have hs:=hb.size
 refine ⟨by simp at hs;omega,Nat.le_refl _,_,_,.inl rfl,?_,OwnB.empty _ _⟩
 rw [hb.block _ (by omega)]
 show (w.heap.push _)[w.heap.size]?=_
 simp
theorem Ge.stored {C b:Nat} {l l':List UInt8} {w w2:World} {v v':Value} (A4:b<C) (hC:C<=w.heap.size) (A5:w.heap[b]?=some (.cells #[.pointer (some ⟨b,0,none⟩),v] 159 (0,0))) (A1:OwnB w C v l')
  (hg:w.grownBy w2 v.ownBlock) (A0:OwnB w2 C v' l):w2.cell? ⟨b,0,none⟩=some (.pointer (some ⟨b,0,none⟩))/\w2.cell? ⟨b,1,none⟩=some v/\w2.frozen? ⟨b,1,none⟩=false/\Ge C b l (w2.setCell ⟨b,1,none⟩ v'):=by
 have A6:v.ownBlock≠some b:=fun e=>by have:=(World.ownsRow.lt A1 b e).1;omega
 have A3:v'.ownBlock≠some b:=fun e=>by have:=(World.ownsRow.lt A0 b e).1;omega
 have A2:w2.heap[b]?=some (.cells #[.pointer (some ⟨b,0,none⟩),v] 159 (0,0)):=by
  rw [hg.block b (by omega) (fun e=>A6 e.symm)];exact A5
 refine ⟨by rw [Lib.cell_of_heap A2];rfl,by rw [Lib.cell_of_heap A2];rfl,Lib.frozen_of_heap A2 1,A4,?_,.pointer (some ⟨b,0,none⟩),v',.inr rfl,by simp [World.setCell,Array.getElem?_modify,A2],?_⟩
 · have:=hg.size;simp [World.setCell];omega
 · exact World.ownsRow.kept A0 (row:=some b) ⟨rfl,rfl,rfl,by simp [World.setCell],fun k _ hk=>Below.heap_setCell _ _ _ _ (fun e=>hk (by simp [e]))⟩ (Or.inr A3)
end
section
open Go.RowKit
attribute [local go_sem ↓] Go.wp_at_zero Go.wp_at_succ
def MP (l:List UInt8) (w:World) (e:Ending) (w':World):Prop:=e=.returned (.tuple #[.string ⟨((FiS.FV l).getD []).toArray⟩,.bool (FiS.FV l).isSome])/\Below w.heap.size w w'
theorem MP.none {l:List UInt8} {w w':World} (h:FiS.FV l=none) (hb:Below w.heap.size w w'):MP l w (.returned (.tuple #[.string ⟨#[]⟩,.bool false])) w':=by
 unfold MP;rw [h];exact ⟨rfl,hb⟩
theorem MP.some {l acc:List UInt8} {w w':World} (h:FiS.FV l=some acc) (hb:Below w.heap.size w w'):MP l w (.returned (.tuple #[.string ⟨acc.toArray⟩,.bool true])) w':=by
 unfold MP;rw [h];exact ⟨rfl,hb⟩
end
end Go.Proofs.YtgngjfjaelgaeaaGreatDoor
