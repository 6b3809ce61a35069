/- The walk of the library's LastIndexAny at the two signs: where the last of them stands in any text, whatever its bytes. Conditions: as stated. -/
import Derived.Lib.SpaceUEq
import Derived.Test.YtgngjfjaelgaeaaGreatDoorKMem
set_option maxRecDepth 100000
namespace Go.Proofs.YtgngjfjaelgaeaaGreatDoor
section
open Go.RowKit
theorem Aav {P:Program} {f:FuncId} {args:Array Value} {w:World} {a n:Nat} {v:Value}
  (h:Calls P f args (w.drewN (a+n)) fun e w'=>e=.returned v/\w'=w.drewN (a+n)):
  Calls P f args (w.drewN (a+n)) fun e A0=>e=.returned v/\∃m,A0=w.drewN (a+m):=
 h.mono fun _ _ ⟨he,hm⟩=>⟨he,n,hm⟩
theorem Ld (w:World):
  Calls Tryz.prog 234 #[.string ⟨#[43,45]⟩,.int .i32 65533] w fun e w'=>e=.returned (.int .i64 (-1))/\Below w.heap.size w w':=by
 have n0:=run_next_ascii (P:=Tryz.prog) w ⟨#[43,45]⟩ 0 0 (by decide) (by decide)
 have n1:=run_next_ascii (P:=Tryz.prog) w ⟨#[43,45]⟩ 1 0 (by decide) (by decide)
 have n2:=run_next_end (P:=Tryz.prog) w ⟨#[43,45]⟩ 2 0 (by decide)
 go_enter Tryz.func234,Tryz.ntmps234
 go_wp2_with fail
 refine wp_loop_rounds 4 ?_
 repeat any_goals (rw [rounds_succ];go_wp2_with fail)
 go_ret
 exact ⟨rfl,(Below.refl _ _).alloc (Nat.le_refl _) _⟩
theorem Ss (r:Int) (c0 c1:UInt8) (h1:128<=r) (h2:r<=2047) (A2:Utf8.encode r=⟨#[c0,c1]⟩) (hc:128<=c1.toNat) (w:World):
  Calls Tryz.prog 234 #[.string ⟨#[43,45]⟩,.int .i32 r] w fun e w'=>e=.returned (.int .i64 (-1))/\Below w.heap.size w w':=by
 have h3:(r==65533)=false:=by simp;omega
 have hv:Lib.validRune r=true:=decide_eq_true (by omega)
 have A1:((((⟨#[43,45]⟩:ByteArray)[1]'(by decide)).toNat:Int) !=(((⟨#[c0,c1]⟩:ByteArray)[1]'(by exact Nat.lt_succ_self 1)).toNat:Int))=true:=by
  have:((45:Int) !=(c1.toNat:Int))=true:=by rw [bne_iff_ne];omega
  exact this
 go_enter Tryz.func234,Tryz.ntmps234
 go_wp2_with fail
 refine (Tryz.utf8_ValidRune r _).mono ?_
 rintro e w1 ⟨rfl,rfl⟩
 go_wp2_with fail
 go_step3
 go_wp2_with fail
 refine wp_loop_rounds 1 ?_
 rw [rounds_succ]
 go_wp2_with fail
 go_step3
 go_wp2_with fail
 go_quiet (fail)
 go_wp2_with fail
 go_quiet ((go_at_call 173;exact Aav (Tryz.strings_IndexByte _ _ _)))
 have A0:∀c,Lib.indexByte [] c=-1:=fun _=>rfl
 go_wp2_with fail
 simp only [Exit.noGoto_ret,Exit.inBlock,Exit.then]
 go_ret
 exact ⟨rfl,below_drewN _ _⟩
theorem OY (r:Int) (c0 c1 c2:UInt8) (h1:128<=r) (h3:(r==65533)=false) (hv:Lib.validRune r=true) (A0:Utf8.encode r=⟨#[c0,c1,c2]⟩) (w:World):
  Calls Tryz.prog 234 #[.string ⟨#[43,45]⟩,.int .i32 r] w fun e w'=>e=.returned (.int .i64 (-1))/\Below w.heap.size w w':=by
 go_enter Tryz.func234,Tryz.ntmps234
 go_wp2_with fail
 refine (Tryz.utf8_ValidRune r _).mono ?_
 rintro e w1 ⟨rfl,rfl⟩
 go_wp2_with fail
 go_step3
 go_wp2_with fail
 refine wp_loop_rounds 1 ?_
 rw [rounds_succ]
 go_wp2_with fail
 rw [Exit.noGoto_ret]
 go_ret
 exact ⟨rfl,Below.refl _ _⟩
theorem Qm (r:Int) (c0 c1 c2 c3:UInt8) (h1:128<=r) (h3:(r==65533)=false) (hv:Lib.validRune r=true) (A0:Utf8.encode r=⟨#[c0,c1,c2,c3]⟩) (w:World):
  Calls Tryz.prog 234 #[.string ⟨#[43,45]⟩,.int .i32 r] w fun e w'=>e=.returned (.int .i64 (-1))/\Below w.heap.size w w':=by
 go_enter Tryz.func234,Tryz.ntmps234
 go_wp2_with fail
 refine (Tryz.utf8_ValidRune r _).mono ?_
 rintro e w1 ⟨rfl,rfl⟩
 go_wp2_with fail
 go_step3
 go_wp2_with fail
 refine wp_loop_rounds 1 ?_
 rw [rounds_succ]
 go_wp2_with fail
 rw [Exit.noGoto_ret]
 go_ret
 exact ⟨rfl,Below.refl _ _⟩
theorem Su (r:Int) (h1:128<=r) (h3:(r==65533)=false) (hv:Lib.validRune r=false) (w:World):
  Calls Tryz.prog 234 #[.string ⟨#[43,45]⟩,.int .i32 r] w fun e w'=>e=.returned (.int .i64 (-1))/\Below w.heap.size w w':=by
 go_enter Tryz.func234,Tryz.ntmps234
 go_wp2_with fail
 refine (Tryz.utf8_ValidRune r _).mono ?_
 rintro e w1 ⟨rfl,rfl⟩
 go_wp2_with fail
 go_ret
 exact ⟨rfl,Below.refl _ _⟩
theorem Yf {r:Int} (h1:128<=r) (h2:r<=2047):∃c0 c1,Utf8.encode r=⟨#[c0,c1]⟩/\128<=c1.toNat:=by
 have hv:Utf8.valid r=true:=by unfold Utf8.valid;simp;omega
 refine ⟨UInt8.ofNat (0xC0+r.toNat / 64),UInt8.ofNat (0x80+r.toNat % 64),?_,?_⟩
 · unfold Utf8.encode
   simp only [hv,if_true]
   rw [if_neg (by omega),if_pos (by omega)]
 · rw [UInt8.toNat_ofNat'];omega
theorem Ue {r:Int} (h1:2048<=r) (h2:r<=65535) (hv:Lib.validRune r=true):∃c0 c1 c2,Utf8.encode r=⟨#[c0,c1,c2]⟩:=by
 have A0:=of_decide_eq_true hv
 have hv:Utf8.valid r=true:=by unfold Utf8.valid;simp;omega
 unfold Utf8.encode
 simp only [hv,if_true]
 rw [if_neg (by omega),if_neg (by omega),if_pos (by omega)]
 exact ⟨_,_,_,rfl⟩
theorem VY {r:Int} (h1:65536<=r) (hv:Lib.validRune r=true):∃c0 c1 c2 c3,Utf8.encode r=⟨#[c0,c1,c2,c3]⟩:=by
 have A0:=of_decide_eq_true hv
 have hv:Utf8.valid r=true:=by unfold Utf8.valid;simp;omega
 unfold Utf8.encode
 simp only [hv,if_true]
 rw [if_neg (by omega),if_neg (by omega),if_neg (by omega)]
 exact ⟨_,_,_,_,rfl⟩
theorem Qn (r:Int) (h1:128<=r) (w:World):
  Calls Tryz.prog 234 #[.string ⟨#[43,45]⟩,.int .i32 r] w fun e w'=>e=.returned (.int .i64 (-1))/\Below w.heap.size w w':=by
 by_cases he:r=65533
 · subst he;exact Ld w
 have h3:(r==65533)=false:=beq_eq_false_iff_ne.2 he
 cases hv:Lib.validRune r with
 | false=>exact Su r h1 h3 hv w
 | true=>
  by_cases h2:r<=2047
  · obtain ⟨c0,c1,A0,hc⟩:=Yf h1 h2
    exact Ss r c0 c1 h1 h2 A0 hc w
  · by_cases h4:r<=65535
    · obtain ⟨c0,c1,c2,A0⟩:=Ue (by omega) h4 hv
      exact OY r c0 c1 c2 h1 h3 hv A0 w
    · obtain ⟨c0,c1,c2,c3,A0⟩:=VY (by omega) hv
      exact Qm r c0 c1 c2 c3 h1 h3 hv A0 w
theorem JL (c:UInt8) (w:World):
  Calls Tryz.prog 234 #[.string ⟨#[43,45]⟩,.int .i32 (if c.toNat<128 then c.toNat else 65533)] w fun e w'=>(∃n:Int,e=.returned (.int .i64 n)/\(PhS.isSign c=true->0<=n)/\(PhS.isSign c=false->n<0))/\Below w.heap.size w w':=by
 by_cases hc:c.toNat<128
 · rw [if_pos hc]
   refine (Tryz.strings_IndexRune_ascii ⟨#[43,45]⟩ c.toNat w (by omega) (by omega)).mono ?_
   rintro e w' ⟨rfl,rfl⟩
   refine ⟨⟨_,rfl,?_,?_⟩,Below.refl _ _⟩
   · intro h
     unfold PhS.isSign at h
     simp only [Int.toNat_natCast]
     rw [Bool.or_eq_true,beq_iff_eq,beq_iff_eq] at h
     rcases h with rfl | rfl
     · decide
     · decide
   · intro h
     unfold PhS.isSign at h
     rw [Bool.or_eq_false_iff,beq_eq_false_iff_ne,beq_eq_false_iff_ne] at h
     simp only [Int.toNat_natCast]
     have e:c.toNat.toUInt8=c:=by simp
     have e1:((43:UInt8)==c)=false:=beq_eq_false_iff_ne.2 (fun h'=>h.1 h'.symm)
     have e2:((45:UInt8)==c)=false:=beq_eq_false_iff_ne.2 (fun h'=>h.2 h'.symm)
     rw [e]
     simp [Lib.indexByte,e1,e2]
 · rw [if_neg hc]
   refine (Ld w).mono ?_
   rintro e w' ⟨rfl,hb⟩
   refine ⟨⟨_,rfl,?_,fun _=>by decide⟩,hb⟩
   intro h
   exfalso
   unfold PhS.isSign at h
   rw [Bool.or_eq_true,beq_iff_eq,beq_iff_eq] at h
   rcases h with rfl | rfl
   · exact hc (by decide)
   · exact hc (by decide)
theorem Nn (n b0 b1 b2 b3:Nat) (h:128<=b0):128<=(Lib.decodeN n b0 b1 b2 b3).1/\
  ((Lib.decodeN n b0 b1 b2 b3).2=1\/((Lib.decodeN n b0 b1 b2 b3).2=2/\128<=b1)\/((Lib.decodeN n b0 b1 b2 b3).2=3/\128<=b1/\128<=b2)\/((Lib.decodeN n b0 b1 b2 b3).2=4/\128<=b1/\128<=b2/\128<=b3)):=by
 unfold Lib.decodeN
 repeat' split
 all_goals first | (exfalso;omega) | skip
 all_goals
  refine ⟨by show 128<=_;first | omega | decide,?_⟩
  first
   | (left;rfl)
   | (right;left;exact ⟨rfl,by omega⟩)
   | (right;right;left;exact ⟨rfl,by omega,by omega⟩)
   | (right;right;right;exact ⟨rfl,by omega,by omega,by omega⟩)
def AeP (l:List UInt8):Prop:=∀c ∈ l,128<=c.toNat
theorem Uf {l:List UInt8} (h:∀j,j<l.length->128<=(l.getD j 0).toNat):AeP l:=by
 intro c hc
 obtain ⟨j,hj,rfl⟩:=List.getElem_of_mem hc
 have:=h j hj
 rwa [List.getD_eq_getElem?_getD,List.getElem?_eq_getElem hj,Option.getD_some] at this
theorem Aaw {c:UInt8} (h:128<=c.toNat):PhS.isSign c=false:=by
 unfold PhS.isSign
 rw [Bool.or_eq_false_iff,beq_eq_false_iff_ne,beq_eq_false_iff_ne]
 exact ⟨fun e=>by subst e;revert h;decide,fun e=>by subst e;revert h;decide⟩
theorem Aax (l:List UInt8) (h:l≠[]):
  (∃c,l.getLast?=some c/\c.toNat<128/\Lib.decodeLastL l=(c.toNat,1))\/
  (128<=(Lib.decodeLastL l).1/\1<=(Lib.decodeLastL l).2/\(Lib.decodeLastL l).2<=l.length/\AeP (l.drop (l.length - (Lib.decodeLastL l).2))):=by
 have hl:0<l.length:=List.length_pos_iff.2 h
 have hg:l.getLast?=some (l.getD (l.length - 1) 0):=by
  rw [List.getLast?_eq_getElem?,List.getElem?_eq_getElem (by omega),List.getD_eq_getElem?_getD,List.getElem?_eq_getElem (by omega)];rfl
 by_cases hc:(l.getD (l.length - 1) 0).toNat<128
 · left
   refine ⟨_,hg,hc,?_⟩
   unfold Lib.decodeLastL
   rw [if_neg h,if_pos hc]
 · right
   have hw:=Lib.decodeLastL_width l hl
   refine ⟨?_,hw.1,hw.2,?_⟩
   all_goals
    unfold Lib.decodeLastL
    rw [if_neg h,if_neg hc]
    simp only
    have hs:=Lib.lastStart_lt' l h
    generalize hq:l.drop (Lib.lastStart l)=t
    have A3:t.length=l.length - Lib.lastStart l:=by rw [<-hq,List.length_drop]
    have A1:t.getD (t.length - 1) 0=l.getD (l.length - 1) 0:=by
     rw [<-hq,Lib.getD_dropU];congr 1;rw [List.length_drop];omega
    rw [Lib.decodeL_N]
    split
   · rename_i A0
     by_cases h0:128<=(t.getD 0 0).toNat
     · exact (Nn _ _ _ _ _ h0).1
     · exfalso
       rw [Lib.decodeN_ascii _ _ _ _ _ (by omega)] at A0
       have:t.length=1:=by simp only at A0;omega
       rw [this] at A1
       rw [A1] at h0
       omega
   · show 128<=Utf8.runeError
     decide
   · rename_i A0
     by_cases h0:128<=(t.getD 0 0).toNat
     · have hd:=(Nn t.length _ (t.getD 1 0).toNat (t.getD 2 0).toNat (t.getD 3 0).toNat h0).2
       have e:l.length - (Lib.decodeN t.length (t.getD 0 0).toNat (t.getD 1 0).toNat (t.getD 2 0).toNat (t.getD 3 0).toNat).2=Lib.lastStart l:=by omega
       rw [e,hq]
       refine Uf fun j hj=>?_
       have A4:j<(Lib.decodeN t.length (t.getD 0 0).toNat (t.getD 1 0).toNat (t.getD 2 0).toNat (t.getD 3 0).toNat).2:=by omega
       rcases hd with hd | ⟨hd,d1⟩ | ⟨hd,d1,d2⟩ | ⟨hd,d1,d2,d3⟩
       · obtain rfl:j=0:=by omega
         exact h0
       · obtain rfl | rfl:j=0\/j=1:=by omega
         · exact h0
         · exact d1
       · obtain rfl | rfl | rfl:j=0\/j=1\/j=2:=by omega
         · exact h0
         · exact d1
         · exact d2
       · obtain rfl | rfl | rfl | rfl:j=0\/j=1\/j=2\/j=3:=by omega
         · exact h0
         · exact d1
         · exact d2
         · exact d3
     · exfalso
       rw [Lib.decodeN_ascii _ _ _ _ _ (by omega)] at A0
       have:t.length=1:=by simp only at A0;omega
       rw [this] at A1
       rw [A1] at h0
       omega
   · rw [Lib.drop_last1 l hl]
     intro c A2
     have:c=l.getD (l.length - 1) 0:=by simpa using A2
     subst this
     omega
theorem Yg (l:List UInt8) (h:l≠[]):1<=(Lib.decodeLastL l).2/\(Lib.decodeLastL l).2<=l.length/\
  ((∃c:UInt8,Lib.decodeLastL l=(c.toNat,1)/\c.toNat<128/\PhS.lastW PhS.isSign l=if PhS.isSign c then ((l.length - 1:Nat):Int) else PhS.lastW PhS.isSign (l.take (l.length - 1)))\/
   (128<=(Lib.decodeLastL l).1/\PhS.lastW PhS.isSign l=PhS.lastW PhS.isSign (l.take (l.length - (Lib.decodeLastL l).2)))):=by
 rcases Aax l h with ⟨c,hg,hc,hd⟩ | ⟨h1,h2,h3,h4⟩
 · have hl:0<l.length:=List.length_pos_iff.2 h
   refine ⟨by rw [hd];exact Nat.le_refl _,by rw [hd];exact hl,.inl ⟨c,hd,hc,?_⟩⟩
   obtain ⟨ys,rfl⟩:=List.getLast?_eq_some_iff.1 hg
   rw [PhS.lastW_snoc]
   simp
 · refine ⟨h2,h3,.inr ⟨h1,?_⟩⟩
   conv=>lhs;rw [<-List.take_append_drop (l.length - (Lib.decodeLastL l).2) l]
   exact PhS.lastW_append_none _ _ _ fun c hc=>Aaw (h4 c hc)
end
section
open Go.RowKit
def LQ (s:ByteArray) (w:World) (e:Ending) (w':World):Prop:=e=.returned (.int .i64 (PhS.lastW PhS.isSign s.data.toList))/\Below w.heap.size w w'
theorem Aay (s:ByteArray) (h:s.size=1) (h0:0<s.size):PhS.lastW PhS.isSign s.data.toList=if PhS.isSign s[0] then 0 else -1:=by
 have hl:s.data.toList=[s[0]]:=by
  apply List.ext_getElem
  · simpa using h
  · intro i h1 h2
    have:i=0:=by simp at h2;exact h2
    subst this
    rfl
 rw [hl]
 unfold PhS.lastW
 simp [PhS.lastW]
theorem AdW (s:ByteArray) (h:s.size=1) (w:World):
  Calls Tryz.prog 207 #[.string s,.string ⟨#[43,45]⟩] w (LQ s w):=by
 have h0:0<s.size:=by omega
 have HL:=hZ9 (Aay s h h0)
 have hb:=JL s[0]
 have h256:s[0].toNat<256:=UInt8.toNat_lt _
 by_cases hc:s[0].toNat<128
 all_goals
  first | simp only [if_pos hc] at hb | simp only [if_neg hc] at hb
  go_enter Tryz.func207,Tryz.ntmps207
  go_wp2_with fail
  refine (hb _).mono ?_
  rintro e w1 ⟨⟨n,rfl,A1,A0⟩,A2⟩
  by_cases hs:PhS.isSign s[0]=true
  · have hn:=A1 hs
    clear A1 A0
    go_wp2_with fail
    go_ret
    exact ⟨by rw [HL.out,if_pos hs];rfl,A2⟩
  · have hn:=A0 (by simpa using hs)
    clear A1 A0
    go_wp2_with fail
    go_ret
    exact ⟨by rw [HL.out,if_neg hs];rfl,A2⟩
def AdX (s:ByteArray) (w:World) (i:Value) (w':World):Prop:=
 ∃k:Nat,k<=s.size/\i=.int .i64 k/\Env w'/\Below w.heap.size w w'/\Hid (PhS.lastW PhS.isSign (s.data.toList.take k)=PhS.lastW PhS.isSign s.data.toList)
theorem AdY (s:ByteArray) (h:¬s.size=1) (h8:s.size<=8) (w:World) (hE:Env w):
  Calls Tryz.prog 207 #[.string s,.string ⟨#[43,45]⟩] w (LQ s w):=by
 have B3:¬8<s.size:=by omega
 go_enter Tryz.func207,Tryz.ntmps207
 go_wp2_with fail
 refine (Tryz.strings_shouldUseASCIISet _ _).mono ?_
 rintro e w1 ⟨rfl,B2⟩
 subst B2
 go_wp2_with fail
 go_loopw [13] (fun i w'=>AdX s w1 i w') (fun i _=>(intOf i).toNat)
 case atStart=>exact ⟨s.size,Nat.le_refl _,rfl,hE,Below.refl _ _,hZ9 (by rw [List.take_of_length_le (by simp)])⟩
 case round=>
  obtain ⟨k,hk,rfl,A5,A4,HK⟩:=hrel
  by_cases B4:0<k
  · have A0:=Yg (s.extract 0 k).data.toList (by intro hh;have:=congrArg List.length hh;rw [List.length_nil,Array.length_toList,ByteArray.size_data,ByteArray.size_extract] at this;omega)
    have A9:(s.extract 0 k).size<=9223372036854775807:=by simp;omega
    have A1:=Tryz.utf8_DecodeLastRuneInString (s.extract 0 k) wr A9 A5.utf
    have A8:(s.extract 0 k).data.toList=s.data.toList.take k:=by simp
    rw [A8] at A0 A1
    have hlen:(s.data.toList.take k).length=k:=by simp;omega
    rw [hlen] at A0
    generalize Lib.decodeLastL (s.data.toList.take k)=d at A0 A1
    obtain ⟨r,n⟩:=d
    simp only at A0 A1
    obtain ⟨B5,B6,A0⟩:=A0
    have A6:∀m,m<=k->(s.data.toList.take k).take m=s.data.toList.take m:=fun m hm=>by rw [List.take_take,Nat.min_eq_left hm]
    rw [A6 _ (by omega),A6 _ (by omega)] at A0
    have B1:=hZ9 A0
    clear A0 hlen A8 A6 A9
    have B0:IntKind.i64.wrap ((k:Int) - n)=(k:Int) - n:=Go.IntWalk.i64_in _ (by omega)
    go_wp2_with fail
    refine A1.mono ?_
    rintro e w2 ⟨rfl,A3⟩
    rcases B1.out with ⟨c,hd,hc,hv⟩ | ⟨hr,hv⟩
    · have HV:=hZ9 hv
      clear hv
      simp only [Prod.mk.injEq] at hd
      obtain ⟨rfl,rfl⟩:=hd
      have hb:=JL c
      simp only [if_pos hc] at hb
      go_wp2_with fail
      refine (hb _).mono ?_
      rintro e w3 ⟨⟨n,rfl,hp,hm⟩,A2⟩
      by_cases hs:PhS.isSign c=true
      · have hn:=hp hs
        clear hp hm
        go_wp2_with fail
        go_ret
        refine ⟨?_,Aa A4 (Aa A3 A2)⟩
        rw [<-HK.out,HV.out,if_pos hs]
        rw [show ((k - 1:Nat):Int)=(k:Int) - 1 by omega];rfl
      · have hn:=hm (by simpa using hs)
        clear hp hm
        go_wp2_with fail
        go_roundw
        case rel=>
         refine ⟨k - 1,by omega,by rw [show ((k - 1:Nat):Int)=(k:Int) - 1 by omega],(A5.below A3).below A2,Aa A4 (Aa A3 A2),hZ9 ?_⟩
         rw [<-HK.out,HV.out,if_neg hs]
        case measure=>simp [intOf];omega
    · have HV:=hZ9 hv
      clear hv
      go_wp2_with fail
      refine (Qn _ (by exact_mod_cast hr) _).mono ?_
      rintro e w3 ⟨rfl,A2⟩
      go_wp2_with fail
      go_roundw
      case rel=>
       refine ⟨k - n,by omega,by rw [show ((k - n:Nat):Int)=(k:Int) - n by omega],(A5.below A3).below A2,Aa A4 (Aa A3 A2),hZ9 ?_⟩
       rw [<-HK.out,HV.out]
      case measure=>simp [intOf];omega
  · have A7:k=0:=by omega
    subst A7
    have HF:Hid (PhS.lastW PhS.isSign s.data.toList=-1):=hZ9 (by rw [<-HK.out];rfl)
    go_wp2_with fail
    go_ret
    exact ⟨by rw [HF.out];rfl,A4⟩
def AdZ (s:ByteArray) (i:Value):Prop:=
 ∃k:Nat,k<=s.size/\i=.int .i64 ((k:Int) - 1)/\Hid (PhS.lastW PhS.isSign (s.data.toList.take k)=PhS.lastW PhS.isSign s.data.toList)
theorem Sv (c:UInt8):([43,45]:List UInt8).contains c=PhS.isSign c:=by
 unfold PhS.isSign
 rw [List.contains_cons,List.contains_cons,List.contains_nil,Bool.or_false]
theorem WX:(Tryz.prog.info? 267).map (fun i=>(i.zero,i.size))=some (some (.agg (Array.replicate 256 (.bool false))),256):=by kernel_rfl
theorem Np (w:World) (a b:Obj):Below w.heap.size w ((w.alloc a).alloc b):=((Below.refl _ _).alloc (Nat.le_refl _) _).alloc (Nat.le_trans (Nat.le_refl _) ((Below.refl _ _).alloc (Nat.le_refl _) _).size) _
theorem AcF (s:ByteArray) (h8:8<s.size) (hsz:s.size<=281474976710656) (w:World):
  Calls Tryz.prog 207 #[.string s,.string ⟨#[43,45]⟩] w (LQ s w):=by
 have h1:¬s.size=1:=by omega
 have A1:Hid (∀x:UInt8,(Lib.setCells [43,45])[x.toNat]?=some (.bool (PhS.isSign x))):=hZ9 fun x=>by rw [Lib.setCells_at,Sv]
 go_enter Tryz.func207,Tryz.ntmps207
 go_wp2_with fail
 refine (Tryz.strings_shouldUseASCIISet _ _).mono ?_
 rintro e w1 ⟨rfl,A7⟩
 subst A7
 have A3:=Tryz.strings_makeASCIISet (zero_of_info WX).1 ⟨#[43,45]⟩ w1 (by decide) (by
  intro j b hj
  match j with
  | 0=>simp at hj;subst hj;decide
  | 1=>simp at hj;subst hj;decide
  | j+2=>simp at hj)
 have A4:(storeCells ⟨w1.heap.size+1,0,none⟩ (Lib.setCells [43,45]).toList 0).run Tryz.prog ((w1.alloc (.cells (Lib.setCells [43,45]) 267)).alloc (.cells (Array.replicate 256 (.bool false)) 267))=.ok () ((w1.alloc (.cells (Lib.setCells [43,45]) 267)).alloc (.cells (Lib.setCells [43,45]) 267)):=by
  have:=run_storeCells_new (P:=Tryz.prog) (w1.alloc (.cells (Lib.setCells [43,45]) 267)) 267 (Array.replicate 256 (.bool false)) (Lib.setCells [43,45]) (by rw [Lib.setCells_size];exact (zero_of_info WX).2) (by rw [Lib.setCells_size,Array.size_replicate]) (Lib.setCells_one _)
  simpa using this
 have hcell:∀x:UInt8,((w1.alloc (.cells (Lib.setCells [43,45]) 267)).alloc (.cells (Lib.setCells [43,45]) 267)).cell? ⟨w1.heap.size+1,x.toNat,none⟩=some (.bool (PhS.isSign x)):=fun x=>by
  rw [World.cell?_alloc_at _ _ _ _ (by simp)];exact A1.out x
 have HC:=hZ9 hcell
 clear hcell A1
 go_wp2_with fail
 refine A3.mono ?_
 rintro e w2 ⟨rfl,A5⟩
 subst A5
 go_wp2_with fail
 rw [show Tryz.zeroCells267=Array.replicate 256 (Value.bool false) by kernel_rfl]
 simp only [A4,Result.andThen]
 rw [Oper.upon_skip]
 clear A4 A3
 go_wp2_with fail
 go_loop [8] (fun i=>AdZ s i) (fun i=>(intOf i+1).toNat)
 case atStart=>exact ⟨s.size,Nat.le_refl _,rfl,hZ9 (by rw [List.take_of_length_le (by simp)])⟩
 case round=>
  obtain ⟨k,hk,rfl,HK⟩:=hrel
  by_cases B0:0<k
  · have B1:0<=(k:Int) - 1:=by omega
    have A0:=Tryz.asciiSet_contains (w1.heap.size+1) s[k - 1] (PhS.isSign s[k - 1]) _ (HC.out _)
    have A6:((k:Int) - 1).toNat=k - 1:=by omega
    have HV:Hid (PhS.lastW PhS.isSign (s.data.toList.take k)=if PhS.isSign s[k - 1] then ((k - 1:Nat):Int) else PhS.lastW PhS.isSign (s.data.toList.take (k - 1))):=hZ9 (by
     have:=PhS.take_snoc s (k - 1) (by omega)
     rw [show k - 1+1=k by omega] at this
     rw [this,PhS.lastW_snoc,List.length_take,Array.length_toList,ByteArray.size_data,Nat.min_eq_left (by omega)])
    generalize A8:PhS.isSign s[k - 1]=sg at A0 HV
    clear A8
    go_wp2_with fail
    refine A0.mono ?_
    rintro e w3 ⟨rfl,A9⟩
    subst A9
    cases sg with
    | true=>
     go_wp2_with fail
     go_ret
     refine ⟨?_,Np _ _ _⟩
     rw [<-HK.out,HV.out,show ((k - 1:Nat):Int)=(k:Int) - 1 by omega];simp only [if_true];rfl
    | false=>
     go_wp2_with fail
     go_round
     case rel=>exact ⟨k - 1,by omega,by rw [show ((k - 1:Nat):Int)=(k:Int) - 1 by omega],hZ9 (by rw [<-HK.out,HV.out];rfl)⟩
     case measure=>simp [intOf];omega
  · have A2:k=0:=by omega
    subst A2
    have HF:Hid (PhS.lastW PhS.isSign s.data.toList=-1):=hZ9 (by rw [<-HK.out];rfl)
    go_wp2_with fail
    go_ret
    exact ⟨by rw [HF.out];rfl,Np _ _ _⟩
theorem Ug (s:ByteArray) (hsz:s.size<=281474976710656) (w:World) (hE:Env w):
  Calls Tryz.prog 207 #[.string s,.string ⟨#[43,45]⟩] w (LQ s w):=by
 by_cases h1:s.size=1
 · exact AdW s h1 w
 · by_cases h8:8<s.size
   · exact AcF s h8 hsz w
   · exact AdY s h1 (by omega) w hE
end
end Go.Proofs.YtgngjfjaelgaeaaGreatDoor
