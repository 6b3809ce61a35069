/- What a row's list of package-level variables gives the walks; the row's last step; a world for the witness. Conditions: as stated. -/
import Derived.Deep.DeepHandedRow
import Derived.Lib.LaidU8
import Derived.Stop.LaidErr
import Derived.Lay
import Derived.Test.YtgngjfjaelgaeaaGreatDoorCards
import Derived.Test.YtgngjfjaelgaeaaGreatDoorTie
import Derived.Test.YtgngjfjaelgaeaaGreatDoorKMem
namespace Go.Proofs.YtgngjfjaelgaeaaGreatDoor
open Go.ChangeShapes Go.WideShapes Go.ChangeAt Go.RowKit
theorem iface_of_trod {H:Type} {enc:TypeId × Value->H} {P:Program} {w:World} {base:Nat} {sp:Nat->Bool} {fuel:Nat} {t:TypeId} {ms:Array (String × TypeId)} {cs:List Value} {nm:String} {d:DataW H} {p:List MemPlace}
  (hi:P.underlying t=some (.interface ms)) (h:DataW.trod enc P w base sp false fuel t cs=some (.iface nm d,p)):∃u v,cs=[.iface u v]:=by
 cases fuel with
 | zero=>simp [DataW.trod] at h
 | succ n=>
  match cs,h with
  | [],h=>simp [DataW.trod,hi] at h
  | [.iface u v],_=>exact ⟨u,v,rfl⟩
  | [.nilIface],h=>simp [DataW.trod,hi] at h
  | [.bool _],h=>simp [DataW.trod,hi] at h
  | _ :: _ :: _,h=>simp [DataW.trod,hi] at h
  | [x],h=>cases x <;> first | exact ⟨_,_,rfl⟩ | simp [DataW.trod,hi] at h
theorem Ii {P:Program} {w:World} {n nm:String} {d:DataW Unit} {g ti:Nat} {ms:Array (String × TypeId)} (h:Lib.VarReads P w n (.iface nm d))
  (hg:P.globalNamed n=some g) (ht:(P.globals[g]?).map (·.type)=some ti) (hi:P.underlying ti=some (.interface ms)):∃tp p,w.cell? ⟨g,0,none⟩=some (.iface tp p):=by
 obtain ⟨g',t,cs,fuel,p,h1,h2,h3,h4⟩:=h
 obtain rfl:=Option.some.inj (hg.symm.trans h1)
 obtain rfl:=Option.some.inj (ht.symm.trans h2)
 obtain ⟨u,v,hc⟩:=iface_of_trod hi h4
 refine ⟨u,v,?_⟩
 have:=World.var?_cell hg h3 0
 rw [this]
 obtain ⟨l⟩:=cs
 simp only at hc
 subst hc
 rfl
section
variable {H:Type} {enc:TypeId × Value->H} {P:Program}
theorem YH {f:Func} {s:ChangeSpec} {apart fresh handsOn again:Bool} {W W':World} {args:Array Value} {v:Value} {ds gs:List (DataW H)} {before pa pv:List MemPlace}
  (hW:DataW.Whole enc P f.params.toList s.vars apart W args.toList ds gs before)
  (A2:∀(b:Nat) (sp:Nat->Bool) (hd:Bool),DataW.TrodAll enc P W' b sp hd f.resultTypes.toList (v.resultList f.resultTypes.size) (s.fn H (ds++gs)).results [])
  (A0:∀sp:Nat->Bool,(∀p ∈ before,sp p.block=true)->DataW.TrodAll enc P W' 0 sp true f.params.toList args.toList (s.fn H (ds++gs)).args pa)
  (A1:∀sp:Nat->Bool,(∀p ∈ before,sp p.block=true)->DataW.TrodVars enc P W' sp s.vars (s.fn H (ds++gs)).vars pv)
  (A3:before=pa++pv) (hb:Below W.heap.size W W')
  (A6:∀(j:Nat) (t:TypeId) (r:Value),f.resultTypes[j]?=some t->(v.resultList f.resultTypes.size)[j]?=some r->Value.okWide P W' .any 0 t r):
  s.post enc P f apart fresh handsOn again W args v W':=by
 have A5:∀p ∈ before,p.block<W.heap.size:=fun p hp=>hW.lt p hp
 have hold:∀p ∈ before,(fun b=>decide (b<W.heap.size)) p.block=true:=fun p hp=>by simpa using A5 p hp
 refine ⟨ds,gs,before,[],pa,pv,hW,A2 _ _ _,A0 _ hold,A1 _ hold,World.keptBut_mono (fun p hp=>⟨hp,?_⟩) (hb.frame (· ∈ before)),fun _=>?_⟩
 · rw [A3,List.mem_append] at hp
   exact Or.inr hp
 · obtain ⟨_,_,_,_,_,hz,hn⟩:=hW
   refine ⟨A6,_,_,([]++pa)++pv,⟨[]++pa,pv,trodAll_append (A0 _ (fun _ _=>rfl)) (A2 _ _ _),A1 _ (fun _ _=>rfl),rfl,?_,?_⟩,?_⟩
   · intro b off hp
     have A4:MemPlace.cell b off ∈ before:=by rw [A3];simpa using hp
     rw [hb.frozen (A5 _ A4)]
     exact hz b off A4
   · intro ha
     have:=hn ha
     rw [A3] at this
     simpa using this
   · intro p hp _
     rw [A3]
     simpa using hp
theorem SD {C:Checked} {os:Os} {f:FuncId} {fn:Func} {s:OpenSpec} {conds:List PathCond} {apart:Bool} {laid:List (String × DataW Unit)} (w0:World) (args:Array Value) (A3:w0.os=os)
  (A2:(w0.forCall (fun _ _=>0) ⟨#[],args,[]⟩).Shaped C.prog)
  (A1:Input.okWideB C.prog (w0.forCall (fun _ _=>0) ⟨#[],args,[]⟩) f ⟨#[],args,[]⟩=true)
  (A0:s.preRow enc C.prog fn conds apart laid (w0.forCall (fun _ _=>0) ⟨#[],args,[]⟩).memory args):
  ∃(w:World) (tape:Tape) (i:Input),w.os=os/\(w.forCall tape i).Shaped C.prog/\i.vars=[]/\Input.okWide C.prog (w.forCall tape i) .any w.heap.size f i/\
   s.preRow enc C.prog fn conds apart laid (w.forCall tape i).memory i.args/\({ modest:=false }:Assume).holds C.prog (lone (Frame.enter C.prog f i.args .normal) [] (w.forCall tape i)):=
 ⟨w0,fun _ _=>0,⟨#[],args,[]⟩,A3,A2,(Input.okWide_of_okWideB (base:=0) A1).1,(Input.okWide_of_okWideB A1).2,A0,by
  simp only [Assume.holds]
  exact ⟨by simp,by simp,by simp,by simp,by simp⟩⟩
end
def Dy:List (String × DataW Unit):=[("math/bits.deBruijn32tab",Rows.laid_math_bits_deBruijn32tab),("math/bits.deBruijn64tab",Rows.laid_math_bits_deBruijn64tab),("internal/strconv.uint64pow10",Rows.laid_internal_strconv_uint64pow10),("unicode/utf8.acceptRanges",Rows.laid_unicode_utf8_acceptRanges),("strconv.ErrRange",Rows.laid_strconv_ErrRange),("strconv.ErrSyntax",Rows.laid_strconv_ErrSyntax),("unicode/utf8.first",Rows.laid_unicode_utf8_first)]
theorem own:ownKnob Tryz.prog.godebug=none:=by kernel_rfl
theorem Abm:laidMetH Tryz.prog Dy=laidMet Tryz.prog Dy:=by
 funext w
 exact MakeChecks.laidMetH_plain _ _ _ (by kernel_rfl)
theorem Adc:Rows.laid_unicode_utf8_first=Lib.firstData:=by kernel_rfl
theorem Ade:(Rows.laid_unicode_utf8_acceptRanges:DataW Unit)=Lib.acceptData:=by kernel_rfl
theorem AeV {W:World} (h:laidMetH Tryz.prog Dy W) (A1:W.ShapedOpen Tryz.prog):Env W:=by
 rw [Abm] at h
 refine ⟨Tryz.laysM143.s1_3 W A1,?_,?_,?_,?_⟩
 · obtain ⟨g,t,cs,fuel,p,h1,h2,h3,h4⟩:=Lib.laidMet.reads h (n:= "internal/strconv.uint64pow10") (d:=Rows.laid_internal_strconv_uint64pow10) (by simp [Dy])
   obtain rfl:=Option.some.inj ((show Tryz.prog.globalNamed "internal/strconv.uint64pow10"=some 3 by kernel_rfl).symm.trans h1)
   obtain rfl:=Option.some.inj ((show (Tryz.prog.globals[3]?).map (·.type)=some 283 by kernel_rfl).symm.trans h2)
   have A0:=Lib.cells_of_tab (zs:=Lib.pow10Tab) Tryz.underlying283 Tryz.underlying252 (by kernel_rfl) (by kernel_rfl) h4
   unfold Lib.TabIs
   rw [h3]
   obtain ⟨l⟩:=cs
   simp only at A0
   rw [A0]
 · exact Ii (Lib.laidMet.reads h (n:= "strconv.ErrSyntax") (d:=Rows.laid_strconv_ErrSyntax) (by simp [Dy])) (by kernel_rfl) (by kernel_rfl) Tryz.underlying162
 · exact Ii (Lib.laidMet.reads h (n:= "strconv.ErrRange") (d:=Rows.laid_strconv_ErrRange) (by simp [Dy])) (by kernel_rfl) (by kernel_rfl) Tryz.underlying162
 · exact utf8Tabs_of_reads (ρ:=Tryz.lays260_ren) { Tryz.lays260 with } ⟨by kernel_rfl,by kernel_rfl,by kernel_rfl,by kernel_rfl,by kernel_rfl,by kernel_rfl,by kernel_rfl⟩
    (Adc ▸ Lib.laidMet.reads h (n:= "unicode/utf8.first") (d:=Rows.laid_unicode_utf8_first) (by simp [Dy]))
    (Ade ▸ Lib.laidMet.reads h (n:= "unicode/utf8.acceptRanges") (d:=Rows.laid_unicode_utf8_acceptRanges) (by simp [Dy]))
theorem Aeq (os:Os) (args:Array Value):laidMet Tryz.prog Dy ((World.laidAll Tryz.prog os Dy).forCall (fun _ _=>0) ⟨#[],args,[]⟩).memory:=
 laidMet_laidAll args (by kernel_rfl) (by kernel_rfl)
theorem Abn (os:Os) (args:Array Value):((World.laidAll Tryz.prog os Dy).forCall (fun _ _=>0) ⟨#[],args,[]⟩).Shaped Tryz.prog:=
 World.shaped_of_ZipB (by kernel_rfl) (by kernel_rfl)
end Go.Proofs.YtgngjfjaelgaeaaGreatDoor
