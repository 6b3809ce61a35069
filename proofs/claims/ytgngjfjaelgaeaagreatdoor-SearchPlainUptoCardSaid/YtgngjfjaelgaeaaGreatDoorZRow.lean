/- What a row's list of package-level variables gives the walks; the row's last step; a world for the witness. Conditions: as stated. -/
import Derived.Deep.DeepHandedRow
import Derived.Lib.LaidU8
import Derived.Stop.LaidErr
import Derived.Lay
import Derived.Test.YtgngjfjaelgaeaaGreatDoorCards
import Derived.Test.YtgngjfjaelgaeaaGreatDoorTie
import Derived.Test.YtgngjfjaelgaeaaGreatDoorZMem
namespace Go.Proofs.YtgngjfjaelgaeaaGreatDoor
open Go.Proofs.Tryz
open Go.ChangeShapes Go.WideShapes Go.ChangeAt Go.RowKit
theorem iface_of_trod{H:Type}{enc:TypeId×Value->H}{P:Program}{w:World}{base:Nat}{sp:Nat->Bool}{fuel:Nat}{t:TypeId}{ms:Array (String×TypeId)}{cs:List Value}{nm:String}{d:DataW H}{p:List MemPlace}
  (a:P.underlying t=some (.interface ms))(h:DataW.trod enc P w base sp false fuel t cs=some (.iface nm d,p)):∃u v,cs=[.iface u v]:=by
 cases fuel with
 |zero=>simp[DataW.trod] at h
 |succ n=>
  match cs,h with
  |[],h=>simp[DataW.trod,a] at h
  |[.iface u v],_=>exact⟨u,v,rfl⟩
  |[.nilIface],h=>simp[DataW.trod,a] at h
  |[.bool _],h=>simp[DataW.trod,a] at h
  |_ :: _ :: _,h=>simp[DataW.trod,a] at h
  |[x],h=>cases x<;>first|exact⟨_,_,rfl⟩|simp[DataW.trod,a] at h
theorem IV{P:Program}{w:World}{n nm:String}{d:DataW Unit}{g b:Nat}{ms:Array (String×TypeId)}(h:Lib.VarReads P w n (.iface nm d))
  (a:P.globalNamed n=some g)(e:(P.globals[g]?).map (·.type)=some b)(f:P.underlying b=some (.interface ms)):∃c p,w.cell? ⟨g,0,none⟩=some (.iface c p):=by
 obtain⟨i,t,cs,fuel,p,h1,h2,h3,h4⟩:=h;obtain rfl:=aU (a.symm.trans h1);obtain rfl:=aU (e.symm.trans h2);obtain⟨u,v,hc⟩:=iface_of_trod f h4;refine⟨u,v,?_⟩;have:=World.var?_cell a h3 0;rw[this];obtain⟨l⟩:=cs;simp only at hc;subst hc;rfl
section
variable {H:Type} {enc:TypeId×Value->H} {P:Program}
theorem Aat{f:Func}{s:ChangeSpec}{apart fresh handsOn again:Bool}{W g:World}{args:Array Value}{v:Value}{ds gs:List (DataW H)}{before pa pv:List MemPlace}
  (hW:DataW.Whole enc P f.params.toList s.vars apart W args.toList ds gs before)
  (e:∀(b:Nat) (sp:Nat->Bool) (hd:Bool),DataW.TrodAll enc P g b sp hd f.resultTypes.toList (v.resultList f.resultTypes.size) (s.fn H (ds++gs)).results [])
  (c:∀sp:Nat->Bool,(∀p∈before,sp p.block=true)->DataW.TrodAll enc P g 0 sp true f.params.toList args.toList (s.fn H (ds++gs)).args pa)
  (a:∀sp:Nat->Bool,(∀p∈before,sp p.block=true)->DataW.TrodVars enc P g sp s.vars (s.fn H (ds++gs)).vars pv)
  (d:before=pa++pv)(hb:Below W.heap.size W g)
  (k:∀(j:Nat) (t:TypeId) (r:Value),f.resultTypes[j]?=some t->(v.resultList f.resultTypes.size)[j]?=some r->Value.okWide P g .any 0 t r):
  s.post enc P f apart fresh handsOn again W args v g:=by
 have i:∀p∈before,p.block<W.heap.size:=λp hp=>hW.lt p hp;have hold:∀p∈before,(λb=>decide (b<W.heap.size)) p.block=true:=λp hp=>by simpa using i p hp
 refine⟨ds,gs,before,[],pa,pv,hW,e _ _ _,c _ hold,a _ hold,World.keptBut_mono (λp hp=>⟨hp,?_⟩) (hb.frame (·∈before)),λ_=>?_⟩
 ·rw[d,bB] at hp;exact gi hp
 ·obtain⟨_,_,_,_,_,l,m⟩:=hW;refine⟨k,_,_,([]++pa)++pv,⟨[]++pa,pv,trodAll_append (c _ (λ_ _=>rfl)) (e _ _ _),a _ (λ_ _=>rfl),rfl,?_,?_⟩,?_⟩
  ·intro b off hp;have h:MemPlace.cell b off∈before:=by rw[d];simpa using hp
   rw[hb.frozen (i _ h)];exact l b off h
  ·intro n;have:=m n;rw[d] at this
   simpa using this
  ·intro p hp _;rw[d]
   simpa using hp
theorem Uy{C:Checked}{os:Os}{f:FuncId}{fn:Func}{s:OpenSpec}{conds:List PathCond}{apart:Bool}{laid:List (String×DataW Unit)}(w0:World)(args:Array Value)(d:w0.os=os)
  (c:(w0.forCall (λ_ _=>0) ⟨#[],args,[]⟩).Shaped C.prog)
  (b:Input.okWideB C.prog (w0.forCall (λ_ _=>0) ⟨#[],args,[]⟩) f ⟨#[],args,[]⟩=true)
  (a:s.preRow enc C.prog fn conds apart laid (w0.forCall (λ_ _=>0) ⟨#[],args,[]⟩).memory args):
  ∃(w:World) (tape:Tape) (i:Input),w.os=os/\(w.forCall tape i).Shaped C.prog/\i.vars=[]/\Input.okWide C.prog (w.forCall tape i) .any w.heap.size f i/\
   s.preRow enc C.prog fn conds apart laid (w.forCall tape i).memory i.args/\({ modest:=false }:Assume).holds C.prog (lone (Frame.enter C.prog f i.args .normal) [] (w.forCall tape i)):=
 ⟨w0,λ_ _=>0,⟨#[],args,[]⟩,d,c,(Input.okWide_of_okWideB (base:=0) b).1,(Input.okWide_of_okWideB b).2,a,by
  simp only[Assume.holds];exact⟨by simp,by simp,by simp,by simp,by simp⟩⟩
end
def Ed:List (String×DataW Unit):=[("math/bits.deBruijn32tab",Rows.laid_math_bits_deBruijn32tab),("math/bits.deBruijn64tab",Rows.laid_math_bits_deBruijn64tab),("internal/strconv.uint64pow10",Rows.laid_internal_strconv_uint64pow10),("unicode/utf8.acceptRanges",Rows.laid_unicode_utf8_acceptRanges),("strconv.ErrRange",Rows.laid_strconv_ErrRange),("strconv.ErrSyntax",Rows.laid_strconv_ErrSyntax),("unicode/utf8.first",Rows.laid_unicode_utf8_first)]
theorem own:ownKnob prog.godebug=none:=by kernel_rfl
theorem AcA:laidMetH prog Ed=laidMet prog Ed:=by funext w;exact MakeChecks.laidMetH_plain _ _ _ (by kernel_rfl)
theorem Aeu:Rows.laid_unicode_utf8_first=Lib.firstData:=by kernel_rfl
theorem Aev:(Rows.laid_unicode_utf8_acceptRanges:DataW Unit)=Lib.acceptData:=by kernel_rfl
theorem AgA{W:World}(h:laidMetH prog Ed W)(b:W.ShapedOpen prog):Env W:=by
 rw[AcA] at h;refine⟨laysM143.s1_3 W b,?_,?_,?_,?_⟩
 ·obtain⟨g,t,cs,fuel,p,h1,h2,h3,h4⟩:=Lib.laidMet.reads h (n:= "internal/strconv.uint64pow10") (d:=Rows.laid_internal_strconv_uint64pow10) (by simp[Ed])
  obtain rfl:=aU ((show prog.globalNamed "internal/strconv.uint64pow10"=some 3 by kernel_rfl).symm.trans h1)
  obtain rfl:=aU ((show (prog.globals[3]?).map (·.type)=some 283 by kernel_rfl).symm.trans h2);have a:=Lib.cells_of_tab (zs:=Lib.pow10Tab) underlying283 underlying252 (by kernel_rfl) (by kernel_rfl) h4;unfold Lib.TabIs;rw[h3];obtain⟨l⟩:=cs;simp only at a;rw[a]
 ·exact IV (Lib.laidMet.reads h (n:= "strconv.ErrSyntax") (d:=Rows.laid_strconv_ErrSyntax) (by simp[Ed])) (by kernel_rfl) (by kernel_rfl) underlying162
 ·exact IV (Lib.laidMet.reads h (n:= "strconv.ErrRange") (d:=Rows.laid_strconv_ErrRange) (by simp[Ed])) (by kernel_rfl) (by kernel_rfl) underlying162
 ·exact utf8Tabs_of_reads (ρ:=lays260_ren) { lays260 with } ⟨by kernel_rfl,by kernel_rfl,by kernel_rfl,by kernel_rfl,by kernel_rfl,by kernel_rfl,by kernel_rfl⟩
   (Aeu▸Lib.laidMet.reads h (n:= "unicode/utf8.first") (d:=Rows.laid_unicode_utf8_first) (by simp[Ed]))
   (Aev▸Lib.laidMet.reads h (n:= "unicode/utf8.acceptRanges") (d:=Rows.laid_unicode_utf8_acceptRanges) (by simp[Ed]))
theorem AfK(os:Os)(args:Array Value):laidMet prog Ed ((World.laidAll prog os Ed).forCall (λ_ _=>0) ⟨#[],args,[]⟩).memory:=
 laidMet_laidAll args (by kernel_rfl) (by kernel_rfl)
theorem AcB(os:Os)(args:Array Value):((World.laidAll prog os Ed).forCall (λ_ _=>0) ⟨#[],args,[]⟩).Shaped prog:=
 World.shaped_of_ZipB (by kernel_rfl) (by kernel_rfl)
