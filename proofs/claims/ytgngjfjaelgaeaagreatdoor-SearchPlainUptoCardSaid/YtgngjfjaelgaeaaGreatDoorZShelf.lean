/- The library's contracts at this seat's numbers, laid by the kit's own program in plain words. Conditions: as stated. -/
import Derived.Test.YtgngjfjaelgaeaaGreatDoorZAl
import Derived.Shelf.Strings.OnBuilder
import Derived.Shelf.Small.Wraps
import Derived.Shelf.Utf8.RuneCount
import Derived.Shelf.Strconv.Itoa4
import Derived.Shelf.Strconv.ErrVarParseInt
import Derived.Shelf.Strings.Shaped
import Derived.Shelf.Strings.SplitShaped
import Derived.Shelf.Strings.IndexAny
import Derived.Shelf.Strings.AsciiSet
import Derived.Shelf.Strings.Explode
import Derived.Shelf.Unicode.DecodeLast
import Derived.Shelf.Strings.BuilderCap
import Derived.Shelf.Slices.Turned
import Derived.Shelf.Slices.Clone
import Derived.Shelf.Slices.Cells
import Derived.Shelf.Slices.Empties2
import Derived.Shelf.SlicesE.Clone
import Derived.Test.YtgngjfjaelgaeaaGreatDoorProg
namespace Go.Proofs
open Go.Proofs.Tryz
open Go.Shelf
def Tryz.lays169_ren:Go.Shelf.Ren:=⟨fun|169=>112|n=>n,fun|70=>156|9=>9|0=>0|72=>159|37=>157|127=>193|3=>3|5=>5|n=>n,fun|n=>n⟩
theorem Tryz.lays169:Go.Proofs.Lays.n169 prog lays169_ren:={
 mixed:=by kernel_rfl
 f169:=func112.trans (congrArg some (by kernel_rfl))
 t0:=underlying0
 a0:=isAgg0
 z0:=sizeOf0
 v0:=zeroValue0
 t3:=underlying3
 a3:=isAgg3
 z3:=sizeOf3
 v3:=zeroValue3
 t9:=underlying9
 a9:=isAgg9
 z9:=sizeOf9
 v9:=zeroValue9
 t37:=underlying157
 a37:=isAgg157
 z37:=sizeOf157
 v37:=zeroValue157
 t70:=underlying156
 a70:=isAgg156
 z70:=sizeOf156
 v70:=zeroValue156
 t72:=underlying159
 a72:=isAgg159
 z72:=sizeOf159
 v72:=zeroValue159
 t127:=underlying193
 a127:=isAgg193
 z127:=sizeOf193
 v127:=zeroValue193 }
theorem Tryz.Builder_Extra_169:Builder.Extra prog lays169_ren:={
 sizeBuilder:=by kernel_rfl
 liesBuilder:=by kernel_rfl
 t5:=underlying5
 a5:=isAgg5
 z5:=sizeOf5
 v5:=zeroValue5
 infoByte:=by kernel_rfl
 cellsByte:=by kernel_rfl
 sizeByte:=by kernel_rfl
 neB5:=by decide }
open Go.RowKit in
theorem Tryz.Builder_String_any(B b:Nat)(l:List UInt8)(w:World)(h:Lib.IsBuilder 159 5 B b (Lib.byteCells l) w)(a:B<=w.heap.size):
  Calls prog 112 #[.pointer (some ⟨b,0,none⟩)] w λe w'=>e=.returned (.string ⟨l.toArray⟩)/\Below B w w':=Any.Builder_String_any lays169 Builder_Extra_169 B b l w h a
def Tryz.lays156_ren:Go.Shelf.Ren:=⟨fun|156=>71|165=>110|166=>111|169=>112|240=>145|241=>146|276=>175|277=>176|n=>n,fun|31=>23|9=>9|3=>3|4=>4|0=>0|20=>20|72=>159|76=>163|70=>156|37=>157|75=>162|127=>193|164=>218|5=>5|80=>165|n=>n,fun|n=>n⟩
theorem Tryz.lays156:Go.Proofs.Lays.n156 prog lays156_ren:={
 mixed:=by kernel_rfl
 f156:=func71.trans (congrArg some (by kernel_rfl))
 f165:=func110.trans (congrArg some (by kernel_rfl))
 f166:=func111.trans (congrArg some (by kernel_rfl))
 f169:=func112.trans (congrArg some (by kernel_rfl))
 f240:=func145.trans (congrArg some (by kernel_rfl))
 f241:=func146.trans (congrArg some (by kernel_rfl))
 f276:=func175.trans (congrArg some (by kernel_rfl))
 f277:=func176.trans (congrArg some (by kernel_rfl))
 t0:=underlying0
 a0:=isAgg0
 z0:=sizeOf0
 v0:=zeroValue0
 t3:=underlying3
 a3:=isAgg3
 z3:=sizeOf3
 v3:=zeroValue3
 t4:=underlying4
 a4:=isAgg4
 z4:=sizeOf4
 v4:=zeroValue4
 t9:=underlying9
 a9:=isAgg9
 z9:=sizeOf9
 v9:=zeroValue9
 t20:=underlying20
 a20:=isAgg20
 z20:=sizeOf20
 v20:=zeroValue20
 t31:=underlying23
 a31:=isAgg23
 z31:=sizeOf23
 v31:=zeroValue23
 t37:=underlying157
 a37:=isAgg157
 z37:=sizeOf157
 v37:=zeroValue157
 t70:=underlying156
 a70:=isAgg156
 z70:=sizeOf156
 v70:=zeroValue156
 t72:=underlying159
 a72:=isAgg159
 z72:=sizeOf159
 v72:=zeroValue159
 t75:=underlying162
 a75:=isAgg162
 z75:=sizeOf162
 v75:=zeroValue162
 t76:=underlying163
 a76:=isAgg163
 z76:=sizeOf163
 v76:=zeroValue163
 t127:=underlying193
 a127:=isAgg193
 z127:=sizeOf193
 v127:=zeroValue193
 t164:=underlying218
 a164:=isAgg218
 z164:=sizeOf218
 v164:=zeroValue218 }
theorem Tryz.Builder_Extra_156:Builder.Extra prog lays156_ren:={
 sizeBuilder:=by kernel_rfl
 liesBuilder:=by kernel_rfl
 t5:=underlying5
 a5:=isAgg5
 z5:=sizeOf5
 v5:=zeroValue5
 infoByte:=by kernel_rfl
 cellsByte:=by kernel_rfl
 sizeByte:=by kernel_rfl
 neB5:=by decide }
open Go.RowKit in
theorem Tryz.strings_Join_none(a:Option Addr)(c:Nat)(sep:ByteArray)(w:World):
  Calls prog 71 #[.slice a 0 c,.string sep] w λe w'=>e=.returned (.string ⟨#[]⟩)/\w'=w:=Any.strings_Join_none lays156 Builder_Extra_156 a c sep w
open Go.RowKit in
theorem Tryz.strings_Join(d o c:Nat)(xs:List ByteArray)(sep:ByteArray)(w:World)(a:∀(j:Nat) x,xs[j]?=some x->w.cell? ⟨d,o+j,none⟩=some (.string x))(f:d<w.heap.size)(g:xs.length<=140737488355328)(b:xs.length<=c)(hlen:(Lib.join (xs.map (·.data.toList)) sep.data.toList).length<=140737488355328):
  Calls prog 71 #[.slice (some ⟨d,o,none⟩) xs.length c,.string sep] w λe w'=>e=.returned (.string ⟨(Lib.join (xs.map (·.data.toList)) sep.data.toList).toArray⟩)/\Below w.heap.size w w':=Any.strings_Join lays156 Builder_Extra_156 d o c xs sep w a f g b hlen
def Tryz.lays119_ren:Go.Shelf.Ren:=⟨fun|119=>264|n=>n,fun|21=>21|4=>4|n=>n,fun|n=>n⟩
theorem Tryz.lays119:Go.Proofs.Lays.n119 prog lays119_ren:={
 mixed:=by kernel_rfl
 f119:=func264.trans (congrArg some (by kernel_rfl))
 t4:=underlying4
 a4:=isAgg4
 z4:=sizeOf4
 v4:=zeroValue4
 t21:=underlying21
 a21:=isAgg21
 z21:=sizeOf21
 v21:=zeroValue21 }
theorem Tryz.utf8_ValidRune(r:Int)(w:World):
  Calls prog 264 #[.int .i32 r] w λe w'=>e=.returned (.bool (Lib.validRune r))/\w'=w:=Any.utf8_ValidRune lays119 r w
def Tryz.lays106_ren:Go.Shelf.Ren:=⟨fun|106=>172|213=>197|265=>220|n=>n,fun|9=>9|3=>3|n=>n,fun|n=>n⟩
theorem Tryz.lays106:Go.Proofs.Lays.n106 prog lays106_ren:={
 mixed:=by kernel_rfl
 f106:=func172.trans (congrArg some (by kernel_rfl))
 f213:=func197.trans (congrArg some (by kernel_rfl))
 f265:=func220.trans (congrArg some (by kernel_rfl))
 t3:=underlying3
 a3:=isAgg3
 z3:=sizeOf3
 v3:=zeroValue3
 t9:=underlying9
 a9:=isAgg9
 z9:=sizeOf9
 v9:=zeroValue9 }
open Go.RowKit in
theorem Tryz.strings_Compare(a b:ByteArray)(w:World):
  Calls prog 172 #[.string a,.string b] w λe w'=>e=.returned (.int .i64 (Lib.compareBytes a.data.toList b.data.toList))/\w'=w:=Any.strings_Compare lays106 a b w
def Tryz.lays137_ren:Go.Shelf.Ren:=⟨fun|137=>173|217=>198|266=>221|n=>n,fun|9=>9|5=>5|3=>3|n=>n,fun|n=>n⟩
theorem Tryz.lays137:Go.Proofs.Lays.n137 prog lays137_ren:={
 mixed:=by kernel_rfl
 f137:=func173.trans (congrArg some (by kernel_rfl))
 f217:=func198.trans (congrArg some (by kernel_rfl))
 f266:=func221.trans (congrArg some (by kernel_rfl))
 t3:=underlying3
 a3:=isAgg3
 z3:=sizeOf3
 v3:=zeroValue3
 t5:=underlying5
 a5:=isAgg5
 z5:=sizeOf5
 v5:=zeroValue5
 t9:=underlying9
 a9:=isAgg9
 z9:=sizeOf9
 v9:=zeroValue9 }
open Go.RowKit in
theorem Tryz.strings_IndexByte(s:ByteArray)(c:Int)(w:World):
  Calls prog 173 #[.string s,.int .u8 c] w λe w'=>e=.returned (.int .i64 (Lib.indexByte s.data.toList c.toNat.toUInt8))/\w'=w:=Any.strings_IndexByte lays137 s c w
def Tryz.lays103_ren:Go.Shelf.Ren:=⟨fun|103=>210|210=>242|206=>232|n=>n,fun|9=>9|4=>4|24=>74|3=>3|n=>n,fun|n=>n⟩
theorem Tryz.lays103:Go.Proofs.Lays.n103 prog lays103_ren:={
 mixed:=by kernel_rfl
 f103:=func210.trans (congrArg some (by kernel_rfl))
 f206:=func232.trans (congrArg some (by kernel_rfl))
 f210:=func242.trans (congrArg some (by kernel_rfl))
 t3:=underlying3
 a3:=isAgg3
 z3:=sizeOf3
 v3:=zeroValue3
 t4:=underlying4
 a4:=isAgg4
 z4:=sizeOf4
 v4:=zeroValue4
 t9:=underlying9
 a9:=isAgg9
 z9:=sizeOf9
 v9:=zeroValue9
 t24:=underlying74
 a24:=isAgg74
 z24:=sizeOf74
 v24:=zeroValue74 }
open Go.RowKit in
theorem Tryz.strings_CutPrefix(s p:ByteArray)(w:World):
  Calls prog 210 #[.string s,.string p] w λe w'=>e=.returned (.tuple #[.string ⟨(Lib.trimPrefix s.data.toList p.data.toList).toArray⟩,.bool (Lib.hasPrefix s.data.toList p.data.toList)])/\w'=w:=Any.strings_CutPrefix lays103 s p w
def Tryz.lays104_ren:Go.Shelf.Ren:=⟨fun|104=>206|211=>233|207=>263|n=>n,fun|9=>9|4=>4|24=>74|3=>3|n=>n,fun|n=>n⟩
theorem Tryz.lays104:Go.Proofs.Lays.n104 prog lays104_ren:={
 mixed:=by kernel_rfl
 f104:=func206.trans (congrArg some (by kernel_rfl))
 f207:=func263.trans (congrArg some (by kernel_rfl))
 f211:=func233.trans (congrArg some (by kernel_rfl))
 t3:=underlying3
 a3:=isAgg3
 z3:=sizeOf3
 v3:=zeroValue3
 t4:=underlying4
 a4:=isAgg4
 z4:=sizeOf4
 v4:=zeroValue4
 t9:=underlying9
 a9:=isAgg9
 z9:=sizeOf9
 v9:=zeroValue9
 t24:=underlying74
 a24:=isAgg74
 z24:=sizeOf74
 v24:=zeroValue74 }
open Go.RowKit in
theorem Tryz.strings_CutSuffix(s p:ByteArray)(w:World)(a:s.size<=9223372036854775807):
  Calls prog 206 #[.string s,.string p] w λe w'=>e=.returned (.tuple #[.string ⟨(Lib.trimSuffix s.data.toList p.data.toList).toArray⟩,.bool (Lib.hasSuffix s.data.toList p.data.toList)])/\w'=w:=Any.strings_CutSuffix lays104 s p w a
def Tryz.laysM173_ren:Go.Shelf.Ren:=⟨fun|173=>184|246=>204|283=>228|284=>229|285=>230|286=>231|129=>259|317=>258|318=>260|319=>261|320=>262|337=>274|338=>275|n=>n,fun|2=>2|3=>3|9=>9|4=>4|171=>259|0=>0|53=>252|37=>157|5=>5|173=>262|212=>283|51=>284|20=>20|213=>285|46=>198|232=>298|233=>299|n=>n,fun|17=>3|18=>4|19=>5|n=>n⟩
theorem Tryz.laysM173:Go.Proofs.LaysM.n173 prog laysM173_ren:={
 mixed:=by kernel_rfl
 f129:=func259.trans (congrArg some (by kernel_rfl))
 f173:=func184.trans (congrArg some (by kernel_rfl))
 f246:=func204.trans (congrArg some (by kernel_rfl))
 f283:=func228.trans (congrArg some (by kernel_rfl))
 f284:=func229.trans (congrArg some (by kernel_rfl))
 f285:=func230.trans (congrArg some (by kernel_rfl))
 f286:=func231.trans (congrArg some (by kernel_rfl))
 f317:=func258.trans (congrArg some (by kernel_rfl))
 f318:=func260.trans (congrArg some (by kernel_rfl))
 f319:=func261.trans (congrArg some (by kernel_rfl))
 f320:=func262.trans (congrArg some (by kernel_rfl))
 f337:=func274.trans (congrArg some (by kernel_rfl))
 f338:=func275.trans (congrArg some (by kernel_rfl))
 t0:=underlying0
 a0:=isAgg0
 z0:=sizeOf0
 v0:=zeroValue0
 t2:=underlying2
 a2:=isAgg2
 z2:=sizeOf2
 v2:=zeroValue2
 t3:=underlying3
 a3:=isAgg3
 z3:=sizeOf3
 v3:=zeroValue3
 t4:=underlying4
 a4:=isAgg4
 z4:=sizeOf4
 v4:=zeroValue4
 t5:=underlying5
 a5:=isAgg5
 z5:=sizeOf5
 v5:=zeroValue5
 t9:=underlying9
 a9:=isAgg9
 z9:=sizeOf9
 v9:=zeroValue9
 t20:=underlying20
 a20:=isAgg20
 z20:=sizeOf20
 v20:=zeroValue20
 t37:=underlying157
 a37:=isAgg157
 z37:=sizeOf157
 v37:=zeroValue157
 t46:=underlying198
 a46:=isAgg198
 z46:=sizeOf198
 v46:=zeroValue198
 t51:=underlying284
 a51:=isAgg284
 z51:=sizeOf284
 v51:=zeroValue284
 t53:=underlying252
 a53:=isAgg252
 z53:=sizeOf252
 v53:=zeroValue252
 t171:=underlying259
 a171:=isAgg259
 z171:=sizeOf259
 v171:=zeroValue259
 t173:=underlying262
 a173:=isAgg262
 z173:=sizeOf262
 v173:=zeroValue262
 t212:=underlying283
 a212:=isAgg283
 z212:=sizeOf283
 v212:=zeroValue283
 t213:=underlying285
 a213:=isAgg285
 z213:=sizeOf285
 t232:=underlying298
 a232:=isAgg298
 z232:=sizeOf298
 v232:=zeroValue298
 t233:=underlying299
 a233:=isAgg299
 z233:=sizeOf299
 v233:=zeroValue299
 g17:=by kernel_rfl
 g18:=by kernel_rfl
 g19:=by kernel_rfl
 i0:=by kernel_rfl
 i2:=by kernel_rfl
 i3:=by kernel_rfl
 i4:=by kernel_rfl
 i5:=by kernel_rfl
 i9:=by kernel_rfl
 i20:=by kernel_rfl
 i37:=by kernel_rfl
 i46:=by kernel_rfl
 i51:=by kernel_rfl
 i53:=by kernel_rfl
 i171:=by kernel_rfl
 i173:=by kernel_rfl
 i212:=by kernel_rfl
 i232:=by kernel_rfl
 i233:=by kernel_rfl
 m17:=by kernel_rfl
 m18:=by kernel_rfl
 m19:=by kernel_rfl }
open Go.RowKit Go.Sort Go.Lib in
theorem Tryz.strconv_FormatInt_10(n:Int)(h0:-9223372036854775808<=n)(h1:n<=9223372036854775807)(w:World)(a:Lib.TabIs prog w "internal/strconv.uint64pow10" .u64 Lib.pow10Tab):
  Calls prog 184 #[.int .i64 n,.int .i64 10] w λe w'=>e=.returned (.string ⟨(Lib.itoa n).toArray⟩)/\∃k os,w'=grow (w.drewN k) os:=Any.strconv_FormatInt_10 laysM173 n h0 h1 w a
def Tryz.laysC174_ren:Go.Shelf.Ren:=⟨fun|174=>183|247=>202|245=>203|287=>223|279=>224|280=>225|281=>226|282=>227|321=>253|322=>254|316=>255|171=>257|205=>256|243=>273|246=>204|283=>228|284=>229|285=>230|286=>231|129=>259|317=>258|318=>260|319=>261|320=>262|337=>274|338=>275|n=>n,fun|9=>9|3=>3|2=>2|75=>162|85=>226|4=>4|167=>251|5=>5|53=>252|175=>253|46=>198|168=>255|37=>157|0=>0|210=>281|21=>21|127=>193|145=>295|143=>293|171=>259|173=>262|212=>283|51=>284|20=>20|213=>285|232=>298|233=>299|80=>165|n=>n,fun|15=>1|16=>2|17=>3|18=>4|19=>5|n=>n⟩
theorem Tryz.laysC174:Go.Proofs.LaysC.n174 prog laysC174_ren:={
 mixed:=by kernel_rfl
 f129:=func259.trans (congrArg some (by kernel_rfl))
 f171:=func257.trans (congrArg some (by kernel_rfl))
 f174:=func183.trans (congrArg some (by kernel_rfl))
 f205:=func256.trans (congrArg some (by kernel_rfl))
 f243:=func273.trans (congrArg some (by kernel_rfl))
 f245:=func203.trans (congrArg some (by kernel_rfl))
 f246:=func204.trans (congrArg some (by kernel_rfl))
 f247:=func202.trans (congrArg some (by kernel_rfl))
 f279:=func224.trans (congrArg some (by kernel_rfl))
 f280:=func225.trans (congrArg some (by kernel_rfl))
 f281:=func226.trans (congrArg some (by kernel_rfl))
 f282:=func227.trans (congrArg some (by kernel_rfl))
 f283:=func228.trans (congrArg some (by kernel_rfl))
 f284:=func229.trans (congrArg some (by kernel_rfl))
 f285:=func230.trans (congrArg some (by kernel_rfl))
 f286:=func231.trans (congrArg some (by kernel_rfl))
 f287:=func223.trans (congrArg some (by kernel_rfl))
 f316:=func255.trans (congrArg some (by kernel_rfl))
 f317:=func258.trans (congrArg some (by kernel_rfl))
 f318:=func260.trans (congrArg some (by kernel_rfl))
 f319:=func261.trans (congrArg some (by kernel_rfl))
 f320:=func262.trans (congrArg some (by kernel_rfl))
 f321:=func253.trans (congrArg some (by kernel_rfl))
 f322:=func254.trans (congrArg some (by kernel_rfl))
 f337:=func274.trans (congrArg some (by kernel_rfl))
 f338:=func275.trans (congrArg some (by kernel_rfl))
 t0:=underlying0
 a0:=isAgg0
 z0:=sizeOf0
 v0:=zeroValue0
 t2:=underlying2
 a2:=isAgg2
 z2:=sizeOf2
 v2:=zeroValue2
 t3:=underlying3
 a3:=isAgg3
 z3:=sizeOf3
 v3:=zeroValue3
 t4:=underlying4
 a4:=isAgg4
 z4:=sizeOf4
 v4:=zeroValue4
 t5:=underlying5
 a5:=isAgg5
 z5:=sizeOf5
 v5:=zeroValue5
 t9:=underlying9
 a9:=isAgg9
 z9:=sizeOf9
 v9:=zeroValue9
 t20:=underlying20
 a20:=isAgg20
 z20:=sizeOf20
 v20:=zeroValue20
 t21:=underlying21
 a21:=isAgg21
 z21:=sizeOf21
 v21:=zeroValue21
 t37:=underlying157
 a37:=isAgg157
 z37:=sizeOf157
 v37:=zeroValue157
 t46:=underlying198
 a46:=isAgg198
 z46:=sizeOf198
 v46:=zeroValue198
 t51:=underlying284
 a51:=isAgg284
 z51:=sizeOf284
 v51:=zeroValue284
 t53:=underlying252
 a53:=isAgg252
 z53:=sizeOf252
 v53:=zeroValue252
 t75:=underlying162
 a75:=isAgg162
 z75:=sizeOf162
 v75:=zeroValue162
 t85:=underlying226
 a85:=isAgg226
 z85:=sizeOf226
 v85:=zeroValue226
 t127:=underlying193
 a127:=isAgg193
 z127:=sizeOf193
 v127:=zeroValue193
 t143:=underlying293
 a143:=isAgg293
 z143:=sizeOf293
 v143:=zeroValue293
 t145:=underlying295
 a145:=isAgg295
 z145:=sizeOf295
 v145:=zeroValue295
 t167:=underlying251
 a167:=isAgg251
 z167:=sizeOf251
 v167:=zeroValue251
 t168:=underlying255
 a168:=isAgg255
 z168:=sizeOf255
 v168:=zeroValue255
 t171:=underlying259
 a171:=isAgg259
 z171:=sizeOf259
 v171:=zeroValue259
 t173:=underlying262
 a173:=isAgg262
 z173:=sizeOf262
 v173:=zeroValue262
 t175:=underlying253
 a175:=isAgg253
 z175:=sizeOf253
 v175:=zeroValue253
 t210:=underlying281
 a210:=isAgg281
 z210:=sizeOf281
 v210:=zeroValue281
 t212:=underlying283
 a212:=isAgg283
 z212:=sizeOf283
 v212:=zeroValue283
 t213:=underlying285
 a213:=isAgg285
 z213:=sizeOf285
 t232:=underlying298
 a232:=isAgg298
 z232:=sizeOf298
 v232:=zeroValue298
 t233:=underlying299
 a233:=isAgg299
 z233:=sizeOf299
 v233:=zeroValue299
 g15:=by kernel_rfl
 g16:=by kernel_rfl
 g17:=by kernel_rfl
 g18:=by kernel_rfl
 g19:=by kernel_rfl
 t80:=underlying165
 a80:=isAgg165
 z80:=sizeOf165
 v80:=zeroValue165
 i0:=by kernel_rfl
 i2:=by kernel_rfl
 i3:=by kernel_rfl
 i4:=by kernel_rfl
 i5:=by kernel_rfl
 i9:=by kernel_rfl
 i20:=by kernel_rfl
 i21:=by kernel_rfl
 i37:=by kernel_rfl
 i46:=by kernel_rfl
 i51:=by kernel_rfl
 i53:=by kernel_rfl
 i75:=by kernel_rfl
 i80:=by kernel_rfl
 i85:=by kernel_rfl
 i127:=by kernel_rfl
 i143:=by kernel_rfl
 i145:=by kernel_rfl
 i167:=by kernel_rfl
 i168:=by kernel_rfl
 i171:=by kernel_rfl
 i173:=by kernel_rfl
 i175:=by kernel_rfl
 i210:=by kernel_rfl
 i212:=by kernel_rfl
 i232:=by kernel_rfl
 i233:=by kernel_rfl
 m15:=by kernel_rfl
 m16:=by kernel_rfl
 m17:=by kernel_rfl
 m18:=by kernel_rfl
 m19:=by kernel_rfl
 c0:=by kernel_rfl
 c2:=by kernel_rfl
 c3:=by kernel_rfl
 c4:=by kernel_rfl
 c5:=by kernel_rfl
 c9:=by kernel_rfl
 c20:=by kernel_rfl
 c21:=by kernel_rfl
 c37:=by kernel_rfl
 c46:=by kernel_rfl
 c51:=by kernel_rfl
 c53:=by kernel_rfl
 c75:=by kernel_rfl
 c80:=by kernel_rfl
 c85:=by kernel_rfl
 c127:=by kernel_rfl
 c143:=by kernel_rfl
 c145:=by kernel_rfl
 c167:=by kernel_rfl
 c168:=by kernel_rfl
 c171:=by kernel_rfl
 c173:=by kernel_rfl
 c175:=by kernel_rfl
 c210:=by kernel_rfl
 c212:=by kernel_rfl
 c213:=by kernel_rfl
 c232:=by kernel_rfl
 c233:=by kernel_rfl }
open Go.RowKit in
theorem Tryz.strconv_ParseInt_10_at64_ok(s:ByteArray)(a:s.size<=9223372036854775806)(v:Int)(h:Lib.parseIntB 64 s.data.toList=.ok v)(w:World):
  Calls prog 183 #[.string s,.int .i64 10,.int .i64 64] w λe w'=>e=.returned (.tuple #[.int .i64 v,.nilIface])/\(w'=w\/∃t,w'=Lib.bytesWorld w 5 t):=Any.strconv_ParseInt_10_at64_ok laysC174 s a v h w
open Go.RowKit in
theorem Tryz.strconv_ParseInt_10_at64_range(s:ByteArray)(a:s.size<=281474976710656)(h:Lib.parseIntB 64 s.data.toList=.range)(b:Value)(w:World)(d:w.cell? ⟨2,0,none⟩=some b)(c:b=.nilIface\/∃g f,b=.iface g f):
  Calls prog 183 #[.string s,.int .i64 10,.int .i64 64] w λe w'=>∃N,e=.returned (.tuple #[.int .i64 (Lib.intSat 64 s.data.toList),.iface 255 (.pointer (some ⟨N,0,none⟩))])/\w.heap.size<=N/\w'.heap[N]?=some (.cells #[.string ⟨#[80,97,114,115,101,73,110,116]⟩,.string s,b] 281 (0,0))/\Below w.heap.size w w':=Any.strconv_ParseInt_10_at64_range laysC174 s a h b w d c
open Go.RowKit in
theorem Tryz.strconv_ParseInt_10_at32_ok(s:ByteArray)(a:s.size<=9223372036854775806)(v:Int)(h:Lib.parseIntB 32 s.data.toList=.ok v)(w:World):
  Calls prog 183 #[.string s,.int .i64 10,.int .i64 32] w λe w'=>e=.returned (.tuple #[.int .i64 v,.nilIface])/\(w'=w\/∃t,w'=Lib.bytesWorld w 5 t):=Any.strconv_ParseInt_10_at32_ok laysC174 s a v h w
open Go.RowKit in
theorem Tryz.strconv_ParseInt_10_at32_range(s:ByteArray)(a:s.size<=281474976710656)(h:Lib.parseIntB 32 s.data.toList=.range)(b:Value)(w:World)(d:w.cell? ⟨2,0,none⟩=some b)(c:b=.nilIface\/∃g f,b=.iface g f):
  Calls prog 183 #[.string s,.int .i64 10,.int .i64 32] w λe w'=>∃N,e=.returned (.tuple #[.int .i64 (Lib.intSat 32 s.data.toList),.iface 255 (.pointer (some ⟨N,0,none⟩))])/\w.heap.size<=N/\w'.heap[N]?=some (.cells #[.string ⟨#[80,97,114,115,101,73,110,116]⟩,.string s,b] 281 (0,0))/\Below w.heap.size w w':=Any.strconv_ParseInt_10_at32_range laysC174 s a h b w d c
def Tryz.lays145_ren:Go.Shelf.Ren:=⟨fun|145=>168|220=>194|219=>217|217=>198|225=>246|224=>247|267=>248|266=>221|314=>269|n=>n,fun|9=>9|4=>4|59=>212|3=>3|5=>5|46=>198|146=>291|51=>284|n=>n,fun|1=>0|n=>n⟩
theorem Tryz.lays145:Go.Proofs.Lays.n145 prog lays145_ren:={
 mixed:=by kernel_rfl
 f145:=func168.trans (congrArg some (by kernel_rfl))
 f217:=func198.trans (congrArg some (by kernel_rfl))
 f219:=func217.trans (congrArg some (by kernel_rfl))
 f220:=func194.trans (congrArg some (by kernel_rfl))
 f224:=func247.trans (congrArg some (by kernel_rfl))
 f225:=func246.trans (congrArg some (by kernel_rfl))
 f266:=func221.trans (congrArg some (by kernel_rfl))
 f267:=func248.trans (congrArg some (by kernel_rfl))
 f314:=func269.trans (congrArg some (by kernel_rfl))
 t3:=underlying3
 a3:=isAgg3
 z3:=sizeOf3
 v3:=zeroValue3
 t4:=underlying4
 a4:=isAgg4
 z4:=sizeOf4
 v4:=zeroValue4
 t5:=underlying5
 a5:=isAgg5
 z5:=sizeOf5
 v5:=zeroValue5
 t9:=underlying9
 a9:=isAgg9
 z9:=sizeOf9
 v9:=zeroValue9
 t46:=underlying198
 a46:=isAgg198
 z46:=sizeOf198
 v46:=zeroValue198
 t51:=underlying284
 a51:=isAgg284
 z51:=sizeOf284
 v51:=zeroValue284
 t59:=underlying212
 a59:=isAgg212
 z59:=sizeOf212
 v59:=zeroValue212
 t146:=underlying291
 a146:=isAgg291
 z146:=sizeOf291
 v146:=zeroValue291
 g1:=by kernel_rfl }
open Go.RowKit Go.Lib in
theorem Tryz.strings_Cut(s sep:ByteArray)(m:Int)(w:World)(b:s.size<4294967281)(a:w.cell? ⟨0,0,none⟩=some (.int .i64 m)):
  Calls prog 168 #[.string s,.string sep] w λe w'=>e=.returned (.tuple #[.string ⟨(Lib.cut s.data.toList sep.data.toList).1.toArray⟩,.string ⟨(Lib.cut s.data.toList sep.data.toList).2.1.toArray⟩,.bool (Lib.cut s.data.toList sep.data.toList).2.2])/\∃n,w'=w.drewN n:=Any.strings_Cut lays145 s sep m w b a
def Tryz.laysM143_ren:Go.Shelf.Ren:=⟨fun|143=>252|219=>217|217=>198|225=>246|224=>247|267=>248|266=>221|314=>269|n=>n,fun|9=>9|3=>3|4=>4|5=>5|46=>198|146=>291|51=>284|n=>n,fun|1=>0|n=>n⟩
theorem Tryz.laysM143:Go.Proofs.LaysM.n143 prog laysM143_ren:={
 mixed:=by kernel_rfl
 f143:=func252.trans (congrArg some (by kernel_rfl))
 f217:=func198.trans (congrArg some (by kernel_rfl))
 f219:=func217.trans (congrArg some (by kernel_rfl))
 f224:=func247.trans (congrArg some (by kernel_rfl))
 f225:=func246.trans (congrArg some (by kernel_rfl))
 f266:=func221.trans (congrArg some (by kernel_rfl))
 f267:=func248.trans (congrArg some (by kernel_rfl))
 f314:=func269.trans (congrArg some (by kernel_rfl))
 t3:=underlying3
 a3:=isAgg3
 z3:=sizeOf3
 v3:=zeroValue3
 t4:=underlying4
 a4:=isAgg4
 z4:=sizeOf4
 v4:=zeroValue4
 t5:=underlying5
 a5:=isAgg5
 z5:=sizeOf5
 v5:=zeroValue5
 t9:=underlying9
 a9:=isAgg9
 z9:=sizeOf9
 v9:=zeroValue9
 t46:=underlying198
 a46:=isAgg198
 z46:=sizeOf198
 v46:=zeroValue198
 t51:=underlying284
 a51:=isAgg284
 z51:=sizeOf284
 v51:=zeroValue284
 t146:=underlying291
 a146:=isAgg291
 z146:=sizeOf291
 v146:=zeroValue291
 g1:=by kernel_rfl
 i3:=by kernel_rfl
 i4:=by kernel_rfl
 i5:=by kernel_rfl
 i9:=by kernel_rfl
 i46:=by kernel_rfl
 i51:=by kernel_rfl
 i146:=by kernel_rfl
 m1:=by kernel_rfl
 s1_3:=λw h=>Go.Proofs.cell_of_shapedOpen_int (zero:=#[.int .i64 0]) (t:=3) h (of_decide_eq_true (by kernel_rfl)) (by kernel_rfl) rfl (by kernel_rfl) (by kernel_rfl) underlying3 }
def Tryz.lays101_ren:Go.Shelf.Ren:=⟨fun|101=>185|208=>205|206=>232|n=>n,fun|9=>9|4=>4|3=>3|n=>n,fun|n=>n⟩
theorem Tryz.lays101:Go.Proofs.Lays.n101 prog lays101_ren:={
 mixed:=by kernel_rfl
 f101:=func185.trans (congrArg some (by kernel_rfl))
 f206:=func232.trans (congrArg some (by kernel_rfl))
 f208:=func205.trans (congrArg some (by kernel_rfl))
 t3:=underlying3
 a3:=isAgg3
 z3:=sizeOf3
 v3:=zeroValue3
 t4:=underlying4
 a4:=isAgg4
 z4:=sizeOf4
 v4:=zeroValue4
 t9:=underlying9
 a9:=isAgg9
 z9:=sizeOf9
 v9:=zeroValue9 }
open Go.RowKit Go.Lib in
theorem Tryz.strings_TrimPrefix(s p:ByteArray)(w:World):
  Calls prog 185 #[.string s,.string p] w λe w'=>e=.returned (.string ⟨(Lib.trimPrefix s.data.toList p.data.toList).toArray⟩)/\w'=w:=Any.strings_TrimPrefix lays101 s p w
def Tryz.lays146_ren:Go.Shelf.Ren:=⟨fun|146=>201|221=>222|268=>250|138=>251|143=>252|195=>271|197=>266|218=>272|219=>217|260=>276|217=>198|225=>246|224=>247|267=>248|266=>221|314=>269|n=>n,fun|9=>9|31=>23|3=>3|4=>4|0=>0|105=>270|21=>21|5=>5|46=>198|119=>300|139=>303|138=>302|146=>291|51=>284|n=>n,fun|1=>0|3=>6|4=>7|n=>n⟩
theorem Tryz.lays146:Go.Proofs.Lays.n146 prog lays146_ren:={
 mixed:=by kernel_rfl
 f138:=func251.trans (congrArg some (by kernel_rfl))
 f143:=func252.trans (congrArg some (by kernel_rfl))
 f146:=func201.trans (congrArg some (by kernel_rfl))
 f195:=func271.trans (congrArg some (by kernel_rfl))
 f197:=func266.trans (congrArg some (by kernel_rfl))
 f217:=func198.trans (congrArg some (by kernel_rfl))
 f218:=func272.trans (congrArg some (by kernel_rfl))
 f219:=func217.trans (congrArg some (by kernel_rfl))
 f221:=func222.trans (congrArg some (by kernel_rfl))
 f224:=func247.trans (congrArg some (by kernel_rfl))
 f225:=func246.trans (congrArg some (by kernel_rfl))
 f260:=func276.trans (congrArg some (by kernel_rfl))
 f266:=func221.trans (congrArg some (by kernel_rfl))
 f267:=func248.trans (congrArg some (by kernel_rfl))
 f268:=func250.trans (congrArg some (by kernel_rfl))
 f314:=func269.trans (congrArg some (by kernel_rfl))
 t0:=underlying0
 a0:=isAgg0
 z0:=sizeOf0
 v0:=zeroValue0
 t3:=underlying3
 a3:=isAgg3
 z3:=sizeOf3
 v3:=zeroValue3
 t4:=underlying4
 a4:=isAgg4
 z4:=sizeOf4
 v4:=zeroValue4
 t5:=underlying5
 a5:=isAgg5
 z5:=sizeOf5
 v5:=zeroValue5
 t9:=underlying9
 a9:=isAgg9
 z9:=sizeOf9
 v9:=zeroValue9
 t21:=underlying21
 a21:=isAgg21
 z21:=sizeOf21
 v21:=zeroValue21
 t31:=underlying23
 a31:=isAgg23
 z31:=sizeOf23
 v31:=zeroValue23
 t46:=underlying198
 a46:=isAgg198
 z46:=sizeOf198
 v46:=zeroValue198
 t51:=underlying284
 a51:=isAgg284
 z51:=sizeOf284
 v51:=zeroValue284
 t105:=underlying270
 a105:=isAgg270
 z105:=sizeOf270
 v105:=zeroValue270
 t119:=underlying300
 a119:=isAgg300
 z119:=sizeOf300
 t138:=underlying302
 a138:=isAgg302
 z138:=sizeOf302
 v138:=zeroValue302
 t139:=underlying303
 a139:=isAgg303
 z139:=sizeOf303
 v139:=zeroValue303
 t146:=underlying291
 a146:=isAgg291
 z146:=sizeOf291
 v146:=zeroValue291
 g1:=by kernel_rfl
 g3:=by kernel_rfl
 g4:=by kernel_rfl }
open Go.RowKit Go.Lib in
theorem Tryz.strings_Split(s sep:ByteArray)(m:Int)(w:World)(b:s.size<4294967281)(a:w.cell? ⟨0,0,none⟩=some (.int .i64 m))(h1:1<=sep.size):
  Calls prog 201 #[.string s,.string sep] w λe w'=>
   e=.returned (.slice (some ⟨w.heap.size,0,none⟩) (Lib.countB s sep+1) (Lib.countB s sep+1))/\w'=w.alloc (.cells ((Lib.splitB sep 0 (Lib.countB s sep) s).map Value.string).toArray 9):=Any.strings_Split lays146 (by kernel_rfl) s sep m w b a h1
def Tryz.lays154_ren:Go.Shelf.Ren:=⟨fun|154=>241|138=>251|165=>110|143=>252|166=>111|197=>266|169=>112|195=>271|218=>272|240=>145|241=>146|219=>217|260=>276|276=>175|277=>176|217=>198|225=>246|224=>247|267=>248|266=>221|314=>269|n=>n,fun|9=>9|3=>3|4=>4|72=>159|0=>0|76=>163|105=>270|21=>21|5=>5|70=>156|20=>20|37=>157|75=>162|127=>193|164=>218|46=>198|119=>300|139=>303|138=>302|146=>291|51=>284|80=>165|n=>n,fun|1=>0|3=>6|4=>7|n=>n⟩
theorem Tryz.lays154:Go.Proofs.Lays.n154 prog lays154_ren:={
 mixed:=by kernel_rfl
 f138:=func251.trans (congrArg some (by kernel_rfl))
 f143:=func252.trans (congrArg some (by kernel_rfl))
 f154:=func241.trans (congrArg some (by kernel_rfl))
 f165:=func110.trans (congrArg some (by kernel_rfl))
 f166:=func111.trans (congrArg some (by kernel_rfl))
 f169:=func112.trans (congrArg some (by kernel_rfl))
 f195:=func271.trans (congrArg some (by kernel_rfl))
 f197:=func266.trans (congrArg some (by kernel_rfl))
 f217:=func198.trans (congrArg some (by kernel_rfl))
 f218:=func272.trans (congrArg some (by kernel_rfl))
 f219:=func217.trans (congrArg some (by kernel_rfl))
 f224:=func247.trans (congrArg some (by kernel_rfl))
 f225:=func246.trans (congrArg some (by kernel_rfl))
 f240:=func145.trans (congrArg some (by kernel_rfl))
 f241:=func146.trans (congrArg some (by kernel_rfl))
 f260:=func276.trans (congrArg some (by kernel_rfl))
 f266:=func221.trans (congrArg some (by kernel_rfl))
 f267:=func248.trans (congrArg some (by kernel_rfl))
 f276:=func175.trans (congrArg some (by kernel_rfl))
 f277:=func176.trans (congrArg some (by kernel_rfl))
 f314:=func269.trans (congrArg some (by kernel_rfl))
 t0:=underlying0
 a0:=isAgg0
 z0:=sizeOf0
 v0:=zeroValue0
 t3:=underlying3
 a3:=isAgg3
 z3:=sizeOf3
 v3:=zeroValue3
 t4:=underlying4
 a4:=isAgg4
 z4:=sizeOf4
 v4:=zeroValue4
 t5:=underlying5
 a5:=isAgg5
 z5:=sizeOf5
 v5:=zeroValue5
 t9:=underlying9
 a9:=isAgg9
 z9:=sizeOf9
 v9:=zeroValue9
 t20:=underlying20
 a20:=isAgg20
 z20:=sizeOf20
 v20:=zeroValue20
 t21:=underlying21
 a21:=isAgg21
 z21:=sizeOf21
 v21:=zeroValue21
 t37:=underlying157
 a37:=isAgg157
 z37:=sizeOf157
 v37:=zeroValue157
 t46:=underlying198
 a46:=isAgg198
 z46:=sizeOf198
 v46:=zeroValue198
 t51:=underlying284
 a51:=isAgg284
 z51:=sizeOf284
 v51:=zeroValue284
 t70:=underlying156
 a70:=isAgg156
 z70:=sizeOf156
 v70:=zeroValue156
 t72:=underlying159
 a72:=isAgg159
 z72:=sizeOf159
 v72:=zeroValue159
 t75:=underlying162
 a75:=isAgg162
 z75:=sizeOf162
 v75:=zeroValue162
 t76:=underlying163
 a76:=isAgg163
 z76:=sizeOf163
 v76:=zeroValue163
 t105:=underlying270
 a105:=isAgg270
 z105:=sizeOf270
 v105:=zeroValue270
 t119:=underlying300
 a119:=isAgg300
 z119:=sizeOf300
 t127:=underlying193
 a127:=isAgg193
 z127:=sizeOf193
 v127:=zeroValue193
 t138:=underlying302
 a138:=isAgg302
 z138:=sizeOf302
 v138:=zeroValue302
 t139:=underlying303
 a139:=isAgg303
 z139:=sizeOf303
 v139:=zeroValue303
 t146:=underlying291
 a146:=isAgg291
 z146:=sizeOf291
 v146:=zeroValue291
 t164:=underlying218
 a164:=isAgg218
 z164:=sizeOf218
 v164:=zeroValue218
 g1:=by kernel_rfl
 g3:=by kernel_rfl
 g4:=by kernel_rfl }
theorem Tryz.Builder_Extra_154:Builder.Extra prog lays154_ren:={
 sizeBuilder:=by kernel_rfl
 liesBuilder:=by kernel_rfl
 t5:=underlying5
 a5:=isAgg5
 z5:=sizeOf5
 v5:=zeroValue5
 infoByte:=by kernel_rfl
 cellsByte:=by kernel_rfl
 sizeByte:=by kernel_rfl
 neB5:=by decide }
open Go.RowKit Go.Lib in
theorem Tryz.strings_Replace(s old new:ByteArray)(n:Int)(m:Int)(w:World)(b:s.size<4294967281)(a:w.cell? ⟨0,0,none⟩=some (.int .i64 m))(h1:1<=old.size)(hlen:s.size+Lib.countB s old*new.size<=140737488355328):
  Calls prog 241 #[.string s,.string old,.string new,.int .i64 n] w λe w'=>
   e=.returned (.string ⟨(Lib.replace s.data.toList old.data.toList new.data.toList n).toArray⟩)/\Below w.heap.size w w':=Any.strings_Replace lays154 Builder_Extra_154 s old new n m w b a h1 hlen
def Tryz.lays155_ren:Go.Shelf.Ren:=⟨fun|155=>212|154=>241|138=>251|165=>110|143=>252|166=>111|197=>266|169=>112|195=>271|218=>272|240=>145|241=>146|219=>217|260=>276|276=>175|277=>176|217=>198|225=>246|224=>247|267=>248|266=>221|314=>269|n=>n,fun|9=>9|3=>3|4=>4|72=>159|0=>0|76=>163|105=>270|21=>21|5=>5|70=>156|20=>20|37=>157|75=>162|127=>193|164=>218|46=>198|119=>300|139=>303|138=>302|146=>291|51=>284|80=>165|n=>n,fun|1=>0|3=>6|4=>7|n=>n⟩
theorem Tryz.lays155:Go.Proofs.Lays.n155 prog lays155_ren:={
 mixed:=by kernel_rfl
 f138:=func251.trans (congrArg some (by kernel_rfl))
 f143:=func252.trans (congrArg some (by kernel_rfl))
 f154:=func241.trans (congrArg some (by kernel_rfl))
 f155:=func212.trans (congrArg some (by kernel_rfl))
 f165:=func110.trans (congrArg some (by kernel_rfl))
 f166:=func111.trans (congrArg some (by kernel_rfl))
 f169:=func112.trans (congrArg some (by kernel_rfl))
 f195:=func271.trans (congrArg some (by kernel_rfl))
 f197:=func266.trans (congrArg some (by kernel_rfl))
 f217:=func198.trans (congrArg some (by kernel_rfl))
 f218:=func272.trans (congrArg some (by kernel_rfl))
 f219:=func217.trans (congrArg some (by kernel_rfl))
 f224:=func247.trans (congrArg some (by kernel_rfl))
 f225:=func246.trans (congrArg some (by kernel_rfl))
 f240:=func145.trans (congrArg some (by kernel_rfl))
 f241:=func146.trans (congrArg some (by kernel_rfl))
 f260:=func276.trans (congrArg some (by kernel_rfl))
 f266:=func221.trans (congrArg some (by kernel_rfl))
 f267:=func248.trans (congrArg some (by kernel_rfl))
 f276:=func175.trans (congrArg some (by kernel_rfl))
 f277:=func176.trans (congrArg some (by kernel_rfl))
 f314:=func269.trans (congrArg some (by kernel_rfl))
 t0:=underlying0
 a0:=isAgg0
 z0:=sizeOf0
 v0:=zeroValue0
 t3:=underlying3
 a3:=isAgg3
 z3:=sizeOf3
 v3:=zeroValue3
 t4:=underlying4
 a4:=isAgg4
 z4:=sizeOf4
 v4:=zeroValue4
 t5:=underlying5
 a5:=isAgg5
 z5:=sizeOf5
 v5:=zeroValue5
 t9:=underlying9
 a9:=isAgg9
 z9:=sizeOf9
 v9:=zeroValue9
 t20:=underlying20
 a20:=isAgg20
 z20:=sizeOf20
 v20:=zeroValue20
 t21:=underlying21
 a21:=isAgg21
 z21:=sizeOf21
 v21:=zeroValue21
 t37:=underlying157
 a37:=isAgg157
 z37:=sizeOf157
 v37:=zeroValue157
 t46:=underlying198
 a46:=isAgg198
 z46:=sizeOf198
 v46:=zeroValue198
 t51:=underlying284
 a51:=isAgg284
 z51:=sizeOf284
 v51:=zeroValue284
 t70:=underlying156
 a70:=isAgg156
 z70:=sizeOf156
 v70:=zeroValue156
 t72:=underlying159
 a72:=isAgg159
 z72:=sizeOf159
 v72:=zeroValue159
 t75:=underlying162
 a75:=isAgg162
 z75:=sizeOf162
 v75:=zeroValue162
 t76:=underlying163
 a76:=isAgg163
 z76:=sizeOf163
 v76:=zeroValue163
 t105:=underlying270
 a105:=isAgg270
 z105:=sizeOf270
 v105:=zeroValue270
 t119:=underlying300
 a119:=isAgg300
 z119:=sizeOf300
 t127:=underlying193
 a127:=isAgg193
 z127:=sizeOf193
 v127:=zeroValue193
 t138:=underlying302
 a138:=isAgg302
 z138:=sizeOf302
 v138:=zeroValue302
 t139:=underlying303
 a139:=isAgg303
 z139:=sizeOf303
 v139:=zeroValue303
 t146:=underlying291
 a146:=isAgg291
 z146:=sizeOf291
 v146:=zeroValue291
 t164:=underlying218
 a164:=isAgg218
 z164:=sizeOf218
 v164:=zeroValue218
 g1:=by kernel_rfl
 g3:=by kernel_rfl
 g4:=by kernel_rfl }
theorem Tryz.Builder_Extra_155:Builder.Extra prog lays155_ren:={
 sizeBuilder:=by kernel_rfl
 liesBuilder:=by kernel_rfl
 t5:=underlying5
 a5:=isAgg5
 z5:=sizeOf5
 v5:=zeroValue5
 infoByte:=by kernel_rfl
 cellsByte:=by kernel_rfl
 sizeByte:=by kernel_rfl
 neB5:=by decide }
open Go.RowKit Go.Lib in
theorem Tryz.strings_ReplaceAll(s old new:ByteArray)(m:Int)(w:World)(b:s.size<4294967281)(a:w.cell? ⟨0,0,none⟩=some (.int .i64 m))(h1:1<=old.size)(hlen:s.size+Lib.countB s old*new.size<=140737488355328):
  Calls prog 212 #[.string s,.string old,.string new] w λe w'=>
   e=.returned (.string ⟨(Lib.replaceAll s.data.toList old.data.toList new.data.toList).toArray⟩)/\Below w.heap.size w w':=Any.strings_ReplaceAll lays155 Builder_Extra_155 s old new m w b a h1 hlen
def Tryz.lays152_ren:Go.Shelf.Ren:=⟨fun|152=>234|137=>173|119=>264|224=>247|225=>246|217=>198|266=>221|n=>n,fun|9=>9|21=>21|3=>3|4=>4|5=>5|0=>0|46=>198|n=>n,fun|n=>n⟩
theorem Tryz.lays152:Go.Proofs.Lays.n152 prog lays152_ren:={
 mixed:=by kernel_rfl
 f119:=func264.trans (congrArg some (by kernel_rfl))
 f137:=func173.trans (congrArg some (by kernel_rfl))
 f152:=func234.trans (congrArg some (by kernel_rfl))
 f217:=func198.trans (congrArg some (by kernel_rfl))
 f224:=func247.trans (congrArg some (by kernel_rfl))
 f225:=func246.trans (congrArg some (by kernel_rfl))
 f266:=func221.trans (congrArg some (by kernel_rfl))
 t0:=underlying0
 a0:=isAgg0
 z0:=sizeOf0
 v0:=zeroValue0
 t3:=underlying3
 a3:=isAgg3
 z3:=sizeOf3
 v3:=zeroValue3
 t4:=underlying4
 a4:=isAgg4
 z4:=sizeOf4
 v4:=zeroValue4
 t5:=underlying5
 a5:=isAgg5
 z5:=sizeOf5
 v5:=zeroValue5
 t9:=underlying9
 a9:=isAgg9
 z9:=sizeOf9
 v9:=zeroValue9
 t21:=underlying21
 a21:=isAgg21
 z21:=sizeOf21
 v21:=zeroValue21
 t46:=underlying198
 a46:=isAgg198
 z46:=sizeOf198
 v46:=zeroValue198 }
open Go.RowKit Go.Lib in
theorem Tryz.strings_IndexRune_ascii(s:ByteArray)(r:Int)(w:World)(h0:0<=r)(h1:r<128):
  Calls prog 234 #[.string s,.int .i32 r] w λe w'=>e=.returned (.int .i64 (Lib.indexByte s.data.toList r.toNat.toUInt8))/\w'=w:=Any.strings_IndexRune_ascii lays152 s r w h0 h1
def Tryz.lays226_ren:Go.Shelf.Ren:=⟨fun|226=>235|n=>n,fun|3=>3|4=>4|n=>n,fun|n=>n⟩
theorem Tryz.lays226:Go.Proofs.Lays.n226 prog lays226_ren:={
 mixed:=by kernel_rfl
 f226:=func235.trans (congrArg some (by kernel_rfl))
 t3:=underlying3
 a3:=isAgg3
 z3:=sizeOf3
 v3:=zeroValue3
 t4:=underlying4
 a4:=isAgg4
 z4:=sizeOf4
 v4:=zeroValue4 }
open Go.RowKit Go.Lib in
theorem Tryz.strings_shouldUseASCIISet(n:Int)(w:World):
  Calls prog 235 #[.int .i64 n] w λe w'=>e=.returned (.bool (decide (8<n)))/\w'=w:=Any.strings_shouldUseASCIISet lays226 n w
def Tryz.lays227_ren:Go.Shelf.Ren:=⟨fun|227=>236|n=>n,fun|9=>9|116=>267|4=>4|0=>0|3=>3|5=>5|n=>n,fun|n=>n⟩
theorem Tryz.lays227:Go.Proofs.Lays.n227 prog lays227_ren:={
 mixed:=by kernel_rfl
 f227:=func236.trans (congrArg some (by kernel_rfl))
 t0:=underlying0
 a0:=isAgg0
 z0:=sizeOf0
 v0:=zeroValue0
 t3:=underlying3
 a3:=isAgg3
 z3:=sizeOf3
 v3:=zeroValue3
 t4:=underlying4
 a4:=isAgg4
 z4:=sizeOf4
 v4:=zeroValue4
 t5:=underlying5
 a5:=isAgg5
 z5:=sizeOf5
 v5:=zeroValue5
 t9:=underlying9
 a9:=isAgg9
 z9:=sizeOf9
 v9:=zeroValue9
 t116:=underlying267
 a116:=isAgg267
 z116:=sizeOf267 }
open Go.RowKit Go.Lib in
theorem Tryz.strings_makeASCIISet(d:∀w,(zeroValue 267).run prog w=.ok (.agg (Array.replicate 256 (.bool false))) w)(a:ByteArray)(w:World)(f:a.size<4294967281)(c:∀(j:Nat) b,a.data.toList[j]?=some b->b.toNat<128):
  Calls prog 236 #[.string a] w λe w'=>e=.returned (.tuple #[.agg (Lib.setCells a.data.toList),.bool true])/\w'=w.alloc (.cells (Lib.setCells a.data.toList) 267):=Any.strings_makeASCIISet lays227 d (by kernel_rfl) a w f c
def Tryz.lays228_ren:Go.Shelf.Ren:=⟨fun|228=>237|n=>n,fun|124=>288|5=>5|4=>4|0=>0|116=>267|n=>n,fun|n=>n⟩
theorem Tryz.lays228:Go.Proofs.Lays.n228 prog lays228_ren:={
 mixed:=by kernel_rfl
 f228:=func237.trans (congrArg some (by kernel_rfl))
 t0:=underlying0
 a0:=isAgg0
 z0:=sizeOf0
 v0:=zeroValue0
 t4:=underlying4
 a4:=isAgg4
 z4:=sizeOf4
 v4:=zeroValue4
 t5:=underlying5
 a5:=isAgg5
 z5:=sizeOf5
 v5:=zeroValue5
 t116:=underlying267
 a116:=isAgg267
 z116:=sizeOf267
 t124:=underlying288
 a124:=isAgg288
 z124:=sizeOf288
 v124:=zeroValue288 }
open Go.RowKit Go.Lib in
theorem Tryz.asciiSet_contains(b:Nat)(x:UInt8)(v:Bool)(w:World)(hc:w.cell? ⟨b,x.toNat,none⟩=some (.bool v)):
  Calls prog 237 #[.pointer (some ⟨b,0,none⟩),.int .u8 x.toNat] w λe w'=>e=.returned (.bool v)/\w'=w:=Any.asciiSet_contains lays228 b x v w hc
def Tryz.lays260_ren:Go.Shelf.Ren:=⟨fun|260=>276|n=>n,fun|9=>9|21=>21|3=>3|4=>4|5=>5|119=>300|0=>0|46=>198|139=>303|138=>302|n=>n,fun|3=>6|4=>7|n=>n⟩
theorem Tryz.lays260:Go.Proofs.Lays.n260 prog lays260_ren:={
 mixed:=by kernel_rfl
 f260:=func276.trans (congrArg some (by kernel_rfl))
 t0:=underlying0
 a0:=isAgg0
 z0:=sizeOf0
 v0:=zeroValue0
 t3:=underlying3
 a3:=isAgg3
 z3:=sizeOf3
 v3:=zeroValue3
 t4:=underlying4
 a4:=isAgg4
 z4:=sizeOf4
 v4:=zeroValue4
 t5:=underlying5
 a5:=isAgg5
 z5:=sizeOf5
 v5:=zeroValue5
 t9:=underlying9
 a9:=isAgg9
 z9:=sizeOf9
 v9:=zeroValue9
 t21:=underlying21
 a21:=isAgg21
 z21:=sizeOf21
 v21:=zeroValue21
 t46:=underlying198
 a46:=isAgg198
 z46:=sizeOf198
 v46:=zeroValue198
 t119:=underlying300
 a119:=isAgg300
 z119:=sizeOf300
 t138:=underlying302
 a138:=isAgg302
 z138:=sizeOf302
 v138:=zeroValue302
 t139:=underlying303
 a139:=isAgg303
 z139:=sizeOf303
 v139:=zeroValue303
 g3:=by kernel_rfl
 g4:=by kernel_rfl }
def Tryz.lays271_ren:Go.Shelf.Ren:=⟨fun|271=>238|120=>265|197=>266|260=>276|n=>n,fun|9=>9|21=>21|3=>3|4=>4|5=>5|105=>270|119=>300|0=>0|46=>198|139=>303|138=>302|n=>n,fun|3=>6|4=>7|n=>n⟩
theorem Tryz.lays271:Go.Proofs.Lays.n271 prog lays271_ren:={
 mixed:=by kernel_rfl
 f120:=func265.trans (congrArg some (by kernel_rfl))
 f197:=func266.trans (congrArg some (by kernel_rfl))
 f260:=func276.trans (congrArg some (by kernel_rfl))
 f271:=func238.trans (congrArg some (by kernel_rfl))
 t0:=underlying0
 a0:=isAgg0
 z0:=sizeOf0
 v0:=zeroValue0
 t3:=underlying3
 a3:=isAgg3
 z3:=sizeOf3
 v3:=zeroValue3
 t4:=underlying4
 a4:=isAgg4
 z4:=sizeOf4
 v4:=zeroValue4
 t5:=underlying5
 a5:=isAgg5
 z5:=sizeOf5
 v5:=zeroValue5
 t9:=underlying9
 a9:=isAgg9
 z9:=sizeOf9
 v9:=zeroValue9
 t21:=underlying21
 a21:=isAgg21
 z21:=sizeOf21
 v21:=zeroValue21
 t46:=underlying198
 a46:=isAgg198
 z46:=sizeOf198
 v46:=zeroValue198
 t105:=underlying270
 a105:=isAgg270
 z105:=sizeOf270
 v105:=zeroValue270
 t119:=underlying300
 a119:=isAgg300
 z119:=sizeOf300
 t138:=underlying302
 a138:=isAgg302
 z138:=sizeOf302
 v138:=zeroValue302
 t139:=underlying303
 a139:=isAgg303
 z139:=sizeOf303
 v139:=zeroValue303
 g3:=by kernel_rfl
 g4:=by kernel_rfl }
open Go.RowKit Go.Lib in
theorem Tryz.utf8_DecodeLastRuneInString(s:ByteArray)(w:World)(a:s.size<=9223372036854775807)(b:Lib.Utf8Tabs 6 7 w):
  Calls prog 238 #[.string s] w λe w'=>e=.returned (.tuple #[.int .i32 (Lib.decodeLastL s.data.toList).1,.int .i64 (Lib.decodeLastL s.data.toList).2])/\Below w.heap.size w w':=Any.utf8_DecodeLastRuneInString lays271 s w a b
def Tryz.lays110_ren:Go.Shelf.Ren:=⟨fun|110=>50|109=>85|n=>n,fun|31=>23|9=>9|4=>4|3=>3|0=>0|n=>n,fun|n=>n⟩
theorem Tryz.lays110:Go.Proofs.Lays.n110 prog lays110_ren:={
 mixed:=by kernel_rfl
 f109:=func85.trans (congrArg some (by kernel_rfl))
 f110:=func50.trans (congrArg some (by kernel_rfl))
 t0:=underlying0
 a0:=isAgg0
 z0:=sizeOf0
 v0:=zeroValue0
 t3:=underlying3
 a3:=isAgg3
 z3:=sizeOf3
 v3:=zeroValue3
 t4:=underlying4
 a4:=isAgg4
 z4:=sizeOf4
 v4:=zeroValue4
 t9:=underlying9
 a9:=isAgg9
 z9:=sizeOf9
 v9:=zeroValue9
 t31:=underlying23
 a31:=isAgg23
 z31:=sizeOf23
 v31:=zeroValue23 }
open Go.Lib in
theorem Tryz.slices_Contains_string(b off n c:Nat)(zs:List ByteArray)(x:ByteArray)(w:World)(d:n<=zs.length)(a:n<=9223372036854775807)(hc:∀j,j<zs.length->w.cell? ⟨b,off+j,none⟩=some (.string (zs.getD j ByteArray.empty))):
  Calls prog 50 #[.slice (some ⟨b,off,none⟩) n c,.string x] w λe w'=>e=.returned (.bool (Lib.containsS (zs.take n) x))/\w'=w:=Any.slices_Contains_string lays110 b off n c zs x w d a hc
open Go.Lib in
theorem Tryz.slices_Contains_string_empty(a:Option Addr)(c:Nat)(x:ByteArray)(w:World):
  Calls prog 50 #[.slice a 0 c,.string x] w λe w'=>e=.returned (.bool false)/\w'=w:=Any.slices_Contains_string_empty lays110 a c x w
def Tryz.lays193_ren:Go.Shelf.Ren:=⟨fun|193=>119|n=>n,fun|31=>23|9=>9|4=>4|3=>3|0=>0|n=>n,fun|n=>n⟩
theorem Tryz.lays193:Go.Proofs.Lays.n193 prog lays193_ren:={
 mixed:=by kernel_rfl
 f193:=func119.trans (congrArg some (by kernel_rfl))
 t0:=underlying0
 a0:=isAgg0
 z0:=sizeOf0
 v0:=zeroValue0
 t3:=underlying3
 a3:=isAgg3
 z3:=sizeOf3
 v3:=zeroValue3
 t4:=underlying4
 a4:=isAgg4
 z4:=sizeOf4
 v4:=zeroValue4
 t9:=underlying9
 a9:=isAgg9
 z9:=sizeOf9
 v9:=zeroValue9
 t31:=underlying23
 a31:=isAgg23
 z31:=sizeOf23
 v31:=zeroValue23 }
open Go.RowKit Go.Lib in
theorem Tryz.slices_Equal_string(f i n c g o2 m d:Nat)(xs ys:List ByteArray)(w:World)(hx:n<=xs.length)(l:m<=ys.length)(b:n<=9223372036854775807)(a:m<=9223372036854775807)(k:∀j,j<xs.length->w.cell? ⟨f,i+j,none⟩=some (.string (xs.getD j ByteArray.empty)))(h:∀j,j<ys.length->w.cell? ⟨g,o2+j,none⟩=some (.string (ys.getD j ByteArray.empty))):
  Calls prog 119 #[.slice (some ⟨f,i,none⟩) n c,.slice (some ⟨g,o2,none⟩) m d] w λe w'=>e=.returned (.bool (decide (xs.take n=ys.take m)))/\∃q,w'=w.drewN q:=Any.slices_Equal_string lays193 f i n c g o2 m d xs ys w hx l b a k h
open Go.RowKit Go.Lib in
theorem Tryz.slices_Equal_string_empty(a1 a2:Option Addr)(c m d:Nat)(w:World)(a:m<=9223372036854775807):
  Calls prog 119 #[.slice a1 0 c,.slice a2 m d] w λe w'=>e=.returned (.bool (decide (m=0)))/\w'=w:=Any.slices_Equal_string_empty lays193 a1 a2 c m d w a
def Tryz.laysNm217_ren:Go.Shelf.Ren:=⟨fun|17=>130|n=>n,fun|24=>23|9=>9|3=>3|4=>4|0=>0|n=>n,fun|n=>n⟩
theorem Tryz.laysNm217:Go.Proofs.Lays2.n17 prog laysNm217_ren:={
 mixed:=by kernel_rfl
 f17:=func130.trans (congrArg some (by kernel_rfl))
 t0:=underlying0
 a0:=isAgg0
 z0:=sizeOf0
 v0:=zeroValue0
 t3:=underlying3
 a3:=isAgg3
 z3:=sizeOf3
 v3:=zeroValue3
 t4:=underlying4
 a4:=isAgg4
 z4:=sizeOf4
 v4:=zeroValue4
 t9:=underlying9
 a9:=isAgg9
 z9:=sizeOf9
 v9:=zeroValue9
 t24:=underlying23
 a24:=isAgg23
 z24:=sizeOf23
 v24:=zeroValue23 }
open Go.RowKit Go.Lib Go.Sort in
theorem Tryz.slices_Reverse_string_empty(a:Option Addr)(cap:Nat)(w:World):
  Calls prog 130 #[.slice a 0 cap] w λe w'=>e=.returned (.tuple #[])/\w'=w:=Any.slices_Reverse_string_empty laysNm217 a cap w
def Tryz.laysNm216_ren:Go.Shelf.Ren:=⟨fun|16=>83|n=>n,fun|24=>23|9=>9|4=>4|n=>n,fun|n=>n⟩
theorem Tryz.laysNm216:Go.Proofs.Lays2.n16 prog laysNm216_ren:={
 mixed:=by kernel_rfl
 f16:=func83.trans (congrArg some (by kernel_rfl))
 t4:=underlying4
 a4:=isAgg4
 z4:=sizeOf4
 v4:=zeroValue4
 t9:=underlying9
 a9:=isAgg9
 z9:=sizeOf9
 v9:=zeroValue9
 t24:=underlying23
 a24:=isAgg23
 z24:=sizeOf23
 v24:=zeroValue23
 i9:=by kernel_rfl }
open Go.RowKit Go.Lib in
theorem Tryz.slices_Clone_string(b off n c:Nat)(zs:List ByteArray)(w:World)(f:n<=zs.length)(a:n*16<=140737488355328)(hc:∀j,j<zs.length->w.cell? ⟨b,off+j,none⟩=some (.string (zs.getD j ByteArray.empty))):
  Calls prog 83 #[.slice (some ⟨b,off,none⟩) n c] w λe w'=>∃d,e=.returned d/\w'.ownsRow w.heap.size 9 1 d n ((zs.take n).map (Value.string))/\d≠.slice none 0 0/\Below w.heap.size w w':=Any.slices_Clone_string laysNm216 b off n c zs w f a hc
open Go.RowKit Go.Lib in
theorem Tryz.slices_Clone_string_nil(n c:Nat)(w:World):
  Calls prog 83 #[.slice none n c] w λe w'=>e=.returned (.slice none 0 0)/\w'=w:=Any.slices_Clone_string_nil laysNm216 n c w
open Go.RowKit Go.Lib in
theorem Tryz.slices_Clone_string_zero(a:Addr)(c:Nat)(w:World):
  Calls prog 83 #[.slice (some a) 0 c] w λe w'=>∃b,e=.returned b/\w'.ownsRow w.heap.size 9 1 b 0 []/\b≠.slice none 0 0/\Below w.heap.size w w':=Any.slices_Clone_string_zero laysNm216 a c w
open Go.RowKit Go.Lib Go.Sort in
theorem Tryz.slices_Reverse_string_cells(b off n c:Nat)(Sx:Nat->ByteArray)(w:World)(a:n<=9223372036854775807)(hc:∀i,i<n->w.cell? ⟨b,off+i,none⟩=some (.string (Sx i)))(d:∀j,j<n->w.frozen? ⟨b,off+j,none⟩=false):
  Calls prog 130 #[.slice (some ⟨b,off,none⟩) n c] w λe w'=>e=.returned (.tuple #[])/\∃q,w'=(w.drewN q).setCells b off ((Lib.strsOf Sx n).reverse.map encStr):=Any.slices_Reverse_string_cells laysNm217 b off n c Sx w a hc d
open Go.RowKit Go.Lib in
theorem Tryz.slices_Equal_string_lens(a1 a2:Option Addr)(n c m d:Nat)(w:World)(a:n≠m):
  Calls prog 119 #[.slice a1 n c,.slice a2 m d] w λe w'=>e=.returned (.bool false)/\w'=w:=Any.slices_Equal_string_lens lays193 a1 a2 n c m d w a
def Tryz.laysSlE041_f83_ren:Go.Shelf.Ren:=⟨fun|41=>83|n=>n,fun|22=>23|23=>9|4=>4|n=>n,fun|n=>n⟩
theorem Tryz.laysSlE041_f83:Go.Proofs.SlLaysE0.n41 prog laysSlE041_f83_ren:={
 mixed:=by kernel_rfl
 f41:=⟨f83.name,by decide,func83.trans (congrArg some (by kernel_rfl))⟩
 t4:=underlying4
 a4:=isAgg4
 z4:=sizeOf4
 v4:=zeroValue4
 t22:=underlying23
 a22:=isAgg23
 z22:=sizeOf23
 v22:=zeroValue23 }
open Go.RowKit Go.Lib in
theorem Tryz.slices_Clone(i0:TypeInfo)(z:Value)(size bytes:Nat)(l:prog.info? 9=some i0)(g:i0.zero=some z)(f:i0.size=size)(h:i0.bytes=bytes)(d:z.cells.size=size)(hsz:0<size)(z23:∀w,(Go.sizeOf 9).run prog w=.ok size w)(b off n c:Nat)(news:List Value)(w:World)(m:news.length=n*size)(k:n<=maxLen)(a:n*bytes<=140737488355328)(hc:∀j u,news[j]?=some u->w.cell? ⟨b,off+j,none⟩=some u)(h1:∀u∈news,u.oneCell'=true):
  Calls prog 83 #[.slice (some ⟨b,off,none⟩) n c] w λe w'=>∃i,e=.returned i/\w'.ownsRow w.heap.size 9 size i n news/\i≠.slice none 0 0/\Below w.heap.size w w':=AnyE.slices_Clone laysSlE041_f83 i0 z size bytes l g f h d hsz z23 b off n c news w m k a hc h1
open Go.RowKit Go.Lib in
theorem Tryz.slices_Clone_nil(n c:Nat)(w:World):
  Calls prog 83 #[.slice none n c] w λe w'=>e=.returned (.slice none 0 0)/\w'=w:=AnyE.slices_Clone_nil laysSlE041_f83 n c w
end Go.Proofs
