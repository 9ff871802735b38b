/- Lemmas for the card. -/
import Derived.Shelf.Strings.Trim
import Derived.Shelf.Strings.BuilderRune
import Derived.Shelf.Utf8.AppendRune
import Derived.Shelf.Utf8.AppendRunePlain
import Derived.Shelf.Strconv.Itoa4
import Derived.Shelf.Strconv.ErrVarAll
import Derived.Shelf.Strconv.ParseUint10At
import Derived.Shelf.Pu.ParseUintPublic10
import Derived.Shelf.Sort.Plain
import Derived.Shelf.GgClosure.StringsRunes
import Derived.Shelf.Unicode.Decode
import Derived.Shelf.Strings.IndexAnyAll
import Derived.Shelf.Strings.Repeat
import Derived.Shelf.Strings.FieldsAny
import Derived.Shelf.Unicode.ExclAny
import Derived.Shelf.Strings.BuilderCap
import Derived.Shelf.Slices.In.SortNone
import Derived.Test.YtmjpjbmeamnfpaaGreatDoorProg
import Derived.WalkLawsBesides
set_option linter.unusedVariables false
set_option linter.unusedSimpArgs false
theorem U{α:Sort _}{a:α}:a=a:=rfl
namespace Go.Proofs
open Go.Shelf
def Tryz.eM:Go.Shelf.Ren:=⟨λ |169=>110|n=>n,λ |70=>161|9=>9|0=>0|72=>163|37=>110|127=>196|3=>3|5=>5|n=>n,λ |n=>n⟩
theorem Tryz.rH:Go.Proofs.Lays.n169 prog Tryz.eM:= {
 mixed:=by kernel_rfl
 f169:=func110.trans (congrArg some (by kernel_rfl))
 t0:=underlying0
 a0:=isAgg0
 z0:=sizeOf0
 v0:=zeroValue0
 t3:=underlying3
 a3:=isAgg3
 z3:=sizeOf3
 v3:=zeroValue3
 t9:=underlying9
 a9:=isAgg9
 z9:=sizeOf9
 v9:=zeroValue9
 t37:=underlying110
 a37:=isAgg110
 z37:=sizeOf110
 v37:=zeroValue110
 t70:=underlying161
 a70:=isAgg161
 z70:=sizeOf161
 v70:=zeroValue161
 t72:=underlying163
 a72:=isAgg163
 z72:=sizeOf163
 v72:=zeroValue163
 t127:=underlying196
 a127:=isAgg196
 z127:=sizeOf196
 v127:=zeroValue196}
theorem Tryz.rI:Builder.Extra prog Tryz.eM:= {
 sizeBuilder:=by kernel_rfl
 liesBuilder:=by kernel_rfl
 t5:=underlying5
 a5:=isAgg5
 z5:=sizeOf5
 v5:=zeroValue5
 infoByte:=by kernel_rfl
 cellsByte:=by kernel_rfl
 sizeByte:=by kernel_rfl
 neB5:=by decide}
open Go.RowKit in
theorem Tryz.Builder_String_any (B b:Nat)(l:List UInt8)(w:World)(h:Lib.IsBuilder 163 5 B b (Lib.byteCells l) w)(hBw:B<=w.heap.size):
 Calls prog 110 #[.pointer (some ⟨b,0,none⟩)] w λ e w'=>e= .returned (.string ⟨l.toArray⟩)/\Below B w w':=Any.Builder_String_any Tryz.rH Tryz.rI B b l w h hBw
def Tryz.rJ:Go.Shelf.Ren:=⟨λ |161=>47|231=>72|227=>73|233=>74|235=>75|228=>105|197=>106|151=>107|260=>145|152=>146|137=>119|119=>192|224=>193|225=>194|217=>155|266=>204|n=>n,λ |9=>9|4=>4|3=>3|5=>5|117=>127|116=>126|0=>0|124=>130|105=>157|21=>21|119=>203|46=>192|139=>233|138=>232|n=>n,λ |3=>1|4=>2|n=>n⟩
theorem Tryz.rK:Go.Proofs.Lays.n161 prog Tryz.rJ:= {
 mixed:=by kernel_rfl
 f119:=func192.trans (congrArg some (by kernel_rfl))
 f137:=func119.trans (congrArg some (by kernel_rfl))
 f151:=func107.trans (congrArg some (by kernel_rfl))
 f152:=func146.trans (congrArg some (by kernel_rfl))
 f161:=func47.trans (congrArg some (by kernel_rfl))
 f197:=func106.trans (congrArg some (by kernel_rfl))
 f217:=func155.trans (congrArg some (by kernel_rfl))
 f224:=func193.trans (congrArg some (by kernel_rfl))
 f225:=func194.trans (congrArg some (by kernel_rfl))
 f227:=func73.trans (congrArg some (by kernel_rfl))
 f228:=func105.trans (congrArg some (by kernel_rfl))
 f231:=func72.trans (congrArg some (by kernel_rfl))
 f233:=func74.trans (congrArg some (by kernel_rfl))
 f235:=func75.trans (congrArg some (by kernel_rfl))
 f260:=func145.trans (congrArg some (by kernel_rfl))
 f266:=func204.trans (congrArg some (by kernel_rfl))
 t0:=underlying0
 a0:=isAgg0
 z0:=sizeOf0
 v0:=zeroValue0
 t3:=underlying3
 a3:=isAgg3
 z3:=sizeOf3
 v3:=zeroValue3
 t4:=underlying4
 a4:=isAgg4
 z4:=sizeOf4
 v4:=zeroValue4
 t5:=underlying5
 a5:=isAgg5
 z5:=sizeOf5
 v5:=zeroValue5
 t9:=underlying9
 a9:=isAgg9
 z9:=sizeOf9
 v9:=zeroValue9
 t21:=underlying21
 a21:=isAgg21
 z21:=sizeOf21
 v21:=zeroValue21
 t46:=underlying192
 a46:=isAgg192
 z46:=sizeOf192
 v46:=zeroValue192
 t105:=underlying157
 a105:=isAgg157
 z105:=sizeOf157
 v105:=zeroValue157
 t116:=underlying126
 a116:=isAgg126
 z116:=sizeOf126
 t117:=underlying127
 a117:=isAgg127
 z117:=sizeOf127
 v117:=zeroValue127
 t119:=underlying203
 a119:=isAgg203
 z119:=sizeOf203
 t124:=underlying130
 a124:=isAgg130
 z124:=sizeOf130
 v124:=zeroValue130
 t138:=underlying232
 a138:=isAgg232
 z138:=sizeOf232
 v138:=zeroValue232
 t139:=underlying233
 a139:=isAgg233
 z139:=sizeOf233
 v139:=zeroValue233
 g3:=by kernel_rfl
 g4:=by kernel_rfl}
def Tryz.rL:Go.Shelf.Ren:=⟨λ |162=>159|232=>211|227=>73|234=>212|236=>213|228=>105|271=>248|151=>107|120=>275|197=>106|152=>146|260=>145|137=>119|119=>192|224=>193|225=>194|217=>155|266=>204|n=>n,λ |9=>9|4=>4|3=>3|5=>5|117=>127|116=>126|0=>0|124=>130|21=>21|105=>157|46=>192|119=>203|139=>233|138=>232|n=>n,λ |3=>1|4=>2|n=>n⟩
theorem Tryz.rM:Go.Proofs.Lays.n162 prog Tryz.rL:= {
 mixed:=by kernel_rfl
 f119:=func192.trans (congrArg some (by kernel_rfl))
 f120:=func275.trans (congrArg some (by kernel_rfl))
 f137:=func119.trans (congrArg some (by kernel_rfl))
 f151:=func107.trans (congrArg some (by kernel_rfl))
 f152:=func146.trans (congrArg some (by kernel_rfl))
 f162:=func159.trans (congrArg some (by kernel_rfl))
 f197:=func106.trans (congrArg some (by kernel_rfl))
 f217:=func155.trans (congrArg some (by kernel_rfl))
 f224:=func193.trans (congrArg some (by kernel_rfl))
 f225:=func194.trans (congrArg some (by kernel_rfl))
 f227:=func73.trans (congrArg some (by kernel_rfl))
 f228:=func105.trans (congrArg some (by kernel_rfl))
 f232:=func211.trans (congrArg some (by kernel_rfl))
 f234:=func212.trans (congrArg some (by kernel_rfl))
 f236:=func213.trans (congrArg some (by kernel_rfl))
 f260:=func145.trans (congrArg some (by kernel_rfl))
 f266:=func204.trans (congrArg some (by kernel_rfl))
 f271:=func248.trans (congrArg some (by kernel_rfl))
 t0:=underlying0
 a0:=isAgg0
 z0:=sizeOf0
 v0:=zeroValue0
 t3:=underlying3
 a3:=isAgg3
 z3:=sizeOf3
 v3:=zeroValue3
 t4:=underlying4
 a4:=isAgg4
 z4:=sizeOf4
 v4:=zeroValue4
 t5:=underlying5
 a5:=isAgg5
 z5:=sizeOf5
 v5:=zeroValue5
 t9:=underlying9
 a9:=isAgg9
 z9:=sizeOf9
 v9:=zeroValue9
 t21:=underlying21
 a21:=isAgg21
 z21:=sizeOf21
 v21:=zeroValue21
 t46:=underlying192
 a46:=isAgg192
 z46:=sizeOf192
 v46:=zeroValue192
 t105:=underlying157
 a105:=isAgg157
 z105:=sizeOf157
 v105:=zeroValue157
 t116:=underlying126
 a116:=isAgg126
 z116:=sizeOf126
 t117:=underlying127
 a117:=isAgg127
 z117:=sizeOf127
 v117:=zeroValue127
 t119:=underlying203
 a119:=isAgg203
 z119:=sizeOf203
 t124:=underlying130
 a124:=isAgg130
 z124:=sizeOf130
 v124:=zeroValue130
 t138:=underlying232
 a138:=isAgg232
 z138:=sizeOf232
 v138:=zeroValue232
 t139:=underlying233
 a139:=isAgg233
 z139:=sizeOf233
 v139:=zeroValue233
 g3:=by kernel_rfl
 g4:=by kernel_rfl}
def Tryz.rN:Go.Shelf.Ren:=⟨λ |119=>192|n=>n,λ |21=>21|4=>4|n=>n,λ |n=>n⟩
theorem Tryz.rO:Go.Proofs.Lays.n119 prog Tryz.rN:= {
 mixed:=by kernel_rfl
 f119:=func192.trans (congrArg some (by kernel_rfl))
 t4:=underlying4
 a4:=isAgg4
 z4:=sizeOf4
 v4:=zeroValue4
 t21:=underlying21
 a21:=isAgg21
 z21:=sizeOf21
 v21:=zeroValue21}
theorem Tryz.utf8_ValidRune (r:Int)(w:World):
 Calls prog 192 #[.int .i32 r] w λ e w'=>e= .returned (.bool (Lib.validRune r))/\w'=w:=Any.utf8_ValidRune Tryz.rO r w
def Tryz.rP:Go.Shelf.Ren:=⟨λ |137=>119|217=>155|266=>204|n=>n,λ |9=>9|5=>5|3=>3|n=>n,λ |n=>n⟩
theorem Tryz.rQ:Go.Proofs.Lays.n137 prog Tryz.rP:= {
 mixed:=by kernel_rfl
 f137:=func119.trans (congrArg some (by kernel_rfl))
 f217:=func155.trans (congrArg some (by kernel_rfl))
 f266:=func204.trans (congrArg some (by kernel_rfl))
 t3:=underlying3
 a3:=isAgg3
 z3:=sizeOf3
 v3:=zeroValue3
 t5:=underlying5
 a5:=isAgg5
 z5:=sizeOf5
 v5:=zeroValue5
 t9:=underlying9
 a9:=isAgg9
 z9:=sizeOf9
 v9:=zeroValue9}
open Go.RowKit in
theorem Tryz.strings_IndexByte (s:ByteArray)(c:Int)(w:World):
 Calls prog 119 #[.string s,.int .u8 c] w λ e w'=>e= .returned (.int .i64 (Lib.indexByte s.data.toList c.toNat.toUInt8))/\w'=w:=Any.strings_IndexByte Tryz.rQ s c w
def Tryz.rR:Go.Shelf.Ren:=⟨λ |171=>245|243=>272|246=>297|283=>307|284=>308|285=>309|286=>310|129=>190|317=>312|318=>313|319=>314|320=>315|337=>319|338=>320|n=>n,λ |3=>3|9=>9|2=>2|4=>4|171=>325|0=>0|53=>230|37=>110|5=>5|173=>327|212=>330|51=>93|20=>20|213=>331|46=>192|232=>339|233=>340|n=>n,λ |17=>7|18=>8|19=>9|n=>n⟩
theorem Tryz.rS:Go.Proofs.LaysM.n171 prog Tryz.rR:= {
 mixed:=by kernel_rfl
 f129:=func190.trans (congrArg some (by kernel_rfl))
 f171:=func245.trans (congrArg some (by kernel_rfl))
 f243:=func272.trans (congrArg some (by kernel_rfl))
 f246:=func297.trans (congrArg some (by kernel_rfl))
 f283:=func307.trans (congrArg some (by kernel_rfl))
 f284:=func308.trans (congrArg some (by kernel_rfl))
 f285:=func309.trans (congrArg some (by kernel_rfl))
 f286:=func310.trans (congrArg some (by kernel_rfl))
 f317:=func312.trans (congrArg some (by kernel_rfl))
 f318:=func313.trans (congrArg some (by kernel_rfl))
 f319:=func314.trans (congrArg some (by kernel_rfl))
 f320:=func315.trans (congrArg some (by kernel_rfl))
 f337:=func319.trans (congrArg some (by kernel_rfl))
 f338:=func320.trans (congrArg some (by kernel_rfl))
 t0:=underlying0
 a0:=isAgg0
 z0:=sizeOf0
 v0:=zeroValue0
 t2:=underlying2
 a2:=isAgg2
 z2:=sizeOf2
 v2:=zeroValue2
 t3:=underlying3
 a3:=isAgg3
 z3:=sizeOf3
 v3:=zeroValue3
 t4:=underlying4
 a4:=isAgg4
 z4:=sizeOf4
 v4:=zeroValue4
 t5:=underlying5
 a5:=isAgg5
 z5:=sizeOf5
 v5:=zeroValue5
 t9:=underlying9
 a9:=isAgg9
 z9:=sizeOf9
 v9:=zeroValue9
 t20:=underlying20
 a20:=isAgg20
 z20:=sizeOf20
 v20:=zeroValue20
 t37:=underlying110
 a37:=isAgg110
 z37:=sizeOf110
 v37:=zeroValue110
 t46:=underlying192
 a46:=isAgg192
 z46:=sizeOf192
 v46:=zeroValue192
 t51:=underlying93
 a51:=isAgg93
 z51:=sizeOf93
 v51:=zeroValue93
 t53:=underlying230
 a53:=isAgg230
 z53:=sizeOf230
 v53:=zeroValue230
 t171:=underlying325
 a171:=isAgg325
 z171:=sizeOf325
 v171:=zeroValue325
 t173:=underlying327
 a173:=isAgg327
 z173:=sizeOf327
 v173:=zeroValue327
 t212:=underlying330
 a212:=isAgg330
 z212:=sizeOf330
 v212:=zeroValue330
 t213:=underlying331
 a213:=isAgg331
 z213:=sizeOf331
 t232:=underlying339
 a232:=isAgg339
 z232:=sizeOf339
 v232:=zeroValue339
 t233:=underlying340
 a233:=isAgg340
 z233:=sizeOf340
 v233:=zeroValue340
 g17:=by kernel_rfl
 g18:=by kernel_rfl
 g19:=by kernel_rfl
 i0:=by kernel_rfl
 i2:=by kernel_rfl
 i3:=by kernel_rfl
 i4:=by kernel_rfl
 i5:=by kernel_rfl
 i9:=by kernel_rfl
 i20:=by kernel_rfl
 i37:=by kernel_rfl
 i46:=by kernel_rfl
 i51:=by kernel_rfl
 i53:=by kernel_rfl
 i171:=by kernel_rfl
 i173:=by kernel_rfl
 i212:=by kernel_rfl
 i232:=by kernel_rfl
 i233:=by kernel_rfl
 m17:=by kernel_rfl
 m18:=by kernel_rfl
 m19:=by kernel_rfl}
open Go.RowKit Go.Sort Go.Lib in
theorem Tryz.strconv_Itoa (n:Int)(h0: -9223372036854775808<=n)(h1:n<=9223372036854775807)(w:World)(htab:Lib.TabIs prog w "internal/strconv.uint64pow10" .u64 Lib.pow10Tab):
 Calls prog 245 #[.int .i64 n] w λ e w'=>e= .returned (.string ⟨(Lib.itoa n).toArray⟩)/\ ∃k os,w'=grow (w.drewN k) os:=Any.strconv_Itoa Tryz.rS n h0 h1 w htab
def Tryz.rT:Go.Shelf.Ren:=⟨λ |245=>157|279=>206|280=>207|281=>208|282=>209|316=>243|171=>245|205=>244|243=>272|246=>297|283=>307|284=>308|285=>309|286=>310|129=>190|317=>312|318=>313|319=>314|320=>315|337=>319|338=>320|n=>n,λ |9=>9|3=>3|75=>166|167=>248|4=>4|168=>251|210=>286|37=>110|0=>0|127=>196|145=>307|143=>305|2=>2|171=>325|53=>230|5=>5|173=>327|212=>330|51=>93|20=>20|213=>331|46=>192|232=>339|233=>340|80=>164|n=>n,λ |15=>5|16=>6|17=>7|18=>8|19=>9|n=>n⟩
theorem Tryz.rU:Go.Proofs.LaysC.n245 prog Tryz.rT:= {
 mixed:=by kernel_rfl
 f129:=func190.trans (congrArg some (by kernel_rfl))
 f171:=func245.trans (congrArg some (by kernel_rfl))
 f205:=func244.trans (congrArg some (by kernel_rfl))
 f243:=func272.trans (congrArg some (by kernel_rfl))
 f245:=func157.trans (congrArg some (by kernel_rfl))
 f246:=func297.trans (congrArg some (by kernel_rfl))
 f279:=func206.trans (congrArg some (by kernel_rfl))
 f280:=func207.trans (congrArg some (by kernel_rfl))
 f281:=func208.trans (congrArg some (by kernel_rfl))
 f282:=func209.trans (congrArg some (by kernel_rfl))
 f283:=func307.trans (congrArg some (by kernel_rfl))
 f284:=func308.trans (congrArg some (by kernel_rfl))
 f285:=func309.trans (congrArg some (by kernel_rfl))
 f286:=func310.trans (congrArg some (by kernel_rfl))
 f316:=func243.trans (congrArg some (by kernel_rfl))
 f317:=func312.trans (congrArg some (by kernel_rfl))
 f318:=func313.trans (congrArg some (by kernel_rfl))
 f319:=func314.trans (congrArg some (by kernel_rfl))
 f320:=func315.trans (congrArg some (by kernel_rfl))
 f337:=func319.trans (congrArg some (by kernel_rfl))
 f338:=func320.trans (congrArg some (by kernel_rfl))
 t0:=underlying0
 a0:=isAgg0
 z0:=sizeOf0
 v0:=zeroValue0
 t2:=underlying2
 a2:=isAgg2
 z2:=sizeOf2
 v2:=zeroValue2
 t3:=underlying3
 a3:=isAgg3
 z3:=sizeOf3
 v3:=zeroValue3
 t4:=underlying4
 a4:=isAgg4
 z4:=sizeOf4
 v4:=zeroValue4
 t5:=underlying5
 a5:=isAgg5
 z5:=sizeOf5
 v5:=zeroValue5
 t9:=underlying9
 a9:=isAgg9
 z9:=sizeOf9
 v9:=zeroValue9
 t20:=underlying20
 a20:=isAgg20
 z20:=sizeOf20
 v20:=zeroValue20
 t37:=underlying110
 a37:=isAgg110
 z37:=sizeOf110
 v37:=zeroValue110
 t46:=underlying192
 a46:=isAgg192
 z46:=sizeOf192
 v46:=zeroValue192
 t51:=underlying93
 a51:=isAgg93
 z51:=sizeOf93
 v51:=zeroValue93
 t53:=underlying230
 a53:=isAgg230
 z53:=sizeOf230
 v53:=zeroValue230
 t75:=underlying166
 a75:=isAgg166
 z75:=sizeOf166
 v75:=zeroValue166
 t127:=underlying196
 a127:=isAgg196
 z127:=sizeOf196
 v127:=zeroValue196
 t143:=underlying305
 a143:=isAgg305
 z143:=sizeOf305
 v143:=zeroValue305
 t145:=underlying307
 a145:=isAgg307
 z145:=sizeOf307
 v145:=zeroValue307
 t167:=underlying248
 a167:=isAgg248
 z167:=sizeOf248
 v167:=zeroValue248
 t168:=underlying251
 a168:=isAgg251
 z168:=sizeOf251
 v168:=zeroValue251
 t171:=underlying325
 a171:=isAgg325
 z171:=sizeOf325
 v171:=zeroValue325
 t173:=underlying327
 a173:=isAgg327
 z173:=sizeOf327
 v173:=zeroValue327
 t210:=underlying286
 a210:=isAgg286
 z210:=sizeOf286
 v210:=zeroValue286
 t212:=underlying330
 a212:=isAgg330
 z212:=sizeOf330
 v212:=zeroValue330
 t213:=underlying331
 a213:=isAgg331
 z213:=sizeOf331
 t232:=underlying339
 a232:=isAgg339
 z232:=sizeOf339
 v232:=zeroValue339
 t233:=underlying340
 a233:=isAgg340
 z233:=sizeOf340
 v233:=zeroValue340
 g15:=by kernel_rfl
 g16:=by kernel_rfl
 g17:=by kernel_rfl
 g18:=by kernel_rfl
 g19:=by kernel_rfl
 t80:=underlying164
 a80:=isAgg164
 z80:=sizeOf164
 v80:=zeroValue164
 i0:=by kernel_rfl
 i2:=by kernel_rfl
 i3:=by kernel_rfl
 i4:=by kernel_rfl
 i5:=by kernel_rfl
 i9:=by kernel_rfl
 i20:=by kernel_rfl
 i37:=by kernel_rfl
 i46:=by kernel_rfl
 i51:=by kernel_rfl
 i53:=by kernel_rfl
 i75:=by kernel_rfl
 i80:=by kernel_rfl
 i127:=by kernel_rfl
 i143:=by kernel_rfl
 i145:=by kernel_rfl
 i167:=by kernel_rfl
 i168:=by kernel_rfl
 i171:=by kernel_rfl
 i173:=by kernel_rfl
 i210:=by kernel_rfl
 i212:=by kernel_rfl
 i232:=by kernel_rfl
 i233:=by kernel_rfl
 m15:=by kernel_rfl
 m16:=by kernel_rfl
 m17:=by kernel_rfl
 m18:=by kernel_rfl
 m19:=by kernel_rfl
 c0:=by kernel_rfl
 c2:=by kernel_rfl
 c3:=by kernel_rfl
 c4:=by kernel_rfl
 c5:=by kernel_rfl
 c9:=by kernel_rfl
 c20:=by kernel_rfl
 c37:=by kernel_rfl
 c46:=by kernel_rfl
 c51:=by kernel_rfl
 c53:=by kernel_rfl
 c75:=by kernel_rfl
 c80:=by kernel_rfl
 c127:=by kernel_rfl
 c143:=by kernel_rfl
 c145:=by kernel_rfl
 c167:=by kernel_rfl
 c168:=by kernel_rfl
 c171:=by kernel_rfl
 c173:=by kernel_rfl
 c210:=by kernel_rfl
 c212:=by kernel_rfl
 c213:=by kernel_rfl
 c232:=by kernel_rfl
 c233:=by kernel_rfl}
open Go.RowKit in
theorem Tryz.strconv_toError_syntax (fn s:ByteArray)(base bits:Int)(ev:Value)(w:World)(hlim:s.size<=281474976710656)(hv:w.cell? ⟨5,0,none⟩=some ev)(hev:ev= .nilIface\/ ∃te pe,ev= .iface te pe):
 Calls prog 157 #[.string fn,.string s,.int .i64 base,.int .i64 bits,.iface 248 (.int .i64 2)] w λ e w'=> ∃N,e= .returned (.iface 251 (.pointer (some ⟨N,0,none⟩)))/\w.heap.size<=N/\w'.heap[N]? =some (.cells #[.string fn,.string s,ev] 286 (0,0))/\Below w.heap.size w w':=Any.strconv_toError_syntax Tryz.rU fn s base bits ev w hlim hv hev
def Tryz.rV:Go.Shelf.Ren:=⟨λ |172=>120|244=>156|245=>157|247=>205|279=>206|280=>207|281=>208|282=>209|287=>236|316=>243|171=>245|205=>244|321=>262|322=>263|243=>272|246=>297|283=>307|284=>308|285=>309|286=>310|129=>190|317=>312|318=>313|319=>314|320=>315|337=>319|338=>320|n=>n,λ |9=>9|3=>3|75=>166|76=>167|4=>4|5=>5|167=>248|37=>110|0=>0|85=>249|2=>2|168=>251|53=>230|175=>235|46=>192|210=>286|127=>196|145=>307|143=>305|21=>21|171=>325|173=>327|212=>330|51=>93|20=>20|213=>331|232=>339|233=>340|80=>164|n=>n,λ |15=>5|16=>6|17=>7|18=>8|19=>9|n=>n⟩
theorem Tryz.eN:Go.Proofs.LaysC.n172 prog Tryz.rV:= {
 mixed:=by kernel_rfl
 f129:=func190.trans (congrArg some (by kernel_rfl))
 f171:=func245.trans (congrArg some (by kernel_rfl))
 f172:=func120.trans (congrArg some (by kernel_rfl))
 f205:=func244.trans (congrArg some (by kernel_rfl))
 f243:=func272.trans (congrArg some (by kernel_rfl))
 f244:=func156.trans (congrArg some (by kernel_rfl))
 f245:=func157.trans (congrArg some (by kernel_rfl))
 f246:=func297.trans (congrArg some (by kernel_rfl))
 f247:=func205.trans (congrArg some (by kernel_rfl))
 f279:=func206.trans (congrArg some (by kernel_rfl))
 f280:=func207.trans (congrArg some (by kernel_rfl))
 f281:=func208.trans (congrArg some (by kernel_rfl))
 f282:=func209.trans (congrArg some (by kernel_rfl))
 f283:=func307.trans (congrArg some (by kernel_rfl))
 f284:=func308.trans (congrArg some (by kernel_rfl))
 f285:=func309.trans (congrArg some (by kernel_rfl))
 f286:=func310.trans (congrArg some (by kernel_rfl))
 f287:=func236.trans (congrArg some (by kernel_rfl))
 f316:=func243.trans (congrArg some (by kernel_rfl))
 f317:=func312.trans (congrArg some (by kernel_rfl))
 f318:=func313.trans (congrArg some (by kernel_rfl))
 f319:=func314.trans (congrArg some (by kernel_rfl))
 f320:=func315.trans (congrArg some (by kernel_rfl))
 f321:=func262.trans (congrArg some (by kernel_rfl))
 f322:=func263.trans (congrArg some (by kernel_rfl))
 f337:=func319.trans (congrArg some (by kernel_rfl))
 f338:=func320.trans (congrArg some (by kernel_rfl))
 t0:=underlying0
 a0:=isAgg0
 z0:=sizeOf0
 v0:=zeroValue0
 t2:=underlying2
 a2:=isAgg2
 z2:=sizeOf2
 v2:=zeroValue2
 t3:=underlying3
 a3:=isAgg3
 z3:=sizeOf3
 v3:=zeroValue3
 t4:=underlying4
 a4:=isAgg4
 z4:=sizeOf4
 v4:=zeroValue4
 t5:=underlying5
 a5:=isAgg5
 z5:=sizeOf5
 v5:=zeroValue5
 t9:=underlying9
 a9:=isAgg9
 z9:=sizeOf9
 v9:=zeroValue9
 t20:=underlying20
 a20:=isAgg20
 z20:=sizeOf20
 v20:=zeroValue20
 t21:=underlying21
 a21:=isAgg21
 z21:=sizeOf21
 v21:=zeroValue21
 t37:=underlying110
 a37:=isAgg110
 z37:=sizeOf110
 v37:=zeroValue110
 t46:=underlying192
 a46:=isAgg192
 z46:=sizeOf192
 v46:=zeroValue192
 t51:=underlying93
 a51:=isAgg93
 z51:=sizeOf93
 v51:=zeroValue93
 t53:=underlying230
 a53:=isAgg230
 z53:=sizeOf230
 v53:=zeroValue230
 t75:=underlying166
 a75:=isAgg166
 z75:=sizeOf166
 v75:=zeroValue166
 t76:=underlying167
 a76:=isAgg167
 z76:=sizeOf167
 v76:=zeroValue167
 t85:=underlying249
 a85:=isAgg249
 z85:=sizeOf249
 v85:=zeroValue249
 t127:=underlying196
 a127:=isAgg196
 z127:=sizeOf196
 v127:=zeroValue196
 t143:=underlying305
 a143:=isAgg305
 z143:=sizeOf305
 v143:=zeroValue305
 t145:=underlying307
 a145:=isAgg307
 z145:=sizeOf307
 v145:=zeroValue307
 t167:=underlying248
 a167:=isAgg248
 z167:=sizeOf248
 v167:=zeroValue248
 t168:=underlying251
 a168:=isAgg251
 z168:=sizeOf251
 v168:=zeroValue251
 t171:=underlying325
 a171:=isAgg325
 z171:=sizeOf325
 v171:=zeroValue325
 t173:=underlying327
 a173:=isAgg327
 z173:=sizeOf327
 v173:=zeroValue327
 t175:=underlying235
 a175:=isAgg235
 z175:=sizeOf235
 v175:=zeroValue235
 t210:=underlying286
 a210:=isAgg286
 z210:=sizeOf286
 v210:=zeroValue286
 t212:=underlying330
 a212:=isAgg330
 z212:=sizeOf330
 v212:=zeroValue330
 t213:=underlying331
 a213:=isAgg331
 z213:=sizeOf331
 t232:=underlying339
 a232:=isAgg339
 z232:=sizeOf339
 v232:=zeroValue339
 t233:=underlying340
 a233:=isAgg340
 z233:=sizeOf340
 v233:=zeroValue340
 g15:=by kernel_rfl
 g16:=by kernel_rfl
 g17:=by kernel_rfl
 g18:=by kernel_rfl
 g19:=by kernel_rfl
 t80:=underlying164
 a80:=isAgg164
 z80:=sizeOf164
 v80:=zeroValue164
 i0:=by kernel_rfl
 i2:=by kernel_rfl
 i3:=by kernel_rfl
 i4:=by kernel_rfl
 i5:=by kernel_rfl
 i9:=by kernel_rfl
 i20:=by kernel_rfl
 i21:=by kernel_rfl
 i37:=by kernel_rfl
 i46:=by kernel_rfl
 i51:=by kernel_rfl
 i53:=by kernel_rfl
 i75:=by kernel_rfl
 i76:=by kernel_rfl
 i80:=by kernel_rfl
 i85:=by kernel_rfl
 i127:=by kernel_rfl
 i143:=by kernel_rfl
 i145:=by kernel_rfl
 i167:=by kernel_rfl
 i168:=by kernel_rfl
 i171:=by kernel_rfl
 i173:=by kernel_rfl
 i175:=by kernel_rfl
 i210:=by kernel_rfl
 i212:=by kernel_rfl
 i232:=by kernel_rfl
 i233:=by kernel_rfl
 m15:=by kernel_rfl
 m16:=by kernel_rfl
 m17:=by kernel_rfl
 m18:=by kernel_rfl
 m19:=by kernel_rfl
 c0:=by kernel_rfl
 c2:=by kernel_rfl
 c3:=by kernel_rfl
 c4:=by kernel_rfl
 c5:=by kernel_rfl
 c9:=by kernel_rfl
 c20:=by kernel_rfl
 c21:=by kernel_rfl
 c37:=by kernel_rfl
 c46:=by kernel_rfl
 c51:=by kernel_rfl
 c53:=by kernel_rfl
 c75:=by kernel_rfl
 c76:=by kernel_rfl
 c80:=by kernel_rfl
 c85:=by kernel_rfl
 c127:=by kernel_rfl
 c143:=by kernel_rfl
 c145:=by kernel_rfl
 c167:=by kernel_rfl
 c168:=by kernel_rfl
 c171:=by kernel_rfl
 c173:=by kernel_rfl
 c175:=by kernel_rfl
 c210:=by kernel_rfl
 c212:=by kernel_rfl
 c213:=by kernel_rfl
 c232:=by kernel_rfl
 c233:=by kernel_rfl}
open Go.RowKit in
theorem Tryz.strconv_Atoi_ok (s:ByteArray)(hmax:s.size<=9223372036854775806)(v:Int)(h:Lib.atoiAll s.data.toList= .ok v)(w:World):
 Calls prog 120 #[.string s] w λ e w'=>e= .returned (.tuple #[.int .i64 v,.nilIface])/\(w'=w\/ ∃t,w'=Lib.bytesWorld w 5 t):=Any.strconv_Atoi_ok Tryz.eN s hmax v h w
def Tryz.rW:Go.Shelf.Ren:=⟨λ |237=>210|272=>247|238=>246|315=>274|273=>273|197=>106|271=>248|260=>145|120=>275|n=>n,λ |9=>9|40=>171|4=>4|3=>3|105=>157|21=>21|0=>0|5=>5|119=>203|46=>192|139=>233|138=>232|n=>n,λ |3=>1|4=>2|n=>n⟩
theorem Tryz.rX:Go.Proofs.Lays.n237 prog Tryz.rW:= {
 mixed:=by kernel_rfl
 f120:=func275.trans (congrArg some (by kernel_rfl))
 f197:=func106.trans (congrArg some (by kernel_rfl))
 f237:=func210.trans (congrArg some (by kernel_rfl))
 f238:=func246.trans (congrArg some (by kernel_rfl))
 f260:=func145.trans (congrArg some (by kernel_rfl))
 f271:=func248.trans (congrArg some (by kernel_rfl))
 f272:=func247.trans (congrArg some (by kernel_rfl))
 f273:=func273.trans (congrArg some (by kernel_rfl))
 f315:=func274.trans (congrArg some (by kernel_rfl))
 t0:=underlying0
 a0:=isAgg0
 z0:=sizeOf0
 v0:=zeroValue0
 t3:=underlying3
 a3:=isAgg3
 z3:=sizeOf3
 v3:=zeroValue3
 t4:=underlying4
 a4:=isAgg4
 z4:=sizeOf4
 v4:=zeroValue4
 t5:=underlying5
 a5:=isAgg5
 z5:=sizeOf5
 v5:=zeroValue5
 t9:=underlying9
 a9:=isAgg9
 z9:=sizeOf9
 v9:=zeroValue9
 t21:=underlying21
 a21:=isAgg21
 z21:=sizeOf21
 v21:=zeroValue21
 t40:=underlying171
 a40:=isAgg171
 z40:=sizeOf171
 v40:=zeroValue171
 t46:=underlying192
 a46:=isAgg192
 z46:=sizeOf192
 v46:=zeroValue192
 t105:=underlying157
 a105:=isAgg157
 z105:=sizeOf157
 v105:=zeroValue157
 t119:=underlying203
 a119:=isAgg203
 z119:=sizeOf203
 t138:=underlying232
 a138:=isAgg232
 z138:=sizeOf232
 v138:=zeroValue232
 t139:=underlying233
 a139:=isAgg233
 z139:=sizeOf233
 v139:=zeroValue233
 g3:=by kernel_rfl
 g4:=by kernel_rfl}
open Go.RowKit Go.Lib in
theorem Tryz.strings_TrimFunc_runes (g:Nat)(lb:Array Value)(eg: ∀args w,(callFunc g args).run prog w= .ok (.enter g args) w)(p:Nat->Bool)(s:ByteArray)(w:World)(hs:s.size<=9223372036854775807)(hT:Lib.Utf8Tabs 1 2 w)(hp:PredAtRunes prog g lb p w):
 Calls prog 210 #[.string s,.func (.func g) #[] lb] w λ e w'=>e= .returned (.string (Lib.trimF p s))/\Below w.heap.size w w':=Any.strings_TrimFunc_runes Tryz.rX g lb eg p s w hs hT hp
def Tryz.rY:Go.Shelf.Ren:=⟨λ |99=>77|206=>109|n=>n,λ |9=>9|4=>4|3=>3|n=>n,λ |n=>n⟩
theorem Tryz.rZ:Go.Proofs.Lays.n99 prog Tryz.rY:= {
 mixed:=by kernel_rfl
 f99:=func77.trans (congrArg some (by kernel_rfl))
 f206:=func109.trans (congrArg some (by kernel_rfl))
 t3:=underlying3
 a3:=isAgg3
 z3:=sizeOf3
 v3:=zeroValue3
 t4:=underlying4
 a4:=isAgg4
 z4:=sizeOf4
 v4:=zeroValue4
 t9:=underlying9
 a9:=isAgg9
 z9:=sizeOf9
 v9:=zeroValue9}
open Go.RowKit Go.Lib in
theorem Tryz.strings_HasPrefix (s p:ByteArray)(w:World):
 Calls prog 77 #[.string s,.string p] w λ e w'=>e= .returned (.bool (Lib.hasPrefix s.data.toList p.data.toList))/\w'=w:=Any.strings_HasPrefix Tryz.rZ s p w
def Tryz.s0:Go.Shelf.Ren:=⟨λ |157=>115|229=>153|199=>154|261=>203|311=>241|312=>242|n=>n,λ |9=>9|31=>32|3=>3|5=>5|4=>4|119=>203|0=>0|40=>171|152=>243|21=>21|154=>245|51=>93|141=>247|196=>277|193=>274|198=>280|49=>278|194=>275|201=>283|226=>303|46=>192|227=>304|n=>n,λ |0=>0|6=>3|n=>n⟩
theorem Tryz.s5:Go.Proofs.Lays.n157 prog Tryz.s0:= {
 mixed:=by kernel_rfl
 f157:=func115.trans (congrArg some (by kernel_rfl))
 f199:=func154.trans (congrArg some (by kernel_rfl))
 f229:=func153.trans (congrArg some (by kernel_rfl))
 f261:=func203.trans (congrArg some (by kernel_rfl))
 f311:=func241.trans (congrArg some (by kernel_rfl))
 f312:=func242.trans (congrArg some (by kernel_rfl))
 t0:=underlying0
 a0:=isAgg0
 z0:=sizeOf0
 v0:=zeroValue0
 t3:=underlying3
 a3:=isAgg3
 z3:=sizeOf3
 v3:=zeroValue3
 t4:=underlying4
 a4:=isAgg4
 z4:=sizeOf4
 v4:=zeroValue4
 t5:=underlying5
 a5:=isAgg5
 z5:=sizeOf5
 v5:=zeroValue5
 t9:=underlying9
 a9:=isAgg9
 z9:=sizeOf9
 v9:=zeroValue9
 t21:=underlying21
 a21:=isAgg21
 z21:=sizeOf21
 v21:=zeroValue21
 t31:=underlying32
 a31:=isAgg32
 z31:=sizeOf32
 v31:=zeroValue32
 t40:=underlying171
 a40:=isAgg171
 z40:=sizeOf171
 v40:=zeroValue171
 t46:=underlying192
 a46:=isAgg192
 z46:=sizeOf192
 v46:=zeroValue192
 t49:=underlying278
 a49:=isAgg278
 z49:=sizeOf278
 v49:=zeroValue278
 t51:=underlying93
 a51:=isAgg93
 z51:=sizeOf93
 v51:=zeroValue93
 t119:=underlying203
 a119:=isAgg203
 z119:=sizeOf203
 t141:=underlying247
 a141:=isAgg247
 z141:=sizeOf247
 v141:=zeroValue247
 t152:=underlying243
 a152:=isAgg243
 z152:=sizeOf243
 v152:=zeroValue243
 t154:=underlying245
 a154:=isAgg245
 z154:=sizeOf245
 v154:=zeroValue245
 t193:=underlying274
 a193:=isAgg274
 z193:=sizeOf274
 v193:=zeroValue274
 t194:=underlying275
 a194:=isAgg275
 z194:=sizeOf275
 v194:=zeroValue275
 t196:=underlying277
 a196:=isAgg277
 z196:=sizeOf277
 v196:=zeroValue277
 t198:=underlying280
 a198:=isAgg280
 z198:=sizeOf280
 v198:=zeroValue280
 t201:=underlying283
 a201:=isAgg283
 z201:=sizeOf283
 v201:=zeroValue283
 t226:=underlying303
 a226:=isAgg303
 z226:=sizeOf303
 v226:=zeroValue303
 t227:=underlying304
 a227:=isAgg304
 z227:=sizeOf304
 v227:=zeroValue304
 g0:=by kernel_rfl
 g6:=by kernel_rfl}
open Go.RowKit Go.Lib in
theorem Tryz.strings_Fields (s:ByteArray)(w:World)(hs:s.size<4294967281)(hascii: ∀(j:Nat) b,s.data.toList[j]? =some b->b.toNat<128)(htab:Lib.TabIs prog w "strings.asciiSpace" .u8 Lib.asciiSpaceTab):
 Calls prog 115 #[.string s] w λ e w'=>
  e= .returned (.slice (some ⟨w.heap.size,0,none⟩) (Lib.fields s.data.toList).length (Lib.fields s.data.toList).length)/\w'=w.alloc (.cells ((Lib.fields s.data.toList).map λ l=>Value.string ⟨l.toArray⟩).toArray 9):=Any.strings_Fields Tryz.s5 (by kernel_rfl) (by kernel_rfl) s w hs hascii htab
def Tryz.s6:Go.Shelf.Ren:=⟨λ |197=>106|260=>145|n=>n,λ |9=>9|21=>21|3=>3|4=>4|5=>5|105=>157|119=>203|0=>0|46=>192|139=>233|138=>232|n=>n,λ |3=>1|4=>2|n=>n⟩
theorem Tryz.s7:Go.Proofs.Lays.n197 prog Tryz.s6:= {
 mixed:=by kernel_rfl
 f197:=func106.trans (congrArg some (by kernel_rfl))
 f260:=func145.trans (congrArg some (by kernel_rfl))
 t0:=underlying0
 a0:=isAgg0
 z0:=sizeOf0
 v0:=zeroValue0
 t3:=underlying3
 a3:=isAgg3
 z3:=sizeOf3
 v3:=zeroValue3
 t4:=underlying4
 a4:=isAgg4
 z4:=sizeOf4
 v4:=zeroValue4
 t5:=underlying5
 a5:=isAgg5
 z5:=sizeOf5
 v5:=zeroValue5
 t9:=underlying9
 a9:=isAgg9
 z9:=sizeOf9
 v9:=zeroValue9
 t21:=underlying21
 a21:=isAgg21
 z21:=sizeOf21
 v21:=zeroValue21
 t46:=underlying192
 a46:=isAgg192
 z46:=sizeOf192
 v46:=zeroValue192
 t105:=underlying157
 a105:=isAgg157
 z105:=sizeOf157
 v105:=zeroValue157
 t119:=underlying203
 a119:=isAgg203
 z119:=sizeOf203
 t138:=underlying232
 a138:=isAgg232
 z138:=sizeOf232
 v138:=zeroValue232
 t139:=underlying233
 a139:=isAgg233
 z139:=sizeOf233
 v139:=zeroValue233
 g3:=by kernel_rfl
 g4:=by kernel_rfl}
def Tryz.eO:Go.Shelf.Ren:=⟨λ |105=>169|212=>216|99=>77|165=>217|166=>218|170=>219|169=>110|263=>250|264=>251|206=>109|240=>149|241=>252|276=>197|277=>277|n=>n,λ |9=>9|3=>3|4=>4|20=>20|0=>0|46=>192|109=>255|5=>5|72=>163|76=>167|51=>93|146=>288|53=>230|148=>290|70=>161|37=>110|75=>166|127=>196|164=>237|80=>164|n=>n,λ |n=>n⟩
theorem Tryz.YH:Go.Proofs.Lays.n105 prog Tryz.eO:= {
 mixed:=by kernel_rfl
 f99:=func77.trans (congrArg some (by kernel_rfl))
 f105:=func169.trans (congrArg some (by kernel_rfl))
 f165:=func217.trans (congrArg some (by kernel_rfl))
 f166:=func218.trans (congrArg some (by kernel_rfl))
 f169:=func110.trans (congrArg some (by kernel_rfl))
 f170:=func219.trans (congrArg some (by kernel_rfl))
 f206:=func109.trans (congrArg some (by kernel_rfl))
 f212:=func216.trans (congrArg some (by kernel_rfl))
 f240:=func149.trans (congrArg some (by kernel_rfl))
 f241:=func252.trans (congrArg some (by kernel_rfl))
 f263:=func250.trans (congrArg some (by kernel_rfl))
 f264:=func251.trans (congrArg some (by kernel_rfl))
 f276:=func197.trans (congrArg some (by kernel_rfl))
 f277:=func277.trans (congrArg some (by kernel_rfl))
 t0:=underlying0
 a0:=isAgg0
 z0:=sizeOf0
 v0:=zeroValue0
 t3:=underlying3
 a3:=isAgg3
 z3:=sizeOf3
 v3:=zeroValue3
 t4:=underlying4
 a4:=isAgg4
 z4:=sizeOf4
 v4:=zeroValue4
 t5:=underlying5
 a5:=isAgg5
 z5:=sizeOf5
 v5:=zeroValue5
 t9:=underlying9
 a9:=isAgg9
 z9:=sizeOf9
 v9:=zeroValue9
 t20:=underlying20
 a20:=isAgg20
 z20:=sizeOf20
 v20:=zeroValue20
 t37:=underlying110
 a37:=isAgg110
 z37:=sizeOf110
 v37:=zeroValue110
 t46:=underlying192
 a46:=isAgg192
 z46:=sizeOf192
 v46:=zeroValue192
 t51:=underlying93
 a51:=isAgg93
 z51:=sizeOf93
 v51:=zeroValue93
 t53:=underlying230
 a53:=isAgg230
 z53:=sizeOf230
 v53:=zeroValue230
 t70:=underlying161
 a70:=isAgg161
 z70:=sizeOf161
 v70:=zeroValue161
 t72:=underlying163
 a72:=isAgg163
 z72:=sizeOf163
 v72:=zeroValue163
 t75:=underlying166
 a75:=isAgg166
 z75:=sizeOf166
 v75:=zeroValue166
 t76:=underlying167
 a76:=isAgg167
 z76:=sizeOf167
 v76:=zeroValue167
 t109:=underlying255
 a109:=isAgg255
 z109:=sizeOf255
 v109:=zeroValue255
 t127:=underlying196
 a127:=isAgg196
 z127:=sizeOf196
 v127:=zeroValue196
 t146:=underlying288
 a146:=isAgg288
 z146:=sizeOf288
 v146:=zeroValue288
 t148:=underlying290
 a148:=isAgg290
 z148:=sizeOf290
 v148:=zeroValue290
 t164:=underlying237
 a164:=isAgg237
 z164:=sizeOf237
 v164:=zeroValue237}
theorem Tryz.s8:Builder.Extra prog Tryz.eO:= {
 sizeBuilder:=by kernel_rfl
 liesBuilder:=by kernel_rfl
 t5:=underlying5
 a5:=isAgg5
 z5:=sizeOf5
 v5:=zeroValue5
 infoByte:=by kernel_rfl
 cellsByte:=by kernel_rfl
 sizeByte:=by kernel_rfl
 neB5:=by decide}
open Go.RowKit Go.Lib in
theorem Tryz.strings_Repeat_main (s:ByteArray)(c:Nat)(w:World)(hc2:2<=c)(hc:c<=9223372036854775807)(hlen:s.size*c<=140737488355328)(h0:0<s.size):
 Calls prog 169 #[.string s,.int .i64 c] w λ e w'=>e= .returned (.string ⟨(Lib.repeatL s.data.toList c).toArray⟩)/\Below w.heap.size w w':=Any.strings_Repeat_main Tryz.YH Tryz.s8 s c w hc2 hc hlen h0
open Go.RowKit Go.Lib in
theorem Tryz.strings_Repeat_zero (s:ByteArray)(w:World):
 Calls prog 169 #[.string s,.int .i64 0] w λ e w'=>e= .returned (.string ⟨#[]⟩)/\w'=w:=Any.strings_Repeat_zero Tryz.YH s w
open Go.RowKit Go.Lib in
theorem Tryz.strings_Repeat_one (s:ByteArray)(w:World):
 Calls prog 169 #[.string s,.int .i64 1] w λ e w'=>e= .returned (.string s)/\w'=w:=Any.strings_Repeat_one Tryz.YH s w
def Tryz.eP:Go.Shelf.Ren:=⟨λ |260=>145|n=>n,λ |9=>9|21=>21|3=>3|4=>4|5=>5|119=>203|0=>0|46=>192|139=>233|138=>232|n=>n,λ |3=>1|4=>2|n=>n⟩
theorem Tryz.s9:Go.Proofs.Lays.n260 prog Tryz.eP:= {
 mixed:=by kernel_rfl
 f260:=func145.trans (congrArg some (by kernel_rfl))
 t0:=underlying0
 a0:=isAgg0
 z0:=sizeOf0
 v0:=zeroValue0
 t3:=underlying3
 a3:=isAgg3
 z3:=sizeOf3
 v3:=zeroValue3
 t4:=underlying4
 a4:=isAgg4
 z4:=sizeOf4
 v4:=zeroValue4
 t5:=underlying5
 a5:=isAgg5
 z5:=sizeOf5
 v5:=zeroValue5
 t9:=underlying9
 a9:=isAgg9
 z9:=sizeOf9
 v9:=zeroValue9
 t21:=underlying21
 a21:=isAgg21
 z21:=sizeOf21
 v21:=zeroValue21
 t46:=underlying192
 a46:=isAgg192
 z46:=sizeOf192
 v46:=zeroValue192
 t119:=underlying203
 a119:=isAgg203
 z119:=sizeOf203
 t138:=underlying232
 a138:=isAgg232
 z138:=sizeOf232
 v138:=zeroValue232
 t139:=underlying233
 a139:=isAgg233
 z139:=sizeOf233
 v139:=zeroValue233
 g3:=by kernel_rfl
 g4:=by kernel_rfl}
open Go.RowKit Go.Lib in
theorem Tryz.utf8_DecodeRuneInString (s:ByteArray)(w:World)(hT:Lib.Utf8Tabs 1 2 w):
 Calls prog 106 #[.string s] w λ e w'=>e= .returned (.tuple #[.int .i32 (Lib.decodeGo s).1,.int .i64 (Lib.decodeGo s).2])/\Below w.heap.size w w':=Any.utf8_DecodeRuneInString Tryz.s7 s w hT
end Go.Proofs
namespace Go.Eng
abbrev A1:=List UInt8
abbrev str(l:A1):Value:=.string ⟨⟨l⟩⟩
abbrev i64(n:Int):Value:=.int .i64 n
def len{α:Type}(l:List α):Int:=l.length
theorem G0{α:Type}{l:List α}(h: ¬l=[]):0<len l:=by
 cases l with
 |nil=>exact absurd U h
 |cons x l=>unfold len;simp only[List.length_cons];omega
theorem A4{α:Type}(l:List α):0<=len l:=Int.natCast_nonneg _
def A2(l:A1)(i:Int):Int:=((l.getD i.toNat 0).toNat:Int)
theorem LQ(l:A1)(i:Int):0<=A2 l i/\A2 l i<=255:=by
 unfold A2;have:=(l.getD i.toNat 0).toNat_lt;omega
def sub{α:Type}(l:List α)(a b:Int):List α:=(l.drop a.toNat).take (b.toNat-a.toNat)
def A3{α:Type}(l:List α)(a:Int):List α:=l.drop a.toNat
abbrev Env:=List (Nat×Bool×Value)
def look:Env->Nat->Option (Bool×Value)
 |[],_=>none
 |(t,g,v)::L,k=>match Nat.beq t k with
  |true=>some (g,v)
  |false=>look L k
theorem KL(t:Nat)(g:Bool)(v:Value)(L:Env):look ((t,g,v)::L) t=some (g,v):=by
 simp[look]
theorem HP{t k:Nat}(h:t≠k)(g:Bool)(v:Value)(L:Env):look ((t,g,v)::L) k=look L k:=by
 have:Nat.beq t k=false:=by cases hb:Nat.beq t k<;>simp_all [Nat.beq_eq]
 simp[look,this]
def BC:List Nat->Env->Env
 |[],_=>[]
 |k::ks,L=>match look L k with
  |some x=>(k,x)::BC ks L
  |none=>BC ks L
theorem YI: ∀(ks:List Nat) (L:Env) (t:Nat) (g:Bool) (v:Value),look (BC ks L) t=some (g,v)->look L t=some (g,v)
 |[],_,_,_,_,h=>by simp[BC,look]at h
 |k::ks,L,t,g,v,h=>by
  unfold BC at h
  split at h
  ·rename_i x hx
   obtain⟨g',v'⟩:=x
   by_cases hk:k=t
   ·subst hk;rw[KL]at h;rw[hx,h]
   ·rw[HP hk]at h;exact YI ks L t g v h
  ·exact YI ks L t g v h
def sv(g:Bool)(v:Value):Value:=if g=true then v else undef
structure AJ (a:Act) (N:Nat) (L:Env):Prop where
 size:a.tmps.size=N
 DE:a.defers=[]
 val: ∀t g v,look L t=some (g,v)->a.tmps[t]? =some (sv g v)
theorem AJ.put {a:Act}{N:Nat}{L:Env}(h:AJ a N L){d:Nat}(hd:Nat.blt d N=true)(g:Bool)(v:Value):
  AJ (a.put (some d) (sv g v)) N ((d,g,v)::L):=by
 have hd':d<N:=by simpa[Nat.blt_eq]using hd
 refine⟨by simp[Act.put,h.size],by simp[Act.put,h.DE],λ t g' v' ht=>?_⟩
 by_cases e:d=t
 ·subst e;rw[KL]at ht;simp at ht;obtain⟨rfl,rfl⟩:=ht
  simp[Act.put,h.size,hd']
 ·rw[HP e]at ht
  have:=h.val t g' v' ht
  simp[Act.put,Array.getElem?_setIfInBounds_ne e,this]
theorem AJ.BC {a:Act}{N:Nat}{L:Env}(h:AJ a N L)(ks:List Nat):AJ a N (BC ks L):=
 ⟨h.size,h.DE,λ t g v ht=>h.val t g v (YI ks L t g v ht)⟩
theorem AJ.get {a:Act}{N:Nat}{L:Env}(h:AJ a N L){t:Nat}{v:Value}(hl:look L t=some (true,v)):a.tmps.getD t undef=v:=by
 have:=h.val t true v hl
 simp[sv]at this
 simp[Array.getD_eq_getD_getElem?,this]
def MZ:Nat->List Value->Env
 |_,[]=>[]
 |k,v::vs=>(k,true,v)::MZ (k+1) vs
theorem eQ: ∀(vs:List Value) (k t:Nat) (g:Bool) (v:Value),look (MZ k vs) t=some (g,v)->g=true/\k<=t/\vs[t-k]? =some v
 |[],_,_,_,_,h=>by simp[MZ,look]at h
 |x::vs,k,t,g,v,h=>by
  unfold MZ at h
  by_cases e:k=t
  ·subst e;rw[KL]at h;simp at h;obtain⟨rfl,rfl⟩:=h;simp
  ·rw[HP e]at h
   obtain⟨h1,h2,h3⟩:=eQ vs (k+1) t g v h
   refine⟨h1,by omega,?_⟩
   rw[show t-k=(t-(k+1))+1 from by omega,List.getElem?_cons_succ,h3]
theorem AJ.enter (vs:List Value)(N:Nat)(h:vs.length<=N):
  AJ { tmps:=vs.toArray++Array.replicate (N-vs.toArray.size) undef,defers:=[]} N (MZ 0 vs):=by
 refine⟨by simp;omega,rfl,λ t g v ht=>?_⟩
 obtain⟨rfl,_,h3⟩:=eQ vs 0 t g v ht
 have hlt:t<vs.length:=by
  rcases Nat.lt_or_ge t vs.length with h|h
  ·exact h
  ·simp[h]at h3
 have h3':vs[t]? =some v:=by simpa using h3
 rw[List.getElem?_eq_getElem hlt]at h3'
 simp[sv,hlt,Array.getElem?_append_left]
 exact Option.some.inj h3'
def A8(L:Env)(W:Bool)(x:Operand)(v:Value):Prop:= ∀a N,AJ a N L->W=true->a.eval x=v
theorem A8.t {L:Env}{W:Bool}{k:Nat}{v:Value}(h:look L k=some (true,v)):A8 L W (.tmp k) v:=
 λ _ _ hs _=>hs.get h
theorem A8.g {L:Env}{W g:Bool}{k:Nat}{v:Value}(h:look L k=some (g,v))(hg:W=true->g=true):A8 L W (.tmp k) v:=
 λ _ _ hs hW=>hs.get (by rw[h,hg hW])
theorem A8.c {L:Env}{W:Bool}{v:Value}:A8 L W (.const v) v:=λ _ _ _ _=>rfl
theorem A8.f {L:Env}{W:Bool}{k:FuncId}:A8 L W (.func k) (.func (.func k) #[] #[]):=λ _ _ _ _=>rfl
theorem A8.gl {L:Env}{W:Bool}{k:Nat}:A8 L W (.global k) (.pointer (some ⟨k,0,none⟩)):=λ _ _ _ _=>rfl
def DB(ops:Array Oper)(L:Env)(gd:Option (Nat×Bool))(W:Bool):Prop:=
 ∀a N,AJ a N L->(match gd with|none=>true|some (j,want)=>yielded ops a.tmps j==some want)=W
theorem DB.none {ops:Array Oper}{L:Env}:DB ops L none true:=λ _ _ _=>rfl
theorem UK{ops:Array Oper}{L:Env}{a:Act}{N j s:Nat}{g b:Bool}(hj:(ops[j]?).bind (·.dst)=some s)(hl:look L s=some (g,.bool b))(hs:AJ a N L):
  yielded ops a.tmps j=if g=true then some b else none:=by
 have:=hs.val s g _ hl
 unfold yielded
 rw[hj]
 simp only[Option.bind_some,this]
 cases g<;>simp[sv,undef]
theorem DB.pos {ops:Array Oper}{L:Env}{j s:Nat}{b:Bool}(hj:(ops[j]?).bind (·.dst)=some s)(hl:look L s=some (true,.bool b)):DB ops L (some (j,true)) b:=by
 intro a N hs
 simp only[UK hj hl hs]
 cases b<;>rfl
theorem DB.neg {ops:Array Oper}{L:Env}{j s:Nat}{b:Bool}(hj:(ops[j]?).bind (·.dst)=some s)(hl:look L s=some (true,.bool b)):DB ops L (some (j,false)) (!b):=by
 intro a N hs
 simp only[UK hj hl hs]
 cases b<;>rfl
theorem DB.DY {ops:Array Oper}{L:Env}{j s:Nat}{g b:Bool}(hj:(ops[j]?).bind (·.dst)=some s)(hl:look L s=some (g,.bool b)):DB ops L (some (j,true)) (g&&b):=by
 intro a N hs
 simp only[UK hj hl hs]
 cases g<;>cases b<;>rfl
theorem DB.QH {ops:Array Oper}{L:Env}{j s:Nat}{g b:Bool}(hj:(ops[j]?).bind (·.dst)=some s)(hl:look L s=some (g,.bool b)):DB ops L (some (j,false)) (g&& !b):=by
 intro a N hs
 simp only[UK hj hl hs]
 cases g<;>cases b<;>rfl
theorem DB.wanted {ops:Array Oper}{L:Env}{o:Oper}{W:Bool}(h:DB ops L o.guard W){a:Act}{N:Nat}(hs:AJ a N L):Region.wanted o (yielded ops a.tmps)=W:=by
 have:=h a N hs
 unfold Region.wanted
 split at this<;>rename_i he<;>simp only[he]<;>exact this
def PV(P:Program)(C:World->Prop)(L:Env)(W:Bool)(o:Oper)(v:Value):Prop:=
 ∀a N,AJ a N L->W=true-> ∀w,C w->(execOp a.eval o).run P w= .ok (.value v) w
section pv
variable {P:Program} {C:World->Prop} {L:Env} {W:Bool} {d:Option Tmp} {ty:TypeId} {ps:String} {af:Array Edge} {gd:Option (Nat×Bool)}
theorem PV.move {x:Operand}{v:Value}(hx:A8 L W x v):PV P C L W ⟨d,.move x,ty,ps,af,gd⟩ v:=by
 intro a N hs hW w _
 simp[execOp,hx a N hs hW,Sem.run,pure]
theorem PV.assign {x:Operand}{v:Value}(hx:A8 L W x v):PV P C L W ⟨d,.assign x,ty,ps,af,gd⟩ v:=by
 intro a N hs hW w _
 simp[execOp,hx a N hs hW,Sem.run,pure]
theorem PV.and {c x:Operand}{p q:Bool}(hc:A8 L W c (.bool p))(hx:A8 L (W&&p) x (.bool q)):PV P C L W ⟨d,.pick c x (.const (.bool false)),ty,ps,af,gd⟩ (.bool (p&&q)):=by
 intro a N hs hW w _
 simp only[execOp,hc a N hs hW]
 cases p
 ·simp[asBool,Act.eval,Sem.run,pure,bind,Sem.bind]
 ·simp[asBool,hx a N hs (by simp[hW]),Sem.run,pure,bind,Sem.bind]
theorem PV.or {c x:Operand}{p q:Bool}(hc:A8 L W c (.bool p))(hx:A8 L (W&& !p) x (.bool q)):PV P C L W ⟨d,.pick c (.const (.bool true)) x,ty,ps,af,gd⟩ (.bool (p||q)):=by
 intro a N hs hW w _
 simp only[execOp,hc a N hs hW]
 cases p
 ·simp[asBool,hx a N hs (by simp[hW]),Sem.run,pure,bind,Sem.bind]
 ·simp[asBool,Act.eval,Sem.run,pure,bind,Sem.bind]
theorem PV.un {f:Value->Sem Value}{o:Oper}{x:Operand}{vx v:Value}(ho: ∀ρ:Operand->Value,execOp ρ o=(do pure (.value (<-f (ρ x))):Sem Next))(hx:A8 L W x vx)
  (hr:W=true-> ∀w,C w->(f vx).run P w= .ok v w):PV P C L W o v:=by
 intro a N hs hW w hw
 rw[ho,hx a N hs hW]
 simp only[Sem.run_bind,hr hW w hw,Result.andThen_ok,Sem.run_pure]
theorem PV.bin {op:BinOp}{t t':TypeId}{x y:Operand}{vx vy v:Value}(hx:A8 L W x vx)(hy:A8 L W y vy)
  (hr:W=true-> ∀w,C w->(do eqGuard op t x y vx vy;binOp op t vx vy:Sem Value).run P w= .ok v w):PV P C L W ⟨d,.binOp op t x y t',ty,ps,af,gd⟩ v:=by
 intro a N hs hW w hw
 have:=hr hW w hw
 simp only[execOp,hx a N hs hW,hy a N hs hW]
 rw[Sem.run_bind,this]
 rfl
theorem PV.lss {t t':TypeId}{x y:Operand}{k:IntKind}{a b:Int}(hx:A8 L W x (.int k a))(hy:A8 L W y (.int k b)):PV P C L W ⟨d,.binOp .lss t x y t',ty,ps,af,gd⟩ (.bool (decide (a<b))):=
 .bin hx hy λ _ w _=>by simp[go_sem,binOp,Op.intCmp,Sem.run,pure,bind,Sem.bind]
theorem PV.leq {t t':TypeId}{x y:Operand}{k:IntKind}{a b:Int}(hx:A8 L W x (.int k a))(hy:A8 L W y (.int k b)):PV P C L W ⟨d,.binOp .leq t x y t',ty,ps,af,gd⟩ (.bool (decide (a<=b))):=
 .bin hx hy λ _ w _=>by simp[go_sem,binOp,Op.intCmp,Sem.run,pure,bind,Sem.bind]
theorem PV.gtr {t t':TypeId}{x y:Operand}{k:IntKind}{a b:Int}(hx:A8 L W x (.int k a))(hy:A8 L W y (.int k b)):PV P C L W ⟨d,.binOp .gtr t x y t',ty,ps,af,gd⟩ (.bool (decide (b<a))):=
 .bin hx hy λ _ w _=>by simp[go_sem,binOp,Op.intCmp,Sem.run,pure,bind,Sem.bind]
theorem PV.geq {t t':TypeId}{x y:Operand}{k:IntKind}{a b:Int}(hx:A8 L W x (.int k a))(hy:A8 L W y (.int k b)):PV P C L W ⟨d,.binOp .geq t x y t',ty,ps,af,gd⟩ (.bool (decide (b<=a))):=
 .bin hx hy λ _ w _=>by simp[go_sem,binOp,Op.intCmp,Sem.run,pure,bind,Sem.bind]
theorem PV.eql {t t':TypeId}{x y:Operand}{k:IntKind}{a b:Int}(hx:A8 L W x (.int k a))(hy:A8 L W y (.int k b)):PV P C L W ⟨d,.binOp .eql t x y t',ty,ps,af,gd⟩ (.bool (a==b)):=
 .bin hx hy λ _ w _=>by simp[go_sem,eqGuard,binOp,Op.intCmp,Sem.run,pure,bind,Sem.bind]
theorem PV.neq {t t':TypeId}{x y:Operand}{k:IntKind}{a b:Int}(hx:A8 L W x (.int k a))(hy:A8 L W y (.int k b)):PV P C L W ⟨d,.binOp .neq t x y t',ty,ps,af,gd⟩ (.bool (a != b)):=
 .bin hx hy λ _ w _=>by simp[go_sem,eqGuard,binOp,Op.intCmp,Sem.run,pure,bind,Sem.bind]
theorem PV.SE {t t':TypeId}{x y:Operand}{k:IntKind}{a b r:Int}(hx:A8 L W x (.int k a))(hy:A8 L W y (.int k b))(hr:W=true->k.wrap (a+b)=r):PV P C L W ⟨d,.binOp .add t x y t',ty,ps,af,gd⟩ (.int k r):=
 .bin hx hy λ hW w _=>by simp[go_sem,binOp,Op.intArith,Sem.run,pure,bind,Sem.bind,hr hW]
theorem PV.UL {t t':TypeId}{x y:Operand}{k:IntKind}{a b r:Int}(hx:A8 L W x (.int k a))(hy:A8 L W y (.int k b))(hr:W=true->k.wrap (a-b)=r):PV P C L W ⟨d,.binOp .sub t x y t',ty,ps,af,gd⟩ (.int k r):=
 .bin hx hy λ hW w _=>by simp[go_sem,binOp,Op.intArith,Sem.run,pure,bind,Sem.bind,hr hW]
theorem PV.UM {t t':TypeId}{x y:Operand}{k:IntKind}{a b r:Int}(hx:A8 L W x (.int k a))(hy:A8 L W y (.int k b))(hr:W=true->k.wrap (a*b)=r):PV P C L W ⟨d,.binOp .mul t x y t',ty,ps,af,gd⟩ (.int k r):=
 .bin hx hy λ hW w _=>by simp[go_sem,binOp,Op.intArith,Sem.run,pure,bind,Sem.bind,hr hW]
theorem wrap_i64{x:Int}(h: -9223372036854775808<=x/\x<=9223372036854775807):IntKind.i64.wrap x=x:=by
 simp[IntKind.wrap,IntKind.signed,IntKind.bits];omega
theorem PV.add {t t':TypeId}{x y:Operand}{a b:Int}(hx:A8 L W x (i64 a))(hy:A8 L W y (i64 b))(hr:W=true-> -9223372036854775808<=a+b/\a+b<=9223372036854775807):PV P C L W ⟨d,.binOp .add t x y t',ty,ps,af,gd⟩ (i64 (a+b)):=
 .SE hx hy λ hW=>wrap_i64 (hr hW)
theorem PV.sub {t t':TypeId}{x y:Operand}{a b:Int}(hx:A8 L W x (i64 a))(hy:A8 L W y (i64 b))(hr:W=true-> -9223372036854775808<=a-b/\a-b<=9223372036854775807):PV P C L W ⟨d,.binOp .sub t x y t',ty,ps,af,gd⟩ (i64 (a-b)):=
 .UL hx hy λ hW=>wrap_i64 (hr hW)
theorem PV.mul {t t':TypeId}{x y:Operand}{a b:Int}(hx:A8 L W x (i64 a))(hy:A8 L W y (i64 b))(hr:W=true-> -9223372036854775808<=a*b/\a*b<=9223372036854775807):PV P C L W ⟨d,.binOp .mul t x y t',ty,ps,af,gd⟩ (i64 (a*b)):=
 .UM hx hy λ hW=>wrap_i64 (hr hW)
theorem PV.eR {t t':TypeId}{x y:Operand}{k:IntKind}{a b r:Int}(hx:A8 L W x (.int k a))(hy:A8 L W y (.int k b))(hb:W=true->b≠0)(hr:W=true->k.wrap (a.tdiv b)=r):PV P C L W ⟨d,.binOp .quo t x y t',ty,ps,af,gd⟩ (.int k r):=
 .bin hx hy λ hW w _=>by simp[go_sem,binOp,Op.intDiv,Sem.run,pure,bind,Sem.bind,hr hW,hb hW]
theorem PV.eS {t t':TypeId}{x y:Operand}{k:IntKind}{a b r:Int}(hx:A8 L W x (.int k a))(hy:A8 L W y (.int k b))(hb:W=true->b≠0)(hr:W=true->a.tmod b=r):PV P C L W ⟨d,.binOp .rem t x y t',ty,ps,af,gd⟩ (.int k r):=
 .bin hx hy λ hW w _=>by simp[go_sem,binOp,Op.intDiv,Sem.run,pure,bind,Sem.bind,hr hW,hb hW]
theorem PV.quo {t t':TypeId}{x y:Operand}{a b:Int}(hx:A8 L W x (i64 a))(hy:A8 L W y (i64 b))(hb:W=true->0<=a/\a<=9223372036854775807/\0<b):PV P C L W ⟨d,.binOp .quo t x y t',ty,ps,af,gd⟩ (i64 (a/b)):=
 .eR hx hy (λ hW=>by have:=hb hW;omega) λ hW=>by
  obtain⟨h0,h1,h2⟩:=hb hW
  rw[Int.tdiv_eq_ediv_of_nonneg h0]
  exact wrap_i64 ⟨by have:=Int.ediv_nonneg h0 (Int.le_of_lt h2);omega,by have:=Int.ediv_le_self b h0;omega⟩
theorem PV.rem {t t':TypeId}{x y:Operand}{a b:Int}(hx:A8 L W x (i64 a))(hy:A8 L W y (i64 b))(hb:W=true->0<=a/\0<b):PV P C L W ⟨d,.binOp .rem t x y t',ty,ps,af,gd⟩ (i64 (a%b)):=
 .eS hx hy (λ hW=>by have:=hb hW;omega) λ hW=>Int.tmod_eq_emod_of_nonneg (hb hW).1
theorem PV.not {t:TypeId}{x:Operand}{b:Bool}(hx:A8 L W x (.bool b)):PV P C L W ⟨d,.unOp .not t x,ty,ps,af,gd⟩ (.bool (!b)):=
 .un (f:=Op.unary .not) (λ _=>rfl) hx λ _ w _=>by simp[Op.unary,Sem.run,pure]
theorem PV.eT {t:TypeId}{x:Operand}{k:IntKind}{a r:Int}(hx:A8 L W x (.int k a))(hr:W=true->k.wrap (-a)=r):PV P C L W ⟨d,.unOp .neg t x,ty,ps,af,gd⟩ (.int k r):=
 .un (f:=Op.unary .neg) (λ _=>rfl) hx λ hW w _=>by simp[Op.unary,Op.intArith,Sem.run,pure,hr hW]
theorem PV.BD {s t:TypeId}{x:Operand}{k k':IntKind}{a r:Int}(hx:A8 L W x (.int k a))(hs:P.underlying s=some (.int k))(ht:P.underlying t=some (.int k'))(hr:W=true->k'.wrap a=r):PV P C L W ⟨d,.convert s t x,ty,ps,af,gd⟩ (.int k' r):=
 .un (f:=convert s t) (λ _=>rfl) hx λ hW w _=>by simp[convert,run_underlying hs,run_underlying ht,Conv.intToInt,go_sem,hr hW]
theorem O0(l:A1):(ByteArray.mk ⟨l⟩).toList=l:=by rw[ByteArray.toList_eq]
theorem PV.O1 {t t':TypeId}{x y:Operand}{a b:A1}(hx:A8 L W x (str a))(hy:A8 L W y (str b)):PV P C L W ⟨d,.binOp .eql t x y t',ty,ps,af,gd⟩ (.bool (a==b)):=
 .bin hx hy λ _ w _=>by simp[go_sem,eqGuard,binOp_string_eql,O0,Sem.run,pure,bind,Sem.bind]
theorem PV.N1 {t t':TypeId}{x y:Operand}{a b:A1}(hx:A8 L W x (str a))(hy:A8 L W y (str b)):PV P C L W ⟨d,.binOp .neq t x y t',ty,ps,af,gd⟩ (.bool (!(a==b))):=
 .bin hx hy λ _ w _=>by simp[go_sem,eqGuard,binOp_string_neq,O0,Sem.run,pure,bind,Sem.bind]
theorem PV.sA {t t':TypeId}{x y:Operand}{a b:A1}(hx:A8 L W x (str a))(hy:A8 L W y (str b)):PV P C L W ⟨d,.binOp .lss t x y t',ty,ps,af,gd⟩ (.bool (Op.bytesLess a b)):=
 .bin hx hy λ _ w _=>by simp[go_sem,binOp_string_lss,O0,Sem.run,pure,bind,Sem.bind]
theorem PV.sB {t t':TypeId}{x y:Operand}{a b:A1}(hx:A8 L W x (str a))(hy:A8 L W y (str b)):PV P C L W ⟨d,.binOp .leq t x y t',ty,ps,af,gd⟩ (.bool (Op.bytesLess a b||a==b)):=
 .bin hx hy λ _ w _=>by simp[go_sem,binOp,Op.stringOp,O0,Sem.run,pure,bind,Sem.bind]
theorem PV.sC {t t':TypeId}{x y:Operand}{a b:A1}(hx:A8 L W x (str a))(hy:A8 L W y (str b)):PV P C L W ⟨d,.binOp .gtr t x y t',ty,ps,af,gd⟩ (.bool (!(Op.bytesLess a b||a==b))):=
 .bin hx hy λ _ w _=>by simp[go_sem,binOp,Op.stringOp,O0,Sem.run,pure,bind,Sem.bind]
theorem PV.sD {t t':TypeId}{x y:Operand}{a b:A1}(hx:A8 L W x (str a))(hy:A8 L W y (str b)):PV P C L W ⟨d,.binOp .geq t x y t',ty,ps,af,gd⟩ (.bool (!Op.bytesLess a b)):=
 .bin hx hy λ _ w _=>by simp[go_sem,binOp,Op.stringOp,O0,Sem.run,pure,bind,Sem.bind]
theorem sE(x y:A1):(ByteArray.mk ⟨x⟩++ByteArray.mk ⟨y⟩)=ByteArray.mk ⟨x++y⟩:=ByteArray.mk_append_mk x y
theorem PV.E8 {t t':TypeId}{x y:Operand}{a b:A1}(hx:A8 L W x (str a))(hy:A8 L W y (str b))(hr:W=true->len a+len b<=9223372036854775807):PV P C L W ⟨d,.binOp .add t x y t',ty,ps,af,gd⟩ (str (a++b)):=
 .bin hx hy λ hW w _=>by
  have h:=hr hW
  simp only[len]at h
  simp only[eqGuard_add,binOp_string_add,Sem.run_bind,Sem.run_pure,Result.andThen_ok]
  rw[run_string_add_sum _ _ _ (by show a.length+b.length<=_;omega),sE]
theorem PV.BR {t:TypeId}{x:Operand}{a:A1}(hx:A8 L W x (str a))(ht:P.underlying t=some .string):PV P C L W ⟨d,.call ⟨.builtin .len,#[x],#[t]⟩,ty,ps,af,gd⟩ (i64 (len a)):=by
 intro ac N hs hW w _
 have:=run_len_string w t ty ⟨⟨a⟩⟩ ht
 simp only[execOp,resolve,invoke,builtin,List.map_toArray,List.map_cons,List.map_nil,hx ac N hs hW,Sem.run_bind,Sem.run_pure,Result.andThen_ok,this]
 rfl
theorem PV.C2 {t:TypeId}{x y:Operand}{a:A1}{i:Int}{k:IntKind}(hx:A8 L W x (str a))(hy:A8 L W y (.int k i))(ht:P.underlying t=some .string)(hr:W=true->0<=i/\i<len a):PV P C L W ⟨d,.index t x y,ty,ps,af,gd⟩ (.int .u8 (A2 a i)):=by
 intro ac N hs hW w _
 obtain⟨h0,h1⟩:=hr hW
 have hlt:i.toNat<a.length:=by unfold len at h1;omega
 have hsz:i.toNat<(ByteArray.mk ⟨a⟩).size:=hlt
 have hg:(ByteArray.mk ⟨a⟩)[i.toNat]? =some a[i.toNat]:=by
  rw[ByteArray.getElem?_lt' _ _ hsz];rfl
 have key:(Instr.index t (str a) (.int k i)).run P w= .ok (.int .u8 (A2 a i)) w:=by
  simp[Instr.index,asIntOf,run_underlying ht,Sem.run_bind,h0,hg,go_sem,A2,hlt]
  rfl
 simp only[execOp,hx ac N hs hW,hy ac N hs hW]
 rw[Sem.run_bind,key]
 rfl
theorem PV.KM {t:TypeId}{x y z:Operand}{a:A1}{i j:Int}{k k':IntKind}(hx:A8 L W x (str a))(hy:A8 L W y (.int k i))(hz:A8 L W z (.int k' j))(ht:P.underlying t=some .string)(hr:W=true->0<=i/\i<=j/\j<=len a):PV P C L W ⟨d,.slice t x (some y) (some z) none,ty,ps,af,gd⟩ (str (Eng.sub a i j)):=by
 intro ac N hs hW w _
 obtain⟨h0,h1,h2⟩:=hr hW
 have e:(ByteArray.mk ⟨a⟩).extract i.toNat j.toNat=ByteArray.mk ⟨Eng.sub a i j⟩:=ByteArray.extract_mk a i.toNat j.toNat
 simp only[execOp,hx ac N hs hW,Option.map_some,Option.map_none,hy ac N hs hW,hz ac N hs hW]
 rw[Sem.run_bind,run_sliceAt_string _ _ _ _ _ _ ht,run_slice_string _ _ _ _ _ _ _ ht h0 h1 (by show j<=(a.length:Int);exact h2),e]
 rfl
theorem PV.JS {t:TypeId}{x y:Operand}{a:A1}{i:Int}{k:IntKind}(hx:A8 L W x (str a))(hy:A8 L W y (.int k i))(ht:P.underlying t=some .string)(hr:W=true->0<=i/\i<=len a):PV P C L W ⟨d,.slice t x (some y) none none,ty,ps,af,gd⟩ (str (A3 a i)):=by
 intro ac N hs hW w _
 obtain⟨h0,h1⟩:=hr hW
 have e:(ByteArray.mk ⟨a⟩).extract i.toNat (ByteArray.mk ⟨a⟩).size=ByteArray.mk ⟨A3 a i⟩:=by
  refine(ByteArray.extract_mk a i.toNat a.length).trans ?_
  unfold A3
  rw[List.take_of_length_le (by simp)]
 simp only[execOp,hx ac N hs hW,Option.map_some,Option.map_none,hy ac N hs hW]
 rw[Sem.run_bind,run_sliceAt_string _ _ _ _ _ _ ht,run_slice_string_l _ _ _ ht _ _ h0 (by show i<=(a.length:Int);exact h1),e]
 rfl
theorem PV.QI {t:TypeId}{x z:Operand}{a:A1}{j:Int}{k':IntKind}(hx:A8 L W x (str a))(hz:A8 L W z (.int k' j))(ht:P.underlying t=some .string)(hr:W=true->0<=j/\j<=len a):PV P C L W ⟨d,.slice t x none (some z) none,ty,ps,af,gd⟩ (str (Eng.sub a 0 j)):=by
 intro ac N hs hW w _
 obtain⟨h0,h1⟩:=hr hW
 have e:(ByteArray.mk ⟨a⟩).extract 0 j.toNat=ByteArray.mk ⟨Eng.sub a 0 j⟩:=ByteArray.extract_mk a 0 j.toNat
 simp only[execOp,hx ac N hs hW,Option.map_some,Option.map_none,hz ac N hs hW]
 rw[Sem.run_bind,run_sliceAt_string _ _ _ _ _ _ ht,run_slice_string_h _ _ _ ht _ _ h0 (by show j<=(a.length:Int);exact h1),e]
 rfl
theorem PV.ex {tp:TypeId}{x:Operand}{vs:Array Value}{i:Nat}{v:Value}(hx:A8 L W x (.tuple vs))(hi:vs[i]? =some v):PV P C L W ⟨d,.extract x i,tp,ps,af,gd⟩ v:=
 .un (f:=λ x=>Instr.extract x i) (λ _=>rfl) hx λ _ w _=>by simp[Instr.extract,hi,Sem.run,pure]
end pv
def RL(P:Program)(ops:Array Oper)(Q:Exit->Act->World->Prop)(N:Nat)(l:List Oper)(L:Env)(w:World):Prop:=
 ∀a,AJ a N L->wpList P ops Q l a w
section rl
variable {P:Program} {ops:Array Oper} {Q:Exit->Act->World->Prop} {N:Nat} {rest:List Oper} {L:Env} {w:World}
theorem RL.v {d:Nat}{op:Op}{ty:TypeId}{ps:String}{af:Array Edge}{gd:Option (Nat×Bool)}{W:Bool}{v:Value}(hw:DB ops L gd W)(hp:PV P (· =w) L W ⟨some d,op,ty,ps,af,gd⟩ v)(hd:Nat.blt d N=true)
  (h:RL P ops Q N rest ((d,W,v)::L) w):RL P ops Q N (⟨some d,op,ty,ps,af,gd⟩::rest) L w:=by
 intro a hs
 refine wpList_step λ K hK=>?_
 rw[DB.wanted (o:=⟨some d,op,ty,ps,af,gd⟩) hw hs]
 have hput:=hs.put hd W v
 cases W
 ·exact hK _ _ (h _ hput)
 ·simp only[if_true,Oper.wp,hp a N hs U w U,Oper.upon_value]
  exact hK _ _ (h _ hput)
def EE(L:Env)(W:Bool):List Operand->List Value->Prop
 |[],[]=>True
 |x::xs,v::vs=>A8 L W x v/\EE L W xs vs
 |_,_=>False
theorem EE.nil {L:Env}{W:Bool}:EE L W [] []:=trivial
theorem EE.cons {L:Env}{W:Bool}{x:Operand}{v:Value}{xs:List Operand}{vs:List Value}(h:A8 L W x v)(k:EE L W xs vs):EE L W (x::xs) (v::vs):=⟨h,k⟩
theorem EE.map {L:Env}{W:Bool}{a:Act}{N:Nat}(hs:AJ a N L)(hW:W=true): ∀(xs:List Operand) (vs:List Value),EE L W xs vs->xs.map a.eval=vs
 |[],[],_=>rfl
 |[],_::_,h=>h.elim
 |_::_,[],h=>h.elim
 |x::xs,v::vs,h=>by rw[List.map_cons,h.1 a N hs hW,EE.map hs hW xs vs h.2]
theorem O3{f:FuncId}(ct: ∀args w,(callFunc f args).run P w= .ok (.enter f args) w){L:Env}{W:Bool}{xs:List Operand}{vs:List Value}(hx:EE L W xs vs){a:Act}{N:Nat}(hs:AJ a N L)(hW:W=true){d:Option Tmp}{tys:Array TypeId}{ty:TypeId}{ps:String}{af:Array Edge}{gd:Option (Nat×Bool)}:
  (execOp a.eval ⟨d,.call ⟨.value (.func f),xs.toArray,tys⟩,ty,ps,af,gd⟩).run P w= .ok (.enter f vs.toArray) w:=by
 have e:xs.toArray.map a.eval=vs.toArray:=by rw[List.map_toArray,EE.map hs hW xs vs hx]
 have e2:a.eval (.func f)= .func (.func f) #[] #[]:=rfl
 simp only[execOp,resolve,e,e2,Deferred.ofValue,invoke,Sem.run_bind,Sem.run_pure,Result.andThen_ok]
 simpa using ct vs.toArray w
theorem RL.DC {d:Nat}{f:FuncId}{xs:List Operand}{vs:List Value}{v:Value}{tys:Array TypeId}{ty:TypeId}{ps:String}{af:Array Edge}{gd:Option (Nat×Bool)}{W:Bool}(hw:DB ops L gd W)
  (ct: ∀args w,(callFunc f args).run P w= .ok (.enter f args) w) (hx:EE L W xs vs) (hc:W=true->Calls P f vs.toArray w (λ e w'=>e= .returned v/\w'=w)) (hd:Nat.blt d N=true)
  (h:RL P ops Q N rest ((d,W,v)::L) w):RL P ops Q N (⟨some d,.call ⟨.value (.func f),xs.toArray,tys⟩,ty,ps,af,gd⟩::rest) L w:=by
 intro a hs
 refine wpList_step λ K hK=>?_
 rw[DB.wanted (o:=⟨some d,.call ⟨.value (.func f),xs.toArray,tys⟩,ty,ps,af,gd⟩) hw hs]
 have hput:=hs.put hd W v
 cases W
 ·exact hK _ _ (h _ hput)
 ·simp only[if_true,Oper.wp,O3 ct hx hs U,Oper.upon_enter]
  refine(hc U).mono λ e w' ⟨he,hw'⟩=>?_
  subst he;subst hw'
  exact hK _ _ (h _ hput)
theorem RL.DP {d:Nat}{f:FuncId}{xs:List Operand}{vs:List Value}{tys:Array TypeId}{ty:TypeId}{ps:String}{af:Array Edge}{Post:Value->World->Prop}
  (ct: ∀args w,(callFunc f args).run P w= .ok (.enter f args) w) (hx:EE L true xs vs) (hc:Calls P f vs.toArray w (λ e w'=> ∃v,e= .returned v/\Post v w')) (hd:Nat.blt d N=true)
  (h: ∀v w',Post v w'->RL P ops Q N rest ((d,true,v)::L) w'):RL P ops Q N (⟨some d,.call ⟨.value (.func f),xs.toArray,tys⟩,ty,ps,af,none⟩::rest) L w:=by
 intro a hs
 refine wpList_plain U λ K hK=>?_
 simp only[Oper.wp,O3 ct hx hs U,Oper.upon_enter]
 refine hc.mono λ e w' ⟨v,he,hp⟩=>?_
 subst he
 exact hK _ _ (h v w' hp _ (hs.put hd true v))
end rl
def CW(P:Program)(c:Code)(Q:Exit->Act->World->Prop)(N:Nat)(L:Env)(w:World):Prop:= ∀a,AJ a N L->c.wp P Q a w
section cw
variable {P:Program} {Q:Exit->Act->World->Prop} {N:Nat} {L:Env} {w:World}
theorem CW.enter {f:FuncId}{fn:Func}{c:Code}{vs:List Value}{R:Ending->World->Prop}(hf:P.funcs[f]? =some fn)(hb:fn.body=some c)(hn:fn.ntmps=N)(hl:vs.length<=N)
  (h:CW P c (bodyPost P fn R) N (MZ 0 vs) w):Calls P f vs.toArray w R:=
 calls_of_wp hf hb (by rw[hn];exact h _ (AJ.enter vs N hl))
theorem CW.weaken {c:Code}{L':Env}(ks:List Nat)(h:CW P c Q N L' w)(hk:Eng.BC ks L=L'):CW P c Q N L w:=λ a hs=>h a (hk▸hs.BC ks)
theorem An {c:Code}{L':Env}(ks:List Nat)(h:CW P c Q N L' w)(hk:Eng.BC ks L=L'):CW P c Q N L w:=λ a hs=>h a (hk▸hs.BC ks)
theorem CW.seq {x y:Code}(h:CW P x (Exit.then (y.wp P Q) Q) N L w):CW P (.seq x y) Q N L w:=λ a hs=>wp_seq (h a hs)
theorem Ag {x y:Code}(h:CW P x (Exit.then (y.wp P Q) Q) N L w):CW P (.seq x y) Q N L w:=λ a hs=>wp_seq (h a hs)
theorem CW.region {id:Nat}{l:List Oper}(h:RL P l.toArray Q N l L w):CW P (.region id l.toArray false) Q N L w:=λ a hs=>wp_region_lit (h a hs)
theorem CW.block {id:Nat}{c:Code}(h:CW P c (Exit.inBlock id Q) N L w):CW P (.block id c) Q N L w:=λ a hs=>wp_block (h a hs)
theorem Am {id:Nat}{c:Code}(h:CW P c (Exit.inBlock id Q) N L w):CW P (.block id c) Q N L w:=λ a hs=>wp_block (h a hs)
theorem CW.cond {c:Nat}{x y:Code}{b:Bool}(hc:look L c=some (true,.bool b))(ht:b=true->CW P x Q N L w)(hf:b=false->CW P y Q N L w):CW P (.cond (.tmp c) x y) Q N L w:=
 λ a hs=>wp_cond_split (hs.get hc) (λ hb=>ht hb a hs) (λ hb=>hf hb a hs)
theorem Af {c:Nat}{x y:Code}{b:Bool}(hc:look L c=some (true,.bool b))(ht:b=true->CW P x Q N L w)(hf:b=false->CW P y Q N L w):CW P (.cond (.tmp c) x y) Q N L w:=
 λ a hs=>wp_cond_split (hs.get hc) (λ hb=>ht hb a hs) (λ hb=>hf hb a hs)
theorem CW.sF {x y:Code}{b:Bool}(ht:b=true->CW P x Q N L w)(hf:b=false->CW P y Q N L w):CW P (.cond (.const (.bool b)) x y) Q N L w:=
 λ a hs=>wp_cond_split U (λ hb=>ht hb a hs) (λ hb=>hf hb a hs)
theorem CW.skip (h: ∀a,AJ a N L->Q .normal a w):CW P .skip Q N L w:=λ a hs=>wp_skip (h a hs)
theorem Ai (h: ∀a,AJ a N L->Q .normal a w):CW P .skip Q N L w:=λ a hs=>wp_skip (h a hs)
theorem CW.exit {id:Nat}(h: ∀a,AJ a N L->Q (.exit id) a w):CW P (.exit id) Q N L w:=λ a hs=>wp_exit (h a hs)
theorem CW.ret (h: ∀a,AJ a N L->Q .ret a w):CW P .ret Q N L w:=λ a hs=>wp_ret (h a hs)
theorem Ah (h: ∀a,AJ a N L->Q .ret a w):CW P .ret Q N L w:=λ a hs=>wp_ret (h a hs)
theorem CW.on {y:Code}{Q':Exit->Act->World->Prop}{L':Env}(ks:List Nat)(hk:Eng.BC ks L=L')(h:CW P y Q' N L' w): ∀a,AJ a N L->y.wp P Q' a w:=λ a hs=>h a (hk▸hs.BC ks)
theorem RL.nil {ops:Array Oper}(h: ∀a,AJ a N L->Q .normal a w):RL P ops Q N [] L w:=λ a hs=>wpList_nil (h a hs)
theorem Aa {ops:Array Oper}(h: ∀a,AJ a N L->Q .normal a w):RL P ops Q N [] L w:=λ a hs=>wpList_nil (h a hs)
theorem CW.loop {σ:Type}{c:Code}(Lf:σ->Env)(I:σ->World->Prop)(μ:σ->Nat)(s₀:σ)(ks:List Nat)(hL:Eng.BC ks L=Lf s₀)(h₀:I s₀ w)
  (round: ∀s w,I s w->CW P c (Exit.then (λ a' w'=> ∃s',AJ a' N (Lf s')/\I s' w'/\μ s'<μ s) Q) N (Lf s) w):CW P (.loop c) Q N L w:=by
 intro a hs b k cs
 have key: ∀n s a w,μ s=n->I s w->AJ a N (Lf s)->
   ∃e a' w',Q e a' w'/\Arrives P (lone (b.at a (.code c:: .inLoop c::k)) cs w) b k cs e a' w':=by
  intro n
  induction n using Nat.strongRecOn with
  |_ n ih=>
   intro s a w hn hI hsl
   obtain⟨e,a₁,w₁,hq,harr⟩:=round s w hI a hsl b (.inLoop c::k) cs
   cases e with
   |normal=>
    obtain⟨s',hsl',hI',hlt⟩:=hq
    obtain⟨e₂,a₂,w₂,hq₂,harr₂⟩:=ih (μ s') (hn▸hlt) s' a₁ w₁ rfl hI' hsl'
    exact⟨e₂,a₂,w₂,hq₂,.of_steps (Steps.trans harr (.one step_inLoop)) harr₂⟩
   |exit id=>exact⟨_,a₁,w₁,hq,.pass (x:=.inLoop c) U (λ _ _=>.inl (by simp)) harr⟩
   |goto l=>exact⟨_,a₁,w₁,hq,.pass (x:=.inLoop c) U (λ _ _=>.inl (by simp)) harr⟩
   |ret=>exact⟨_,a₁,w₁,hq,.pass (x:=.inLoop c) U (λ _ _=>.inl (by simp)) harr⟩
   |panic ch=>exact⟨_,a₁,w₁,hq,.pass (x:=.inLoop c) U (λ _ _=>.inl (by simp)) harr⟩
   |outgrown=>exact⟨_,a₁,w₁,hq,.pass (x:=.inLoop c) U (λ _ _=>.inl (by simp)) harr⟩
 obtain⟨e,a',w',hq,harr⟩:=key _ s₀ a w rfl h₀ (hL▸hs.BC ks)
 exact⟨e,a',w',hq,.of_steps (.one step_loop) harr⟩
theorem sG{fn:Func}{R:Ending->World->Prop}{t:Tmp}{v:Value}(hr:fn.results= #[.tmp t])(hl:look L t=some (true,v))(h:R (.returned v) w): ∀a,AJ a N L->bodyPost P fn R .ret a w:=
 λ a hs=>bodyPost_ret (results_tmp hr _ _ _) hs.DE (by rw[hs.get hl];exact h)
theorem sH{fn:Func}{R:Ending->World->Prop}{t u:Tmp}{v x:Value}(hr:fn.results= #[.tmp t,.tmp u])(hl:look L t=some (true,v))(hl2:look L u=some (true,x))(h:R (.returned (.tuple #[v,x])) w): ∀a,AJ a N L->bodyPost P fn R .ret a w:=
 λ a hs=>bodyPost_ret (results_tmp2 hr _ _ _) hs.DE (by rw[hs.get hl,hs.get hl2];exact h)
theorem sI{fn:Func}{R:Ending->World->Prop}{t u s:Tmp}{v x y:Value}(hr:fn.results= #[.tmp t,.tmp u,.tmp s])(hl:look L t=some (true,v))(hl2:look L u=some (true,x))(hl3:look L s=some (true,y))(h:R (.returned (.tuple #[v,x,y])) w): ∀a,AJ a N L->bodyPost P fn R .ret a w:=
 λ a hs=>bodyPost_ret (v:=.tuple #[v,x,y]) (by simp[results,hr,Sem.run_bind,Sem.run_pure,hs.get hl,hs.get hl2,hs.get hl3,<-Array.getD_eq_getD_getElem?]) hs.DE h
end cw
end Go.Eng
