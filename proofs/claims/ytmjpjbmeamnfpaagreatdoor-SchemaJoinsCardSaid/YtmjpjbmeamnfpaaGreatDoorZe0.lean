/-
  Parts Shelf, put together and made short by wip/py/merge.py (mini.py).
-/
import Derived.Shelf.Strings.Builder1
import Derived.Shelf.Strings.Builder2
import Derived.Shelf.Strings.Trim
import Derived.Shelf.Small.Utf8
import Derived.Shelf.Small.Bits
import Derived.Shelf.Small.Strs
import Derived.Shelf.Strings.BuilderF
import Derived.Shelf.Strings.BuilderK
import Derived.Shelf.Strings.BuilderRune
import Derived.Shelf.Utf8.AppendRune
import Derived.Shelf.Utf8.AppendRunePlain
import Derived.Shelf.Strings.Builder2Cap
import Derived.Shelf.Strconv.Atoi
import Derived.Shelf.Strconv.Itoa0
import Derived.Shelf.Strconv.Itoa1
import Derived.Shelf.LaysM
import Derived.Shelf.Strconv.Itoa2
import Derived.Shelf.Strconv.Itoa3
import Derived.Shelf.Strconv.Itoa4
import Derived.Shelf.Strconv.AtoiErrFast
import Derived.Shelf.Strconv.ParseIntEmpty
import Derived.Shelf.Strconv.AtoiFail
import Derived.Shelf.Strconv.Clone
import Derived.Shelf.Strconv.SyntaxError
import Derived.Shelf.LaysC
import Derived.Shelf.Strconv.ToError
import Derived.Shelf.Strconv.Lower
import Derived.Shelf.Strconv.ParseUint10
import Derived.Shelf.Strconv.ParseUint10Empty
import Derived.Shelf.Strconv.ParseUint10Any
import Derived.Shelf.Strconv.ParseInt10
import Derived.Shelf.Strconv.AtoiLong
import Derived.Shelf.Strconv.AtoiInnerAll
import Derived.Shelf.Strconv.RangeError
import Derived.Shelf.Strconv.ToErrorRange
import Derived.Shelf.Strconv.AtoiAll
import Derived.Shelf.Strconv.ErrVarAll
import Derived.Shelf.Strconv.ParseUintEmpty
import Derived.Shelf.Strconv.ParseUint10b64
import Derived.Shelf.Strconv.ParseUint10b32
import Derived.Shelf.Strconv.ParseUint10b16
import Derived.Shelf.Strconv.ParseUint10b8
import Derived.Shelf.Strconv.ParseUint10At
import Derived.Ground.MpProg
import Derived.Shelf.Pu.ParseUintPublic10
import Derived.Shelf.Strings.Search1
import Derived.Shelf.Sort.Plain
import Derived.Shelf.GgClosure.StringsIndexFunc
import Derived.Shelf.GgClosure.StringsTrimFunc
import Derived.Shelf.GgClosure.StringsRunes
import Derived.Shelf.Strings.Prefix
import Derived.Shelf.Strings.Fields
import Derived.Shelf.Unicode.Latin
import Derived.Shelf.Unicode.Decode
import Derived.Shelf.Strings.Runes
import Derived.Shelf.Strings.IndexAny
import Derived.Shelf.Strings.AsciiSet
import Derived.Shelf.Strings.IndexAnyAll
import Derived.Shelf.Bits.Mul64
import Derived.Shelf.Strings.Repeat
import Derived.Shelf.Unicode.DecodeSlow
import Derived.Shelf.Unicode.DecodeAny
import Derived.Shelf.Unicode.Is16White
import Derived.Shelf.Unicode.IsSpaceAny
import Derived.Shelf.Unicode.DecodeLast
import Derived.Shelf.Unicode.Is16WhiteD
import Derived.Shelf.Unicode.IsSpaceAnyD
import Derived.Shelf.Strings.FieldsAny
import Derived.Shelf.Strings.FieldsFuncAny
import Derived.Shelf.Unicode.Is16Any
import Derived.Shelf.Unicode.Is32Any
import Derived.Shelf.Unicode.ExclAny
import Derived.Shelf.Strings.BuilderCap
import Derived.Shelf.Slices.In.SortNone
import Derived.Test.YtmjpjbmeamnfpaaGreatDoorProg

theorem U{α:Sort _}{a:α}:a=a:=rfl
namespace Go.Proofs
open Go.Shelf
def Tryz.aO:Go.Shelf.Ren:=⟨λ |169=>110|n=>n,λ |70=>161|9=>9|0=>0|72=>163|37=>110|127=>196|3=>3|5=>5|n=>n,λ |n=>n⟩
theorem Tryz.lR:Go.Proofs.Lays.n169 Tryz.prog Tryz.aO:= {
 mixed:=by kernel_rfl
 f169:=Tryz.func110.trans (congrArg some (by kernel_rfl))
 t0:=Tryz.underlying0
 a0:=Tryz.isAgg0
 z0:=Tryz.sizeOf0
 v0:=Tryz.zeroValue0
 t3:=Tryz.underlying3
 a3:=Tryz.isAgg3
 z3:=Tryz.sizeOf3
 v3:=Tryz.zeroValue3
 t9:=Tryz.underlying9
 a9:=Tryz.isAgg9
 z9:=Tryz.sizeOf9
 v9:=Tryz.zeroValue9
 t37:=Tryz.underlying110
 a37:=Tryz.isAgg110
 z37:=Tryz.sizeOf110
 v37:=Tryz.zeroValue110
 t70:=Tryz.underlying161
 a70:=Tryz.isAgg161
 z70:=Tryz.sizeOf161
 v70:=Tryz.zeroValue161
 t72:=Tryz.underlying163
 a72:=Tryz.isAgg163
 z72:=Tryz.sizeOf163
 v72:=Tryz.zeroValue163
 t127:=Tryz.underlying196
 a127:=Tryz.isAgg196
 z127:=Tryz.sizeOf196
 v127:=Tryz.zeroValue196}
theorem Tryz.lS:Builder.Extra Tryz.prog Tryz.aO:= {
 sizeBuilder:=by kernel_rfl
 liesBuilder:=by kernel_rfl
 t5:=Tryz.underlying5
 a5:=Tryz.isAgg5
 z5:=Tryz.sizeOf5
 v5:=Tryz.zeroValue5
 infoByte:=by kernel_rfl
 cellsByte:=by kernel_rfl
 sizeByte:=by kernel_rfl
 neB5:=by decide}
open Go.RowKit in
theorem Tryz.Builder_String_any (B b:Nat)(l:List UInt8)(w:World)(h:Lib.IsBuilder 163 5 B b (Lib.byteCells l) w)(hBw:B<=w.heap.size):
 Calls Tryz.prog 110 #[.pointer (some ⟨b,0,none⟩)] w λ e w'=>e= .returned (.string ⟨l.toArray⟩)/\Below B w w':=Any.Builder_String_any Tryz.lR Tryz.lS B b l w h hBw
def Tryz.lT:Go.Shelf.Ren:=⟨λ |161=>47|231=>72|227=>73|233=>74|235=>75|228=>105|197=>106|151=>107|260=>145|152=>146|137=>119|119=>192|224=>193|225=>194|217=>155|266=>204|n=>n,λ |9=>9|4=>4|3=>3|5=>5|117=>127|116=>126|0=>0|124=>130|105=>157|21=>21|119=>203|46=>192|139=>233|138=>232|n=>n,λ |3=>1|4=>2|n=>n⟩
theorem Tryz.lU:Go.Proofs.Lays.n161 Tryz.prog Tryz.lT:= {
 mixed:=by kernel_rfl
 f119:=Tryz.func192.trans (congrArg some (by kernel_rfl))
 f137:=Tryz.func119.trans (congrArg some (by kernel_rfl))
 f151:=Tryz.func107.trans (congrArg some (by kernel_rfl))
 f152:=Tryz.func146.trans (congrArg some (by kernel_rfl))
 f161:=Tryz.func47.trans (congrArg some (by kernel_rfl))
 f197:=Tryz.func106.trans (congrArg some (by kernel_rfl))
 f217:=Tryz.func155.trans (congrArg some (by kernel_rfl))
 f224:=Tryz.func193.trans (congrArg some (by kernel_rfl))
 f225:=Tryz.func194.trans (congrArg some (by kernel_rfl))
 f227:=Tryz.func73.trans (congrArg some (by kernel_rfl))
 f228:=Tryz.func105.trans (congrArg some (by kernel_rfl))
 f231:=Tryz.func72.trans (congrArg some (by kernel_rfl))
 f233:=Tryz.func74.trans (congrArg some (by kernel_rfl))
 f235:=Tryz.func75.trans (congrArg some (by kernel_rfl))
 f260:=Tryz.func145.trans (congrArg some (by kernel_rfl))
 f266:=Tryz.func204.trans (congrArg some (by kernel_rfl))
 t0:=Tryz.underlying0
 a0:=Tryz.isAgg0
 z0:=Tryz.sizeOf0
 v0:=Tryz.zeroValue0
 t3:=Tryz.underlying3
 a3:=Tryz.isAgg3
 z3:=Tryz.sizeOf3
 v3:=Tryz.zeroValue3
 t4:=Tryz.underlying4
 a4:=Tryz.isAgg4
 z4:=Tryz.sizeOf4
 v4:=Tryz.zeroValue4
 t5:=Tryz.underlying5
 a5:=Tryz.isAgg5
 z5:=Tryz.sizeOf5
 v5:=Tryz.zeroValue5
 t9:=Tryz.underlying9
 a9:=Tryz.isAgg9
 z9:=Tryz.sizeOf9
 v9:=Tryz.zeroValue9
 t21:=Tryz.underlying21
 a21:=Tryz.isAgg21
 z21:=Tryz.sizeOf21
 v21:=Tryz.zeroValue21
 t46:=Tryz.underlying192
 a46:=Tryz.isAgg192
 z46:=Tryz.sizeOf192
 v46:=Tryz.zeroValue192
 t105:=Tryz.underlying157
 a105:=Tryz.isAgg157
 z105:=Tryz.sizeOf157
 v105:=Tryz.zeroValue157
 t116:=Tryz.underlying126
 a116:=Tryz.isAgg126
 z116:=Tryz.sizeOf126
 t117:=Tryz.underlying127
 a117:=Tryz.isAgg127
 z117:=Tryz.sizeOf127
 v117:=Tryz.zeroValue127
 t119:=Tryz.underlying203
 a119:=Tryz.isAgg203
 z119:=Tryz.sizeOf203
 t124:=Tryz.underlying130
 a124:=Tryz.isAgg130
 z124:=Tryz.sizeOf130
 v124:=Tryz.zeroValue130
 t138:=Tryz.underlying232
 a138:=Tryz.isAgg232
 z138:=Tryz.sizeOf232
 v138:=Tryz.zeroValue232
 t139:=Tryz.underlying233
 a139:=Tryz.isAgg233
 z139:=Tryz.sizeOf233
 v139:=Tryz.zeroValue233
 g3:=by kernel_rfl
 g4:=by kernel_rfl}
def Tryz.lV:Go.Shelf.Ren:=⟨λ |162=>159|232=>211|227=>73|234=>212|236=>213|228=>105|271=>248|151=>107|120=>275|197=>106|152=>146|260=>145|137=>119|119=>192|224=>193|225=>194|217=>155|266=>204|n=>n,λ |9=>9|4=>4|3=>3|5=>5|117=>127|116=>126|0=>0|124=>130|21=>21|105=>157|46=>192|119=>203|139=>233|138=>232|n=>n,λ |3=>1|4=>2|n=>n⟩
theorem Tryz.lW:Go.Proofs.Lays.n162 Tryz.prog Tryz.lV:= {
 mixed:=by kernel_rfl
 f119:=Tryz.func192.trans (congrArg some (by kernel_rfl))
 f120:=Tryz.func275.trans (congrArg some (by kernel_rfl))
 f137:=Tryz.func119.trans (congrArg some (by kernel_rfl))
 f151:=Tryz.func107.trans (congrArg some (by kernel_rfl))
 f152:=Tryz.func146.trans (congrArg some (by kernel_rfl))
 f162:=Tryz.func159.trans (congrArg some (by kernel_rfl))
 f197:=Tryz.func106.trans (congrArg some (by kernel_rfl))
 f217:=Tryz.func155.trans (congrArg some (by kernel_rfl))
 f224:=Tryz.func193.trans (congrArg some (by kernel_rfl))
 f225:=Tryz.func194.trans (congrArg some (by kernel_rfl))
 f227:=Tryz.func73.trans (congrArg some (by kernel_rfl))
 f228:=Tryz.func105.trans (congrArg some (by kernel_rfl))
 f232:=Tryz.func211.trans (congrArg some (by kernel_rfl))
 f234:=Tryz.func212.trans (congrArg some (by kernel_rfl))
 f236:=Tryz.func213.trans (congrArg some (by kernel_rfl))
 f260:=Tryz.func145.trans (congrArg some (by kernel_rfl))
 f266:=Tryz.func204.trans (congrArg some (by kernel_rfl))
 f271:=Tryz.func248.trans (congrArg some (by kernel_rfl))
 t0:=Tryz.underlying0
 a0:=Tryz.isAgg0
 z0:=Tryz.sizeOf0
 v0:=Tryz.zeroValue0
 t3:=Tryz.underlying3
 a3:=Tryz.isAgg3
 z3:=Tryz.sizeOf3
 v3:=Tryz.zeroValue3
 t4:=Tryz.underlying4
 a4:=Tryz.isAgg4
 z4:=Tryz.sizeOf4
 v4:=Tryz.zeroValue4
 t5:=Tryz.underlying5
 a5:=Tryz.isAgg5
 z5:=Tryz.sizeOf5
 v5:=Tryz.zeroValue5
 t9:=Tryz.underlying9
 a9:=Tryz.isAgg9
 z9:=Tryz.sizeOf9
 v9:=Tryz.zeroValue9
 t21:=Tryz.underlying21
 a21:=Tryz.isAgg21
 z21:=Tryz.sizeOf21
 v21:=Tryz.zeroValue21
 t46:=Tryz.underlying192
 a46:=Tryz.isAgg192
 z46:=Tryz.sizeOf192
 v46:=Tryz.zeroValue192
 t105:=Tryz.underlying157
 a105:=Tryz.isAgg157
 z105:=Tryz.sizeOf157
 v105:=Tryz.zeroValue157
 t116:=Tryz.underlying126
 a116:=Tryz.isAgg126
 z116:=Tryz.sizeOf126
 t117:=Tryz.underlying127
 a117:=Tryz.isAgg127
 z117:=Tryz.sizeOf127
 v117:=Tryz.zeroValue127
 t119:=Tryz.underlying203
 a119:=Tryz.isAgg203
 z119:=Tryz.sizeOf203
 t124:=Tryz.underlying130
 a124:=Tryz.isAgg130
 z124:=Tryz.sizeOf130
 v124:=Tryz.zeroValue130
 t138:=Tryz.underlying232
 a138:=Tryz.isAgg232
 z138:=Tryz.sizeOf232
 v138:=Tryz.zeroValue232
 t139:=Tryz.underlying233
 a139:=Tryz.isAgg233
 z139:=Tryz.sizeOf233
 v139:=Tryz.zeroValue233
 g3:=by kernel_rfl
 g4:=by kernel_rfl}
def Tryz.lX:Go.Shelf.Ren:=⟨λ |119=>192|n=>n,λ |21=>21|4=>4|n=>n,λ |n=>n⟩
theorem Tryz.lY:Go.Proofs.Lays.n119 Tryz.prog Tryz.lX:= {
 mixed:=by kernel_rfl
 f119:=Tryz.func192.trans (congrArg some (by kernel_rfl))
 t4:=Tryz.underlying4
 a4:=Tryz.isAgg4
 z4:=Tryz.sizeOf4
 v4:=Tryz.zeroValue4
 t21:=Tryz.underlying21
 a21:=Tryz.isAgg21
 z21:=Tryz.sizeOf21
 v21:=Tryz.zeroValue21}
theorem Tryz.utf8_ValidRune (r:Int)(w:World):
 Calls Tryz.prog 192 #[.int .i32 r] w λ e w'=>e= .returned (.bool (Lib.validRune r))/\w'=w:=Any.utf8_ValidRune Tryz.lY r w
def Tryz.lZ:Go.Shelf.Ren:=⟨λ |137=>119|217=>155|266=>204|n=>n,λ |9=>9|5=>5|3=>3|n=>n,λ |n=>n⟩
theorem Tryz.mA:Go.Proofs.Lays.n137 Tryz.prog Tryz.lZ:= {
 mixed:=by kernel_rfl
 f137:=Tryz.func119.trans (congrArg some (by kernel_rfl))
 f217:=Tryz.func155.trans (congrArg some (by kernel_rfl))
 f266:=Tryz.func204.trans (congrArg some (by kernel_rfl))
 t3:=Tryz.underlying3
 a3:=Tryz.isAgg3
 z3:=Tryz.sizeOf3
 v3:=Tryz.zeroValue3
 t5:=Tryz.underlying5
 a5:=Tryz.isAgg5
 z5:=Tryz.sizeOf5
 v5:=Tryz.zeroValue5
 t9:=Tryz.underlying9
 a9:=Tryz.isAgg9
 z9:=Tryz.sizeOf9
 v9:=Tryz.zeroValue9}
open Go.RowKit in
theorem Tryz.strings_IndexByte (s:ByteArray)(c:Int)(w:World):
 Calls Tryz.prog 119 #[.string s,.int .u8 c] w λ e w'=>e= .returned (.int .i64 (Lib.indexByte s.data.toList c.toNat.toUInt8))/\w'=w:=Any.strings_IndexByte Tryz.mA s c w
def Tryz.mB:Go.Shelf.Ren:=⟨λ |171=>245|243=>272|246=>297|283=>307|284=>308|285=>309|286=>310|129=>190|317=>312|318=>313|319=>314|320=>315|337=>319|338=>320|n=>n,λ |3=>3|9=>9|2=>2|4=>4|171=>325|0=>0|53=>230|37=>110|5=>5|173=>327|212=>330|51=>93|20=>20|213=>331|46=>192|232=>339|233=>340|n=>n,λ |17=>7|18=>8|19=>9|n=>n⟩
theorem Tryz.mC:Go.Proofs.LaysM.n171 Tryz.prog Tryz.mB:= {
 mixed:=by kernel_rfl
 f129:=Tryz.func190.trans (congrArg some (by kernel_rfl))
 f171:=Tryz.func245.trans (congrArg some (by kernel_rfl))
 f243:=Tryz.func272.trans (congrArg some (by kernel_rfl))
 f246:=Tryz.func297.trans (congrArg some (by kernel_rfl))
 f283:=Tryz.func307.trans (congrArg some (by kernel_rfl))
 f284:=Tryz.func308.trans (congrArg some (by kernel_rfl))
 f285:=Tryz.func309.trans (congrArg some (by kernel_rfl))
 f286:=Tryz.func310.trans (congrArg some (by kernel_rfl))
 f317:=Tryz.func312.trans (congrArg some (by kernel_rfl))
 f318:=Tryz.func313.trans (congrArg some (by kernel_rfl))
 f319:=Tryz.func314.trans (congrArg some (by kernel_rfl))
 f320:=Tryz.func315.trans (congrArg some (by kernel_rfl))
 f337:=Tryz.func319.trans (congrArg some (by kernel_rfl))
 f338:=Tryz.func320.trans (congrArg some (by kernel_rfl))
 t0:=Tryz.underlying0
 a0:=Tryz.isAgg0
 z0:=Tryz.sizeOf0
 v0:=Tryz.zeroValue0
 t2:=Tryz.underlying2
 a2:=Tryz.isAgg2
 z2:=Tryz.sizeOf2
 v2:=Tryz.zeroValue2
 t3:=Tryz.underlying3
 a3:=Tryz.isAgg3
 z3:=Tryz.sizeOf3
 v3:=Tryz.zeroValue3
 t4:=Tryz.underlying4
 a4:=Tryz.isAgg4
 z4:=Tryz.sizeOf4
 v4:=Tryz.zeroValue4
 t5:=Tryz.underlying5
 a5:=Tryz.isAgg5
 z5:=Tryz.sizeOf5
 v5:=Tryz.zeroValue5
 t9:=Tryz.underlying9
 a9:=Tryz.isAgg9
 z9:=Tryz.sizeOf9
 v9:=Tryz.zeroValue9
 t20:=Tryz.underlying20
 a20:=Tryz.isAgg20
 z20:=Tryz.sizeOf20
 v20:=Tryz.zeroValue20
 t37:=Tryz.underlying110
 a37:=Tryz.isAgg110
 z37:=Tryz.sizeOf110
 v37:=Tryz.zeroValue110
 t46:=Tryz.underlying192
 a46:=Tryz.isAgg192
 z46:=Tryz.sizeOf192
 v46:=Tryz.zeroValue192
 t51:=Tryz.underlying93
 a51:=Tryz.isAgg93
 z51:=Tryz.sizeOf93
 v51:=Tryz.zeroValue93
 t53:=Tryz.underlying230
 a53:=Tryz.isAgg230
 z53:=Tryz.sizeOf230
 v53:=Tryz.zeroValue230
 t171:=Tryz.underlying325
 a171:=Tryz.isAgg325
 z171:=Tryz.sizeOf325
 v171:=Tryz.zeroValue325
 t173:=Tryz.underlying327
 a173:=Tryz.isAgg327
 z173:=Tryz.sizeOf327
 v173:=Tryz.zeroValue327
 t212:=Tryz.underlying330
 a212:=Tryz.isAgg330
 z212:=Tryz.sizeOf330
 v212:=Tryz.zeroValue330
 t213:=Tryz.underlying331
 a213:=Tryz.isAgg331
 z213:=Tryz.sizeOf331
 t232:=Tryz.underlying339
 a232:=Tryz.isAgg339
 z232:=Tryz.sizeOf339
 v232:=Tryz.zeroValue339
 t233:=Tryz.underlying340
 a233:=Tryz.isAgg340
 z233:=Tryz.sizeOf340
 v233:=Tryz.zeroValue340
 g17:=by kernel_rfl
 g18:=by kernel_rfl
 g19:=by kernel_rfl
 i0:=by kernel_rfl
 i2:=by kernel_rfl
 i3:=by kernel_rfl
 i4:=by kernel_rfl
 i5:=by kernel_rfl
 i9:=by kernel_rfl
 i20:=by kernel_rfl
 i37:=by kernel_rfl
 i46:=by kernel_rfl
 i51:=by kernel_rfl
 i53:=by kernel_rfl
 i171:=by kernel_rfl
 i173:=by kernel_rfl
 i212:=by kernel_rfl
 i232:=by kernel_rfl
 i233:=by kernel_rfl
 m17:=by kernel_rfl
 m18:=by kernel_rfl
 m19:=by kernel_rfl}
open Go.RowKit Go.Sort Go.Lib in
theorem Tryz.strconv_Itoa (n:Int)(h0: -9223372036854775808<=n)(h1:n<=9223372036854775807)(w:World)(htab:Lib.TabIs Tryz.prog w "internal/strconv.uint64pow10" .u64 Lib.pow10Tab):
 Calls Tryz.prog 245 #[.int .i64 n] w λ e w'=>e= .returned (.string ⟨(Lib.itoa n).toArray⟩)/\ ∃k os,w'=grow (w.drewN k) os:=Any.strconv_Itoa Tryz.mC n h0 h1 w htab
def Tryz.mD:Go.Shelf.Ren:=⟨λ |245=>157|279=>206|280=>207|281=>208|282=>209|316=>243|171=>245|205=>244|243=>272|246=>297|283=>307|284=>308|285=>309|286=>310|129=>190|317=>312|318=>313|319=>314|320=>315|337=>319|338=>320|n=>n,λ |9=>9|3=>3|75=>166|167=>248|4=>4|168=>251|210=>286|37=>110|0=>0|127=>196|145=>307|143=>305|2=>2|171=>325|53=>230|5=>5|173=>327|212=>330|51=>93|20=>20|213=>331|46=>192|232=>339|233=>340|80=>164|n=>n,λ |15=>5|16=>6|17=>7|18=>8|19=>9|n=>n⟩
theorem Tryz.mE:Go.Proofs.LaysC.n245 Tryz.prog Tryz.mD:= {
 mixed:=by kernel_rfl
 f129:=Tryz.func190.trans (congrArg some (by kernel_rfl))
 f171:=Tryz.func245.trans (congrArg some (by kernel_rfl))
 f205:=Tryz.func244.trans (congrArg some (by kernel_rfl))
 f243:=Tryz.func272.trans (congrArg some (by kernel_rfl))
 f245:=Tryz.func157.trans (congrArg some (by kernel_rfl))
 f246:=Tryz.func297.trans (congrArg some (by kernel_rfl))
 f279:=Tryz.func206.trans (congrArg some (by kernel_rfl))
 f280:=Tryz.func207.trans (congrArg some (by kernel_rfl))
 f281:=Tryz.func208.trans (congrArg some (by kernel_rfl))
 f282:=Tryz.func209.trans (congrArg some (by kernel_rfl))
 f283:=Tryz.func307.trans (congrArg some (by kernel_rfl))
 f284:=Tryz.func308.trans (congrArg some (by kernel_rfl))
 f285:=Tryz.func309.trans (congrArg some (by kernel_rfl))
 f286:=Tryz.func310.trans (congrArg some (by kernel_rfl))
 f316:=Tryz.func243.trans (congrArg some (by kernel_rfl))
 f317:=Tryz.func312.trans (congrArg some (by kernel_rfl))
 f318:=Tryz.func313.trans (congrArg some (by kernel_rfl))
 f319:=Tryz.func314.trans (congrArg some (by kernel_rfl))
 f320:=Tryz.func315.trans (congrArg some (by kernel_rfl))
 f337:=Tryz.func319.trans (congrArg some (by kernel_rfl))
 f338:=Tryz.func320.trans (congrArg some (by kernel_rfl))
 t0:=Tryz.underlying0
 a0:=Tryz.isAgg0
 z0:=Tryz.sizeOf0
 v0:=Tryz.zeroValue0
 t2:=Tryz.underlying2
 a2:=Tryz.isAgg2
 z2:=Tryz.sizeOf2
 v2:=Tryz.zeroValue2
 t3:=Tryz.underlying3
 a3:=Tryz.isAgg3
 z3:=Tryz.sizeOf3
 v3:=Tryz.zeroValue3
 t4:=Tryz.underlying4
 a4:=Tryz.isAgg4
 z4:=Tryz.sizeOf4
 v4:=Tryz.zeroValue4
 t5:=Tryz.underlying5
 a5:=Tryz.isAgg5
 z5:=Tryz.sizeOf5
 v5:=Tryz.zeroValue5
 t9:=Tryz.underlying9
 a9:=Tryz.isAgg9
 z9:=Tryz.sizeOf9
 v9:=Tryz.zeroValue9
 t20:=Tryz.underlying20
 a20:=Tryz.isAgg20
 z20:=Tryz.sizeOf20
 v20:=Tryz.zeroValue20
 t37:=Tryz.underlying110
 a37:=Tryz.isAgg110
 z37:=Tryz.sizeOf110
 v37:=Tryz.zeroValue110
 t46:=Tryz.underlying192
 a46:=Tryz.isAgg192
 z46:=Tryz.sizeOf192
 v46:=Tryz.zeroValue192
 t51:=Tryz.underlying93
 a51:=Tryz.isAgg93
 z51:=Tryz.sizeOf93
 v51:=Tryz.zeroValue93
 t53:=Tryz.underlying230
 a53:=Tryz.isAgg230
 z53:=Tryz.sizeOf230
 v53:=Tryz.zeroValue230
 t75:=Tryz.underlying166
 a75:=Tryz.isAgg166
 z75:=Tryz.sizeOf166
 v75:=Tryz.zeroValue166
 t127:=Tryz.underlying196
 a127:=Tryz.isAgg196
 z127:=Tryz.sizeOf196
 v127:=Tryz.zeroValue196
 t143:=Tryz.underlying305
 a143:=Tryz.isAgg305
 z143:=Tryz.sizeOf305
 v143:=Tryz.zeroValue305
 t145:=Tryz.underlying307
 a145:=Tryz.isAgg307
 z145:=Tryz.sizeOf307
 v145:=Tryz.zeroValue307
 t167:=Tryz.underlying248
 a167:=Tryz.isAgg248
 z167:=Tryz.sizeOf248
 v167:=Tryz.zeroValue248
 t168:=Tryz.underlying251
 a168:=Tryz.isAgg251
 z168:=Tryz.sizeOf251
 v168:=Tryz.zeroValue251
 t171:=Tryz.underlying325
 a171:=Tryz.isAgg325
 z171:=Tryz.sizeOf325
 v171:=Tryz.zeroValue325
 t173:=Tryz.underlying327
 a173:=Tryz.isAgg327
 z173:=Tryz.sizeOf327
 v173:=Tryz.zeroValue327
 t210:=Tryz.underlying286
 a210:=Tryz.isAgg286
 z210:=Tryz.sizeOf286
 v210:=Tryz.zeroValue286
 t212:=Tryz.underlying330
 a212:=Tryz.isAgg330
 z212:=Tryz.sizeOf330
 v212:=Tryz.zeroValue330
 t213:=Tryz.underlying331
 a213:=Tryz.isAgg331
 z213:=Tryz.sizeOf331
 t232:=Tryz.underlying339
 a232:=Tryz.isAgg339
 z232:=Tryz.sizeOf339
 v232:=Tryz.zeroValue339
 t233:=Tryz.underlying340
 a233:=Tryz.isAgg340
 z233:=Tryz.sizeOf340
 v233:=Tryz.zeroValue340
 g15:=by kernel_rfl
 g16:=by kernel_rfl
 g17:=by kernel_rfl
 g18:=by kernel_rfl
 g19:=by kernel_rfl
 t80:=Tryz.underlying164
 a80:=Tryz.isAgg164
 z80:=Tryz.sizeOf164
 v80:=Tryz.zeroValue164
 i0:=by kernel_rfl
 i2:=by kernel_rfl
 i3:=by kernel_rfl
 i4:=by kernel_rfl
 i5:=by kernel_rfl
 i9:=by kernel_rfl
 i20:=by kernel_rfl
 i37:=by kernel_rfl
 i46:=by kernel_rfl
 i51:=by kernel_rfl
 i53:=by kernel_rfl
 i75:=by kernel_rfl
 i80:=by kernel_rfl
 i127:=by kernel_rfl
 i143:=by kernel_rfl
 i145:=by kernel_rfl
 i167:=by kernel_rfl
 i168:=by kernel_rfl
 i171:=by kernel_rfl
 i173:=by kernel_rfl
 i210:=by kernel_rfl
 i212:=by kernel_rfl
 i232:=by kernel_rfl
 i233:=by kernel_rfl
 m15:=by kernel_rfl
 m16:=by kernel_rfl
 m17:=by kernel_rfl
 m18:=by kernel_rfl
 m19:=by kernel_rfl
 c0:=by kernel_rfl
 c2:=by kernel_rfl
 c3:=by kernel_rfl
 c4:=by kernel_rfl
 c5:=by kernel_rfl
 c9:=by kernel_rfl
 c20:=by kernel_rfl
 c37:=by kernel_rfl
 c46:=by kernel_rfl
 c51:=by kernel_rfl
 c53:=by kernel_rfl
 c75:=by kernel_rfl
 c80:=by kernel_rfl
 c127:=by kernel_rfl
 c143:=by kernel_rfl
 c145:=by kernel_rfl
 c167:=by kernel_rfl
 c168:=by kernel_rfl
 c171:=by kernel_rfl
 c173:=by kernel_rfl
 c210:=by kernel_rfl
 c212:=by kernel_rfl
 c213:=by kernel_rfl
 c232:=by kernel_rfl
 c233:=by kernel_rfl}
open Go.RowKit in
theorem Tryz.strconv_toError_syntax (fn s:ByteArray)(base bits:Int)(ev:Value)(w:World)(hlim:s.size<=281474976710656)(hv:w.cell? ⟨5,0,none⟩=some ev)(hev:ev= .nilIface\/ ∃te pe,ev= .iface te pe):
 Calls Tryz.prog 157 #[.string fn,.string s,.int .i64 base,.int .i64 bits,.iface 248 (.int .i64 2)] w λ e w'=> ∃N,e= .returned (.iface 251 (.pointer (some ⟨N,0,none⟩)))/\w.heap.size<=N/\w'.heap[N]? =some (.cells #[.string fn,.string s,ev] 286 (0,0))/\Below w.heap.size w w':=Any.strconv_toError_syntax Tryz.mE fn s base bits ev w hlim hv hev
def Tryz.mF:Go.Shelf.Ren:=⟨λ |172=>120|244=>156|245=>157|247=>205|279=>206|280=>207|281=>208|282=>209|287=>236|316=>243|171=>245|205=>244|321=>262|322=>263|243=>272|246=>297|283=>307|284=>308|285=>309|286=>310|129=>190|317=>312|318=>313|319=>314|320=>315|337=>319|338=>320|n=>n,λ |9=>9|3=>3|75=>166|76=>167|4=>4|5=>5|167=>248|37=>110|0=>0|85=>249|2=>2|168=>251|53=>230|175=>235|46=>192|210=>286|127=>196|145=>307|143=>305|21=>21|171=>325|173=>327|212=>330|51=>93|20=>20|213=>331|232=>339|233=>340|80=>164|n=>n,λ |15=>5|16=>6|17=>7|18=>8|19=>9|n=>n⟩
theorem Tryz.aP:Go.Proofs.LaysC.n172 Tryz.prog Tryz.mF:= {
 mixed:=by kernel_rfl
 f129:=Tryz.func190.trans (congrArg some (by kernel_rfl))
 f171:=Tryz.func245.trans (congrArg some (by kernel_rfl))
 f172:=Tryz.func120.trans (congrArg some (by kernel_rfl))
 f205:=Tryz.func244.trans (congrArg some (by kernel_rfl))
 f243:=Tryz.func272.trans (congrArg some (by kernel_rfl))
 f244:=Tryz.func156.trans (congrArg some (by kernel_rfl))
 f245:=Tryz.func157.trans (congrArg some (by kernel_rfl))
 f246:=Tryz.func297.trans (congrArg some (by kernel_rfl))
 f247:=Tryz.func205.trans (congrArg some (by kernel_rfl))
 f279:=Tryz.func206.trans (congrArg some (by kernel_rfl))
 f280:=Tryz.func207.trans (congrArg some (by kernel_rfl))
 f281:=Tryz.func208.trans (congrArg some (by kernel_rfl))
 f282:=Tryz.func209.trans (congrArg some (by kernel_rfl))
 f283:=Tryz.func307.trans (congrArg some (by kernel_rfl))
 f284:=Tryz.func308.trans (congrArg some (by kernel_rfl))
 f285:=Tryz.func309.trans (congrArg some (by kernel_rfl))
 f286:=Tryz.func310.trans (congrArg some (by kernel_rfl))
 f287:=Tryz.func236.trans (congrArg some (by kernel_rfl))
 f316:=Tryz.func243.trans (congrArg some (by kernel_rfl))
 f317:=Tryz.func312.trans (congrArg some (by kernel_rfl))
 f318:=Tryz.func313.trans (congrArg some (by kernel_rfl))
 f319:=Tryz.func314.trans (congrArg some (by kernel_rfl))
 f320:=Tryz.func315.trans (congrArg some (by kernel_rfl))
 f321:=Tryz.func262.trans (congrArg some (by kernel_rfl))
 f322:=Tryz.func263.trans (congrArg some (by kernel_rfl))
 f337:=Tryz.func319.trans (congrArg some (by kernel_rfl))
 f338:=Tryz.func320.trans (congrArg some (by kernel_rfl))
 t0:=Tryz.underlying0
 a0:=Tryz.isAgg0
 z0:=Tryz.sizeOf0
 v0:=Tryz.zeroValue0
 t2:=Tryz.underlying2
 a2:=Tryz.isAgg2
 z2:=Tryz.sizeOf2
 v2:=Tryz.zeroValue2
 t3:=Tryz.underlying3
 a3:=Tryz.isAgg3
 z3:=Tryz.sizeOf3
 v3:=Tryz.zeroValue3
 t4:=Tryz.underlying4
 a4:=Tryz.isAgg4
 z4:=Tryz.sizeOf4
 v4:=Tryz.zeroValue4
 t5:=Tryz.underlying5
 a5:=Tryz.isAgg5
 z5:=Tryz.sizeOf5
 v5:=Tryz.zeroValue5
 t9:=Tryz.underlying9
 a9:=Tryz.isAgg9
 z9:=Tryz.sizeOf9
 v9:=Tryz.zeroValue9
 t20:=Tryz.underlying20
 a20:=Tryz.isAgg20
 z20:=Tryz.sizeOf20
 v20:=Tryz.zeroValue20
 t21:=Tryz.underlying21
 a21:=Tryz.isAgg21
 z21:=Tryz.sizeOf21
 v21:=Tryz.zeroValue21
 t37:=Tryz.underlying110
 a37:=Tryz.isAgg110
 z37:=Tryz.sizeOf110
 v37:=Tryz.zeroValue110
 t46:=Tryz.underlying192
 a46:=Tryz.isAgg192
 z46:=Tryz.sizeOf192
 v46:=Tryz.zeroValue192
 t51:=Tryz.underlying93
 a51:=Tryz.isAgg93
 z51:=Tryz.sizeOf93
 v51:=Tryz.zeroValue93
 t53:=Tryz.underlying230
 a53:=Tryz.isAgg230
 z53:=Tryz.sizeOf230
 v53:=Tryz.zeroValue230
 t75:=Tryz.underlying166
 a75:=Tryz.isAgg166
 z75:=Tryz.sizeOf166
 v75:=Tryz.zeroValue166
 t76:=Tryz.underlying167
 a76:=Tryz.isAgg167
 z76:=Tryz.sizeOf167
 v76:=Tryz.zeroValue167
 t85:=Tryz.underlying249
 a85:=Tryz.isAgg249
 z85:=Tryz.sizeOf249
 v85:=Tryz.zeroValue249
 t127:=Tryz.underlying196
 a127:=Tryz.isAgg196
 z127:=Tryz.sizeOf196
 v127:=Tryz.zeroValue196
 t143:=Tryz.underlying305
 a143:=Tryz.isAgg305
 z143:=Tryz.sizeOf305
 v143:=Tryz.zeroValue305
 t145:=Tryz.underlying307
 a145:=Tryz.isAgg307
 z145:=Tryz.sizeOf307
 v145:=Tryz.zeroValue307
 t167:=Tryz.underlying248
 a167:=Tryz.isAgg248
 z167:=Tryz.sizeOf248
 v167:=Tryz.zeroValue248
 t168:=Tryz.underlying251
 a168:=Tryz.isAgg251
 z168:=Tryz.sizeOf251
 v168:=Tryz.zeroValue251
 t171:=Tryz.underlying325
 a171:=Tryz.isAgg325
 z171:=Tryz.sizeOf325
 v171:=Tryz.zeroValue325
 t173:=Tryz.underlying327
 a173:=Tryz.isAgg327
 z173:=Tryz.sizeOf327
 v173:=Tryz.zeroValue327
 t175:=Tryz.underlying235
 a175:=Tryz.isAgg235
 z175:=Tryz.sizeOf235
 v175:=Tryz.zeroValue235
 t210:=Tryz.underlying286
 a210:=Tryz.isAgg286
 z210:=Tryz.sizeOf286
 v210:=Tryz.zeroValue286
 t212:=Tryz.underlying330
 a212:=Tryz.isAgg330
 z212:=Tryz.sizeOf330
 v212:=Tryz.zeroValue330
 t213:=Tryz.underlying331
 a213:=Tryz.isAgg331
 z213:=Tryz.sizeOf331
 t232:=Tryz.underlying339
 a232:=Tryz.isAgg339
 z232:=Tryz.sizeOf339
 v232:=Tryz.zeroValue339
 t233:=Tryz.underlying340
 a233:=Tryz.isAgg340
 z233:=Tryz.sizeOf340
 v233:=Tryz.zeroValue340
 g15:=by kernel_rfl
 g16:=by kernel_rfl
 g17:=by kernel_rfl
 g18:=by kernel_rfl
 g19:=by kernel_rfl
 t80:=Tryz.underlying164
 a80:=Tryz.isAgg164
 z80:=Tryz.sizeOf164
 v80:=Tryz.zeroValue164
 i0:=by kernel_rfl
 i2:=by kernel_rfl
 i3:=by kernel_rfl
 i4:=by kernel_rfl
 i5:=by kernel_rfl
 i9:=by kernel_rfl
 i20:=by kernel_rfl
 i21:=by kernel_rfl
 i37:=by kernel_rfl
 i46:=by kernel_rfl
 i51:=by kernel_rfl
 i53:=by kernel_rfl
 i75:=by kernel_rfl
 i76:=by kernel_rfl
 i80:=by kernel_rfl
 i85:=by kernel_rfl
 i127:=by kernel_rfl
 i143:=by kernel_rfl
 i145:=by kernel_rfl
 i167:=by kernel_rfl
 i168:=by kernel_rfl
 i171:=by kernel_rfl
 i173:=by kernel_rfl
 i175:=by kernel_rfl
 i210:=by kernel_rfl
 i212:=by kernel_rfl
 i232:=by kernel_rfl
 i233:=by kernel_rfl
 m15:=by kernel_rfl
 m16:=by kernel_rfl
 m17:=by kernel_rfl
 m18:=by kernel_rfl
 m19:=by kernel_rfl
 c0:=by kernel_rfl
 c2:=by kernel_rfl
 c3:=by kernel_rfl
 c4:=by kernel_rfl
 c5:=by kernel_rfl
 c9:=by kernel_rfl
 c20:=by kernel_rfl
 c21:=by kernel_rfl
 c37:=by kernel_rfl
 c46:=by kernel_rfl
 c51:=by kernel_rfl
 c53:=by kernel_rfl
 c75:=by kernel_rfl
 c76:=by kernel_rfl
 c80:=by kernel_rfl
 c85:=by kernel_rfl
 c127:=by kernel_rfl
 c143:=by kernel_rfl
 c145:=by kernel_rfl
 c167:=by kernel_rfl
 c168:=by kernel_rfl
 c171:=by kernel_rfl
 c173:=by kernel_rfl
 c175:=by kernel_rfl
 c210:=by kernel_rfl
 c212:=by kernel_rfl
 c213:=by kernel_rfl
 c232:=by kernel_rfl
 c233:=by kernel_rfl}
open Go.RowKit in
theorem Tryz.strconv_Atoi_ok (s:ByteArray)(hmax:s.size<=9223372036854775806)(v:Int)(h:Lib.atoiAll s.data.toList= .ok v)(w:World):
 Calls Tryz.prog 120 #[.string s] w λ e w'=>e= .returned (.tuple #[.int .i64 v,.nilIface])/\(w'=w\/ ∃t,w'=Lib.bytesWorld w 5 t):=Any.strconv_Atoi_ok Tryz.aP s hmax v h w
def Tryz.mG:Go.Shelf.Ren:=⟨λ |237=>210|272=>247|238=>246|315=>274|273=>273|197=>106|271=>248|260=>145|120=>275|n=>n,λ |9=>9|40=>171|4=>4|3=>3|105=>157|21=>21|0=>0|5=>5|119=>203|46=>192|139=>233|138=>232|n=>n,λ |3=>1|4=>2|n=>n⟩
theorem Tryz.mH:Go.Proofs.Lays.n237 Tryz.prog Tryz.mG:= {
 mixed:=by kernel_rfl
 f120:=Tryz.func275.trans (congrArg some (by kernel_rfl))
 f197:=Tryz.func106.trans (congrArg some (by kernel_rfl))
 f237:=Tryz.func210.trans (congrArg some (by kernel_rfl))
 f238:=Tryz.func246.trans (congrArg some (by kernel_rfl))
 f260:=Tryz.func145.trans (congrArg some (by kernel_rfl))
 f271:=Tryz.func248.trans (congrArg some (by kernel_rfl))
 f272:=Tryz.func247.trans (congrArg some (by kernel_rfl))
 f273:=Tryz.func273.trans (congrArg some (by kernel_rfl))
 f315:=Tryz.func274.trans (congrArg some (by kernel_rfl))
 t0:=Tryz.underlying0
 a0:=Tryz.isAgg0
 z0:=Tryz.sizeOf0
 v0:=Tryz.zeroValue0
 t3:=Tryz.underlying3
 a3:=Tryz.isAgg3
 z3:=Tryz.sizeOf3
 v3:=Tryz.zeroValue3
 t4:=Tryz.underlying4
 a4:=Tryz.isAgg4
 z4:=Tryz.sizeOf4
 v4:=Tryz.zeroValue4
 t5:=Tryz.underlying5
 a5:=Tryz.isAgg5
 z5:=Tryz.sizeOf5
 v5:=Tryz.zeroValue5
 t9:=Tryz.underlying9
 a9:=Tryz.isAgg9
 z9:=Tryz.sizeOf9
 v9:=Tryz.zeroValue9
 t21:=Tryz.underlying21
 a21:=Tryz.isAgg21
 z21:=Tryz.sizeOf21
 v21:=Tryz.zeroValue21
 t40:=Tryz.underlying171
 a40:=Tryz.isAgg171
 z40:=Tryz.sizeOf171
 v40:=Tryz.zeroValue171
 t46:=Tryz.underlying192
 a46:=Tryz.isAgg192
 z46:=Tryz.sizeOf192
 v46:=Tryz.zeroValue192
 t105:=Tryz.underlying157
 a105:=Tryz.isAgg157
 z105:=Tryz.sizeOf157
 v105:=Tryz.zeroValue157
 t119:=Tryz.underlying203
 a119:=Tryz.isAgg203
 z119:=Tryz.sizeOf203
 t138:=Tryz.underlying232
 a138:=Tryz.isAgg232
 z138:=Tryz.sizeOf232
 v138:=Tryz.zeroValue232
 t139:=Tryz.underlying233
 a139:=Tryz.isAgg233
 z139:=Tryz.sizeOf233
 v139:=Tryz.zeroValue233
 g3:=by kernel_rfl
 g4:=by kernel_rfl}
open Go.RowKit Go.Lib in
theorem Tryz.strings_TrimFunc_runes (g:Nat)(lb:Array Value)(eg: ∀args w,(callFunc g args).run Tryz.prog w= .ok (.enter g args) w)(p:Nat->Bool)(s:ByteArray)(w:World)(hs:s.size<=9223372036854775807)(hT:Lib.Utf8Tabs 1 2 w)(hp:PredAtRunes Tryz.prog g lb p w):
 Calls Tryz.prog 210 #[.string s,.func (.func g) #[] lb] w λ e w'=>e= .returned (.string (Lib.trimF p s))/\Below w.heap.size w w':=Any.strings_TrimFunc_runes Tryz.mH g lb eg p s w hs hT hp
def Tryz.mI:Go.Shelf.Ren:=⟨λ |99=>77|206=>109|n=>n,λ |9=>9|4=>4|3=>3|n=>n,λ |n=>n⟩
theorem Tryz.mJ:Go.Proofs.Lays.n99 Tryz.prog Tryz.mI:= {
 mixed:=by kernel_rfl
 f99:=Tryz.func77.trans (congrArg some (by kernel_rfl))
 f206:=Tryz.func109.trans (congrArg some (by kernel_rfl))
 t3:=Tryz.underlying3
 a3:=Tryz.isAgg3
 z3:=Tryz.sizeOf3
 v3:=Tryz.zeroValue3
 t4:=Tryz.underlying4
 a4:=Tryz.isAgg4
 z4:=Tryz.sizeOf4
 v4:=Tryz.zeroValue4
 t9:=Tryz.underlying9
 a9:=Tryz.isAgg9
 z9:=Tryz.sizeOf9
 v9:=Tryz.zeroValue9}
open Go.RowKit Go.Lib in
theorem Tryz.strings_HasPrefix (s p:ByteArray)(w:World):
 Calls Tryz.prog 77 #[.string s,.string p] w λ e w'=>e= .returned (.bool (Lib.hasPrefix s.data.toList p.data.toList))/\w'=w:=Any.strings_HasPrefix Tryz.mJ s p w
def Tryz.mK:Go.Shelf.Ren:=⟨λ |157=>115|229=>153|199=>154|261=>203|311=>241|312=>242|n=>n,λ |9=>9|31=>32|3=>3|5=>5|4=>4|119=>203|0=>0|40=>171|152=>243|21=>21|154=>245|51=>93|141=>247|196=>277|193=>274|198=>280|49=>278|194=>275|201=>283|226=>303|46=>192|227=>304|n=>n,λ |0=>0|6=>3|n=>n⟩
theorem Tryz.mL:Go.Proofs.Lays.n157 Tryz.prog Tryz.mK:= {
 mixed:=by kernel_rfl
 f157:=Tryz.func115.trans (congrArg some (by kernel_rfl))
 f199:=Tryz.func154.trans (congrArg some (by kernel_rfl))
 f229:=Tryz.func153.trans (congrArg some (by kernel_rfl))
 f261:=Tryz.func203.trans (congrArg some (by kernel_rfl))
 f311:=Tryz.func241.trans (congrArg some (by kernel_rfl))
 f312:=Tryz.func242.trans (congrArg some (by kernel_rfl))
 t0:=Tryz.underlying0
 a0:=Tryz.isAgg0
 z0:=Tryz.sizeOf0
 v0:=Tryz.zeroValue0
 t3:=Tryz.underlying3
 a3:=Tryz.isAgg3
 z3:=Tryz.sizeOf3
 v3:=Tryz.zeroValue3
 t4:=Tryz.underlying4
 a4:=Tryz.isAgg4
 z4:=Tryz.sizeOf4
 v4:=Tryz.zeroValue4
 t5:=Tryz.underlying5
 a5:=Tryz.isAgg5
 z5:=Tryz.sizeOf5
 v5:=Tryz.zeroValue5
 t9:=Tryz.underlying9
 a9:=Tryz.isAgg9
 z9:=Tryz.sizeOf9
 v9:=Tryz.zeroValue9
 t21:=Tryz.underlying21
 a21:=Tryz.isAgg21
 z21:=Tryz.sizeOf21
 v21:=Tryz.zeroValue21
 t31:=Tryz.underlying32
 a31:=Tryz.isAgg32
 z31:=Tryz.sizeOf32
 v31:=Tryz.zeroValue32
 t40:=Tryz.underlying171
 a40:=Tryz.isAgg171
 z40:=Tryz.sizeOf171
 v40:=Tryz.zeroValue171
 t46:=Tryz.underlying192
 a46:=Tryz.isAgg192
 z46:=Tryz.sizeOf192
 v46:=Tryz.zeroValue192
 t49:=Tryz.underlying278
 a49:=Tryz.isAgg278
 z49:=Tryz.sizeOf278
 v49:=Tryz.zeroValue278
 t51:=Tryz.underlying93
 a51:=Tryz.isAgg93
 z51:=Tryz.sizeOf93
 v51:=Tryz.zeroValue93
 t119:=Tryz.underlying203
 a119:=Tryz.isAgg203
 z119:=Tryz.sizeOf203
 t141:=Tryz.underlying247
 a141:=Tryz.isAgg247
 z141:=Tryz.sizeOf247
 v141:=Tryz.zeroValue247
 t152:=Tryz.underlying243
 a152:=Tryz.isAgg243
 z152:=Tryz.sizeOf243
 v152:=Tryz.zeroValue243
 t154:=Tryz.underlying245
 a154:=Tryz.isAgg245
 z154:=Tryz.sizeOf245
 v154:=Tryz.zeroValue245
 t193:=Tryz.underlying274
 a193:=Tryz.isAgg274
 z193:=Tryz.sizeOf274
 v193:=Tryz.zeroValue274
 t194:=Tryz.underlying275
 a194:=Tryz.isAgg275
 z194:=Tryz.sizeOf275
 v194:=Tryz.zeroValue275
 t196:=Tryz.underlying277
 a196:=Tryz.isAgg277
 z196:=Tryz.sizeOf277
 v196:=Tryz.zeroValue277
 t198:=Tryz.underlying280
 a198:=Tryz.isAgg280
 z198:=Tryz.sizeOf280
 v198:=Tryz.zeroValue280
 t201:=Tryz.underlying283
 a201:=Tryz.isAgg283
 z201:=Tryz.sizeOf283
 v201:=Tryz.zeroValue283
 t226:=Tryz.underlying303
 a226:=Tryz.isAgg303
 z226:=Tryz.sizeOf303
 v226:=Tryz.zeroValue303
 t227:=Tryz.underlying304
 a227:=Tryz.isAgg304
 z227:=Tryz.sizeOf304
 v227:=Tryz.zeroValue304
 g0:=by kernel_rfl
 g6:=by kernel_rfl}
open Go.RowKit Go.Lib in
theorem Tryz.strings_Fields (s:ByteArray)(w:World)(hs:s.size<4294967281)(hascii: ∀(j:Nat) b,s.data.toList[j]? =some b->b.toNat<128)(htab:Lib.TabIs Tryz.prog w "strings.asciiSpace" .u8 Lib.asciiSpaceTab):
 Calls Tryz.prog 115 #[.string s] w λ e w'=>
  e= .returned (.slice (some ⟨w.heap.size,0,none⟩) (Lib.fields s.data.toList).length (Lib.fields s.data.toList).length)/\w'=w.alloc (.cells ((Lib.fields s.data.toList).map λ l=>Value.string ⟨l.toArray⟩).toArray 9):=Any.strings_Fields Tryz.mL (by kernel_rfl) (by kernel_rfl) s w hs hascii htab
def Tryz.mM:Go.Shelf.Ren:=⟨λ |197=>106|260=>145|n=>n,λ |9=>9|21=>21|3=>3|4=>4|5=>5|105=>157|119=>203|0=>0|46=>192|139=>233|138=>232|n=>n,λ |3=>1|4=>2|n=>n⟩
theorem Tryz.mN:Go.Proofs.Lays.n197 Tryz.prog Tryz.mM:= {
 mixed:=by kernel_rfl
 f197:=Tryz.func106.trans (congrArg some (by kernel_rfl))
 f260:=Tryz.func145.trans (congrArg some (by kernel_rfl))
 t0:=Tryz.underlying0
 a0:=Tryz.isAgg0
 z0:=Tryz.sizeOf0
 v0:=Tryz.zeroValue0
 t3:=Tryz.underlying3
 a3:=Tryz.isAgg3
 z3:=Tryz.sizeOf3
 v3:=Tryz.zeroValue3
 t4:=Tryz.underlying4
 a4:=Tryz.isAgg4
 z4:=Tryz.sizeOf4
 v4:=Tryz.zeroValue4
 t5:=Tryz.underlying5
 a5:=Tryz.isAgg5
 z5:=Tryz.sizeOf5
 v5:=Tryz.zeroValue5
 t9:=Tryz.underlying9
 a9:=Tryz.isAgg9
 z9:=Tryz.sizeOf9
 v9:=Tryz.zeroValue9
 t21:=Tryz.underlying21
 a21:=Tryz.isAgg21
 z21:=Tryz.sizeOf21
 v21:=Tryz.zeroValue21
 t46:=Tryz.underlying192
 a46:=Tryz.isAgg192
 z46:=Tryz.sizeOf192
 v46:=Tryz.zeroValue192
 t105:=Tryz.underlying157
 a105:=Tryz.isAgg157
 z105:=Tryz.sizeOf157
 v105:=Tryz.zeroValue157
 t119:=Tryz.underlying203
 a119:=Tryz.isAgg203
 z119:=Tryz.sizeOf203
 t138:=Tryz.underlying232
 a138:=Tryz.isAgg232
 z138:=Tryz.sizeOf232
 v138:=Tryz.zeroValue232
 t139:=Tryz.underlying233
 a139:=Tryz.isAgg233
 z139:=Tryz.sizeOf233
 v139:=Tryz.zeroValue233
 g3:=by kernel_rfl
 g4:=by kernel_rfl}
def Tryz.aQ:Go.Shelf.Ren:=⟨λ |105=>169|212=>216|99=>77|165=>217|166=>218|170=>219|169=>110|263=>250|264=>251|206=>109|240=>149|241=>252|276=>197|277=>277|n=>n,λ |9=>9|3=>3|4=>4|20=>20|0=>0|46=>192|109=>255|5=>5|72=>163|76=>167|51=>93|146=>288|53=>230|148=>290|70=>161|37=>110|75=>166|127=>196|164=>237|80=>164|n=>n,λ |n=>n⟩
theorem Tryz.VS:Go.Proofs.Lays.n105 Tryz.prog Tryz.aQ:= {
 mixed:=by kernel_rfl
 f99:=Tryz.func77.trans (congrArg some (by kernel_rfl))
 f105:=Tryz.func169.trans (congrArg some (by kernel_rfl))
 f165:=Tryz.func217.trans (congrArg some (by kernel_rfl))
 f166:=Tryz.func218.trans (congrArg some (by kernel_rfl))
 f169:=Tryz.func110.trans (congrArg some (by kernel_rfl))
 f170:=Tryz.func219.trans (congrArg some (by kernel_rfl))
 f206:=Tryz.func109.trans (congrArg some (by kernel_rfl))
 f212:=Tryz.func216.trans (congrArg some (by kernel_rfl))
 f240:=Tryz.func149.trans (congrArg some (by kernel_rfl))
 f241:=Tryz.func252.trans (congrArg some (by kernel_rfl))
 f263:=Tryz.func250.trans (congrArg some (by kernel_rfl))
 f264:=Tryz.func251.trans (congrArg some (by kernel_rfl))
 f276:=Tryz.func197.trans (congrArg some (by kernel_rfl))
 f277:=Tryz.func277.trans (congrArg some (by kernel_rfl))
 t0:=Tryz.underlying0
 a0:=Tryz.isAgg0
 z0:=Tryz.sizeOf0
 v0:=Tryz.zeroValue0
 t3:=Tryz.underlying3
 a3:=Tryz.isAgg3
 z3:=Tryz.sizeOf3
 v3:=Tryz.zeroValue3
 t4:=Tryz.underlying4
 a4:=Tryz.isAgg4
 z4:=Tryz.sizeOf4
 v4:=Tryz.zeroValue4
 t5:=Tryz.underlying5
 a5:=Tryz.isAgg5
 z5:=Tryz.sizeOf5
 v5:=Tryz.zeroValue5
 t9:=Tryz.underlying9
 a9:=Tryz.isAgg9
 z9:=Tryz.sizeOf9
 v9:=Tryz.zeroValue9
 t20:=Tryz.underlying20
 a20:=Tryz.isAgg20
 z20:=Tryz.sizeOf20
 v20:=Tryz.zeroValue20
 t37:=Tryz.underlying110
 a37:=Tryz.isAgg110
 z37:=Tryz.sizeOf110
 v37:=Tryz.zeroValue110
 t46:=Tryz.underlying192
 a46:=Tryz.isAgg192
 z46:=Tryz.sizeOf192
 v46:=Tryz.zeroValue192
 t51:=Tryz.underlying93
 a51:=Tryz.isAgg93
 z51:=Tryz.sizeOf93
 v51:=Tryz.zeroValue93
 t53:=Tryz.underlying230
 a53:=Tryz.isAgg230
 z53:=Tryz.sizeOf230
 v53:=Tryz.zeroValue230
 t70:=Tryz.underlying161
 a70:=Tryz.isAgg161
 z70:=Tryz.sizeOf161
 v70:=Tryz.zeroValue161
 t72:=Tryz.underlying163
 a72:=Tryz.isAgg163
 z72:=Tryz.sizeOf163
 v72:=Tryz.zeroValue163
 t75:=Tryz.underlying166
 a75:=Tryz.isAgg166
 z75:=Tryz.sizeOf166
 v75:=Tryz.zeroValue166
 t76:=Tryz.underlying167
 a76:=Tryz.isAgg167
 z76:=Tryz.sizeOf167
 v76:=Tryz.zeroValue167
 t109:=Tryz.underlying255
 a109:=Tryz.isAgg255
 z109:=Tryz.sizeOf255
 v109:=Tryz.zeroValue255
 t127:=Tryz.underlying196
 a127:=Tryz.isAgg196
 z127:=Tryz.sizeOf196
 v127:=Tryz.zeroValue196
 t146:=Tryz.underlying288
 a146:=Tryz.isAgg288
 z146:=Tryz.sizeOf288
 v146:=Tryz.zeroValue288
 t148:=Tryz.underlying290
 a148:=Tryz.isAgg290
 z148:=Tryz.sizeOf290
 v148:=Tryz.zeroValue290
 t164:=Tryz.underlying237
 a164:=Tryz.isAgg237
 z164:=Tryz.sizeOf237
 v164:=Tryz.zeroValue237}
theorem Tryz.mO:Builder.Extra Tryz.prog Tryz.aQ:= {
 sizeBuilder:=by kernel_rfl
 liesBuilder:=by kernel_rfl
 t5:=Tryz.underlying5
 a5:=Tryz.isAgg5
 z5:=Tryz.sizeOf5
 v5:=Tryz.zeroValue5
 infoByte:=by kernel_rfl
 cellsByte:=by kernel_rfl
 sizeByte:=by kernel_rfl
 neB5:=by decide}
open Go.RowKit Go.Lib in
theorem Tryz.strings_Repeat_main (s:ByteArray)(c:Nat)(w:World)(hc2:2<=c)(hc:c<=9223372036854775807)(hlen:s.size*c<=140737488355328)(h0:0<s.size):
 Calls Tryz.prog 169 #[.string s,.int .i64 c] w λ e w'=>e= .returned (.string ⟨(Lib.repeatL s.data.toList c).toArray⟩)/\Below w.heap.size w w':=Any.strings_Repeat_main Tryz.VS Tryz.mO s c w hc2 hc hlen h0
open Go.RowKit Go.Lib in
theorem Tryz.strings_Repeat_zero (s:ByteArray)(w:World):
 Calls Tryz.prog 169 #[.string s,.int .i64 0] w λ e w'=>e= .returned (.string ⟨#[]⟩)/\w'=w:=Any.strings_Repeat_zero Tryz.VS s w
open Go.RowKit Go.Lib in
theorem Tryz.strings_Repeat_one (s:ByteArray)(w:World):
 Calls Tryz.prog 169 #[.string s,.int .i64 1] w λ e w'=>e= .returned (.string s)/\w'=w:=Any.strings_Repeat_one Tryz.VS s w
def Tryz.aR:Go.Shelf.Ren:=⟨λ |260=>145|n=>n,λ |9=>9|21=>21|3=>3|4=>4|5=>5|119=>203|0=>0|46=>192|139=>233|138=>232|n=>n,λ |3=>1|4=>2|n=>n⟩
theorem Tryz.mP:Go.Proofs.Lays.n260 Tryz.prog Tryz.aR:= {
 mixed:=by kernel_rfl
 f260:=Tryz.func145.trans (congrArg some (by kernel_rfl))
 t0:=Tryz.underlying0
 a0:=Tryz.isAgg0
 z0:=Tryz.sizeOf0
 v0:=Tryz.zeroValue0
 t3:=Tryz.underlying3
 a3:=Tryz.isAgg3
 z3:=Tryz.sizeOf3
 v3:=Tryz.zeroValue3
 t4:=Tryz.underlying4
 a4:=Tryz.isAgg4
 z4:=Tryz.sizeOf4
 v4:=Tryz.zeroValue4
 t5:=Tryz.underlying5
 a5:=Tryz.isAgg5
 z5:=Tryz.sizeOf5
 v5:=Tryz.zeroValue5
 t9:=Tryz.underlying9
 a9:=Tryz.isAgg9
 z9:=Tryz.sizeOf9
 v9:=Tryz.zeroValue9
 t21:=Tryz.underlying21
 a21:=Tryz.isAgg21
 z21:=Tryz.sizeOf21
 v21:=Tryz.zeroValue21
 t46:=Tryz.underlying192
 a46:=Tryz.isAgg192
 z46:=Tryz.sizeOf192
 v46:=Tryz.zeroValue192
 t119:=Tryz.underlying203
 a119:=Tryz.isAgg203
 z119:=Tryz.sizeOf203
 t138:=Tryz.underlying232
 a138:=Tryz.isAgg232
 z138:=Tryz.sizeOf232
 v138:=Tryz.zeroValue232
 t139:=Tryz.underlying233
 a139:=Tryz.isAgg233
 z139:=Tryz.sizeOf233
 v139:=Tryz.zeroValue233
 g3:=by kernel_rfl
 g4:=by kernel_rfl}
open Go.RowKit Go.Lib in
theorem Tryz.utf8_DecodeRuneInString (s:ByteArray)(w:World)(hT:Lib.Utf8Tabs 1 2 w):
 Calls Tryz.prog 106 #[.string s] w λ e w'=>e= .returned (.tuple #[.int .i32 (Lib.decodeGo s).1,.int .i64 (Lib.decodeGo s).2])/\Below w.heap.size w w':=Any.utf8_DecodeRuneInString Tryz.mN s w hT
end Go.Proofs
