/- Lemmas for the card. -/
import Derived.Shelf.Strings.Trim
import Derived.Shelf.Strings.BuilderRune
import Derived.Shelf.Utf8.AppendRune
import Derived.Shelf.Utf8.AppendRunePlain
import Derived.Shelf.Strconv.Itoa4
import Derived.Shelf.Strconv.ErrVarAll
import Derived.Shelf.Strconv.ParseUint10At
import Derived.Shelf.Pu.ParseUintPublic10
import Derived.Shelf.GgClosure.StringsRunes
import Derived.Shelf.Unicode.Decode
import Derived.Shelf.Strings.IndexAnyAll
import Derived.Shelf.Strings.Repeat
import Derived.Shelf.Strings.BuilderCap
import Derived.Test.YtnoegalemkbbbaaGreatDoorProg
import Derived.WalkLawsBesides
set_option linter.unusedVariables false
set_option linter.unusedSimpArgs false
set_option maxRecDepth 100000
theorem U{α:Sort _}{a:α}:a=a:=rfl
theorem Ai{p:Prop}(h:p:=by kernel_rfl):p:=h
theorem Ah{α : Type}{p:α->Prop}(h:∀ w,p w:=by intro w;kernel_rfl):∀ w,p w:=h
theorem Ag{a b:Int}(h:a.toNat<b.toNat:=by omega):a.toNat<b.toNat:=h
theorem Ac{p:Prop}(h:p:=by decide+kernel):p:=h
theorem Ab{p:Prop}(h:p:=by decide):p:=h
theorem Aa{p:Prop}(h:p:=by omega):p:=h
namespace Go.Proofs
open Go.Shelf
def Tryz.jW:Go.Shelf.Ren:=⟨λ |169=>225|n=>n,λ |70=>242|9=>9|0=>0|72=>244|37=>216|127=>269|3=>3|5=>5|n=>n,λ |n=>n⟩
theorem Tryz.xZ:Go.Proofs.Lays.n169 prog Tryz.jW:= {
 mixed:=by kernel_rfl
 f169:=func225.trans (congrArg some Ai)
 t0:=underlying0
 a0:=isAgg0
 z0:=sizeOf0
 v0:=zeroValue0
 t3:=underlying3
 a3:=isAgg3
 z3:=sizeOf3
 v3:=zeroValue3
 t9:=underlying9
 a9:=isAgg9
 z9:=sizeOf9
 v9:=zeroValue9
 t37:=underlying216
 a37:=isAgg216
 z37:=sizeOf216
 v37:=zeroValue216
 t70:=underlying242
 a70:=isAgg242
 z70:=sizeOf242
 v70:=zeroValue242
 t72:=underlying244
 a72:=isAgg244
 z72:=sizeOf244
 v72:=zeroValue244
 t127:=underlying269
 a127:=isAgg269
 z127:=sizeOf269
 v127:=zeroValue269}
theorem Tryz.y5:Builder.Extra prog Tryz.jW:= {
 sizeBuilder:=by kernel_rfl
 liesBuilder:=by kernel_rfl
 t5:=underlying5
 a5:=isAgg5
 z5:=sizeOf5
 v5:=zeroValue5
 infoByte:=by kernel_rfl
 cellsByte:=by kernel_rfl
 sizeByte:=by kernel_rfl
 neB5:=by decide}
open Go.RowKit in
theorem Tryz.Builder_String_any (B b:Nat)(l:List UInt8)(w:World)(h:Lib.IsBuilder 244 5 B b (Lib.byteCells l) w)(i:B<=w.heap.size):
 Calls prog 225 #[.pointer (some ⟨b,0,none⟩)] w λ e w'=>e= .returned (.string ⟨l.toArray⟩)/\Below B w w':=Any.Builder_String_any Tryz.xZ Tryz.y5 B b l w h i
def Tryz.y7:Go.Shelf.Ren:=⟨λ |161=>303|231=>327|227=>321|233=>328|235=>329|228=>322|197=>224|151=>346|260=>248|152=>319|137=>198|119=>341|224=>342|225=>343|217=>232|266=>254|n=>n,λ |9=>9|4=>4|3=>3|5=>5|117=>326|116=>325|0=>0|124=>332|105=>245|21=>21|119=>283|46=>209|139=>286|138=>285|n=>n,λ |3=>0|4=>1|n=>n⟩
theorem Tryz.y8:Go.Proofs.Lays.n161 prog Tryz.y7:= {
 mixed:=by kernel_rfl
 f119:=func341.trans (congrArg some Ai)
 f137:=func198.trans (congrArg some Ai)
 f151:=func346.trans (congrArg some Ai)
 f152:=func319.trans (congrArg some Ai)
 f161:=func303.trans (congrArg some Ai)
 f197:=func224.trans (congrArg some Ai)
 f217:=func232.trans (congrArg some Ai)
 f224:=func342.trans (congrArg some Ai)
 f225:=func343.trans (congrArg some Ai)
 f227:=func321.trans (congrArg some Ai)
 f228:=func322.trans (congrArg some Ai)
 f231:=func327.trans (congrArg some Ai)
 f233:=func328.trans (congrArg some Ai)
 f235:=func329.trans (congrArg some Ai)
 f260:=func248.trans (congrArg some Ai)
 f266:=func254.trans (congrArg some Ai)
 t0:=underlying0
 a0:=isAgg0
 z0:=sizeOf0
 v0:=zeroValue0
 t3:=underlying3
 a3:=isAgg3
 z3:=sizeOf3
 v3:=zeroValue3
 t4:=underlying4
 a4:=isAgg4
 z4:=sizeOf4
 v4:=zeroValue4
 t5:=underlying5
 a5:=isAgg5
 z5:=sizeOf5
 v5:=zeroValue5
 t9:=underlying9
 a9:=isAgg9
 z9:=sizeOf9
 v9:=zeroValue9
 t21:=underlying21
 a21:=isAgg21
 z21:=sizeOf21
 v21:=zeroValue21
 t46:=underlying209
 a46:=isAgg209
 z46:=sizeOf209
 v46:=zeroValue209
 t105:=underlying245
 a105:=isAgg245
 z105:=sizeOf245
 v105:=zeroValue245
 t116:=underlying325
 a116:=isAgg325
 z116:=sizeOf325
 t117:=underlying326
 a117:=isAgg326
 z117:=sizeOf326
 v117:=zeroValue326
 t119:=underlying283
 a119:=isAgg283
 z119:=sizeOf283
 t124:=underlying332
 a124:=isAgg332
 z124:=sizeOf332
 v124:=zeroValue332
 t138:=underlying285
 a138:=isAgg285
 z138:=sizeOf285
 v138:=zeroValue285
 t139:=underlying286
 a139:=isAgg286
 z139:=sizeOf286
 v139:=zeroValue286
 g3:=by kernel_rfl
 g4:=by kernel_rfl}
def Tryz.y9:Go.Shelf.Ren:=⟨λ |162=>304|232=>330|227=>321|234=>331|236=>332|228=>322|271=>347|151=>346|120=>355|197=>224|152=>319|260=>248|137=>198|119=>341|224=>342|225=>343|217=>232|266=>254|n=>n,λ |9=>9|4=>4|3=>3|5=>5|117=>326|116=>325|0=>0|124=>332|21=>21|105=>245|46=>209|119=>283|139=>286|138=>285|n=>n,λ |3=>0|4=>1|n=>n⟩
theorem Tryz.yA:Go.Proofs.Lays.n162 prog Tryz.y9:= {
 mixed:=by kernel_rfl
 f119:=func341.trans (congrArg some Ai)
 f120:=func355.trans (congrArg some Ai)
 f137:=func198.trans (congrArg some Ai)
 f151:=func346.trans (congrArg some Ai)
 f152:=func319.trans (congrArg some Ai)
 f162:=func304.trans (congrArg some Ai)
 f197:=func224.trans (congrArg some Ai)
 f217:=func232.trans (congrArg some Ai)
 f224:=func342.trans (congrArg some Ai)
 f225:=func343.trans (congrArg some Ai)
 f227:=func321.trans (congrArg some Ai)
 f228:=func322.trans (congrArg some Ai)
 f232:=func330.trans (congrArg some Ai)
 f234:=func331.trans (congrArg some Ai)
 f236:=func332.trans (congrArg some Ai)
 f260:=func248.trans (congrArg some Ai)
 f266:=func254.trans (congrArg some Ai)
 f271:=func347.trans (congrArg some Ai)
 t0:=underlying0
 a0:=isAgg0
 z0:=sizeOf0
 v0:=zeroValue0
 t3:=underlying3
 a3:=isAgg3
 z3:=sizeOf3
 v3:=zeroValue3
 t4:=underlying4
 a4:=isAgg4
 z4:=sizeOf4
 v4:=zeroValue4
 t5:=underlying5
 a5:=isAgg5
 z5:=sizeOf5
 v5:=zeroValue5
 t9:=underlying9
 a9:=isAgg9
 z9:=sizeOf9
 v9:=zeroValue9
 t21:=underlying21
 a21:=isAgg21
 z21:=sizeOf21
 v21:=zeroValue21
 t46:=underlying209
 a46:=isAgg209
 z46:=sizeOf209
 v46:=zeroValue209
 t105:=underlying245
 a105:=isAgg245
 z105:=sizeOf245
 v105:=zeroValue245
 t116:=underlying325
 a116:=isAgg325
 z116:=sizeOf325
 t117:=underlying326
 a117:=isAgg326
 z117:=sizeOf326
 v117:=zeroValue326
 t119:=underlying283
 a119:=isAgg283
 z119:=sizeOf283
 t124:=underlying332
 a124:=isAgg332
 z124:=sizeOf332
 v124:=zeroValue332
 t138:=underlying285
 a138:=isAgg285
 z138:=sizeOf285
 v138:=zeroValue285
 t139:=underlying286
 a139:=isAgg286
 z139:=sizeOf286
 v139:=zeroValue286
 g3:=by kernel_rfl
 g4:=by kernel_rfl}
def Tryz.yB:Go.Shelf.Ren:=⟨λ |119=>341|n=>n,λ |21=>21|4=>4|n=>n,λ |n=>n⟩
theorem Tryz.yC:Go.Proofs.Lays.n119 prog Tryz.yB:= {
 mixed:=by kernel_rfl
 f119:=func341.trans (congrArg some Ai)
 t4:=underlying4
 a4:=isAgg4
 z4:=sizeOf4
 v4:=zeroValue4
 t21:=underlying21
 a21:=isAgg21
 z21:=sizeOf21
 v21:=zeroValue21}
theorem Tryz.utf8_ValidRune (r:Int)(w:World):
 Calls prog 341 #[.int .i32 r] w λ e w'=>e= .returned (.bool (Lib.validRune r))/\w'=w:=Any.utf8_ValidRune Tryz.yC r w
def Tryz.yD:Go.Shelf.Ren:=⟨λ |137=>198|217=>232|266=>254|n=>n,λ |9=>9|5=>5|3=>3|n=>n,λ |n=>n⟩
theorem Tryz.yE:Go.Proofs.Lays.n137 prog Tryz.yD:= {
 mixed:=by kernel_rfl
 f137:=func198.trans (congrArg some Ai)
 f217:=func232.trans (congrArg some Ai)
 f266:=func254.trans (congrArg some Ai)
 t3:=underlying3
 a3:=isAgg3
 z3:=sizeOf3
 v3:=zeroValue3
 t5:=underlying5
 a5:=isAgg5
 z5:=sizeOf5
 v5:=zeroValue5
 t9:=underlying9
 a9:=isAgg9
 z9:=sizeOf9
 v9:=zeroValue9}
open Go.RowKit in
theorem Tryz.strings_IndexByte (s:ByteArray)(c:Int)(w:World):
 Calls prog 198 #[.string s,.int .u8 c] w λ e w'=>e= .returned (.int .i64 (Lib.indexByte s.data.toList c.toNat.toUInt8))/\w'=w:=Any.strings_IndexByte Tryz.yE s c w
def Tryz.yF:Go.Shelf.Ren:=⟨λ |171=>200|243=>235|246=>253|283=>276|284=>277|285=>278|286=>279|129=>220|317=>296|318=>297|319=>298|320=>299|337=>323|338=>324|n=>n,λ |3=>3|9=>9|2=>2|4=>4|171=>291|0=>0|53=>239|37=>216|5=>5|173=>293|212=>303|51=>237|20=>20|213=>304|46=>209|232=>341|233=>342|n=>n,λ |17=>5|18=>6|19=>7|n=>n⟩
theorem Tryz.yG:Go.Proofs.LaysM.n171 prog Tryz.yF:= {
 mixed:=by kernel_rfl
 f129:=func220.trans (congrArg some Ai)
 f171:=func200.trans (congrArg some Ai)
 f243:=func235.trans (congrArg some Ai)
 f246:=func253.trans (congrArg some Ai)
 f283:=func276.trans (congrArg some Ai)
 f284:=func277.trans (congrArg some Ai)
 f285:=func278.trans (congrArg some Ai)
 f286:=func279.trans (congrArg some Ai)
 f317:=func296.trans (congrArg some Ai)
 f318:=func297.trans (congrArg some Ai)
 f319:=func298.trans (congrArg some Ai)
 f320:=func299.trans (congrArg some Ai)
 f337:=func323.trans (congrArg some Ai)
 f338:=func324.trans (congrArg some Ai)
 t0:=underlying0
 a0:=isAgg0
 z0:=sizeOf0
 v0:=zeroValue0
 t2:=underlying2
 a2:=isAgg2
 z2:=sizeOf2
 v2:=zeroValue2
 t3:=underlying3
 a3:=isAgg3
 z3:=sizeOf3
 v3:=zeroValue3
 t4:=underlying4
 a4:=isAgg4
 z4:=sizeOf4
 v4:=zeroValue4
 t5:=underlying5
 a5:=isAgg5
 z5:=sizeOf5
 v5:=zeroValue5
 t9:=underlying9
 a9:=isAgg9
 z9:=sizeOf9
 v9:=zeroValue9
 t20:=underlying20
 a20:=isAgg20
 z20:=sizeOf20
 v20:=zeroValue20
 t37:=underlying216
 a37:=isAgg216
 z37:=sizeOf216
 v37:=zeroValue216
 t46:=underlying209
 a46:=isAgg209
 z46:=sizeOf209
 v46:=zeroValue209
 t51:=underlying237
 a51:=isAgg237
 z51:=sizeOf237
 v51:=zeroValue237
 t53:=underlying239
 a53:=isAgg239
 z53:=sizeOf239
 v53:=zeroValue239
 t171:=underlying291
 a171:=isAgg291
 z171:=sizeOf291
 v171:=zeroValue291
 t173:=underlying293
 a173:=isAgg293
 z173:=sizeOf293
 v173:=zeroValue293
 t212:=underlying303
 a212:=isAgg303
 z212:=sizeOf303
 v212:=zeroValue303
 t213:=underlying304
 a213:=isAgg304
 z213:=sizeOf304
 t232:=underlying341
 a232:=isAgg341
 z232:=sizeOf341
 v232:=zeroValue341
 t233:=underlying342
 a233:=isAgg342
 z233:=sizeOf342
 v233:=zeroValue342
 g17:=by kernel_rfl
 g18:=by kernel_rfl
 g19:=by kernel_rfl
 i0:=by kernel_rfl
 i2:=by kernel_rfl
 i3:=by kernel_rfl
 i4:=by kernel_rfl
 i5:=by kernel_rfl
 i9:=by kernel_rfl
 i20:=by kernel_rfl
 i37:=by kernel_rfl
 i46:=by kernel_rfl
 i51:=by kernel_rfl
 i53:=by kernel_rfl
 i171:=by kernel_rfl
 i173:=by kernel_rfl
 i212:=by kernel_rfl
 i232:=by kernel_rfl
 i233:=by kernel_rfl
 m17:=by kernel_rfl
 m18:=by kernel_rfl
 m19:=by kernel_rfl}
open Go.RowKit Go.Sort Go.Lib in
theorem Tryz.strconv_Itoa (n:Int)(h0: -9223372036854775808<=n)(h1:n<=9223372036854775807)(w:World)(b:Lib.TabIs prog w "internal/strconv.uint64pow10" .u64 Lib.pow10Tab):
 Calls prog 200 #[.int .i64 n] w λ e w'=>e= .returned (.string ⟨(Lib.itoa n).toArray⟩)/\ ∃k os,w'=grow (w.drewN k) os:=Any.strconv_Itoa Tryz.yG n h0 h1 w b
def Tryz.yH:Go.Shelf.Ren:=⟨λ |245=>234|279=>256|280=>257|281=>258|282=>259|316=>281|171=>200|205=>282|243=>235|246=>253|283=>276|284=>277|285=>278|286=>279|129=>220|317=>296|318=>297|319=>298|320=>299|337=>323|338=>324|n=>n,λ |9=>9|3=>3|75=>223|167=>274|4=>4|168=>277|210=>296|37=>216|0=>0|127=>269|145=>309|143=>307|2=>2|171=>291|53=>239|5=>5|173=>293|212=>303|51=>237|20=>20|213=>304|46=>209|232=>341|233=>342|80=>247|n=>n,λ |15=>3|16=>4|17=>5|18=>6|19=>7|n=>n⟩
theorem Tryz.yI:Go.Proofs.LaysC.n245 prog Tryz.yH:= {
 mixed:=by kernel_rfl
 f129:=func220.trans (congrArg some Ai)
 f171:=func200.trans (congrArg some Ai)
 f205:=func282.trans (congrArg some Ai)
 f243:=func235.trans (congrArg some Ai)
 f245:=func234.trans (congrArg some Ai)
 f246:=func253.trans (congrArg some Ai)
 f279:=func256.trans (congrArg some Ai)
 f280:=func257.trans (congrArg some Ai)
 f281:=func258.trans (congrArg some Ai)
 f282:=func259.trans (congrArg some Ai)
 f283:=func276.trans (congrArg some Ai)
 f284:=func277.trans (congrArg some Ai)
 f285:=func278.trans (congrArg some Ai)
 f286:=func279.trans (congrArg some Ai)
 f316:=func281.trans (congrArg some Ai)
 f317:=func296.trans (congrArg some Ai)
 f318:=func297.trans (congrArg some Ai)
 f319:=func298.trans (congrArg some Ai)
 f320:=func299.trans (congrArg some Ai)
 f337:=func323.trans (congrArg some Ai)
 f338:=func324.trans (congrArg some Ai)
 t0:=underlying0
 a0:=isAgg0
 z0:=sizeOf0
 v0:=zeroValue0
 t2:=underlying2
 a2:=isAgg2
 z2:=sizeOf2
 v2:=zeroValue2
 t3:=underlying3
 a3:=isAgg3
 z3:=sizeOf3
 v3:=zeroValue3
 t4:=underlying4
 a4:=isAgg4
 z4:=sizeOf4
 v4:=zeroValue4
 t5:=underlying5
 a5:=isAgg5
 z5:=sizeOf5
 v5:=zeroValue5
 t9:=underlying9
 a9:=isAgg9
 z9:=sizeOf9
 v9:=zeroValue9
 t20:=underlying20
 a20:=isAgg20
 z20:=sizeOf20
 v20:=zeroValue20
 t37:=underlying216
 a37:=isAgg216
 z37:=sizeOf216
 v37:=zeroValue216
 t46:=underlying209
 a46:=isAgg209
 z46:=sizeOf209
 v46:=zeroValue209
 t51:=underlying237
 a51:=isAgg237
 z51:=sizeOf237
 v51:=zeroValue237
 t53:=underlying239
 a53:=isAgg239
 z53:=sizeOf239
 v53:=zeroValue239
 t75:=underlying223
 a75:=isAgg223
 z75:=sizeOf223
 v75:=zeroValue223
 t127:=underlying269
 a127:=isAgg269
 z127:=sizeOf269
 v127:=zeroValue269
 t143:=underlying307
 a143:=isAgg307
 z143:=sizeOf307
 v143:=zeroValue307
 t145:=underlying309
 a145:=isAgg309
 z145:=sizeOf309
 v145:=zeroValue309
 t167:=underlying274
 a167:=isAgg274
 z167:=sizeOf274
 v167:=zeroValue274
 t168:=underlying277
 a168:=isAgg277
 z168:=sizeOf277
 v168:=zeroValue277
 t171:=underlying291
 a171:=isAgg291
 z171:=sizeOf291
 v171:=zeroValue291
 t173:=underlying293
 a173:=isAgg293
 z173:=sizeOf293
 v173:=zeroValue293
 t210:=underlying296
 a210:=isAgg296
 z210:=sizeOf296
 v210:=zeroValue296
 t212:=underlying303
 a212:=isAgg303
 z212:=sizeOf303
 v212:=zeroValue303
 t213:=underlying304
 a213:=isAgg304
 z213:=sizeOf304
 t232:=underlying341
 a232:=isAgg341
 z232:=sizeOf341
 v232:=zeroValue341
 t233:=underlying342
 a233:=isAgg342
 z233:=sizeOf342
 v233:=zeroValue342
 g15:=by kernel_rfl
 g16:=by kernel_rfl
 g17:=by kernel_rfl
 g18:=by kernel_rfl
 g19:=by kernel_rfl
 t80:=underlying247
 a80:=isAgg247
 z80:=sizeOf247
 v80:=zeroValue247
 i0:=by kernel_rfl
 i2:=by kernel_rfl
 i3:=by kernel_rfl
 i4:=by kernel_rfl
 i5:=by kernel_rfl
 i9:=by kernel_rfl
 i20:=by kernel_rfl
 i37:=by kernel_rfl
 i46:=by kernel_rfl
 i51:=by kernel_rfl
 i53:=by kernel_rfl
 i75:=by kernel_rfl
 i80:=by kernel_rfl
 i127:=by kernel_rfl
 i143:=by kernel_rfl
 i145:=by kernel_rfl
 i167:=by kernel_rfl
 i168:=by kernel_rfl
 i171:=by kernel_rfl
 i173:=by kernel_rfl
 i210:=by kernel_rfl
 i212:=by kernel_rfl
 i232:=by kernel_rfl
 i233:=by kernel_rfl
 m15:=by kernel_rfl
 m16:=by kernel_rfl
 m17:=by kernel_rfl
 m18:=by kernel_rfl
 m19:=by kernel_rfl
 c0:=by kernel_rfl
 c2:=by kernel_rfl
 c3:=by kernel_rfl
 c4:=by kernel_rfl
 c5:=by kernel_rfl
 c9:=by kernel_rfl
 c20:=by kernel_rfl
 c37:=by kernel_rfl
 c46:=by kernel_rfl
 c51:=by kernel_rfl
 c53:=by kernel_rfl
 c75:=by kernel_rfl
 c80:=by kernel_rfl
 c127:=by kernel_rfl
 c143:=by kernel_rfl
 c145:=by kernel_rfl
 c167:=by kernel_rfl
 c168:=by kernel_rfl
 c171:=by kernel_rfl
 c173:=by kernel_rfl
 c210:=by kernel_rfl
 c212:=by kernel_rfl
 c213:=by kernel_rfl
 c232:=by kernel_rfl
 c233:=by kernel_rfl}
open Go.RowKit in
theorem Tryz.strconv_toError_syntax (fn s:ByteArray)(base bits:Int)(ev:Value)(w:World)(b:s.size<=281474976710656)(i:w.cell? ⟨3,0,none⟩=some ev)(h:ev= .nilIface\/ ∃te j,ev= .iface te j):
 Calls prog 234 #[.string fn,.string s,.int .i64 base,.int .i64 bits,.iface 274 (.int .i64 2)] w λ e w'=> ∃N,e= .returned (.iface 277 (.pointer (some ⟨N,0,none⟩)))/\w.heap.size<=N/\w'.heap[N]? =some (.cells #[.string fn,.string s,ev] 296 (0,0))/\Below w.heap.size w w':=Any.strconv_toError_syntax Tryz.yI fn s base bits ev w b i h
def Tryz.yJ:Go.Shelf.Ren:=⟨λ |172=>199|244=>233|245=>234|247=>255|279=>256|280=>257|281=>258|282=>259|287=>280|316=>281|171=>200|205=>282|321=>300|322=>301|243=>235|246=>253|283=>276|284=>277|285=>278|286=>279|129=>220|317=>296|318=>297|319=>298|320=>299|337=>323|338=>324|n=>n,λ |9=>9|3=>3|75=>223|76=>224|4=>4|5=>5|167=>274|37=>216|0=>0|85=>275|2=>2|168=>277|53=>239|175=>287|46=>209|210=>296|127=>269|145=>309|143=>307|21=>21|171=>291|173=>293|212=>303|51=>237|20=>20|213=>304|232=>341|233=>342|80=>247|n=>n,λ |15=>3|16=>4|17=>5|18=>6|19=>7|n=>n⟩
theorem Tryz.jX:Go.Proofs.LaysC.n172 prog Tryz.yJ:= {
 mixed:=by kernel_rfl
 f129:=func220.trans (congrArg some Ai)
 f171:=func200.trans (congrArg some Ai)
 f172:=func199.trans (congrArg some Ai)
 f205:=func282.trans (congrArg some Ai)
 f243:=func235.trans (congrArg some Ai)
 f244:=func233.trans (congrArg some Ai)
 f245:=func234.trans (congrArg some Ai)
 f246:=func253.trans (congrArg some Ai)
 f247:=func255.trans (congrArg some Ai)
 f279:=func256.trans (congrArg some Ai)
 f280:=func257.trans (congrArg some Ai)
 f281:=func258.trans (congrArg some Ai)
 f282:=func259.trans (congrArg some Ai)
 f283:=func276.trans (congrArg some Ai)
 f284:=func277.trans (congrArg some Ai)
 f285:=func278.trans (congrArg some Ai)
 f286:=func279.trans (congrArg some Ai)
 f287:=func280.trans (congrArg some Ai)
 f316:=func281.trans (congrArg some Ai)
 f317:=func296.trans (congrArg some Ai)
 f318:=func297.trans (congrArg some Ai)
 f319:=func298.trans (congrArg some Ai)
 f320:=func299.trans (congrArg some Ai)
 f321:=func300.trans (congrArg some Ai)
 f322:=func301.trans (congrArg some Ai)
 f337:=func323.trans (congrArg some Ai)
 f338:=func324.trans (congrArg some Ai)
 t0:=underlying0
 a0:=isAgg0
 z0:=sizeOf0
 v0:=zeroValue0
 t2:=underlying2
 a2:=isAgg2
 z2:=sizeOf2
 v2:=zeroValue2
 t3:=underlying3
 a3:=isAgg3
 z3:=sizeOf3
 v3:=zeroValue3
 t4:=underlying4
 a4:=isAgg4
 z4:=sizeOf4
 v4:=zeroValue4
 t5:=underlying5
 a5:=isAgg5
 z5:=sizeOf5
 v5:=zeroValue5
 t9:=underlying9
 a9:=isAgg9
 z9:=sizeOf9
 v9:=zeroValue9
 t20:=underlying20
 a20:=isAgg20
 z20:=sizeOf20
 v20:=zeroValue20
 t21:=underlying21
 a21:=isAgg21
 z21:=sizeOf21
 v21:=zeroValue21
 t37:=underlying216
 a37:=isAgg216
 z37:=sizeOf216
 v37:=zeroValue216
 t46:=underlying209
 a46:=isAgg209
 z46:=sizeOf209
 v46:=zeroValue209
 t51:=underlying237
 a51:=isAgg237
 z51:=sizeOf237
 v51:=zeroValue237
 t53:=underlying239
 a53:=isAgg239
 z53:=sizeOf239
 v53:=zeroValue239
 t75:=underlying223
 a75:=isAgg223
 z75:=sizeOf223
 v75:=zeroValue223
 t76:=underlying224
 a76:=isAgg224
 z76:=sizeOf224
 v76:=zeroValue224
 t85:=underlying275
 a85:=isAgg275
 z85:=sizeOf275
 v85:=zeroValue275
 t127:=underlying269
 a127:=isAgg269
 z127:=sizeOf269
 v127:=zeroValue269
 t143:=underlying307
 a143:=isAgg307
 z143:=sizeOf307
 v143:=zeroValue307
 t145:=underlying309
 a145:=isAgg309
 z145:=sizeOf309
 v145:=zeroValue309
 t167:=underlying274
 a167:=isAgg274
 z167:=sizeOf274
 v167:=zeroValue274
 t168:=underlying277
 a168:=isAgg277
 z168:=sizeOf277
 v168:=zeroValue277
 t171:=underlying291
 a171:=isAgg291
 z171:=sizeOf291
 v171:=zeroValue291
 t173:=underlying293
 a173:=isAgg293
 z173:=sizeOf293
 v173:=zeroValue293
 t175:=underlying287
 a175:=isAgg287
 z175:=sizeOf287
 v175:=zeroValue287
 t210:=underlying296
 a210:=isAgg296
 z210:=sizeOf296
 v210:=zeroValue296
 t212:=underlying303
 a212:=isAgg303
 z212:=sizeOf303
 v212:=zeroValue303
 t213:=underlying304
 a213:=isAgg304
 z213:=sizeOf304
 t232:=underlying341
 a232:=isAgg341
 z232:=sizeOf341
 v232:=zeroValue341
 t233:=underlying342
 a233:=isAgg342
 z233:=sizeOf342
 v233:=zeroValue342
 g15:=by kernel_rfl
 g16:=by kernel_rfl
 g17:=by kernel_rfl
 g18:=by kernel_rfl
 g19:=by kernel_rfl
 t80:=underlying247
 a80:=isAgg247
 z80:=sizeOf247
 v80:=zeroValue247
 i0:=by kernel_rfl
 i2:=by kernel_rfl
 i3:=by kernel_rfl
 i4:=by kernel_rfl
 i5:=by kernel_rfl
 i9:=by kernel_rfl
 i20:=by kernel_rfl
 i21:=by kernel_rfl
 i37:=by kernel_rfl
 i46:=by kernel_rfl
 i51:=by kernel_rfl
 i53:=by kernel_rfl
 i75:=by kernel_rfl
 i76:=by kernel_rfl
 i80:=by kernel_rfl
 i85:=by kernel_rfl
 i127:=by kernel_rfl
 i143:=by kernel_rfl
 i145:=by kernel_rfl
 i167:=by kernel_rfl
 i168:=by kernel_rfl
 i171:=by kernel_rfl
 i173:=by kernel_rfl
 i175:=by kernel_rfl
 i210:=by kernel_rfl
 i212:=by kernel_rfl
 i232:=by kernel_rfl
 i233:=by kernel_rfl
 m15:=by kernel_rfl
 m16:=by kernel_rfl
 m17:=by kernel_rfl
 m18:=by kernel_rfl
 m19:=by kernel_rfl
 c0:=by kernel_rfl
 c2:=by kernel_rfl
 c3:=by kernel_rfl
 c4:=by kernel_rfl
 c5:=by kernel_rfl
 c9:=by kernel_rfl
 c20:=by kernel_rfl
 c21:=by kernel_rfl
 c37:=by kernel_rfl
 c46:=by kernel_rfl
 c51:=by kernel_rfl
 c53:=by kernel_rfl
 c75:=by kernel_rfl
 c76:=by kernel_rfl
 c80:=by kernel_rfl
 c85:=by kernel_rfl
 c127:=by kernel_rfl
 c143:=by kernel_rfl
 c145:=by kernel_rfl
 c167:=by kernel_rfl
 c168:=by kernel_rfl
 c171:=by kernel_rfl
 c173:=by kernel_rfl
 c175:=by kernel_rfl
 c210:=by kernel_rfl
 c212:=by kernel_rfl
 c213:=by kernel_rfl
 c232:=by kernel_rfl
 c233:=by kernel_rfl}
open Go.RowKit in
theorem Tryz.strconv_Atoi_ok (s:ByteArray)(b:s.size<=9223372036854775806)(v:Int)(h:Lib.atoiAll s.data.toList= .ok v)(w:World):
 Calls prog 199 #[.string s] w λ e w'=>e= .returned (.tuple #[.int .i64 v,.nilIface])/\(w'=w\/ ∃t,w'=Lib.bytesWorld w 5 t):=Any.strconv_Atoi_ok Tryz.jX s b v h w
def Tryz.yK:Go.Shelf.Ren:=⟨λ |237=>325|272=>345|238=>344|315=>354|273=>353|197=>224|271=>347|260=>248|120=>355|n=>n,λ |9=>9|40=>329|4=>4|3=>3|105=>245|21=>21|0=>0|5=>5|119=>283|46=>209|139=>286|138=>285|n=>n,λ |3=>0|4=>1|n=>n⟩
theorem Tryz.yL:Go.Proofs.Lays.n237 prog Tryz.yK:= {
 mixed:=by kernel_rfl
 f120:=func355.trans (congrArg some Ai)
 f197:=func224.trans (congrArg some Ai)
 f237:=func325.trans (congrArg some Ai)
 f238:=func344.trans (congrArg some Ai)
 f260:=func248.trans (congrArg some Ai)
 f271:=func347.trans (congrArg some Ai)
 f272:=func345.trans (congrArg some Ai)
 f273:=func353.trans (congrArg some Ai)
 f315:=func354.trans (congrArg some Ai)
 t0:=underlying0
 a0:=isAgg0
 z0:=sizeOf0
 v0:=zeroValue0
 t3:=underlying3
 a3:=isAgg3
 z3:=sizeOf3
 v3:=zeroValue3
 t4:=underlying4
 a4:=isAgg4
 z4:=sizeOf4
 v4:=zeroValue4
 t5:=underlying5
 a5:=isAgg5
 z5:=sizeOf5
 v5:=zeroValue5
 t9:=underlying9
 a9:=isAgg9
 z9:=sizeOf9
 v9:=zeroValue9
 t21:=underlying21
 a21:=isAgg21
 z21:=sizeOf21
 v21:=zeroValue21
 t40:=underlying329
 a40:=isAgg329
 z40:=sizeOf329
 v40:=zeroValue329
 t46:=underlying209
 a46:=isAgg209
 z46:=sizeOf209
 v46:=zeroValue209
 t105:=underlying245
 a105:=isAgg245
 z105:=sizeOf245
 v105:=zeroValue245
 t119:=underlying283
 a119:=isAgg283
 z119:=sizeOf283
 t138:=underlying285
 a138:=isAgg285
 z138:=sizeOf285
 v138:=zeroValue285
 t139:=underlying286
 a139:=isAgg286
 z139:=sizeOf286
 v139:=zeroValue286
 g3:=by kernel_rfl
 g4:=by kernel_rfl}
open Go.RowKit Go.Lib in
theorem Tryz.strings_TrimFunc_runes (g:Nat)(lb:Array Value)(b: ∀args w,(callFunc g args).run prog w= .ok (.enter g args) w)(p:Nat->Bool)(s:ByteArray)(w:World)(h:s.size<=9223372036854775807)(hT:Lib.Utf8Tabs 0 1 w)(hp:PredAtRunes prog g lb p w):
 Calls prog 325 #[.string s,.func (.func g) #[] lb] w λ e w'=>e= .returned (.string (Lib.trimF p s))/\Below w.heap.size w w':=Any.strings_TrimFunc_runes Tryz.yL g lb b p s w h hT hp
def Tryz.yM:Go.Shelf.Ren:=⟨λ |99=>171|206=>197|n=>n,λ |9=>9|4=>4|3=>3|n=>n,λ |n=>n⟩
theorem Tryz.yN:Go.Proofs.Lays.n99 prog Tryz.yM:= {
 mixed:=by kernel_rfl
 f99:=func171.trans (congrArg some Ai)
 f206:=func197.trans (congrArg some Ai)
 t3:=underlying3
 a3:=isAgg3
 z3:=sizeOf3
 v3:=zeroValue3
 t4:=underlying4
 a4:=isAgg4
 z4:=sizeOf4
 v4:=zeroValue4
 t9:=underlying9
 a9:=isAgg9
 z9:=sizeOf9
 v9:=zeroValue9}
open Go.RowKit Go.Lib in
theorem Tryz.strings_HasPrefix (s p:ByteArray)(w:World):
 Calls prog 171 #[.string s,.string p] w λ e w'=>e= .returned (.bool (Lib.hasPrefix s.data.toList p.data.toList))/\w'=w:=Any.strings_HasPrefix Tryz.yN s p w
def Tryz.yO:Go.Shelf.Ren:=⟨λ |197=>224|260=>248|n=>n,λ |9=>9|21=>21|3=>3|4=>4|5=>5|105=>245|119=>283|0=>0|46=>209|139=>286|138=>285|n=>n,λ |3=>0|4=>1|n=>n⟩
theorem Tryz.yP:Go.Proofs.Lays.n197 prog Tryz.yO:= {
 mixed:=by kernel_rfl
 f197:=func224.trans (congrArg some Ai)
 f260:=func248.trans (congrArg some Ai)
 t0:=underlying0
 a0:=isAgg0
 z0:=sizeOf0
 v0:=zeroValue0
 t3:=underlying3
 a3:=isAgg3
 z3:=sizeOf3
 v3:=zeroValue3
 t4:=underlying4
 a4:=isAgg4
 z4:=sizeOf4
 v4:=zeroValue4
 t5:=underlying5
 a5:=isAgg5
 z5:=sizeOf5
 v5:=zeroValue5
 t9:=underlying9
 a9:=isAgg9
 z9:=sizeOf9
 v9:=zeroValue9
 t21:=underlying21
 a21:=isAgg21
 z21:=sizeOf21
 v21:=zeroValue21
 t46:=underlying209
 a46:=isAgg209
 z46:=sizeOf209
 v46:=zeroValue209
 t105:=underlying245
 a105:=isAgg245
 z105:=sizeOf245
 v105:=zeroValue245
 t119:=underlying283
 a119:=isAgg283
 z119:=sizeOf283
 t138:=underlying285
 a138:=isAgg285
 z138:=sizeOf285
 v138:=zeroValue285
 t139:=underlying286
 a139:=isAgg286
 z139:=sizeOf286
 v139:=zeroValue286
 g3:=by kernel_rfl
 g4:=by kernel_rfl}
def Tryz.jY:Go.Shelf.Ren:=⟨λ |105=>291|212=>306|99=>171|165=>307|166=>230|170=>308|169=>225|263=>333|264=>334|206=>197|240=>251|241=>335|276=>274|277=>348|n=>n,λ |9=>9|3=>3|4=>4|20=>20|0=>0|46=>209|109=>311|5=>5|72=>244|76=>224|51=>237|146=>333|53=>239|148=>335|70=>242|37=>216|75=>223|127=>269|164=>289|80=>247|n=>n,λ |n=>n⟩
theorem Tryz.aQ:Go.Proofs.Lays.n105 prog Tryz.jY:= {
 mixed:=by kernel_rfl
 f99:=func171.trans (congrArg some Ai)
 f105:=func291.trans (congrArg some Ai)
 f165:=func307.trans (congrArg some Ai)
 f166:=func230.trans (congrArg some Ai)
 f169:=func225.trans (congrArg some Ai)
 f170:=func308.trans (congrArg some Ai)
 f206:=func197.trans (congrArg some Ai)
 f212:=func306.trans (congrArg some Ai)
 f240:=func251.trans (congrArg some Ai)
 f241:=func335.trans (congrArg some Ai)
 f263:=func333.trans (congrArg some Ai)
 f264:=func334.trans (congrArg some Ai)
 f276:=func274.trans (congrArg some Ai)
 f277:=func348.trans (congrArg some Ai)
 t0:=underlying0
 a0:=isAgg0
 z0:=sizeOf0
 v0:=zeroValue0
 t3:=underlying3
 a3:=isAgg3
 z3:=sizeOf3
 v3:=zeroValue3
 t4:=underlying4
 a4:=isAgg4
 z4:=sizeOf4
 v4:=zeroValue4
 t5:=underlying5
 a5:=isAgg5
 z5:=sizeOf5
 v5:=zeroValue5
 t9:=underlying9
 a9:=isAgg9
 z9:=sizeOf9
 v9:=zeroValue9
 t20:=underlying20
 a20:=isAgg20
 z20:=sizeOf20
 v20:=zeroValue20
 t37:=underlying216
 a37:=isAgg216
 z37:=sizeOf216
 v37:=zeroValue216
 t46:=underlying209
 a46:=isAgg209
 z46:=sizeOf209
 v46:=zeroValue209
 t51:=underlying237
 a51:=isAgg237
 z51:=sizeOf237
 v51:=zeroValue237
 t53:=underlying239
 a53:=isAgg239
 z53:=sizeOf239
 v53:=zeroValue239
 t70:=underlying242
 a70:=isAgg242
 z70:=sizeOf242
 v70:=zeroValue242
 t72:=underlying244
 a72:=isAgg244
 z72:=sizeOf244
 v72:=zeroValue244
 t75:=underlying223
 a75:=isAgg223
 z75:=sizeOf223
 v75:=zeroValue223
 t76:=underlying224
 a76:=isAgg224
 z76:=sizeOf224
 v76:=zeroValue224
 t109:=underlying311
 a109:=isAgg311
 z109:=sizeOf311
 v109:=zeroValue311
 t127:=underlying269
 a127:=isAgg269
 z127:=sizeOf269
 v127:=zeroValue269
 t146:=underlying333
 a146:=isAgg333
 z146:=sizeOf333
 v146:=zeroValue333
 t148:=underlying335
 a148:=isAgg335
 z148:=sizeOf335
 v148:=zeroValue335
 t164:=underlying289
 a164:=isAgg289
 z164:=sizeOf289
 v164:=zeroValue289}
theorem Tryz.yQ:Builder.Extra prog Tryz.jY:= {
 sizeBuilder:=by kernel_rfl
 liesBuilder:=by kernel_rfl
 t5:=underlying5
 a5:=isAgg5
 z5:=sizeOf5
 v5:=zeroValue5
 infoByte:=by kernel_rfl
 cellsByte:=by kernel_rfl
 sizeByte:=by kernel_rfl
 neB5:=by decide}
open Go.RowKit Go.Lib in
theorem Tryz.strings_Repeat_main (s:ByteArray)(c:Nat)(w:World)(b:2<=c)(h:c<=9223372036854775807)(hlen:s.size*c<=140737488355328)(h0:0<s.size):
 Calls prog 291 #[.string s,.int .i64 c] w λ e w'=>e= .returned (.string ⟨(Lib.repeatL s.data.toList c).toArray⟩)/\Below w.heap.size w w':=Any.strings_Repeat_main Tryz.aQ Tryz.yQ s c w b h hlen h0
open Go.RowKit Go.Lib in
theorem Tryz.strings_Repeat_zero (s:ByteArray)(w:World):
 Calls prog 291 #[.string s,.int .i64 0] w λ e w'=>e= .returned (.string ⟨#[]⟩)/\w'=w:=Any.strings_Repeat_zero Tryz.aQ s w
open Go.RowKit Go.Lib in
theorem Tryz.strings_Repeat_one (s:ByteArray)(w:World):
 Calls prog 291 #[.string s,.int .i64 1] w λ e w'=>e= .returned (.string s)/\w'=w:=Any.strings_Repeat_one Tryz.aQ s w
def Tryz.jZ:Go.Shelf.Ren:=⟨λ |260=>248|n=>n,λ |9=>9|21=>21|3=>3|4=>4|5=>5|119=>283|0=>0|46=>209|139=>286|138=>285|n=>n,λ |3=>0|4=>1|n=>n⟩
theorem Tryz.yR:Go.Proofs.Lays.n260 prog Tryz.jZ:= {
 mixed:=by kernel_rfl
 f260:=func248.trans (congrArg some Ai)
 t0:=underlying0
 a0:=isAgg0
 z0:=sizeOf0
 v0:=zeroValue0
 t3:=underlying3
 a3:=isAgg3
 z3:=sizeOf3
 v3:=zeroValue3
 t4:=underlying4
 a4:=isAgg4
 z4:=sizeOf4
 v4:=zeroValue4
 t5:=underlying5
 a5:=isAgg5
 z5:=sizeOf5
 v5:=zeroValue5
 t9:=underlying9
 a9:=isAgg9
 z9:=sizeOf9
 v9:=zeroValue9
 t21:=underlying21
 a21:=isAgg21
 z21:=sizeOf21
 v21:=zeroValue21
 t46:=underlying209
 a46:=isAgg209
 z46:=sizeOf209
 v46:=zeroValue209
 t119:=underlying283
 a119:=isAgg283
 z119:=sizeOf283
 t138:=underlying285
 a138:=isAgg285
 z138:=sizeOf285
 v138:=zeroValue285
 t139:=underlying286
 a139:=isAgg286
 z139:=sizeOf286
 v139:=zeroValue286
 g3:=by kernel_rfl
 g4:=by kernel_rfl}
open Go.RowKit Go.Lib in
theorem Tryz.utf8_DecodeRuneInString (s:ByteArray)(w:World)(hT:Lib.Utf8Tabs 0 1 w):
 Calls prog 224 #[.string s] w λ e w'=>e= .returned (.tuple #[.int .i32 (Lib.decodeGo s).1,.int .i64 (Lib.decodeGo s).2])/\Below w.heap.size w w':=Any.utf8_DecodeRuneInString Tryz.yP s w hT
end Go.Proofs
namespace Go.Eng
abbrev A0:=List UInt8
abbrev str(l:A0):Value:=.string ⟨⟨l⟩⟩
abbrev i64(n:Int):Value:=.int .i64 n
def len{α:Type}(l:List α):Int:=l.length
theorem GM{α:Type}{l:List α}(h: ¬l=[]):0<len l:=by
 cases l with
 |nil=>exact absurd U h
 |cons x l=>unfold len;simp only[List.length_cons];omega
theorem A6{α:Type}(l:List α):0<=len l:=Int.natCast_nonneg _
def A4(l:A0)(i:Int):Int:=((l.getD i.toNat 0).toNat:Int)
theorem LZ(l:A0)(i:Int):0<=A4 l i/\A4 l i<=255:=by
 unfold A4;have:=(l.getD i.toNat 0).toNat_lt;omega
def sub{α:Type}(l:List α)(a b:Int):List α:=(l.drop a.toNat).take (b.toNat-a.toNat)
def A5{α:Type}(l:List α)(a:Int):List α:=l.drop a.toNat
abbrev Env:=List (Nat×Bool×Value)
def look:Env->Nat->Option (Bool×Value)
 |[],_=>none
 |(t,g,v)::L,k=>match Nat.beq t k with
  |true=>some (g,v)
  |false=>look L k
theorem N3(t:Nat)(g:Bool)(v:Value)(L:Env):look ((t,g,v)::L) t=some (g,v):=by
 simp[look]
theorem O1{t k:Nat}(h:t≠k)(g:Bool)(v:Value)(L:Env):look ((t,g,v)::L) k=look L k:=by
 have:Nat.beq t k=false:=by cases hb:Nat.beq t k<;>simp_all [Nat.beq_eq]
 simp[look,this]
def GF:List Nat->Env->Env
 |[],_=>[]
 |k::ks,L=>match look L k with
  |some x=>(k,x)::GF ks L
  |none=>GF ks L
theorem aR: ∀(b:List Nat) (L:Env) (t:Nat) (g:Bool) (v:Value),look (GF b L) t=some (g,v)->look L t=some (g,v)
 |[],_,_,_,_,h=>by simp[GF,look]at h
 |k::b,L,t,g,v,h=>by
  unfold GF at h
  split at h
  ·rename_i x hx
   obtain⟨e,v'⟩:=x
   by_cases hk:k=t
   ·subst hk;rw[N3]at h;rw[hx,h]
   ·rw[O1 hk]at h;exact aR b L t g v h
  ·exact aR b L t g v h
def sv(g:Bool)(v:Value):Value:=if g=true then v else undef
structure AW (a:Act) (N:Nat) (L:Env):Prop where
 size:a.tmps.size=N
 E4:a.defers=[]
 val: ∀t g v,look L t=some (g,v)->a.tmps[t]? =some (sv g v)
theorem AW.put {a:Act}{N:Nat}{L:Env}(h:AW a N L){d:Nat}(hd:Nat.blt d N=true)(g:Bool)(v:Value):
  AW (a.put (some d) (sv g v)) N ((d,g,v)::L):=by
 have i:d<N:=by simpa[Nat.blt_eq]using hd
 refine⟨by simp[Act.put,h.size],by simp[Act.put,h.E4],λ t j v' b=>?_⟩
 by_cases e:d=t
 ·subst e;rw[N3]at b;simp at b;obtain⟨rfl,rfl⟩:=b
  simp[Act.put,h.size,i]
 ·rw[O1 e]at b
  have:=h.val t j v' b
  simp[Act.put,Array.getElem?_setIfInBounds_ne e,this]
theorem AW.GF {a:Act}{N:Nat}{L:Env}(h:AW a N L)(b:List Nat):AW a N (GF b L):=
 ⟨h.size,h.E4,λ t g v e=>h.val t g v (aR b L t g v e)⟩
theorem AW.get {a:Act}{N:Nat}{L:Env}(h:AW a N L){t:Nat}{v:Value}(hl:look L t=some (true,v)):a.tmps.getD t undef=v:=by
 have:=h.val t true v hl
 simp[sv]at this
 simp[Array.getD_eq_getD_getElem?,this]
def N4:Nat->List Value->Env
 |_,[]=>[]
 |k,v::vs=>(k,true,v)::N4 (k+1) vs
theorem k0: ∀(vs:List Value) (k t:Nat) (g:Bool) (v:Value),look (N4 k vs) t=some (g,v)->g=true/\k<=t/\vs[t-k]? =some v
 |[],_,_,_,_,h=>by simp[N4,look]at h
 |x::vs,k,t,g,v,h=>by
  unfold N4 at h
  by_cases e:k=t
  ·subst e;rw[N3]at h;simp at h;obtain⟨rfl,rfl⟩:=h;simp
  ·rw[O1 e]at h
   obtain⟨h1,i,b⟩:=k0 vs (k+1) t g v h
   refine⟨h1,Aa,?_⟩
   rw[show t-k=(t-(k+1))+1 from by omega,List.getElem?_cons_succ,b]
theorem AW.enter (vs:List Value)(N:Nat)(h:vs.length<=N):
  AW { tmps:=vs.toArray++Array.replicate (N-vs.toArray.size) undef,defers:=[]} N (N4 0 vs):=by
 refine⟨by simp;omega,rfl,λ t g v j=>?_⟩
 obtain⟨rfl,_,i⟩:=k0 vs 0 t g v j
 have b:t<vs.length:=by
  rcases Nat.lt_or_ge t vs.length with h|h
  ·exact h
  ·simp[h]at i
 have e:vs[t]? =some v:=by simpa using i
 rw[List.getElem?_eq_getElem b]at e
 simp[sv,b,Array.getElem?_append_left]
 exact Option.some.inj e
def AD(L:Env)(W:Bool)(x:Operand)(v:Value):Prop:= ∀a N,AW a N L->W=true->a.eval x=v
theorem AD.t {L:Env}{W:Bool}{k:Nat}{v:Value}(h:look L k=some (true,v)):AD L W (.tmp k) v:=
 λ _ _ b _=>b.get h
theorem AD.g {L:Env}{W g:Bool}{k:Nat}{v:Value}(h:look L k=some (g,v))(hg:W=true->g=true):AD L W (.tmp k) v:=
 λ _ _ b e=>b.get (by rw[h,hg e])
theorem AD.c {L:Env}{W:Bool}{v:Value}:AD L W (.const v) v:=λ _ _ _ _=>rfl
theorem AD.f {L:Env}{W:Bool}{k:FuncId}:AD L W (.func k) (.func (.func k) #[] #[]):=λ _ _ _ _=>rfl
theorem AD.gl {L:Env}{W:Bool}{k:Nat}:AD L W (.global k) (.pointer (some ⟨k,0,none⟩)):=λ _ _ _ _=>rfl
def DZ(ops:Array Oper)(L:Env)(gd:Option (Nat×Bool))(W:Bool):Prop:=
 ∀a N,AW a N L->(match gd with|none=>true|some (j,want)=>yielded ops a.tmps j==some want)=W
theorem DZ.none {ops:Array Oper}{L:Env}:DZ ops L none true:=λ _ _ _=>rfl
theorem W9{ops:Array Oper}{L:Env}{a:Act}{N j s:Nat}{g b:Bool}(e:(ops[j]?).bind (·.dst)=some s)(hl:look L s=some (g,.bool b))(h:AW a N L):
  yielded ops a.tmps j=if g=true then some b else none:=by
 have:=h.val s g _ hl
 unfold yielded
 rw[e]
 simp only[Option.bind_some,this]
 cases g<;>simp[sv,undef]
theorem DZ.pos {ops:Array Oper}{L:Env}{j s:Nat}{b:Bool}(e:(ops[j]?).bind (·.dst)=some s)(hl:look L s=some (true,.bool b)):DZ ops L (some (j,true)) b:=by
 intro a N h
 simp only[W9 e hl h]
 cases b<;>rfl
theorem DZ.neg {ops:Array Oper}{L:Env}{j s:Nat}{b:Bool}(e:(ops[j]?).bind (·.dst)=some s)(hl:look L s=some (true,.bool b)):DZ ops L (some (j,false)) (!b):=by
 intro a N h
 simp only[W9 e hl h]
 cases b<;>rfl
theorem DZ.k6 {ops:Array Oper}{L:Env}{j s:Nat}{g b:Bool}(e:(ops[j]?).bind (·.dst)=some s)(hl:look L s=some (g,.bool b)):DZ ops L (some (j,true)) (g&&b):=by
 intro a N h
 simp only[W9 e hl h]
 cases g<;>cases b<;>rfl
theorem DZ.k7 {ops:Array Oper}{L:Env}{j s:Nat}{g b:Bool}(e:(ops[j]?).bind (·.dst)=some s)(hl:look L s=some (g,.bool b)):DZ ops L (some (j,false)) (g&& !b):=by
 intro a N h
 simp only[W9 e hl h]
 cases g<;>cases b<;>rfl
theorem DZ.wanted {ops:Array Oper}{L:Env}{o:Oper}{W:Bool}(h:DZ ops L o.guard W){a:Act}{N:Nat}(b:AW a N L):Region.wanted o (yielded ops a.tmps)=W:=by
 have:=h a N b
 unfold Region.wanted
 split at this<;>rename_i he<;>simp only[he]<;>exact this
def PV(P:Program)(C:World->Prop)(L:Env)(W:Bool)(o:Oper)(v:Value):Prop:=
 ∀a N,AW a N L->W=true-> ∀w,C w->(execOp a.eval o).run P w= .ok (.value v) w
section pv
variable {P:Program} {C:World->Prop} {L:Env} {W:Bool} {d:Option Tmp} {ty:TypeId} {ps:String} {af:Array Edge} {gd:Option (Nat×Bool)}
theorem PV.move {x:Operand}{v:Value}(hx:AD L W x v):PV P C L W ⟨d,.move x,ty,ps,af,gd⟩ v:=by
 intro a N b e w _
 simp[execOp,hx a N b e,Sem.run,pure]
theorem PV.assign {x:Operand}{v:Value}(hx:AD L W x v):PV P C L W ⟨d,.assign x,ty,ps,af,gd⟩ v:=by
 intro a N b e w _
 simp[execOp,hx a N b e,Sem.run,pure]
theorem PV.and {c x:Operand}{p q:Bool}(h:AD L W c (.bool p))(hx:AD L (W&&p) x (.bool q)):PV P C L W ⟨d,.pick c x (.const (.bool false)),ty,ps,af,gd⟩ (.bool (p&&q)):=by
 intro a N b e w _
 simp only[execOp,h a N b e]
 cases p
 ·simp[asBool,Act.eval,Sem.run,pure,bind,Sem.bind]
 ·simp[asBool,hx a N b (by simp[e]),Sem.run,pure,bind,Sem.bind]
theorem PV.or {c x:Operand}{p q:Bool}(h:AD L W c (.bool p))(hx:AD L (W&& !p) x (.bool q)):PV P C L W ⟨d,.pick c (.const (.bool true)) x,ty,ps,af,gd⟩ (.bool (p||q)):=by
 intro a N b e w _
 simp only[execOp,h a N b e]
 cases p
 ·simp[asBool,hx a N b (by simp[e]),Sem.run,pure,bind,Sem.bind]
 ·simp[asBool,Act.eval,Sem.run,pure,bind,Sem.bind]
theorem PV.un {f:Value->Sem Value}{o:Oper}{x:Operand}{vx v:Value}(ho: ∀ρ:Operand->Value,execOp ρ o=(do pure (.value (<-f (ρ x))):Sem Next))(hx:AD L W x vx)
  (e:W=true-> ∀w,C w->(f vx).run P w= .ok v w):PV P C L W o v:=by
 intro a N h b w hw
 rw[ho,hx a N h b]
 simp only[Sem.run_bind,e b w hw,Result.andThen_ok,Sem.run_pure]
theorem PV.bin {op:BinOp}{t i:TypeId}{x y:Operand}{vx b v:Value}(hx:AD L W x vx)(j:AD L W y b)
  (k:W=true-> ∀w,C w->(do eqGuard op t x y vx b;binOp op t vx b:Sem Value).run P w= .ok v w):PV P C L W ⟨d,.binOp op t x y i,ty,ps,af,gd⟩ v:=by
 intro a N h e w hw
 have:=k e w hw
 simp only[execOp,hx a N h e,j a N h e]
 rw[Sem.run_bind,this]
 rfl
theorem PV.lss {t e:TypeId}{x y:Operand}{k:IntKind}{a b:Int}(hx:AD L W x (.int k a))(h:AD L W y (.int k b)):PV P C L W ⟨d,.binOp .lss t x y e,ty,ps,af,gd⟩ (.bool (decide (a<b))):=
 .bin hx h λ _ w _=>by simp[go_sem,binOp,Op.intCmp,Sem.run,pure,bind,Sem.bind]
theorem PV.leq {t e:TypeId}{x y:Operand}{k:IntKind}{a b:Int}(hx:AD L W x (.int k a))(h:AD L W y (.int k b)):PV P C L W ⟨d,.binOp .leq t x y e,ty,ps,af,gd⟩ (.bool (decide (a<=b))):=
 .bin hx h λ _ w _=>by simp[go_sem,binOp,Op.intCmp,Sem.run,pure,bind,Sem.bind]
theorem PV.gtr {t e:TypeId}{x y:Operand}{k:IntKind}{a b:Int}(hx:AD L W x (.int k a))(h:AD L W y (.int k b)):PV P C L W ⟨d,.binOp .gtr t x y e,ty,ps,af,gd⟩ (.bool (decide (b<a))):=
 .bin hx h λ _ w _=>by simp[go_sem,binOp,Op.intCmp,Sem.run,pure,bind,Sem.bind]
theorem PV.geq {t e:TypeId}{x y:Operand}{k:IntKind}{a b:Int}(hx:AD L W x (.int k a))(h:AD L W y (.int k b)):PV P C L W ⟨d,.binOp .geq t x y e,ty,ps,af,gd⟩ (.bool (decide (b<=a))):=
 .bin hx h λ _ w _=>by simp[go_sem,binOp,Op.intCmp,Sem.run,pure,bind,Sem.bind]
theorem PV.eql {t e:TypeId}{x y:Operand}{k:IntKind}{a b:Int}(hx:AD L W x (.int k a))(h:AD L W y (.int k b)):PV P C L W ⟨d,.binOp .eql t x y e,ty,ps,af,gd⟩ (.bool (a==b)):=
 .bin hx h λ _ w _=>by simp[go_sem,eqGuard,binOp,Op.intCmp,Sem.run,pure,bind,Sem.bind]
theorem PV.neq {t e:TypeId}{x y:Operand}{k:IntKind}{a b:Int}(hx:AD L W x (.int k a))(h:AD L W y (.int k b)):PV P C L W ⟨d,.binOp .neq t x y e,ty,ps,af,gd⟩ (.bool (a != b)):=
 .bin hx h λ _ w _=>by simp[go_sem,eqGuard,binOp,Op.intCmp,Sem.run,pure,bind,Sem.bind]
theorem PV.k8 {t e:TypeId}{x y:Operand}{k:IntKind}{a b r:Int}(hx:AD L W x (.int k a))(h:AD L W y (.int k b))(i:W=true->k.wrap (a+b)=r):PV P C L W ⟨d,.binOp .add t x y e,ty,ps,af,gd⟩ (.int k r):=
 .bin hx h λ j w _=>by simp[go_sem,binOp,Op.intArith,Sem.run,pure,bind,Sem.bind,i j]
theorem PV.k9 {t e:TypeId}{x y:Operand}{k:IntKind}{a b r:Int}(hx:AD L W x (.int k a))(h:AD L W y (.int k b))(i:W=true->k.wrap (a-b)=r):PV P C L W ⟨d,.binOp .sub t x y e,ty,ps,af,gd⟩ (.int k r):=
 .bin hx h λ j w _=>by simp[go_sem,binOp,Op.intArith,Sem.run,pure,bind,Sem.bind,i j]
theorem PV.yS {t e:TypeId}{x y:Operand}{k:IntKind}{a b r:Int}(hx:AD L W x (.int k a))(h:AD L W y (.int k b))(i:W=true->k.wrap (a*b)=r):PV P C L W ⟨d,.binOp .mul t x y e,ty,ps,af,gd⟩ (.int k r):=
 .bin hx h λ j w _=>by simp[go_sem,binOp,Op.intArith,Sem.run,pure,bind,Sem.bind,i j]
theorem wrap_i64{x:Int}(h: -9223372036854775808<=x/\x<=9223372036854775807):IntKind.i64.wrap x=x:=by
 simp[IntKind.wrap,IntKind.signed,IntKind.bits];omega
theorem PV.add {t e:TypeId}{x y:Operand}{a b:Int}(hx:AD L W x (i64 a))(h:AD L W y (i64 b))(i:W=true-> -9223372036854775808<=a+b/\a+b<=9223372036854775807):PV P C L W ⟨d,.binOp .add t x y e,ty,ps,af,gd⟩ (i64 (a+b)):=
 .k8 hx h λ j=>wrap_i64 (i j)
theorem PV.sub {t e:TypeId}{x y:Operand}{a b:Int}(hx:AD L W x (i64 a))(h:AD L W y (i64 b))(i:W=true-> -9223372036854775808<=a-b/\a-b<=9223372036854775807):PV P C L W ⟨d,.binOp .sub t x y e,ty,ps,af,gd⟩ (i64 (a-b)):=
 .k9 hx h λ j=>wrap_i64 (i j)
theorem PV.yT {t h:TypeId}{x y:Operand}{k:IntKind}{a b r:Int}(hx:AD L W x (.int k a))(i:AD L W y (.int k b))(j:W=true->b≠0)(l:W=true->k.wrap (a.tdiv b)=r):PV P C L W ⟨d,.binOp .quo t x y h,ty,ps,af,gd⟩ (.int k r):=
 .bin hx i λ e w _=>by simp[go_sem,binOp,Op.intDiv,Sem.run,pure,bind,Sem.bind,l e,j e]
theorem PV.yU {t h:TypeId}{x y:Operand}{k:IntKind}{a b r:Int}(hx:AD L W x (.int k a))(i:AD L W y (.int k b))(j:W=true->b≠0)(l:W=true->a.tmod b=r):PV P C L W ⟨d,.binOp .rem t x y h,ty,ps,af,gd⟩ (.int k r):=
 .bin hx i λ e w _=>by simp[go_sem,binOp,Op.intDiv,Sem.run,pure,bind,Sem.bind,l e,j e]
theorem PV.quo {t i:TypeId}{x y:Operand}{a b:Int}(hx:AD L W x (i64 a))(j:AD L W y (i64 b))(h:W=true->0<=a/\a<=9223372036854775807/\0<b):PV P C L W ⟨d,.binOp .quo t x y i,ty,ps,af,gd⟩ (i64 (a/b)):=
 .yT hx j (λ e=>by have:=h e;omega) λ e=>by
  obtain⟨h0,h1,k⟩:=h e
  rw[Int.tdiv_eq_ediv_of_nonneg h0]
  exact wrap_i64 ⟨by have:=Int.ediv_nonneg h0 (Int.le_of_lt k);omega,by have:=Int.ediv_le_self b h0;omega⟩
theorem PV.rem {t i:TypeId}{x y:Operand}{a b:Int}(hx:AD L W x (i64 a))(j:AD L W y (i64 b))(h:W=true->0<=a/\0<b):PV P C L W ⟨d,.binOp .rem t x y i,ty,ps,af,gd⟩ (i64 (a%b)):=
 .yU hx j (λ e=>by have:=h e;omega) λ e=>Int.tmod_eq_emod_of_nonneg (h e).1
theorem PV.not {t:TypeId}{x:Operand}{b:Bool}(hx:AD L W x (.bool b)):PV P C L W ⟨d,.unOp .not t x,ty,ps,af,gd⟩ (.bool (!b)):=
 .un (f:=Op.unary .not) (λ _=>rfl) hx λ _ w _=>by simp[Op.unary,Sem.run,pure]
theorem PV.kA {t:TypeId}{x:Operand}{k:IntKind}{a r:Int}(hx:AD L W x (.int k a))(b:W=true->k.wrap (-a)=r):PV P C L W ⟨d,.unOp .neg t x,ty,ps,af,gd⟩ (.int k r):=
 .un (f:=Op.unary .neg) (λ _=>rfl) hx λ e w _=>by simp[Op.unary,Op.intArith,Sem.run,pure,b e]
theorem PV.aS {s t:TypeId}{x:Operand}{k k':IntKind}{a r:Int}(hx:AD L W x (.int k a))(b:P.underlying s=some (.int k))(e:P.underlying t=some (.int k'))(h:W=true->k'.wrap a=r):PV P C L W ⟨d,.convert s t x,ty,ps,af,gd⟩ (.int k' r):=
 .un (f:=convert s t) (λ _=>rfl) hx λ i w _=>by simp[convert,run_underlying b,run_underlying e,Conv.intToInt,go_sem,h i]
theorem O2(l:A0):(ByteArray.mk ⟨l⟩).toList=l:=by rw[ByteArray.toList_eq]
theorem PV.aU {t e:TypeId}{x y:Operand}{a b:A0}(hx:AD L W x (str a))(h:AD L W y (str b)):PV P C L W ⟨d,.binOp .eql t x y e,ty,ps,af,gd⟩ (.bool (a==b)):=
 .bin hx h λ _ w _=>by simp[go_sem,eqGuard,binOp_string_eql,O2,Sem.run,pure,bind,Sem.bind]
theorem PV.yV {t e:TypeId}{x y:Operand}{a b:A0}(hx:AD L W x (str a))(h:AD L W y (str b)):PV P C L W ⟨d,.binOp .neq t x y e,ty,ps,af,gd⟩ (.bool (!(a==b))):=
 .bin hx h λ _ w _=>by simp[go_sem,eqGuard,binOp_string_neq,O2,Sem.run,pure,bind,Sem.bind]
theorem PV.yW {t e:TypeId}{x y:Operand}{a b:A0}(hx:AD L W x (str a))(h:AD L W y (str b)):PV P C L W ⟨d,.binOp .lss t x y e,ty,ps,af,gd⟩ (.bool (Op.bytesLess a b)):=
 .bin hx h λ _ w _=>by simp[go_sem,binOp_string_lss,O2,Sem.run,pure,bind,Sem.bind]
theorem PV.yX {t e:TypeId}{x y:Operand}{a b:A0}(hx:AD L W x (str a))(h:AD L W y (str b)):PV P C L W ⟨d,.binOp .leq t x y e,ty,ps,af,gd⟩ (.bool (Op.bytesLess a b||a==b)):=
 .bin hx h λ _ w _=>by simp[go_sem,binOp,Op.stringOp,O2,Sem.run,pure,bind,Sem.bind]
theorem PV.yY {t e:TypeId}{x y:Operand}{a b:A0}(hx:AD L W x (str a))(h:AD L W y (str b)):PV P C L W ⟨d,.binOp .gtr t x y e,ty,ps,af,gd⟩ (.bool (!(Op.bytesLess a b||a==b))):=
 .bin hx h λ _ w _=>by simp[go_sem,binOp,Op.stringOp,O2,Sem.run,pure,bind,Sem.bind]
theorem PV.yZ {t e:TypeId}{x y:Operand}{a b:A0}(hx:AD L W x (str a))(h:AD L W y (str b)):PV P C L W ⟨d,.binOp .geq t x y e,ty,ps,af,gd⟩ (.bool (!Op.bytesLess a b)):=
 .bin hx h λ _ w _=>by simp[go_sem,binOp,Op.stringOp,O2,Sem.run,pure,bind,Sem.bind]
theorem z6(x y:A0):(ByteArray.mk ⟨x⟩++ByteArray.mk ⟨y⟩)=ByteArray.mk ⟨x++y⟩:=ByteArray.mk_append_mk x y
theorem PV.z7 {t e:TypeId}{x y:Operand}{a b:A0}(hx:AD L W x (str a))(i:AD L W y (str b))(j:W=true->len a+len b<=9223372036854775807):PV P C L W ⟨d,.binOp .add t x y e,ty,ps,af,gd⟩ (str (a++b)):=
 .bin hx i λ k w _=>by
  have h:=j k
  simp only[len]at h
  simp only[eqGuard_add,binOp_string_add,Sem.run_bind,Sem.run_pure,Result.andThen_ok]
  rw[run_string_add_sum _ _ _ (by show a.length+b.length<=_;omega),z6]
theorem PV.TN {t:TypeId}{x:Operand}{a:A0}(hx:AD L W x (str a))(b:P.underlying t=some .string):PV P C L W ⟨d,.call ⟨.builtin .len,#[x],#[t]⟩,ty,ps,af,gd⟩ (i64 (len a)):=by
 intro ac N e h w _
 have:=run_len_string w t ty ⟨⟨a⟩⟩ b
 simp only[execOp,resolve,invoke,builtin,List.map_toArray,List.map_cons,List.map_nil,hx ac N e h,Sem.run_bind,Sem.run_pure,Result.andThen_ok,this]
 rfl
theorem PV.O3 {t:TypeId}{x y:Operand}{a:A0}{i:Int}{k:IntKind}(hx:AD L W x (str a))(l:AD L W y (.int k i))(n:P.underlying t=some .string)(q:W=true->0<=i/\i<len a):PV P C L W ⟨d,.index t x y,ty,ps,af,gd⟩ (.int .u8 (A4 a i)):=by
 intro ac N j e w _
 obtain⟨h0,h1⟩:=q e
 have b:i.toNat<a.length:=by unfold len at h1;omega
 have h:i.toNat<(ByteArray.mk ⟨a⟩).size:=b
 have hg:(ByteArray.mk ⟨a⟩)[i.toNat]? =some a[i.toNat]:=by
  rw[ByteArray.getElem?_lt' _ _ h];rfl
 have key:(Instr.index t (str a) (.int k i)).run P w= .ok (.int .u8 (A4 a i)) w:=by
  simp[Instr.index,asIntOf,run_underlying n,Sem.run_bind,h0,hg,go_sem,A4,b]
  rfl
 simp only[execOp,hx ac N j e,l ac N j e]
 rw[Sem.run_bind,key]
 rfl
theorem PV.TO {t:TypeId}{x y z:Operand}{a:A0}{i j:Int}{k k':IntKind}(hx:AD L W x (str a))(n:AD L W y (.int k i))(q:AD L W z (.int k' j))(l:P.underlying t=some .string)(s:W=true->0<=i/\i<=j/\j<=len a):PV P C L W ⟨d,.slice t x (some y) (some z) none,ty,ps,af,gd⟩ (str (Eng.sub a i j)):=by
 intro ac N h b w _
 obtain⟨h0,h1,A⟩:=s b
 have e:(ByteArray.mk ⟨a⟩).extract i.toNat j.toNat=ByteArray.mk ⟨Eng.sub a i j⟩:=ByteArray.extract_mk a i.toNat j.toNat
 simp only[execOp,hx ac N h b,Option.map_some,Option.map_none,n ac N h b,q ac N h b]
 rw[Sem.run_bind,run_sliceAt_string _ _ _ _ _ _ l,run_slice_string _ _ _ _ _ _ _ l h0 h1 (by show j<=(a.length:Int);exact A),e]
 rfl
theorem PV.kB {t:TypeId}{x y:Operand}{a:A0}{i:Int}{k:IntKind}(hx:AD L W x (str a))(l:AD L W y (.int k i))(h:P.underlying t=some .string)(n:W=true->0<=i/\i<=len a):PV P C L W ⟨d,.slice t x (some y) none none,ty,ps,af,gd⟩ (str (A5 a i)):=by
 intro ac N j b w _
 obtain⟨h0,h1⟩:=n b
 have e:(ByteArray.mk ⟨a⟩).extract i.toNat (ByteArray.mk ⟨a⟩).size=ByteArray.mk ⟨A5 a i⟩:=by
  refine(ByteArray.extract_mk a i.toNat a.length).trans ?_
  unfold A5
  rw[List.take_of_length_le (by simp)]
 simp only[execOp,hx ac N j b,Option.map_some,Option.map_none,l ac N j b]
 rw[Sem.run_bind,run_sliceAt_string _ _ _ _ _ _ h,run_slice_string_l _ _ _ h _ _ h0 (by show i<=(a.length:Int);exact h1),e]
 rfl
theorem PV.z8 {t:TypeId}{x z:Operand}{a:A0}{j:Int}{k':IntKind}(hx:AD L W x (str a))(k:AD L W z (.int k' j))(h:P.underlying t=some .string)(l:W=true->0<=j/\j<=len a):PV P C L W ⟨d,.slice t x none (some z) none,ty,ps,af,gd⟩ (str (Eng.sub a 0 j)):=by
 intro ac N i b w _
 obtain⟨h0,h1⟩:=l b
 have e:(ByteArray.mk ⟨a⟩).extract 0 j.toNat=ByteArray.mk ⟨Eng.sub a 0 j⟩:=ByteArray.extract_mk a 0 j.toNat
 simp only[execOp,hx ac N i b,Option.map_some,Option.map_none,k ac N i b]
 rw[Sem.run_bind,run_sliceAt_string _ _ _ _ _ _ h,run_slice_string_h _ _ _ h _ _ h0 (by show j<=(a.length:Int);exact h1),e]
 rfl
theorem PV.ex {b:TypeId}{x:Operand}{vs:Array Value}{i:Nat}{v:Value}(hx:AD L W x (.tuple vs))(hi:vs[i]? =some v):PV P C L W ⟨d,.extract x i,b,ps,af,gd⟩ v:=
 .un (f:=λ x=>Instr.extract x i) (λ _=>rfl) hx λ _ w _=>by simp[Instr.extract,hi,Sem.run,pure]
end pv
def RL(P:Program)(ops:Array Oper)(Q:Exit->Act->World->Prop)(N:Nat)(l:List Oper)(L:Env)(w:World):Prop:=
 ∀a,AW a N L->wpList P ops Q l a w
section rl
variable {P:Program} {ops:Array Oper} {Q:Exit->Act->World->Prop} {N:Nat} {rest:List Oper} {L:Env} {w:World}
theorem RL.v {d:Nat}{op:Op}{ty:TypeId}{ps:String}{af:Array Edge}{gd:Option (Nat×Bool)}{W:Bool}{v:Value}(hw:DZ ops L gd W)(hp:PV P (· =w) L W ⟨some d,op,ty,ps,af,gd⟩ v)(hd:Nat.blt d N=true)
  (h:RL P ops Q N rest ((d,W,v)::L) w):RL P ops Q N (⟨some d,op,ty,ps,af,gd⟩::rest) L w:=by
 intro a e
 refine wpList_step λ K i=>?_
 rw[DZ.wanted (o:=⟨some d,op,ty,ps,af,gd⟩) hw e]
 have b:=e.put hd W v
 cases W
 ·exact i _ _ (h _ b)
 ·simp only[if_true,Oper.wp,hp a N e U w U,Oper.upon_value]
  exact i _ _ (h _ b)
def EG(L:Env)(W:Bool):List Operand->List Value->Prop
 |[],[]=>True
 |x::xs,v::vs=>AD L W x v/\EG L W xs vs
 |_,_=>False
theorem EG.nil {L:Env}{W:Bool}:EG L W [] []:=trivial
theorem EG.cons {L:Env}{W:Bool}{x:Operand}{v:Value}{xs:List Operand}{vs:List Value}(h:AD L W x v)(k:EG L W xs vs):EG L W (x::xs) (v::vs):=⟨h,k⟩
theorem EG.map {L:Env}{W:Bool}{a:Act}{N:Nat}(b:AW a N L)(e:W=true): ∀(xs:List Operand) (vs:List Value),EG L W xs vs->xs.map a.eval=vs
 |[],[],_=>rfl
 |[],_::_,h=>h.elim
 |_::_,[],h=>h.elim
 |x::xs,v::vs,h=>by rw[List.map_cons,h.1 a N b e,EG.map b e xs vs h.2]
theorem RC{f:FuncId}(b: ∀args w,(callFunc f args).run P w= .ok (.enter f args) w){L:Env}{W:Bool}{xs:List Operand}{vs:List Value}(hx:EG L W xs vs){a:Act}{N:Nat}(h:AW a N L)(i:W=true){d:Option Tmp}{tys:Array TypeId}{ty:TypeId}{ps:String}{af:Array Edge}{gd:Option (Nat×Bool)}:
  (execOp a.eval ⟨d,.call ⟨.value (.func f),xs.toArray,tys⟩,ty,ps,af,gd⟩).run P w= .ok (.enter f vs.toArray) w:=by
 have e:xs.toArray.map a.eval=vs.toArray:=by rw[List.map_toArray,EG.map h i xs vs hx]
 have e2:a.eval (.func f)= .func (.func f) #[] #[]:=rfl
 simp only[execOp,resolve,e,e2,Deferred.ofValue,invoke,Sem.run_bind,Sem.run_pure,Result.andThen_ok]
 simpa using b vs.toArray w
theorem RL.aV {d:Nat}{f:FuncId}{xs:List Operand}{vs:List Value}{v:Value}{tys:Array TypeId}{ty:TypeId}{ps:String}{af:Array Edge}{gd:Option (Nat×Bool)}{W:Bool}(hw:DZ ops L gd W)
  (l: ∀args w,(callFunc f args).run P w= .ok (.enter f args) w) (hx:EG L W xs vs) (n:W=true->Calls P f vs.toArray w (λ e w'=>e= .returned v/\w'=w)) (hd:Nat.blt d N=true)
  (h:RL P ops Q N rest ((d,W,v)::L) w):RL P ops Q N (⟨some d,.call ⟨.value (.func f),xs.toArray,tys⟩,ty,ps,af,gd⟩::rest) L w:=by
 intro a i
 refine wpList_step λ K k=>?_
 rw[DZ.wanted (o:=⟨some d,.call ⟨.value (.func f),xs.toArray,tys⟩,ty,ps,af,gd⟩) hw i]
 have b:=i.put hd W v
 cases W
 ·exact k _ _ (h _ b)
 ·simp only[if_true,Oper.wp,RC l hx i U,Oper.upon_enter]
  refine(n U).mono λ e w' ⟨he,j⟩=>?_
  subst he;subst j
  exact k _ _ (h _ b)
theorem RL.zA {d:Nat}{f:FuncId}{xs:List Operand}{vs:List Value}{tys:Array TypeId}{ty:TypeId}{ps:String}{af:Array Edge}{b:Value->World->Prop}
  (j: ∀args w,(callFunc f args).run P w= .ok (.enter f args) w) (hx:EG L true xs vs) (k:Calls P f vs.toArray w (λ e w'=> ∃v,e= .returned v/\b v w')) (hd:Nat.blt d N=true)
  (h: ∀v w',b v w'->RL P ops Q N rest ((d,true,v)::L) w'):RL P ops Q N (⟨some d,.call ⟨.value (.func f),xs.toArray,tys⟩,ty,ps,af,none⟩::rest) L w:=by
 intro a i
 refine wpList_plain U λ K l=>?_
 simp only[Oper.wp,RC j hx i U,Oper.upon_enter]
 refine k.mono λ e w' ⟨v,he,hp⟩=>?_
 subst he
 exact l _ _ (h v w' hp _ (i.put hd true v))
end rl
def CW(P:Program)(c:Code)(Q:Exit->Act->World->Prop)(N:Nat)(L:Env)(w:World):Prop:= ∀a,AW a N L->c.wp P Q a w
section cw
variable {P:Program} {Q:Exit->Act->World->Prop} {N:Nat} {L:Env} {w:World}
theorem CW.enter {f:FuncId}{fn:Func}{c:Code}{vs:List Value}{R:Ending->World->Prop}(b:P.funcs[f]? =some fn)(e:fn.body=some c)(i:fn.ntmps=N)(hl:vs.length<=N)
  (h:CW P c (bodyPost P fn R) N (N4 0 vs) w):Calls P f vs.toArray w R:=
 calls_of_wp b e (by rw[i];exact h _ (AW.enter vs N hl))
theorem CW.weaken {c:Code}{L':Env}(b:List Nat)(h:CW P c Q N L' w)(e:Eng.GF b L=L'):CW P c Q N L w:=λ a i=>h a (e▸i.GF b)
theorem CW.seq {x y:Code}(h:CW P x (Exit.then (y.wp P Q) Q) N L w):CW P (.seq x y) Q N L w:=λ a b=>wp_seq (h a b)
theorem CW.region {id:Nat}{l:List Oper}(h:RL P l.toArray Q N l L w):CW P (.region id l.toArray false) Q N L w:=λ a b=>wp_region_lit (h a b)
theorem CW.block {id:Nat}{c:Code}(h:CW P c (Exit.inBlock id Q) N L w):CW P (.block id c) Q N L w:=λ a b=>wp_block (h a b)
theorem CW.cond {c:Nat}{x y:Code}{b:Bool}(i:look L c=some (true,.bool b))(j:b=true->CW P x Q N L w)(k:b=false->CW P y Q N L w):CW P (.cond (.tmp c) x y) Q N L w:=
 λ a e=>wp_cond_split (e.get i) (λ h=>j h a e) (λ h=>k h a e)
theorem CW.skip (h: ∀a,AW a N L->Q .normal a w):CW P .skip Q N L w:=λ a b=>wp_skip (h a b)
theorem CW.exit {id:Nat}(h: ∀a,AW a N L->Q (.exit id) a w):CW P (.exit id) Q N L w:=λ a b=>wp_exit (h a b)
theorem CW.ret (h: ∀a,AW a N L->Q .ret a w):CW P .ret Q N L w:=λ a b=>wp_ret (h a b)
theorem CW.on {y:Code}{Q':Exit->Act->World->Prop}{L':Env}(b:List Nat)(e:Eng.GF b L=L')(h:CW P y Q' N L' w): ∀a,AW a N L->y.wp P Q' a w:=λ a i=>h a (e▸i.GF b)
theorem RL.nil {ops:Array Oper}(h: ∀a,AW a N L->Q .normal a w):RL P ops Q N [] L w:=λ a b=>wpList_nil (h a b)
theorem CW.loop {σ:Type}{c:Code}(A:σ->Env)(I:σ->World->Prop)(μ:σ->Nat)(s₀:σ)(F:List Nat)(G:Eng.GF F L=A s₀)(H:I s₀ w)
  (round: ∀s w,I s w->CW P c (Exit.then (λ a' w'=> ∃s',AW a' N (A s')/\I s' w'/\μ s'<μ s) Q) N (A s) w):CW P (.loop c) Q N L w:=by
 intro a J b k cs
 have key: ∀n s a w,μ s=n->I s w->AW a N (A s)->
   ∃e a' w',Q e a' w'/\Arrives P (lone (b.at a (.code c:: .inLoop c::k)) cs w) b k cs e a' w':=by
  intro n
  induction n using Nat.strongRecOn with
  |_ n K=>
   intro s a w M O B
   obtain⟨e,q,y,i,h⟩:=round s w O a B b (.inLoop c::k) cs
   cases e with
   |normal=>
    obtain⟨s',z,C,D⟩:=i
    obtain⟨R,S,T,E,j⟩:=K (μ s') (M▸D) s' q y rfl C z
    exact⟨R,S,T,E,.of_steps (Steps.trans h (.one step_inLoop)) j⟩
   |exit id=>exact⟨_,q,y,i,.pass (x:=.inLoop c) U (λ _ _=>.inl (by simp)) h⟩
   |goto l=>exact⟨_,q,y,i,.pass (x:=.inLoop c) U (λ _ _=>.inl (by simp)) h⟩
   |ret=>exact⟨_,q,y,i,.pass (x:=.inLoop c) U (λ _ _=>.inl (by simp)) h⟩
   |panic V=>exact⟨_,q,y,i,.pass (x:=.inLoop c) U (λ _ _=>.inl (by simp)) h⟩
   |outgrown=>exact⟨_,q,y,i,.pass (x:=.inLoop c) U (λ _ _=>.inl (by simp)) h⟩
 obtain⟨e,a',w',i,h⟩:=key _ s₀ a w rfl H (G▸J.GF F)
 exact⟨e,a',w',i,.of_steps (.one step_loop) h⟩
theorem zB{fn:Func}{R:Ending->World->Prop}{t:Tmp}{v:Value}(e:fn.results= #[.tmp t])(hl:look L t=some (true,v))(h:R (.returned v) w): ∀a,AW a N L->bodyPost P fn R .ret a w:=
 λ a b=>bodyPost_ret (results_tmp e _ _ _) b.E4 (by rw[b.get hl];exact h)
end cw
end Go.Eng
