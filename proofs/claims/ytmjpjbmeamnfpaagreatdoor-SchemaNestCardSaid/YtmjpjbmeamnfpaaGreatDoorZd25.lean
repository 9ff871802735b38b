/-
  Parts Eqt Shelc Rb Fw Fr Rc Ip It, put together and made short by wip/py/merge.py (mini.py).
-/
import Derived.Test.YtmjpjbmeamnfpaaGreatDoorZd4
import Derived.Laws.BitsLemmas
import Derived.Test.YtmjpjbmeamnfpaaGreatDoorZd3
import Derived.Test.YtmjpjbmeamnfpaaGreatDoorProg
import Derived.Test.YtmjpjbmeamnfpaaGreatDoorZd10
import Derived.Shelf.Strings.Builder1
import Derived.Shelf.Strings.Builder2
import Derived.Shelf.Strings.Trim
import Derived.Shelf.Small.Utf8
import Derived.Shelf.Small.Bits
import Derived.Shelf.Small.Strs
import Derived.Shelf.Strings.BuilderF
import Derived.Shelf.Strings.BuilderK
import Derived.Shelf.Strings.BuilderRune
import Derived.Shelf.Utf8.AppendRune
import Derived.Shelf.Utf8.AppendRunePlain
import Derived.Shelf.Strings.Builder2Cap
import Derived.Shelf.Strconv.Atoi
import Derived.Shelf.Strconv.Itoa0
import Derived.Shelf.Strconv.Itoa1
import Derived.Shelf.LaysM
import Derived.Shelf.Strconv.Itoa2
import Derived.Shelf.Strconv.Itoa3
import Derived.Shelf.Strconv.Itoa4
import Derived.Shelf.Strconv.AtoiErrFast
import Derived.Shelf.Strconv.ParseIntEmpty
import Derived.Shelf.Strconv.AtoiFail
import Derived.Shelf.Strconv.Clone
import Derived.Shelf.Strconv.SyntaxError
import Derived.Shelf.LaysC
import Derived.Shelf.Strconv.ToError
import Derived.Shelf.Strconv.Lower
import Derived.Shelf.Strconv.ParseUint10
import Derived.Shelf.Strconv.ParseUint10Empty
import Derived.Shelf.Strconv.ParseUint10Any
import Derived.Shelf.Strconv.ParseInt10
import Derived.Shelf.Strconv.AtoiLong
import Derived.Shelf.Strconv.AtoiInnerAll
import Derived.Shelf.Strconv.RangeError
import Derived.Shelf.Strconv.ToErrorRange
import Derived.Shelf.Strconv.AtoiAll
import Derived.Shelf.Strconv.ErrVarAll
import Derived.Shelf.Strconv.ParseUintEmpty
import Derived.Shelf.Strconv.ParseUint10b64
import Derived.Shelf.Strconv.ParseUint10b32
import Derived.Shelf.Strconv.ParseUint10b16
import Derived.Shelf.Strconv.ParseUint10b8
import Derived.Shelf.Strconv.ParseUint10At
import Derived.Ground.MpProg
import Derived.Shelf.Pu.ParseUintPublic10
import Derived.Shelf.Strings.Search1
import Derived.Shelf.Sort.Plain
import Derived.Shelf.GgClosure.StringsIndexFunc
import Derived.Shelf.GgClosure.StringsTrimFunc
import Derived.Shelf.GgClosure.StringsRunes
import Derived.Shelf.Strings.Prefix
import Derived.Shelf.Strings.Fields
import Derived.Shelf.Unicode.Latin
import Derived.Shelf.Unicode.Decode
import Derived.Shelf.Strings.Runes
import Derived.Shelf.Strings.IndexAny
import Derived.Shelf.Strings.AsciiSet
import Derived.Shelf.Strings.IndexAnyAll
import Derived.Shelf.Bits.Mul64
import Derived.Shelf.Strings.Repeat
import Derived.Shelf.Unicode.DecodeSlow
import Derived.Shelf.Unicode.DecodeAny
import Derived.Shelf.Unicode.Is16White
import Derived.Shelf.Unicode.IsSpaceAny
import Derived.Shelf.Unicode.DecodeLast
import Derived.Shelf.Unicode.Is16WhiteD
import Derived.Shelf.Unicode.IsSpaceAnyD
import Derived.Shelf.Strings.FieldsAny
import Derived.Shelf.Strings.FieldsFuncAny
import Derived.Shelf.Unicode.Is16Any
import Derived.Shelf.Unicode.Is32Any
import Derived.Shelf.Unicode.ExclAny
import Derived.Shelf.Strings.BuilderCap
import Derived.Shelf.Slices.In.SortNone
import Derived.Test.YtmjpjbmeamnfpaaGreatDoorZd24
import Derived.Test.YtmjpjbmeamnfpaaGreatDoorZd12
import Derived.Test.YtmjpjbmeamnfpaaGreatDoorZd19
import Derived.Test.YtmjpjbmeamnfpaaGreatDoorZd15
import Derived.Test.YtmjpjbmeamnfpaaGreatDoorZd22
import Derived.Test.YtmjpjbmeamnfpaaGreatDoorZd5
import Derived.Test.YtmjpjbmeamnfpaaGreatDoorZd0
set_option linter.unusedVariables false
set_option linter.unusedSimpArgs false
set_option maxRecDepth 100000
namespace Go.Proofs.YtmjpjbmeamnfpaaGreatDoor
open Go.Eng
theorem wR:Tryz.prog.underlying 48=some (.struct (Tryz.prog.fieldsOf 48)):=by kernel_rfl
theorem wS:(Tryz.prog.fieldsOf 48).toList=[⟨"Kind",3,0,false,"","",0⟩,⟨"Many",3,1,false,"","",8⟩,⟨"Name",9,2,false,"","",16⟩,⟨"S",9,3,false,"","",32⟩,⟨"N",3,4,false,"","",48⟩,⟨"C",46,5,false,"","",56⟩]:=by kernel_rfl
theorem wT(d:Nat)(a b:Tm)(w:World):(Op.equalIn (d+1+1+1) 48 (.agg (Tm.cells a).toArray) (.agg (Tm.cells b).toArray)).run Tryz.prog w= .ok (decide (a=b)) w:=by
 rw[run_equalIn_agg w _ _ _ _ wR Tryz.stoodInHeld48,wS]
 rw[HG (P:=Tryz.prog) (w:=w) (xs:=(Tm.cells a).toArray) (ys:=(Tm.cells b).toArray) (f:=⟨"Kind",3,0,false,"","",0⟩) (by decide) (show(part 3 (Tm.cells a).toArray 0).run Tryz.prog w= .ok (i64 ((a).op)) w by kernel_rfl) (show(part 3 (Tm.cells b).toArray 0).run Tryz.prog w= .ok (i64 ((b).op)) w by kernel_rfl) (MO Tryz.underlying3 w (d+1) ((a).op) ((b).op))]
 rw[HG (P:=Tryz.prog) (w:=w) (xs:=(Tm.cells a).toArray) (ys:=(Tm.cells b).toArray) (f:=⟨"Many",3,1,false,"","",8⟩) (by decide) (show(part 3 (Tm.cells a).toArray 1).run Tryz.prog w= .ok (i64 ((a).many)) w by kernel_rfl) (show(part 3 (Tm.cells b).toArray 1).run Tryz.prog w= .ok (i64 ((b).many)) w by kernel_rfl) (MO Tryz.underlying3 w (d+1) ((a).many) ((b).many))]
 rw[HG (P:=Tryz.prog) (w:=w) (xs:=(Tm.cells a).toArray) (ys:=(Tm.cells b).toArray) (f:=⟨"Name",9,2,false,"","",16⟩) (by decide) (show(part 9 (Tm.cells a).toArray 2).run Tryz.prog w= .ok (str ((a).name)) w by kernel_rfl) (show(part 9 (Tm.cells b).toArray 2).run Tryz.prog w= .ok (str ((b).name)) w by kernel_rfl) (QS Tryz.underlying9 w (d+1) ((a).name) ((b).name))]
 rw[HG (P:=Tryz.prog) (w:=w) (xs:=(Tm.cells a).toArray) (ys:=(Tm.cells b).toArray) (f:=⟨"S",9,3,false,"","",32⟩) (by decide) (show(part 9 (Tm.cells a).toArray 3).run Tryz.prog w= .ok (str ((a).s)) w by kernel_rfl) (show(part 9 (Tm.cells b).toArray 3).run Tryz.prog w= .ok (str ((b).s)) w by kernel_rfl) (QS Tryz.underlying9 w (d+1) ((a).s) ((b).s))]
 rw[HG (P:=Tryz.prog) (w:=w) (xs:=(Tm.cells a).toArray) (ys:=(Tm.cells b).toArray) (f:=⟨"N",3,4,false,"","",48⟩) (by decide) (show(part 3 (Tm.cells a).toArray 4).run Tryz.prog w= .ok (i64 ((a).n)) w by kernel_rfl) (show(part 3 (Tm.cells b).toArray 4).run Tryz.prog w= .ok (i64 ((b).n)) w by kernel_rfl) (MO Tryz.underlying3 w (d+1) ((a).n) ((b).n))]
 rw[HG (P:=Tryz.prog) (w:=w) (xs:=(Tm.cells a).toArray) (ys:=(Tm.cells b).toArray) (f:=⟨"C",46,5,false,"","",56⟩) (by decide) (show(part 46 (Tm.cells a).toArray 5).run Tryz.prog w= .ok (.agg (Nd.cells ((a).c)).toArray) w by kernel_rfl) (show(part 46 (Tm.cells b).toArray 5).run Tryz.prog w= .ok (.agg (Nd.cells ((b).c)).toArray) w by kernel_rfl) (ZD d ((a).c) ((b).c) w)]
 have ht:(.ok true w:Result Bool)= .ok (decide True) w:=rfl
 rw[YO,ht]
 simp only[YP]
 have hp:((a).op=(b).op/\(a).many=(b).many/\(a).name=(b).name/\(a).s=(b).s/\(a).n=(b).n/\(a).c=(b).c/\True)↔a=b:=by cases a;cases b;simp
 rw[decide_eq_decide.2 hp]
theorem wU(x y:Operand)(a b:Tm)(w:World):(do eqGuard .eql 48 x y (.agg (Tm.cells a).toArray) (.agg (Tm.cells b).toArray);binOp .eql 48 (.agg (Tm.cells a).toArray) (.agg (Tm.cells b).toArray):Sem Value).run Tryz.prog w= .ok (.bool (decide (a=b))) w:=YQ x y w Tryz.eqGuardType48 (wT 9997 a b w)
end Go.Proofs.YtmjpjbmeamnfpaaGreatDoor
namespace Go.Proofs
open Go.Shelf
def Tryz.wV:Go.Shelf.Ren:=⟨λ |160=>323|232=>211|231=>72|227=>73|234=>212|233=>74|236=>213|235=>75|228=>105|271=>248|151=>107|197=>106|120=>275|152=>146|260=>145|137=>119|119=>192|224=>193|225=>194|217=>155|266=>204|n=>n,λ |9=>9|4=>4|3=>3|5=>5|117=>127|116=>126|0=>0|124=>130|21=>21|105=>157|46=>192|119=>203|139=>233|138=>232|n=>n,λ |3=>1|4=>2|n=>n⟩
theorem Tryz.wW:Go.Proofs.Lays.n160 Tryz.prog Tryz.wV:= {
 mixed:=by kernel_rfl
 f119:=Tryz.func192.trans (congrArg some (by kernel_rfl))
 f120:=Tryz.func275.trans (congrArg some (by kernel_rfl))
 f137:=Tryz.func119.trans (congrArg some (by kernel_rfl))
 f151:=Tryz.func107.trans (congrArg some (by kernel_rfl))
 f152:=Tryz.func146.trans (congrArg some (by kernel_rfl))
 f160:=Tryz.func323.trans (congrArg some (by kernel_rfl))
 f197:=Tryz.func106.trans (congrArg some (by kernel_rfl))
 f217:=Tryz.func155.trans (congrArg some (by kernel_rfl))
 f224:=Tryz.func193.trans (congrArg some (by kernel_rfl))
 f225:=Tryz.func194.trans (congrArg some (by kernel_rfl))
 f227:=Tryz.func73.trans (congrArg some (by kernel_rfl))
 f228:=Tryz.func105.trans (congrArg some (by kernel_rfl))
 f231:=Tryz.func72.trans (congrArg some (by kernel_rfl))
 f232:=Tryz.func211.trans (congrArg some (by kernel_rfl))
 f233:=Tryz.func74.trans (congrArg some (by kernel_rfl))
 f234:=Tryz.func212.trans (congrArg some (by kernel_rfl))
 f235:=Tryz.func75.trans (congrArg some (by kernel_rfl))
 f236:=Tryz.func213.trans (congrArg some (by kernel_rfl))
 f260:=Tryz.func145.trans (congrArg some (by kernel_rfl))
 f266:=Tryz.func204.trans (congrArg some (by kernel_rfl))
 f271:=Tryz.func248.trans (congrArg some (by kernel_rfl))
 t0:=Tryz.underlying0
 a0:=Tryz.isAgg0
 z0:=Tryz.sizeOf0
 v0:=Tryz.zeroValue0
 t3:=Tryz.underlying3
 a3:=Tryz.isAgg3
 z3:=Tryz.sizeOf3
 v3:=Tryz.zeroValue3
 t4:=Tryz.underlying4
 a4:=Tryz.isAgg4
 z4:=Tryz.sizeOf4
 v4:=Tryz.zeroValue4
 t5:=Tryz.underlying5
 a5:=Tryz.isAgg5
 z5:=Tryz.sizeOf5
 v5:=Tryz.zeroValue5
 t9:=Tryz.underlying9
 a9:=Tryz.isAgg9
 z9:=Tryz.sizeOf9
 v9:=Tryz.zeroValue9
 t21:=Tryz.underlying21
 a21:=Tryz.isAgg21
 z21:=Tryz.sizeOf21
 v21:=Tryz.zeroValue21
 t46:=Tryz.underlying192
 a46:=Tryz.isAgg192
 z46:=Tryz.sizeOf192
 v46:=Tryz.zeroValue192
 t105:=Tryz.underlying157
 a105:=Tryz.isAgg157
 z105:=Tryz.sizeOf157
 v105:=Tryz.zeroValue157
 t116:=Tryz.underlying126
 a116:=Tryz.isAgg126
 z116:=Tryz.sizeOf126
 t117:=Tryz.underlying127
 a117:=Tryz.isAgg127
 z117:=Tryz.sizeOf127
 v117:=Tryz.zeroValue127
 t119:=Tryz.underlying203
 a119:=Tryz.isAgg203
 z119:=Tryz.sizeOf203
 t124:=Tryz.underlying130
 a124:=Tryz.isAgg130
 z124:=Tryz.sizeOf130
 v124:=Tryz.zeroValue130
 t138:=Tryz.underlying232
 a138:=Tryz.isAgg232
 z138:=Tryz.sizeOf232
 v138:=Tryz.zeroValue232
 t139:=Tryz.underlying233
 a139:=Tryz.isAgg233
 z139:=Tryz.sizeOf233
 v139:=Tryz.zeroValue233
 g3:=by kernel_rfl
 g4:=by kernel_rfl}
open Go.RowKit in
theorem Tryz.strings_Trim_one (s:ByteArray)(c:UInt8)(hc:c.toNat<128)(w:World)(hs:s.size<=9223372036854775807):
 Calls Tryz.prog 323 #[.string s,.string ⟨#[c]⟩] w λ e w'=>e= .returned (.string ⟨(Lib.trimB s.data.toList c).toArray⟩)/\(w'=w\/w'=w.drew):=Any.strings_Trim_one Tryz.wW s c hc w hs
end Go.Proofs
set_option maxRecDepth 100000
namespace Go.Proofs.YtmjpjbmeamnfpaaGreatDoor
open Go.Eng
end Go.Proofs.YtmjpjbmeamnfpaaGreatDoor
namespace Go.Eng
open Go.RowKit
mutual
def Tf.size:Tf->Nat
 | .mk _ ps=>1+K5 ps
def K5:List Tf->Nat
 |[]=>0
 |x::l=>x.size+K5 l
end
mutual
theorem Tf.FQ:(x:Tf)->x.flat.length=x.size
 | .mk n ps=>by rw[Tf.flat,Tf.size,List.length_cons,TH ps];omega
theorem TH:(l:List Tf)->(AF l).length=K5 l
 |[]=>rfl
 |t::ts=>by rw[AF,K5,List.length_append,Tf.FQ t,TH ts]
end
theorem Tf.size_pos (t:Tf):1<=t.size:=by cases t;rw[Tf.size];omega
def Tf.node (x:Tf):Tm:= { x.t with many:=len x.ps}
theorem Tf.wX (x:Tf):x.flat=x.node::AF x.ps:=by cases x;rfl
def FC(v:Fl)(i:Int)(l:List Tf):Prop:=0<=i/\ ∃pre post,v=pre++(AF l++post)/\len pre=i
theorem FC.le {v:Fl}{i:Int}{l:List Tf}(h:FC v i l):i+K5 l<=len v:=by
 obtain⟨h0,pre,post,rfl,rfl⟩:=h
 unfold len;simp only[List.length_append,TH];omega
theorem FC.skip {v:Fl}{i:Int}{a b:List Tf}(h:FC v i (a++b)):FC v (i+K5 a) b:=by
 obtain⟨h0,pre,post,rfl,rfl⟩:=h
 exact⟨by omega,pre++AF a,post,by rw[H8];simp,by unfold len;rw[List.length_append,TH];omega⟩
theorem FC.rest {v:Fl}{i:Int}{x:Tf}{b:List Tf}(h:FC v i (x::b)):FC v (i+x.size) b:=by
 have:=FC.skip (a:=[x]) h
 rw[K5,K5,Nat.add_zero]at this;exact this
theorem FC.head {v:Fl}{i:Int}{x:Tf}{b:List Tf}(h:FC v i (x::b)):FC v i [x]:=by
 obtain⟨h0,pre,post,rfl,rfl⟩:=h
 exact⟨h0,pre,AF b++post,by simp[AF],rfl⟩
theorem FC.left {v:Fl}{i:Int}{a b:List Tf}(h:FC v i (a++b)):FC v i a:=by
 obtain⟨h0,pre,post,rfl,rfl⟩:=h
 exact⟨h0,pre,AF b++post,by rw[H8];simp,rfl⟩
theorem FC.node {v:Fl}{i:Int}{x:Tf}{b:List Tf}(h:FC v i (x::b)):0<=i/\i<len v/\at' v i=x.node:=by
 have hl:=h.le
 have hz:=x.size_pos
 obtain⟨h0,pre,post,rfl,rfl⟩:=h
 rw[K5]at hl
 refine⟨h0,by omega,?_⟩
 unfold at' len
 rw[Int.toNat_natCast,List.getD_eq_getElem?_getD,List.getElem?_append_right (Nat.le_refl _),Nat.sub_self,AF,Tf.wX];rfl
mutual
def Tf.zm:Tf->Prop
 | .mk t ps=>t.many=0/\i6 ps
def i6:List Tf->Prop
 |[]=>True
 |x::l=>x.zm/\i6 l
end
end Go.Eng
namespace Go.Eng
open Go.RowKit
def TI(t:Tm):Bool:=decide (16<=t.op)&&decide (t.op<=19)
def L5(t:Tm):Tm:=⟨t.op,t.many,t.name,[],0,B2⟩
def TJ(n:Nd):Nd:= { n with name:=[]}
def wY(n:Nd):Bool:=
 if n.kind=0\/n.kind=1\/n.kind=2 then decide (TJ n=⟨n.kind,0,[],[],false,0⟩)
 else if n.kind=3 then KC (TJ n)
 else if n.kind=4 then F2 n.s&&decide (TJ n=⟨n.kind,0,[],n.s,false,0⟩)
 else if n.kind=5\/n.kind=6 then decide (0<=n.many)&&decide (TJ n=⟨n.kind,n.many,[],[],false,0⟩)
 else false
def wZ(c:Nd):Bool:=decide (c.kind<5)&&(decide (c.name=[])&&decide (c.many=0)&&wY c)
def i7(t:Tm):Bool:=
 if t.op=0\/t.op=10\/t.op=11\/t.op=14 then decide (t=L5 t)&&decide (t.many=0)
 else if t.op=1 then decide (t= { L5 t with s:=t.s})&&decide (t.many=0)&&F2 t.s
 else if t.op=2\/t.op=3 then decide (t= { L5 t with n:=t.n})&&decide (t.many=0)&&decide (0<=t.n)&&decide (t.n<=1000000)
 else if t.op=4\/t.op=17\/t.op=18 then decide (t=L5 t)&&decide (t.many=2)
 else if t.op=5\/t.op=6\/t.op=7\/t.op=19 then decide (t=L5 t)&&decide (t.many=1)
 else if t.op=8\/t.op=9 then decide (t=L5 t)&&decide (0<=t.many)
 else if t.op=12\/t.op=13\/t.op=15 then decide (t= { L5 t with s:=t.s})&&decide (t.many=0)&&hP t.s
 else if t.op=16 then decide (t= { L5 t with s:=t.s,n:=t.n,c:=t.c})&&decide (t.many=0)&&hP t.s&&decide (0<=t.n)&&decide (t.n<=5)&&wZ t.c
 else false
def x6(t:Tm)(dn:List Tf)(x:Tf):Bool:=
 if(TI x.t != (TI t||t.op==7))||(t.op==4&&dn.isEmpty&&x.t.op==4)then false
 else if(t.op≠8/\x.t.name≠[])\/(t.op=8/\(F2 x.t.name=false\/x.t.name∈dn.map (·.t.name)))then false
 else true
def iA(t:Tm):List Tf->List Tf->Bool
 |_,[]=>true
 |dn,x::r=>x6 t dn x&&iA t (dn++[x]) r
mutual
def Tf.Y2:Tf->Bool
 | .mk t ps=>i7 { t with many:=len ps}&&iA t [] ps&&iB ps
def iB:List Tf->Bool
 |[]=>true
 |x::l=>x.Y2&&iB l
end
structure Tf.Y1 (x:Tf):Prop where
 zm:x.zm
 ok:x.Y2=true
structure AA8 (t:Tm) (dn:List Tf) (x:Tf):Prop where
 c:TI x.t=(TI t||t.op==7)
 p:t.op=4->dn=[]->x.t.op≠4
 n:t.op≠8->x.t.name=[]
 u:t.op=8->F2 x.t.name=true
 d:t.op=8->x.t.name ∉ dn.map (·.t.name)
theorem Tf.Y1.plain {x:Tf}(h:x.Y1):i7 x.node=true:=by
 obtain⟨t,ps⟩:=x
 have h2:=h.ok
 rw[Tf.Y2,Bool.and_eq_true,Bool.and_eq_true]at h2
 exact h2.1.1
end Go.Eng
set_option maxRecDepth 100000
namespace Go.Proofs.YtmjpjbmeamnfpaaGreatDoor
open Go.Eng
abbrev K6(c:Nd):XV:=.ag [I c.kind,I c.many,.v (str c.name),.v (str c.s),.v (.bool c.neg),I c.e]
end Go.Proofs.YtmjpjbmeamnfpaaGreatDoor
set_option maxRecDepth 100000
namespace Go.Eng
def Q9(n:Nd):Bool:=
 if n.kind≠3\/n.many≠0\/n.name≠[]\/100<len n.s\/n.e< -1000\/1000<n.e\/1000<len n.s+n.e\/H0 n.s=false then false
 else if n.s=[]then !n.neg&&decide (n.e=0)else Lib.trimB n.s 48==n.s
def L6(n:Nd):Bool:=
 if n.kind=0\/n.kind=1\/n.kind=2 then decide ((⟨n.kind,n.many,[],n.s,n.neg,n.e⟩:Nd)=⟨n.kind,0,[],[],false,0⟩)
 else if n.kind=3 then Q9 ⟨n.kind,n.many,[],n.s,n.neg,n.e⟩
 else if n.kind=4 then Lib.validD n.s&&decide ((⟨n.kind,n.many,[],n.s,n.neg,n.e⟩:Nd)=⟨n.kind,0,[],n.s,false,0⟩)
 else if n.kind=5\/n.kind=6 then decide (0<=n.many)&&decide ((⟨n.kind,n.many,[],n.s,n.neg,n.e⟩:Nd)=⟨n.kind,n.many,[],[],false,0⟩)
 else false
def K7(n:Nd):Bool:=L6 n&&decide (n.name=[])&&decide (n.many<=0)
def Y3(n:Int)(c:Nd):Bool:=decide (0<=n)&&decide (n<=5)&&(decide (c.kind<5)&&K7 c)
structure BS where
 kind:Int
 left:Int
 first:Bool
 last:A1
deriving Inhabited
def BS.cells (x:BS):List Value:=[i64 x.kind,i64 x.left,.bool x.first,str x.last]
theorem BS.C1 (x:BS):x.cells.length=4:=rfl
theorem BS.cells_one (x:BS): ∀u∈x.cells,u.oneCell'=true:=by intro u hu;simp[BS.cells]at hu;rcases hu with rfl|rfl|rfl|rfl<;>rfl
end Go.Eng
namespace Go.Proofs.YtmjpjbmeamnfpaaGreatDoor
open Go.Eng
theorem iC(s:A1)(w:World)(hg:Gl w)(hb:len s<=9223372036854775807):Calls Tryz.prog 257 [str s].toArray w λ e w'=>e= .returned (.bool (Lib.validD s))/\Ext w w':=
 Tryz.utf8_ValidString ⟨⟨s⟩⟩ w (by unfold len at hb;show s.length<=_;omega) hg.u8
theorem x7(s:A1)(w:World)(hb:len s<=9223372036854775807):Calls Tryz.prog 323 [str s,str [48]].toArray w λ e w'=>e= .returned (str (Lib.trimB s 48))/\Ext w w':=
 (Tryz.strings_Trim_one ⟨⟨s⟩⟩ 48 (by decide) w (by unfold len at hb;show s.length<=_;omega)).mono λ e w' ⟨he,hw⟩=>⟨he,by rcases hw with rfl|rfl;exact Ext.refl _;exact Ext.drew _⟩
theorem x8(c:Nd)(w:World)(hg:Gl w)(hb:len c.s<=1099511627776):
   Calls Tryz.prog 321 [LB c].toArray w λ e w'=>e= .returned (.bool (Q9 c))/\Ext w w':=by
 have hl0:=AA c.s
 refine AX AT Tryz.func321 U Tryz.ntmps321 [] [] [K6 c] U (FZ w) A7 (λ B hB=>?_) U
 refine F7 1 U (A0 U) (by omega) U U (A0 U) λ b1=>?_
 refine BG U (A0 U) (by omega) Tryz.call160 U U (A0 U) (λ _ w M hX=>Q8 (dO (len c.s) c.e w (by omega))) U ?_
 refine BG U (A0 U) (by omega) Tryz.call158 U U (A0 U) (λ _ w M hX=>dN c.s w (hg.low hX.st.low) (by omega)) U ?_
 refine A8 U (A0 U) (by omega) (λ hb1=>?_) (λ hb1=>?_)
 ·exact AE hB U U (A0 U) (by omega) U (A0 U) λ w M hX=>⟨by unfold Q9;rw[if_pos (by simpa[or_assoc]using hb1)];rfl,hX.st.low⟩
 have hno: ¬(c.kind≠3\/c.many≠0\/c.name≠[]\/100<len c.s\/c.e< -1000\/1000<c.e\/1000<len c.s+c.e\/H0 c.s=false):=by
  intro h;have:=hb1;rw[<-Bool.not_eq_true]at this;exact this (by simpa[or_assoc]using h)
 refine A8 U (A0 U) (by omega) (λ hb2=>?_) (λ hb2=>?_)<;>simp only[zb]at hb2
 ·exact AE hB U U (A0 U) (by omega) U (A0 U) λ w M hX=>⟨by unfold Q9;rw[if_neg hno,if_pos hb2];rfl,hX.st.low⟩
 refine KL U (A0 U) (by omega) EU (by decide+kernel) ?_
 refine KN U (A0 U) (by omega) Tryz.call323 U U (A0 U) (λ _ w M hX=>x7 c.s w (by omega)) U ?_
 refine KM U (A0 U) (by omega) ?_
 exact AE hB U U (A0 U) (by omega) U (A0 U) λ w M hX=>⟨by unfold Q9;rw[if_neg hno,if_neg hb2];rfl,hX.st.low⟩
theorem x9(c:Nd)(w:World)(hg:Gl w)(hb:len c.s<=1099511627776):
    Calls Tryz.prog 316 [LB c].toArray w λ e w'=>e= .returned (.bool (L6 c))/\Ext w w':=by
 refine AX AT Tryz.func316 U Tryz.ntmps316 [] [] [K6 c] U (FZ w) A7 (λ B hB=>?_) U
 refine F7 1 U (A0 U) (by omega) U U (A0 U) λ bb=>?_
 refine HL 0 (λ s=> ∃b:Bool,(b=true↔(c.kind=0\/c.kind=1\/c.kind=2))/\s=⟨[],[(1,.box bb [I c.kind,I c.many,.v (str []),.v (str c.s),.v (.bool c.neg),I c.e] 46)],[Z 1 (.bx 1 bb 0),Z 5 (I c.kind),Z 6 (.v (.bool b))]⟩) U (A0 U) (by omega) U (λ h1=>?_) (λ h1=>?_) ?_
 ·exact BB _ U (A0 U) (by omega) U ⟨_,by simp only[zb]at h1 ⊢;omega,rfl⟩
 ·refine A8 U (A0 U) (by omega) (λ h2=>?_) (λ h2=>?_)
  ·exact BB _ U (A0 U) (by omega) U ⟨_,by simp only[zb]at h2 ⊢;omega,rfl⟩
  ·exact BB _ U (A0 U) (by omega) U ⟨_,by simp only[zb]at h1 h2 ⊢;omega,rfl⟩
 rintro _ ⟨b,hbk,rfl⟩
 refine A8 U (A0 U) (by omega) (λ h3=>?_) (λ h3=>?_)
 ·refine CZ (.v (.bool (decide ((⟨c.kind,c.many,[],c.s,c.neg,c.e⟩:Nd)=⟨c.kind,0,[],[],false,0⟩)))) U (A0 U) (by omega) U (λ w M hX=>PV.bin (AI (v:=K6 ⟨c.kind,c.many,[],c.s,c.neg,c.e⟩) U (A0 U)) (AI (v:=K6 ⟨c.kind,0,[],[],false,0⟩) U (A0 U)) (λ _ w _=>U8 _ _ _ _ w)) ?_
  refine AE hB U U (A0 U) (by omega) U (A0 U) λ w M hX=>⟨?_,hX.st.low⟩
  unfold L6;rw[if_pos (hbk.1 h3)];rfl
 have hk:=λ e=>(by rw[h3]at hbk;simp at hbk;omega: ¬(c.kind=0\/c.kind=1\/c.kind=2)) e
 refine A8 U (A0 U) (by omega) (λ h4=>?_) (λ h4=>?_)<;>simp only[zb]at h4
 ·refine BG U (A0 U) (by omega) Tryz.call321 U U (A0 U) (λ _ w M hX=>x8 ⟨c.kind,c.many,[],c.s,c.neg,c.e⟩ w (hg.low hX.st.low) hb) U ?_
  refine AE hB U U (A0 U) (by omega) U (A0 U) λ w M hX=>⟨?_,hX.st.low⟩
  unfold L6;rw[if_neg hk,if_pos h4];rfl
 refine A8 U (A0 U) (by omega) (λ h5=>?_) (λ h5=>?_)<;>simp only[zb]at h5
 ·refine BG U (A0 U) (by omega) Tryz.call257 U U (A0 U) (λ _ w M hX=>iC c.s w (hg.low hX.st.low) (by omega)) U ?_
  refine CZ (.v (.bool (decide ((⟨c.kind,c.many,[],c.s,c.neg,c.e⟩:Nd)=⟨c.kind,0,[],c.s,false,0⟩)))) U (A0 U) (by omega) U (λ w M hX=>PV.bin (AI (v:=K6 ⟨c.kind,c.many,[],c.s,c.neg,c.e⟩) U (A0 U)) (AI (v:=K6 ⟨c.kind,0,[],c.s,false,0⟩) U (A0 U)) (λ _ w _=>U8 _ _ _ _ w)) ?_
  refine AE hB U U (A0 U) (by omega) U (A0 U) λ w M hX=>⟨?_,hX.st.low⟩
  unfold L6;rw[if_neg hk,if_neg h4,if_pos h5];rfl
 refine HL 0 (λ s=> ∃b:Bool,(b=true↔(c.kind=5\/c.kind=6))/\s=⟨[],[(1,.box bb [I c.kind,I c.many,.v (str []),.v (str c.s),.v (.bool c.neg),I c.e] 46)],[Z 1 (.bx 1 bb 0),Z 33 (.v (.bool b))]⟩) U (A0 U) (by omega) U (λ h1=>?_) (λ h1=>?_) ?_
 ·exact BB _ U (A0 U) (by omega) U ⟨_,by simp only[zb]at h1 ⊢;omega,rfl⟩
 ·exact BB _ U (A0 U) (by omega) U ⟨_,by simp only[zb]at h1 ⊢;omega,rfl⟩
 rintro _ ⟨b2,hbk2,rfl⟩
 refine A8 U (A0 U) (by omega) (λ h6=>?_) (λ h6=>?_)
 ·refine CZ (.v (.bool (decide ((⟨c.kind,c.many,[],c.s,c.neg,c.e⟩:Nd)=⟨c.kind,c.many,[],[],false,0⟩)))) U (A0 U) (by omega) U (λ w M hX=>PV.bin (AI (v:=K6 ⟨c.kind,c.many,[],c.s,c.neg,c.e⟩) U (A0 U)) (AI (v:=K6 ⟨c.kind,c.many,[],[],false,0⟩) U (A0 U)) (λ _ w _=>U8 _ _ _ _ w)) ?_
  refine AE hB U U (A0 U) (by omega) U (A0 U) λ w M hX=>⟨?_,hX.st.low⟩
  unfold L6;rw[if_neg hk,if_neg h4,if_neg h5,if_pos (hbk2.1 h6)];rfl
 ·have hk2: ¬(c.kind=5\/c.kind=6):=λ e=>by have:=hbk2.2 e;rw[h6]at this;cases this
  refine AE hB U U (A0 U) (by omega) U (A0 U) λ w M hX=>⟨?_,hX.st.low⟩
  unfold L6;rw[if_neg hk,if_neg h4,if_neg h5,if_neg hk2];rfl
theorem xA(x:BS)(w:World):Calls Tryz.prog 318 [.agg x.cells.toArray].toArray w λ e w'=>e= .returned (.bool (decide (0<x.left)))/\Ext w w':=by
 refine AX AT Tryz.func318 U Tryz.ntmps318 [] [] [.ag [I x.kind,I x.left,.v (.bool x.first),.v (str x.last)]] U (FZ w) A7 (λ B hB=>?_) U
 refine F7 1 U (A0 U) (by omega) U U (A0 U) λ bb=>?_
 exact AE hB U U (A0 U) (by omega) U (A0 U) λ w M hX=>⟨rfl,hX.st.low⟩
theorem xB(v:Value)(l:List BS)(w:World)(M:Mem)(hM:Sat w M)(hl:Sl M 4 l.length v (l.flatMap BS.cells))(hb:len l<=1099511627776):
    Calls Tryz.prog 322 [v,.func (.func 318) #[] #[]].toArray w λ e w'=>(∃k:Int,e= .returned (i64 k)/\(0<=k↔l.any (λ x=>decide (0<x.left))=true))/\Ext w w':=by
 have hl0:=AA l
 refine AX (Hr:=[]) AT Tryz.func322 U Tryz.ntmps322 [(0,kn v 4 l BS.cells)] [] [.sl 0 v,.v (.func (.func 318) #[] #[])] U (St.start hM) (fc 0 hl BS.C1 A7) (λ B hB=>?_) U
 refine E4 (σ:=Int) (λ k=>⟨[(0,kn v 4 l BS.cells)],[],[Z 0 (.sl 0 v),Z 1 (.v (.func (.func 318) #[] #[])),Z 7 (I (len l)),Z 8 (I k)]⟩) (λ k=>0<=k/\k<=len l/\ ∀x∈Eng.sub l 0 k,¬0<x.left) (λ k=>(len l-k).toNat) 0 rfl (A0 rfl) (by omega) rfl ⟨by omega,by omega,λ x hx=>by cases hx⟩ ?_
 intro k ⟨h0,h1,hno⟩
 refine A8 U (A0 U) (by omega) (λ hb1=>?_) (λ hb1=>?_)<;>simp only[zb]at hb1
 ·refine B6 [] (λ _:Unit=>.v (.bool (decide (0<(at' l k).left)))) [] (λ _=>[]) (Fg:=λ _=>[]) (pu:=λ _=>True) U (A0 U) (by omega) U Tryz.call318 U U (A0 U) U (λ w M hS hF=>(xA (at' l k) w).mono λ e w' ⟨he,hx⟩=>⟨(),M,he,trivial,Mem.le.refl _,hS.ext hx,A7⟩) (λ _=>rfl) (λ _=>rfl) λ _ _=>?_
  refine A8 U (A0 U) (by omega) (λ hb2=>?_) (λ hb2=>?_)<;>simp only[zb]at hb2
  ·exact AE hB U U (A0 U) (by omega) U (A0 U) λ w M hX=>⟨⟨k,rfl,λ _=>List.any_eq_true.2 ⟨at' l k,at_mem h0 hb1,by simpa using hb2⟩,λ _=>h0⟩,hX.st.low⟩
  ·exact DJ (k+1) U (A0 U) (by omega) U ⟨by omega,by omega,λ x hx=>by
    rw[PJ h0 hb1]at hx
    rcases List.mem_append.1 hx with hx|hx
    ·exact hno x hx
    ·rw[List.mem_singleton.1 hx];omega⟩ (by omega)
 ·rw[M5 (by omega)]at hno
  exact AE hB U U (A0 U) (by omega) U (A0 U) λ w M hX=>⟨⟨-1,rfl,λ h=>by omega,λ h=>by
   obtain⟨x,hx,h2⟩:=List.any_eq_true.1 h
   exact absurd (by simpa using h2) (hno x hx)⟩,hX.st.low⟩
end Go.Proofs.YtmjpjbmeamnfpaaGreatDoor
set_option maxRecDepth 100000
namespace Go.Eng
theorem iD: ∀(f:Nat) (s:A1) (p:List Sp) (i:Int),len (HZ f s p i).1<=len p+f
 |0,s,p,i=>by show len p<=_;omega
 |f+1,s,p,i=>by
  unfold HZ
  split
  ·split
   ·show len p<=_;omega
   ·have:=iD f s (p++[(EC s i).1]) (i+(EC s i).2)
    rw[AJ,AL,len_nil]at this
    push_cast;omega
  ·show len p<=_;omega
theorem iE(s:A1):len (GW s).1<=20:=by
 unfold GW
 split
 ·show(0:Int)<=_;omega
 ·split
  ·show(0:Int)<=_;omega
  ·have:=iD 20 s [] 0
   rw[len_nil]at this
   show len (HZ 20 s [] 0).1<=20;omega
end Go.Eng
namespace Go.Proofs.YtmjpjbmeamnfpaaGreatDoor
open Go.Eng
theorem xC(x:Sp)(w:World):Calls Tryz.prog 288 [.agg x.cells.toArray].toArray w λ e w'=>e= .returned (.bool x.part)/\Ext w w':=by
 refine AX AT Tryz.func288 U Tryz.ntmps288 [] [] [.ag [.v (.bool x.part),.v (str x.name),I x.n]] U (FZ w) A7 (λ B hB=>?_) U
 refine F7 1 U (A0 U) (by omega) U U (A0 U) λ bb=>?_
 exact AE hB U U (A0 U) (by omega) U (A0 U) λ w M hX=>⟨rfl,hX.st.low⟩
theorem xD(v:Value)(l:List Sp)(w:World)(M:Mem)(hM:Sat w M)(hl:Sl M 3 l.length v (l.flatMap Sp.cells))(hb:len l<=1099511627776):
    Calls Tryz.prog 304 [v,.func (.func 288) #[] #[]].toArray w λ e w'=>(∃k:Int,e= .returned (i64 k)/\(0<=k↔l.any (λ x=>x.part)=true))/\Ext w w':=by
 have hl0:=AA l
 refine AX (Hr:=[]) AT Tryz.func304 U Tryz.ntmps304 [(0,kn v 3 l Sp.cells)] [] [.sl 0 v,.v (.func (.func 288) #[] #[])] U (St.start hM) (fc 0 hl Sp.C1 A7) (λ B hB=>?_) U
 refine E4 (σ:=Int) (λ k=>⟨[(0,kn v 3 l Sp.cells)],[],[Z 0 (.sl 0 v),Z 1 (.v (.func (.func 288) #[] #[])),Z 7 (I (len l)),Z 8 (I k)]⟩) (λ k=>0<=k/\k<=len l/\ ∀x∈Eng.sub l 0 k,x.part≠true) (λ k=>(len l-k).toNat) 0 rfl (A0 rfl) (by omega) rfl ⟨by omega,by omega,λ x hx=>by cases hx⟩ ?_
 intro k ⟨h0,h1,hno⟩
 refine A8 U (A0 U) (by omega) (λ hb1=>?_) (λ hb1=>?_)<;>simp only[zb]at hb1
 ·refine B6 [] (λ _:Unit=>.v (.bool (at' l k).part)) [] (λ _=>[]) (Fg:=λ _=>[]) (pu:=λ _=>True) U (A0 U) (by omega) U Tryz.call288 U U (A0 U) U (λ w M hS hF=>(xC (at' l k) w).mono λ e w' ⟨he,hx⟩=>⟨(),M,he,trivial,Mem.le.refl _,hS.ext hx,A7⟩) (λ _=>rfl) (λ _=>rfl) λ _ _=>?_
  refine A8 U (A0 U) (by omega) (λ hb2=>?_) (λ hb2=>?_)
  ·exact AE hB U U (A0 U) (by omega) U (A0 U) λ w M hX=>⟨⟨k,rfl,λ _=>List.any_eq_true.2 ⟨at' l k,at_mem h0 hb1,hb2⟩,λ _=>h0⟩,hX.st.low⟩
  ·exact DJ (k+1) U (A0 U) (by omega) U ⟨by omega,by omega,λ x hx=>by
    rw[PJ h0 hb1]at hx
    rcases List.mem_append.1 hx with hx|hx
    ·exact hno x hx
    ·rw[List.mem_singleton.1 hx,hb2];decide⟩ (by omega)
 ·rw[M5 (by omega)]at hno
  exact AE hB U U (A0 U) (by omega) U (A0 U) λ w M hX=>⟨⟨-1,rfl,λ h=>by omega,λ h=>by
   obtain⟨x,hx,h2⟩:=List.any_eq_true.1 h
   exact absurd h2 (hno x hx)⟩,hX.st.low⟩
theorem xE(v:Value)(l:List Sp)(w:World)(M:Mem)(hM:Sat w M)(hl:Sl M 3 l.length v (l.flatMap Sp.cells))(hb:len l<=1099511627776):
  Calls Tryz.prog 287 [v,.func (.func 288) #[] #[]].toArray w λ e w'=>e= .returned (.bool (l.any λ x=>x.part))/\Ext w w':=by
 refine AX (Hr:=[]) AT Tryz.func287 U Tryz.ntmps287 [(0,kn v 3 l Sp.cells)] [] [.sl 0 v,.v (.func (.func 288) #[] #[])] U (St.start hM) (fc 0 hl Sp.C1 A7) (λ B hB=>?_) U
 refine B6 [] (λ k:Int=>I k) [] (λ _=>[]) (Fg:=λ _=>[]) (pu:=λ k=>0<=k↔l.any (λ x=>x.part)=true) U (A0 U) (by omega) U Tryz.call304 U U (A0 U) U (λ w M hS hF=>(xD v l w M hS.sat (hF.get (k:=0) U).sl hb).mono λ e w' ⟨⟨k,he,hk⟩,hx⟩=>⟨k,M,he,hk,Mem.le.refl _,hS.ext hx,A7⟩) (λ _=>rfl) (λ _=>rfl) λ k hk=>?_
 refine AE hB U U (A0 U) (by omega) U (A0 U) λ w M hX=>⟨?_,hX.st.low⟩
 suffices h:decide (0<=k)=l.any (λ x=>x.part) by rw[<-h];rfl
 cases h:l.any (λ x=>x.part)with
 |true=>simpa using hk.2 h
 |false=>rw[h]at hk;simpa using hk
theorem iF{w0 wv:World}{M0 M:Mem}{Rs:List HO}(s:A1)(hS:St w0 M0 wv M Rs)(hg:Gl w0)(hb:len s<=200000000000):
  Calls Tryz.prog 258 [str s].toArray wv (CM w0 M0 M Rs (λ u:Value=>.tuple #[u,.bool (HC s).2]) (λ _=>True) (λ u=>[(1,kn u 3 (HC s).1 Sp.cells)]) λ _=>[]):=by
 refine AX (Hr:=Rs) AT Tryz.func258 U Tryz.ntmps258 [] [] [.v (str s)] U hS A7 (λ B hB=>?_) U
 refine B6 [] (λ u:Value=>.tu [.sl 1 u,I (GW s).2.1,I (GW s).2.2]) [1] (λ _=>[]) (Fg:=λ u=>[(1,kn u 3 (GW s).1 Sp.cells)]) U (A0 U) (by omega) U Tryz.call286 U U (A0 U) U (λ w M hS hF=>wQ s hS hg hb) (λ _=>rfl) (λ _=>rfl) λ u _=>?_
 refine BG U (A0 U) (by omega) Tryz.call287 U U (A0 U) (λ _ w M hX=>xE u (GW s).1 w M hX.st.sat (hX.sl 1 U) (by have:=iE s;omega)) U ?_
 refine AE hB U U (A0 U) (by omega) U (A0 U) λ w M' hX=>⟨u,M',rfl,trivial,hX.le,hX.BX [] U,BW (hX.f.get (k:=1) U) A7⟩
theorem xF(v:Value)(l:List BS)(w:World)(M:Mem)(hM:Sat w M)(hl:Sl M 4 l.length v (l.flatMap BS.cells))(hb:len l<=1099511627776):
  Calls Tryz.prog 317 [v,.func (.func 318) #[] #[]].toArray w λ e w'=>e= .returned (.bool (l.any λ x=>decide (0<x.left)))/\Ext w w':=by
 refine AX (Hr:=[]) AT Tryz.func317 U Tryz.ntmps317 [(0,kn v 4 l BS.cells)] [] [.sl 0 v,.v (.func (.func 318) #[] #[])] U (St.start hM) (fc 0 hl BS.C1 A7) (λ B hB=>?_) U
 refine B6 [] (λ k:Int=>I k) [] (λ _=>[]) (Fg:=λ _=>[]) (pu:=λ k=>0<=k↔l.any (λ x=>decide (0<x.left))=true) U (A0 U) (by omega) U Tryz.call322 U U (A0 U) U (λ w M hS hF=>(xB v l w M hS.sat (hF.get (k:=0) U).sl hb).mono λ e w' ⟨⟨k,he,hk⟩,hx⟩=>⟨k,M,he,hk,Mem.le.refl _,hS.ext hx,A7⟩) (λ _=>rfl) (λ _=>rfl) λ k hk=>?_
 refine AE hB U U (A0 U) (by omega) U (A0 U) λ w M hX=>⟨?_,hX.st.low⟩
 suffices h:decide (0<=k)=l.any (λ x=>decide (0<x.left)) by rw[<-h];rfl
 cases h:l.any (λ x=>decide (0<x.left))with
 |true=>simpa using hk.2 h
 |false=>rw[h]at hk;simpa using hk
abbrev iG(u:Value)(l:List BS):HX:=.pv 333 (kn u 4 l BS.cells) BS.C1
theorem xG(v:Value)(c:Nd)(w:World)(M:Mem)(hM:Sat w M)(hg:Gl w)(hl:(kn v 6 [c] Nd.cells).ok M)(hb:len c.s<=1048576):
    Calls Tryz.prog 311 [v].toArray w λ e w'=>e= .returned (.bool (K7 c))/\Ext w w':=by
 refine AX (Hr:=[]) AT Tryz.func311 U Tryz.ntmps311 [(0,kn v 6 [c] Nd.cells)] [] [.sl 0 v] U (St.start hM) (BW hl A7) (λ B hB=>?_) U
 have hl1:len [c]=1:=rfl
 have hl2:len [(⟨5,1,false,[]⟩:BS)]=1:=rfl
 refine NA 3 [(⟨5,1,false,[]⟩:BS)] BS.cells 4 333 BS.C1 U (A0 U) (by omega) U (A0 U) (λ w=>by kernel_rfl) U λ u=>?_
 refine E4 (σ:=Int×Value×List BS) (λ(k,u,l)=>⟨[(0,kn v 6 [c] Nd.cells)],[(3,iG u l)],[Z 0 (.sl 0 v),Z 3 (.sl 3 u),Z 10 (.sl 0 v),Z 11 (I 1),Z 12 (I k)]⟩) (λ(k,u,l)=>(k=0/\l=[⟨5,1,false,[]⟩])\/(k=1/\l=[⟨5,0,false,[]⟩,⟨c.kind,c.many,true,[]⟩]/\L6 c=true/\c.name=[])) (λ(k,u,l)=>(1-k).toNat) (0,u,[⟨5,1,false,[]⟩]) U (A0 U) (by omega) U (.inl ⟨rfl,rfl⟩) ?_
 rintro⟨k,u,l⟩ (⟨rfl,rfl⟩|⟨rfl,rfl,hpl,hnm⟩)
 ·refine A8 U (A0 U) (by omega) (λ hb1=>?_) (λ hb1=>?_)
  ·refine CI 5 U (A0 U) (by omega) Tryz.zeroValue46 U λ b5=>?_
   refine E4 (σ:=Unit) (λ _=>⟨[(0,kn v 6 [c] Nd.cells)],[(5,.box b5 [I c.kind,I c.many,.v (str c.name),.v (str c.s),.v (.bool c.neg),I c.e] 46),(3,iG u [⟨5,1,false,[]⟩])],[Z 0 (.sl 0 v),Z 3 (.sl 3 u),Z 10 (.sl 0 v),Z 11 (I 1),Z 12 (I 0),Z 5 (.bx 5 b5 0)]⟩) (λ _=>True) (λ _=>0) () U (A0 U) (by omega) U trivial ?_
   intro _ _
   refine A8 U (A0 U) (by omega) (λ hb2=>?_) (λ hb2=>?_)
   ·cases hb2
   refine BG U (A0 U) (by omega) Tryz.call316 U U (A0 U) (λ _ w M hX=>x9 c w (hg.low hX.st.low) (by omega)) U ?_
   refine A8 U (A0 U) (by omega) (λ hb3=>?_) (λ hb3=>?_)<;>simp only[zb]at hb3
   ·refine AE hB U U (A0 U) (by omega) U (A0 U) λ w M hX=>⟨?_,hX.st.low⟩
    have e:K7 c=false:=by
     unfold K7
     rcases hb3 with(h|h)|h
     ·cases h
     ·rw[h];rfl
     ·rw[show decide (c.many<=0)=false by simp;omega,Bool.and_false]
    rw[e];rfl
   have hpl:=hb3.1.2
   have hm1:=hb3.2
   refine A8 U (A0 U) (by omega) (λ hb4=>?_) (λ hb4=>?_)<;>simp only[zb]at hb4
   ·refine AE hB U U (A0 U) (by omega) U (A0 U) λ w M hX=>⟨?_,hX.st.low⟩
    have e:K7 c=false:=by unfold K7;rw[show decide (c.name=[])=false by simpa using hb4.2,Bool.and_false,Bool.false_and]
    rw[e];rfl
   have hnm:c.name=[]:=hb4.resolve_left (by show ¬(5:Int)=6;decide)
   refine KL U (A0 U) (by omega) EU (by decide+kernel) ?_
   refine KN U (A0 U) (by omega) Tryz.call257 U U (A0 U) (λ hW w M hX=>(absurd hW (by decide):Calls Tryz.prog 257 [str c.name].toArray w λ e w'=>e= .returned (.bool true)/\Ext w w')) U ?_
   refine KM U (A0 U) (by omega) ?_
   refine A8 U (A0 U) (by omega) (λ hb5=>?_) (λ hb5=>?_)
   ·cases hb5
   have hl3:(at' [(⟨5,1,false,[]⟩:BS)] (len [(⟨5,1,false,[]⟩:BS)]-1)).left=1:=rfl
   refine OZ (⟨5,0,false,[]⟩:BS) U (A0 U) (by omega) U (A0 U) U Tryz.sizeOf3 U U U (by omega) λ x5 hx5=>?_
   replace hx5:x5=[⟨5,0,false,[]⟩]:=hx5
   subst hx5
   have hl4:len [(⟨5,0,false,[]⟩:BS)]=1:=rfl
   refine KY [6,9] 3 (λ _ _ _ _ _ h=>h) U (A0 U) (by omega) EU (by decide+kernel) ?_
   refine CO 6 U (A0 U) (by omega) U U ?_
   refine OZ (⟨5,0,false,[]⟩:BS) U (A0 U) (by omega) U (A0 U) U Tryz.sizeOf4 U U U (by omega) λ x5 hx5=>?_
   replace hx5:x5=[⟨5,0,false,[]⟩]:=hx5
   subst hx5
   refine C6 U (A0 U) (by omega) ?_
   refine CO 9 U (A0 U) (by omega) U U ?_
   refine OZ (⟨5,0,false,c.name⟩:BS) U (A0 U) (by omega) U (A0 U) U Tryz.sizeOf9 U U U (by omega) λ x5 hx5=>?_
   replace hx5:x5=[⟨5,0,false,c.name⟩]:=hx5
   subst hx5
   rw[hnm]
   refine C6 U (A0 U) (by omega) ?_
   refine HQ U (A0 U) (by omega) U U ?_
   refine E9 6 [(⟨c.kind,c.many,true,[]⟩:BS)] BS.cells 4 333 BS.C1 U (A0 U) (by omega) U (A0 U) (λ w=>by kernel_rfl) U λ v6=>?_
   refine KH 40 U (A0 U) (by omega) U (A0 U) U Tryz.underlying334 Tryz.type333 U U BS.cells_one (by simp only[AL,len_nil];omega) λ v'=>?_
   exact DJ (1,v',[⟨5,0,false,[]⟩,⟨c.kind,c.many,true,[]⟩]) U (A0 U) (by omega) U (.inr ⟨rfl,rfl,hpl,rfl⟩) (by show Int.toNat _<Int.toNat _;omega)
  ·cases hb1
 ·refine A8 U (A0 U) (by omega) (λ hb1=>?_) (λ hb1=>?_)
  ·cases hb1
  ·have hl5:len [(⟨5,0,false,[]⟩:BS),⟨c.kind,c.many,true,[]⟩]=2:=rfl
   refine HK 3 U ?_
   refine BG U (A0 U) (by omega) Tryz.call317 U U (A0 U) (λ _ w M hX=>xF u [⟨5,0,false,[]⟩,⟨c.kind,c.many,true,[]⟩] w M hX.st.sat (hX.sl 3 U) (by omega)) U ?_
   refine AE hB U U (A0 U) (by omega) U (A0 U) λ w M hX=>⟨?_,hX.st.low⟩
   have e:K7 c=(decide (0<len [c])&& !([(⟨5,0,false,[]⟩:BS),⟨c.kind,c.many,true,[]⟩].any λ x=>decide (0<x.left))):=by
    unfold K7
    rw[hpl,hnm,hl1]
    simp
    cases h:decide (c.many<=0)<;>simp at h ⊢ <;>omega
   rw[e];rfl
theorem xH(c:Nd)(w:World)(M:Mem)(hM:Sat w M)(hg:Gl w)(hb:len c.s<=1048576):
   Calls Tryz.prog 301 [LB c].toArray w λ e w'=>e= .returned (.bool (decide (c.kind<5)&&K7 c))/\Ext w w':=by
 refine AX (Hr:=[]) AT Tryz.func301 U Tryz.ntmps301 [] [] [K6 c] U (St.start hM) A7 (λ B hB=>?_) U
 refine F7 1 U (A0 U) (by omega) U U (A0 U) λ bb=>?_
 refine KJ (.v (.slice none 0 0)) U (A0 U) (by omega) U (λ hb1=>?_) (λ hb1=>?_)
 ·refine E9 2 [c] Nd.cells 6 46 Nd.C1 U (A0 U) (by omega) U (NG hb1 U) (λ w=>by kernel_rfl) U λ v2=>?_
  refine BG U (A0 U) (by omega) Tryz.call311 U U (A0 U) (λ _ w M hX=>xG v2 c w M hX.st.sat (hg.low hX.st.low) (hX.f.get (k:=2) U) hb) U ?_
  exact AE hB U U (A0 U) (by omega) U (A0 U) λ w M hX=>⟨rfl,hX.st.low⟩
 ·refine KJ (.v (.bool false)) U (A0 U) (by omega) U (λ h=>absurd (hb1.symm.trans h) (by decide)) (λ _=>?_)
  exact AE hB U U (A0 U) (by omega) U (A0 U) λ w M hX=>⟨by rw[hb1];rfl,hX.st.low⟩
theorem xI(n:Int)(c:Nd)(w:World)(M:Mem)(hM:Sat w M)(hg:Gl w)(hb:len c.s<=1048576):
  Calls Tryz.prog 284 [.agg (i64 n::c.cells).toArray].toArray w λ e w'=>e= .returned (.bool (Y3 n c))/\Ext w w':=by
 refine AX (Hr:=[]) AT Tryz.func284 U Tryz.ntmps284 [] [] [.ag [I n,I c.kind,I c.many,.v (str c.name),.v (str c.s),.v (.bool c.neg),I c.e]] U (St.start hM) A7 (λ B hB=>?_) U
 refine F7 1 U (A0 U) (by omega) U U (A0 U) λ bb=>?_
 refine BG U (A0 U) (by omega) Tryz.call301 U U (A0 U) (λ _ w M hX=>xH c w M hX.st.sat (hg.low hX.st.low) hb) U ?_
 refine AE hB U U (A0 U) (by omega) U (A0 U) λ w M hX=>⟨?_,hX.st.low⟩
 unfold Y3
 rfl
end Go.Proofs.YtmjpjbmeamnfpaaGreatDoor
